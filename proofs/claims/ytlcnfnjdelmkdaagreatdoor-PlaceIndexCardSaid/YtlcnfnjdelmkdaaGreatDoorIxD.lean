import Derived.Test.YtlcnfnjdelmkdaaGreatDoorIxC
namespace Go.Proofs.YtlcnfnjdelmkdaaGreatDoor
open Go Go.Ev
set_option maxHeartbeats 8000000
set_option maxRecDepth 10000
theorem cP_put (c:UInt8):putB (cP c)=uintF 1 c.toNat++uintF 10 (c.toNat % 2):=by simp[cP,putB,Put.bytes]
theorem sq (n:Nd) (c:UInt8):evL cfg n_b7 0 [.d n.d,.d (cS c).d] []=some (.d (.sl ((putB (cP c)).map byteD)),[]):=by
 have hc:=c.toNat_lt;have hp:=a8 n.kind;have u1:=my (b:=[]) (num:=1) (v:=c.toNat) zb y8 y8 y8;have u10:=my (b:=uintF 1 c.toNat) (num:=10) (v:=c.toNat % 2) (aai (nu _ _).2 y8) y8 y8 y8;rw[show((1:Nat):Int)=1 from rfl] at u1
 rw[show((10:Nat):Int)=10 from rfl] at u10
 simp only[List.map_nil,List.nil_append] at u1;rw[o_b7,cP_put];unfold cS Nd.d Sv.d Sv.cs;dsimp only;rcases abf c.toNat with m|m
 · rw[m] at u10 ⊢
   rw[show((0:Nat):Int)=0 from rfl] at u10
   rw[show((0:Nat) !=0)=false from rfl]
   rcases zf (decide (partM n.kind>0)) with z|z<;>
   simp(maxSteps:=2000000) (disch:=first|exact y7|fail) only[go_sem,X_b7,c_b7,hp,u1,u10,z,va0]
 · rw[m] at u10 ⊢
   rw[show((1:Nat):Int)=1 from rfl] at u10
   rw[show((1:Nat) !=0)=true from rfl]
   rcases zf (decide (partM n.kind>0)) with z|z<;>
   simp(maxSteps:=2000000) (disch:=first|exact y7|fail) only[go_sem,X_b7,c_b7,hp,u1,u10,z,va0]
theorem qt (t:Ty) (c:UInt8):evL cfg n_ae 0 [.d t.d,.d (cS c).d] []=some (.own false 1 ((putB (cP c)).map byteD),[]):=by
 have hc:=c.toNat_lt;have f1:=au t.kind;have f2:=ao t.kind;have u1:=qr (num:=1) (v:=c.toNat) y8 y8 y8;have u10:=qq (b:=uintF 1 c.toNat) (num:=10) (v:=c.toNat % 2) (aai (nu _ _).2 y8) y8 y8 y8;rw[show((1:Nat):Int)=1 from rfl] at u1
 rw[show((10:Nat):Int)=10 from rfl] at u10
 rw[o_ae,cP_put];unfold cS Sv.d Sv.cs;dsimp only;rcases abf c.toNat with m|m
 · rw[m] at u10 ⊢
   rw[show((0:Nat):Int)=0 from rfl] at u10
   rw[show((0:Nat) !=0)=false from rfl]
   simp(disch:=first|exact y7|fail) only[go_sem,X_ae,c_ae,f1,f2,u1,u10,va0]
   repeat' ((try rw[goQ_b])<;>split<;>rename_i hh<;>(try simp only[zu,zq,zk,zn] at hh)<;>(try simp(disch:=first|exact y7|fail) only[*,go_sem,f1,f2,u1,u10,va0]))
 · rw[m] at u10 ⊢
   rw[show((1:Nat):Int)=1 from rfl] at u10
   rw[show((1:Nat) !=0)=true from rfl]
   simp(disch:=first|exact y7|fail) only[go_sem,X_ae,c_ae,f1,f2,u1,u10,va0]
   repeat' ((try rw[goQ_b])<;>split<;>rename_i hh<;>(try simp only[zu,zq,zk,zn] at hh)<;>(try simp(disch:=first|exact y7|fail) only[*,go_sem,f1,f2,u1,u10,va0]))
def accV (acc:List UInt8):V:=if acc.isEmpty then .d .nilS else .d (.sl ((acc).map byteD))
theorem yc:accV []= .d .nilS:=rfl
theorem an8 (c:UInt8) (r:List UInt8):accV (c::r)= .d (.sl ((c::r).map byteD)):=rfl
theorem accV_put (b:List UInt8) (c:UInt8):accV (b++(cG c).bytes)= .d (.sl ((b++(cG c).bytes).map byteD)):=by
 have:=(cG c).pos;cases hx:b++(cG c).bytes with
 |nil=>simp at hx;rw[hx.2] at this;simp at this
 |cons y r=>rfl
abbrev pxE (cs:List UInt8) (i:Nat) (b:V):List (Nat×V):=[(2,.ref 0 2 0),(5,b),(8,.d (.sl ((cs.map cS).map Sv.d))),(9,.d (.int .i64 ((cs.length:Int)))),(10,.d (.int .i64 ((i:Int))))]
theorem tn (n:Nd) (cs:List UInt8) (hn:cs.length≤100) (c:UInt8) (i:Nat) (b:List UInt8) (o:Option Sv) (hi:cs[i]? =some c) (hlt:i<cs.length) (hb:b.length≤80*i) (K:List Kf):
  go X_bp (.c (.loop an4):: .b 0::K) ⟨pxE cs i (accV b),boxN 0 2 n++boxO 7 o⟩=
   go X_bp (.c (.loop an4):: .b 0::K) ⟨pxE cs (i+1) (accV (b++(cG c).bytes)),boxN 0 2 n++boxO 7 (some (cS c))⟩:=by
 have q1:=sq n c;have hl:=c_len c;have hg:=g_len c;have q2:=k7 (b:=[]) (v:=putB (cP c)) (num:=2) zb y8 y8 y8;have q3:=k7 (b:=b) (v:=putB [Put.b 2 (putB (cP c))]) (num:=1) y8 y8 y8 y8;rw[show((2:Nat):Int)=2 from rfl] at q2
 rw[show((1:Nat):Int)=1 from rfl] at q3
 have e1:ct 2 (putB (cP c))=putB [Put.b 2 (putB (cP c))]:=by simp[putB,Put.bytes]
 simp only[List.map_nil,List.nil_append,e1] at q2;rw[show ct 1 (putB [Put.b 2 (putB (cP c))])=(cG c).bytes from rfl] at q3
 rw[accV_put];have d_a:decide ((i:Int)<cs.length)=true:=by simp<;>omega
 rw[go_loop];unfold pxE;rw[show(((i+1:Nat)):Int)=(i:Int)+1 by omega]
 unfold Nd.d at q1;unfold cS Sv.d Sv.cs at q1;cases b with
 | nil=>
  simp only[List.map_nil,List.nil_append] at q3;rcases o with _|⟨cnt,null,has,mn,mx,sums,sum⟩<;>
   (simp only[boxO,boxN,boxS,List.append_nil,List.cons_append,List.nil_append,yc]
    simp(maxSteps:=2000000) (disch:=first|exact y7|fail) only[go_sem,X_bp,d_a,ae,zx,zy,hi,Option.map_some,q1,q2,q3,Sv.d,Sv.cs,cS,tk15,ln15])
 | cons y b=>
  rw[an8];generalize y::b=b at *;rcases o with _|⟨cnt,null,has,mn,mx,sums,sum⟩<;>
   (simp only[boxO,boxN,boxS,List.append_nil,List.cons_append,List.nil_append]
    simp(maxSteps:=2000000) (disch:=first|exact y7|fail) only[go_sem,X_bp,d_a,ae,zx,zy,hi,Option.map_some,q1,q2,q3,Sv.d,Sv.cs,cS,tk15,ln15])
theorem mq (n:Nd) (cs:List UInt8) (hn:cs.length≤100):∀ (r:List UInt8) (i:Nat) (b:List UInt8) (o:Option Sv),cs.drop i=r→i≤cs.length→b.length≤80*i→
  go X_bp [.c (.loop an4),.b 0,.c (bi4.seq .ret)] ⟨pxE cs i (accV b),boxN 0 2 n++boxO 7 o⟩=some (accV (b++putB (r.map cG)),[])
 | [],i,b,o,hr,hi,hb=>by
  have:=bd hr;have:i=cs.length:=y8;subst this;have d_a:decide ((cs.length:Int)<cs.length)=false:=by simp<;>omega
  rw[go_loop];unfold pxE;rw[List.map_nil,show putB []=[] from rfl,List.append_nil]
  cases b with
  | nil=>
   rcases o with _|⟨cnt,null,has,mn,mx,sums,sum⟩<;>
    (simp only[boxO,boxN,boxS,List.append_nil,List.cons_append,List.nil_append,yc]
     simp(maxSteps:=2000000) (disch:=first|exact y7|fail) only[go_sem,X_bp,d_a,List.map_nil])
  | cons y b=>
   rw[an8];generalize y::b=b at *;rcases o with _|⟨cnt,null,has,mn,mx,sums,sum⟩<;>
    (simp only[boxO,boxN,boxS,List.append_nil,List.cons_append,List.nil_append]
     simp(maxSteps:=2000000) (disch:=first|exact y7|fail) only[go_sem,X_bp,d_a])
 | c::r,i,b,o,hr,hi,hb=>by
  obtain⟨h1,h2,h3⟩:=cc hr;have:=btk c;rw[tn n cs hn c i b o h2 y8 hb,mq n cs hn r (i+1) _ _ h3 h1 (by rw[aae];omega),List.map_cons,kw,aad]
theorem nx (n:Nd) (cs:List UInt8) (hn:cs.length≤100):evL cfg n_bp 0 [.d n.d,.d (.sl ((cs.map cS).map Sv.d))] []=some (accV (putB (cs.map cG)),[]):=by
 have lp:=mq n cs hn cs 0 [] none rfl (aaj _) (aaj _);rw[List.nil_append] at lp;rw[← lp,o_bp];unfold pxE Nd.d;simp only[boxO,boxN,List.append_nil,yc];simp(maxSteps:=2000000) (disch:=first|exact y7|fail) only[go_sem,X_bp,c_bp,zj]
abbrev prE (cs:List UInt8) (i:Nat) (b:V):List (Nat×V):=[(1,.d (.sl ((cs.map cS).map Sv.d))),(2,.ref 0 2 0),(5,b),(6,.d (.int .i64 ((i:Int))))]
theorem tr (t:Ty) (cs:List UInt8) (hn:cs.length≤100) (c:UInt8) (i:Nat) (b:List UInt8) (hi:cs[i]? =some c) (hlt:i<cs.length) (hb:b.length≤80*i) (K:List Kf):
  go X_a8 (.c (.loop an5):: .b 0::K) ⟨prE cs i (ownZ 1 (b.map byteD)),boxT 2 t⟩=
   go X_a8 (.c (.loop an5):: .b 0::K) ⟨prE cs (i+1) (ownZ 1 ((b++(cG c).bytes).map byteD)),boxT 2 t⟩:=by
 have q1:=qt t c;have hl:=c_len c;have hg:=g_len c;have q2:=jg (v:=putB (cP c)) (num:=2) y8 y8 y8;have q3:=jg (v:=putB [Put.b 2 (putB (cP c))]) (num:=1) y8 y8 y8;have q4:=pm (b:=b) (v:=putB [Put.b 2 (putB (cP c))]) (num:=1) y8 y8 y8 y8;rw[show((2:Nat):Int)=2 from rfl] at q2
 rw[show((1:Nat):Int)=1 from rfl] at q3 q4
 have e1:ct 2 (putB (cP c))=putB [Put.b 2 (putB (cP c))]:=by simp[putB,Put.bytes]
 rw[e1] at q2;rw[show ct 1 (putB [Put.b 2 (putB (cP c))])=(cG c).bytes from rfl] at q3 q4
 have hq:∀ b:List UInt8,ownZ 1 ((b++(cG c).bytes).map byteD)= .own false 1 ((b++(cG c).bytes).map byteD):=fun b=>by
  have:=(cG c).pos;cases hx:b++(cG c).bytes with
  |nil=>simp at hx;rw[hx.2] at this;simp at this
  |cons y r=>rfl
 rw[hq];have d_a:decide ((i:Int)<cs.length)=true:=by simp<;>omega
 rw[go_loop];unfold prE;rw[show(((i+1:Nat)):Int)=(i:Int)+1 by omega]
 unfold cS Sv.d Sv.cs at q1;cases b with
 | nil=>
  simp only[boxT,List.map_nil,ai,List.nil_append];simp(maxSteps:=2000000) (disch:=first|exact y7|fail) only[go_sem,X_a8,d_a,ae,zx,zy,zj,hi,Option.map_some,q1,q2,q3,Sv.d,Sv.cs,cS,tk15,ln15]
 | cons y b=>
  have ho:ownZ 1 ((y::b).map byteD)= .own false 1 ((y::b).map byteD):=rfl;rw[ho];generalize y::b=b at *;simp only[boxT];simp(maxSteps:=2000000) (disch:=first|exact y7|fail) only[go_sem,X_a8,d_a,ae,zx,zy,zj,hi,Option.map_some,q1,q2,q4,Sv.d,Sv.cs,cS,tk15,ln15]
theorem mw (t:Ty) (cs:List UInt8) (hn:cs.length≤100):∀ (r:List UInt8) (i:Nat) (b:List UInt8),cs.drop i=r→i≤cs.length→b.length≤80*i→
  go X_a8 [.c (.loop an5),.b 0,.c (brf.seq .ret)] ⟨prE cs i (ownZ 1 (b.map byteD)),boxT 2 t⟩=some (ownZ 1 ((b++putB (r.map cG)).map byteD),[])
 | [],i,b,hr,hi,hb=>by
  have:=bd hr;have:i=cs.length:=y8;subst this;have d_a:decide ((cs.length:Int)<cs.length)=false:=by simp<;>omega
  rw[go_loop];unfold prE;rw[List.map_nil,show putB []=[] from rfl,List.append_nil]
  cases b with
  | nil=>
   simp only[boxT,List.map_nil,ai];simp(maxSteps:=2000000) (disch:=first|exact y7|fail) only[go_sem,X_a8,d_a,zj]
  | cons y b=>
   have ho:ownZ 1 ((y::b).map byteD)= .own false 1 ((y::b).map byteD):=rfl;rw[ho];generalize y::b=b at *;simp only[boxT];simp(maxSteps:=2000000) (disch:=first|exact y7|fail) only[go_sem,X_a8,d_a,zj]
 | c::r,i,b,hr,hi,hb=>by
  obtain⟨h1,h2,h3⟩:=cc hr;have:=btk c;rw[tr t cs hn c i b h2 y8 hb,mw t cs hn r (i+1) _ h3 h1 (by rw[aae];omega),List.map_cons,kw,aad]
theorem n9 (t:Ty) (cs:List UInt8) (hn:cs.length≤100):evL cfg n_a8 0 [.d t.d,.d (.sl ((cs.map cS).map Sv.d))] []=some (ownZ 1 ((putB (cs.map cG)).map byteD),[]):=by
 have lp:=mw t cs hn cs 0 [] rfl (aaj _) (aaj _);rw[List.nil_append] at lp;rw[← lp,o_a8];unfold prE;simp only[boxT,List.map_nil,ai];simp(maxSteps:=2000000) (disch:=first|exact y7|fail) only[go_sem,X_a8,c_a8]
theorem wa:evL cfg n_fe 0 [.d va0.d,.d va0.d] []=some (.d (.bool (true)),[]):=by
 have v0:va0.d=D.agg [.bool false,.int .i64 0,.int .i64 0,.sl [],.sl []]:=by rw[Va.d_eq];rfl
 rw[v0];exact en (n:=20) y9
theorem aog (c:UInt8):evL cfg n_eu 0 [.d (cS c).d,.d (cS c).d] []=some (.d (.bool (true)),[]):=by
 have h:=wa;have b1:∀ b:Bool,(b==b)=true:=fun b=>by cases b<;>rfl
 rw[o_eu];unfold cS Sv.d Sv.cs;dsimp only;simp(maxSteps:=2000000) (disch:=first|exact y7|fail) only[go_sem,X_eu,c_eu,h,b1,beq_self_eq_true]
