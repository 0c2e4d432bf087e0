import Derived.Test.YtlcnfnjdelmkdaaGreatDoorStC
import Derived.Test.YtlcnfnjdelmkdaaGreatDoorVaD
namespace Go.Proofs.YtlcnfnjdelmkdaaGreatDoor
open Go Go.Ev
set_option maxHeartbeats 4000000
theorem r9 (fs:List Fld) (num i:Nat) (x:Fld) (hi:i<fs.length) (hn:fs.length≤1000000) (hx:x.b.length≤1000000) (K:List Kf):∀ (n p:Nat) (acc:List Nat),x.b.length-p<n→p≤x.b.length→acc.length+n≤100000000→
  go X_bk (.c (.loop xx):: .b 3:: .b 2:: .b 1:: .c wo:: .c (.loop te):: .b 0::K) ⟨[(1,.d (.int .i64 ((num:Int)))),(6,ownZ 1 (acc.map uD)),(8,.ref 0 8 0),(9,.d (.int .i64 ((p:Int)))),(13,.d (.sl (fs.map Fld.d))),(14,.d (.int .i64 ((fs.length:Int)))),(15,.d (.int .i64 ((i:Int))))],boxF 8 (some x)⟩=
    if(packM x.b n p acc).2=0 then go X_bk (.c (.loop te):: .b 0::K) ⟨[(1,.d (.int .i64 ((num:Int)))),(6,ownZ 1 ((packM x.b n p acc).1.map uD)),(13,.d (.sl (fs.map Fld.d))),(14,.d (.int .i64 ((fs.length:Int)))),(15,.d (.int .i64 ((i:Int)+1)))],boxF 8 (some x)⟩ else some (nr (packM x.b n p acc),[])
 |0,p,acc,h,hp,ha=>by omega
 | n+1,p,acc,h,hp,ha=>by
  rw[packM,go_loop];by_cases c:p<x.b.length
  · rw[if_pos c]
    have d_a:decide ((p:Int)<x.b.length)=true:=by simp<;>omega
    have hv:=ld (b:=x.b) (p:=p) hp hx;by_cases e:(varM 0 0 (x.b.drop p)).2.2=0
    · obtain⟨s1,s2⟩:=awa c e
      have ih:=r9 fs num i x hi hn hx K n (p+(varM 0 0 (x.b.drop p)).2.1) (acc++[(varM 0 0 (x.b.drop p)).1]) y8 s2 (by simp only[aae,List.length_singleton];omega)
      rw[if_pos e,← ih,ownU];unfold varD at hv;rw[e] at hv;generalize varM 0 0 (x.b.drop p)=q at *;simp only[boxF];cases acc with
      | nil=>
       simp(disch:=first|exact y7|fail) only[go_sem,X_bk,d_a,zj,hv,Int.natCast_add,List.map_nil,ai,List.nil_append]
      | cons y acc=>
       simp only[List.length_cons] at ha;rw[List.map_cons];generalize uD y=w;simp(disch:=first|exact y7|fail) only[go_sem,X_bk,d_a,zj,hv,Int.natCast_add,am,List.cons_append]
    · rw[if_neg e]
      simp only[if_neg e];have e3:(((varM 0 0 (x.b.drop p)).2.2:Int) !=0)=true:=by simp;omega
      unfold varD at hv;generalize varM 0 0 (x.b.drop p)=q at *;simp only[boxF];simp(disch:=first|exact y7|fail) only[go_sem,X_bk,d_a,zj,hv,ap,e3]
      rfl
  · rw[if_neg c]
    have d_a:decide ((p:Int)<x.b.length)=false:=by simp<;>omega
    simp only[if_true];simp only[boxF];simp(disch:=first|exact y7|fail) only[go_sem,X_bk,d_a,zj,ap]
theorem oe (fs:List Fld) (num:Nat) (hn:fs.length≤1000000) (hb:∀ f∈fs,f.b.length≤1000000):∀ (r:List Fld) (i:Nat) (acc:List Nat) (o:Option Fld),fs.drop i=r→i≤fs.length→acc.length+wt r≤100000000→
  go X_bk [.c (.loop te),.b 0,.c (.seq wl .ret)] ⟨[(1,.d (.int .i64 ((num:Int)))),(6,ownZ 1 (acc.map uD)),(13,.d (.sl (fs.map Fld.d))),(14,.d (.int .i64 ((fs.length:Int)))),(15,.d (.int .i64 ((i:Int))))],boxF 8 o⟩=some (nr (bm num r acc),[])
 | [],i,acc,o,hr,hi,ha=>by
  have:=bd hr;have d_a:decide ((i:Int)<fs.length)=false:=by simp<;>omega
  rw[go_loop];cases acc with
  | nil=>
   simp(disch:=first|exact y7|fail) only[go_sem,X_bk,bz,take5,len5,aj,af,ah,d_a,List.map_nil,ai]
   rfl
  | cons y acc=>
   simp(disch:=first|exact y7|fail) only[go_sem,X_bk,bz,take5,len5,aj,af,ah,d_a,List.map_cons,am]
   rfl
 | x::r,i,acc,o,hr,hi,ha=>by
  obtain⟨h1,h2,h3⟩:=cc hr;simp only[wt] at ha;have d_a:decide ((i:Int)<fs.length)=true:=by simp<;>omega
  have hx:=hb x (List.mem_of_getElem? h2);have e1:((x.num:Int) !=(num:Int))= !(x.num==num):=by rw[bne,beqN]
  have e0:((x.wire:Int)==0)=(x.wire==0):=beqN x.wire 0;have e2:((x.wire:Int)==2)=(x.wire==2):=beqN x.wire 2;have ih:=fun acc' h=>oe fs num hn hb r (i+1) acc' (some x) h3 h1 h
  simp only[show(((i+1:Nat)):Int)=(i:Int)+1 by omega] at ih
  rw[go_loop,bm];cases hh:x.num==num with
  | false=>
   rw[hh] at e1;simp only[zh,if_false];rw[← ih acc y8];simp(disch:=first|exact y7|fail) only[go_sem,X_bk,bz,take5,len5,aj,af,ah,ap,d_a,zj,ae,zx,h2,Option.map_some,Fld.d,e1]
   rfl
  | true=>
   rw[hh] at e1;simp only[if_true];cases hw:x.wire==0 with
   | true=>
    rw[hw] at e0;simp only[if_true];rw[← ih (acc++[x.u]) (by simp only[aae,List.length_singleton];omega),ownU]
    cases acc with
    | nil=>
     simp(disch:=first|exact y7|fail) only[go_sem,X_bk,bz,take5,len5,aj,af,ah,d_a,zj,ae,zx,h2,Option.map_some,Fld.d,e1,e0,List.map_nil,ai,List.nil_append]
     rfl
    | cons y acc=>
     simp only[List.length_cons] at ha;rw[List.map_cons];generalize uD y=w;simp(disch:=first|exact y7|fail) only[go_sem,X_bk,bz,take5,len5,aj,af,ah,d_a,zj,ae,zx,h2,Option.map_some,Fld.d,e1,e0,am,List.cons_append]
     rfl
   | false=>
    rw[hw] at e0;simp only[zh,if_false];cases hw2:x.wire==2 with
    | false=>
     rw[hw2] at e2;simp only[zh,if_false];rw[← ih acc y8];simp(disch:=first|exact y7|fail) only[go_sem,X_bk,bz,take5,len5,aj,af,ah,ap,d_a,zj,ae,zx,h2,Option.map_some,Fld.d,e1,e0,e2]
     rfl
    | true=>
     rw[hw2] at e2;have hin:=r9 fs num i x y8 hn hx [.c (.seq wl .ret)] (x.b.length+1) 0 acc y8 y8 y8;have hl:=sb (b:=x.b) (x.b.length+1) 0 acc;rw[show((0:Nat):Int)=0 from rfl] at hin
     simp only[if_true];simp(disch:=first|exact y7|fail) only[go_sem,X_bk,bz,take5,len5,aj,af,ah,ap,d_a,zj,ae,zx,h2,Option.map_some,Fld.d,e1,e0,e2]
     refine hin.trans ?_;by_cases e:(packM x.b (x.b.length+1) 0 acc).2=0
     · rw[if_pos e,if_pos e,← ih _ y8]
     · rw[if_neg e,if_neg e]
       rw[sd _ _ _ e]
theorem amn (fs:List Fld) (num:Nat) (hn:fs.length≤1000000) (hb:∀ f∈fs,f.b.length≤1000000) (hw:wt fs≤100000000):evL cfg n_bk 0 [.d (.sl (fs.map Fld.d)),.d (.int .i64 ((num:Int)))] []=some (nr (bm num fs []),[]):=by
 rw[o_bk];have h:=oe fs num hn hb fs 0 [] none rfl (aaj _) (by simpa using hw)
 rw[List.map_nil,ai,pc] at h;simp(disch:=first|exact y7|fail) only[go_sem,X_bk,c_bk,zj]
 exact h
end Go.Proofs.YtlcnfnjdelmkdaaGreatDoor
namespace Go.Proofs.YtlcnfnjdelmkdaaGreatDoor
open Go Go.Ev
set_option maxHeartbeats 4000000
def partM (k:Int):Int:=
 if k==1||k==2||k==3||k==4 then 2 else if k==7||k==16||k==17 then 4 else if k==0 then 5 else if k==14 then 6 else if k==15 then 7 else if k==8 then 8 else if k==9 then 9 else 0
theorem a8 (k:Int):evL cfg n_bc 0 [.d (.int .i64 (k))] []=some (.d (.int .i64 (partM k)),[]):=by
 rw[o_bc];unfold partM;simp(disch:=first|exact y7|fail) only[go_sem,X_bc,c_bc]
 repeat' ((try rw[goQ_b])<;>split<;>rename_i hh<;>(try simp only[zu,zq,zk,zn] at hh)<;>(try simp(disch:=first|exact y7|fail) only[*,go_sem]))
theorem au (k:Int):evL cfg n_dq 0 [.d (.int .i64 (k))] []=some (.d (.bool (decide (k≥1)&&decide (k≤4))),[]):=by
 rw[o_dq];simp(disch:=first|exact y7|fail) only[go_sem,X_dq,c_dq]
 repeat' ((try rw[goQ_b])<;>split<;>rename_i hh<;>(try simp only[zu,zq,zk,zn] at hh)<;>(try simp(disch:=first|exact y7|fail) only[*,go_sem]))
theorem ao (k:Int):evL cfg n_di 0 [.d (.int .i64 (k))] []=some (.d (.bool (textK k&&k !=8)),[]):=by
 rw[o_di];simp(disch:=first|exact y7|fail) only[go_sem,X_di,c_di,cf]
 repeat' ((try rw[goQ_b])<;>split<;>rename_i hh<;>(try simp only[zu,zq,zk,zn] at hh)<;>(try simp(disch:=first|exact y7|fail) only[*,go_sem,cf]))
end Go.Proofs.YtlcnfnjdelmkdaaGreatDoor
namespace Go.Proofs.YtlcnfnjdelmkdaaGreatDoor
open Go Go.Ev
set_option maxHeartbeats 4000000
attribute [go_sem] v7
@[go_sem] theorem cel_beq (a b:Cel):(a==b)=decide (a=b):=by rw[aal];simp
def lkO (e:List (Nat×V)):Option Nat→Option V
 |some k=>lk e k
 |none=>none
@[go_sem] theorem lkO_some (e:List (Nat×V)) (k:Nat):lkO e (some k)=lk e k:=rfl
@[go_sem high] theorem goRUM_some' {X:Kx} {K:List Kf} {s:St} (e0:List (Nat×V)) (pre:Bool) (acc:List Rec) (un:List (Nat×Nat)) (o:IOper) (r:List IOper) (keep:List Nat) (s':St):goRUM X e0 pre acc un o r keep K s (some s')=if(calmE X.dep e0&&pre)=true then goRUD X e0 pre acc un o r keep K s (memDiff (chgOf X.cfg s.get o.op) s.mem s'.mem) (lkO s'.env o.dst) o.dst else none:=by
 rw[bf8];cases o.dst<;>rfl
structure Sv where
 cnt:Int
 null:Bool
 has:Bool
 mn:Va
 mx:Va
 sums:Bool
 sum:Int
def Sv.cs (s:Sv):List D:=[.int .i64 s.cnt,.bool s.null,.bool s.has,.bool s.mn.null,.int .i64 s.mn.i,.int .i64 s.mn.n,txt s.mn.b,.sl (s.mn.kids.map Va.d),.bool s.mx.null,.int .i64 s.mx.i,.int .i64 s.mx.n,txt s.mx.b,.sl (s.mx.kids.map Va.d),.bool s.sums,.int .i64 s.sum]
def Sv.d (s:Sv):D:= .agg s.cs
def Aok (d:Nat) (ks:List Nat) (A:List (Cel×V)):Prop:=∀ p∈A,p.1.d=d∧p.1.k ∉ ks∧∃ x,p.2= .d x
theorem lkA {A:List (Cel×V)} {c:Cel} {v:V} (h:lk A c=some v) (r:List (Cel×V)):lk (A++r) c=some v:=by
 induction A with
 |nil=>simp[lk] at h
 | cons p A ih=>
  obtain⟨c',u⟩:=p;rw[List.cons_append];simp only[lk] at h ⊢;split at h
  · rename_i e;rw[if_pos e];exact h
  · rename_i e;rw[if_neg e];exact ih h
section
variable {d:Nat} {ks:List Nat} {A:List (Cel×V)} (h:Aok d ks A)
include h
theorem lkN (k o:Nat) (hk:k∈ks) (r:List (Cel×V)):lk (A++r) ⟨d,k,o⟩=lk r ⟨d,k,o⟩:=by
 induction A with
 |nil=>rfl
 | cons p A ih=>
  obtain⟨_,h1,_⟩:=h p zb;obtain⟨c,v⟩:=p;rw[List.cons_append,lk,if_neg (fun e=>by rw[e] at h1;exact h1 hk)]
  exact ih fun q hq=>h q (by simp[hq])
theorem stN (k o:Nat) (hk:k∈ks) (v:V) (r:List (Cel×V)):st (A++r) ⟨d,k,o⟩ v=A++st r ⟨d,k,o⟩ v:=by
 induction A with
 |nil=>rfl
 | cons p A ih=>
  obtain⟨_,h1,_⟩:=h p zb;obtain⟨c,u⟩:=p;rw[List.cons_append,st,if_neg (fun e=>by rw[e] at h1;exact h1 hk),ih fun q hq=>h q (by simp[hq])]
  rfl
theorem ed (e:Nat) (r:List (Cel×V)):settleM e (A++r)=A++settleM e r:=by
 induction A with
 |nil=>rfl
 | cons p A ih=>
  obtain⟨_,_,x,h2⟩:=h p zb;obtain⟨c,u⟩:=p;simp only at h2;subst h2;rw[List.cons_append,settleM,ih fun q hq=>h q (by simp[hq])]
  rfl
theorem jk (e:Nat) (he:d<e) (r:List (Cel×V)):leaveM e (A++r)=A++leaveM e r:=by
 induction A with
 |nil=>rfl
 | cons p A ih=>
  obtain⟨h1,_,x,h2⟩:=h p zb;obtain⟨c,u⟩:=p;simp only at h1 h2;subst h2;rw[List.cons_append,leaveM,if_pos y8,ih fun q hq=>h q (by simp[hq])]
  rfl
theorem cutN (e:Nat) (he:d≤e) (r:List (Cel×V)):cutMem e (A++r)=A++cutMem e r:=by
 induction A with
 |nil=>rfl
 | cons p A ih=>
  obtain⟨h1,_,x,h2⟩:=h p zb;obtain⟨c,u⟩:=p;simp only at h1;rw[List.cons_append,cutMem,if_pos y8,ih fun q hq=>h q (by simp[hq])]
  rfl
theorem allN (e:Nat) (r:List (Cel×V)):(A++r).all (fun p=>p.2.upTo e)=r.all (fun p=>p.2.upTo e):=by
 induction A with
 |nil=>rfl
 | cons p A ih=>
  obtain⟨_,_,x,h2⟩:=h p zb;obtain⟨c,u⟩:=p;simp only at h2;subst h2;rw[List.cons_append,List.all_cons,ih fun q hq=>h q (by simp[hq])]
  rfl
end
theorem lf {l:List Cel}:∀ {a b:List (Cel×V)} {u:List (Ev.Loc×V)},memDiff (some l) a b=some u→∀ p∈u,∃ c:Cel,p.1=Ev.Loc.cell c∧l.contains c=true
 | [],[],u,h=>by cases h;simp
 | (c,v)::r,(c',v')::r',u,h=>by
  unfold memDiff at h;split at h
  · simp only at h
    split at h
    · rename_i hc
      simp only[zg] at h;obtain⟨u',h1,rfl⟩:=h;intro p hp;rcases aa3.1 hp with hp|hp
      · exact lf h1 p hp
      · rw[aa1] at hp
        subst hp;exact⟨c,rfl,hc⟩
    · split at h
      · simp only[zg] at h
        obtain⟨u',h1,rfl⟩:=h;intro p hp;exact lf h1 p (abb.1 hp).1
      · cases h
  · cases h
 | [],_::_,u,h=>by simp[memDiff] at h
 |_::_,[],u,h=>by simp[memDiff] at h
theorem diffN {l:List Cel}:∀ {A:List (Cel×V)} (_:∀ p∈A,l.contains p.1=false) (r r':List (Cel×V)),memDiff (some l) (A++r) (A++r')=memDiff (some l) r r'
 | [],_,r,r'=>rfl
 | (c,v)::A,h,r,r'=>by
  have ih:=diffN (A:=A) (fun p hp=>h p (aag _ hp)) r r'
  have hc:=h (c,v) List.mem_cons_self;simp only at hc;rw[List.cons_append,List.cons_append,memDiff,if_pos rfl];simp only[hc,zh,if_false,eqb_refl,if_true,ih];cases hm:memDiff (some l) r r' with
  |none=>rfl
  | some u=>
   rw[Option.map_some]
   congr 1
   rw[List.filter_eq_self];intro p hp;obtain⟨c',e1,e2⟩:=lf hm p hp;rw[e1];simp only[Ev.Loc.cell.injEq,zk,zl]
   rintro rfl
   rw[hc] at e2;cases e2
def bN:List UInt8→D
 | []=> .nilS
 |c::r=> .sl ((c::r).map byteD)
@[go_sem] theorem canon_bN (b:List UInt8):(bN b).canon= .sl (b.map byteD):=by cases b<;>rfl
@[go_sem] theorem can_bN (b:List UInt8):(bN b).can= .sl (b.map byteD):=by cases b<;>rfl
@[go_sem] theorem isCell_bN (b:List UInt8):(bN b).isCell=true:=by cases b<;>rfl
@[go_sem] theorem cells_bN (b:List UInt8):(bN b).cells=[bN b]:=by cases b<;>rfl
@[go_sem] theorem storable_bN (b:List UInt8):(bN b).storable=true:=by cases b<;>rfl
end Go.Proofs.YtlcnfnjdelmkdaaGreatDoor
namespace Go.Proofs.YtlcnfnjdelmkdaaGreatDoor
open Go Go.Ev
set_option maxHeartbeats 4000000
structure Nd where
 kind:Int
 names:List D
 kids:List D
 len:Int
 prec:Int
 scale:Nat
 parent:Int
 deep:Int
def Nd.d (n:Nd):D:= .agg [.int .i64 n.kind,.sl n.names,.sl n.kids,.int .i64 n.len,.int .i64 n.prec,.int .i64 (n.scale:Int),.int .i64 n.parent,.int .i64 n.deep]
def boxN (d k:Nat) (n:Nd):List (Cel×V):=[(⟨d,k,0⟩,.d (.int .i64 (n.kind))),(⟨d,k,1⟩,.d (.sl n.names)),(⟨d,k,2⟩,.d (.sl n.kids)),(⟨d,k,3⟩,.d (.int .i64 (n.len))),(⟨d,k,4⟩,.d (.int .i64 (n.prec))),(⟨d,k,5⟩,.d (.int .i64 ((n.scale:Int)))),(⟨d,k,6⟩,.d (.int .i64 (n.parent))),(⟨d,k,7⟩,.d (.int .i64 (n.deep)))]
def boxS (d k:Nat) (s:Sv):List (Cel×V):=[(⟨d,k,0⟩,.d (.int .i64 (s.cnt))),(⟨d,k,1⟩,.d (.bool (s.null))),(⟨d,k,2⟩,.d (.bool (s.has))),(⟨d,k,3⟩,.d (.bool (s.mn.null))),(⟨d,k,4⟩,.d (.int .i64 (s.mn.i))),(⟨d,k,5⟩,.d (.int .i64 (s.mn.n))),(⟨d,k,6⟩,.d (txt s.mn.b)),(⟨d,k,7⟩,.d (.sl (s.mn.kids.map Va.d))),
 (⟨d,k,8⟩,.d (.bool (s.mx.null))),(⟨d,k,9⟩,.d (.int .i64 (s.mx.i))),(⟨d,k,10⟩,.d (.int .i64 (s.mx.n))),(⟨d,k,11⟩,.d (txt s.mx.b)),(⟨d,k,12⟩,.d (.sl (s.mx.kids.map Va.d))),(⟨d,k,13⟩,.d (.bool (s.sums))),(⟨d,k,14⟩,.d (.int .i64 (s.sum)))]
end Go.Proofs.YtlcnfnjdelmkdaaGreatDoor
namespace Go.Proofs.YtlcnfnjdelmkdaaGreatDoor
open Go Go.Ev
set_option maxHeartbeats 8000000
theorem sa (k:Int):partM k=2∨partM k=4∨partM k=5∨partM k=6∨partM k=7∨partM k=8∨partM k=9∨partM k=0:=by
 unfold partM
 repeat' split
 all_goals simp
end Go.Proofs.YtlcnfnjdelmkdaaGreatDoor
namespace Go.Proofs.YtlcnfnjdelmkdaaGreatDoor
open Go Go.Ev
set_option maxHeartbeats 8000000
theorem db (k:Int):partM k=if(decide (k≥1)&&decide (k≤4))=true then 2 else if(textK k&&k !=8)=true then 4 else if(k==0)=true then 5 else if(k==14)=true then 6 else if(k==15)=true then 7 else if(k==8)=true then 8 else if(k==9)=true then 9 else 0:=by
 unfold partM textK;by_cases h:0≤k∧k≤17
 · have:k=0∨k=1∨k=2∨k=3∨k=4∨k=5∨k=6∨k=7∨k=8∨k=9∨k=10∨k=11∨k=12∨k=13∨k=14∨k=15∨k=16∨k=17:=y8
   rcases this with rfl|rfl|rfl|rfl|rfl|rfl|rfl|rfl|rfl|rfl|rfl|rfl|rfl|rfl|rfl|rfl|rfl|rfl<;>rfl
 · have e:∀ n:Int,0≤n→n≤17→(k==n)=false:=fun n h1 h2=>by simp;omega
   have g:(decide (k≥1)&&decide (k≤4))=false:=by simp;omega
   rw[e 0 y8 y8,e 1 y8 y8,e 2 y8 y8,e 3 y8 y8,e 4 y8 y8,e 7 y8 y8,e 8 y8 y8,e 9 y8 y8,e 14 y8 y8,e 15 y8 y8,e 16 y8 y8,e 17 y8 y8,g];simp
