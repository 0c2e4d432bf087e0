import Derived.Test.YtpnhljhciibfnaaGreatDoorDeD
set_option linter.unusedSimpArgs false
namespace Go.Proofs.YtpnhljhciibfnaaGreatDoor
open Go Go.Ev
set_option maxHeartbeats 4000000
def se (s n:Int):Bool:=decide (s≥ -1099511627776)&&decide (s≤1099511627776)&&decide (n≥0)&&decide (n≤999999999)
theorem ly (s n:Int):evL cfg TO 0 [.d (.int .i64 (s)),.d (.int .i64 (n))] []=some (.d (.bool (se s n)),[]):=by
 rw[o_fe];simp(disch:=first|exact aa0|fail) only[go_sem,X_fe,Zp,se]
 repeat' ((try rw[Aq])<;>split<;>rename_i hh<;>(try simp only[abh,abf,abb,abc] at hh)<;>(try simp(disch:=first|exact aa0|fail) only[*,go_sem,se]))
theorem ma (s n:Int):evL cfg TV 0 [.d (.int .i64 (s)),.d (.int .i64 (n))] []=some (.d (.bool (se s n)),[]):=by
 rw[o_dx];have e:decide (n<1000000000)=decide (n≤999999999):=decide_eq_decide.mpr aa1;simp(disch:=first|exact aa0|fail) only[go_sem,X_dx,Z2,se,e]
 repeat' ((try rw[Aq])<;>split<;>rename_i hh<;>(try simp only[abh,abf,abb,abc] at hh)<;>(try simp(disch:=first|exact aa0|fail) only[*,go_sem,se,e]))
set_option maxHeartbeats 1000000
def BV (k:Int):Bool:=k==7||k==8||k==16||k==17
theorem nn (k:Int):evL cfg Tc 0 [.d (.int .i64 (k))] []=some (.d (.bool (BV k)),[]):=by
 rw[o_df];simp(disch:=first|exact aa0|fail) only[go_sem,X_df,aC,BV]
 repeat' ((try rw[Aq])<;>split<;>rename_i hh<;>(try simp only[abh,abf,abb,abc] at hh)<;>(try simp(disch:=first|exact aa0|fail) only[*,go_sem,BV]))
theorem cq (k:Int):evL cfg Rp 0 [.d (.int .i64 (k))] []=some (.d (.bool (BV k)),[]):=by
 rw[o_du];simp(disch:=first|exact aa0|fail) only[go_sem,X_du,Z5,BV]
 repeat' ((try rw[Aq])<;>split<;>rename_i hh<;>(try simp only[abh,abf,abb,abc] at hh)<;>(try simp(disch:=first|exact aa0|fail) only[*,go_sem,BV]))
def DP (k:Int):Bool:= !(k==10||k==11||k==12||k==13)
theorem nr (k:Int):evL cfg Td 0 [.d (.int .i64 (k))] []=some (.d (.bool (DP k)),[]):=by
 rw[o_de];simp(disch:=first|exact aa0|fail) only[go_sem,X_de,aD,DP]
 repeat' ((try rw[Aq])<;>split<;>rename_i hh<;>(try simp only[abh,abf,abb,abc] at hh)<;>(try simp(disch:=first|exact aa0|fail) only[*,go_sem,DP]))
theorem dy (k:Int):evL cfg Ru 0 [.d (.int .i64 (k))] []=some (.d (.bool (DP k)),[]):=by
 rw[o_d6];simp(disch:=first|exact aa0|fail) only[go_sem,X_d6,aH,DP,bne]
 repeat' ((try rw[Aq])<;>split<;>rename_i hh<;>(try simp only[abh,abf,abb,abc] at hh)<;>(try simp(disch:=first|exact aa0|fail) only[*,go_sem,DP,bne]))
def aoi (k:Int) (v:Va):Bool:=
 if v.null then v.i==0&&v.n==0&&(v.b.length:Int)==0&&(v.kids.length:Int)==0
 else(v.n==0||k==9)&&((v.b.length:Int)==0||BV k)&&((v.kids.length:Int)==0|| !DP k)
theorem ln (t:Ty) (v:Va):evL cfg TT 0 [.d t.d,.d v.d] []=some (.d (.bool (aoi t.kind v)),[]):=by
 rw[o_eh];simp(disch:=first|exact aa0|fail) only[go_sem,X_eh,Zx,nn,nr,aoi]
 repeat' ((try rw[Aq])<;>split<;>rename_i hh<;>(try simp only[abh,abf,abb,abc] at hh)<;>(try simp(disch:=first|exact aa0|fail) only[*,go_sem,nn,nr,aoi]))
theorem sh8:a6 .shl .i64 (-1) .i64 7=some (.int .i64 (-128)):=aa2
theorem sh16:a6 .shl .i64 (-1) .i64 15=some (.int .i64 (-32768)):=aa2
theorem sh32:a6 .shl .i64 (-1) .i64 31=some (.int .i64 (-2147483648)):=aa2
theorem sp8:a6 .shl .i64 1 .i64 7=some (.int .i64 128):=aa2
theorem sp16:a6 .shl .i64 1 .i64 15=some (.int .i64 32768):=aa2
theorem sp32:a6 .shl .i64 1 .i64 31=some (.int .i64 2147483648):=aa2
def DK (v b:Int):Bool:=decide (v≥ -b)&&decide (v≤b-1)
theorem cE (v:Int):evL cfg Gv 0 [.d (.int .i64 (v)),.d (.int .i64 (8))] []=some (.d (.bool (DK v 128)),[]):=by
 rw[fU];simp(disch:=first|exact aa0|fail) only[go_sem,bO,UE,sh8,sp8,DK]
 repeat' ((try rw[Aq])<;>split<;>rename_i hh<;>(try simp only[abh,abf,abb,abc] at hh)<;>(try simp(disch:=first|exact aa0|fail) only[*,go_sem,sh8,sp8,DK]))
theorem Ua (v:Int):evL cfg Gv 0 [.d (.int .i64 (v)),.d (.int .i64 (16))] []=some (.d (.bool (DK v 32768)),[]):=by
 rw[fU];simp(disch:=first|exact aa0|fail) only[go_sem,bO,UE,sh16,sp16,DK]
 repeat' ((try rw[Aq])<;>split<;>rename_i hh<;>(try simp only[abh,abf,abb,abc] at hh)<;>(try simp(disch:=first|exact aa0|fail) only[*,go_sem,sh16,sp16,DK]))
theorem UZ (v:Int):evL cfg Gv 0 [.d (.int .i64 (v)),.d (.int .i64 (32))] []=some (.d (.bool (DK v 2147483648)),[]):=by
 rw[fU];simp(disch:=first|exact aa0|fail) only[go_sem,bO,UE,sh32,sp32,DK]
 repeat' ((try rw[Aq])<;>split<;>rename_i hh<;>(try simp only[abh,abf,abb,abc] at hh)<;>(try simp(disch:=first|exact aa0|fail) only[*,go_sem,sh32,sp32,DK]))
def d7 (t:Ty) (i n:Int):Bool:=
 if t.kind==0 then i==0||i==1
 else if t.kind==1 then DK i 128
 else if t.kind==2 then DK i 32768
 else if t.kind==3||t.kind==15 then DK i 2147483648
 else if t.kind==4 then true
 else if t.kind==14 then decide ((C1 i.natAbs:Int)≤t.prec)
 else if t.kind==9 then se i n
 else if t.kind==13 then decide (i≥0)&&decide (i<t.kids.length)
 else i==0
theorem ko (t:Ty) (v:Va) (hv:inI v.i):evL cfg Tw 0 [.d t.d,.d v.d] []=some (.d (.bool (d7 t v.i v.n)),[]):=by
 rw[o_az];simp(disch:=first|exact aa0|fail) only[go_sem,X_az,aX,cE,Ua,UZ,mw hv,ly,d7]
 repeat' ((try rw[Aq])<;>split<;>rename_i hh<;>(try simp only[abh,abf,abb,abc] at hh)<;>(try simp(disch:=first|exact aa0|fail) only[*,go_sem,cE,Ua,UZ,mw hv,ly,d7]))
theorem qp (t:Ty) (i n:Int) (hv:inI i):evL cfg R5 0 [.d t.d,.d (.int .i64 (i)),.d (.int .i64 (n))] []=some (.d (.bool (!(n !=0&&t.kind !=9)&&d7 t i n)),[]):=by
 rw[o_ak];simp(disch:=first|exact aa0|fail) only[go_sem,X_ak,bA,ld hv,ma,d7,DK]
 repeat' ((try rw[Aq])<;>split<;>rename_i hh<;>(try simp only[abh,abf,abb,abc] at hh)<;>(try simp(disch:=first|exact aa0|fail) only[*,go_sem,ld hv,ma,d7,DK]))
def GH (c:UInt8):Bool:=GI .u8 (c.toNat:Int) 6 !=2
def jw:Tx→Nat
 | []=>0
 |c::b=>(if GH c then 1 else 0)+jw b
theorem gc {b:Tx} (hb:b.length<2 ^ 63) {K:List Kf}:∀ (r:Tx) (i n:Nat),b.drop i=r→i≤b.length→n≤i→
  go SY (.c (.loop btt):: .b 0::K) ⟨[(3,.d (.int .i64 ((n:Int)))),(6,.d (txt b)),(7,.d (.int .i64 ((b.length:Int)))),(8,.d (.int .i64 ((i:Int))))],[]⟩=
   go SY K ⟨[(3,.d (.int .i64 (((n+jw r:Nat):Int)))),(6,.d (txt b)),(7,.d (.int .i64 ((b.length:Int)))),(8,.d (.int .i64 ((b.length:Int)))),(9,.d (.bool (false)))],[]⟩
 | [],i,n,hr,hi,hn=>by
  have h1:=de hr;have:i=b.length:=aa1;subst this;have d_a:decide ((b.length:Int)<b.length)=false:=by simp<;>omega
  rw[go_loop];simp(disch:=first|exact aa0|fail) only[go_sem,SY,d_a,jw,Nat.add_zero]
 | c::r,i,n,hr,hi,hn=>by
  obtain⟨hlt,hc,hr'⟩:=ej hr;have d_a:decide ((i:Int)<b.length)=true:=by simp<;>omega
  have e1:(i:Int)+1=((i+1:Nat):Int):=aa1;cases hs:GH c with
  | true=>
   have ih:=gc hb (K:=K) r (i+1) (n+1) hr' aa1 aa1;have e2:(n:Int)+1=((n+1:Nat):Int):=aa1;rw[jw,hs,if_pos rfl,← acy,← ih,go_loop];unfold GH at hs;simp(disch:=first|exact aa0|fail) only[go_sem,SY,d_a,hc,bg,hs,AM,e1,e2]
  | false=>
   have ih:=gc hb (K:=K) r (i+1) n hr' aa1 aa1;rw[jw,hs,if_neg aa3,Nat.zero_add,← ih,go_loop];unfold GH at hs;simp(disch:=first|exact aa0|fail) only[go_sem,SY,d_a,hc,bg,hs,AM,e1]
theorem lr {b:Tx} (hb:b.length<2 ^ 63):evL cfg Tl 0 [.d (txt b)] []=some (.d (.int .i64 ((jw b:Int))),[]):=by
 rw[o_cc];have hl:=fun K=>gc hb (K:=K) b 0 0 rfl (acj _) (acj _)
 simp only[nc0,Nat.zero_add] at hl;simp(disch:=first|exact aa0|fail) only[go_sem,SY,aN,hl]
theorem gg {b:Tx} (hb:b.length<2 ^ 63) {K:List Kf}:∀ (r:Tx) (i n:Nat),b.drop i=r→i≤b.length→n≤i→
  go Sa (.c (.loop btw):: .b 0::K) ⟨[(0,.d (txt b)),(3,.d (.int .i64 ((n:Int)))),(4,.d (.int .i64 ((i:Int))))],[]⟩=
   go Sa K ⟨[(0,.d (txt b)),(3,.d (.int .i64 (((n+jw r:Nat):Int)))),(4,.d (.int .i64 ((b.length:Int)))),(8,.d (.bool (false)))],[]⟩
 | [],i,n,hr,hi,hn=>by
  have h1:=de hr;have:i=b.length:=aa1;subst this;have d_a:decide ((b.length:Int)<b.length)=false:=by simp<;>omega
  rw[go_loop];simp(disch:=first|exact aa0|fail) only[go_sem,Sa,d_a,jw,Nat.add_zero]
 | c::r,i,n,hr,hi,hn=>by
  obtain⟨hlt,hc,hr'⟩:=ej hr;have d_a:decide ((i:Int)<b.length)=true:=by simp<;>omega
  have e1:(i:Int)+1=((i+1:Nat):Int):=aa1;cases hs:GH c with
  | true=>
   have ih:=gg hb (K:=K) r (i+1) (n+1) hr' aa1 aa1;have e2:(n:Int)+1=((n+1:Nat):Int):=aa1;rw[jw,hs,if_pos rfl,← acy,← ih,go_loop];unfold GH at hs;simp(disch:=first|exact aa0|fail) only[go_sem,Sa,d_a,hc,bg,hs,AM,e1,e2]
  | false=>
   have ih:=gg hb (K:=K) r (i+1) n hr' aa1 aa1;rw[jw,hs,if_neg aa3,Nat.zero_add,← ih,go_loop];unfold GH at hs;simp(disch:=first|exact aa0|fail) only[go_sem,Sa,d_a,hc,bg,hs,AM,e1]
theorem tw {b:Tx} (hb:b.length<2 ^ 63):evL cfg Tr 0 [.d (txt b)] []=some (.d (.int .i64 ((jw b:Int))),[]):=by
 rw[o_bn];have hl:=fun K=>gg hb (K:=K) b 0 0 rfl (acj _) (acj _)
 simp only[nc0,Nat.zero_add] at hl;simp(disch:=first|exact aa0|fail) only[go_sem,Sa,aS,hl]
def IA (t:Ty) (b:Tx):Bool:=
 if t.kind==16||t.kind==17 then decide ((jw b:Int)>t.len)||decide ((b.length:Int)>4096)
 else if t.kind==7||t.kind==8 then decide ((b.length:Int)>4096)
 else false
theorem np (t:Ty) (v:Va) (hb:v.b.length<2 ^ 63):evL cfg Ti 0 [.d t.d,.d v.d] []=some (.d (.bool (IA t v.b)),[]):=by
 rw[o_cm];simp(disch:=first|exact aa0|fail) only[go_sem,X_cm,aL,lr hb,IA]
 repeat' ((try rw[Aq])<;>split<;>rename_i hh<;>(try simp only[abh,abf,abb,abc] at hh)<;>(try simp(disch:=first|exact aa0|fail) only[*,go_sem,lr hb,IA]))
def apb (t:Ty) (n:Int):Int:=
 if t.kind==11 then(if n.tmod 2==0 then(if decide (n.tdiv 2>16384) then 4 else 0) else 1)
 else if t.kind==10 then(if decide (n>16384) then 4 else 0)
 else if t.kind==12 then(if n==t.kids.length then 0 else 1)
 else if t.kind==13 then(if n==1 then 0 else 1)
 else 0
theorem lq (t:Ty) (v:Va) (hk:v.kids.length<2 ^ 63):evL cfg Tp 0 [.d t.d,.d v.d] []=some (.d (.int .i64 (apb t v.kids.length)),[]):=by
 rw[o_br];have e1:IntKind.i64.wrap ((v.kids.length:Int).tdiv 2)=(v.kids.length:Int).tdiv 2:=by
  have:(v.kids.length:Int).tdiv 2=((v.kids.length / 2:Nat):Int):=rfl;rw[this,au aa1 aa1]
 simp(disch:=first|exact aa0|fail) only[go_sem,X_br,aR,i6,gr,e1,apb]
 repeat' ((try rw[Aq])<;>split<;>rename_i hh<;>(try simp only[abh,abf,abb,abc] at hh)<;>(try simp(disch:=first|exact aa0|fail) only[*,go_sem,i6,gr,e1,apb]))
theorem ji (a:Nat):((a:Nat):Int).tmod 2=((a % 2:Nat):Int):=rfl
def Fz (t:Ty) (vi:Int) (i:Nat):Option Ty:=
 if t.kind==10 then t.kids[0]? else if t.kind==11 then t.kids[i % 2]? else if t.kind==13 then(if decide (vi<0) then none else t.kids[vi.toNat]?) else t.kids[i]?
def gD:Option Ty→D
 |some k=> .tup [k.d,.bool true]
 |none=> .tup [.agg [.int .i64 0,.sl [],.sl [],.int .i64 0,.int .i64 0,.int .i64 0],.bool false]
theorem f6 (k:Ty):gD (some k)= .tup [k.d,.bool true]:=rfl
theorem j5:gD none= .tup [.agg [.int .i64 0,.sl [],.sl [],.int .i64 0,.int .i64 0,.int .i64 0],.bool false]:=rfl
theorem beu (t:Ty) (i:Nat):(t.kids[i]? =none∧decide ((i:Int)≥t.kids.length)=true)∨∃ k,t.kids[i]? =some k∧decide ((i:Int)≥t.kids.length)=false:=by
 by_cases h:i<t.kids.length
 · exact .inr ⟨_,abd h,by simp;omega⟩
 · exact .inl ⟨List.getElem?_eq_none aa1,by simp;omega⟩
theorem x9 (t:Ty) (v:Va) (i:Nat) (hi:i<2 ^ 63):evL cfg Tk 0 [.d t.d,.d v.d,.d (.int .i64 ((i:Int)))] []=some (.d (gD (Fz t v.i i)),[]):=by
 rw[o_cd];unfold Fz;rcases aa5 ((t.kind==10)) with d_a|d_a<;>have p_a:=d_a<;>simp only[aa9,aa7,abm,aba,ne_eq] at p_a
 · rcases beu t 0 with⟨h,d⟩|⟨k,h,d⟩<;>simp only[nc0] at d<;>simp(disch:=first|exact aa0|fail) only[go_sem,UP,IZ,d_a,h,d,f6,j5]
 · rcases aa5 ((t.kind==11)) with d_b|d_b<;>have p_b:=d_b<;>simp only[aa9,aa7,abm,aba,ne_eq] at p_b
   · rcases beu t (i % 2) with⟨h,d⟩|⟨k,h,d⟩<;>simp(disch:=first|exact aa0|fail) only[go_sem,UP,IZ,d_a,d_b,h,d,f6,j5,gr,ji]
   · rcases aa5 ((t.kind==13)) with d_c|d_c<;>have p_c:=d_c<;>simp only[aa9,aa7,abm,aba,ne_eq] at p_c
     · rcases aa5 (decide (v.i<0)) with d_e|d_e<;>have p_e:=d_e<;>simp only[aa9,aa7,abm,aba,ne_eq] at p_e
       · simp(disch:=first|exact aa0|fail) only[go_sem,UP,IZ,d_a,d_b,d_c,d_e,j5]
       · obtain⟨n,hn⟩:∃ n:Nat,v.i=n:=⟨v.i.toNat,by omega⟩
         rw[hn] at d_e;rcases beu t n with⟨h,d⟩|⟨k,h,d⟩<;>simp(disch:=first|exact aa0|fail) only[go_sem,UP,IZ,d_a,d_b,d_c,hn,d_e,h,d,f6,j5]
     · rcases beu t i with⟨h,d⟩|⟨k,h,d⟩<;>simp(disch:=first|exact aa0|fail) only[go_sem,UP,IZ,d_a,d_b,d_c,h,d,f6,j5]
def GS (t:Ty) (v:Va):Int:=
 if !aoi t.kind v||(!v.null&& !d7 t v.i v.n) then 1 else if v.null then 0 else if IA t v.b then 4 else apb t v.kids.length
mutual
def ll (t:Ty):Va→Int
 | .mk nl i n b ks=>if GS t (.mk nl i n b ks) !=0 then GS t (.mk nl i n b ks) else if nl then 0 else kn t i 0 ks
def kn (t:Ty) (vi:Int) (j:Nat):List Va→Int
 | []=>0
 | k::r=>match Fz t vi j with
  |none=>1
  |some x=>if t.kind==11&&j % 2==0&&k.null then 1 else if ll x k !=0 then ll x k else kn t vi (j+1) r
end
theorem HK (t:Ty) (v:Va):ll t v=if GS t v !=0 then GS t v else if v.null then 0 else kn t v.i 0 v.kids:=by
 cases v with
 |mk nl i n b ks=>rw[ll];rfl
theorem Fu (t:Ty) (vi:Int) (j:Nat):kn t vi j []=0:=by rw[kn]
theorem Hf (t:Ty) (vi:Int) (j:Nat) (k:Va) (r:List Va):kn t vi j (k::r)=match Fz t vi j with
 |none=>1
 |some x=>if t.kind==11&&j % 2==0&&k.null then 1 else if ll x k !=0 then ll x k else kn t vi (j+1) r:=by rw[kn]
mutual
def okV:Va→Prop
 | .mk _ i _ b ks=>inI i∧b.length<2 ^ 63∧ks.length<2 ^ 63∧Eo ks
def Eo:List Va→Prop
 | []=>True
 |k::r=>okV k∧Eo r
end
theorem CA (v:Va):okV v↔inI v.i∧v.b.length<2 ^ 63∧v.kids.length<2 ^ 63∧Eo v.kids:=by
 cases v with
 |mk nl i n b ks=>rw[okV];rfl
theorem E5:∀ {l:List Va} {k:Va},Eo l→k∈l→okV k
 | x::l,k,h,hk=>by
  rw[Eo] at h;rcases abr.1 hk with e|e
  · rw[e];exact h.1
  · exact E5 h.2 e
set_option maxHeartbeats 2000000
def mO (a b:Nat):Option (Bool×Va×Ty)→List (Cel×V)
 |none=>[]
 |some (c,k,x)=>ES a c k++Au b x
theorem jc (a b:Nat):mO a b none=[]:=rfl
theorem ja (a b:Nat) (c:Bool) (k:Va) (x:Ty):mO a b (some (c,k,x))=ES a c k++Au b x:=rfl
theorem kq (t:Ty) (v:Va) (cn:Bool) (hcn:v.null=cn) (hv:v.kids.length<2 ^ 63) (IH:∀ k∈v.kids,∀ t,evL cfg Gz 0 [.d t.d,.d k.d] []=some (.d (.int .i64 (ll t k)),[])):∀ (r:List Va) (j:Nat) (o:Option (Bool×Va×Ty)),v.kids.drop j=r→j≤v.kids.length→
  go Hl [.c (.loop av0),.b 1,.c (.seq aqx .ret)] ⟨[(2,.ref 0 2 0),(3,.ref 0 3 0),(41,.d (.sl (v.kids.map Va.d))),(42,.d (.int .i64 ((v.kids.length:Int)))),(43,.d (.int .i64 ((j:Int))))],Au 2 t++ES 3 cn v++mO 7 8 o⟩=some (.d (.int .i64 (kn t v.i j r)),[])
 | [],j,o,hr,hj=>by
  have h1:=de hr;have:j=v.kids.length:=aa1;subst this;have d_a:decide ((v.kids.length:Int)<v.kids.length)=false:=by simp<;>omega
  rw[go_loop,Fu];rcases o with _|⟨c0,k0,x0⟩<;>simp(disch:=first|exact aa0|fail) only[go_sem,Hl,d_a,Au,Eu,ES,jc,ja]
 | k::r,j,o,hr,hj=>by
  obtain⟨hlt,hc,hr'⟩:=ej hr;have hk:=IH k (List.mem_of_getElem? hc);have hkid:=x9 t v j aa1;have d_a:decide ((j:Int)<v.kids.length)=true:=by simp<;>omega
  have e1:(j:Int)+1=((j+1:Nat):Int):=aa1;have e2:(((j % 2:Nat):Int)==0)=(j % 2==0):=by
   rcases Nat.mod_two_eq_zero_or_one j with h|h<;>rw[h]<;>rfl
  rw[go_loop,Hf];cases hkt:Fz t v.i j with
  | none=>
   rw[hkt] at hkid;rcases o with _|⟨c0,k0,x0⟩<;>simp(disch:=first|exact aa0|fail) only[go_sem,Hl,d_a,hc,hkid,j5,Au,Eu,ES,jc,ja]
  | some x=>
   rw[hkt] at hkid;have ih:=fun c=>kq t v cn hcn hv IH r (j+1) (some (c,k,x)) hr' aa1
   simp only[Au,Eu,ES,ja,List.cons_append,List.nil_append] at ih;rcases o with _|⟨c0,k0,x0⟩
   · simp(disch:=first|exact aa0|fail) only[go_sem,Hl,d_a,hc,hkid,hk,f6,Au,Eu,ES,jc,ja,e1,e2,ih,gr,ji,bne]
     repeat' ((try rw[Aq])<;>split<;>rename_i hh<;>(try simp only[abh,abf,abb,abc] at hh)<;>(try simp(disch:=first|exact aa0|fail) only[*,go_sem,Hl,d_a,hc,hkid,hk,f6,Au,Eu,ES,jc,ja,e1,e2,ih,gr,ji,bne]))
   · simp(disch:=first|exact aa0|fail) only[go_sem,Hl,d_a,hc,hkid,hk,f6,Au,Eu,ES,jc,ja,e1,e2,ih,gr,ji,bne]
     repeat' ((try rw[Aq])<;>split<;>rename_i hh<;>(try simp only[abh,abf,abb,abc] at hh)<;>(try simp(disch:=first|exact aa0|fail) only[*,go_sem,Hl,d_a,hc,hkid,hk,f6,Au,Eu,ES,jc,ja,e1,e2,ih,gr,ji,bne]))
theorem il:∀ (n:Nat) (v:Va) (t:Ty),v.size≤n→okV v→evL cfg Gz 0 [.d t.d,.d v.d] []=some (.d (.int .i64 (ll t v)),[])
 |0,v,t,h,_=>by have:=v.size_pos;omega
 | n+1,v,t,h,hv=>by
  obtain⟨h1,h2,h3,h4⟩:=(CA v).1 hv;have IH:∀ k∈v.kids,∀ t,evL cfg Gz 0 [.d t.d,.d k.d] []=some (.d (.int .i64 (ll t k)),[]):=fun k hk t=>il n k t (by have:=Va.Bu hk;omega) (E5 h4 hk)
  have hl:=fun cn hcn=>kq t v cn hcn h3 IH v.kids 0 none rfl (acj _)
  simp only[Au,Eu,ES,jc,List.cons_append,List.nil_append,List.append_nil,nc0] at hl;rw[o_aw,HK];unfold GS;simp(disch:=first|exact aa0|fail) only[go_sem,Hl,aZ,ln,ko t v h1,np t v h2,lq t v aa1,hl,bne]
  repeat' ((try rw[Aq])<;>split<;>rename_i hh<;>(try simp only[abh,abf,abb,abc] at hh)<;>(try simp(disch:=first|exact aa0|fail) only[*,go_sem,ln,ko t v h1,np t v h2,lq t v aa1,hl,bne]))
