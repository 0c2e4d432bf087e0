import Derived.Test.YtlcnfnjdelmkdaaGreatDoorDeD
namespace Go.Proofs.YtlcnfnjdelmkdaaGreatDoor
open Go Go.Ev
set_option maxHeartbeats 4000000
def s6 (s n:Int):Bool:=decide (s≥ -1099511627776)&&decide (s≤1099511627776)&&decide (n≥0)&&decide (n≤999999999)
theorem kh (s n:Int):evL cfg n_eh 0 [.d (.int .i64 (s)),.d (.int .i64 (n))] []=some (.d (.bool (s6 s n)),[]):=by
 rw[o_eh];simp(disch:=first|exact y7|fail) only[go_sem,X_eh,c_eh,s6]
 repeat' ((try rw[goQ_b])<;>split<;>rename_i hh<;>(try simp only[zu,zq,zk,zn] at hh)<;>(try simp(disch:=first|exact y7|fail) only[*,go_sem,s6]))
theorem kv (s n:Int):evL cfg n_dm 0 [.d (.int .i64 (s)),.d (.int .i64 (n))] []=some (.d (.bool (s6 s n)),[]):=by
 rw[o_dm];have e:decide (n<1000000000)=decide (n≤999999999):=decide_eq_decide.mpr y8;simp(disch:=first|exact y7|fail) only[go_sem,X_dm,c_dm,s6,e]
 repeat' ((try rw[goQ_b])<;>split<;>rename_i hh<;>(try simp only[zu,zq,zk,zn] at hh)<;>(try simp(disch:=first|exact y7|fail) only[*,go_sem,s6,e]))
set_option maxHeartbeats 1000000
def textK (k:Int):Bool:=k==7||k==8||k==16||k==17
theorem mm (k:Int):evL cfg n_cz 0 [.d (.int .i64 (k))] []=some (.d (.bool (textK k)),[]):=by
 rw[o_cz];simp(disch:=first|exact y7|fail) only[go_sem,X_cz,c_cz,textK]
 repeat' ((try rw[goQ_b])<;>split<;>rename_i hh<;>(try simp only[zu,zq,zk,zn] at hh)<;>(try simp(disch:=first|exact y7|fail) only[*,go_sem,textK]))
theorem cf (k:Int):evL cfg n_dh 0 [.d (.int .i64 (k))] []=some (.d (.bool (textK k)),[]):=by
 rw[o_dh];simp(disch:=first|exact y7|fail) only[go_sem,X_dh,c_dh,textK]
 repeat' ((try rw[goQ_b])<;>split<;>rename_i hh<;>(try simp only[zu,zq,zk,zn] at hh)<;>(try simp(disch:=first|exact y7|fail) only[*,go_sem,textK]))
def leafK (k:Int):Bool:= !(k==10||k==11||k==12||k==13)
theorem mp (k:Int):evL cfg n_cy 0 [.d (.int .i64 (k))] []=some (.d (.bool (leafK k)),[]):=by
 rw[o_cy];simp(disch:=first|exact y7|fail) only[go_sem,X_cy,c_cy,leafK]
 repeat' ((try rw[goQ_b])<;>split<;>rename_i hh<;>(try simp only[zu,zq,zk,zn] at hh)<;>(try simp(disch:=first|exact y7|fail) only[*,go_sem,leafK]))
theorem ew (k:Int):evL cfg n_dt 0 [.d (.int .i64 (k))] []=some (.d (.bool (leafK k)),[]):=by
 rw[o_dt];simp(disch:=first|exact y7|fail) only[go_sem,X_dt,c_dt,leafK,bne]
 repeat' ((try rw[goQ_b])<;>split<;>rename_i hh<;>(try simp only[zu,zq,zk,zn] at hh)<;>(try simp(disch:=first|exact y7|fail) only[*,go_sem,leafK,bne]))
def am1 (k:Int) (v:Va):Bool:=
 if v.null then v.i==0&&v.n==0&&(v.b.length:Int)==0&&(v.kids.length:Int)==0
 else(v.n==0||k==9)&&((v.b.length:Int)==0||textK k)&&((v.kids.length:Int)==0|| !leafK k)
theorem j9 (t:Ty) (v:Va):evL cfg n_dv 0 [.d t.d,.d v.d] []=some (.d (.bool (am1 t.kind v)),[]):=by
 rw[o_dv];simp(disch:=first|exact y7|fail) only[go_sem,X_dv,c_dv,mm,mp,am1]
 repeat' ((try rw[goQ_b])<;>split<;>rename_i hh<;>(try simp only[zu,zq,zk,zn] at hh)<;>(try simp(disch:=first|exact y7|fail) only[*,go_sem,mm,mp,am1]))
theorem sh8:a6 .shl .i64 (-1) .i64 7=some (.int .i64 (-128)):=y9
theorem sh16:a6 .shl .i64 (-1) .i64 15=some (.int .i64 (-32768)):=y9
theorem sh32:a6 .shl .i64 (-1) .i64 31=some (.int .i64 (-2147483648)):=y9
theorem sp8:a6 .shl .i64 1 .i64 7=some (.int .i64 128):=y9
theorem sp16:a6 .shl .i64 1 .i64 15=some (.int .i64 32768):=y9
theorem sp32:a6 .shl .i64 1 .i64 31=some (.int .i64 2147483648):=y9
def wideM (v b:Int):Bool:=decide (v≥ -b)&&decide (v≤b-1)
theorem wide8 (v:Int):evL cfg n_d8 0 [.d (.int .i64 (v)),.d (.int .i64 (8))] []=some (.d (.bool (wideM v 128)),[]):=by
 rw[o_d8];simp(disch:=first|exact y7|fail) only[go_sem,X_d8,c_d8,sh8,sp8,wideM]
 repeat' ((try rw[goQ_b])<;>split<;>rename_i hh<;>(try simp only[zu,zq,zk,zn] at hh)<;>(try simp(disch:=first|exact y7|fail) only[*,go_sem,sh8,sp8,wideM]))
theorem wide16 (v:Int):evL cfg n_d8 0 [.d (.int .i64 (v)),.d (.int .i64 (16))] []=some (.d (.bool (wideM v 32768)),[]):=by
 rw[o_d8];simp(disch:=first|exact y7|fail) only[go_sem,X_d8,c_d8,sh16,sp16,wideM]
 repeat' ((try rw[goQ_b])<;>split<;>rename_i hh<;>(try simp only[zu,zq,zk,zn] at hh)<;>(try simp(disch:=first|exact y7|fail) only[*,go_sem,sh16,sp16,wideM]))
theorem wide32 (v:Int):evL cfg n_d8 0 [.d (.int .i64 (v)),.d (.int .i64 (32))] []=some (.d (.bool (wideM v 2147483648)),[]):=by
 rw[o_d8];simp(disch:=first|exact y7|fail) only[go_sem,X_d8,c_d8,sh32,sp32,wideM]
 repeat' ((try rw[goQ_b])<;>split<;>rename_i hh<;>(try simp only[zu,zq,zk,zn] at hh)<;>(try simp(disch:=first|exact y7|fail) only[*,go_sem,sh32,sp32,wideM]))
def ja (t:Ty) (i n:Int):Bool:=
 if t.kind==0 then i==0||i==1
 else if t.kind==1 then wideM i 128
 else if t.kind==2 then wideM i 32768
 else if t.kind==3||t.kind==15 then wideM i 2147483648
 else if t.kind==4 then true
 else if t.kind==14 then decide ((digN i.natAbs:Int)≤t.prec)
 else if t.kind==9 then s6 i n
 else if t.kind==13 then decide (i≥0)&&decide (i<t.kids.length)
 else i==0
theorem jz (t:Ty) (v:Va) (hv:inI v.i):evL cfg n_a6 0 [.d t.d,.d v.d] []=some (.d (.bool (ja t v.i v.n)),[]):=by
 rw[o_a6];simp(disch:=first|exact y7|fail) only[go_sem,X_a6,c_a6,wide8,wide16,wide32,lv hv,kh,ja]
 repeat' ((try rw[goQ_b])<;>split<;>rename_i hh<;>(try simp only[zu,zq,zk,zn] at hh)<;>(try simp(disch:=first|exact y7|fail) only[*,go_sem,wide8,wide16,wide32,lv hv,kh,ja]))
theorem pn (t:Ty) (i n:Int) (hv:inI i):evL cfg n_am 0 [.d t.d,.d (.int .i64 (i)),.d (.int .i64 (n))] []=some (.d (.bool (!(n !=0&&t.kind !=9)&&ja t i n)),[]):=by
 rw[o_am];simp(disch:=first|exact y7|fail) only[go_sem,X_am,c_am,j5 hv,kv,ja,wideM]
 repeat' ((try rw[goQ_b])<;>split<;>rename_i hh<;>(try simp only[zu,zq,zk,zn] at hh)<;>(try simp(disch:=first|exact y7|fail) only[*,go_sem,j5 hv,kv,ja,wideM]))
def signB (c:UInt8):Bool:=shrI .u8 (c.toNat:Int) 6 !=2
def je:Tx→Nat
 | []=>0
 |c::b=>(if signB c then 1 else 0)+je b
theorem ff {b:Tx} (hb:b.length<2 ^ 63) {K:List Kf}:∀ (r:Tx) (i n:Nat),b.drop i=r→i≤b.length→n≤i→
  go X_b9 (.c (.loop btz):: .b 0::K) ⟨[(3,.d (.int .i64 ((n:Int)))),(6,.d (txt b)),(7,.d (.int .i64 ((b.length:Int)))),(8,.d (.int .i64 ((i:Int))))],[]⟩=
   go X_b9 K ⟨[(3,.d (.int .i64 (((n+je r:Nat):Int)))),(6,.d (txt b)),(7,.d (.int .i64 ((b.length:Int)))),(8,.d (.int .i64 ((b.length:Int)))),(9,.d (.bool (false)))],[]⟩
 | [],i,n,hr,hi,hn=>by
  have h1:=bd hr;have:i=b.length:=y8;subst this;have d_a:decide ((b.length:Int)<b.length)=false:=by simp<;>omega
  rw[go_loop];simp(disch:=first|exact y7|fail) only[go_sem,X_b9,d_a,je,Nat.add_zero]
 | c::r,i,n,hr,hi,hn=>by
  obtain⟨hlt,hc,hr'⟩:=cc hr;have d_a:decide ((i:Int)<b.length)=true:=by simp<;>omega
  have e1:(i:Int)+1=((i+1:Nat):Int):=y8;cases hs:signB c with
  | true=>
   have ih:=ff hb (K:=K) r (i+1) (n+1) hr' y8 y8;have e2:(n:Int)+1=((n+1:Nat):Int):=y8;rw[je,hs,if_pos rfl,← Nat.add_assoc,← ih,go_loop];unfold signB at hs;simp(disch:=first|exact y7|fail) only[go_sem,X_b9,d_a,hc,bb,hs,byteD,e1,e2]
  | false=>
   have ih:=ff hb (K:=K) r (i+1) n hr' y8 y8;rw[je,hs,if_neg zb,Nat.zero_add,← ih,go_loop];unfold signB at hs;simp(disch:=first|exact y7|fail) only[go_sem,X_b9,d_a,hc,bb,hs,byteD,e1]
theorem kd {b:Tx} (hb:b.length<2 ^ 63):evL cfg n_b9 0 [.d (txt b)] []=some (.d (.int .i64 ((je b:Int))),[]):=by
 rw[o_b9];have hl:=fun K=>ff hb (K:=K) b 0 0 rfl (aaj _) (aaj _)
 simp only[nc0,Nat.zero_add] at hl;simp(disch:=first|exact y7|fail) only[go_sem,X_b9,c_b9,hl]
theorem fh {b:Tx} (hb:b.length<2 ^ 63) {K:List Kf}:∀ (r:Tx) (i n:Nat),b.drop i=r→i≤b.length→n≤i→
  go X_bl (.c (.loop btv):: .b 0::K) ⟨[(0,.d (txt b)),(3,.d (.int .i64 ((n:Int)))),(4,.d (.int .i64 ((i:Int))))],[]⟩=
   go X_bl K ⟨[(0,.d (txt b)),(3,.d (.int .i64 (((n+je r:Nat):Int)))),(4,.d (.int .i64 ((b.length:Int)))),(8,.d (.bool (false)))],[]⟩
 | [],i,n,hr,hi,hn=>by
  have h1:=bd hr;have:i=b.length:=y8;subst this;have d_a:decide ((b.length:Int)<b.length)=false:=by simp<;>omega
  rw[go_loop];simp(disch:=first|exact y7|fail) only[go_sem,X_bl,d_a,je,Nat.add_zero]
 | c::r,i,n,hr,hi,hn=>by
  obtain⟨hlt,hc,hr'⟩:=cc hr;have d_a:decide ((i:Int)<b.length)=true:=by simp<;>omega
  have e1:(i:Int)+1=((i+1:Nat):Int):=y8;cases hs:signB c with
  | true=>
   have ih:=fh hb (K:=K) r (i+1) (n+1) hr' y8 y8;have e2:(n:Int)+1=((n+1:Nat):Int):=y8;rw[je,hs,if_pos rfl,← Nat.add_assoc,← ih,go_loop];unfold signB at hs;simp(disch:=first|exact y7|fail) only[go_sem,X_bl,d_a,hc,bb,hs,byteD,e1,e2]
  | false=>
   have ih:=fh hb (K:=K) r (i+1) n hr' y8 y8;rw[je,hs,if_neg zb,Nat.zero_add,← ih,go_loop];unfold signB at hs;simp(disch:=first|exact y7|fail) only[go_sem,X_bl,d_a,hc,bb,hs,byteD,e1]
theorem rz {b:Tx} (hb:b.length<2 ^ 63):evL cfg n_bl 0 [.d (txt b)] []=some (.d (.int .i64 ((je b:Int))),[]):=by
 rw[o_bl];have hl:=fun K=>fh hb (K:=K) b 0 0 rfl (aaj _) (aaj _)
 simp only[nc0,Nat.zero_add] at hl;simp(disch:=first|exact y7|fail) only[go_sem,X_bl,c_bl,hl]
def longM (t:Ty) (b:Tx):Bool:=
 if t.kind==16||t.kind==17 then decide ((je b:Int)>t.len)||decide ((b.length:Int)>4096)
 else if t.kind==7||t.kind==8 then decide ((b.length:Int)>4096)
 else false
theorem mo (t:Ty) (v:Va) (hb:v.b.length<2 ^ 63):evL cfg n_cl 0 [.d t.d,.d v.d] []=some (.d (.bool (longM t v.b)),[]):=by
 rw[o_cl];simp(disch:=first|exact y7|fail) only[go_sem,X_cl,c_cl,kd hb,longM]
 repeat' ((try rw[goQ_b])<;>split<;>rename_i hh<;>(try simp only[zu,zq,zk,zn] at hh)<;>(try simp(disch:=first|exact y7|fail) only[*,go_sem,kd hb,longM]))
def anw (t:Ty) (n:Int):Int:=
 if t.kind==11 then(if n.tmod 2==0 then(if decide (n.tdiv 2>16384) then 4 else 0) else 1)
 else if t.kind==10 then(if decide (n>16384) then 4 else 0)
 else if t.kind==12 then(if n==t.kids.length then 0 else 1)
 else if t.kind==13 then(if n==1 then 0 else 1)
 else 0
theorem ka (t:Ty) (v:Va) (hk:v.kids.length<2 ^ 63):evL cfg n_bo 0 [.d t.d,.d v.d] []=some (.d (.int .i64 (anw t v.kids.length)),[]):=by
 rw[o_bo];have e1:IntKind.i64.wrap ((v.kids.length:Int).tdiv 2)=(v.kids.length:Int).tdiv 2:=by
  have:(v.kids.length:Int).tdiv 2=((v.kids.length / 2:Nat):Int):=rfl;rw[this,az y8 y8]
 simp(disch:=first|exact y7|fail) only[go_sem,X_bo,c_bo,gz,d7,e1,anw]
 repeat' ((try rw[goQ_b])<;>split<;>rename_i hh<;>(try simp only[zu,zq,zk,zn] at hh)<;>(try simp(disch:=first|exact y7|fail) only[*,go_sem,gz,d7,e1,anw]))
theorem ip (a:Nat):((a:Nat):Int).tmod 2=((a % 2:Nat):Int):=rfl
def kidT (t:Ty) (vi:Int) (i:Nat):Option Ty:=
 if t.kind==10 then t.kids[0]? else if t.kind==11 then t.kids[i % 2]? else if t.kind==13 then(if decide (vi<0) then none else t.kids[vi.toNat]?) else t.kids[i]?
def kidD:Option Ty→D
 |some k=> .tup [k.d,.bool true]
 |none=> .tup [.agg [.int .i64 0,.sl [],.sl [],.int .i64 0,.int .i64 0,.int .i64 0],.bool false]
theorem fb (k:Ty):kidD (some k)= .tup [k.d,.bool true]:=rfl
theorem jl:kidD none= .tup [.agg [.int .i64 0,.sl [],.sl [],.int .i64 0,.int .i64 0,.int .i64 0],.bool false]:=rfl
theorem beq (t:Ty) (i:Nat):(t.kids[i]? =none∧decide ((i:Int)≥t.kids.length)=true)∨∃ k,t.kids[i]? =some k∧decide ((i:Int)≥t.kids.length)=false:=by
 by_cases h:i<t.kids.length
 · exact .inr ⟨_,zo h,by simp;omega⟩
 · exact .inl ⟨List.getElem?_eq_none y8,by simp;omega⟩
theorem vz (t:Ty) (v:Va) (i:Nat) (hi:i<2 ^ 63):evL cfg n_cc 0 [.d t.d,.d v.d,.d (.int .i64 ((i:Int)))] []=some (.d (kidD (kidT t v.i i)),[]):=by
 rw[o_cc];unfold kidT;rcases zf ((t.kind==10)) with d_a|d_a<;>have p_a:=d_a<;>simp only[zm,zl,aaa,zp,ne_eq] at p_a
 · rcases beq t 0 with⟨h,d⟩|⟨k,h,d⟩<;>simp only[nc0] at d<;>simp(disch:=first|exact y7|fail) only[go_sem,X_cc,c_cc,d_a,h,d,fb,jl]
 · rcases zf ((t.kind==11)) with d_b|d_b<;>have p_b:=d_b<;>simp only[zm,zl,aaa,zp,ne_eq] at p_b
   · rcases beq t (i % 2) with⟨h,d⟩|⟨k,h,d⟩<;>simp(disch:=first|exact y7|fail) only[go_sem,X_cc,c_cc,d_a,d_b,h,d,fb,jl,d7,ip]
   · rcases zf ((t.kind==13)) with d_c|d_c<;>have p_c:=d_c<;>simp only[zm,zl,aaa,zp,ne_eq] at p_c
     · rcases zf (decide (v.i<0)) with d_e|d_e<;>have p_e:=d_e<;>simp only[zm,zl,aaa,zp,ne_eq] at p_e
       · simp(disch:=first|exact y7|fail) only[go_sem,X_cc,c_cc,d_a,d_b,d_c,d_e,jl]
       · obtain⟨n,hn⟩:∃ n:Nat,v.i=n:=⟨v.i.toNat,by omega⟩
         rw[hn] at d_e;rcases beq t n with⟨h,d⟩|⟨k,h,d⟩<;>simp(disch:=first|exact y7|fail) only[go_sem,X_cc,c_cc,d_a,d_b,d_c,hn,d_e,h,d,fb,jl]
     · rcases beq t i with⟨h,d⟩|⟨k,h,d⟩<;>simp(disch:=first|exact y7|fail) only[go_sem,X_cc,c_cc,d_a,d_b,d_c,h,d,fb,jl]
def nodeM (t:Ty) (v:Va):Int:=
 if !am1 t.kind v||(!v.null&& !ja t v.i v.n) then 1 else if v.null then 0 else if longM t v.b then 4 else anw t v.kids.length
mutual
def j8 (t:Ty):Va→Int
 | .mk nl i n b ks=>if nodeM t (.mk nl i n b ks) !=0 then nodeM t (.mk nl i n b ks) else if nl then 0 else jx t i 0 ks
def jx (t:Ty) (vi:Int) (j:Nat):List Va→Int
 | []=>0
 | k::r=>match kidT t vi j with
  |none=>1
  |some x=>if t.kind==11&&j % 2==0&&k.null then 1 else if j8 x k !=0 then j8 x k else jx t vi (j+1) r
end
theorem checkV_eq (t:Ty) (v:Va):j8 t v=if nodeM t v !=0 then nodeM t v else if v.null then 0 else jx t v.i 0 v.kids:=by
 cases v with
 |mk nl i n b ks=>rw[j8];rfl
theorem checkVs_nil (t:Ty) (vi:Int) (j:Nat):jx t vi j []=0:=by rw[jx]
theorem checkVs_cons (t:Ty) (vi:Int) (j:Nat) (k:Va) (r:List Va):jx t vi j (k::r)=match kidT t vi j with
 |none=>1
 |some x=>if t.kind==11&&j % 2==0&&k.null then 1 else if j8 x k !=0 then j8 x k else jx t vi (j+1) r:=by rw[jx]
mutual
def okV:Va→Prop
 | .mk _ i _ b ks=>inI i∧b.length<2 ^ 63∧ks.length<2 ^ 63∧okVs ks
def okVs:List Va→Prop
 | []=>True
 |k::r=>okV k∧okVs r
end
theorem okV_eq (v:Va):okV v↔inI v.i∧v.b.length<2 ^ 63∧v.kids.length<2 ^ 63∧okVs v.kids:=by
 cases v with
 |mk nl i n b ks=>rw[okV];rfl
theorem okVs_mem:∀ {l:List Va} {k:Va},okVs l→k∈l→okV k
 | x::l,k,h,hk=>by
  rw[okVs] at h;rcases aac.1 hk with e|e
  · rw[e];exact h.1
  · exact okVs_mem h.2 e
set_option maxHeartbeats 2000000
def exVT (a b:Nat):Option (Bool×Va×Ty)→List (Cel×V)
 |none=>[]
 |some (c,k,x)=>boxW a c k++boxT b x
theorem g8 (a b:Nat):exVT a b none=[]:=rfl
theorem g7 (a b:Nat) (c:Bool) (k:Va) (x:Ty):exVT a b (some (c,k,x))=boxW a c k++boxT b x:=rfl
theorem j3 (t:Ty) (v:Va) (cn:Bool) (hcn:v.null=cn) (hv:v.kids.length<2 ^ 63) (IH:∀ k∈v.kids,∀ t,evL cfg n_ax 0 [.d t.d,.d k.d] []=some (.d (.int .i64 (j8 t k)),[])):∀ (r:List Va) (j:Nat) (o:Option (Bool×Va×Ty)),v.kids.drop j=r→j≤v.kids.length→
  go X_ax [.c (.loop avx),.b 1,.c (.seq apr .ret)] ⟨[(2,.ref 0 2 0),(3,.ref 0 3 0),(41,.d (.sl (v.kids.map Va.d))),(42,.d (.int .i64 ((v.kids.length:Int)))),(43,.d (.int .i64 ((j:Int))))],boxT 2 t++boxW 3 cn v++exVT 7 8 o⟩=some (.d (.int .i64 (jx t v.i j r)),[])
 | [],j,o,hr,hj=>by
  have h1:=bd hr;have:j=v.kids.length:=y8;subst this;have d_a:decide ((v.kids.length:Int)<v.kids.length)=false:=by simp<;>omega
  rw[go_loop,checkVs_nil];rcases o with _|⟨c0,k0,x0⟩<;>simp(disch:=first|exact y7|fail) only[go_sem,X_ax,d_a,boxT,boxV,boxW,g8,g7]
 | k::r,j,o,hr,hj=>by
  obtain⟨hlt,hc,hr'⟩:=cc hr;have hk:=IH k (List.mem_of_getElem? hc);have hkid:=vz t v j y8;have d_a:decide ((j:Int)<v.kids.length)=true:=by simp<;>omega
  have e1:(j:Int)+1=((j+1:Nat):Int):=y8;have e2:(((j % 2:Nat):Int)==0)=(j % 2==0):=by
   rcases abf j with h|h<;>rw[h]<;>rfl
  rw[go_loop,checkVs_cons];cases hkt:kidT t v.i j with
  | none=>
   rw[hkt] at hkid;rcases o with _|⟨c0,k0,x0⟩<;>simp(disch:=first|exact y7|fail) only[go_sem,X_ax,d_a,hc,hkid,jl,boxT,boxV,boxW,g8,g7]
  | some x=>
   rw[hkt] at hkid;have ih:=fun c=>j3 t v cn hcn hv IH r (j+1) (some (c,k,x)) hr' y8
   simp only[boxT,boxV,boxW,g7,List.cons_append,List.nil_append] at ih;rcases o with _|⟨c0,k0,x0⟩
   · simp(disch:=first|exact y7|fail) only[go_sem,X_ax,d_a,hc,hkid,hk,fb,boxT,boxV,boxW,g8,g7,e1,e2,ih,d7,ip,bne]
     repeat' ((try rw[goQ_b])<;>split<;>rename_i hh<;>(try simp only[zu,zq,zk,zn] at hh)<;>(try simp(disch:=first|exact y7|fail) only[*,go_sem,X_ax,d_a,hc,hkid,hk,fb,boxT,boxV,boxW,g8,g7,e1,e2,ih,d7,ip,bne]))
   · simp(disch:=first|exact y7|fail) only[go_sem,X_ax,d_a,hc,hkid,hk,fb,boxT,boxV,boxW,g8,g7,e1,e2,ih,d7,ip,bne]
     repeat' ((try rw[goQ_b])<;>split<;>rename_i hh<;>(try simp only[zu,zq,zk,zn] at hh)<;>(try simp(disch:=first|exact y7|fail) only[*,go_sem,X_ax,d_a,hc,hkid,hk,fb,boxT,boxV,boxW,g8,g7,e1,e2,ih,d7,ip,bne]))
theorem gj:∀ (n:Nat) (v:Va) (t:Ty),v.size≤n→okV v→evL cfg n_ax 0 [.d t.d,.d v.d] []=some (.d (.int .i64 (j8 t v)),[])
 |0,v,t,h,_=>by have:=v.size_pos;omega
 | n+1,v,t,h,hv=>by
  obtain⟨h1,h2,h3,h4⟩:=(okV_eq v).1 hv;have IH:∀ k∈v.kids,∀ t,evL cfg n_ax 0 [.d t.d,.d k.d] []=some (.d (.int .i64 (j8 t k)),[]):=fun k hk t=>gj n k t (by have:=Va.size_kid hk;omega) (okVs_mem h4 hk)
  have hl:=fun cn hcn=>j3 t v cn hcn h3 IH v.kids 0 none rfl (aaj _)
  simp only[boxT,boxV,boxW,g8,List.cons_append,List.nil_append,List.append_nil,nc0] at hl;rw[o_ax,checkV_eq];unfold nodeM;simp(disch:=first|exact y7|fail) only[go_sem,X_ax,c_ax,j9,jz t v h1,mo t v h2,ka t v y8,hl,bne]
  repeat' ((try rw[goQ_b])<;>split<;>rename_i hh<;>(try simp only[zu,zq,zk,zn] at hh)<;>(try simp(disch:=first|exact y7|fail) only[*,go_sem,j9,jz t v h1,mo t v h2,ka t v y8,hl,bne]))
