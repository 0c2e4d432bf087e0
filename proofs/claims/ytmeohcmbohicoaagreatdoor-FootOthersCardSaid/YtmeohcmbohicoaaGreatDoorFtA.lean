import Derived.Test.YtmeohcmbohicoaaGreatDoorPbF
import Derived.Test.YtmeohcmbohicoaaGreatDoorPbE
namespace Go.Proofs.YtmeohcmbohicoaaGreatDoor
open Go Go.Ev
set_option maxHeartbeats 4000000
def fldsD (l:List Fld):D:= .sl (l.map Fld.d)
def ji (l:List UInt8):D:= .sl (l.map byteD)
structure Parts where
 a:List (List Fld)
 b:List (List Fld)
 c:List (List Fld)
 e:List (List Fld)
 st:List (List UInt8)
def Parts.add (p:Parts) (f:Fld):Parts:=
 if f.wire≠2 then p else
 if f.num=7 then {p with e:=p.e++[(a5 f.b).1],st:=p.st++[f.b]} else
 if f.num=3 then {p with a:=p.a++[(a5 f.b).1]} else
 if f.num=4 then {p with b:=p.b++[(a5 f.b).1]} else
 if f.num=5 then {p with c:=p.c++[(a5 f.b).1]} else p
def splM:List Fld→Parts→Parts
 | [],p=>p
 |f::r,p=>splM r (p.add f)
def Parts.small (p:Parts) (n:Nat):Prop:=p.a.length≤n∧p.b.length≤n∧p.c.length≤n∧p.e.length≤n∧p.st.length≤n
theorem Parts.small_add {p:Parts} {n:Nat} (h:p.small n) (f:Fld):(p.add f).small (n+1):=by
 obtain⟨h1,h2,h3,h4,h5⟩:=h;unfold Parts.add
 repeat' split
 all_goals (refine⟨?_,?_,?_,?_,?_⟩<;>(try simp only[v8,List.length_cons,List.length_nil])<;>omega)
def wantF (f:Fld):Prop:=f.wire=2→(f.num=7∨f.num=3∨f.num=4∨f.num=5)→(a5 f.b).2=0
abbrev zS (k:Nat):List (Cel×V):=[(⟨0,k,0⟩,.d .nilS),(⟨0,k,1⟩,.d .nilS),(⟨0,k,2⟩,.d .nilS),(⟨0,k,3⟩,.d .nilS),(⟨0,k,4⟩,.d .nilS),(⟨0,k,5⟩,.d .nilS),(⟨0,k,6⟩,.d .nilS),(⟨0,k,7⟩,.d .nilS),(⟨0,k,8⟩,.d .nilS)]
abbrev pS (k:Nat) (p:Parts):List (Cel×V):=[(⟨0,k,0⟩,.d .nilS),(⟨0,k,1⟩,.d .nilS),(⟨0,k,2⟩,.d .nilS),(⟨0,k,3⟩,ownZ 1 (p.a.map fldsD)),(⟨0,k,4⟩,ownZ 1 (p.b.map fldsD)),(⟨0,k,5⟩,ownZ 1 (p.c.map fldsD)),(⟨0,k,6⟩,.d .nilS),(⟨0,k,7⟩,ownZ 1 (p.e.map fldsD)),(⟨0,k,8⟩,ownZ 1 (p.st.map ji))]
theorem cst3:((3:Nat):Int)=3:=rfl
theorem cst4:((4:Nat):Int)=4:=rfl
theorem cst5:((5:Nat):Int)=5:=rfl
theorem cst7:((7:Nat):Int)=7:=rfl
theorem cst8:((8:Nat):Int)=8:=rfl
theorem cst2:((2:Nat):Int)=2:=rfl
theorem ownP (acc:List (List Fld)) (f:List Fld):ownZ 1 ((acc++[f]).map fldsD)= .own false 1 (acc.map fldsD++[.sl (f.map Fld.d)]):=by
 rw[List.map_append,List.map_cons,List.map_nil,bt];rfl
theorem ownQ (acc:List (List UInt8)) (f:List UInt8):ownZ 1 ((acc++[f]).map ji)= .own false 1 (acc.map ji++[.sl (f.map byteD)]):=by
 rw[List.map_append,List.map_cons,List.map_nil,bt];rfl
abbrev splE (fs:List Fld) (i:Nat):List (Nat×V):=[(2,.ref 0 2 0),(4,.ref 0 4 0),(9,.d (.sl (fs.map Fld.d))),(10,.d (.int .i64 ((fs.length:Int)))),(11,.d (.int .i64 ((i:Int))))]
theorem q7 (fs:List Fld) (i:Nat) (f:Fld) (p:Parts) (o:Option Fld) (hf:fs[i]? =some f) (hi:i<fs.length) (hn:fs.length≤1000000) (hw:f.wire≠2∨(f.num≠7∧f.num≠3∧f.num≠4∧f.num≠5)) (K:List Kf):
   go X_ay (.c (.loop dl)::K) ⟨splE fs i,zS 2++pS 4 p++boxF 6 o⟩=go X_ay (.c (.loop dl)::K) ⟨splE fs (i+1),zS 2++pS 4 p++boxF 6 (some f)⟩:=by
 have d_a:decide ((i:Int)<fs.length)=true:=by simp<;>omega
 have hS:=ac 6 o;have hF:=ai 6 o;generalize boxF 6 o=T at*
 conv=>lhs;rw[go_loop]
 obtain⟨num,wire,u,b,pl⟩:=f;simp only at hw;simp only[List.cons_append,List.nil_append,boxF];by_cases w:wire=2
 · subst w
   have hw:=hw.resolve_left vq;have e7:((num:Int)==7)=false:=by simp;omega
   have e3:((num:Int)==3)=false:=by simp;omega
   have e4:((num:Int)==4)=false:=by simp;omega
   have e5:((num:Int)==5)=false:=by simp;omega
   simp(disch:=first|exact vm|fail) only[go_sem,X_ay,d_a,hS,hF,ab,am,hf,Fld.d,take5,len5,e7,e3,e4,e5,cst2]
   rfl
 · have dw:((wire:Int) !=2)=true:=by simp;omega
   simp(disch:=first|exact vm|fail) only[go_sem,X_ay,d_a,hS,hF,ab,am,hf,Fld.d,take5,len5,dw]
   rfl
theorem split_3 (fs:List Fld) (i:Nat) (f:Fld) (p:Parts) (o:Option Fld) (hf:fs[i]? =some f) (hi:i<fs.length) (hn:fs.length≤1000000) (hw:f.wire=2) (hm:f.num=3) (hp:(a5 f.b).2=0) (hb:f.b.length≤1000000) (hs:p.small 1000000) (K:List Kf):
  go X_ay (.c (.loop dl)::K) ⟨splE fs i,zS 2++pS 4 p++boxF 6 o⟩=go X_ay (.c (.loop dl)::K) ⟨splE fs (i+1),zS 2++pS 4 {p with a:=p.a++[(a5 f.b).1]}++boxF 6 (some f)⟩:=by
 have d_a:decide ((i:Int)<fs.length)=true:=by simp<;>omega
 obtain⟨s1,s2,s3,s4,s5⟩:=hs;have hS:=ac 6 o;have hF:=ai 6 o;generalize boxF 6 o=T at*
 conv=>lhs;rw[go_loop]
 have hpa:=cw f.b hb;unfold m6 at hpa;rw[hp] at hpa;obtain⟨num,wire,u,b,pl⟩:=f;simp only at hw hm hpa hp hb ⊢;subst hw;subst hm;generalize(a5 b).1=q at *;obtain⟨pa,pb,pc,pe,pt⟩:=p;simp only at s1 s2 s3 s4 s5 ⊢;simp only[List.cons_append,List.nil_append,boxF,ownP];cases pa with
 | nil=>
  simp(disch:=first|exact vm|fail) only[go_sem,X_ay,d_a,hS,hF,ab,am,hf,Fld.d,take5,len5,cst3,cst2,cst8,hpa,List.map_nil,af,Int.reduceLE,Int.reduceLT,Int.reduceToNat,Nat.reduceMul,and_self,if_true,List.nil_append]
  rfl
 | cons y pa=>
  simp only[List.length_cons] at s1 s2 s3 s4 s5;simp(disch:=first|exact vm|fail) only[go_sem,X_ay,d_a,hS,hF,ab,am,hf,Fld.d,take5,len5,cst3,cst2,cst8,hpa,List.map_cons,ak,Int.reduceLE,Int.reduceLT,Int.reduceToNat,Nat.reduceMul,and_self,if_true,List.length_cons,vu,List.cons_append]
  rfl
theorem split_4 (fs:List Fld) (i:Nat) (f:Fld) (p:Parts) (o:Option Fld) (hf:fs[i]? =some f) (hi:i<fs.length) (hn:fs.length≤1000000) (hw:f.wire=2) (hm:f.num=4) (hp:(a5 f.b).2=0) (hb:f.b.length≤1000000) (hs:p.small 1000000) (K:List Kf):
  go X_ay (.c (.loop dl)::K) ⟨splE fs i,zS 2++pS 4 p++boxF 6 o⟩=go X_ay (.c (.loop dl)::K) ⟨splE fs (i+1),zS 2++pS 4 {p with b:=p.b++[(a5 f.b).1]}++boxF 6 (some f)⟩:=by
 have d_a:decide ((i:Int)<fs.length)=true:=by simp<;>omega
 obtain⟨s1,s2,s3,s4,s5⟩:=hs;have hS:=ac 6 o;have hF:=ai 6 o;generalize boxF 6 o=T at*
 conv=>lhs;rw[go_loop]
 have hpa:=cw f.b hb;unfold m6 at hpa;rw[hp] at hpa;obtain⟨num,wire,u,b,pl⟩:=f;simp only at hw hm hpa hp hb ⊢;subst hw;subst hm;generalize(a5 b).1=q at *;obtain⟨pa,pb,pc,pe,pt⟩:=p;simp only at s1 s2 s3 s4 s5 ⊢;simp only[List.cons_append,List.nil_append,boxF,ownP];cases pb with
 | nil=>
  simp(disch:=first|exact vm|fail) only[go_sem,X_ay,d_a,hS,hF,ab,am,hf,Fld.d,take5,len5,cst4,cst2,cst8,hpa,List.map_nil,af,Int.reduceLE,Int.reduceLT,Int.reduceToNat,Nat.reduceMul,and_self,if_true,List.nil_append]
  rfl
 | cons y pb=>
  simp only[List.length_cons] at s1 s2 s3 s4 s5;simp(disch:=first|exact vm|fail) only[go_sem,X_ay,d_a,hS,hF,ab,am,hf,Fld.d,take5,len5,cst4,cst2,cst8,hpa,List.map_cons,ak,Int.reduceLE,Int.reduceLT,Int.reduceToNat,Nat.reduceMul,and_self,if_true,List.length_cons,vu,List.cons_append]
  rfl
theorem split_5 (fs:List Fld) (i:Nat) (f:Fld) (p:Parts) (o:Option Fld) (hf:fs[i]? =some f) (hi:i<fs.length) (hn:fs.length≤1000000) (hw:f.wire=2) (hm:f.num=5) (hp:(a5 f.b).2=0) (hb:f.b.length≤1000000) (hs:p.small 1000000) (K:List Kf):
  go X_ay (.c (.loop dl)::K) ⟨splE fs i,zS 2++pS 4 p++boxF 6 o⟩=go X_ay (.c (.loop dl)::K) ⟨splE fs (i+1),zS 2++pS 4 {p with c:=p.c++[(a5 f.b).1]}++boxF 6 (some f)⟩:=by
 have d_a:decide ((i:Int)<fs.length)=true:=by simp<;>omega
 obtain⟨s1,s2,s3,s4,s5⟩:=hs;have hS:=ac 6 o;have hF:=ai 6 o;generalize boxF 6 o=T at*
 conv=>lhs;rw[go_loop]
 have hpa:=cw f.b hb;unfold m6 at hpa;rw[hp] at hpa;obtain⟨num,wire,u,b,pl⟩:=f;simp only at hw hm hpa hp hb ⊢;subst hw;subst hm;generalize(a5 b).1=q at *;obtain⟨pa,pb,pc,pe,pt⟩:=p;simp only at s1 s2 s3 s4 s5 ⊢;simp only[List.cons_append,List.nil_append,boxF,ownP];cases pc with
 | nil=>
  simp(disch:=first|exact vm|fail) only[go_sem,X_ay,d_a,hS,hF,ab,am,hf,Fld.d,take5,len5,cst5,cst2,cst8,hpa,List.map_nil,af,Int.reduceLE,Int.reduceLT,Int.reduceToNat,Nat.reduceMul,and_self,if_true,List.nil_append]
  rfl
 | cons y pc=>
  simp only[List.length_cons] at s1 s2 s3 s4 s5;simp(disch:=first|exact vm|fail) only[go_sem,X_ay,d_a,hS,hF,ab,am,hf,Fld.d,take5,len5,cst5,cst2,cst8,hpa,List.map_cons,ak,Int.reduceLE,Int.reduceLT,Int.reduceToNat,Nat.reduceMul,and_self,if_true,List.length_cons,vu,List.cons_append]
  rfl
theorem split_7 (fs:List Fld) (i:Nat) (f:Fld) (p:Parts) (o:Option Fld) (hf:fs[i]? =some f) (hi:i<fs.length) (hn:fs.length≤1000000) (hw:f.wire=2) (hm:f.num=7) (hp:(a5 f.b).2=0) (hb:f.b.length≤1000000) (hs:p.small 1000000) (K:List Kf):
  go X_ay (.c (.loop dl)::K) ⟨splE fs i,zS 2++pS 4 p++boxF 6 o⟩=go X_ay (.c (.loop dl)::K) ⟨splE fs (i+1),zS 2++pS 4 {p with e:=p.e++[(a5 f.b).1],st:=p.st++[f.b]}++boxF 6 (some f)⟩:=by
 have d_a:decide ((i:Int)<fs.length)=true:=by simp<;>omega
 obtain⟨s1,s2,s3,s4,s5⟩:=hs;have hS:=ac 6 o;have hF:=ai 6 o;generalize boxF 6 o=T at*
 conv=>lhs;rw[go_loop]
 have hpa:=cw f.b hb;unfold m6 at hpa;rw[hp] at hpa;obtain⟨num,wire,u,b,pl⟩:=f;simp only at hw hm hpa hp hb ⊢;subst hw;subst hm;generalize(a5 b).1=q at *;obtain⟨pa,pb,pc,pe,pt⟩:=p;simp only at s1 s2 s3 s4 s5 ⊢;simp only[List.cons_append,List.nil_append,boxF,ownP,ownQ];cases pe with
 | nil=>
  cases pt with
  | nil=>
   simp(disch:=first|exact vm|fail) only[go_sem,X_ay,d_a,hS,hF,ab,am,hf,Fld.d,take5,len5,cst7,cst2,cst8,hpa,List.map_nil,af,Int.reduceLE,Int.reduceLT,Int.reduceToNat,Nat.reduceMul,and_self,if_true,List.nil_append]
   rfl
  | cons x pt=>
   simp only[List.length_cons] at s1 s2 s3 s4 s5;simp(disch:=first|exact vm|fail) only[go_sem,X_ay,d_a,hS,hF,ab,am,hf,Fld.d,take5,len5,cst7,cst2,cst8,hpa,List.map_nil,List.map_cons,af,ak,Int.reduceLE,Int.reduceLT,Int.reduceToNat,Nat.reduceMul,and_self,if_true,List.length_cons,vu,List.nil_append,List.cons_append]
   rfl
 | cons y pe=>
  cases pt with
  | nil=>
   simp only[List.length_cons] at s1 s2 s3 s4 s5;simp(disch:=first|exact vm|fail) only[go_sem,X_ay,d_a,hS,hF,ab,am,hf,Fld.d,take5,len5,cst7,cst2,cst8,hpa,List.map_nil,List.map_cons,af,ak,Int.reduceLE,Int.reduceLT,Int.reduceToNat,Nat.reduceMul,and_self,if_true,List.length_cons,vu,List.nil_append,List.cons_append]
   rfl
  | cons x pt=>
   simp only[List.length_cons] at s1 s2 s3 s4 s5;simp(disch:=first|exact vm|fail) only[go_sem,X_ay,d_a,hS,hF,ab,am,hf,Fld.d,take5,len5,cst7,cst2,cst8,hpa,List.map_nil,List.map_cons,af,ak,Int.reduceLE,Int.reduceLT,Int.reduceToNat,Nat.reduceMul,and_self,if_true,List.length_cons,vu,List.nil_append,List.cons_append]
   rfl
theorem q8 (fs:List Fld) (hn:fs.length≤100000) (hb:∀ f∈fs,f.b.length≤1000000) (hw:∀ f∈fs,wantF f) (K:List Kf):∀ (r:List Fld) (i:Nat) (p:Parts) (o:Option Fld),fs.drop i=r→i≤fs.length→p.small i→
  ∃ o',go X_ay (.c (.loop dl):: .b 0::K) ⟨splE fs i,zS 2++pS 4 p++boxF 6 o⟩=go X_ay K ⟨splE fs fs.length++[(12,.d (.bool (false)))],zS 2++pS 4 (splM r p)++boxF 6 o'⟩
 | [],i,p,o,hr,hi,hs=>by
  have:=br hr;have:i=fs.length:=vn;subst this;refine⟨o,?_⟩;have d_a:decide ((fs.length:Int)<fs.length)=false:=by simp<;>omega
  have hS:=ac 6 o;rw[splM];generalize boxF 6 o=T at *;rw[go_loop];simp only[List.cons_append,List.nil_append];simp(disch:=first|exact vm|fail) only[go_sem,X_ay,d_a,hS,ab]
 | f::r,i,p,o,hr,hi,hs=>by
  obtain⟨h1,h2,h3⟩:=cc hr;have hm:f∈fs:=List.mem_of_getElem? h2;have hp:p.small 1000000:=by obtain⟨a,b,c,d,e⟩:=hs;exact⟨by omega,by omega,by omega,by omega,by omega⟩
  rw[splM];obtain⟨o',ih⟩:=q8 fs hn hb hw K r (i+1) (p.add f) (some f) h3 h1 (Parts.small_add hs f);refine⟨o',Eq.trans ?_ ih⟩;have hlt:i<fs.length:=h1;unfold Parts.add;by_cases w:f.wire=2
  · rw[if_neg (by simp[w])]
    by_cases n7:f.num=7
    · rw[if_pos n7];exact split_7 fs i f p o h2 hlt vn w n7 (hw f hm w (.inl n7)) (hb f hm) hp _
    · rw[if_neg n7]
      by_cases n3:f.num=3
      · rw[if_pos n3];exact split_3 fs i f p o h2 hlt vn w n3 (hw f hm w (.inr (.inl n3))) (hb f hm) hp _
      · rw[if_neg n3]
        by_cases n4:f.num=4
        · rw[if_pos n4];exact split_4 fs i f p o h2 hlt vn w n4 (hw f hm w (.inr (.inr (.inl n4)))) (hb f hm) hp _
        · rw[if_neg n4]
          by_cases n5:f.num=5
          · rw[if_pos n5];exact split_5 fs i f p o h2 hlt vn w n5 (hw f hm w (.inr (.inr (.inr n5)))) (hb f hm) hp _
          · rw[if_neg n5];exact q7 fs i f p o h2 hlt vn (.inr ⟨n7,n3,n4,n5⟩) _
  · rw[if_pos w];exact q7 fs i f p o h2 hlt vn (.inl w) _
def iw (p:Parts):D:= .agg [.sl [],.sl [],.sl [],.sl (p.a.map fldsD),.sl (p.b.map fldsD),.sl (p.c.map fldsD),.sl [],.sl (p.e.map fldsD),.sl (p.st.map ji)]
def i6:Parts:=⟨[],[],[],[],[]⟩
theorem len9 (a b c d e f g h i:D):[a,b,c,d,e,f,g,h,i].length=9:=rfl
theorem qt (fs:List Fld) (hn:fs.length≤100000) (hb:∀ f∈fs,f.b.length≤1000000) (hw:∀ f∈fs,wantF f):evL cfg n_ay 0 [.d (.sl (fs.map Fld.d))] []=some (.d (.tup [iw (splM fs i6),.int .i64 0]),[]):=by
 rw[o_ay];obtain⟨o,h⟩:=q8 fs hn hb hw [.c (.seq agn .ret)] fs 0 i6 none rfl (ww _) ⟨ww _,ww _,ww _,ww _,ww _⟩;generalize splM fs i6=q at *;simp only[i6,List.map_nil,af,lm,List.append_nil,List.cons_append,List.nil_append,splE] at h;simp(disch:=first|exact vm|fail) only[go_sem,X_ay,c_ay,vu]
 refine h.trans ?_;clear h;have hS:=ac 6 o;have hL:=aj 6 o;generalize boxF 6 o=T at *;obtain⟨pa,pb,pc,pe,pt⟩:=q;unfold iw;cases pa<;>cases pb<;>cases pc<;>cases pe<;>cases pt<;>simp only[List.map_nil,List.map_cons,af,ak]<;>
 simp(disch:=first|exact vm|fail) only[go_sem,X_ay,hS,hL,len9]<;>rfl
