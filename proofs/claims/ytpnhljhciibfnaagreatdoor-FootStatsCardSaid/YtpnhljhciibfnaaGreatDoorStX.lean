import Derived.Test.YtpnhljhciibfnaaGreatDoorStV
import Derived.Test.YtpnhljhciibfnaaGreatDoorVaF
set_option linter.unusedSimpArgs false
set_option linter.unusedSectionVars false
namespace Go.Proofs.YtpnhljhciibfnaaGreatDoor
open Go Go.Ev
set_option maxHeartbeats 2000000
mutual
def C3:Va→Va→Bool
 | .mk n i m b ks,y=>if !(n==y.null)||i !=y.i||m !=y.n|| !(b==y.b)||(ks.length:Int) !=(y.kids.length:Int) then false else kr ks y.kids
def kr:List Va→List Va→Bool
 |k::r,x::s=>if !C3 k x then false else kr r s
 |_,_=>true
end
theorem U1 (x y:Va):C3 x y=if !(x.null==y.null)||x.i !=y.i||x.n !=y.n|| !(x.b==y.b)||(x.kids.length:Int) !=(y.kids.length:Int) then false else kr x.kids y.kids:=by
 cases x with
 |mk nl i n b ks=>rw[C3];rfl
theorem Fo (k x:Va) (r s:List Va):kr (k::r) (x::s)=if !C3 k x then false else kr r s:=by rw[kr]
theorem Iw (s:List Va):kr [] s=true:=by rw[kr];simp
theorem D4 (a b:Va) (hl:a.kids.length=b.kids.length) (hz:a.kids.length<2 ^ 63) (IH:∀ k∈a.kids,∀ x,evL cfg FX 0 [.d k.d,.d x.d] []=some (.d (.bool (C3 k x)),[])):∀ (r s:List Va) (i:Nat),a.kids.drop i=r→b.kids.drop i=s→i≤a.kids.length→
  go Gq [.c (.loop bt1),.b 0,.c (.seq brm .ret)] ⟨[(2,.ref 0 2 0),(3,.ref 0 3 0),(5,.d (.int .i64 ((i:Int))))],Eu 2 a++Eu 3 b⟩=some (.d (.bool (kr r s)),[])
 | [],s,i,hr,hs,hi=>by
  have:=de hr;have:i=a.kids.length:=aa1;subst this;have d_c:decide ((a.kids.length:Int)<a.kids.length)=false:=by simp<;>omega
  rw[go_loop,Iw];simp(disch:=first|exact aa0|fail) only[go_sem,Gq,d_c,Eu]
 | k::r,[],i,hr,hs,hi=>by
  have h1:=de hs;obtain⟨hlt,_,_⟩:=ej hr;omega
 | k::r,x::s,i,hr,hs,hi=>by
  obtain⟨hlt,hc,hr'⟩:=ej hr;obtain⟨hlt',hc',hs'⟩:=ej hs;have hf:=IH k (List.mem_of_getElem? hc) x;have d_c:decide ((i:Int)<a.kids.length)=true:=by simp<;>omega
  have e1:(i:Int)+1=((i+1:Nat):Int):=aa1;rw[go_loop,Fo];generalize C3 k x=q at *;cases q with
  |false=>simp(disch:=first|exact aa0|fail) only[go_sem,Gq,d_c,hc,hc',hf,Eu]
  | true=>
   have ih:=D4 a b hl hz IH r s (i+1) hr' hs' aa1;simp only[Eu,List.cons_append,List.nil_append] at ih;simp(disch:=first|exact aa0|fail) only[go_sem,Gq,d_c,hc,hc',hf,Eu,e1,ih]
theorem EG:∀ (m:Nat) (a b:Va),a.size≤m→okV a→evL cfg FX 0 [.d a.d,.d b.d] []=some (.d (.bool (C3 a b)),[])
 |0,v,b,h,_=>by have:=v.size_pos;omega
 | m+1,a,b,h,ho=>by
  obtain⟨_,_,hz,h4⟩:=(CA a).1 ho;have IH:∀ k∈a.kids,∀ x,evL cfg FX 0 [.d k.d,.d x.d] []=some (.d (.bool (C3 k x)),[]):=fun k hk x=>EG m k x (by have:=Va.Bu hk;omega) (E5 h4 hk)
  rw[o_a7,U1];rcases aa5 (a.null==b.null) with x1|x1
  rotate_left
  · simp(disch:=first|exact aa0|fail) only[go_sem,Gq,Hh,x1]
  · rcases aa5 (a.i !=b.i) with x2|x2
    · simp(disch:=first|exact aa0|fail) only[go_sem,Gq,Hh,x1,x2]
    · rcases aa5 (a.n !=b.n) with x3|x3
      · simp(disch:=first|exact aa0|fail) only[go_sem,Gq,Hh,x1,x2,x3]
      · rcases aa5 (a.b==b.b) with x4|x4
        rotate_left
        · simp(disch:=first|exact aa0|fail) only[go_sem,Gq,Hh,x1,x2,x3,x4]
        · rcases aa5 ((a.kids.length:Int) !=(b.kids.length:Int)) with x5|x5
          · simp(disch:=first|exact aa0|fail) only[go_sem,Gq,Hh,x1,x2,x3,x4,x5]
          · have hl:a.kids.length=b.kids.length:=by simp at x5;omega
            have h0:=D4 a b hl hz IH a.kids b.kids 0 rfl rfl (acj _);simp only[Eu,nc0,List.cons_append,List.nil_append] at h0;simp(disch:=first|exact aa0|fail) only[go_sem,Gq,Hh,x1,x2,x3,x4,x5,h0]
theorem CL {a:Va} (b:Va) (h:okV a):evL cfg FX 0 [.d a.d,.d b.d] []=some (.d (.bool (C3 a b)),[]):=EG _ a b (abn _) h
set_option maxHeartbeats 8000000
set_option maxRecDepth 10000
def Ig (k:Int):Bool:=decide (k≤4)||k==7||k==16||k==17||k==8||k==14
theorem Xg (k:Int):evL cfg TU 0 [.d (.int .i64 (k))] []=some (.d (.bool (Ig k)),[]):=by
 rw[o_ef];unfold Ig;simp(disch:=first|exact aa0|fail) only[go_sem,X_ef,Zy]
 repeat' ((try rw[Aq])<;>split<;>rename_i hh<;>(try simp only[abh,abf,abb,abc] at hh)<;>(try simp(disch:=first|exact aa0|fail) only[*,go_sem]))
theorem Xt (s:Sv):evL cfg HQ 0 [.d s.d] []=some (.d s.d,[]):=by
 rw[o_ej];unfold Sv.d Sv.cs;simp(maxSteps:=2000000) (disch:=first|exact aa0|fail) only[go_sem,X_ej,Zw]
mutual
theorem wk:∀ x:Va,C3 x x=true
 | .mk n i m b ks=>by
  rw[C3];simp only[Va.null,Va.i,Va.n,Va.b,Va.kids,beq_self_eq_true,acm,bne_self_eq_false,Bool.or_self,aa8,if_false];exact tn ks
theorem tn:∀ l:List Va,kr l l=true
 | []=>by rw[kr];simp
 |k::r=>by rw[Fo,wk k];simp[tn r]
end
theorem Iq (s:Sv) (h1:okV s.mn) (h2:okV s.mx):evL cfg Rt 0 [.d s.d,.d s.d] []=some (.d (.bool (true)),[]):=by
 have a1:=CL s.mn h1;have a2:=CL s.mx h2;rw[wk] at a1 a2;rw[o_d7];obtain⟨cnt,null,has,mn,mx,AU,sum⟩:=s;dsimp only at *;unfold Sv.d Sv.cs;have b1:∀ b:Bool,(b==b)=true:=fun b=>by cases b<;>rfl
 simp(maxSteps:=2000000) (disch:=first|exact aa0|fail) only[go_sem,X_d7,aG,a1,a2,b1,beq_self_eq_true]
theorem GK {x:Va} {i n:Int} {b:Tx} (h:C3 x (leaf i n b)=true):x=leaf i n b:=by
 obtain⟨nl,j,m,c,ks⟩:=x;rw[C3] at h;simp only[leaf,Va.null,Va.i,Va.n,Va.b,Va.kids] at h ⊢;have h:(if(!(nl==false)||j !=i||m !=n|| !(c==b)||(ks.length:Int) !=(([]:List Va).length:Int))=true then false else kr ks [])=true:=h
 cases hq:(!(nl==false)||j !=i||m !=n|| !(c==b)||(ks.length:Int) !=(([]:List Va).length:Int)) with
 |true=>rw[hq] at h;simp at h
 | false=>
  simp only[aca,abc,abm,bne_eq_false_iff_eq,List.length_nil] at hq;obtain⟨⟨⟨⟨e1,e2⟩,e3⟩,e4⟩,e5⟩:=hq;have:ks=[]:=ace aa1;subst this;rw[e1,e2,e3,e4]
structure oX (t:Ty) (s:Sv):Prop where
 cnt:0≤s.cnt∧s.cnt≤262144
 Hx:s.AU=false→s.sum=0
 oF:s.AU=true→Ig t.kind=true
 bool:t.kind=0→s.AU=true→0≤s.sum∧s.sum≤262144
 no:s.has=false→s.mn=va0∧s.mx=va0
 has:s.has=true→DP t.kind=true∧t.kind≠0∧t.kind≠8∧s.mn.null=false∧s.mx.null=false∧CM t s.mn=0∧CM t s.mx=0
theorem TB (t:Ty) (s:Sv) (hg:∀ n,Sn n t) (h1:okV s.mn) (h2:okV s.mx):∃ r:Bool,evL cfg T7 0 [.d t.d,.d s.d] []=some (.d (.bool (r)),[])∧(r=true→oX t s):=by
 have ad:=Xg t.kind;have lf:=dy t.kind;have v0:D.agg [.bool false,.int .i64 0,.int .i64 0,.sl [],.sl []]=va0.d:=by rw[Va.EM];rfl
 have a1:=CL (a:=s.mn) va0 h1;have a2:=CL (a:=s.mx) va0 h2;have k1:=A4 s.mn.size s.mn t (abn _) h1 (hg _);have k2:=A4 s.mx.size s.mx t (abn _) h2 (hg _);rw[o_a8];obtain⟨cnt,null,has,mn,mx,AU,sum⟩:=s;dsimp only at *;unfold Sv.d Sv.cs;rcases aa5 (decide (cnt<0)) with d_a|d_a<;>have p_a:=d_a<;>simp only[aa9,aa7,abm,aba,ne_eq] at p_a
 · exact⟨false,by simp(maxSteps:=2000000) (disch:=first|exact aa0|fail) only[go_sem,DE,Fe,ad,d_a],fun h=>by cases h⟩
 rcases aa5 (decide (cnt>262144)) with d_b|d_b<;>have p_b:=d_b<;>simp only[aa9,aa7,abm,aba,ne_eq] at p_b
 · exact⟨false,by simp(maxSteps:=2000000) (disch:=first|exact aa0|fail) only[go_sem,DE,Fe,ad,d_a,d_b],fun h=>by cases h⟩
 have rest:(AU=false→sum=0)→(AU=true→Ig t.kind=true)→(t.kind=0→AU=true→0≤sum∧sum≤262144)→
     ∃ r:Bool,go DE [.c (.seq brl (.cond (.t 55) (.seq brk .ret) (.seq brj (.seq bri .ret))))]
       ⟨[(2,.ref 0 2 0),(3,.ref 0 3 0),(52,.d (.bool (false)))],Au 2 t++Cc 0 3 ⟨cnt,null,has,mn,mx,AU,sum⟩⟩=some (.d (.bool (r)),[])∧(r=true→oX t ⟨cnt,null,has,mn,mx,AU,sum⟩):=by
   intro g1 g2 g3;simp only[Au,Cc,List.cons_append,List.nil_append];cases has with
   | false=>
     rcases aa5 (C3 mn va0) with q1|q1
     · rcases aa5 (C3 mx va0) with q2|q2
       · exact⟨true,by simp(maxSteps:=2000000) (disch:=first|exact aa0|fail) only[go_sem,DE,a1,a2,v0,q1,q2],fun _=>⟨⟨by dsimp only;omega,by dsimp only;omega⟩,g1,g2,g3,fun _=>⟨GK (i:=0) (n:=0) (b:=[]) q1,GK (i:=0) (n:=0) (b:=[]) q2⟩,fun h=>by cases h⟩⟩
       · exact⟨false,by simp(maxSteps:=2000000) (disch:=first|exact aa0|fail) only[go_sem,DE,a1,a2,v0,q1,q2],fun h=>by cases h⟩
     · exact⟨false,by simp(maxSteps:=2000000) (disch:=first|exact aa0|fail) only[go_sem,DE,a1,a2,v0,q1],fun h=>by cases h⟩
   | true=>
     rcases aa5 (DP t.kind) with q1|q1
     · rcases aa5 (t.kind !=0) with q2|q2
       · rcases aa5 (t.kind !=8) with q3|q3
         · cases hn1:mn.null with
           |true=>exact⟨false,by simp(maxSteps:=2000000) (disch:=first|exact aa0|fail) only[go_sem,DE,lf,q1,q2,q3,hn1],fun h=>by cases h⟩
           | false=>
            cases hn2:mx.null with
            |true=>exact⟨false,by simp(maxSteps:=2000000) (disch:=first|exact aa0|fail) only[go_sem,DE,lf,q1,q2,q3,hn1,hn2],fun h=>by cases h⟩
            | false=>
             rcases aa5 (CM t mn==0) with q4|q4
             · rcases aa5 (CM t mx==0) with q5|q5
               · refine⟨true,?_,fun _=>⟨⟨by dsimp only;omega,by dsimp only;omega⟩,g1,g2,g3,fun h=>(by cases h),fun _=>⟨q1,by simpa using q2,by simpa using q3,hn1,hn2,by simpa using q4,by simpa using q5⟩⟩⟩
                 simp(maxSteps:=2000000) (disch:=first|exact aa0|fail) only[go_sem,DE,lf,q1,q2,q3,hn1,hn2,k1,k2,q4,q5]
               · exact⟨false,by simp(maxSteps:=2000000) (disch:=first|exact aa0|fail) only[go_sem,DE,lf,q1,q2,q3,hn1,hn2,k1,k2,q4,q5],fun h=>by cases h⟩
             · exact⟨false,by simp(maxSteps:=2000000) (disch:=first|exact aa0|fail) only[go_sem,DE,lf,q1,q2,q3,hn1,hn2,k1,k2,q4],fun h=>by cases h⟩
         · exact⟨false,by simp(maxSteps:=2000000) (disch:=first|exact aa0|fail) only[go_sem,DE,lf,q1,q2,q3],fun h=>by cases h⟩
       · exact⟨false,by simp(maxSteps:=2000000) (disch:=first|exact aa0|fail) only[go_sem,DE,lf,q1,q2],fun h=>by cases h⟩
     · exact⟨false,by simp(maxSteps:=2000000) (disch:=first|exact aa0|fail) only[go_sem,DE,lf,q1],fun h=>by cases h⟩
 cases AU with
 | false=>
   rcases aa5 (sum !=0) with q1|q1
   · exact⟨false,by simp(maxSteps:=2000000) (disch:=first|exact aa0|fail) only[go_sem,DE,Fe,ad,d_a,d_b,q1],fun h=>by cases h⟩
   · obtain⟨r,e1,e2⟩:=rest (fun _=>by simpa using q1) (fun h=>by cases h) (fun _ h=>by cases h)
     refine⟨r,Eq.trans ?_ e1,e2⟩;simp only[Au,Cc,List.cons_append,List.nil_append];rcases aa5 (t.kind==0) with q2|q2
     · simp(maxSteps:=2000000) (disch:=first|exact aa0|fail) only[go_sem,DE,Fe,ad,d_a,d_b,q1,q2]
     · simp(maxSteps:=2000000) (disch:=first|exact aa0|fail) only[go_sem,DE,Fe,ad,d_a,d_b,q1,q2]
 | true=>
   rcases aa5 (Ig t.kind) with q1|q1
   · rcases aa5 (t.kind==0) with q2|q2
     · rcases aa5 (decide (sum<0)) with d_c|d_c<;>have p_c:=d_c<;>simp only[aa9,aa7,abm,aba,ne_eq] at p_c
       · exact⟨false,by simp(maxSteps:=2000000) (disch:=first|exact aa0|fail) only[go_sem,DE,Fe,ad,d_a,d_b,q1,q2,d_c],fun h=>by cases h⟩
       · rcases aa5 (decide (sum>262144)) with d_e|d_e<;>have p_e:=d_e<;>simp only[aa9,aa7,abm,aba,ne_eq] at p_e
         · exact⟨false,by simp(maxSteps:=2000000) (disch:=first|exact aa0|fail) only[go_sem,DE,Fe,ad,d_a,d_b,q1,q2,d_c,d_e],fun h=>by cases h⟩
         · obtain⟨r,e1,e2⟩:=rest (fun h=>by cases h) (fun _=>q1) (fun _ _=>⟨by omega,by omega⟩)
           refine⟨r,Eq.trans ?_ e1,e2⟩;simp only[Au,Cc,List.cons_append,List.nil_append];simp(maxSteps:=2000000) (disch:=first|exact aa0|fail) only[go_sem,DE,Fe,ad,d_a,d_b,q1,q2,d_c,d_e]
     · obtain⟨r,e1,e2⟩:=rest (fun h=>by cases h) (fun _=>q1) (fun h _=>by rw[h] at q2;cases q2)
       refine⟨r,Eq.trans ?_ e1,e2⟩;simp only[Au,Cc,List.cons_append,List.nil_append];simp(maxSteps:=2000000) (disch:=first|exact aa0|fail) only[go_sem,DE,Fe,ad,d_a,d_b,q1,q2]
   · exact⟨false,by simp(maxSteps:=2000000) (disch:=first|exact aa0|fail) only[go_sem,DE,Fe,ad,d_a,d_b,q1],fun h=>by cases h⟩
