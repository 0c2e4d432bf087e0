import Derived.Test.YtmeohcmbohicoaaGreatDoorPbE
import Derived.Test.YtmeohcmbohicoaaGreatDoorPbF
namespace Go.Proofs.YtmeohcmbohicoaaGreatDoor
open Go Go.Ev
set_option maxHeartbeats 4000000
def packM (b:List UInt8):Nat→Nat→List Nat→List Nat×Nat
 |0,_,acc=>(acc,0)
 |n+1,p,acc=>if p<b.length then(if(varM 0 0 (b.drop p)).2.2=0 then packM b n (p+(varM 0 0 (b.drop p)).2.1) (acc++[(varM 0 0 (b.drop p)).1]) else([],(varM 0 0 (b.drop p)).2.2)) else(acc,0)
def gy (num:Nat):List Fld→List Nat→List Nat×Nat
 | [],acc=>(acc,0)
 |f::r,acc=>if f.num==num then(if f.wire==0 then gy num r (acc++[f.u]) else if f.wire==2 then(if(packM f.b (f.b.length+1) 0 acc).2=0 then gy num r (packM f.b (f.b.length+1) 0 acc).1 else([],(packM f.b (f.b.length+1) 0 acc).2)) else gy num r acc) else gy num r acc
def uD (u:Nat):D:= .int .u64 (u:Int)
def ut (r:List Nat×Nat):V:= .d (.tup [.sl (r.1.map uD),.int .i64 (r.2:Int)])
theorem ownU (acc:List Nat) (u:Nat):ownZ 1 ((acc++[u]).map uD)= .own false 1 (acc.map uD++[.int .u64 (u:Int)]):=by
 rw[List.map_append,List.map_singleton,bt];rfl
theorem aev {b:List UInt8}:∀ (n p:Nat) (acc:List Nat),(packM b n p acc).1.length≤acc.length+n
 |0,p,acc=>by simp[packM]
 | n+1,p,acc=>by
  rw[packM];split
  · split
    · have:=aev (b:=b) n (p+(varM 0 0 (b.drop p)).2.1) (acc++[(varM 0 0 (b.drop p)).1])
      simp only[v8,List.length_singleton] at this;omega
    · simp
  · simp
theorem aew {b:List UInt8}:∀ (n p:Nat) (acc:List Nat),(packM b n p acc).2≠0→packM b n p acc=([],(packM b n p acc).2)
 |0,p,acc,h=>by simp[packM] at h
 | n+1,p,acc,h=>by
  rw[packM] at h ⊢;split
  · rename_i c
    rw[if_pos c] at h;split
    · rename_i e
      rw[if_pos e] at h;exact aew n _ _ h
    · rfl
  · rename_i c
    rw[if_neg c] at h;simp at h
theorem var_step {b:List UInt8} {p:Nat} (hp:p<b.length) (h:(varM 0 0 (b.drop p)).2.2=0):0<(varM 0 0 (b.drop p)).2.1∧p+(varM 0 0 (b.drop p)).2.1≤b.length:=by
 have:=sx (b.drop p) 0 0 vn vq;have h2:=this.2.1;rw[List.length_drop] at h2;exact⟨this.2.2.2.2 h,by omega⟩
def wt:List Fld→Nat
 | []=>0
 |f::r=>f.b.length+1+wt r
theorem pf (fs:List Fld) (num i:Nat) (x:Fld) (hi:i<fs.length) (hn:fs.length≤1000000) (hx:x.b.length≤1000000) (K:List Kf):∀ (n p:Nat) (acc:List Nat),x.b.length-p<n→p≤x.b.length→acc.length+n≤100000000→
  go X_a9 (.c (.loop t9):: .b 3:: .b 2:: .b 1:: .c tg:: .c (.loop qj):: .b 0::K) ⟨[(1,.d (.int .i64 ((num:Int)))),(6,ownZ 1 (acc.map uD)),(8,.ref 0 8 0),(9,.d (.int .i64 ((p:Int)))),(13,.d (.sl (fs.map Fld.d))),(14,.d (.int .i64 ((fs.length:Int)))),(15,.d (.int .i64 ((i:Int))))],boxF 8 (some x)⟩=
    if(packM x.b n p acc).2=0 then go X_a9 (.c (.loop qj):: .b 0::K) ⟨[(1,.d (.int .i64 ((num:Int)))),(6,ownZ 1 ((packM x.b n p acc).1.map uD)),(13,.d (.sl (fs.map Fld.d))),(14,.d (.int .i64 ((fs.length:Int)))),(15,.d (.int .i64 ((i:Int)+1)))],boxF 8 (some x)⟩ else some (ut (packM x.b n p acc),[])
 |0,p,acc,h,hp,ha=>by omega
 | n+1,p,acc,h,hp,ha=>by
  rw[packM,go_loop];by_cases c:p<x.b.length
  · rw[if_pos c]
    have d_a:decide ((p:Int)<x.b.length)=true:=by simp<;>omega
    have hv:=i5 (b:=x.b) (p:=p) hp hx;by_cases e:(varM 0 0 (x.b.drop p)).2.2=0
    · obtain⟨s1,s2⟩:=var_step c e
      have ih:=pf fs num i x hi hn hx K n (p+(varM 0 0 (x.b.drop p)).2.1) (acc++[(varM 0 0 (x.b.drop p)).1]) vn s2 (by simp only[v8,List.length_singleton];omega)
      rw[if_pos e,← ih,ownU];unfold varD at hv;rw[e] at hv;generalize varM 0 0 (x.b.drop p)=q at *;simp only[boxF];cases acc with
      | nil=>
       simp(disch:=first|exact vm|fail) only[go_sem,X_a9,d_a,vu,hv,Int.natCast_add,List.map_nil,af,List.nil_append]
      | cons y acc=>
       simp only[List.length_cons] at ha;rw[List.map_cons];generalize uD y=w;simp(disch:=first|exact vm|fail) only[go_sem,X_a9,d_a,vu,hv,Int.natCast_add,ak,List.cons_append]
    · rw[if_neg e]
      simp only[if_neg e];have e3:(((varM 0 0 (x.b.drop p)).2.2:Int) !=0)=true:=by simp;omega
      unfold varD at hv;generalize varM 0 0 (x.b.drop p)=q at *;simp only[boxF];simp(disch:=first|exact vm|fail) only[go_sem,X_a9,d_a,vu,hv,ab,e3]
      rfl
  · rw[if_neg c]
    have d_a:decide ((p:Int)<x.b.length)=false:=by simp<;>omega
    simp only[if_true];simp only[boxF];simp(disch:=first|exact vm|fail) only[go_sem,X_a9,d_a,vu,ab]
theorem kq (fs:List Fld) (num:Nat) (hn:fs.length≤1000000) (hb:∀ f∈fs,f.b.length≤1000000):∀ (r:List Fld) (i:Nat) (acc:List Nat) (o:Option Fld),fs.drop i=r→i≤fs.length→acc.length+wt r≤100000000→
  go X_a9 [.c (.loop qj),.b 0,.c (.seq tf .ret)] ⟨[(1,.d (.int .i64 ((num:Int)))),(6,ownZ 1 (acc.map uD)),(13,.d (.sl (fs.map Fld.d))),(14,.d (.int .i64 ((fs.length:Int)))),(15,.d (.int .i64 ((i:Int))))],boxF 8 o⟩=some (ut (gy num r acc),[])
 | [],i,acc,o,hr,hi,ha=>by
  have:=br hr;have d_a:decide ((i:Int)<fs.length)=false:=by simp<;>omega
  rw[go_loop];cases acc with
  | nil=>
   simp(disch:=first|exact vm|fail) only[go_sem,X_a9,am,take5,len5,ai,ac,aj,d_a,List.map_nil,af]
   rfl
  | cons y acc=>
   simp(disch:=first|exact vm|fail) only[go_sem,X_a9,am,take5,len5,ai,ac,aj,d_a,List.map_cons,ak]
   rfl
 | x::r,i,acc,o,hr,hi,ha=>by
  obtain⟨h1,h2,h3⟩:=cc hr;simp only[wt] at ha;have d_a:decide ((i:Int)<fs.length)=true:=by simp<;>omega
  have hx:=hb x (List.mem_of_getElem? h2);have e1:((x.num:Int) !=(num:Int))= !(x.num==num):=by rw[bne,beqN]
  have e0:((x.wire:Int)==0)=(x.wire==0):=beqN x.wire 0;have e2:((x.wire:Int)==2)=(x.wire==2):=beqN x.wire 2;have ih:=fun acc' h=>kq fs num hn hb r (i+1) acc' (some x) h3 h1 h
  simp only[show(((i+1:Nat)):Int)=(i:Int)+1 by omega] at ih
  rw[go_loop,gy];cases hh:x.num==num with
  | false=>
   rw[hh] at e1;simp only[vv,if_false];rw[← ih acc vn];simp(disch:=first|exact vm|fail) only[go_sem,X_a9,am,take5,len5,ai,ac,aj,ab,d_a,vu,co,x9,h2,Option.map_some,Fld.d,e1]
   rfl
  | true=>
   rw[hh] at e1;simp only[if_true];cases hw:x.wire==0 with
   | true=>
    rw[hw] at e0;simp only[if_true];rw[← ih (acc++[x.u]) (by simp only[v8,List.length_singleton];omega),ownU]
    cases acc with
    | nil=>
     simp(disch:=first|exact vm|fail) only[go_sem,X_a9,am,take5,len5,ai,ac,aj,d_a,vu,co,x9,h2,Option.map_some,Fld.d,e1,e0,List.map_nil,af,List.nil_append]
     rfl
    | cons y acc=>
     simp only[List.length_cons] at ha;rw[List.map_cons];generalize uD y=w;simp(disch:=first|exact vm|fail) only[go_sem,X_a9,am,take5,len5,ai,ac,aj,d_a,vu,co,x9,h2,Option.map_some,Fld.d,e1,e0,ak,List.cons_append]
     rfl
   | false=>
    rw[hw] at e0;simp only[vv,if_false];cases hw2:x.wire==2 with
    | false=>
     rw[hw2] at e2;simp only[vv,if_false];rw[← ih acc vn];simp(disch:=first|exact vm|fail) only[go_sem,X_a9,am,take5,len5,ai,ac,aj,ab,d_a,vu,co,x9,h2,Option.map_some,Fld.d,e1,e0,e2]
     rfl
    | true=>
     rw[hw2] at e2;have hin:=pf fs num i x vn hn hx [.c (.seq tf .ret)] (x.b.length+1) 0 acc vn vn vn;have hl:=aev (b:=x.b) (x.b.length+1) 0 acc;rw[show((0:Nat):Int)=0 from rfl] at hin
     simp only[if_true];simp(disch:=first|exact vm|fail) only[go_sem,X_a9,am,take5,len5,ai,ac,aj,ab,d_a,vu,co,x9,h2,Option.map_some,Fld.d,e1,e0,e2]
     refine hin.trans ?_;by_cases e:(packM x.b (x.b.length+1) 0 acc).2=0
     · rw[if_pos e,if_pos e,← ih _ vn]
     · rw[if_neg e,if_neg e]
       rw[aew _ _ _ e]
theorem aep (fs:List Fld) (num:Nat) (hn:fs.length≤1000000) (hb:∀ f∈fs,f.b.length≤1000000) (hw:wt fs≤100000000):evL cfg n_a9 0 [.d (.sl (fs.map Fld.d)),.d (.int .i64 ((num:Int)))] []=some (ut (gy num fs []),[]):=by
 rw[o_a9];have h:=kq fs num hn hb fs 0 [] none rfl (ww _) (by simpa using hw)
 rw[List.map_nil,af,lm] at h;simp(disch:=first|exact vm|fail) only[go_sem,X_a9,c_a9,vu]
 exact h
