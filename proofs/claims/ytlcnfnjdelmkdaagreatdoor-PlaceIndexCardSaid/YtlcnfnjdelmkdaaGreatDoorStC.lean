import Derived.Test.YtlcnfnjdelmkdaaGreatDoorPbE
import Derived.Test.YtlcnfnjdelmkdaaGreatDoorPbF
namespace Go.Proofs.YtlcnfnjdelmkdaaGreatDoor
open Go Go.Ev
set_option maxHeartbeats 4000000
def intD (o:Option Fld):V:= .d (.tup [.int .i64 (zagI (o.getD fld0).u),.bool o.isSome])
theorem bsf {fs:List Fld} (num wire:Nat) (hu:∀ f∈fs,f.u<18446744073709551616):((lastM fs num wire).getD fld0).u<18446744073709551616:=by
 unfold lastM;cases h:fs.reverse.find? (isF num wire) with
 |none=>simp[fld0]
 |some f=>exact hu f (by simpa using List.mem_of_find?_eq_some h)
theorem bfw (fs:List Fld) (num:Nat) (hn:fs.length≤1000000) (hu:∀ f∈fs,f.u<18446744073709551616):evL cfg n_fa 0 [.d (.sl (fs.map Fld.d)),.d (.int .i64 ((num:Int)))] []=some (intD (lastM fs num 0),[]):=by
 rw[o_fa];have h:=m9 fs num 0 hn;have hz:=amv (bsf num 0 hu);rw[show((0:Nat):Int)=0 from rfl] at h
 simp only[lastD,Fld.d] at h;unfold intD;generalize lastM fs num 0=o at *;simp(disch:=first|exact y7|fail) only[go_sem,X_fa,c_fa,h,hz]
theorem e9 (fs:List Fld) (num:Nat) (hn:fs.length≤1000000) (hu:∀ f∈fs,f.u<18446744073709551616):evL cfg n_df 0 [.d (.sl (fs.map Fld.d)),.d (.int .i64 ((num:Int)))] []=some (intD (lastM fs num 0),[]):=by
 rw[o_df];have h:=ag fs num hn;have hz:=yw (bsf num 0 hu);unfold uintD at h;unfold intD;generalize lastM fs num 0=o at *;simp(disch:=first|exact y7|fail) only[go_sem,X_df,c_df,h,hz]
theorem fieldM_u {l:List UInt8} (p:Nat):(b0 l p).1.u<18446744073709551616:=by
 unfold b0;have hv:=fun q=>(rc (l.drop q) 0 0 y8 zb).1
 have h8:=fun q=>beo ((l.drop q).take 8)
 have h4:=fun q=>beo ((l.drop q).take 4)
 have b8:∀ q,leN ((l.drop q).take 8)<18446744073709551616:=fun q=>aap (h8 q) (aai (abc y8 (by rw[List.length_take];omega)) (by decide:256 ^ 8≤18446744073709551616))
 have b4:∀ q,leN ((l.drop q).take 4)<18446744073709551616:=fun q=>aap (h4 q) (aai (abc y8 (by rw[List.length_take];omega)) (by decide:256 ^ 4≤18446744073709551616))
 simp only
 repeat' split
 all_goals first|exact hv _|exact b8 _|exact b4 _| (simp[fld0])
theorem bei {l:List UInt8}:∀ (n p:Nat) (acc:List Fld),(∀ f∈acc,f.u<18446744073709551616)→∀ f∈(fp l n p acc).1,f.u<18446744073709551616
 |0,p,acc,h=>by simp[fp]
 | n+1,p,acc,h=>by
  rw[fp];split
  · split
    · simp
    · split
      · simp
      · refine bei n _ _ ?_
        intro f hf;rcases aa3.1 hf with hf|hf
        · exact h f hf
        · rw[aa1] at hf
          subst hf;exact fieldM_u p
  · exact h
theorem xf (l:List UInt8):∀ f∈(aa l).1,f.u<18446744073709551616:=by
 unfold aa;split
 · simp
 · exact bei _ _ _ zb
def packM (b:List UInt8):Nat→Nat→List Nat→List Nat×Nat
 |0,_,acc=>(acc,0)
 |n+1,p,acc=>if p<b.length then(if(varM 0 0 (b.drop p)).2.2=0 then packM b n (p+(varM 0 0 (b.drop p)).2.1) (acc++[(varM 0 0 (b.drop p)).1]) else([],(varM 0 0 (b.drop p)).2.2)) else(acc,0)
def bm (num:Nat):List Fld→List Nat→List Nat×Nat
 | [],acc=>(acc,0)
 |f::r,acc=>if f.num==num then(if f.wire==0 then bm num r (acc++[f.u]) else if f.wire==2 then(if(packM f.b (f.b.length+1) 0 acc).2=0 then bm num r (packM f.b (f.b.length+1) 0 acc).1 else([],(packM f.b (f.b.length+1) 0 acc).2)) else bm num r acc) else bm num r acc
def uD (u:Nat):D:= .int .u64 (u:Int)
def nr (r:List Nat×Nat):V:= .d (.tup [.sl (r.1.map uD),.int .i64 (r.2:Int)])
theorem ownU (acc:List Nat) (u:Nat):ownZ 1 ((acc++[u]).map uD)= .own false 1 (acc.map uD++[.int .u64 (u:Int)]):=by
 rw[List.map_append,List.map_singleton,k9];rfl
theorem sb {b:List UInt8}:∀ (n p:Nat) (acc:List Nat),(packM b n p acc).1.length≤acc.length+n
 |0,p,acc=>by simp[packM]
 | n+1,p,acc=>by
  rw[packM];split
  · split
    · have:=sb (b:=b) n (p+(varM 0 0 (b.drop p)).2.1) (acc++[(varM 0 0 (b.drop p)).1])
      simp only[aae,List.length_singleton] at this;omega
    · simp
  · simp
theorem sd {b:List UInt8}:∀ (n p:Nat) (acc:List Nat),(packM b n p acc).2≠0→packM b n p acc=([],(packM b n p acc).2)
 |0,p,acc,h=>by simp[packM] at h
 | n+1,p,acc,h=>by
  rw[packM] at h ⊢;split
  · rename_i c
    rw[if_pos c] at h;split
    · rename_i e
      rw[if_pos e] at h;exact sd n _ _ h
    · rfl
  · rename_i c
    rw[if_neg c] at h;simp at h
theorem awa {b:List UInt8} {p:Nat} (hp:p<b.length) (h:(varM 0 0 (b.drop p)).2.2=0):0<(varM 0 0 (b.drop p)).2.1∧p+(varM 0 0 (b.drop p)).2.1≤b.length:=by
 have:=rc (b.drop p) 0 0 y8 zb;have h2:=this.2.1;rw[List.length_drop] at h2;exact⟨this.2.2.2.2 h,by omega⟩
theorem n7 (fs:List Fld) (num i:Nat) (x:Fld) (hi:i<fs.length) (hn:fs.length≤1000000) (h2:fs[i]? =some x) (hw:x.wire=2) (hx:x.b.length≤1000000) (K:List Kf):∀ (n p:Nat) (acc:List Nat),x.b.length-p<n→p≤x.b.length→acc.length+n≤100000000→
  go X_ao (.c (.loop xy):: .b 2:: .b 1:: .c wu:: .c (.loop tf):: .b 0::K) ⟨[(0,.d (.sl (fs.map Fld.d))),(1,.d (.int .i64 ((num:Int)))),(6,ownZ 1 (acc.map uD)),(7,.d (.int .i64 ((i:Int)))),(8,.d (.int .i64 ((p:Int))))],[]⟩=
    if(packM x.b n p acc).2=0 then go X_ao (.c (.loop tf):: .b 0::K) ⟨[(0,.d (.sl (fs.map Fld.d))),(1,.d (.int .i64 ((num:Int)))),(6,ownZ 1 ((packM x.b n p acc).1.map uD)),(7,.d (.int .i64 ((i:Int)+1)))],[]⟩ else some (nr (packM x.b n p acc),[])
 |0,p,acc,h,hp,ha=>by omega
 | n+1,p,acc,h,hp,ha=>by
  have e2:((x.wire:Int)==2)=true:=by rw[hw];rfl
  rw[packM,go_loop];by_cases c:p<x.b.length
  · rw[if_pos c]
    have d_a:decide ((p:Int)<x.b.length)=true:=by simp<;>omega
    have hv:=kt (b:=x.b) (p:=p) hp hx;by_cases e:(varM 0 0 (x.b.drop p)).2.2=0
    · obtain⟨s1,s2⟩:=awa c e
      have ih:=n7 fs num i x hi hn h2 hw hx K n (p+(varM 0 0 (x.b.drop p)).2.1) (acc++[(varM 0 0 (x.b.drop p)).1]) y8 s2 (by simp only[aae,List.length_singleton];omega)
      rw[if_pos e,← ih,ownU];unfold varD at hv;rw[e] at hv;generalize varM 0 0 (x.b.drop p)=q at *;cases acc with
      | nil=>
       simp(disch:=first|exact y7|fail) only[go_sem,X_ao,d_a,zj,ae,zx,h2,Option.map_some,Fld.d,e2,hv,Int.natCast_add,List.map_nil,ai,List.nil_append]
      | cons y acc=>
       simp only[List.length_cons] at ha;rw[List.map_cons];generalize uD y=w;simp(disch:=first|exact y7|fail) only[go_sem,X_ao,d_a,zj,ae,zx,h2,Option.map_some,Fld.d,e2,hv,Int.natCast_add,am,List.cons_append]
    · rw[if_neg e]
      simp only[if_neg e];have e3:(((varM 0 0 (x.b.drop p)).2.2:Int) !=0)=true:=by simp;omega
      unfold varD at hv;generalize varM 0 0 (x.b.drop p)=q at *;simp(disch:=first|exact y7|fail) only[go_sem,X_ao,d_a,zj,ae,zx,h2,Option.map_some,Fld.d,e2,hv,ap,e3]
      rfl
  · rw[if_neg c]
    have d_a:decide ((p:Int)<x.b.length)=false:=by simp<;>omega
    simp only[if_true];simp(disch:=first|exact y7|fail) only[go_sem,X_ao,d_a,zj,ae,zx,h2,Option.map_some,Fld.d,e2,ap]
def wt:List Fld→Nat
 | []=>0
 |f::r=>f.b.length+1+wt r
theorem kq (fs:List Fld) (num:Nat) (hn:fs.length≤1000000) (hb:∀ f∈fs,f.b.length≤1000000):∀ (r:List Fld) (i:Nat) (acc:List Nat),fs.drop i=r→i≤fs.length→acc.length+wt r≤100000000→
  go X_ao [.c (.loop tf),.b 0,.c (.seq ws .ret)] ⟨[(0,.d (.sl (fs.map Fld.d))),(1,.d (.int .i64 ((num:Int)))),(6,ownZ 1 (acc.map uD)),(7,.d (.int .i64 ((i:Int))))],[]⟩=some (nr (bm num r acc),[])
 | [],i,acc,hr,hi,ha=>by
  have:=bd hr;have d_a:decide ((i:Int)<fs.length)=false:=by simp<;>omega
  rw[go_loop];cases acc with
  | nil=>
   simp(disch:=first|exact y7|fail) only[go_sem,X_ao,d_a,zj,List.map_nil,ai]
   rfl
  | cons y acc=>
   simp(disch:=first|exact y7|fail) only[go_sem,X_ao,d_a,zj,List.map_cons,am]
   rfl
 | x::r,i,acc,hr,hi,ha=>by
  obtain⟨h1,h2,h3⟩:=cc hr;simp only[wt] at ha;have d_a:decide ((i:Int)<fs.length)=true:=by simp<;>omega
  have hx:=hb x (List.mem_of_getElem? h2);have e1:((x.num:Int) !=(num:Int))= !(x.num==num):=by rw[bne,beqN]
  have e0:((x.wire:Int)==0)=(x.wire==0):=beqN x.wire 0;have e2:((x.wire:Int)==2)=(x.wire==2):=beqN x.wire 2;have ih:=fun acc' h=>kq fs num hn hb r (i+1) acc' h3 h1 h
  simp only[show(((i+1:Nat)):Int)=(i:Int)+1 by omega] at ih
  rw[go_loop,bm];cases hh:x.num==num with
  | false=>
   rw[hh] at e1;simp only[zh,if_false];rw[← ih acc y8];simp(disch:=first|exact y7|fail) only[go_sem,X_ao,ap,d_a,zj,ae,zx,h2,Option.map_some,Fld.d,e1]
  | true=>
   rw[hh] at e1;simp only[if_true];cases hw:x.wire==0 with
   | true=>
    have hw2:(x.wire==2)=false:=by simp at hw;simp[hw]
    rw[hw] at e0;rw[hw2] at e2;simp only[if_true];rw[← ih (acc++[x.u]) (by simp only[aae,List.length_singleton];omega),ownU]
    cases acc with
    | nil=>
     simp(disch:=first|exact y7|fail) only[go_sem,X_ao,d_a,zj,ae,zx,h2,Option.map_some,Fld.d,e1,e0,List.map_nil,ai,List.nil_append]
     rw[go_loop];simp(disch:=first|exact y7|fail) only[go_sem,X_ao,d_a,zj,ae,zx,h2,Option.map_some,Fld.d,e2]
    | cons y acc=>
     simp only[List.length_cons] at ha;rw[List.map_cons];generalize uD y=w;simp(disch:=first|exact y7|fail) only[go_sem,X_ao,d_a,zj,ae,zx,h2,Option.map_some,Fld.d,e1,e0,am,List.cons_append]
     rw[go_loop];simp(disch:=first|exact y7|fail) only[go_sem,X_ao,d_a,zj,ae,zx,h2,Option.map_some,Fld.d,e2]
   | false=>
    rw[hw] at e0;simp only[zh,if_false];cases hw2:x.wire==2 with
    | false=>
     rw[hw2] at e2;simp only[zh,if_false];rw[← ih acc y8];simp(disch:=first|exact y7|fail) only[go_sem,X_ao,ap,d_a,zj,ae,zx,h2,Option.map_some,Fld.d,e1,e0]
     rw[go_loop];simp(disch:=first|exact y7|fail) only[go_sem,X_ao,ap,d_a,zj,ae,zx,h2,Option.map_some,Fld.d,e2]
    | true=>
     have hin:=n7 fs num i x y8 hn h2 (by simpa using hw2) hx [.c (.seq ws .ret)] (x.b.length+1) 0 acc y8 y8 y8
     have hl:=sb (b:=x.b) (x.b.length+1) 0 acc;rw[show((0:Nat):Int)=0 from rfl] at hin
     simp only[if_true];simp(disch:=first|exact y7|fail) only[go_sem,X_ao,ap,d_a,zj,ae,zx,h2,Option.map_some,Fld.d,e1,e0]
     refine hin.trans ?_;by_cases e:(packM x.b (x.b.length+1) 0 acc).2=0
     · rw[if_pos e,if_pos e,← ih _ y8]
     · rw[if_neg e,if_neg e]
       rw[sd _ _ _ e]
theorem mr (fs:List Fld) (num:Nat) (hn:fs.length≤1000000) (hb:∀ f∈fs,f.b.length≤1000000) (hw:wt fs≤100000000):evL cfg n_ao 0 [.d (.sl (fs.map Fld.d)),.d (.int .i64 ((num:Int)))] []=some (nr (bm num fs []),[]):=by
 rw[o_ao];have h:=kq fs num hn hb fs 0 [] rfl (aaj _) (by simpa using hw)
 rw[List.map_nil,ai] at h;simp(disch:=first|exact y7|fail) only[go_sem,X_ao,c_ao]
 exact h
