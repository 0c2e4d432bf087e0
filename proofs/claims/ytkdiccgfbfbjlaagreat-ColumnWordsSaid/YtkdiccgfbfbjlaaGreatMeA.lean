import Derived.WalkKit
namespace Go.Me
open Go
inductive Tr (α:Type) where
 |lf
 |nd (l:Tr α) (v:Option α) (r:Tr α)
namespace Tr
variable {α:Type}
def get:Tr α→Nat→Option α
 | .lf,_=>none
 | .nd l v r,n=>match n with
  |0=>v
  |m+1=>bif m % 2==0 then l.get (m / 2) else r.get (m / 2)
def set:Nat→Tr α→Nat→α→Tr α
 |0,t,_,_=>t
 | k+1,.lf,n,x=>match n with
  |0=> .nd .lf (some x) .lf
  |m+1=>bif m % 2==0 then .nd (set k .lf (m / 2) x) none .lf else .nd .lf none (set k .lf (m / 2) x)
 | k+1,.nd l v r,n,x=>match n with
  |0=> .nd l (some x) r
  |m+1=>bif m % 2==0 then .nd (set k l (m / 2) x) v r else .nd l v (set k r (m / 2) x)
theorem get_lf (n:Nat):(Tr.lf:Tr α).get n=none:=rfl
theorem get_zero (l:Tr α) (v:Option α) (r:Tr α):(Tr.nd l v r).get 0=v:=rfl
theorem get_left (l:Tr α) (v:Option α) (r:Tr α) {m:Nat} (h:m % 2=0):(Tr.nd l v r).get (m+1)=l.get (m / 2):=by simp[get,h]
theorem get_right (l:Tr α) (v:Option α) (r:Tr α) {m:Nat} (h:m % 2≠0):(Tr.nd l v r).get (m+1)=r.get (m / 2):=by
 have:(m % 2==0)=false:=by simpa using h
 simp[get,this]
theorem set_lfl (k:Nat) {n:Nat} (x:α) (h:n % 2=0):set (k+1) .lf (n+1) x= .nd (set k .lf (n / 2) x) none .lf:=by simp[set,h]
theorem set_lfr (k:Nat) {n:Nat} (x:α) (h:n % 2≠0):set (k+1) .lf (n+1) x= .nd .lf none (set k .lf (n / 2) x):=by
 have:(n % 2==0)=false:=by simpa using h
 simp[set,this]
theorem set_ndl (k:Nat) (l:Tr α) (v:Option α) (r:Tr α) {n:Nat} (x:α) (h:n % 2=0):set (k+1) (.nd l v r) (n+1) x= .nd (set k l (n / 2) x) v r:=by simp[set,h]
theorem set_ndr (k:Nat) (l:Tr α) (v:Option α) (r:Tr α) {n:Nat} (x:α) (h:n % 2≠0):set (k+1) (.nd l v r) (n+1) x= .nd l v (set k r (n / 2) x):=by
 have:(n % 2==0)=false:=by simpa using h
 simp[set,this]
theorem half_ne {n m:Nat} (h:n % 2=m % 2) (hne:m≠n):m / 2≠n / 2:=by omega
theorem get_set:∀ (k:Nat) (t:Tr α) (n m:Nat) (x:α),n<k→(set k t n x).get m=if m=n then some x else t.get m
 |0,_,_,_,_,h=>absurd h (Nat.not_lt_zero _)
 |k+1,.lf,0,m,x,_=>by cases m<;>simp[set,get]
 | k+1,.lf,n+1,m,x,h=>by
  have ih:=fun m'=>get_set k .lf (n / 2) m' x (by omega)
  rw[get_lf];by_cases hp:n % 2=0
  · rw[set_lfl _ _ hp]
    match m with
    |0=>rw[get_zero,if_neg (by omega)]
    | m+1=>
     by_cases hq:m % 2=0
     · rw[get_left _ _ _ hq,ih]
       by_cases he:m=n
       · rw[if_pos (by omega),if_pos (by omega)]
       · rw[if_neg (half_ne (by omega) he),if_neg (by omega),get_lf]
     · rw[get_right _ _ _ hq,if_neg (by omega),get_lf]
  · rw[set_lfr _ _ hp]
    match m with
    |0=>rw[get_zero,if_neg (by omega)]
    | m+1=>
     by_cases hq:m % 2=0
     · rw[get_left _ _ _ hq,if_neg (by omega),get_lf]
     · rw[get_right _ _ _ hq,ih]
       by_cases he:m=n
       · rw[if_pos (by omega),if_pos (by omega)]
       · rw[if_neg (half_ne (by omega) he),if_neg (by omega),get_lf]
 |k+1,.nd l v r,0,m,x,_=>by cases m<;>simp[set,get]
 | k+1,.nd l v r,n+1,m,x,h=>by
  have ihl:=fun m'=>get_set k l (n / 2) m' x (by omega)
  have ihr:=fun m'=>get_set k r (n / 2) m' x (by omega)
  by_cases hp:n % 2=0
  · rw[set_ndl _ _ _ _ _ hp]
    match m with
    |0=>rw[get_zero,get_zero,if_neg (by omega)]
    | m+1=>
     by_cases hq:m % 2=0
     · rw[get_left _ _ _ hq,get_left _ _ _ hq,ihl]
       by_cases he:m=n
       · rw[if_pos (by omega),if_pos (by omega)]
       · rw[if_neg (half_ne (by omega) he),if_neg (by omega)]
     · rw[get_right _ _ _ hq,get_right _ _ _ hq,if_neg (by omega)]
  · rw[set_ndr _ _ _ _ _ hp]
    match m with
    |0=>rw[get_zero,get_zero,if_neg (by omega)]
    | m+1=>
     by_cases hq:m % 2=0
     · rw[get_left _ _ _ hq,get_left _ _ _ hq,if_neg (by omega)]
     · rw[get_right _ _ _ hq,get_right _ _ _ hq,ihr]
       by_cases he:m=n
       · rw[if_pos (by omega),if_pos (by omega)]
       · rw[if_neg (half_ne (by omega) he),if_neg (by omega)]
end Tr
def Tr.put {α:Type} (t:Tr α) (n:Nat) (x:α):Tr α:=Tr.set (n+1) t n x
theorem Tr.get_put {α:Type} (t:Tr α) (n m:Nat) (x:α):(t.put n x).get m=if m=n then some x else t.get m:=Tr.get_set (n+1) t n m x (Nat.lt_succ_self n)
inductive M where
 |bool (b:Bool)
 |int (k:IntKind) (n:Int)
 |str (s:List UInt8)
 |ptr (b o:Nat)
 |glob (g o:Nat)
 |vg (g o:Nat)
 |vsl (g o n:Nat)
 |nilP
 |sl (b o n:Nat) (c:Option Nat)
 |slz
 |nilS
 |fn (f:Fn) (p q:List M)
 |nilF
 |ifc (t:TypeId) (v:M)
 |nilI
 |map (b:Nat)
 |nilM
 |agg (l:List M)
 |tup (l:List M)
 |junk
def M.cell:M→Bool
 | .agg _| .tup _| .junk=>false
 |_=>true
def M.cells:M→List M
 | .agg l=>l
 |x=>[x]
inductive Ob where
 |cells (n:Nat) (ez:Nat) (d:M) (t:Tr M)
 |map (es:List (M×M×Nat)) (clock:Nat)
 |dead
structure Hp where
 n:Nat
 t:Tr Ob
def Hp.get (H:Hp) (b:Nat):Option Ob:=H.t.get b
def Hp.push (H:Hp) (o:Ob):Hp:=⟨H.n+1,H.t.put H.n o⟩
def Hp.put (H:Hp) (b:Nat) (o:Ob):Hp:=⟨H.n,H.t.put b o⟩
def Ob.at:Ob→Nat→Option M
 | .cells n _ d t,i=>bif Nat.blt i n then some (match t.get i with|some x=>x|none=>d) else none
 |_,_=>none
def Hp.rd (H:Hp) (b i:Nat):Option M:=match H.get b with
 |some o=>o.at i
 |none=>none
def Hp.rds (H:Hp) (b:Nat):Nat→Nat→Option (List M)
 |_,0=>some []
 | i,n+1=>match H.rd b i,H.rds b (i+1) n with
  |some x,some l=>some (x::l)
  |_,_=>none
def Ob.set (i:Nat) (x:M):Ob→Option Ob
 | .cells n ex d t=>bif Nat.blt i n&&x.cell then some (.cells n ex d (t.put i x)) else none
 |_=>none
def Ob.sets:Nat→List M→Ob→Option Ob
 |_,[],o=>some o
 | i,x::l,o=>match o.set i x with
  |some o'=>o'.sets (i+1) l
  |none=>none
def Hp.wr (H:Hp) (b i:Nat) (l:List M):Option Hp:=match H.get b with
 | some o=>match o.sets i l with
  |some o'=>bif Nat.blt b H.n then some (H.put b o') else none
  |none=>none
 |none=>none
def trOf:Nat→Tr M→List M→Tr M
 |_,t,[]=>t
 |i,t,x::l=>trOf (i+1) (t.put i x) l
def obOf (ex:Nat) (l:List M):Ob:= .cells l.length ex (.nilP) (trOf 0 .lf l)
mutual
def M.beq:M→M→Bool
 | .bool a,.bool b=>a==b
 | .int k a,.int j b=>decide (k=j)&&(a==b)
 | .str a,.str b=>a==b
 | .ptr a o,.ptr b p=>a==b&&o==p
 | .glob a o,.glob b p=>a==b&&o==p
 | .vg a o,.vg b p=>a==b&&o==p
 | .vsl a o n,.vsl b p m=>a==b&&o==p&&n==m
 | .nilP,.nilP=>true
 | .sl a o n c,.sl b p m d=>a==b&&o==p&&n==m&&c==d
 | .slz,.slz=>true
 | .nilS,.nilS=>true
 | .fn f p q,.fn g r s=>decide (f=g)&&M.beqs p r&&M.beqs q s
 | .nilF,.nilF=>true
 | .ifc t v,.ifc u w=>t==u&&M.beq v w
 | .nilI,.nilI=>true
 | .map a,.map b=>a==b
 | .nilM,.nilM=>true
 | .agg l,.agg m=>M.beqs l m
 | .tup l,.tup m=>M.beqs l m
 | .junk,.junk=>true
 |_,_=>false
def M.beqs:List M→List M→Bool
 | [],[]=>true
 |x::l,y::m=>M.beq x y&&M.beqs l m
 |_,_=>false
end
mutual
theorem M.beq_eq:∀ {x y:M},M.beq x y=true→x=y
 | .bool a,y,h=>by cases y<;>simp_all [M.beq]
 | .int k a,y,h=>by cases y<;>simp_all [M.beq]
 | .str a,y,h=>by cases y<;>simp_all [M.beq]
 | .ptr a o,y,h=>by cases y<;>simp_all [M.beq]
 | .glob a o,y,h=>by cases y<;>simp_all [M.beq]
 | .vg a o,y,h=>by cases y<;>simp_all [M.beq]
 | .vsl a o n,y,h=>by cases y<;>simp_all [M.beq]
 | .nilP,y,h=>by cases y<;>simp_all [M.beq]
 | .sl a o n c,y,h=>by cases y<;>simp_all [M.beq]
 | .slz,y,h=>by cases y<;>simp_all [M.beq]
 | .nilS,y,h=>by cases y<;>simp_all [M.beq]
 | .fn f p q,y,h=>by
  cases y<;>simp only[M.beq,Bool.false_eq_true,Bool.and_eq_true,decide_eq_true_eq] at h;obtain⟨⟨h1,h2⟩,h3⟩:=h;rw[h1,M.beqs_eq h2,M.beqs_eq h3]
 | .nilF,y,h=>by cases y<;>simp_all [M.beq]
 | .ifc t v,y,h=>by
  cases y<;>simp only[M.beq,Bool.false_eq_true,Bool.and_eq_true,beq_iff_eq] at h;rw[h.1,M.beq_eq h.2]
 | .nilI,y,h=>by cases y<;>simp_all [M.beq]
 | .map a,y,h=>by cases y<;>simp_all [M.beq]
 | .nilM,y,h=>by cases y<;>simp_all [M.beq]
 | .agg l,y,h=>by
  cases y<;>simp only[M.beq,Bool.false_eq_true] at h;rw[M.beqs_eq h]
 | .tup l,y,h=>by
  cases y<;>simp only[M.beq,Bool.false_eq_true] at h;rw[M.beqs_eq h]
 | .junk,y,h=>by cases y<;>simp_all [M.beq]
theorem M.beqs_eq:∀ {x y:List M},M.beqs x y=true→x=y
 | [],y,h=>by cases y<;>simp_all [M.beqs]
 | a::x,y,h=>by
  cases y<;>simp only[M.beqs,Bool.false_eq_true,Bool.and_eq_true] at h;rw[M.beq_eq h.1,M.beqs_eq h.2]
end
