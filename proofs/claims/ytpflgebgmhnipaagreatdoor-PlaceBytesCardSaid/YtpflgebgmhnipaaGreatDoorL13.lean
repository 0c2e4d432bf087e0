/- The evaluator of Go code and its proofs, part 13. Own work. -/
import Derived.Test.YtpflgebgmhnipaaGreatDoorL12
set_option linter.unusedVariables false
set_option linter.unusedSimpArgs false
set_option linter.unusedSectionVars false
/-! EvAuto -/
/- Functions whose code is reckoned when it is asked for; functions that are ranged over, as data. Own work. -/
namespace Go.Ev
open Go

structure AF where
  f : FuncId
  F : Func
  ad : Advice

def autoL (P : Program) : List AF → FuncId → Option IFunc
  | [], _ => none
  | a :: r, f => if a.f = f then cFunc P a.ad a.F else autoL P r f

def AOk (P : Program) (a : AF) : Prop := P.funcs[a.f]? = some a.F ∧ (a.F.name == "runtime.NumGoroutine") = false
def ATab (P : Program) (l : List AF) : Prop := ∀ a ∈ l, AOk P a
theorem ATab.nil {P : Program} : ATab P [] := fun _ h => by cases h
theorem ATab.cons {P : Program} {f : FuncId} {F : Func} {ad : Advice} {l : List AF} (h : P.funcs[f]? = some F) (hn : (F.name == "runtime.NumGoroutine") = false) (hl : ATab P l) : ATab P (⟨f, F, ad⟩ :: l) := fun q hq => by
  rcases List.mem_cons.1 hq with rfl | hq
  · exact ⟨h, hn⟩
  · exact hl q hq

theorem autoL_ok {P : Program} : ∀ {l : List AF}, ATab P l → ∀ {f : FuncId} {fn : IFunc}, autoL P l f = some fn → ∃ F ad c, P.funcs[f]? = some F ∧ (F.name == "runtime.NumGoroutine") = false ∧ F.body = some c ∧ cFunc P ad F = some fn
  | [], _, _, _, h => by cases h
  | a :: l, hl, f, fn, h => by
    unfold autoL at h
    split at h
    · rename_i e
      obtain ⟨h1, h2⟩ := hl a (by simp)
      subst e
      cases hb : a.F.body with
      | none => unfold cFunc at h; rw [hb] at h; cases h
      | some c => exact ⟨a.F, a.ad, c, h1, h2, hb, h⟩
    · exact autoL_ok (fun q hq => hl q (List.mem_cons_of_mem _ hq)) h

/-- printed code ahead, reckoned code behind it -/
def fnsOf (P : Program) (tbl : List (FuncId × IFunc)) (tab : List AF) (f : FuncId) : Option IFunc := match lk tbl f with
  | some fn => some fn
  | none => autoL P tab f

/-! functions that are ranged over -/
def xSeq (g : FuncId) : List D → Option V
  | [.sl es] => some (.clo g [] [.d (.ptr (.sl es))])
  | _ => none
def xSeqN (g : FuncId) : List D → Option V
  | [.sl es, .int .i64 n] => if 1 ≤ n then some (.clo g [] [.d (.ptr (.sl es)), .d (.ptr (.int .i64 n))]) else none
  | _ => none
def pairsFrom : Nat → List D → List (List D)
  | _, [] => []
  | i, x :: r => [.int .i64 i, x] :: pairsFrom (i + 1) r
def iAll : List D → Option (List (List D))
  | [.ptr (.sl es)] => some (pairsFrom 0 es)
  | _ => none
def iBack : List D → Option (List (List D))
  | [.ptr (.sl es)] => some (pairsFrom 0 es).reverse
  | _ => none
/-- elements of z cells -/
def aggN (z : Nat) : D → Bool
  | .agg ds => ds.length == z
  | _ => false
def iBackA (z : Nat) : List D → Option (List (List D))
  | [.ptr (.sl es)] => if es.all (aggN z) = true ∧ es.length ≤ 1000000000 then some (pairsFrom 0 es).reverse else none
  | _ => none
def chunksL : Nat → Nat → List D → List (List D)
  | 0, _, _ => []
  | _, _, [] => []
  | k + 1, n, x :: r => [.sl ((x :: r).take n)] :: chunksL k n ((x :: r).drop n)
def iChunk : List D → Option (List (List D))
  | [.ptr (.sl es), .ptr (.int .i64 n)] => some (chunksL es.length n.toNat es)
  | _ => none

/-- columns of a tree, as ingotref13.flat lays them behind others -/
def flatKids (f : List D → D → Int → Option (List D)) (l : List D) : List D → List D → Int → Option (List D × List D)
  | [], ks, _ => some (l, ks)
  | t :: r, ks, at' => match f l t at' with
    | some l' => flatKids f l' r (ks ++ [.int .i64 l.length]) at'
    | none => none
def flatN : Nat → Int → List D → D → Int → Option (List D)
  | 0, _, _, _, _ => none
  | n + 1, deep, l, .agg [k, nm, .sl kids, a, b, c], parent =>
    match flatKids (flatN n (deep + 1)) (l ++ [.agg [k, nm, .sl kids, a, b, c, .sl [], .int .i64 parent, .int .i64 deep]]) kids [] l.length with
    | some (l', ks) => some (l'.set l.length (.agg [k, nm, .sl kids, a, b, c, .sl ks, .int .i64 parent, .int .i64 deep]))
    | none => none
  | _, _, _, _, _ => none
def xFlat : List D → Option V
  | [.sl l, t, .int .i64 p, .int .i64 d] => (flatN 40 d l t p).map fun r => .own false 9 r
  | _ => none
def bitLen : Nat → Nat → Nat
  | 0, _ => 0
  | k + 1, n => if n = 0 then 0 else bitLen k (n / 2) + 1
def xLen64 : List D → Option V
  | [.int .u64 n] => some (.d (.int .i64 (bitLen 64 n.toNat)))
  | _ => none
end Go.Ev

/-! PlPb -/
/- Fields on a wire, in plain words. Own work. -/
namespace Go.Ev
open Go

structure Fld where
  num : Nat
  wire : Nat
  u : Nat
  b : List UInt8
  pl : Nat
def fld0 : Fld := ⟨0, 0, 0, [], 0⟩
def Fld.d (f : Fld) : D := .agg [.int .i64 (f.num : Int), .int .i64 (f.wire : Int), .int .u64 (f.u : Int), .sl (f.b.map byteD), .int .i64 (f.pl : Int)]

/-- the lowest byte first -/
def leN : List UInt8 → Nat
  | [] => 0
  | c :: r => c.toNat + 256 * leN r
theorem leN_lt : ∀ l : List UInt8, leN l < 256 ^ l.length
  | [] => by simp [leN]
  | c :: r => by
    have := leN_lt r
    have h := u8_lt c
    simp only [leN, List.length_cons, Nat.pow_succ]
    omega
theorem leN_snoc : ∀ (l : List UInt8) (c : UInt8), leN (l ++ [c]) = leN l + c.toNat * 256 ^ l.length
  | [], c => by simp [leN]
  | x :: l, c => by
    simp only [List.cons_append, leN, leN_snoc l c, List.length_cons, Nat.pow_succ]
    rw [Nat.mul_add, Nat.mul_comm 256 (c.toNat * 256 ^ l.length), Nat.mul_assoc]
    omega

/-- a field at a place: it, its bytes, what is wrong -/
def fieldM (l : List UInt8) (p : Nat) : Fld × Nat × Nat :=
  let k := varM 0 0 (l.drop p)
  if k.2.2 ≠ 0 then (fld0, 0, k.2.2) else
  if k.1 / 8 < 1 ∨ k.1 / 8 > 536870911 then (fld0, 0, 2) else
  if k.1 % 8 = 0 then
    let v := varM 0 0 (l.drop (p + k.2.1))
    if v.2.2 ≠ 0 then (fld0, 0, v.2.2) else (⟨k.1 / 8, 0, v.1, [], p⟩, k.2.1 + v.2.1, 0)
  else if k.1 % 8 = 2 then
    let v := varM 0 0 (l.drop (p + k.2.1))
    if v.2.2 ≠ 0 then (fld0, 0, v.2.2) else
    if v.1 > l.length - p - (k.2.1 + v.2.1) then (fld0, 0, 3) else (⟨k.1 / 8, 2, 0, (l.drop (p + (k.2.1 + v.2.1))).take v.1, p⟩, k.2.1 + v.2.1 + v.1, 0)
  else if k.1 % 8 = 1 then
    if 8 > l.length - p - k.2.1 then (fld0, 0, 3) else (⟨k.1 / 8, 1, leN ((l.drop (p + k.2.1)).take 8), [], p⟩, k.2.1 + 8, 0)
  else if k.1 % 8 = 5 then
    if 4 > l.length - p - k.2.1 then (fld0, 0, 3) else (⟨k.1 / 8, 5, leN ((l.drop (p + k.2.1)).take 4), [], p⟩, k.2.1 + 4, 0)
  else (fld0, 0, 2)

def parseN (l : List UInt8) : Nat → Nat → List Fld → List Fld × Nat
  | 0, _, _ => ([], 0)
  | n + 1, p, acc =>
    if p < l.length then
      if 4096 ≤ acc.length then ([], 4) else
      if (fieldM l p).2.2 ≠ 0 then ([], (fieldM l p).2.2) else parseN l n (p + (fieldM l p).2.1) (acc ++ [(fieldM l p).1])
    else (acc, 0)
def parseM (l : List UInt8) : List Fld × Nat := if l.length > 262144 then ([], 4) else parseN l (l.length + 1) 0 []

/-- what may be said of a field that has been read -/
theorem var_fits {l : List UInt8} {p : Nat} (h : (varM 0 0 (l.drop p)).2.2 = 0) (hp : p ≤ l.length) : (varM 0 0 (l.drop p)).1 < 18446744073709551616 ∧ 1 ≤ (varM 0 0 (l.drop p)).2.1 ∧ p + (varM 0 0 (l.drop p)).2.1 ≤ l.length ∧ (varM 0 0 (l.drop p)).2.1 ≤ 10 := by
  obtain ⟨h1, h2, h3, h4, h5⟩ := varM_ok (l.drop p) 0 0 (by omega) (by simp)
  simp only [List.length_drop] at h2
  exact ⟨h1, h5 h, by omega, h3⟩
end Go.Ev
