/- Values: a copy. -/
import Derived.Test.YtnabebdceaoiiaaGreatDoorVaH
import Derived.Test.YtnabebdceaoiiaaGreatDoorBas
namespace Go.Proofs.YtnabebdceaoiiaaGreatDoor
open Go Go.Ev
set_option linter.unusedVariables false
set_option linter.unusedSimpArgs false
set_option maxHeartbeats 4000000

theorem fz (b : Tx) (hl : b.length ≤ 1000000) : evL cfg n_ax 0 [.d (txt b)] [] = some ((if b.isEmpty then .d .nilS else .own false 1 (b.map byteD)), []) := by
  cases b with
  | nil => exact l9 (n := 3) (by kernel_rfl)
  | cons c b =>
    rw [o_ax]
    unfold txt
    rw [List.length_cons] at hl
    simp (disch := first | omega | (simp only [go_sem, List.length_take, List.length_drop] <;> omega) | assumption | decide | fail) only [go_sem, X_ax, c_ax, List.isEmpty, List.map_cons, Nat.reduceLeDiff, Nat.reduceLT, Nat.reduceAdd, Int.reduceAdd, Int.reduceSub, Int.reduceNeg, ↓reduceIte, Nat.reduceEqDiff, reduceCtorEq, Int.reduceBEq, Int.reduceBNe, Nat.reduceBEq]
/-- a box of a value, if there is one yet -/
def boxO (k : Nat) : Option Va → List (Cel × V)
  | none => []
  | some x => boxV k x
theorem apq (k : Nat) : boxO k none = [] := rfl
theorem app (k : Nat) (x : Va) : boxO k (some x) = boxV k x := rfl
theorem ajl (k : Nat) (o : Option Va) : freeM 0 k (boxO k o) = [] := by
  cases o with
  | none => rfl
  | some f => simp only [boxO, boxV, ajk, aov, true_and, if_true]
theorem fg (k : Nat) (o : Option Va) : settleM 0 (boxO k o) = boxO k o := by cases o <;> rfl
theorem zy (k : Nat) (o : Option Va) : leaveM 0 (boxO k o) = [] := by cases o <;> rfl
/-- a box of noughts -/
abbrev box0 (k : Nat) : List (Cel × V) := [(⟨0, k, 0⟩, .d (.bool (false))), (⟨0, k, 1⟩, .d (.int .i64 (0))), (⟨0, k, 2⟩, .d (.int .i64 (0))), (⟨0, k, 3⟩, .d .nilS), (⟨0, k, 4⟩, .d .nilS)]
abbrev clE (v : Va) (i : Nat) (acc : List Va) : List (Nat × V) := [(1, .ref 0 1 0), (2, .ref 0 2 0), (3, ownZ 5 (acc.map Va.d)), (12, .d (.sl (v.kids.map Va.d))), (13, .d (.int .i64 ((v.kids.length : Int)))), (14, .d (.int .i64 ((i : Int))))]
theorem ajx (acc : List Va) (k : Va) : ownZ 5 ((acc ++ [k]).map Va.d) = .own false 5 (acc.map Va.d ++ [k.d]) := by
  rw [List.map_append, List.map_cons, List.map_nil, an9]
theorem oq (v : Va) (hk : v.kids.length ≤ 1000000) (IH : ∀ k ∈ v.kids, evL cfg n_av 0 [.d k.d] [] = some (.d k.d, [])) (K : List Kf) : ∀ (r : List Va) (i : Nat) (acc : List Va) (o : Option Va), v.kids.drop i = r → i ≤ v.kids.length → acc.length ≤ i →
    ∃ o', go X_av (.c (.loop aib) :: .b 0 :: K) ⟨clE v i acc, boxV 1 v ++ box0 2 ++ boxO 5 o⟩ = go X_av K ⟨clE v v.kids.length (acc ++ r) ++ [(15, .d (.bool (false)))], boxV 1 v ++ box0 2 ++ boxO 5 o'⟩
  | [], i, acc, o, hr, hi, ha => by
    have := dp hr
    have : i = v.kids.length := by omega
    subst this
    refine ⟨o, ?_⟩
    have d_a : decide ((v.kids.length : Int) < v.kids.length) = false := by simp <;> omega
    have hS := fg 5 o
    rw [go_loop, List.append_nil]
    generalize boxO 5 o = T at *
    simp only [clE, box0, boxV, List.cons_append, List.nil_append]
    simp (disch := first | omega | (simp only [go_sem, List.length_take, List.length_drop] <;> omega) | assumption | decide | fail) only [go_sem, X_av, d_a, lu, hS, Nat.reduceLeDiff, Nat.reduceLT, Nat.reduceAdd, Int.reduceAdd, Int.reduceSub, Int.reduceNeg, ↓reduceIte, Nat.reduceEqDiff, reduceCtorEq, Int.reduceBEq, Int.reduceBNe, Nat.reduceBEq]
  | k :: r, i, acc, o, hr, hi, ha => by
    obtain ⟨hlt, hc, hr'⟩ := e9 hr
    have hf := IH k (List.mem_of_getElem? hc)
    obtain ⟨o', ih⟩ := oq v hk IH K r (i + 1) (acc ++ [k]) (some k) hr' hlt (by simp; omega)
    refine ⟨o', Eq.trans ?_ (ih.trans (by rw [List.append_assoc, List.singleton_append]))⟩
    have d_a : decide ((i : Int) < v.kids.length) = true := by simp <;> omega
    have hS := fg 5 o
    have hF := ajl 5 o
    have hm : acc.length ≤ 1000000 := by omega
    rw [app]
    generalize boxO 5 o = T at *
    simp only [clE, ajx]
    simp only [box0, boxV, List.cons_append, List.nil_append]
    conv => lhs; rw [go_loop]
    cases acc with
    | nil => simp (disch := first | omega | (simp only [go_sem, List.length_take, List.length_drop] <;> omega) | assumption | decide | fail) only [go_sem, X_av, d_a, lu, hS, hF, hc, hf, List.map_nil, pg, List.nil_append, Int.natCast_add, Nat.reduceLeDiff, Nat.reduceLT, Nat.reduceAdd, Int.reduceAdd, Int.reduceSub, Int.reduceNeg, ↓reduceIte, Nat.reduceEqDiff, reduceCtorEq, Int.reduceBEq, Int.reduceBNe, Nat.reduceBEq]
    | cons y acc =>
      simp only [List.length_cons] at hm
      simp (disch := first | omega | (simp only [go_sem, List.length_take, List.length_drop] <;> omega) | assumption | decide | fail) only [go_sem, X_av, d_a, lu, hS, hF, hc, hf, List.map_cons, wh, List.cons_append, List.length_cons, List.length_map, Int.natCast_add, Nat.reduceLeDiff, Nat.reduceLT, Nat.reduceAdd, Int.reduceAdd, Int.reduceSub, Int.reduceNeg, ↓reduceIte, Nat.reduceEqDiff, reduceCtorEq, Int.reduceBEq, Int.reduceBNe, Nat.reduceBEq]
def na : Nat → Va → Prop
  | 0, _ => True
  | m + 1, v => v.b.length ≤ 1000000 ∧ v.kids.length ≤ 1000000 ∧ ∀ k ∈ v.kids, na m k
theorem fb : ∀ (m : Nat) (v : Va), v.size ≤ m → na m v → evL cfg n_av 0 [.d v.d] [] = some (.d v.d, [])
  | 0, v, h, _ => by have := v.size_pos; omega
  | m + 1, v, h, ⟨hb, hk, hs⟩ => by
    have hc := fz v.b hb
    obtain ⟨o, l⟩ := oq v hk (fun k hk => fb m k (by have := Va.size_kid hk; omega) (hs k hk)) [.c (.seq acw (.seq pd .ret))] v.kids 0 [] none rfl (Nat.zero_le _) (Nat.zero_le _)
    have hS := fg 5 o
    have hL := zy 5 o
    rw [apq, List.nil_append] at l
    generalize boxO 5 o = T at *
    have fin : go X_av [.c (.loop aib), .b 0, .c (.seq acw (.seq pd .ret))] ⟨clE v 0 [], boxV 1 v ++ box0 2 ++ []⟩ = some (.d v.d, []) := by
      refine l.trans ?_
      clear l
      simp only [clE, box0, boxV, List.cons_append, List.nil_append]
      cases hv : v.kids with
      | nil =>
        simp (disch := first | omega | (simp only [go_sem, List.length_take, List.length_drop] <;> omega) | assumption | decide | fail) only [go_sem, X_av, hS, hL, List.map_nil, pg, hv, Nat.reduceLeDiff, Nat.reduceLT, Nat.reduceAdd, Int.reduceAdd, Int.reduceSub, Int.reduceNeg, ↓reduceIte, Nat.reduceEqDiff, reduceCtorEq, Int.reduceBEq, Int.reduceBNe, Nat.reduceBEq]
        rw [v.d_eq, hv]; rfl
      | cons y r =>
        simp (disch := first | omega | (simp only [go_sem, List.length_take, List.length_drop] <;> omega) | assumption | decide | fail) only [go_sem, X_av, hS, hL, List.map_cons, wh, hv, Nat.reduceLeDiff, Nat.reduceLT, Nat.reduceAdd, Int.reduceAdd, Int.reduceSub, Int.reduceNeg, ↓reduceIte, Nat.reduceEqDiff, reduceCtorEq, Int.reduceBEq, Int.reduceBNe, Nat.reduceBEq]
        rw [v.d_eq, hv]; rfl
    clear l
    simp only [clE, box0, boxV, List.cons_append, List.nil_append, List.append_nil, List.map_nil, pg] at fin
    rw [o_av]
    cases he : v.b with
    | nil =>
      rw [he] at hc fin
      simp only [List.isEmpty_nil, if_true] at hc
      simp (disch := first | omega | (simp only [go_sem, List.length_take, List.length_drop] <;> omega) | assumption | decide | fail) only [go_sem, X_av, c_av, hc, he, Nat.reduceLeDiff, Nat.reduceLT, Nat.reduceAdd, Int.reduceAdd, Int.reduceSub, Int.reduceNeg, ↓reduceIte, Nat.reduceEqDiff, reduceCtorEq, Int.reduceBEq, Int.reduceBNe, Nat.reduceBEq]
      exact fin
    | cons y r =>
      rw [he] at hc fin
      simp only [List.isEmpty_cons, Bool.false_eq_true, if_false] at hc
      simp (disch := first | omega | (simp only [go_sem, List.length_take, List.length_drop] <;> omega) | assumption | decide | fail) only [go_sem, X_av, c_av, hc, he, Nat.reduceLeDiff, Nat.reduceLT, Nat.reduceAdd, Int.reduceAdd, Int.reduceSub, Int.reduceNeg, ↓reduceIte, Nat.reduceEqDiff, reduceCtorEq, Int.reduceBEq, Int.reduceBNe, Nat.reduceBEq]
      exact fin
end Go.Proofs.YtnabebdceaoiiaaGreatDoor
