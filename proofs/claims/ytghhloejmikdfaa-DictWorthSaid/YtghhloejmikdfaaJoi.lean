/- Texts joined. -/
import Derived.Test.YtghhloejmikdfaaCutR
namespace Go.Proofs.Ytghhloejmikdfaa
open Go Go.Ev
set_option linter.unusedVariables false
set_option linter.unusedSimpArgs false
set_option maxHeartbeats 2000000

theorem MakeNoZero_ans (n : Nat) (hn : n ≤ 1000000000) : evL cfg n_bytealg_MakeNoZero 0 [.d (.int .i64 ((n : Int)))] [] = some (.own false 1 (List.replicate n .unk), []) := by
  refine evL_of_evFn (n := 1) ?_
  have hx : cfg.ext n_bytealg_MakeNoZero = some xMakeNoZero := rfl
  simp only [evFn, hx, allD, Option.map_some, Option.bind_some, xMakeNoZero]
  rw [if_pos ⟨by omega, by omega⟩, Int.toNat_natCast]
  rfl
def joinV (l : List Tx) : V := if l.length ≤ 1 then ownL (l.flatten.map byteD) else .own false 1 (l.flatten.map byteD)
theorem landed_joinV (k : Nat) (l : List Tx) : landed (some k) false false (joinV l) = some [(.slot k, .d (.sl ((l.flatten).map byteD)))] := by
  unfold joinV
  split
  · exact landed_ownL k _
  · rfl
theorem join_size {l : List Tx} (hl : l.flatten.length ≤ 1000000) (hn : l.length ≤ 1000000) {K : List Kf} : ∀ (r : List Tx) (i n : Nat), l.drop i = r → i ≤ l.length → n + r.flatten.length = l.flatten.length →
    go X_bytes_Join (.c (.loop b_bytes_Join_17) :: .b 0 :: K) ⟨[(0, .d (.sl ((l).map txt))), (1, .d (.sl [])), (5, .d (.int .i64 ((n : Int)))), (42, .d (.sl ((l).map txt))), (43, .d (.int .i64 ((l.length : Int)))), (44, .d (.int .i64 ((i : Int))))], []⟩ =
      go X_bytes_Join K ⟨[(0, .d (.sl ((l).map txt))), (1, .d (.sl [])), (5, .d (.int .i64 ((l.flatten.length : Int)))), (42, .d (.sl ((l).map txt))), (43, .d (.int .i64 ((l.length : Int)))), (44, .d (.int .i64 ((l.length : Int)))), (45, .d (.bool (false)))], []⟩
  | [], i, n, hr, hi, ha => by
    have h1 := dropEnd hr
    have : i = l.length := by omega
    subst this
    have d_a : decide ((l.length : Int) < l.length) = false := by simp <;> omega
    have e : n = l.flatten.length := by simpa using ha
    rw [go_loop, ← e]
    simp (disch := first | omega | (simp only [go_sem, List.length_take, List.length_drop] <;> omega) | assumption | decide | fail) only [go_sem, X_bytes_Join, d_a, Nat.reduceLeDiff, Nat.reduceLT, Nat.reduceAdd, Int.reduceAdd, Int.reduceSub, Int.reduceNeg, ↓reduceIte, Nat.reduceEqDiff, reduceCtorEq]
  | x :: r, i, n, hr, hi, ha => by
    obtain ⟨hlt, hc, hr'⟩ := dropAt hr
    have d_a : decide ((i : Int) < l.length) = true := by simp <;> omega
    rw [List.flatten_cons, List.length_append] at ha
    have ih := join_size hl hn (K := K) r (i + 1) (n + x.length) hr' (by omega) (by omega)
    rw [show (((i + 1 : Nat)) : Int) = (i : Int) + 1 by omega, show (((n + x.length : Nat)) : Int) = (n : Int) + x.length by omega] at ih
    have d_b : decide ((x.length : Int) > 9223372036854775807 - n) = false := by simp <;> omega
    rw [go_loop, ← ih]
    simp (disch := first | omega | (simp only [go_sem, List.length_take, List.length_drop] <;> omega) | assumption | decide | fail) only [go_sem, X_bytes_Join, d_a, d_b, hc, Nat.reduceLeDiff, Nat.reduceLT, Nat.reduceAdd, Int.reduceAdd, Int.reduceSub, Int.reduceNeg, ↓reduceIte, Nat.reduceEqDiff, reduceCtorEq]
theorem join_fill {l : List Tx} (hl : l.flatten.length ≤ 1000000) (hn : l.length ≤ 1000000) : ∀ (r : List Tx) (i : Nat) (acc : Tx), l.drop i = r → i ≤ l.length → acc.length + r.flatten.length ≤ 1000000 →
    go X_bytes_Join [.c (.loop b_bytes_Join_26), .b 2, .c (.seq r_bytes_Join_27 .ret)] ⟨[(1, .d (.sl [])), (8, .own false 1 (acc.map byteD ++ List.replicate r.flatten.length .unk)), (9, .d (.int .i64 ((acc.length : Int)))), (70, .d (.sl ((l).map txt))), (71, .d (.int .i64 ((l.length : Int)))), (72, .d (.int .i64 ((i : Int))))], []⟩ =
      some (.own false 1 ((acc ++ r.flatten).map byteD), [])
  | [], i, acc, hr, hi, ha => by
    have h1 := dropEnd hr
    have d_a : decide ((i : Int) < l.length) = false := by simp <;> omega
    rw [go_loop]
    simp (disch := first | omega | (simp only [go_sem, List.length_take, List.length_drop] <;> omega) | assumption | decide | fail) only [go_sem, X_bytes_Join, d_a, List.flatten_nil, List.append_nil, Nat.reduceLeDiff, Nat.reduceLT, Nat.reduceAdd, Int.reduceAdd, Int.reduceSub, Int.reduceNeg, ↓reduceIte, Nat.reduceEqDiff, reduceCtorEq]
  | x :: r, i, acc, hr, hi, ha => by
    obtain ⟨hlt, hc, hr'⟩ := dropAt hr
    have d_a : decide ((i : Int) < l.length) = true := by simp <;> omega
    rw [List.flatten_cons, List.length_append] at ha
    have ih := join_fill hl hn r (i + 1) (acc ++ x) hr' (by omega) (by rw [List.length_append]; omega)
    rw [List.append_assoc, ← List.flatten_cons, List.map_append, List.length_append, show (((i + 1 : Nat)) : Int) = (i : Int) + 1 by omega, show (((acc.length + x.length : Nat)) : Int) = (acc.length : Int) + x.length by omega] at ih
    have c1 := cpyB_fill (some 81) (.slot 8) acc.length (x.length + r.flatten.length) (acc.map byteD) [] (x.length + r.flatten.length) .unk (by simp) rfl (by simp)
    have c2 := cpyB_fill (some 88) (.slot 8) acc.length (x.length + r.flatten.length) (acc.map byteD) (x.map byteD) (x.length + r.flatten.length) .unk (by simp) rfl (by simp)
    simp only [List.append_nil, List.length_nil, Nat.sub_zero, List.length_map, Nat.add_sub_cancel_left, nc0] at c1 c2
    rw [go_loop, ← ih]
    simp (disch := first | omega | (simp only [go_sem, List.length_take, List.length_drop] <;> omega) | assumption | decide | fail) only [go_sem, X_bytes_Join, d_a, hc, c1, c2, List.flatten_cons, List.length_replicate, Nat.add_sub_cancel_left, Int.add_zero, Nat.reduceLeDiff, Nat.reduceLT, Nat.reduceAdd, Int.reduceAdd, Int.reduceSub, Int.reduceNeg, ↓reduceIte, Nat.reduceEqDiff, reduceCtorEq]
theorem bytes_Join_ans {l : List Tx} (hl : l.flatten.length ≤ 1000000) (hn : l.length ≤ 1000000) : evL cfg n_bytes_Join 0 [.d (.sl ((l).map txt)), .d (.sl [])] [] = some (joinV l, []) := by
  cases l with
  | nil => exact evL_of_evFn (n := 3) (by kernel_rfl)
  | cons x r =>
    cases r with
    | nil =>
      rw [o_bytes_Join]
      have e : joinV [x] = ownL (x.map byteD) := by simp [joinV]
      rw [e]
      have hx : x.length ≤ 1000000 := by simpa using hl
      cases x with
      | nil => simp (disch := first | omega | (simp only [go_sem, List.length_take, List.length_drop] <;> omega) | assumption | decide | fail) only [go_sem, X_bytes_Join, c_bytes_Join, List.map_nil, show ((1 : Int) == 0) = false from rfl, show ((0 + 1 : Int) == 0) = false from rfl, Nat.reduceLeDiff, Nat.reduceLT, Nat.reduceAdd, Int.reduceAdd, Int.reduceSub, Int.reduceNeg, ↓reduceIte, Nat.reduceEqDiff, reduceCtorEq]; rfl
      | cons c x =>
        rw [List.length_cons] at hx
        simp (disch := first | omega | (simp only [go_sem, List.length_take, List.length_drop] <;> omega) | assumption | decide | fail) only [go_sem, X_bytes_Join, c_bytes_Join, show ((1 : Int) == 0) = false from rfl, show ((0 + 1 : Int) == 0) = false from rfl, Nat.reduceLeDiff, Nat.reduceLT, Nat.reduceAdd, Int.reduceAdd, Int.reduceSub, Int.reduceNeg, ↓reduceIte, Nat.reduceEqDiff, reduceCtorEq]; rfl
    | cons y r =>
      have e : joinV (x :: y :: r) = .own false 1 ((x ++ (y :: r).flatten).map byteD) := by simp [joinV]
      have hs := fun K => join_size (l := x :: y :: r) hl hn (K := K) (x :: y :: r) 0 0 rfl (Nat.zero_le _) (by omega)
      have hl' : x.length + (y :: r).flatten.length ≤ 1000000 := by rw [← List.length_append, ← List.flatten_cons]; exact hl
      have hf := join_fill (l := y :: r) (by omega) (by simp only [List.length_cons] at hn ⊢; omega) (y :: r) 0 x rfl (Nat.zero_le _) hl'
      have c2 := cpyB_fill (some 68) (.slot 8) 0 (x.length + (y :: r).flatten.length) [] (x.map byteD) (x.length + (y :: r).flatten.length) .unk rfl rfl (by simp)
      rw [e, o_bytes_Join]
      have a1 : (((r.length + 1 + 1 : Nat) : Int) == 0) = false := by simp; omega
      have a2 : (((r.length + 1 + 1 : Nat) : Int) == 1) = false := by simp; omega
      simp only [nc0, List.length_cons, List.map_cons] at hs hf
      simp only [List.length_cons] at hn
      have a3 : (x :: y :: r).flatten.length = x.length + (y :: r).flatten.length := by rw [List.flatten_cons, List.length_append]
      have hz := MakeNoZero_ans (x.length + (y :: r).flatten.length) (by omega)
      rw [a3] at hs
      simp only [List.nil_append, List.length_map, Nat.add_sub_cancel_left] at c2
      have e5 : List.take (x.length + (y :: r).flatten.length) (List.replicate (x.length + (y :: r).flatten.length) D.unk) = List.replicate (x.length + (y :: r).flatten.length) D.unk := List.take_of_length_le (by simp)
      simp (disch := first | omega | (simp only [go_sem, List.length_take, List.length_drop] <;> omega) | assumption | decide | fail) only [go_sem, X_bytes_Join, c_bytes_Join, a1, a2, hs, hz, nc0, List.length_replicate, e5, c2, show decide ((0 : Int) > 0) = false from rfl, Nat.reduceLeDiff, Nat.reduceLT, Nat.reduceAdd, Int.reduceAdd, Int.reduceSub, Int.reduceNeg, ↓reduceIte, Nat.reduceEqDiff, reduceCtorEq]
      have e6 : List.drop (Int.toNat 1) (List.take (r.length + 1 + 1) (txt x :: txt y :: r.map txt)) = txt y :: r.map txt := by
        rw [List.take_of_length_le (by simp)]
        rfl
      rw [e6, List.length_cons, List.length_map]
      exact hf
end Go.Proofs.Ytghhloejmikdfaa
