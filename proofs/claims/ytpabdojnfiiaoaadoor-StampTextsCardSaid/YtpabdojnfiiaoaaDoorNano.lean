/- What the functions on nanoseconds compute. -/
import Derived.Test.YtpabdojnfiiaoaaDoorCode
import Derived.Test.YtpabdojnfiiaoaaDoorL8
namespace Go.Proofs.YtpabdojnfiiaoaaDoor
open Go Go.Ev
set_option linter.unusedSimpArgs false
set_option linter.unusedVariables false

theorem and7 {u : Int} (h0 : 0 ≤ u) (h1 : u < 18446744073709551616) : andI .u64 u 7 = u % 8 := andI_mask 3 (by decide) h0 h1
theorem shr3 (u : Int) : shrI .u64 u 3 = u / 8 := shrI_eq .u64 u 3 (by decide)

theorem back_loop (K : List Kf) : ∀ (k : Nat) (n Z i : Int), 0 ≤ n → n * 10 ^ k < 18446744073709551616 → 0 ≤ i → Z = i + k → Z ≤ 100 →
    go X_stamp_Back (.c (.loop b_stamp_Back_9) :: .b 0 :: K) ⟨[(5, .d (.int .u64 n)), (16, .d (.int .i64 Z)), (17, .d (.int .i64 i))], []⟩ = go X_stamp_Back K ⟨[(5, .d (.int .u64 (n * 10 ^ k))), (16, .d (.int .i64 Z)), (17, .d (.int .i64 Z)), (18, .d (.bool false))], []⟩
  | 0, n, Z, i, h0, h1, h2, h3, h4 => by
    have e : Z = i := by omega
    subst e
    have hd : decide (Z < Z) = false := by simp
    rw [go_loop]
    simp (disch := omega) only [go_sem, wrap_i64, wrap_u64, X_stamp_Back, hd, Bool.not_true, Bool.not_false, Bool.true_and, Bool.false_and, Bool.and_true, Bool.and_false, Bool.true_or, Bool.false_or, Bool.or_true, Bool.or_false, beq_self_eq_true, bne_self_eq_false, ↓reduceIte, Nat.reduceEqDiff, reduceCtorEq, Bool.false_eq_true]
    simp
  | k + 1, n, Z, i, h0, h1, h2, h3, h4 => by
    have hd : decide (i < Z) = true := by simp; omega
    have e10 : n * 10 ^ (k + 1) = n * 10 * 10 ^ k := by rw [Int.pow_succ]; ac_rfl
    have hp : (1 : Int) ≤ 10 ^ k := Int.pow_pos (by decide)
    have hn : n * 10 < 18446744073709551616 := by
      rw [e10] at h1
      have := Int.mul_le_mul_of_nonneg_left hp (show 0 ≤ n * 10 by omega)
      omega
    have ih := back_loop K k (n * 10) Z (i + 1) (by omega) (by rw [← e10]; exact h1) (by omega) (by omega) h4
    rw [go_loop]
    simp (disch := omega) only [go_sem, wrap_i64, wrap_u64, X_stamp_Back, hd, Bool.not_true, Bool.not_false, Bool.true_and, Bool.false_and, Bool.and_true, Bool.and_false, Bool.true_or, Bool.false_or, Bool.or_true, Bool.or_false, beq_self_eq_true, bne_self_eq_false, ↓reduceIte, Nat.reduceEqDiff, reduceCtorEq, Bool.false_eq_true]
    rw [e10]
    exact ih

def backM (u : Int) : Int × Int :=
  if u / 8 > 999999999 then (0, 2) else
    let m := if u % 8 > 0 then u / 8 * 10 ^ ((u % 8).toNat + 1) else u / 8
    if m > 999999999 then (0, 2) else (m, 0)

theorem pow_le8 {n : Int} {k : Nat} (h0 : 0 ≤ n) (h1 : n ≤ 999999999) (hk : k ≤ 8) : n * 10 ^ k ≤ 99999999900000000 := by
  have h : (10 : Int) ^ k ≤ 10 ^ 8 := by
    have := Nat.pow_le_pow_right (show 10 > 0 by decide) hk
    exact_mod_cast this
  have := Int.mul_le_mul_of_nonneg_left h h0
  have e : (10 : Int) ^ 8 = 100000000 := by decide
  rw [e] at this
  omega

theorem back_ans {u : Int} (h0 : 0 ≤ u) (h1 : u < 18446744073709551616) :
    evL cfg n_stamp_Back 0 [.d (.int .u64 u)] [] = some (.d (.tup [.int .i64 (backM u).1, .int .i64 (backM u).2]), []) := by
  rw [o_stamp_Back]
  unfold backM
  by_cases c1 : u / 8 > 999999999
  · have d1 : decide (u / 8 > 999999999) = true := by simpa using c1
    simp (disch := omega) only [go_sem, wrap_i64, wrap_u64, X_stamp_Back, c_stamp_Back, and7, shr3, ib_shr, d1, Bool.not_true, Bool.not_false, Bool.true_and, Bool.false_and, Bool.and_true, Bool.and_false, Bool.true_or, Bool.false_or, Bool.or_true, Bool.or_false, beq_self_eq_true, bne_self_eq_false, ↓reduceIte, Nat.reduceEqDiff, reduceCtorEq, Bool.false_eq_true]
    simp [c1]
  · have d1 : decide (u / 8 > 999999999) = false := by simpa using c1
    by_cases c2 : u % 8 > 0
    · have d2 : decide (u % 8 > 0) = true := by simpa using c2
      have hl := fun K => back_loop K ((u % 8).toNat + 1) (u / 8) (u % 8 + 1) 0 (by omega) (by have := pow_le8 (n := u / 8) (k := (u % 8).toNat + 1) (by omega) (by omega) (by omega); omega) (by omega) (by omega) (by omega)
      have hm := pow_le8 (n := u / 8) (k := (u % 8).toNat + 1) (by omega) (by omega) (by omega)
      have hm0 : 0 ≤ u / 8 * 10 ^ ((u % 8).toNat + 1) := Int.mul_nonneg (by omega) (by have : (0 : Int) < 10 ^ ((u % 8).toNat + 1) := Int.pow_pos (by decide); omega)
      generalize u / 8 * 10 ^ ((u % 8).toNat + 1) = m at hl hm hm0
      simp (disch := omega) only [go_sem, wrap_i64, wrap_u64, X_stamp_Back, c_stamp_Back, and7, shr3, ib_shr, d1, d2, hl, Bool.not_true, Bool.not_false, Bool.true_and, Bool.false_and, Bool.and_true, Bool.and_false, Bool.true_or, Bool.false_or, Bool.or_true, Bool.or_false, beq_self_eq_true, bne_self_eq_false, ↓reduceIte, Nat.reduceEqDiff, reduceCtorEq, Bool.false_eq_true]
      rw [if_neg c1, if_pos c2]
      by_cases c3 : m > 999999999
      · have d3 : decide (m > 999999999) = true := by simpa using c3
        simp [c3, d3]
      · simp [c3]
    · have d2 : decide (u % 8 > 0) = false := by simpa using c2
      simp (disch := omega) only [go_sem, wrap_i64, wrap_u64, X_stamp_Back, c_stamp_Back, and7, shr3, ib_shr, d1, d2, Bool.not_true, Bool.not_false, Bool.true_and, Bool.false_and, Bool.and_true, Bool.and_false, Bool.true_or, Bool.false_or, Bool.or_true, Bool.or_false, beq_self_eq_true, bne_self_eq_false, ↓reduceIte, Nat.reduceEqDiff, reduceCtorEq, Bool.false_eq_true]
      rw [if_neg c1, if_neg c2, if_neg c1]

theorem refBack_loop (K : List Kf) : ∀ (k : Nat) (n z i : Int), 0 ≤ n → n ≤ 999999999 → 0 ≤ i → z + 1 = i + k → z ≤ 100 →
    go X_ingotref12_Back (.c (.loop b_ingotref12_Back_12) :: .b 0 :: K) ⟨[(4, .d (.int .i64 z)), (5, .d (.int .u64 n)), (6, .d (.int .i64 i))], []⟩ =
      if n * 10 ^ k > 999999999 then some (.d (.tup [.int .i64 0, .int .i64 2]), []) else
        go X_ingotref12_Back K ⟨[(4, .d (.int .i64 z)), (5, .d (.int .u64 (n * 10 ^ k))), (6, .d (.int .i64 (z + 1))), (18, .d (.bool false))], []⟩
  | 0, n, z, i, h0, h1, h2, h3, h4 => by
    have e : i = z + 1 := by omega
    subst e
    have d_a : decide (z + 1 ≤ z) = false := by simp <;> omega
    rw [go_loop]
    simp (disch := omega) only [go_sem, wrap_i64, wrap_u64, X_ingotref12_Back, d_a, Bool.not_true, Bool.not_false, Bool.true_and, Bool.false_and, Bool.and_true, Bool.and_false, Bool.true_or, Bool.false_or, Bool.or_true, Bool.or_false, beq_self_eq_true, bne_self_eq_false, ↓reduceIte, Nat.reduceEqDiff, reduceCtorEq, Bool.false_eq_true]
    rw [if_neg (by simp; omega)]
    simp
  | k + 1, n, z, i, h0, h1, h2, h3, h4 => by
    have d_a : decide (i ≤ z) = true := by simp <;> omega
    have e10 : n * 10 ^ (k + 1) = n * 10 * 10 ^ k := by rw [Int.pow_succ]; ac_rfl
    have hp : (1 : Int) ≤ 10 ^ k := Int.pow_pos (by decide)
    rw [go_loop]
    by_cases c : n * 10 > 999999999
    · have hq : n * 10 * 10 ^ k > 999999999 := by
        have := Int.mul_le_mul_of_nonneg_left hp (show 0 ≤ n * 10 by omega)
        omega
      have d_b : decide (n * 10 ≥ 1000000000) = true := by simp <;> omega
      simp (disch := omega) only [go_sem, wrap_i64, wrap_u64, X_ingotref12_Back, d_a, d_b, Bool.not_true, Bool.not_false, Bool.true_and, Bool.false_and, Bool.and_true, Bool.and_false, Bool.true_or, Bool.false_or, Bool.or_true, Bool.or_false, beq_self_eq_true, bne_self_eq_false, ↓reduceIte, Nat.reduceEqDiff, reduceCtorEq, Bool.false_eq_true]
      rw [e10, if_pos hq]
    · have d_b : decide (n * 10 ≥ 1000000000) = false := by simp <;> omega
      have ih := refBack_loop K k (n * 10) z (i + 1) (by omega) (by omega) (by omega) (by omega) h4
      simp (disch := omega) only [go_sem, wrap_i64, wrap_u64, X_ingotref12_Back, d_a, d_b, Bool.not_true, Bool.not_false, Bool.true_and, Bool.false_and, Bool.and_true, Bool.and_false, Bool.true_or, Bool.false_or, Bool.or_true, Bool.or_false, beq_self_eq_true, bne_self_eq_false, ↓reduceIte, Nat.reduceEqDiff, reduceCtorEq, Bool.false_eq_true]
      rw [e10]
      exact ih

theorem refBack_ans {u : Int} (h0 : 0 ≤ u) (h1 : u < 18446744073709551616) :
    evL cfg n_ingotref12_Back 0 [.d (.int .u64 u)] [] = some (.d (.tup [.int .i64 (backM u).1, .int .i64 (backM u).2]), []) := by
  rw [o_ingotref12_Back]
  unfold backM
  by_cases c1 : u / 8 > 999999999
  · have d_a : decide (u / 8 ≥ 1000000000) = true := by simp <;> omega
    simp (disch := omega) only [go_sem, wrap_i64, wrap_u64, X_ingotref12_Back, c_ingotref12_Back, and7, shr3, ib_shr, d_a, Bool.not_true, Bool.not_false, Bool.true_and, Bool.false_and, Bool.and_true, Bool.and_false, Bool.true_or, Bool.false_or, Bool.or_true, Bool.or_false, beq_self_eq_true, bne_self_eq_false, ↓reduceIte, Nat.reduceEqDiff, reduceCtorEq, Bool.false_eq_true]
    simp [c1]
  · have d_a : decide (u / 8 ≥ 1000000000) = false := by simp <;> omega
    rw [if_neg c1]
    by_cases c2 : u % 8 > 0
    · have d_b : decide (u % 8 > 0) = true := by simp <;> omega
      have hl := fun K => refBack_loop K ((u % 8).toNat + 1) (u / 8) (u % 8) 0 (by omega) (by omega) (by omega) (by omega) (by omega)
      have hm := pow_le8 (n := u / 8) (k := (u % 8).toNat + 1) (by omega) (by omega) (by omega)
      have hm0 : 0 ≤ u / 8 * 10 ^ ((u % 8).toNat + 1) := Int.mul_nonneg (by omega) (by have : (0 : Int) < 10 ^ ((u % 8).toNat + 1) := Int.pow_pos (by decide); omega)
      generalize u / 8 * 10 ^ ((u % 8).toNat + 1) = m at hl hm hm0
      rw [if_pos c2]
      simp (disch := omega) only [go_sem, wrap_i64, wrap_u64, X_ingotref12_Back, c_ingotref12_Back, and7, shr3, ib_shr, d_a, d_b, hl, Bool.not_true, Bool.not_false, Bool.true_and, Bool.false_and, Bool.and_true, Bool.and_false, Bool.true_or, Bool.false_or, Bool.or_true, Bool.or_false, beq_self_eq_true, bne_self_eq_false, ↓reduceIte, Nat.reduceEqDiff, reduceCtorEq, Bool.false_eq_true]
      by_cases c3 : m > 999999999
      · simp [c3]
      · simp [c3]
    · have d_b : decide (u % 8 > 0) = false := by simp <;> omega
      simp (disch := omega) only [go_sem, wrap_i64, wrap_u64, X_ingotref12_Back, c_ingotref12_Back, and7, shr3, ib_shr, d_a, d_b, Bool.not_true, Bool.not_false, Bool.true_and, Bool.false_and, Bool.and_true, Bool.and_false, Bool.true_or, Bool.false_or, Bool.or_true, Bool.or_false, beq_self_eq_true, bne_self_eq_false, ↓reduceIte, Nat.reduceEqDiff, reduceCtorEq, Bool.false_eq_true]
      rw [if_neg c2, if_neg c1]

def checkM (s n : Int) : Bool := decide (s ≥ -1099511627776) && decide (s ≤ 1099511627776) && decide (n ≥ 0) && decide (n ≤ 999999999)
theorem check_ans (s n : Int) : evL cfg n_stamp_Check 0 [.d (.int .i64 s), .d (.int .i64 n)] [] = some (.d (.bool (checkM s n)), []) := by
  rw [o_stamp_Check]
  rcases Bool.eq_false_or_eq_true (decide (s ≥ -1099511627776)) with a | a <;> rcases Bool.eq_false_or_eq_true (decide (s ≤ 1099511627776)) with b | b <;>
  rcases Bool.eq_false_or_eq_true (decide (n ≥ 0)) with c | c <;> rcases Bool.eq_false_or_eq_true (decide (n ≤ 999999999)) with d | d <;>
  simp (disch := omega) only [go_sem, wrap_i64, wrap_u64, X_stamp_Check, c_stamp_Check, checkM, a, b, c, d, Bool.true_and, Bool.false_and, Bool.not_true, Bool.not_false, Bool.true_and, Bool.false_and, Bool.and_true, Bool.and_false, Bool.true_or, Bool.false_or, Bool.or_true, Bool.or_false, beq_self_eq_true, bne_self_eq_false, ↓reduceIte, Nat.reduceEqDiff, reduceCtorEq, Bool.false_eq_true]
theorem refCheck_ans (s n : Int) : evL cfg n_ingotref12_Check 0 [.d (.int .i64 s), .d (.int .i64 n)] [] = some (.d (.bool (checkM s n)), []) := by
  rw [o_ingotref12_Check]
  have e : decide (n < 1000000000) = decide (n ≤ 999999999) := decide_eq_decide.mpr (by omega)
  rcases Bool.eq_false_or_eq_true (decide (s ≥ -1099511627776)) with a | a <;> rcases Bool.eq_false_or_eq_true (decide (s ≤ 1099511627776)) with b | b <;>
  rcases Bool.eq_false_or_eq_true (decide (n ≥ 0)) with c | c <;> rcases Bool.eq_false_or_eq_true (decide (n ≤ 999999999)) with d | d <;>
  simp (disch := omega) only [go_sem, wrap_i64, wrap_u64, X_ingotref12_Check, c_ingotref12_Check, checkM, e, a, b, c, d, Bool.true_and, Bool.false_and, Bool.not_true, Bool.not_false, Bool.true_and, Bool.false_and, Bool.and_true, Bool.and_false, Bool.true_or, Bool.false_or, Bool.or_true, Bool.or_false, beq_self_eq_true, bne_self_eq_false, ↓reduceIte, Nat.reduceEqDiff, reduceCtorEq, Bool.false_eq_true]

/-- how often ten divides it, up to a bound -/
def tz : Nat → Int → Nat
  | 0, _ => 0
  | k + 1, n => if n % 10 = 0 then tz k (n / 10) + 1 else 0
theorem tz_le : ∀ (k : Nat) (n : Int), tz k n ≤ k
  | 0, _ => Nat.le_refl _
  | k + 1, n => by unfold tz; split; · exact Nat.succ_le_succ (tz_le k _)
                   · omega
theorem tz_dvd : ∀ (k : Nat) (n : Int), n / 10 ^ tz k n * 10 ^ tz k n = n
  | 0, n => by simp [tz]
  | k + 1, n => by
    unfold tz
    split
    · rename_i h
      have ih := tz_dvd k (n / 10)
      have e : n / 10 ^ (tz k (n / 10) + 1) = n / 10 / 10 ^ tz k (n / 10) := by
        rw [Int.ediv_ediv_of_nonneg (by decide), Int.pow_succ, Int.mul_comm]
      rw [e, Int.pow_succ, ← Int.mul_assoc, ih]
      omega
    · simp
def nanoM (n : Int) : Int := if n = 0 then 0 else if tz 8 n < 2 then n * 8 else n / 10 ^ tz 8 n * 8 + (tz 8 n - 1)
theorem nanoM_room {n : Int} (h0 : 0 ≤ n) (h1 : n ≤ 999999999) : 0 ≤ nanoM n ∧ nanoM n ≤ 8000000000 := by
  unfold nanoM
  have h2 := tz_le 8 n
  have h3 : 0 ≤ n / 10 ^ tz 8 n := Int.ediv_nonneg h0 (Int.le_of_lt (Int.pow_pos (by decide)))
  have h4 : n / 10 ^ tz 8 n ≤ n := Int.ediv_le_self _ h0
  split
  · omega
  · split <;> omega
theorem back_nano {n : Int} (h0 : 0 ≤ n) (h1 : n ≤ 999999999) : backM (nanoM n) = (n, 0) := by
  have h2 := tz_le 8 n
  have h3 : 0 ≤ n / 10 ^ tz 8 n := Int.ediv_nonneg h0 (Int.le_of_lt (Int.pow_pos (by decide)))
  have h4 : n / 10 ^ tz 8 n ≤ n := Int.ediv_le_self _ h0
  have h5 := tz_dvd 8 n
  unfold nanoM backM
  split
  · rename_i h
    subst h
    rfl
  · split
    · rename_i h
      rw [if_neg (by omega)]
      have e : n * 8 % 8 = 0 := by omega
      have e2 : n * 8 / 8 = n := by omega
      have z : ¬ ((0 : Int) > 0) := by decide
      have z2 : ¬ (n > 999999999) := by omega
      simp only [e, e2, z, z2, if_false]
    · rename_i h
      generalize hm : n / 10 ^ tz 8 n = m at *
      have e : (m * 8 + ((tz 8 n : Int) - 1)) / 8 = m := by omega
      have e2 : (m * 8 + ((tz 8 n : Int) - 1)) % 8 = (tz 8 n : Int) - 1 := by omega
      have e3 : (((tz 8 n : Int) - 1).toNat + 1) = tz 8 n := by omega
      have z : (tz 8 n : Int) - 1 > 0 := by omega
      have z1 : ¬ (m > 999999999) := by omega
      have z2 : ¬ (n > 999999999) := by omega
      simp only [e, e2, e3, z, z1, if_false, if_true, h5, z2]
theorem or_low {a b : Int} (h0 : 0 ≤ a) (h1 : a ≤ 1000000000) (h2 : 0 ≤ b) (h3 : b < 8) : orI .u64 (shlI .u64 a 3) b = a * 8 + b := by
  have e : shlI .u64 a 3 = a * 8 := by
    unfold shlI
    exact wrap_u64 (by show 0 ≤ a * 8; omega) (by show a * 8 < _; omega)
  rw [e]
  unfold orI
  obtain ⟨x, rfl⟩ := Int.eq_ofNat_of_zero_le h0
  obtain ⟨y, rfl⟩ := Int.eq_ofNat_of_zero_le h2
  have q : (BitVec.ofInt 64 ((x : Int) * 8) ||| BitVec.ofInt 64 (y : Int)).toNat = x * 8 + y := by
    have e1 : BitVec.ofInt 64 ((x : Int) * 8) = BitVec.ofNat 64 (x * 8) := by rw [← BitVec.ofInt_natCast]; simp
    have e2 : BitVec.ofInt 64 (y : Int) = BitVec.ofNat 64 y := BitVec.ofInt_natCast 64 y
    rw [e1, e2, BitVec.toNat_or, BitVec.toNat_ofNat, BitVec.toNat_ofNat, Nat.mod_eq_of_lt (by omega), Nat.mod_eq_of_lt (by omega)]
    have := Nat.shiftLeft_add_eq_or_of_lt (i := 3) (b := y) (by omega) x
    rw [Nat.shiftLeft_eq] at this
    exact this.symm
  show IntKind.u64.wrap ((BitVec.ofInt 64 ((x : Int) * 8) ||| BitVec.ofInt 64 (y : Int)).toNat : Int) = _
  rw [q, wrap_u64 (by omega) (by omega)]
  simp
theorem shl3 {a : Int} (h0 : 0 ≤ a) (h1 : a ≤ 1000000000) : shlI .u64 a 3 = a * 8 := by
  unfold shlI
  exact wrap_u64 (by show 0 ≤ a * 8; omega) (by show a * 8 < _; omega)

theorem tmod10 {n : Int} (h : 0 ≤ n) : n.tmod 10 = n % 10 := Int.tmod_eq_emod_of_nonneg h
theorem tdiv10 {n : Int} (h : 0 ≤ n) : n.tdiv 10 = n / 10 := Int.tdiv_eq_ediv_of_nonneg h
theorem ten_up (n : Int) (j : Nat) : n / 10 ^ (j + 1) = n / 10 / 10 ^ j := by
  rw [Int.ediv_ediv_of_nonneg (by decide), Int.pow_succ, Int.mul_comm]
theorem nano_loop (K : List Kf) (n0 : Int) : ∀ (k : Nat) (n z : Int), 0 ≤ n → n ≤ 999999999 → 0 ≤ z → z + k = 8 →
    go X_stamp_Nano (.c (.loop b_stamp_Nano_8) :: .b 0 :: K) ⟨[(0, .d (.int .i64 n0)), (3, .d (.int .i64 z)), (4, .d (.int .i64 n))], []⟩ =
      go X_stamp_Nano K ⟨[(0, .d (.int .i64 n0)), (3, .d (.int .i64 (z + tz k n))), (4, .d (.int .i64 (n / 10 ^ tz k n))), (14, .d (.bool false))], []⟩
  | 0, n, z, h0, h1, h2, h3 => by
    have e : z = 8 := by omega
    subst e
    rw [go_loop]
    by_cases c : n % 10 = 0
    · have d_a : (n % 10 == 0) = true := by simp <;> omega
      simp (disch := omega) only [go_sem, wrap_i64, wrap_u64, X_stamp_Nano, ib_rem, tmod10, d_a, show decide ((8 : Int) < 8) = false from rfl, Bool.not_true, Bool.not_false, Bool.true_and, Bool.false_and, Bool.and_true, Bool.and_false, Bool.true_or, Bool.false_or, Bool.or_true, Bool.or_false, beq_self_eq_true, bne_self_eq_false, ↓reduceIte, Nat.reduceEqDiff, reduceCtorEq, Bool.false_eq_true]
      simp [tz]
    · have d_a : (n % 10 == 0) = false := by simp <;> omega
      simp (disch := omega) only [go_sem, wrap_i64, wrap_u64, X_stamp_Nano, ib_rem, tmod10, d_a, Bool.not_true, Bool.not_false, Bool.true_and, Bool.false_and, Bool.and_true, Bool.and_false, Bool.true_or, Bool.false_or, Bool.or_true, Bool.or_false, beq_self_eq_true, bne_self_eq_false, ↓reduceIte, Nat.reduceEqDiff, reduceCtorEq, Bool.false_eq_true]
      simp [tz]
  | k + 1, n, z, h0, h1, h2, h3 => by
    have d_b : decide (z < 8) = true := by simp <;> omega
    rw [go_loop]
    by_cases c : n % 10 = 0
    · have d_a : (n % 10 == 0) = true := by simp <;> omega
      have ih := nano_loop K n0 k (n / 10) (z + 1) (by omega) (by omega) (by omega) (by omega)
      simp (disch := omega) only [go_sem, wrap_i64, wrap_u64, X_stamp_Nano, ib_rem, ib_quo, tmod10, tdiv10, d_a, d_b, Bool.not_true, Bool.not_false, Bool.true_and, Bool.false_and, Bool.and_true, Bool.and_false, Bool.true_or, Bool.false_or, Bool.or_true, Bool.or_false, beq_self_eq_true, bne_self_eq_false, ↓reduceIte, Nat.reduceEqDiff, reduceCtorEq, Bool.false_eq_true]
      rw [ih, tz, if_pos c, ten_up]
      have e : z + 1 + (tz k (n / 10) : Int) = z + ((tz k (n / 10) + 1 : Nat) : Int) := by omega
      rw [e]
    · have d_a : (n % 10 == 0) = false := by simp <;> omega
      simp (disch := omega) only [go_sem, wrap_i64, wrap_u64, X_stamp_Nano, ib_rem, tmod10, d_a, Bool.not_true, Bool.not_false, Bool.true_and, Bool.false_and, Bool.and_true, Bool.and_false, Bool.true_or, Bool.false_or, Bool.or_true, Bool.or_false, beq_self_eq_true, bne_self_eq_false, ↓reduceIte, Nat.reduceEqDiff, reduceCtorEq, Bool.false_eq_true]
      rw [tz, if_neg c]
      simp
theorem nano_loop2 (K : List Kf) : ∀ (k : Nat) (n z i : Int), 0 ≤ n → n ≤ 999999999 → 0 ≤ i → z = i + k → z ≤ 100 →
    go X_stamp_Nano (.c (.loop b_stamp_Nano_15) :: .b 2 :: K) ⟨[(0, .d (.int .i64 n)), (3, .d (.int .i64 z)), (24, .d (.int .i64 z)), (25, .d (.int .i64 i))], []⟩ =
      go X_stamp_Nano K ⟨[(0, .d (.int .i64 (n / 10 ^ k))), (3, .d (.int .i64 z)), (24, .d (.int .i64 z)), (25, .d (.int .i64 z)), (26, .d (.bool false))], []⟩
  | 0, n, z, i, h0, h1, h2, h3, h4 => by
    have e : z = i := by omega
    subst e
    have d_a : decide (z < z) = false := by simp <;> omega
    rw [go_loop]
    simp (disch := omega) only [go_sem, wrap_i64, wrap_u64, X_stamp_Nano, d_a, Bool.not_true, Bool.not_false, Bool.true_and, Bool.false_and, Bool.and_true, Bool.and_false, Bool.true_or, Bool.false_or, Bool.or_true, Bool.or_false, beq_self_eq_true, bne_self_eq_false, ↓reduceIte, Nat.reduceEqDiff, reduceCtorEq, Bool.false_eq_true]
    simp
  | k + 1, n, z, i, h0, h1, h2, h3, h4 => by
    have d_a : decide (i < z) = true := by simp <;> omega
    have ih := nano_loop2 K k (n / 10) z (i + 1) (by omega) (by omega) (by omega) (by omega) h4
    rw [go_loop]
    simp (disch := omega) only [go_sem, wrap_i64, wrap_u64, X_stamp_Nano, ib_quo, tdiv10, d_a, Bool.not_true, Bool.not_false, Bool.true_and, Bool.false_and, Bool.and_true, Bool.and_false, Bool.true_or, Bool.false_or, Bool.or_true, Bool.or_false, beq_self_eq_true, bne_self_eq_false, ↓reduceIte, Nat.reduceEqDiff, reduceCtorEq, Bool.false_eq_true]
    rw [ih, ten_up]

theorem nano_ans {n : Int} (h0 : 0 ≤ n) (h1 : n ≤ 999999999) :
    evL cfg n_stamp_Nano 0 [.d (.int .i64 n)] [] = some (.d (.int .u64 (nanoM n)), []) := by
  rw [o_stamp_Nano]
  unfold nanoM
  by_cases c : n = 0
  · subst c
    simp (disch := omega) only [go_sem, wrap_i64, wrap_u64, X_stamp_Nano, c_stamp_Nano, show decide ((0 : Int) ≤ 0) = true from rfl, Bool.not_true, Bool.not_false, Bool.true_and, Bool.false_and, Bool.and_true, Bool.and_false, Bool.true_or, Bool.false_or, Bool.or_true, Bool.or_false, beq_self_eq_true, bne_self_eq_false, ↓reduceIte, Nat.reduceEqDiff, reduceCtorEq, Bool.false_eq_true]
  · have d_a : decide (n ≤ 0) = false := by simp <;> omega
    rw [if_neg c]
    have hl := fun K => nano_loop K n 8 n 0 h0 h1 (by omega) (by omega)
    have hz := tz_le 8 n
    have hm0 : 0 ≤ n / 10 ^ tz 8 n := Int.ediv_nonneg h0 (Int.le_of_lt (Int.pow_pos (by decide)))
    have hm1 : n / 10 ^ tz 8 n ≤ n := Int.ediv_le_self _ h0
    have hl2 := fun K => nano_loop2 K (tz 8 n) n (tz 8 n) 0 h0 h1 (by omega) (by omega) (by omega)
    generalize n / 10 ^ tz 8 n = m at *
    generalize tz 8 n = j at *
    simp only [Int.zero_add] at hl
    by_cases c2 : j < 2
    · have d_b : decide ((j : Int) < 2) = true := by simp <;> omega
      rw [if_pos c2]
      simp (disch := omega) only [go_sem, wrap_i64, wrap_u64, X_stamp_Nano, c_stamp_Nano, hl, d_a, d_b, ib_shl, shl3, Bool.not_true, Bool.not_false, Bool.true_and, Bool.false_and, Bool.and_true, Bool.and_false, Bool.true_or, Bool.false_or, Bool.or_true, Bool.or_false, beq_self_eq_true, bne_self_eq_false, ↓reduceIte, Nat.reduceEqDiff, reduceCtorEq, Bool.false_eq_true]
    · have d_b : decide ((j : Int) < 2) = false := by simp <;> omega
      rw [if_neg c2]
      simp (disch := omega) only [go_sem, wrap_i64, wrap_u64, X_stamp_Nano, c_stamp_Nano, hl, hl2, d_a, d_b, ib_shl, or_low, Bool.not_true, Bool.not_false, Bool.true_and, Bool.false_and, Bool.and_true, Bool.and_false, Bool.true_or, Bool.false_or, Bool.or_true, Bool.or_false, beq_self_eq_true, bne_self_eq_false, ↓reduceIte, Nat.reduceEqDiff, reduceCtorEq, Bool.false_eq_true]

theorem refNano_loop (K : List Kf) (n0 : Int) : ∀ (k : Nat) (n z : Int), 0 ≤ n → n ≤ 999999999 → 0 ≤ z → z + k = 8 →
    go X_ingotref12_Nano (.c (.loop b_ingotref12_Nano_8) :: .b 0 :: K) ⟨[(0, .d (.int .i64 n0)), (3, .d (.int .i64 z)), (4, .d (.int .i64 n))], []⟩ =
      go X_ingotref12_Nano K ⟨[(0, .d (.int .i64 n0)), (3, .d (.int .i64 (z + tz k n))), (4, .d (.int .i64 (n / 10 ^ tz k n))), (14, .d (.bool false))], []⟩
  | 0, n, z, h0, h1, h2, h3 => by
    have e : z = 8 := by omega
    subst e
    rw [go_loop]
    simp (disch := omega) only [go_sem, wrap_i64, wrap_u64, X_ingotref12_Nano, ib_rem, tmod10, show decide ((8 : Int) < 8) = false from rfl, Bool.not_true, Bool.not_false, Bool.true_and, Bool.false_and, Bool.and_true, Bool.and_false, Bool.true_or, Bool.false_or, Bool.or_true, Bool.or_false, beq_self_eq_true, bne_self_eq_false, ↓reduceIte, Nat.reduceEqDiff, reduceCtorEq, Bool.false_eq_true]
    simp [tz]
  | k + 1, n, z, h0, h1, h2, h3 => by
    have d_b : decide (z < 8) = true := by simp <;> omega
    rw [go_loop]
    by_cases c : n % 10 = 0
    · have d_a : (n % 10 == 0) = true := by simp <;> omega
      have ih := refNano_loop K n0 k (n / 10) (z + 1) (by omega) (by omega) (by omega) (by omega)
      simp (disch := omega) only [go_sem, wrap_i64, wrap_u64, X_ingotref12_Nano, ib_rem, ib_quo, tmod10, tdiv10, d_a, d_b, Bool.not_true, Bool.not_false, Bool.true_and, Bool.false_and, Bool.and_true, Bool.and_false, Bool.true_or, Bool.false_or, Bool.or_true, Bool.or_false, beq_self_eq_true, bne_self_eq_false, ↓reduceIte, Nat.reduceEqDiff, reduceCtorEq, Bool.false_eq_true]
      rw [ih, tz, if_pos c, ten_up]
      have e : z + 1 + (tz k (n / 10) : Int) = z + ((tz k (n / 10) + 1 : Nat) : Int) := by omega
      rw [e]
    · have d_a : (n % 10 == 0) = false := by simp <;> omega
      simp (disch := omega) only [go_sem, wrap_i64, wrap_u64, X_ingotref12_Nano, ib_rem, tmod10, d_a, d_b, Bool.not_true, Bool.not_false, Bool.true_and, Bool.false_and, Bool.and_true, Bool.and_false, Bool.true_or, Bool.false_or, Bool.or_true, Bool.or_false, beq_self_eq_true, bne_self_eq_false, ↓reduceIte, Nat.reduceEqDiff, reduceCtorEq, Bool.false_eq_true]
      rw [tz, if_neg c]
      simp
theorem refNano_ans {n : Int} (h0 : 0 ≤ n) (h1 : n ≤ 999999999) :
    evL cfg n_ingotref12_Nano 0 [.d (.int .i64 n)] [] = some (.d (.int .u64 (nanoM n)), []) := by
  rw [o_ingotref12_Nano]
  unfold nanoM
  by_cases c : n = 0
  · subst c
    simp (disch := omega) only [go_sem, wrap_i64, wrap_u64, X_ingotref12_Nano, c_ingotref12_Nano, show ((0 : Int) == 0) = true from rfl, Bool.not_true, Bool.not_false, Bool.true_and, Bool.false_and, Bool.and_true, Bool.and_false, Bool.true_or, Bool.false_or, Bool.or_true, Bool.or_false, beq_self_eq_true, bne_self_eq_false, ↓reduceIte, Nat.reduceEqDiff, reduceCtorEq, Bool.false_eq_true]
  · have d_a : (n == 0) = false := by simp <;> omega
    rw [if_neg c]
    have hl := fun K => refNano_loop K n 8 n 0 h0 h1 (by omega) (by omega)
    have hz := tz_le 8 n
    have hm0 : 0 ≤ n / 10 ^ tz 8 n := Int.ediv_nonneg h0 (Int.le_of_lt (Int.pow_pos (by decide)))
    have hm1 : n / 10 ^ tz 8 n ≤ n := Int.ediv_le_self _ h0
    generalize n / 10 ^ tz 8 n = m at *
    generalize tz 8 n = j at *
    simp only [Int.zero_add] at hl
    by_cases c2 : j < 2
    · have d_b : decide ((j : Int) < 2) = true := by simp <;> omega
      rw [if_pos c2]
      simp (disch := omega) only [go_sem, wrap_i64, wrap_u64, X_ingotref12_Nano, c_ingotref12_Nano, hl, d_a, d_b, ib_shl, shl3, Bool.not_true, Bool.not_false, Bool.true_and, Bool.false_and, Bool.and_true, Bool.and_false, Bool.true_or, Bool.false_or, Bool.or_true, Bool.or_false, beq_self_eq_true, bne_self_eq_false, ↓reduceIte, Nat.reduceEqDiff, reduceCtorEq, Bool.false_eq_true]
    · have d_b : decide ((j : Int) < 2) = false := by simp <;> omega
      rw [if_neg c2]
      simp (disch := omega) only [go_sem, wrap_i64, wrap_u64, X_ingotref12_Nano, c_ingotref12_Nano, hl, d_a, d_b, ib_shl, or_low, Bool.not_true, Bool.not_false, Bool.true_and, Bool.false_and, Bool.and_true, Bool.and_false, Bool.true_or, Bool.false_or, Bool.or_true, Bool.or_false, beq_self_eq_true, bne_self_eq_false, ↓reduceIte, Nat.reduceEqDiff, reduceCtorEq, Bool.false_eq_true]
end Go.Proofs.YtpabdojnfiiaoaaDoor
