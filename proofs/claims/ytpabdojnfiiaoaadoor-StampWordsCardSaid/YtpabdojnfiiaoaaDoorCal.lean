/- The calendar, in plain numbers. No program in sight. -/
import Derived.Test.YtpabdojnfiiaoaaDoorL8
namespace Go.Proofs.YtpabdojnfiiaoaaDoor
set_option linter.unusedVariables false
set_option linter.unusedSimpArgs false

def leapB (y : Int) : Bool := (y % 4 == 0) && (!(y % 100 == 0) || (y % 400 == 0))
def lp (y : Int) : Int := if leapB y = true then 1 else 0
theorem leapB_iff (y : Int) : leapB y = true ↔ (y % 4 = 0 ∧ (y % 100 ≠ 0 ∨ y % 400 = 0)) := by
  unfold leapB
  simp
theorem lp_cases (y : Int) : (y % 4 = 0 ∧ (y % 100 ≠ 0 ∨ y % 400 = 0) ∧ lp y = 1 ∧ leapB y = true) ∨ ((y % 4 ≠ 0 ∨ (y % 100 = 0 ∧ y % 400 ≠ 0)) ∧ lp y = 0 ∧ leapB y = false) := by
  unfold lp
  have h := leapB_iff y
  cases e : leapB y
  · right
    rw [e] at h
    simp only [Bool.false_eq_true, false_iff, not_and, not_or] at h
    refine ⟨?_, rfl, rfl⟩
    by_cases q : y % 4 = 0
    · have := h q
      omega
    · exact Or.inl q
  · left
    have := h.1 e
    exact ⟨this.1, this.2, rfl, rfl⟩
def mlen (y m : Int) : Int := if m = 2 then 28 + lp y else if m = 4 ∨ m = 6 ∨ m = 9 ∨ m = 11 then 30 else 31
def first (y : Int) : Int := 365 * (y - 1970) + (y - 1) / 4 - (y - 1) / 100 + (y - 1) / 400 - 477
def cum (y m : Int) : Int := if m ≤ 2 then 31 * (m - 1) else 59 + lp y + (153 * (m - 3) + 2) / 5
theorem first_step (y : Int) : first (y + 1) = first y + 365 + lp y := by
  unfold first
  rcases lp_cases y with h | h <;> omega
theorem cum_step (y m : Int) (h1 : 1 ≤ m) (h2 : m ≤ 12) : cum y m + mlen y m = if m = 12 then 365 + lp y else cum y (m + 1) := by
  unfold cum mlen
  have : m = 1 ∨ m = 2 ∨ m = 3 ∨ m = 4 ∨ m = 5 ∨ m = 6 ∨ m = 7 ∨ m = 8 ∨ m = 9 ∨ m = 10 ∨ m = 11 ∨ m = 12 := by omega
  rcases this with rfl | rfl | rfl | rfl | rfl | rfl | rfl | rfl | rfl | rfl | rfl | rfl <;> simp <;> omega
theorem lp_01 (y : Int) : 0 ≤ lp y ∧ lp y ≤ 1 := by rcases lp_cases y with h | h <;> omega
theorem mlen_room (y m : Int) : 28 ≤ mlen y m ∧ mlen y m ≤ 31 := by
  have := lp_01 y
  unfold mlen
  split
  · omega
  · split <;> omega

/-- the days of a date by years that begin in March -/
def sd (y m d : Int) : Int :=
  ((((if m ≤ 2 then y - 1 else y) + 10000) / 400 - 25) * 146097 + ((if m ≤ 2 then y - 1 else y) + 10000) % 400 * 365 + ((if m ≤ 2 then y - 1 else y) + 10000) % 400 / 4
    - ((if m ≤ 2 then y - 1 else y) + 10000) % 400 / 100 + ((153 * ((m + 9) % 12) + 2) / 5 + d - 1) - 719468)
theorem sd_eq (y m d : Int) (h1 : 1 ≤ m) (h2 : m ≤ 12) : sd y m d = first y + cum y m + d - 1 := by
  unfold sd first cum
  have hp := lp_cases y
  generalize lp y = p at hp
  by_cases c : m ≤ 2
  · simp only [if_pos c]
    have e : (m + 9) % 12 = m + 9 := by omega
    rw [e]
    omega
  · simp only [if_neg c]
    have e : (m + 9) % 12 = m - 3 := by omega
    rw [e]
    omega

/-- the year within 400, of a day within them -/
def yo (r : Int) : Int := (r - r / 1460 + r / 36524 - r / 146096) / 365
def ao (r : Int) : Int := r - (365 * yo r + yo r / 4 - yo r / 100)
theorem yo_room (r : Int) (h0 : 0 ≤ r) (h1 : r ≤ 146096) : 0 ≤ yo r ∧ yo r ≤ 399 := by
  unfold yo
  omega
def yf (r : Int) : Int := r - r / 1460 + r / 36524 - r / 146096
theorem yo_yf (r : Int) : yo r = yf r / 365 := rfl
theorem yf_up1 (r : Int) (h0 : 0 ≤ r) (h1 : r < 146096) : yf r ≤ yf (r + 1) := by
  unfold yf
  omega
theorem yf_up : ∀ (k : Nat) (r : Int), 0 ≤ r → r + k ≤ 146096 → yf r ≤ yf (r + k)
  | 0, r, _, _ => by simp
  | k + 1, r, h0, h1 => by
    have a := yf_up k r h0 (by omega)
    have b := yf_up1 (r + k) (by omega) (by omega)
    have e : r + ((k + 1 : Nat) : Int) = r + k + 1 := by omega
    rw [e]
    omega
theorem yf_mono {r q : Int} (h0 : 0 ≤ r) (h1 : r ≤ q) (h2 : q ≤ 146096) : yf r ≤ yf q := by
  have := yf_up (q - r).toNat r h0 (by omega)
  have e : r + ((q - r).toNat : Int) = q := by omega
  rwa [e] at this
def ys (y : Int) : Int := 365 * y + y / 4 - y / 100
theorem yf_marks : ∀ y : Fin 400, yf (ys y.val) ≥ 365 * y.val ∧ (y.val ≠ 0 → yf (ys y.val - 1) < 365 * y.val) := by decide +kernel
theorem ao_room (r : Int) (h0 : 0 ≤ r) (h1 : r ≤ 146096) : 0 ≤ ao r ∧ ao r ≤ 364 + lp (yo r + 1) := by
  have h2 := yo_room r h0 h1
  have hp := lp_cases (yo r + 1)
  generalize lp (yo r + 1) = p at hp
  have e : ao r = r - ys (yo r) := rfl
  rw [e]
  have hy := yo_yf r
  generalize yo r = y at *
  have s0 : 0 ≤ ys y := by unfold ys; omega
  have s1 : ys y ≤ 146000 := by unfold ys; omega
  constructor
  · by_cases c : r < ys y
    · have hm := yf_mono (q := ys y - 1) h0 (by omega) (by omega)
      have hk := (yf_marks ⟨y.toNat, by omega⟩).2
      simp only at hk
      rw [show ((y.toNat : Nat) : Int) = y by omega] at hk
      have hz : y ≠ 0 := by rintro rfl; unfold ys at c; omega
      have := hk (by omega)
      omega
    · omega
  · by_cases d : y = 399
    · subst d
      unfold ys
      omega
    · by_cases c : ys (y + 1) ≤ r
      · have s2 : 0 ≤ ys (y + 1) := by unfold ys; omega
        have hm := yf_mono (r := ys (y + 1)) (q := r) s2 c h1
        have hk := (yf_marks ⟨(y + 1).toNat, by omega⟩).1
        simp only at hk
        rw [show (((y + 1).toNat : Nat) : Int) = y + 1 by omega] at hk
        omega
      · unfold ys at *
        have q1 : (y + 1) / 100 = y / 100 ∨ ((y + 1) % 100 = 0 ∧ (y + 1) / 100 = y / 100 + 1) := by omega
        have q2 : (y + 1) / 4 = y / 4 ∨ ((y + 1) % 4 = 0 ∧ (y + 1) / 4 = y / 4 + 1) := by omega
        rcases q1 with q1 | q1 <;> rcases q2 with q2 | q2 <;> omega

/-- the date of a day -/
def dm (days : Int) : Int := (5 * ao ((days + 719468) % 146097) + 2) / 153
def dateM (days : Int) : Int := (dm days + 2) % 12 + 1
def dateY (days : Int) : Int := (days + 719468) / 146097 * 400 + yo ((days + 719468) % 146097) + (if dateM days ≤ 2 then 1 else 0)
def dateD (days : Int) : Int := ao ((days + 719468) % 146097) - (153 * dm days + 2) / 5 + 1
theorem date_ok (days : Int) : 1 ≤ dateM days ∧ dateM days ≤ 12 ∧ 1 ≤ dateD days ∧ dateD days ≤ mlen (dateY days) (dateM days) ∧ first (dateY days) + cum (dateY days) (dateM days) + dateD days - 1 = days := by
  have h0 : 0 ≤ (days + 719468) % 146097 := by omega
  have h1 : (days + 719468) % 146097 ≤ 146096 := by omega
  have hy := yo_room _ h0 h1
  have ha := ao_room _ h0 h1
  have hd : (days + 719468) / 146097 * 146097 + (days + 719468) % 146097 = days + 719468 := by omega
  have hao : ao ((days + 719468) % 146097) = (days + 719468) % 146097 - (365 * yo ((days + 719468) % 146097) + yo ((days + 719468) % 146097) / 4 - yo ((days + 719468) % 146097) / 100) := rfl
  unfold dateD dateY dateM
  have hm0 : 0 ≤ dm days ∧ dm days ≤ 11 := by unfold dm; have := lp_01 (yo ((days + 719468) % 146097) + 1); omega
  have hm := show dm days = (5 * ao ((days + 719468) % 146097) + 2) / 153 from rfl
  have hlp : lp ((days + 719468) / 146097 * 400 + yo ((days + 719468) % 146097) + 1) = lp (yo ((days + 719468) % 146097) + 1) := by
    rcases lp_cases ((days + 719468) / 146097 * 400 + yo ((days + 719468) % 146097) + 1) with h | h <;> rcases lp_cases (yo ((days + 719468) % 146097) + 1) with k | k <;> omega
  generalize dm days = m at *
  generalize ao ((days + 719468) % 146097) = a at *
  generalize yo ((days + 719468) % 146097) = y at *
  generalize (days + 719468) % 146097 = r at *
  generalize (days + 719468) / 146097 = e at *
  have hv : 1 ≤ (m + 2) % 12 + 1 ∧ (m + 2) % 12 + 1 ≤ 12 := by omega
  refine ⟨hv.1, hv.2, by omega, ?_, ?_⟩
  · unfold mlen
    have hl := lp_01 (y + 1)
    have : m = 0 ∨ m = 1 ∨ m = 2 ∨ m = 3 ∨ m = 4 ∨ m = 5 ∨ m = 6 ∨ m = 7 ∨ m = 8 ∨ m = 9 ∨ m = 10 ∨ m = 11 := by omega
    rcases this with rfl | rfl | rfl | rfl | rfl | rfl | rfl | rfl | rfl | rfl | rfl | rfl <;> simp <;> omega
  · rw [← sd_eq _ _ _ hv.1 hv.2]
    unfold sd
    have e1 : (if (m + 2) % 12 + 1 ≤ 2 then e * 400 + y + (if (m + 2) % 12 + 1 ≤ 2 then 1 else 0) - 1 else e * 400 + y + (if (m + 2) % 12 + 1 ≤ 2 then 1 else 0)) = e * 400 + y := by
      split <;> omega
    have e2 : ((m + 2) % 12 + 1 + 9) % 12 = m := by omega
    have e3 : (e * 400 + y + 10000) / 400 = e + 25 := by omega
    have e4 : (e * 400 + y + 10000) % 400 = y := by omega
    rw [e1, e2, e3, e4]
    omega
theorem date_mar (days : Int) : dm days = (dateM days + 9) % 12 := by
  have h0 : 0 ≤ (days + 719468) % 146097 := by omega
  have ha := ao_room _ h0 (by omega)
  have hl := lp_01 (yo ((days + 719468) % 146097) + 1)
  unfold dateM
  unfold dm
  omega

/-- a year's first day, far along -/
theorem first_far : ∀ (k : Nat) (y : Int), first y + 365 * k ≤ first (y + k)
  | 0, y => by simp
  | k + 1, y => by
    have := first_far k y
    have h := first_step (y + k)
    have := lp_01 (y + k)
    rw [show y + ((k + 1 : Nat) : Int) = y + k + 1 by omega]
    omega
theorem first_mono {y z : Int} (h : y ≤ z) : first y + 365 * (z - y) ≤ first z := by
  have := first_far (z - y).toNat y
  rw [show y + ((z - y).toNat : Int) = z by omega] at this
  omega
/-- days within a year -/
theorem cum_room (y m : Int) (h1 : 1 ≤ m) (h2 : m ≤ 12) : 0 ≤ cum y m ∧ cum y m + mlen y m ≤ 365 + lp y := by
  have := lp_01 y
  unfold cum mlen
  have : m = 1 ∨ m = 2 ∨ m = 3 ∨ m = 4 ∨ m = 5 ∨ m = 6 ∨ m = 7 ∨ m = 8 ∨ m = 9 ∨ m = 10 ∨ m = 11 ∨ m = 12 := by omega
  rcases this with rfl | rfl | rfl | rfl | rfl | rfl | rfl | rfl | rfl | rfl | rfl | rfl <;> simp <;> omega
/-- a date of a day is one -/
structure IsDate (y m d days : Int) : Prop where
  m1 : 1 ≤ m
  m2 : m ≤ 12
  d1 : 1 ≤ d
  d2 : d ≤ mlen y m
  eq : first y + cum y m + d - 1 = days
theorem date_is (days : Int) : IsDate (dateY days) (dateM days) (dateD days) days := by
  have h := date_ok days
  exact ⟨h.1, h.2.1, h.2.2.1, h.2.2.2.1, h.2.2.2.2⟩
theorem IsDate.year {y m d n : Int} (h : IsDate y m d n) : first y ≤ n ∧ n < first (y + 1) := by
  have := cum_room y m h.m1 h.m2
  have := first_step y
  obtain ⟨a, b, c, d, e⟩ := h
  omega
theorem IsDate.sameYear {y m d n y' m' d' : Int} (h : IsDate y m d n) (h' : IsDate y' m' d' n) : y = y' := by
  have a := h.year
  have b := h'.year
  have h1 : ¬ (y < y') := fun c => by have := first_mono (y := y + 1) (z := y') (by omega); omega
  have h2 : ¬ (y' < y) := fun c => by have := first_mono (y := y' + 1) (z := y) (by omega); omega
  omega
theorem cum_mono : ∀ (k : Nat) (y m : Int), 1 ≤ m → m + k ≤ 11 → cum y m + mlen y m ≤ cum y (m + k + 1)
  | 0, y, m, h1, h2 => by
    have := cum_step y m h1 (by omega)
    rw [if_neg (by omega)] at this
    simp
    omega
  | k + 1, y, m, h1, h2 => by
    have a := cum_mono k y m h1 (by omega)
    have b := cum_step y (m + k + 1) (by omega) (by omega)
    rw [if_neg (by omega)] at b
    have := mlen_room y (m + k + 1)
    rw [show m + ((k + 1 : Nat) : Int) + 1 = m + k + 1 + 1 by omega]
    omega
theorem IsDate.same {y m d n y' m' d' : Int} (h : IsDate y m d n) (h' : IsDate y' m' d' n) : y = y' ∧ m = m' ∧ d = d' := by
  obtain rfl := h.sameYear h'
  obtain ⟨a1, a2, a3, a4, a5⟩ := h
  obtain ⟨b1, b2, b3, b4, b5⟩ := h'
  have k1 : ¬ (m < m') := fun c => by
    have := cum_mono (m' - m - 1).toNat y m a1 (by omega)
    rw [show m + ((m' - m - 1).toNat : Int) + 1 = m' by omega] at this
    omega
  have k2 : ¬ (m' < m) := fun c => by
    have := cum_mono (m - m' - 1).toNat y m' b1 (by omega)
    rw [show m' + ((m - m' - 1).toNat : Int) + 1 = m by omega] at this
    omega
  obtain rfl : m = m' := by omega
  exact ⟨rfl, rfl, by omega⟩
end Go.Proofs.YtpabdojnfiiaoaaDoor
