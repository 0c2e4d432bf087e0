/- Words of times stand in the order of the times: plain. -/
import Derived.Test.YtpabdojnfiiaoaaDoorText
namespace Go.Proofs.YtpabdojnfiiaoaaDoor
open Go Go.Ev
set_option linter.unusedVariables false
set_option linter.unusedSimpArgs false

/-- first by a number, then by what is behind -/
def lx (u v : Int) (r : Bool) : Bool := decide (u < v) || (u == v && r)
theorem lx_lt {u v : Int} (h : u < v) (r : Bool) : lx u v r = true := by simp [lx, h]
theorem lx_gt {u v : Int} (h : v < u) (r : Bool) : lx u v r = false := by
  have a : ¬ u < v := by omega
  have b : ¬ u = v := by omega
  simp [lx, a, b]
theorem lx_eq (u : Int) (r : Bool) : lx u u r = r := by simp [lx]
theorem date_lt {y m d n y' m' d' n' : Int} (h : IsDate y m d n) (h' : IsDate y' m' d' n') (c : n < n') (r : Bool) : lx y y' (lx m m' (lx d d' r)) = true := by
  have k1 := h.year
  have k2 := h'.year
  rcases Int.lt_trichotomy y y' with q | q | q
  · exact lx_lt q _
  · subst q
    rw [lx_eq]
    obtain ⟨a1, a2, a3, a4, a5⟩ := h
    obtain ⟨b1, b2, b3, b4, b5⟩ := h'
    rcases Int.lt_trichotomy m m' with q | q | q
    · exact lx_lt q _
    · subst q
      rw [lx_eq]
      exact lx_lt (by omega) _
    · have := cum_mono (m - m' - 1).toNat y m' b1 (by omega)
      rw [show m' + ((m - m' - 1).toNat : Int) + 1 = m by omega] at this
      omega
  · have := first_mono (y := y' + 1) (z := y) (by omega)
    omega
theorem date_gt {y m d n y' m' d' n' : Int} (h : IsDate y m d n) (h' : IsDate y' m' d' n') (c : n' < n) (r : Bool) : lx y y' (lx m m' (lx d d' r)) = false := by
  have k1 := h.year
  have k2 := h'.year
  rcases Int.lt_trichotomy y y' with q | q | q
  · have := first_mono (y := y + 1) (z := y') (by omega)
    omega
  · subst q
    rw [lx_eq]
    obtain ⟨a1, a2, a3, a4, a5⟩ := h
    obtain ⟨b1, b2, b3, b4, b5⟩ := h'
    rcases Int.lt_trichotomy m m' with q | q | q
    · have := cum_mono (m' - m - 1).toNat y m a1 (by omega)
      rw [show m + ((m' - m - 1).toNat : Int) + 1 = m' by omega] at this
      omega
    · subst q
      rw [lx_eq]
      exact lx_gt (by omega) _
    · exact lx_gt q _
  · exact lx_gt q _
theorem date_lx {y m d n y' m' d' n' : Int} (h : IsDate y m d n) (h' : IsDate y' m' d' n') (r : Bool) : lx y y' (lx m m' (lx d d' r)) = lx n n' r := by
  rcases Int.lt_trichotomy n n' with c | c | c
  · rw [date_lt h h' c, lx_lt c]
  · subst c
    obtain ⟨rfl, rfl, rfl⟩ := h.same h'
    simp only [lx_eq]
  · rw [date_gt h h' c, lx_gt c]
theorem split_lx (k : Int) (hk : 0 < k) (a b : Int) (r : Bool) : lx (a / k) (b / k) (lx (a % k) (b % k) r) = lx a b r := by
  have ha := Int.mul_ediv_add_emod a k
  have hb := Int.mul_ediv_add_emod b k
  have ha0 := Int.emod_nonneg a (show k ≠ 0 by omega)
  have ha1 := Int.emod_lt_of_pos a hk
  have hb0 := Int.emod_nonneg b (show k ≠ 0 by omega)
  have hb1 := Int.emod_lt_of_pos b hk
  rcases Int.lt_trichotomy (a / k) (b / k) with c | c | c
  · rw [lx_lt c, lx_lt]
    have := Int.mul_le_mul_of_nonneg_left (show a / k + 1 ≤ b / k by omega) (Int.le_of_lt hk)
    rw [Int.mul_add] at this
    omega
  · rw [c, lx_eq]
    rw [c] at ha
    rcases Int.lt_trichotomy (a % k) (b % k) with e | e | e
    · rw [lx_lt e, lx_lt (by omega)]
    · have : a = b := by omega
      rw [this, lx_eq, lx_eq]
    · rw [lx_gt e, lx_gt (by omega)]
  · rw [lx_gt c, lx_gt]
    have := Int.mul_le_mul_of_nonneg_left (show b / k + 1 ≤ a / k by omega) (Int.le_of_lt hk)
    rw [Int.mul_add] at this
    omega
theorem clock_lx (a b : Int) (r : Bool) : lx (a / 3600) (b / 3600) (lx (a / 60 % 60) (b / 60 % 60) (lx (a % 60) (b % 60) r)) = lx a b r := by
  have e1 := split_lx 60 (by decide) (a / 60) (b / 60) (lx (a % 60) (b % 60) r)
  have e2 := split_lx 60 (by decide) a b r
  rw [show a / 60 / 60 = a / 3600 by omega, show b / 60 / 60 = b / 3600 by omega] at e1
  rw [e1, e2]

/-- so many digits -/
def fx : Nat → Nat → List UInt8
  | 0, _ => []
  | w + 1, u => fx w (u / 10) ++ [UInt8.ofNat (48 + u % 10)]
theorem fx_0 : ∀ w, fx w 0 = zeros w
  | 0 => rfl
  | w + 1 => by
    have e : ∀ w, zeros w ++ [48] = zeros (w + 1) := by
      intro w
      induction w with
      | zero => rfl
      | succ w ih =>
        show 48 :: (zeros w ++ [48]) = 48 :: zeros (w + 1)
        rw [ih]
    rw [fx, ← e, ← fx_0 w]
    rfl
def padN (n w : Nat) : List UInt8 := zeros (w - (Lib.decDigits n).length) ++ Lib.decDigits n
theorem decDigits_lt {n : Nat} (h : n < 10) : Lib.decDigits n = [UInt8.ofNat (48 + n)] := by rw [Lib.decDigits, dif_pos h]
theorem decDigits_ge {n : Nat} (h : ¬ n < 10) : Lib.decDigits n = Lib.decDigits (n / 10) ++ [UInt8.ofNat (48 + n % 10)] := by rw [Lib.decDigits, dif_neg h]
theorem padN_fx : ∀ (w n : Nat), n < 10 ^ (w + 1) → padN n (w + 1) = fx (w + 1) n
  | 0, n, h => by
    have h' : n < 10 := by simpa using h
    unfold padN
    rw [decDigits_lt h', fx, fx, Nat.mod_eq_of_lt h']
    rfl
  | w + 1, n, h => by
    by_cases c : n < 10
    · unfold padN
      rw [decDigits_lt c, fx, Nat.mod_eq_of_lt c, show n / 10 = 0 by omega, fx_0]
      rfl
    · have ih := padN_fx w (n / 10) (by rw [Nat.pow_succ] at h; omega)
      rw [fx, ← ih]
      unfold padN
      rw [decDigits_ge c]
      simp only [List.length_append, List.length_cons, List.length_nil]
      rw [show w + 1 + 1 - ((Lib.decDigits (n / 10)).length + (0 + 1)) = w + 1 - (Lib.decDigits (n / 10)).length by omega, List.append_assoc]
theorem padM_fx {v : Int} {w : Nat} (h0 : 0 ≤ v) (h1 : v < 10 ^ (w + 1)) (h2 : v ≤ 1000000000) : padM v ((w + 1 : Nat) : Int) = fx (w + 1) v.toNat := by
  have e : dec v = Lib.decDigits v.toNat := decF_eq 19 _ (by omega)
  rw [← padN_fx w v.toNat (by
    have : ((v.toNat : Nat) : Int) < ((10 ^ (w + 1) : Nat) : Int) := by rw [Int.toNat_of_nonneg h0]; exact_mod_cast h1
    exact_mod_cast this)]
  unfold padM padN
  rw [e]
  congr 2
  omega
theorem less_nil (x : List UInt8) : Op.bytesLess x [] = false := by cases x <;> rfl
theorem less_cons (c d : UInt8) (x y : List UInt8) : Op.bytesLess (c :: x) (d :: y) = (decide (c < d) || (c == d && Op.bytesLess x y)) := rfl
theorem less_same (c : UInt8) (x y : List UInt8) : Op.bytesLess (c :: x) (c :: y) = Op.bytesLess x y := by
  rw [less_cons]
  simp [UInt8.lt_irrefl]
theorem digit_toNat (u : Nat) : (UInt8.ofNat (48 + u % 10)).toNat = 48 + u % 10 := by
  rw [UInt8.toNat_ofNat']
  omega
theorem less_digit (u v : Nat) (x y : List UInt8) : Op.bytesLess (UInt8.ofNat (48 + u % 10) :: x) (UInt8.ofNat (48 + v % 10) :: y) = lx ((u % 10 : Nat) : Int) ((v % 10 : Nat) : Int) (Op.bytesLess x y) := by
  rw [less_cons]
  have a := digit_toNat u
  have b := digit_toNat v
  rcases Nat.lt_trichotomy (u % 10) (v % 10) with c | c | c
  · rw [lx_lt (by omega)]
    have : UInt8.ofNat (48 + u % 10) < UInt8.ofNat (48 + v % 10) := by rw [UInt8.lt_iff_toNat_lt]; omega
    rw [decide_eq_true this, Bool.true_or]
  · rw [c, lx_eq]
    simp [UInt8.lt_irrefl]
  · rw [lx_gt (by omega)]
    have h1 : ¬ UInt8.ofNat (48 + u % 10) < UInt8.ofNat (48 + v % 10) := by rw [UInt8.lt_iff_toNat_lt]; omega
    have h2 : UInt8.ofNat (48 + u % 10) ≠ UInt8.ofNat (48 + v % 10) := fun e => by have := congrArg UInt8.toNat e; omega
    rw [decide_eq_false h1, Bool.false_or]
    rw [show (UInt8.ofNat (48 + u % 10) == UInt8.ofNat (48 + v % 10)) = false by simpa using h2]
    rfl
theorem less_fx : ∀ (w u v : Nat) (x y : List UInt8), u < 10 ^ w → v < 10 ^ w → Op.bytesLess (fx w u ++ x) (fx w v ++ y) = lx u v (Op.bytesLess x y)
  | 0, u, v, x, y, h1, h2 => by
    have e1 : u = 0 := by simpa using h1
    have e2 : v = 0 := by simpa using h2
    subst e1 e2
    rw [lx_eq]
    rfl
  | w + 1, u, v, x, y, h1, h2 => by
    have ih := less_fx w (u / 10) (v / 10) (UInt8.ofNat (48 + u % 10) :: x) (UInt8.ofNat (48 + v % 10) :: y) (by rw [Nat.pow_succ] at h1; omega) (by rw [Nat.pow_succ] at h2; omega)
    rw [less_digit] at ih
    rw [fx, fx, List.append_assoc, List.append_assoc]
    refine ih.trans ?_
    have := split_lx 10 (by decide) (u : Int) (v : Int) (Op.bytesLess x y)
    rw [← this]
    rfl
theorem less_pad {u v : Int} {w : Nat} (h0 : 0 ≤ u) (h1 : u < 10 ^ (w + 1)) (h2 : 0 ≤ v) (h3 : v < 10 ^ (w + 1)) (hu : u ≤ 1000000000) (hv : v ≤ 1000000000) (x y : List UInt8) :
    Op.bytesLess (padM u ((w + 1 : Nat) : Int) ++ x) (padM v ((w + 1 : Nat) : Int) ++ y) = lx u v (Op.bytesLess x y) := by
  rw [padM_fx h0 h1 hu, padM_fx h2 h3 hv, less_fx _ _ _ _ _ (by
    have : ((u.toNat : Nat) : Int) < ((10 ^ (w + 1) : Nat) : Int) := by rw [Int.toNat_of_nonneg h0]; exact_mod_cast h1
    exact_mod_cast this) (by
    have : ((v.toNat : Nat) : Int) < ((10 ^ (w + 1) : Nat) : Int) := by rw [Int.toNat_of_nonneg h2]; exact_mod_cast h3
    exact_mod_cast this), Int.toNat_of_nonneg h0, Int.toNat_of_nonneg h2]

/-- trimmed, from the front -/
theorem trimM_cons (c : UInt8) (f : List UInt8) : trimM (c :: f) = if trimM f = [] then (if c = 48 then [] else [c]) else c :: trimM f := by
  unfold trimM
  rw [List.reverse_cons, List.dropWhile_append]
  by_cases h : List.dropWhile (fun x => x == 48) f.reverse = []
  · by_cases hc : c = 48
    · subst hc
      simp [h]
    · have : (c == 48) = false := by simpa using hc
      simp [h, hc]
  · have : (List.dropWhile (fun x => x == 48) f.reverse).isEmpty = false := by simpa using h
    simp [h]
theorem less_trim : ∀ (f g : List UInt8), f.length = g.length → (∀ c ∈ f, 48 ≤ c.toNat) → (∀ c ∈ g, 48 ≤ c.toNat) → Op.bytesLess (trimM f) (trimM g) = Op.bytesLess f g
  | [], [], _, _, _ => rfl
  | [], _ :: _, h, _, _ => by simp at h
  | _ :: _, [], h, _, _ => by simp at h
  | c :: f, d :: g, h, hf, hg => by
    have ih := less_trim f g (by simpa using h) (fun x hx => hf x (List.mem_cons_of_mem _ hx)) (fun x hx => hg x (List.mem_cons_of_mem _ hx))
    have h1 := hf c (by simp)
    have h2 := hg d (by simp)
    rw [trimM_cons, trimM_cons]
    rcases Nat.lt_trichotomy c.toNat d.toNat with q | q | q
    · have hd : d ≠ 48 := by rintro rfl; simp at q; omega
      have hl : c < d := UInt8.lt_iff_toNat_lt.2 q
      have e : ∀ x y, Op.bytesLess (c :: x) (d :: y) = true := fun x y => by rw [less_cons, decide_eq_true hl, Bool.true_or]
      rw [e f g, if_neg hd]
      split
      · split
        · split <;> rfl
        · split <;> exact e _ _
      · split <;> exact e _ _
    · obtain rfl : c = d := UInt8.toNat_inj.1 q
      rw [less_same, ← ih]
      by_cases a : trimM f = []
      · by_cases b : trimM g = []
        · rw [if_pos a, if_pos b, a, b]
          by_cases k : c = 48
          · rw [if_pos k]
          · rw [if_neg k, less_same]
        · rw [if_pos a, if_neg b, a]
          by_cases k : c = 48
          · rw [if_pos k]
            cases hh : trimM g with
            | nil => exact absurd hh b
            | cons _ _ => rfl
          · rw [if_neg k, less_same]
      · by_cases b : trimM g = []
        · rw [if_neg a, if_pos b, b, less_nil]
          by_cases k : c = 48
          · rw [if_pos k, less_nil]
          · rw [if_neg k, less_same, less_nil]
        · rw [if_neg a, if_neg b, less_same]
    · have hc : c ≠ 48 := by rintro rfl; simp at q; omega
      have hl : ¬ c < d := by rw [UInt8.lt_iff_toNat_lt]; omega
      have hn : (c == d) = false := by simpa using (show c ≠ d by rintro rfl; omega)
      have e : ∀ x y, Op.bytesLess (c :: x) (d :: y) = false := fun x y => by rw [less_cons, decide_eq_false hl, hn]; rfl
      rw [e f g, if_neg hc]
      split
      · split
        · split
          · rfl
          · exact e _ _
        · exact e _ _
      · split
        · split
          · rfl
          · exact e _ _
        · exact e _ _
theorem fx_len : ∀ w u, (fx w u).length = w
  | 0, _ => rfl
  | w + 1, u => by rw [fx, List.length_append, fx_len w]; rfl
theorem fx_48 : ∀ w u, ∀ c ∈ fx w u, 48 ≤ c.toNat
  | 0, _, c, h => by cases h
  | w + 1, u, c, h => by
    rw [fx] at h
    rcases List.mem_append.1 h with h | h
    · exact fx_48 w _ c h
    · rw [List.mem_singleton] at h
      rw [h, digit_toNat]
      omega
theorem less_nano {a b : Int} (h0 : 0 ≤ a) (h1 : a ≤ 999999999) (h2 : 0 ≤ b) (h3 : b ≤ 999999999) : Op.bytesLess (nanoT a) (nanoT b) = decide (a < b) := by
  unfold nanoT
  by_cases c : b = 0
  · rw [if_pos c, less_nil, decide_eq_false (by omega)]
  · rw [if_neg c]
    by_cases e : a = 0
    · rw [if_pos e, decide_eq_true (by omega)]
      rfl
    · rw [if_neg e]
      show Op.bytesLess (46 :: trimM (padM a 9)) (46 :: trimM (padM b 9)) = _
      rw [less_same, show (9 : Int) = ((8 + 1 : Nat) : Int) from rfl, padM_fx h0 (by omega) (by omega), padM_fx h2 (by omega) (by omega)]
      rw [less_trim _ _ (by rw [fx_len, fx_len]) (fx_48 _ _) (fx_48 _ _)]
      have := less_fx (8 + 1) a.toNat b.toNat [] [] (by omega) (by omega)
      rw [List.append_nil, List.append_nil] at this
      rw [this, Int.toNat_of_nonneg h0, Int.toNat_of_nonneg h2]
      simp [lx, Op.bytesLess]
theorem sep_less (c : UInt8) (x y : List UInt8) : Op.bytesLess ([c] ++ x) ([c] ++ y) = Op.bytesLess x y := less_same c x y
theorem year_room {n : Int} (h0 : -719162 ≤ n) (h1 : n ≤ 2932896) : 1 ≤ dateY n ∧ dateY n ≤ 9999 := by
  have hy := (date_is n).year
  have e1 : first 1 = -719162 := by decide
  have e2 : first 10000 = 2932897 := by decide
  constructor
  · by_cases c : dateY n ≤ 0
    · have := first_mono (y := dateY n + 1) (z := 1) (by omega)
      omega
    · omega
  · by_cases c : 10000 ≤ dateY n
    · have := first_mono (y := 10000) (z := dateY n) (by omega)
      omega
    · omega
theorem text_less {a b an bn : Int} (a0 : -62135596800 ≤ a) (a1 : a ≤ 253402300799) (b0 : -62135596800 ≤ b) (b1 : b ≤ 253402300799) (h0 : 0 ≤ an) (h1 : an ≤ 999999999) (h2 : 0 ≤ bn) (h3 : bn ≤ 999999999) :
    Op.bytesLess (textM a an) (textM b bn) = lx a b (decide (an < bn)) := by
  have ya := year_room (n := a / 86400) (by omega) (by omega)
  have yb := year_room (n := b / 86400) (by omega) (by omega)
  have da := date_is (a / 86400)
  have db := date_is (b / 86400)
  have ma := mlen_room (dateY (a / 86400)) (dateM (a / 86400))
  have mb := mlen_room (dateY (b / 86400)) (dateM (b / 86400))
  have hs := split_lx 86400 (by decide) a b (decide (an < bn))
  have hd := date_lx da db (lx (a % 86400) (b % 86400) (decide (an < bn)))
  rw [← hs, ← hd, ← clock_lx (a % 86400) (b % 86400), ← less_nano h0 h1 h2 h3]
  have ra0 : 0 ≤ a % 86400 := by omega
  have ra1 : a % 86400 < 86400 := by omega
  have rb0 : 0 ≤ b % 86400 := by omega
  have rb1 : b % 86400 < 86400 := by omega
  obtain ⟨p1, p2, p3, p4, p5⟩ := da
  obtain ⟨q1, q2, q3, q4, q5⟩ := db
  unfold textM dayM clockM
  generalize a % 86400 = ra at *
  generalize b % 86400 = rb at *
  generalize dateY (a / 86400) = y at *
  generalize dateM (a / 86400) = m at *
  generalize dateD (a / 86400) = d at *
  generalize dateY (b / 86400) = y' at *
  generalize dateM (b / 86400) = m' at *
  generalize dateD (b / 86400) = d' at *
  generalize nanoT an = na at *
  generalize nanoT bn = nb at *
  have s1 : sgnM y = [] := if_neg (by omega)
  have s2 : sgnM y' = [] := if_neg (by omega)
  have s3 : absM y = y := if_neg (by omega)
  have s4 : absM y' = y' := if_neg (by omega)
  rw [s1, s2, s3, s4]
  simp only [List.nil_append, List.append_assoc]
  have P2 : ∀ (u v : Int) (x z : List UInt8), 0 ≤ u → u < 100 → 0 ≤ v → v < 100 → Op.bytesLess (padM u 2 ++ x) (padM v 2 ++ z) = lx u v (Op.bytesLess x z) := fun u v x z e1 e2 e3 e4 =>
    less_pad (w := 1) e1 (by omega) e3 (by omega) (by omega) (by omega) x z
  have P4 : ∀ (x z : List UInt8), Op.bytesLess (padM y 4 ++ x) (padM y' 4 ++ z) = lx y y' (Op.bytesLess x z) := fun x z =>
    less_pad (w := 3) (by omega) (by omega) (by omega) (by omega) (by omega) (by omega) x z
  have N2 : ∀ (u v : Int), 0 ≤ u → u < 100 → 0 ≤ v → v < 100 → True := fun _ _ _ _ _ _ => trivial
  rw [P4, sep_less, P2 _ _ _ _ (by omega) (by omega) (by omega) (by omega), sep_less, P2 _ _ _ _ (by omega) (by omega) (by omega) (by omega), sep_less,
    P2 _ _ _ _ (by omega) (by omega) (by omega) (by omega), sep_less, P2 _ _ _ _ (by omega) (by omega) (by omega) (by omega), sep_less, P2 _ _ _ _ (by omega) (by omega) (by omega) (by omega)]
theorem text_same {a b an bn : Int} (a0 : -62135596800 ≤ a) (a1 : a ≤ 253402300799) (b0 : -62135596800 ≤ b) (b1 : b ≤ 253402300799) (h0 : 0 ≤ an) (h1 : an ≤ 999999999) (h2 : 0 ≤ bn) (h3 : bn ≤ 999999999) :
    (textM a an == textM b bn) = ((a == b) && (an == bn)) := by
  by_cases c : a = b ∧ an = bn
  · obtain ⟨rfl, rfl⟩ := c
    simp
  · have hr : ((a == b) && (an == bn)) = false := by
      by_cases q : a = b
      · have : an ≠ bn := fun e => c ⟨q, e⟩
        simp [this]
      · simp [q]
    rw [hr]
    refine beq_eq_false_iff_ne.2 fun e => c ?_
    have k1 := text_less (an := an) (bn := bn) a0 a1 b0 b1 h0 h1 h2 h3
    have k2 := text_less (an := bn) (bn := an) b0 b1 a0 a1 h2 h3 h0 h1
    have k3 := text_less (an := bn) (bn := bn) b0 b1 b0 b1 h2 h3 h2 h3
    rw [lx_eq, decide_eq_false (by omega)] at k3
    rw [e, k3] at k1
    rw [e, k3] at k2
    rcases Int.lt_trichotomy a b with q | q | q
    · rw [lx_lt q] at k1; cases k1
    · subst q
      rw [lx_eq] at k1 k2
      have r1 := of_decide_eq_false k1.symm
      have r2 := of_decide_eq_false k2.symm
      exact ⟨rfl, by omega⟩
    · rw [lx_lt q] at k2; cases k2
end Go.Proofs.YtpabdojnfiiaoaaDoor
