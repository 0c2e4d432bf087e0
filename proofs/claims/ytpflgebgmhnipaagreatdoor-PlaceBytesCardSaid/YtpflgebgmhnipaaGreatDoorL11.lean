/- The evaluator of Go code and its proofs, part 11. Own work. -/
import Derived.Test.YtpflgebgmhnipaaGreatDoorL10
import Derived.OpenShut
set_option linter.unusedVariables false
set_option linter.unusedSimpArgs false
set_option linter.unusedSectionVars false
/-! EvZy -/
/- Rules for bits. Own work. -/
namespace Go.Ev
open Go

def andNotI (k : IntKind) (a b : Int) : Int := k.wrap (BitVec.ofInt k.bits a &&& ~~~ BitVec.ofInt k.bits b).toNat
@[go_sem] theorem ib_andNot (k : IntKind) (a b : Int) : intBin .andNot k a k b = some (.int k (andNotI k a b)) := by simp [intBin, andNotI]

theorem wrapU_of {k : IntKind} (hk : k.signed = false) {n : Int} (h0 : 0 ≤ n) (h1 : n < 2 ^ k.bits) : k.wrap n = n := by
  simp only [IntKind.wrap, hk, Bool.false_and, Bool.false_eq_true, if_false]
  exact Int.emod_eq_of_lt h0 h1
theorem wrapU_mod {k : IntKind} (hk : k.signed = false) (n : Nat) : k.wrap (n : Int) = ((n % 2 ^ k.bits : Nat) : Int) := by
  simp only [IntKind.wrap, hk, Bool.false_and, Bool.false_eq_true, if_false]
  simp

section
variable {k : IntKind} (hk : k.signed = false) {a b : Nat} (ha : a < 2 ^ k.bits) (hb : b < 2 ^ k.bits)
include hk ha
theorem andU : andI k a b = ((a &&& b : Nat) : Int) := by
  have e : (BitVec.ofInt k.bits (a : Int) &&& BitVec.ofInt k.bits (b : Int)).toNat = a &&& (b % 2 ^ k.bits) := by
    rw [BitVec.toNat_and, BitVec.ofInt_natCast, BitVec.ofInt_natCast, BitVec.toNat_ofNat, BitVec.toNat_ofNat, Nat.mod_eq_of_lt ha]
  have e2 : a &&& (b % 2 ^ k.bits) = a &&& b := by
    apply Nat.eq_of_testBit_eq
    intro i
    rw [Nat.testBit_and, Nat.testBit_and, Nat.testBit_mod_two_pow]
    by_cases h : i < k.bits
    · simp [h]
    · have : a.testBit i = false := Nat.testBit_lt_two_pow (Nat.lt_of_lt_of_le ha (Nat.pow_le_pow_right (by decide) (by omega)))
      simp [this]
  unfold andI
  rw [e, e2, wrapU_of hk (by omega)]
  have : a &&& b ≤ a := Nat.and_le_left
  have h2 : ((2 ^ k.bits : Nat) : Int) = 2 ^ k.bits := by simp
  omega
include hb
theorem orU : orI k a b = ((a ||| b : Nat) : Int) := by
  have e : (BitVec.ofInt k.bits (a : Int) ||| BitVec.ofInt k.bits (b : Int)).toNat = a ||| b := by
    rw [BitVec.toNat_or, BitVec.ofInt_natCast, BitVec.ofInt_natCast, BitVec.toNat_ofNat, BitVec.toNat_ofNat, Nat.mod_eq_of_lt ha, Nat.mod_eq_of_lt hb]
  unfold orI
  rw [e, wrapU_of hk (by omega)]
  have : a ||| b < 2 ^ k.bits := Nat.or_lt_two_pow ha hb
  have h2 : ((2 ^ k.bits : Nat) : Int) = 2 ^ k.bits := by simp
  omega
theorem xorU : xorI k a b = ((a ^^^ b : Nat) : Int) := by
  have e : (BitVec.ofInt k.bits (a : Int) ^^^ BitVec.ofInt k.bits (b : Int)).toNat = a ^^^ b := by
    rw [BitVec.toNat_xor, BitVec.ofInt_natCast, BitVec.ofInt_natCast, BitVec.toNat_ofNat, BitVec.toNat_ofNat, Nat.mod_eq_of_lt ha, Nat.mod_eq_of_lt hb]
  unfold xorI
  rw [e, wrapU_of hk (by omega)]
  have : a ^^^ b < 2 ^ k.bits := Nat.xor_lt_two_pow ha hb
  have h2 : ((2 ^ k.bits : Nat) : Int) = 2 ^ k.bits := by simp
  omega
end

theorem shlU {k : IntKind} (hk : k.signed = false) (a : Nat) {n : Nat} (hn : n ≤ k.bits) : shlI k (a : Int) (n : Int) = ((a * 2 ^ n % 2 ^ k.bits : Nat) : Int) := by
  unfold shlI
  rw [Int.toNat_natCast, Nat.min_eq_left hn]
  have : ((a : Int) * 2 ^ n) = ((a * 2 ^ n : Nat) : Int) := by simp
  rw [this, wrapU_mod hk]
theorem shrU (k : IntKind) (a : Nat) {n : Nat} (hn : n ≤ k.bits) : shrI k (a : Int) (n : Int) = ((a / 2 ^ n : Nat) : Int) := by
  rw [shrI_eq k _ n hn]
  simp

/-- bits side by side -/
theorem or_add {a b n : Nat} (h : a < 2 ^ n) : a ||| b * 2 ^ n = a + b * 2 ^ n := by
  rw [Nat.or_comm, Nat.mul_comm b, Nat.two_pow_add_eq_or_of_lt h b |>.symm]
  omega
theorem and_mask (a n : Nat) : a &&& (2 ^ n - 1) = a % 2 ^ n := Nat.and_two_pow_sub_one_eq_mod a n

theorem signed_u64 : IntKind.u64.signed = false := rfl
theorem signed_u8 : IntKind.u8.signed = false := rfl
/-- conversions of a number that is not below nought -/
theorem cv_u8 (n : Nat) : IntKind.u8.wrap (n : Int) = ((n % 256 : Nat) : Int) := wrapU_mod (k := .u8) rfl n
theorem cv_u32 (n : Nat) : IntKind.u32.wrap (n : Int) = ((n % 4294967296 : Nat) : Int) := wrapU_mod (k := .u32) rfl n
theorem cv_u64 (n : Nat) : IntKind.u64.wrap (n : Int) = ((n % 18446744073709551616 : Nat) : Int) := wrapU_mod (k := .u64) rfl n
theorem cv_u64_neg {v : Int} (h0 : -18446744073709551616 ≤ v) (h1 : v < 0) : IntKind.u64.wrap v = v + 18446744073709551616 := by
  simp [IntKind.wrap, IntKind.signed, IntKind.bits]
  omega
theorem cv_i64_big {n : Int} (h0 : 9223372036854775808 ≤ n) (h1 : n < 18446744073709551616) : IntKind.i64.wrap n = n - 18446744073709551616 := by
  simp [IntKind.wrap, IntKind.signed, IntKind.bits, BitVec.toInt_ofInt, Int.bmod_def]
  omega

/-- all bits turned -/
theorem xor_ones {a : Nat} (h : a < 18446744073709551616) : xorI .u64 a 18446744073709551615 = ((18446744073709551615 - a : Nat) : Int) := by
  have := xorU (k := .u64) rfl (a := a) (b := 18446744073709551615) h (by decide)
  rw [show ((18446744073709551615 : Nat) : Int) = 18446744073709551615 from rfl] at this
  rw [this]
  congr 1
  have e : a ^^^ 18446744073709551615 = 18446744073709551615 - a := by
    have := BitVec.xor_allOnes (x := BitVec.ofNat 64 a)
    have h2 := congrArg BitVec.toNat this
    simp only [BitVec.toNat_xor, BitVec.toNat_ofNat, BitVec.toNat_allOnes, BitVec.toNat_not] at h2
    rw [Nat.mod_eq_of_lt h] at h2
    omega
  exact e
theorem xor_ones' {a : Int} (h0 : 0 ≤ a) (h : a < 18446744073709551616) : xorI .u64 a 18446744073709551615 = 18446744073709551615 - a := by
  obtain ⟨m, rfl⟩ : ∃ m : Nat, a = m := ⟨a.toNat, by omega⟩
  rw [xor_ones (by omega)]
  omega
theorem xor_zero {k : IntKind} {a : Int} (h : k.wrap a = a) : xorI k a 0 = a := by
  unfold xorI
  have : BitVec.ofInt k.bits (0 : Int) = 0#k.bits := by simp
  rw [this, BitVec.xor_zero, BitVec.toNat_ofInt]
  have h2 : ((2 ^ k.bits : Nat) : Int) ≠ 0 := by have := Nat.two_pow_pos k.bits; omega
  rw [Int.toNat_of_nonneg (Int.emod_nonneg _ h2)]
  rw [show ((2 ^ k.bits : Nat) : Int) = 2 ^ k.bits by simp]
  have : k.wrap (a % 2 ^ k.bits) = k.wrap a := by
    unfold IntKind.wrap
    simp
  rw [this, h]
/-- a signed number, all bits turned -/
theorem xor_neg1 {a : Int} (h0 : -9223372036854775808 ≤ a) (h1 : a < 9223372036854775808) : xorI .i64 a (-1) = -1 - a := by
  unfold xorI
  have e : BitVec.ofInt 64 (-1) = BitVec.allOnes 64 := by decide
  show IntKind.i64.wrap ((BitVec.ofInt 64 a ^^^ BitVec.ofInt 64 (-1)).toNat : Int) = _
  rw [e, BitVec.xor_allOnes, BitVec.toNat_not, BitVec.toNat_ofInt]
  by_cases h : a < 0
  · have : (a % ((2 ^ 64 : Nat) : Int)).toNat = (a + 18446744073709551616).toNat := by omega
    rw [this, wrap_i64 (by omega) (by omega)]
    omega
  · have : (a % ((2 ^ 64 : Nat) : Int)).toNat = a.toNat := by omega
    rw [this, cv_i64_big (by omega) (by omega)]
    omega
end Go.Ev

/-! EvZz -/
/- Regions that draw their order, by rules. Own work. -/
namespace Go.Ev
open Go
variable {X : Kx} {K : List Kf} {s : St}

/-- a region that draws its order, its operations still to do; what those that are done looked at and turned -/
noncomputable def goRU (X : Kx) (acc : List (List Loc × List Loc)) (un : List (Nat × Nat)) (ops : List IOper) (keep : List Nat) (K : List Kf) (s : St) : Ans :=
  match evOpsU X.cfg (evL X.cfg) X.dep ops s with
  | some (l, s') => if unordOk (acc ++ l) un then go X K (settle X.dep keep s') else none
  | none => none
theorem go_regionU' (ops : List IOper) (p : Nat × Nat) (un : List (Nat × Nat)) (keep : List Nat) : go X (.c (.region ops (p :: un) keep) :: K) s = goRU X [] (p :: un) ops keep K s := by
  unfold go goRU
  rw [thread, evC_region]
  unfold evRegion
  simp only [List.nil_append]
  cases evOpsU X.cfg (evL X.cfg) X.dep ops s with
  | none => exact thread_none _ _
  | some r =>
    obtain ⟨l, s'⟩ := r
    by_cases hu : unordOk l (p :: un) = true
    · simp only [hu, if_true]
      rfl
    · simp only [hu, Bool.false_eq_true, if_false]
      exact thread_none _ _
noncomputable def goRUC (X : Kx) (acc : List (List Loc × List Loc)) (un : List (Nat × Nat)) (o : IOper) (r : List IOper) (keep : List Nat) (K : List Kf) (s : St) : Option (List (Loc × V)) → Ans
  | some u => goRU X (acc ++ [(readsOf X.dep s.get o, u.map (·.1))]) un r keep K (s.upd u)
  | none => none
@[go_sem] theorem goRU_step (acc : List (List Loc × List Loc)) (un : List (Nat × Nat)) (o : IOper) (r : List IOper) (keep : List Nat) : goRU X acc un (o :: r) keep K s = goRUC X acc un o r keep K s (stepU X.cfg (evL X.cfg) X.dep s.get o) := by
  unfold goRU
  rw [evOpsU]
  unfold goRUC goRU
  cases stepU X.cfg (evL X.cfg) X.dep s.get o with
  | none => rfl
  | some u =>
    simp only
    cases evOpsU X.cfg (evL X.cfg) X.dep r (s.upd u) with
    | none => rfl
    | some q => obtain ⟨l, s'⟩ := q; simp only [List.append_assoc, List.singleton_append]
@[go_sem] theorem goRUC_some (acc : List (List Loc × List Loc)) (un : List (Nat × Nat)) (o : IOper) (r : List IOper) (keep : List Nat) (u : List (Loc × V)) :
    goRUC X acc un o r keep K s (some u) = goRU X (acc ++ [(readsOf X.dep s.get o, u.map (·.1))]) un r keep K (s.upd u) := rfl
@[go_sem] theorem goRU_end (acc : List (List Loc × List Loc)) (un : List (Nat × Nat)) (keep : List Nat) (e : List (Nat × V)) (m : List (Cel × V)) (h : unordOk acc un = true) :
    goRU X acc un [] keep K ⟨e, m⟩ = go X K ⟨settleE X.dep keep e, settleM X.dep m⟩ := by
  unfold goRU
  simp only [evOpsU, List.append_nil, h, if_true]
  rfl
/-- what lies behind a value -/
def behind (n : Nat) : Option V → List Loc
  | some (.bor l _ _) => [l]
  | some (.bref l _ _) => [l]
  | some (.ref d j off) => spanLocs d j off n
  | _ => []
@[go_sem] theorem behind_d (n : Nat) (y : D) : behind n (some (.d y)) = [] := rfl
@[go_sem] theorem behind_own (n : Nat) (nw : Bool) (z : Nat) (es : List D) : behind n (some (.own nw z es)) = [] := rfl
@[go_sem] theorem behind_bor (n : Nat) (l : Loc) (a b : Nat) : behind n (some (.bor l a b)) = [l] := rfl
@[go_sem] theorem behind_bref (n : Nat) (l : Loc) (a b : Nat) : behind n (some (.bref l a b)) = [l] := rfl
@[go_sem] theorem behind_iptr (n : Nat) (e : D) (o : Nat) : behind n (some (.iptr e o)) = [] := rfl
@[go_sem] theorem behind_junk (n : Nat) : behind n (some .junk) = [] := rfl
@[go_sem] theorem behind_clo (n : Nat) (f : FuncId) (a b : List V) : behind n (some (.clo f a b)) = [] := rfl
@[go_sem] theorem behind_ifc (n : Nat) (t : TypeId) (v : V) : behind n (some (.ifc t v)) = [] := rfl
@[go_sem] theorem behind_ref (n d j off : Nat) : behind n (some (.ref d j off)) = spanLocs d j off n := rfl
@[go_sem] theorem opdLocs_t (s : Get) (n k : Nat) : opdLocs s n (.t k) = .slot k :: behind n (s (.slot k)) := by
  unfold behind
  simp only [opdLocs]
  rfl
@[go_sem] theorem opdLocs_c (s : Get) (n : Nat) (d : D) : opdLocs s n (.c d) = [] := rfl
@[go_sem] theorem opdLocs_g (s : Get) (n : Nat) (d : Nat) : opdLocs s n (.g d) = [] := rfl
/-- the box that an operation makes -/
def madeAt (dep : Nat) (dst : Option Nat) : IOp → List Loc
  | .alloc _ | .box _ _ => match dst with
    | some k => [.cell ⟨dep, k, 0⟩]
    | none => []
  | _ => []
@[go_sem] theorem readsOf_n (dep : Nat) (s : Get) (dst : Option Nat) (op : IOp) : readsOf dep s ⟨dst, none, op⟩ = madeAt dep dst op ++ op.operands.flatMap (opdLocs s op.span) := by
  cases op <;> cases dst <;> rfl
@[go_sem] theorem readsOf_g (dep : Nat) (s : Get) (dst : Option Nat) (k : Nat) (b : Bool) (op : IOp) : readsOf dep s ⟨dst, some (k, b), op⟩ = .slot k :: (madeAt dep dst op ++ op.operands.flatMap (opdLocs s op.span)) := by
  cases op <;> cases dst <;> rfl
@[go_sem] theorem isNil_cons (neg : Bool) (e : D) (es : List D) : evIsNil neg (.d (.sl (e :: es))) = some (.bool neg) := rfl
@[go_sem] theorem isNil_own (neg nw : Bool) (z : Nat) (es : List D) : evIsNil neg (.own nw z es) = some (.bool neg) := rfl
@[go_sem] theorem isNil_bor (neg : Bool) (l : Loc) (a b : Nat) : evIsNil neg (.bor l a b) = some (.bool neg) := rfl
attribute [go_sem] madeAt IOp.operands IOp.span List.flatMap_cons List.flatMap_nil spanLocs Option.toList

/-! append -/
theorem most_of {n : Nat} (h : n ≤ 1000000000) : (n ≤ mostEls) = True := by
  have : (1000000000 : Nat) ≤ mostEls := by unfold mostEls; decide
  simp; omega
def appB (dst : Option Nat) (z : Nat) (l : Loc) (off n : Nat) (ys : List D) : Option V → Option (List (Loc × V))
  | some (.own false z' es) => if off = 0 ∧ n ≤ es.length ∧ z' = z ∧ n + ys.length ≤ mostEls then some (put1 dst (.own true z (es.take n ++ ys)) ++ [(l, .junk)]) else none
  | _ => none
def appV (s : Get) (dst : Option Nat) (z : Nat) (x : IOpd) (v : V) (ys : List D) : Option (List (Loc × V)) :=
  match x, v with
    | _, .d .nilS => match ys with
      | [] => some (put1 dst (.d .nilS))
      | _ => if ys.length ≤ mostEls then some (put1 dst (.own true z ys)) else none
    | _, .d (.sl es) => match ys with
      | [] => some (put1 dst (.d (.sl es)))
      | _ => none
    | .t k, .own _ z' es => if z' = z ∧ es.length + ys.length ≤ mostEls then some (put1 dst (.own true z (es ++ ys)) ++ [(.slot k, .junk)]) else none
    | _, .bor l off n => appB dst z l off n ys (s l)
    | _, _ => none
@[go_sem] theorem evAppend_def (s : Get) (dst : Option Nat) (z bytes : Nat) (x : IOpd) (v : V) (ys : List D) : evAppend s dst z bytes x v ys = if (allZ z ys && decide (bytes ≤ 2048)) = true then appV s dst z x v ys else none := rfl
section
variable (g : Get) (dst : Option Nat) (z : Nat) (x : IOpd)
@[go_sem] theorem appV_nil0 : appV g dst z x (.d .nilS) [] = some (put1 dst (.d .nilS)) := by cases x <;> rfl
@[go_sem] theorem appV_nil (y : D) (ys : List D) (h : (y :: ys).length ≤ 1000000000) : appV g dst z x (.d .nilS) (y :: ys) = some (put1 dst (.own true z (y :: ys))) := by
  have := most_of h
  cases x <;> simp [appV, most_of h] <;> simpa using this
theorem appV_nilv {ys : List D} (hn : ys ≠ []) (h : ys.length ≤ 1000000000) : appV g dst z x (.d .nilS) ys = some (put1 dst (.own true z ys)) := by
  cases ys with
  | nil => exact absurd rfl hn
  | cons y ys => exact appV_nil g dst z x y ys h
@[go_sem] theorem appV_sl0 (es : List D) : appV g dst z x (.d (.sl es)) [] = some (put1 dst (.d (.sl es))) := by cases x <;> rfl
@[go_sem] theorem appV_own (k : Nat) (nw : Bool) (es ys : List D) (h : es.length + ys.length ≤ 1000000000) : appV g dst z (.t k) (.own nw z es) ys = some (put1 dst (.own true z (es ++ ys)) ++ [(.slot k, .junk)]) := by
  simp [appV, most_of h]
@[go_sem] theorem appV_bor (l : Loc) (off n : Nat) (ys : List D) : appV g dst z x (.bor l off n) ys = appB dst z l off n ys (g l) := by cases x <;> rfl
@[go_sem] theorem appB_own (l : Loc) (n : Nat) (es ys : List D) (hn : n = es.length) (h : es.length + ys.length ≤ 1000000000) : appB dst z l 0 n ys (some (.own false z es)) = some (put1 dst (.own true z (es ++ ys)) ++ [(l, .junk)]) := by
  subst hn
  simp [appB, most_of h]
@[go_sem] theorem borQ_own' (l : Loc) (n : Nat) (es : List D) (hn : n = es.length) : borQ dst l 0 n (some (.own false z es)) = if dst.map Loc.slot = some l then some [(l, .own true z es)] else some (put1 dst (.own true z es) ++ [(l, .junk)]) := by
  subst hn
  exact borQ_own dst l z es
@[go_sem] theorem givenQ_own' (l : Loc) (n : Nat) (es : List D) (hn : n = es.length) : givenQ l 0 n (some (.own false z es)) = some ([(l, .junk)], .own false z es) := by
  subst hn
  exact givenQ_all l z es
@[go_sem high] theorem argQ_own' (n : Nat) (es : List D) (hn : n = es.length) : argQ 0 n (some (.own false z es)) = some (.sl es, true) := by
  subst hn
  simp [argQ]
@[go_sem high] theorem contQ_own' (n : Nat) (es : List D) (hn : n = es.length) : contQ 0 n (some (.own false z es)) = some es := by
  subst hn
  simp [contQ]
theorem appB_cut (l : Loc) (n : Nat) (es ys : List D) (hn : n ≤ es.length) (h : es.length + ys.length ≤ 1000000000) : appB dst z l 0 n ys (some (.own false z es)) = some (put1 dst (.own true z (es.take n ++ ys)) ++ [(l, .junk)]) := by
  have : n + ys.length ≤ 1000000000 := by omega
  simp [appB, most_of this, hn]
end
@[go_sem] theorem allZ_nil (z : Nat) : allZ z [] = true := rfl
@[go_sem] theorem allZ_cons (z : Nat) (e : D) (r : List D) : allZ z (e :: r) = (e.cells.length == z && allZ z r) := rfl
@[go_sem] theorem allZ_append (z : Nat) (a b : List D) : allZ z (a ++ b) = (allZ z a && allZ z b) := by
  induction a with
  | nil => simp [allZ]
  | cons e a ih => simp [allZ, ih, Bool.and_assoc]
theorem allZ_map {α : Type} {z : Nat} {f : α → D} (h : ∀ x, (f x).cells.length = z) (l : List α) : allZ z (l.map f) = true := by
  induction l with
  | nil => rfl
  | cons b l ih => simp [allZ, h b, ih]
@[go_sem] theorem allZ_bytes (l : List UInt8) : allZ 1 (l.map byteD) = true := allZ_map (f := byteD) (fun _ => rfl) l
@[go_sem] theorem allZ_ints (k : IntKind) (l : List Int) : allZ 1 (l.map (D.int k)) = true := allZ_map (f := D.int k) (fun _ => rfl) l
@[go_sem] theorem allZ_bools (l : List Bool) : allZ 1 (l.map D.bool) = true := allZ_map (f := D.bool) (fun _ => rfl) l
@[go_sem] theorem allZ_strs (l : List (List UInt8)) : allZ 1 (l.map D.str) = true := allZ_map (f := D.str) (fun _ => rfl) l
@[go_sem] theorem allZ_take (z n : Nat) (l : List D) (h : allZ z l = true) : allZ z (l.take n) = true := by
  induction l generalizing n with
  | nil => simp [allZ]
  | cons e l ih =>
    simp only [allZ, Bool.and_eq_true] at h
    cases n with
    | zero => rfl
    | succ n => simp [allZ, ih n h.2]; simpa using h.1
@[go_sem] theorem allZ_drop (z n : Nat) (l : List D) (h : allZ z l = true) : allZ z (l.drop n) = true := by
  induction l generalizing n with
  | nil => simp [allZ]
  | cons e l ih =>
    simp only [allZ, Bool.and_eq_true] at h
    cases n with
    | zero => simp [allZ, h.2]; simpa using h.1
    | succ n => simpa using ih n h.2
theorem headZ_of {z : Nat} {es : List D} (h : allZ z es = true) : headZ z es = true := by
  cases es with
  | nil => rfl
  | cons e es => simp only [allZ, Bool.and_eq_true] at h; exact h.1
@[go_sem] theorem headZ_nil (z : Nat) : headZ z [] = true := rfl
@[go_sem] theorem headZ_cons (z : Nat) (e : D) (r : List D) : headZ z (e :: r) = (e.cells.length == z) := rfl
@[go_sem] theorem headZ_bytes (l : List UInt8) : headZ 1 (l.map byteD) = true := headZ_of (allZ_bytes l)
@[go_sem] theorem headZ_ints (k : IntKind) (l : List Int) : headZ 1 (l.map (D.int k)) = true := headZ_of (allZ_ints k l)
@[go_sem] theorem headZ_bools (l : List Bool) : headZ 1 (l.map D.bool) = true := headZ_of (allZ_bools l)

/-! pieces -/
variable {cfg : Cfg}
def slcB (dst : Option Nat) (z : Nat) (loc : Loc) (off l h : Nat) : Option V → Option (List (Loc × V))
  | some (.own false z' _) => if z' = z then some (put1 dst (.bor loc (off + l) (h - l))) else none
  | _ => none
def slcV (s : Get) (dst : Option Nat) (z : Nat) (x : IOpd) (l h : Nat) (v : V) : Option (List (Loc × V)) :=
  match x, v with
        | _, .d .nilS => some (put1 dst (.d .nilS))
        | _, .d (.sl es) => if headZ z es then some (put1 dst (.d (.sl ((es.take h).drop l)))) else none
        | .t k, .own false z' _ => if z' = z then some (put1 dst (.bor (.slot k) l (h - l))) else none
        | .t k, .own true z' es => if z' = z then some (put1 dst (.own true z ((es.take h).drop l)) ++ [(.slot k, .junk)]) else none
        | _, .bor loc off _ => slcB dst z loc off l h (s loc)
        | _, _ => none
@[go_sem] theorem evSlice_def (s : Get) (dst : Option Nat) (z : Nat) (x : IOpd) (v : V) (lo hi : Option IOpd) : evSlice cfg s dst z x v lo hi none = (cont s v).bind fun es => (sbounds cfg s es.length lo hi).bind fun lh => slcV s dst z x lh.1 lh.2 v := by
  unfold evSlice slcV slcB
  cases cont s v with
  | none => rfl
  | some es =>
    simp only [topOf, Option.bind_some]
    cases sbounds cfg s es.length lo hi with
    | none => rfl
    | some lh => obtain ⟨l, h⟩ := lh; simp only [Option.isSome_none, Bool.false_and, Bool.false_eq_true, if_false, Option.bind_some]; rfl
section
variable (g : Get) (dst : Option Nat) (z : Nat) (x : IOpd) (l h : Nat)
@[go_sem] theorem slcV_nil : slcV g dst z x l h (.d .nilS) = some (put1 dst (.d .nilS)) := by cases x <;> rfl
@[go_sem] theorem slcV_sl (es : List D) : slcV g dst z x l h (.d (.sl es)) = if headZ z es = true then some (put1 dst (.d (.sl ((es.take h).drop l)))) else none := by cases x <;> rfl
@[go_sem] theorem slcV_own (k : Nat) (es : List D) : slcV g dst z (.t k) l h (.own false z es) = some (put1 dst (.bor (.slot k) l (h - l))) := by simp [slcV]
@[go_sem] theorem slcV_ownT (k : Nat) (es : List D) : slcV g dst z (.t k) l h (.own true z es) = some (put1 dst (.own true z ((es.take h).drop l)) ++ [(.slot k, .junk)]) := by simp [slcV]
@[go_sem] theorem slcV_bor (loc : Loc) (off n : Nat) : slcV g dst z x l h (.bor loc off n) = slcB dst z loc off l h (g loc) := by cases x <;> rfl
@[go_sem] theorem slcB_own (loc : Loc) (off : Nat) (es : List D) : slcB dst z loc off l h (some (.own false z es)) = some (put1 dst (.bor loc (off + l) (h - l))) := by simp [slcB]
/-! room cut -/
@[go_sem] theorem evClip_nil : evClip dst x (.d .nilS) = some (put1 dst (.d .nilS)) := by cases x <;> rfl
@[go_sem] theorem evClip_sl (es : List D) : evClip dst x (.d (.sl es)) = some (put1 dst (.d (.sl es))) := by cases x <;> rfl
@[go_sem] theorem evClip_own (nw : Bool) (es : List D) : evClip dst x (.own nw z es) = evMv dst x (.own nw z es) := rfl
@[go_sem] theorem evClip_bor (loc : Loc) (a b : Nat) : evClip dst x (.bor loc a b) = some (put1 dst (.bor loc a b)) := by cases x <;> rfl
/-! elements of one's own array -/
theorem evIdx_own (k : Nat) (es : List D) {n : Int} (h0 : 0 ≤ n) (h1 : n < es.length) : evIdx g dst z (.t k) (.own false z es) n = some (put1 dst (.bref (.slot k) n.toNat 0)) := by
  unfold evIdx
  rw [if_neg (by omega)]
  have : n.toNat < es.length := by omega
  simp only [this, and_self, if_true]
@[go_sem] theorem evIdx_ownN (k : Nat) (es : List D) {n : Nat} (h1 : n < es.length) : evIdx g dst z (.t k) (.own false z es) (n : Int) = some (put1 dst (.bref (.slot k) n 0)) := by
  rw [evIdx_own g dst z k es (by omega) (by omega), Int.toNat_natCast]
def idxB (dst : Option Nat) (z : Nat) (l : Loc) (i : Nat) : Option V → Option (List (Loc × V))
  | some (.own false z' _) => if z' = z then some (put1 dst (.bref l i 0)) else none
  | _ => none
theorem evIdx_bor (loc : Loc) (off len : Nat) {n : Int} (h0 : 0 ≤ n) (h1 : n < len) : evIdx g dst z x (.bor loc off len) n = idxB dst z loc (off + n.toNat) (g loc) := by
  unfold evIdx idxB
  rw [if_neg (by omega)]
  have : n.toNat < len := by omega
  cases x <;> simp only [this, true_and] <;> cases g loc <;> rfl
@[go_sem] theorem evIdx_borN (loc : Loc) (off len : Nat) {n : Nat} (h1 : n < len) : evIdx g dst z x (.bor loc off len) (n : Int) = idxB dst z loc (off + n) (g loc) := by
  rw [evIdx_bor g dst z x loc off len (by omega) (by omega), Int.toNat_natCast]
@[go_sem] theorem idxB_own (loc : Loc) (i : Nat) (es : List D) : idxB dst z loc i (some (.own false z es)) = some (put1 dst (.bref loc i 0)) := by simp [idxB]
end
@[go_sem high] theorem cells_byteD (c : UInt8) : (byteD c).cells = [byteD c] := rfl
@[go_sem] theorem storable_byteD (c : UInt8) : (byteD c).storable = true := rfl
@[go_sem] theorem canon_byteD (c : UInt8) : (byteD c).canon = byteD c := rfl
@[go_sem] theorem toInt_byteD (c : UInt8) : (byteD c).toInt? = some (c.toNat : Int) := rfl
@[go_sem] theorem asD_byteD (c : UInt8) : V.asD (.d (byteD c)) = some (byteD c) := rfl
end Go.Ev

/-! PlNums -/
/- Numbers as bytes, in plain words. Own work. -/
namespace Go.Ev
open Go

def inI (n : Int) : Prop := -9223372036854775808 ≤ n ∧ n < 9223372036854775808
instance (n : Int) : Decidable (inI n) := by unfold inI; infer_instance
theorem inI_of {n : Int} (h : (Lit.int .i64 n).wf = true) : inI n := by
  simp [Lit.wf, IntKind.min, IntKind.signed, IntKind.bits] at h
  unfold inI
  omega
theorem tdp {a k : Int} (h : 0 ≤ a) : a.tdiv k = a / k := Int.tdiv_eq_ediv_of_nonneg h
theorem tmp {a k : Int} (h : 0 ≤ a) : a.tmod k = a % k := Int.tmod_eq_emod_of_nonneg h

/-- a number's sign folded in -/
def zigN (v : Int) : Nat := if v < 0 then (-2 * v - 1).toNat else (2 * v).toNat
def zagI (u : Nat) : Int := if u % 2 = 1 then -((u / 2 : Nat) : Int) - 1 else ((u / 2 : Nat) : Int)
theorem zag_zig (v : Int) : zagI (zigN v) = v := by
  unfold zagI zigN
  split <;> split <;> omega
theorem zig_lt {v : Int} (h : inI v) : zigN v < 18446744073709551616 := by
  unfold zigN inI at *
  split <;> omega
theorem zag_in {u : Nat} (h : u < 18446744073709551616) : inI (zagI u) := by
  unfold zagI inI
  split <;> omega

theorem zig_bits {v : Int} (h : inI v) : xorI .u64 (shlI .u64 (IntKind.u64.wrap v) 1) (IntKind.u64.wrap (shrI .i64 v 63)) = zigN v := by
  unfold inI at h
  have hs := shrI_eq .i64 v 63 (by decide)
  rw [show ((63 : Nat) : Int) = 63 from rfl] at hs
  rw [hs]
  by_cases c : v < 0
  · have e1 : v / 2 ^ 63 = -1 := by omega
    have e2 : IntKind.u64.wrap (-1) = 18446744073709551615 := by decide
    have hsl := shlU (k := .u64) rfl (v + 18446744073709551616).toNat (n := 1) (by decide)
    rw [show (((v + 18446744073709551616).toNat : Nat) : Int) = v + 18446744073709551616 by omega, show ((1 : Nat) : Int) = 1 from rfl] at hsl
    rw [e1, e2, cv_u64_neg (by omega) c, hsl, xor_ones (by have := Nat.mod_lt ((v + 18446744073709551616).toNat * 2 ^ 1) (show 0 < 2 ^ IntKind.u64.bits by decide); simpa [IntKind.bits] using this)]
    unfold zigN
    rw [if_pos c]
    simp only [IntKind.bits]
    omega
  · have e1 : v / 2 ^ 63 = 0 := by omega
    have hsl := shlU (k := .u64) rfl v.toNat (n := 1) (by decide)
    rw [show ((v.toNat : Nat) : Int) = v by omega, show ((1 : Nat) : Int) = 1 from rfl] at hsl
    rw [e1, wrap_u64 (by omega) (by omega), hsl, wrap_u64 (by omega) (by omega), xor_zero]
    · unfold zigN
      rw [if_neg c]
      simp only [IntKind.bits]
      omega
    · simp only [IntKind.bits]
      rw [cv_u64]
      omega
theorem and_one (u : Nat) (h : u < 18446744073709551616) : andI .u64 (u : Int) 1 = ((u % 2 : Nat) : Int) := by
  have := andU (k := .u64) rfl (a := u) (b := 1) h
  rw [show ((1 : Nat) : Int) = 1 from rfl] at this
  rw [this, Nat.and_one_is_mod]
theorem shr_one (u : Nat) : shrI .u64 (u : Int) 1 = ((u / 2 : Nat) : Int) := by
  have := shrU .u64 u (n := 1) (by decide)
  rw [show ((1 : Nat) : Int) = 1 from rfl] at this
  rw [this]
theorem zag_bits {u : Nat} (h : u < 18446744073709551616) : xorI .i64 (IntKind.i64.wrap (shrI .u64 (u : Int) 1)) (IntKind.i64.wrap (0 - IntKind.i64.wrap (andI .u64 (u : Int) 1))) = zagI u := by
  rw [and_one u h, shr_one, wrap_i64 (n := ((u / 2 : Nat) : Int)) (by omega) (by omega), wrap_i64 (n := ((u % 2 : Nat) : Int)) (by omega) (by omega), wrap_i64 (by omega) (by omega)]
  unfold zagI
  by_cases c : u % 2 = 1
  · rw [c, if_pos rfl]
    rw [show (0 : Int) - ((1 : Nat) : Int) = -1 from rfl, xor_neg1 (by omega) (by omega)]
    omega
  · rw [if_neg c, show u % 2 = 0 by omega]
    rw [show (0 : Int) - ((0 : Nat) : Int) = 0 from rfl, xor_zero (wrap_i64 (by omega) (by omega))]
theorem zigR_bits {v : Int} (h0 : -9223372036854775808 ≤ v) (h1 : v < 0) : orI .u64 (shlI .u64 (-v - 1) 1) 1 = zigN v := by
  have hsl := shlU (k := .u64) rfl (-v - 1).toNat (n := 1) (by decide)
  rw [show (((-v - 1).toNat : Nat) : Int) = -v - 1 by omega, show ((1 : Nat) : Int) = 1 from rfl] at hsl
  rw [hsl]
  simp only [IntKind.bits]
  have e : (-v - 1).toNat * 2 ^ 1 % 2 ^ 64 = (-v - 1).toNat * 2 ^ 1 := Nat.mod_eq_of_lt (by omega)
  rw [e]
  have := orU (k := .u64) rfl (a := (-v - 1).toNat * 2 ^ 1) (b := 1) (by simp only [IntKind.bits]; omega) (by decide)
  rw [show ((1 : Nat) : Int) = 1 from rfl] at this
  rw [this]
  have e2 : (-v - 1).toNat * 2 ^ 1 ||| 1 = 1 + (-v - 1).toNat * 2 ^ 1 := by rw [Nat.or_comm]; exact or_add (by decide)
  rw [e2]
  unfold zigN
  rw [if_pos h1]
  omega
theorem shl_one {v : Int} (h0 : 0 ≤ v) (h1 : v < 9223372036854775808) : shlI .u64 v 1 = 2 * v := by
  have hsl := shlU (k := .u64) rfl v.toNat (n := 1) (by decide)
  rw [show ((v.toNat : Nat) : Int) = v by omega, show ((1 : Nat) : Int) = 1 from rfl] at hsl
  rw [hsl]
  simp only [IntKind.bits]
  omega

/-- seven bits a byte -/
def varB : Nat → Nat → List UInt8
  | 0, _ => []
  | k + 1, u => if u < 128 then [UInt8.ofNat u] else UInt8.ofNat (u % 128 + 128) :: varB k (u / 128)
theorem varB_len : ∀ (k u : Nat), (varB k u).length ≤ k
  | 0, _ => Nat.le_refl _
  | k + 1, u => by
    unfold varB
    split
    · simp
    · have := varB_len k (u / 128)
      simp; omega

/-- a number read: its value, its bytes, what is wrong -/
def varM : Nat → Nat → List UInt8 → Nat × Nat × Nat
  | _, _, [] => (0, 0, 3)
  | i, v, c :: r => if i = 9 ∧ 1 < c.toNat then (0, 0, 4) else
    if c.toNat < 128 then (v + c.toNat * 128 ^ i, i + 1, 0) else varM (i + 1) (v + (c.toNat - 128) * 128 ^ i) r

theorem u8_of {n : Nat} (h : n < 256) : (UInt8.ofNat n).toNat = n := by
  simp [UInt8.toNat_ofNat']; omega
theorem u8_lt (b : UInt8) : b.toNat < 256 := b.toNat_lt

theorem varM_varB : ∀ (k i v u : Nat) (rest : List UInt8), i + k = 9 → u < 2 ^ (7 * k + 1) → varM i v (varB (k + 1) u ++ rest) = (v + u * 128 ^ i, i + (varB (k + 1) u).length, 0)
  | 0, i, v, u, rest, hi, hu => by
    have h1 : i = 9 := by omega
    subst h1
    have h2 : u < 2 := by simpa using hu
    have e : varB 1 u = [UInt8.ofNat u] := by simp [varB]; omega
    rw [e]
    simp only [List.cons_append, List.nil_append, varM, u8_of (n := u) (by omega), List.length_cons, List.length_nil]
    rw [if_neg (by omega), if_pos (by omega)]
  | k + 1, i, v, u, rest, hi, hu => by
    by_cases h : u < 128
    · have e : varB (k + 1 + 1) u = [UInt8.ofNat u] := by simp [varB, h]
      rw [e]
      simp only [List.cons_append, List.nil_append, varM, u8_of (n := u) (by omega), List.length_cons, List.length_nil]
      rw [if_neg (by omega), if_pos h]
    · have e : varB (k + 1 + 1) u = UInt8.ofNat (u % 128 + 128) :: varB (k + 1) (u / 128) := by rw [varB, if_neg h]
      have hu' : u / 128 < 2 ^ (7 * k + 1) := by
        rw [Nat.div_lt_iff_lt_mul (by decide)]
        have : 2 ^ (7 * (k + 1) + 1) = 2 ^ (7 * k + 1) * 128 := by rw [show 7 * (k + 1) + 1 = 7 * k + 1 + 7 by omega, Nat.pow_add]
        omega
      rw [e]
      simp only [List.cons_append, varM, u8_of (n := u % 128 + 128) (by omega)]
      rw [if_neg (by omega), if_neg (by omega), varM_varB k (i + 1) _ (u / 128) rest (by omega) hu']
      simp only [List.length_cons, Prod.mk.injEq, and_true]
      constructor
      · rw [Nat.pow_succ, show u % 128 + 128 - 128 = u % 128 by omega, Nat.add_assoc, Nat.mul_comm (128 ^ i) 128, ← Nat.mul_assoc, ← Nat.add_mul]
        congr 2
        omega
      · omega

theorem varM_back {u : Nat} (h : u < 18446744073709551616) (rest : List UInt8) : varM 0 0 (varB 10 u ++ rest) = (u, (varB 10 u).length, 0) := by
  have := varM_varB 9 0 0 u rest rfl (by omega)
  simpa using this

/-- what a number read is bounded by -/
theorem varM_ok : ∀ (l : List UInt8) (i v : Nat), i ≤ 9 → v < 128 ^ i → (varM i v l).1 < 18446744073709551616 ∧ (varM i v l).2.1 ≤ i + l.length ∧ (varM i v l).2.1 ≤ 10 ∧ (varM i v l).2.2 ≤ 4 ∧ ((varM i v l).2.2 = 0 → 0 < (varM i v l).2.1)
  | [], i, v, _, _ => by simp [varM]
  | c :: r, i, v, hi, hv => by
    have hc := u8_lt c
    have hp : 128 ^ i * 128 = 128 ^ (i + 1) := (Nat.pow_succ ..).symm
    unfold varM
    split
    · simp
    · rename_i h9
      split
      · rename_i hlt
        simp only [List.length_cons]
        refine ⟨?_, by omega, by omega, by omega, by omega⟩
        by_cases h : i = 9
        · subst h
          have : c.toNat ≤ 1 := by omega
          have h2 : c.toNat * 128 ^ 9 ≤ 1 * 128 ^ 9 := Nat.mul_le_mul_right _ this
          omega
        · have h2 : 128 ^ (i + 1) ≤ 128 ^ 9 := Nat.pow_le_pow_right (by decide) (by omega)
          have h3 : c.toNat * 128 ^ i ≤ 127 * 128 ^ i := Nat.mul_le_mul_right _ (by omega)
          have h4 : (128 : Nat) ^ 9 = 9223372036854775808 := by decide
          omega
      · rename_i hge
        have hi9 : i ≤ 8 := by
          by_cases h : i = 9
          · subst h; omega
          · omega
        have h3 : (c.toNat - 128) * 128 ^ i ≤ 127 * 128 ^ i := Nat.mul_le_mul_right _ (by omega)
        obtain ⟨g1, g2, g3, g4, g5⟩ := varM_ok r (i + 1) (v + (c.toNat - 128) * 128 ^ i) (by omega) (by omega)
        simp only [List.length_cons]
        exact ⟨g1, by omega, g3, g4, g5⟩

theorem pow128 (i : Nat) : 128 ^ i = 2 ^ (7 * i) := by rw [Nat.pow_mul]
theorem var_bits {v x i : Nat} (hv : v < 128 ^ i) (hx : i ≤ 8 ∧ x < 128 ∨ i = 9 ∧ x ≤ 1) : orI .u64 (v : Int) (shlI .u64 (x : Int) (7 * (i : Int))) = ((v + x * 128 ^ i : Nat) : Int) := by
  have e0 : (7 * (i : Int)) = ((7 * i : Nat) : Int) := by omega
  have hlt : x * 128 ^ i < 2 ^ 64 := by
    rcases hx with ⟨h1, h2⟩ | ⟨rfl, h2⟩
    · have h3 : 128 ^ i ≤ 128 ^ 8 := Nat.pow_le_pow_right (by decide) h1
      have h4 : x * 128 ^ i ≤ 127 * 128 ^ 8 := Nat.mul_le_mul (by omega) h3
      omega
    · have h4 : x * 128 ^ 9 ≤ 1 * 128 ^ 9 := Nat.mul_le_mul_right _ h2
      omega
  have hv2 : v < 2 ^ 64 := by
    have h3 : 128 ^ i ≤ 128 ^ 9 := Nat.pow_le_pow_right (by decide) (by omega)
    omega
  rw [e0, shlU (k := .u64) rfl x (by simp only [IntKind.bits]; omega), ← pow128]
  simp only [IntKind.bits]
  rw [Nat.mod_eq_of_lt hlt, orU (k := .u64) rfl hv2 hlt]
  rw [pow128, or_add (by rw [← pow128]; exact hv)]
theorem var_andNot (c : UInt8) : andNotI .u8 (c.toNat : Int) 128 = ((c.toNat % 128 : Nat) : Int) := by
  have : ∀ n : Fin 256, andNotI .u8 (n.val : Int) 128 = ((n.val % 128 : Nat) : Int) := by decide +kernel
  exact this ⟨c.toNat, u8_lt c⟩
theorem var_and (c : UInt8) : andI .u8 (c.toNat : Int) 127 = ((c.toNat % 128 : Nat) : Int) := by
  have : ∀ n : Fin 256, andI .u8 (n.val : Int) 127 = ((n.val % 128 : Nat) : Int) := by decide +kernel
  exact this ⟨c.toNat, u8_lt c⟩
/-- a byte with its mark -/
theorem put_or (u : Nat) : UInt8.ofNat (orI .u8 (((u % 256 : Nat)) : Int) 128).toNat = UInt8.ofNat (u % 128 + 128) := by
  have : ∀ n : Fin 256, UInt8.ofNat (orI .u8 (n.val : Int) 128).toNat = UInt8.ofNat (n.val % 128 + 128) := by decide +kernel
  have h := this ⟨u % 256, Nat.mod_lt _ (by decide)⟩
  simpa using h
theorem put_orI (u : Nat) : orI .u8 (((u % 256 : Nat)) : Int) 128 = ((u % 128 + 128 : Nat) : Int) := by
  have : ∀ n : Fin 256, orI .u8 (n.val : Int) 128 = ((n.val % 128 + 128 : Nat) : Int) := by decide +kernel
  have h := this ⟨u % 256, Nat.mod_lt _ (by decide)⟩
  simpa using h
/-- the same, masked first -/
theorem put_orR {u : Nat} (h : u < 18446744073709551616) : IntKind.u8.wrap (orI .u64 (andI .u64 (u : Int) 127) 128) = ((u % 128 + 128 : Nat) : Int) := by
  have h1 := andU (k := .u64) rfl (a := u) (b := 127) h
  rw [show ((127 : Nat) : Int) = 127 from rfl] at h1
  have h2 : u &&& 127 = u % 128 := and_mask u 7
  have h3 := orU (k := .u64) rfl (a := u % 128) (b := 128) (by simp only [IntKind.bits]; omega) (by decide)
  rw [show ((128 : Nat) : Int) = 128 from rfl] at h3
  have h4 : u % 128 ||| 128 = u % 128 + 128 := by
    have := or_add (a := u % 128) (b := 1) (n := 7) (by omega)
    simpa using this
  rw [h1, h2, h3, h4, cv_u8]
  omega

/-! bytes as data -/
theorem byteD_eq (b : UInt8) : byteD b = .int .u8 b.toNat := rfl
theorem plains_bytes (l : List UInt8) : D.plains (l.map byteD) = true := by
  induction l with
  | nil => rfl
  | cons b l ih => simp [D.plains, D.plain, byteD, ih]
theorem plains_ints (k : IntKind) (l : List Int) : D.plains (l.map (D.int k)) = true := by
  induction l with
  | nil => rfl
  | cons b l ih => simp [D.plains, D.plain, ih]
attribute [go_sem] plains_bytes plains_ints
@[go_sem] theorem bytesOf_map (l : List UInt8) : bytesOf? (l.map byteD) = some l := by
  induction l with
  | nil => rfl
  | cons b l ih =>
    simp only [List.map_cons, byteD_eq, bytesOf_cons, ih, Option.map_some]
    congr 2
    simp
theorem byteD_of {n : Nat} (h : n < 256) : byteD (UInt8.ofNat n) = .int .u8 (n : Int) := by rw [byteD_eq, u8_of h]
theorem shr_seven (u : Nat) : shrI .u64 (u : Int) 7 = ((u / 128 : Nat) : Int) := by
  have := shrU .u64 u (n := 7) (by decide)
  rw [show ((7 : Nat) : Int) = 7 from rfl] at this
  rw [this]
/-- is a number one that may be? -/
def mulM (a b : Int) : Int × Bool := if inI (a * b) then (a * b, true) else (0, false)
def addM (a b : Int) : Int × Bool := if inI (a + b) then (a + b, true) else (0, false)
def subM (a b : Int) : Int × Bool := if inI (a - b) then (a - b, true) else (0, false)
theorem xMul_at {x y : Int} (h : 0 ≤ x ∧ x < 18446744073709551616 ∧ 0 ≤ y ∧ y < 18446744073709551616) :
    xMul64 [D.int .u64 x, D.int .u64 y] = some (.d (.tup [.int .u64 (x * y / 18446744073709551616), .int .u64 (x * y % 18446744073709551616)])) := if_pos h
theorem mul_div (x y : Nat) : (x : Int) * (y : Int) / 18446744073709551616 = ((x * y / 18446744073709551616 : Nat) : Int) := by rw [← Int.natCast_mul]; omega
theorem mul_mod (x y : Nat) : (x : Int) * (y : Int) % 18446744073709551616 = ((x * y % 18446744073709551616 : Nat) : Int) := by rw [← Int.natCast_mul]; omega
theorem mul64_at {x y : Nat} (hx : x < 18446744073709551616) (hy : y < 18446744073709551616) :
    xMul64 [D.int .u64 (x : Int), D.int .u64 (y : Int)] = some (.d (.tup [.int .u64 ((x * y / 18446744073709551616 : Nat) : Int), .int .u64 ((x * y % 18446744073709551616 : Nat) : Int)])) := by
  rw [xMul_at (by omega), mul_div, mul_mod]
theorem mul_sign (a b : Int) : ((a < 0 ↔ b < 0) → a * b = ((a.natAbs * b.natAbs : Nat) : Int)) ∧ (¬ (a < 0 ↔ b < 0) → a * b = -((a.natAbs * b.natAbs : Nat) : Int)) := by
  have h : ∀ p q : Nat, ((p : Int) * (q : Int)) = ((p * q : Nat) : Int) := fun p q => (Int.natCast_mul p q).symm
  by_cases ha : a < 0 <;> by_cases hb : b < 0
  · refine ⟨fun _ => ?_, fun c => absurd (by simp [ha, hb]) c⟩
    rw [← h, show (a.natAbs : Int) = -a by omega, show (b.natAbs : Int) = -b by omega, Int.neg_mul_neg]
  · refine ⟨fun c => absurd (c.1 ha) hb, fun _ => ?_⟩
    rw [← h, show (a.natAbs : Int) = -a by omega, show (b.natAbs : Int) = b by omega, Int.neg_mul, Int.neg_neg]
  · refine ⟨fun c => absurd (c.2 hb) ha, fun _ => ?_⟩
    rw [← h, show (a.natAbs : Int) = a by omega, show (b.natAbs : Int) = -b by omega, Int.mul_neg, Int.neg_neg]
  · refine ⟨fun _ => ?_, fun c => absurd (by simp [ha, hb]) c⟩
    rw [← h, show (a.natAbs : Int) = a by omega, show (b.natAbs : Int) = b by omega]
/-- a product by the size of it -/
theorem mulM_abs (a b : Int) : a ≠ 0 → b ≠ 0 → (a.natAbs * b.natAbs < 9223372036854775808 → mulM a b = (if (decide (a < 0) == decide (b < 0)) = true then ((a.natAbs * b.natAbs : Nat) : Int) else -((a.natAbs * b.natAbs : Nat) : Int), true)) ∧
    (a.natAbs * b.natAbs = 9223372036854775808 → mulM a b = (if (decide (a < 0) == decide (b < 0)) = true then (0, false) else (-((a.natAbs * b.natAbs : Nat) : Int), true))) ∧
    (9223372036854775808 < a.natAbs * b.natAbs → mulM a b = (0, false)) := by
  intro _ _
  obtain ⟨h1, h2⟩ := mul_sign a b
  unfold mulM inI
  generalize a.natAbs * b.natAbs = m at *
  by_cases c : (a < 0 ↔ b < 0)
  · have e := h1 c
    have d : (decide (a < 0) == decide (b < 0)) = true := by simp [c]
    rw [e, d]
    simp only [if_true]
    refine ⟨fun h => if_pos (by omega), fun h => if_neg (by omega), fun h => if_neg (by omega)⟩
  · have e := h2 c
    have d : (decide (a < 0) == decide (b < 0)) = false := by
      by_cases p : a < 0 <;> by_cases q : b < 0 <;> simp [p, q] at c ⊢
    rw [e, d]
    simp only [Bool.false_eq_true, if_false]
    refine ⟨fun h => if_pos (by omega), fun h => if_pos (by omega), fun h => if_neg (by omega)⟩
theorem mulM_ref (a b : Int) : a.natAbs ≠ 0 → ((a < 0 ↔ b < 0) → (b.natAbs > 9223372036854775807 / a.natAbs → mulM a b = (0, false)) ∧ (¬ b.natAbs > 9223372036854775807 / a.natAbs → mulM a b = (a * b, true) ∧ inI (a * b))) ∧
    (¬ (a < 0 ↔ b < 0) → (b.natAbs > 9223372036854775808 / a.natAbs → mulM a b = (0, false)) ∧ (¬ b.natAbs > 9223372036854775808 / a.natAbs → mulM a b = (a * b, true) ∧ inI (a * b))) := by
  intro ha
  obtain ⟨h1, h2⟩ := mul_sign a b
  have k : ∀ top, b.natAbs > top / a.natAbs ↔ top < a.natAbs * b.natAbs := fun top => by
    rw [Nat.mul_comm]
    exact Nat.div_lt_iff_lt_mul (by omega)
  rw [k, k]
  unfold mulM inI
  generalize a.natAbs * b.natAbs = m at *
  refine ⟨fun c => ?_, fun c => ?_⟩
  · rw [h1 c]
    exact ⟨fun h => if_neg (by omega), fun h => ⟨if_pos (by omega), by omega⟩⟩
  · rw [h2 c]
    exact ⟨fun h => if_neg (by omega), fun h => ⟨if_pos (by omega), by omega⟩⟩
end Go.Ev

/-! PlRow -/
/- Arguments of rows as data. Own work. -/
namespace Go.Ev
open Go Go.RowKit

def mkD : List D → D
  | [x] => x
  | xs => .agg xs

variable {P : Program} {W : World} {H : Type} {enc : TypeId × Value → H} {base : Nat} {spare : Nat → Bool} {held : Bool} {t e : TypeId} {v : Value} {x : DataW H × List MemPlace}

theorem read_one {G : List D → Prop} {fuel : Nat} (hI : IsF P W fuel t G) (hf : DataW.trod enc P W base spare held fuel t v.cells.toList = some x) (hv : v.cells.toList = [v]) (hG : ∀ xs, G xs → ∃ d, xs = [d]) : ∃ d, G [d] ∧ Rd anyB W v d := by
  obtain ⟨xs, ⟨q1, q2, q3⟩, hg⟩ := hI H enc base spare held _ _ hf
  obtain ⟨d, rfl⟩ := hG xs hg
  exact ⟨d, hg, q3 0 v d (by rw [hv]; rfl) rfl⟩

theorem read_ints {k : IntKind} (ht : P.underlying t = some (.slice e)) (he : P.underlying e = some (.int k)) (hz : P.cellsOf e = 1) (hv : v.cells.toList = [v]) (h : ∃ fuel, DataW.trod enc P W base spare held fuel t v.cells.toList = some x) :
    ∃ l : List Int, l.length ≤ maxLen ∧ (∀ n ∈ l, (Lit.int k n).wf = true) ∧ Rd anyB W v (.sl (l.map (D.int k))) := by
  obtain ⟨fuel, hf⟩ := h
  obtain ⟨d, ⟨es, hd, hlen, hes⟩, hr⟩ := read_one (IsF.slice ht (by omega) (fun m _ => IsF.int he) mkD (fun xs hx _ => by obtain ⟨m, rfl, _⟩ := hx; rfl)) hf hv (fun xs hx => by obtain ⟨es, rfl, _⟩ := hx; exact ⟨_, rfl⟩)
  cases hd
  have key : ∀ es : List D, (∀ d ∈ es, ∃ ys, (∃ m, ys = [D.int k m] ∧ (Lit.int k m).wf = true) ∧ ys.length = P.cellsOf e ∧ d = mkD ys) → ∃ l : List Int, es = l.map (D.int k) ∧ ∀ n ∈ l, (Lit.int k n).wf = true := by
    intro es
    induction es with
    | nil => exact fun _ => ⟨[], rfl, by simp⟩
    | cons d es ih =>
      intro h
      obtain ⟨ys, ⟨m, rfl, hw⟩, _, rfl⟩ := h d (by simp)
      obtain ⟨l, rfl, hl⟩ := ih (fun d hd => h d (by simp [hd]))
      refine ⟨m :: l, rfl, fun n hn => ?_⟩
      rcases List.mem_cons.1 hn with rfl | hn
      · exact hw
      · exact hl n hn
  obtain ⟨l, rfl, hl⟩ := key es hes
  exact ⟨l, by simpa using hlen, hl, hr⟩

theorem read_bytes (ht : P.underlying t = some (.slice e)) (he : P.underlying e = some (.int .u8)) (hz : P.cellsOf e = 1) (hv : v.cells.toList = [v]) (h : ∃ fuel, DataW.trod enc P W base spare held fuel t v.cells.toList = some x) :
    ∃ l : List UInt8, l.length ≤ maxLen ∧ Rd anyB W v (.sl (l.map byteD)) := by
  obtain ⟨l, h1, h2, h3⟩ := read_ints ht he hz hv h
  refine ⟨l.map fun n => UInt8.ofNat n.toNat, by simpa using h1, ?_⟩
  have : (l.map fun n => UInt8.ofNat n.toNat).map byteD = l.map (D.int .u8) := by
    rw [List.map_map]
    refine List.map_congr_left fun n hn => ?_
    have hw := h2 n hn
    simp [Lit.wf, IntKind.min, IntKind.max, IntKind.signed, IntKind.bits] at hw
    show byteD (UInt8.ofNat n.toNat) = _
    rw [byteD_of (by omega)]
    congr 1
    omega
  rw [this]
  exact h3

theorem read_str (ht : P.underlying t = some .string) (hv : v.cells.toList = [v]) (h : ∃ fuel, DataW.trod enc P W base spare held fuel t v.cells.toList = some x) :
    ∃ s : List UInt8, s.length ≤ maxLen ∧ Rd anyB W v (.str s) := by
  obtain ⟨fuel, hf⟩ := h
  obtain ⟨d, ⟨s, hd, hlen⟩, hr⟩ := read_one (IsF.str ht) hf hv (fun xs hx => by obtain ⟨es, rfl, _⟩ := hx; exact ⟨_, rfl⟩)
  cases hd
  exact ⟨s, hlen, hr⟩
end Go.Ev
