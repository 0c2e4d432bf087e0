/- The evaluator of Go code and its proofs, part 11. Own work. -/
import Derived.Test.YtpflgebgmhnipaaGreatDoorL10
import Derived.OpenShut
set_option linter.unusedVariables false
set_option linter.unusedSimpArgs false
set_option linter.unusedSectionVars false
/-! EvZy -/
/- Rules for bits. Own work. -/
namespace Go.Ev
open Go

def andNotI (k : IntKind) (a b : Int) : Int := k.wrap (BitVec.ofInt k.bits a &&& ~~~ BitVec.ofInt k.bits b).toNat
@[go_sem] theorem ib_andNot (k : IntKind) (a b : Int) : intBin .andNot k a k b = some (.int k (andNotI k a b)) := by simp [intBin, andNotI]

theorem wrapU_of {k : IntKind} (hk : k.signed = false) {n : Int} (h0 : 0 ≤ n) (h1 : n < 2 ^ k.bits) : k.wrap n = n := by
  simp only [IntKind.wrap, hk, Bool.false_and, Bool.false_eq_true, if_false]
  exact Int.emod_eq_of_lt h0 h1
theorem wrapU_mod {k : IntKind} (hk : k.signed = false) (n : Nat) : k.wrap (n : Int) = ((n % 2 ^ k.bits : Nat) : Int) := by
  simp only [IntKind.wrap, hk, Bool.false_and, Bool.false_eq_true, if_false]
  simp

section
variable {k : IntKind} (hk : k.signed = false) {a b : Nat} (ha : a < 2 ^ k.bits) (hb : b < 2 ^ k.bits)
include hk ha
theorem andU : andI k a b = ((a &&& b : Nat) : Int) := by
  have e : (BitVec.ofInt k.bits (a : Int) &&& BitVec.ofInt k.bits (b : Int)).toNat = a &&& (b % 2 ^ k.bits) := by
    rw [BitVec.toNat_and, BitVec.ofInt_natCast, BitVec.ofInt_natCast, BitVec.toNat_ofNat, BitVec.toNat_ofNat, Nat.mod_eq_of_lt ha]
  have e2 : a &&& (b % 2 ^ k.bits) = a &&& b := by
    apply Nat.eq_of_testBit_eq
    intro i
    rw [Nat.testBit_and, Nat.testBit_and, Nat.testBit_mod_two_pow]
    by_cases h : i < k.bits
    · simp [h]
    · have : a.testBit i = false := Nat.testBit_lt_two_pow (Nat.lt_of_lt_of_le ha (Nat.pow_le_pow_right (by decide) (by omega)))
      simp [this]
  unfold andI
  rw [e, e2, wrapU_of hk (by omega)]
  have : a &&& b ≤ a := Nat.and_le_left
  have h2 : ((2 ^ k.bits : Nat) : Int) = 2 ^ k.bits := by simp
  omega
include hb
theorem orU : orI k a b = ((a ||| b : Nat) : Int) := by
  have e : (BitVec.ofInt k.bits (a : Int) ||| BitVec.ofInt k.bits (b : Int)).toNat = a ||| b := by
    rw [BitVec.toNat_or, BitVec.ofInt_natCast, BitVec.ofInt_natCast, BitVec.toNat_ofNat, BitVec.toNat_ofNat, Nat.mod_eq_of_lt ha, Nat.mod_eq_of_lt hb]
  unfold orI
  rw [e, wrapU_of hk (by omega)]
  have : a ||| b < 2 ^ k.bits := Nat.or_lt_two_pow ha hb
  have h2 : ((2 ^ k.bits : Nat) : Int) = 2 ^ k.bits := by simp
  omega
end

theorem shlU {k : IntKind} (hk : k.signed = false) (a : Nat) {n : Nat} (hn : n ≤ k.bits) : shlI k (a : Int) (n : Int) = ((a * 2 ^ n % 2 ^ k.bits : Nat) : Int) := by
  unfold shlI
  rw [Int.toNat_natCast, Nat.min_eq_left hn]
  have : ((a : Int) * 2 ^ n) = ((a * 2 ^ n : Nat) : Int) := by simp
  rw [this, wrapU_mod hk]
theorem shrU (k : IntKind) (a : Nat) {n : Nat} (hn : n ≤ k.bits) : shrI k (a : Int) (n : Int) = ((a / 2 ^ n : Nat) : Int) := by
  rw [shrI_eq k _ n hn]
  simp

/-- bits side by side -/
theorem or_add {a b n : Nat} (h : a < 2 ^ n) : a ||| b * 2 ^ n = a + b * 2 ^ n := by
  rw [Nat.or_comm, Nat.mul_comm b, Nat.two_pow_add_eq_or_of_lt h b |>.symm]
  omega
theorem and_mask (a n : Nat) : a &&& (2 ^ n - 1) = a % 2 ^ n := Nat.and_two_pow_sub_one_eq_mod a n

/-- conversions of a number that is not below nought -/
theorem cv_u8 (n : Nat) : IntKind.u8.wrap (n : Int) = ((n % 256 : Nat) : Int) := wrapU_mod (k := .u8) rfl n
theorem cv_u64 (n : Nat) : IntKind.u64.wrap (n : Int) = ((n % 18446744073709551616 : Nat) : Int) := wrapU_mod (k := .u64) rfl n
end Go.Ev

/-! EvZz -/
/- Regions that draw their order, by rules. Own work. -/
namespace Go.Ev
open Go
variable {X : Kx} {K : List Kf} {s : St}

/-- a region that draws its order, its operations still to do; what those that are done looked at and turned -/
noncomputable def goRU (X : Kx) (acc : List (List Loc × List Loc)) (un : List (Nat × Nat)) (ops : List IOper) (keep : List Nat) (K : List Kf) (s : St) : Ans :=
  match evOpsU X.cfg (evL X.cfg) X.dep ops s with
  | some (l, s') => if unordOk (acc ++ l) un then go X K (settle X.dep keep s') else none
  | none => none
theorem go_regionU' (ops : List IOper) (p : Nat × Nat) (un : List (Nat × Nat)) (keep : List Nat) : go X (.c (.region ops (p :: un) keep) :: K) s = goRU X [] (p :: un) ops keep K s := by
  unfold go goRU
  rw [thread, evC_region]
  unfold evRegion
  simp only [List.nil_append]
  cases evOpsU X.cfg (evL X.cfg) X.dep ops s with
  | none => exact thread_none _ _
  | some r =>
    obtain ⟨l, s'⟩ := r
    by_cases hu : unordOk l (p :: un) = true
    · simp only [hu, if_true]
      rfl
    · simp only [hu, Bool.false_eq_true, if_false]
      exact thread_none _ _
noncomputable def goRUC (X : Kx) (acc : List (List Loc × List Loc)) (un : List (Nat × Nat)) (o : IOper) (r : List IOper) (keep : List Nat) (K : List Kf) (s : St) : Option (List (Loc × V)) → Ans
  | some u => goRU X (acc ++ [(readsOf X.dep s.get o, u.map (·.1))]) un r keep K (s.upd u)
  | none => none
@[go_sem] theorem goRU_step (acc : List (List Loc × List Loc)) (un : List (Nat × Nat)) (o : IOper) (r : List IOper) (keep : List Nat) : goRU X acc un (o :: r) keep K s = goRUC X acc un o r keep K s (stepU X.cfg (evL X.cfg) X.dep s.get o) := by
  unfold goRU
  rw [evOpsU]
  unfold goRUC goRU
  cases stepU X.cfg (evL X.cfg) X.dep s.get o with
  | none => rfl
  | some u =>
    simp only
    cases evOpsU X.cfg (evL X.cfg) X.dep r (s.upd u) with
    | none => rfl
    | some q => obtain ⟨l, s'⟩ := q; simp only [List.append_assoc, List.singleton_append]
@[go_sem] theorem goRUC_some (acc : List (List Loc × List Loc)) (un : List (Nat × Nat)) (o : IOper) (r : List IOper) (keep : List Nat) (u : List (Loc × V)) :
    goRUC X acc un o r keep K s (some u) = goRU X (acc ++ [(readsOf X.dep s.get o, u.map (·.1))]) un r keep K (s.upd u) := rfl
@[go_sem] theorem goRU_end (acc : List (List Loc × List Loc)) (un : List (Nat × Nat)) (keep : List Nat) (e : List (Nat × V)) (m : List (Cel × V)) (h : unordOk acc un = true) :
    goRU X acc un [] keep K ⟨e, m⟩ = go X K ⟨settleE X.dep keep e, settleM X.dep m⟩ := by
  unfold goRU
  simp only [evOpsU, List.append_nil, h, if_true]
  rfl
/-- what lies behind a value -/
def behind (n : Nat) : Option V → List Loc
  | some (.bor l _ _) => [l]
  | some (.bref l _ _) => [l]
  | some (.ref d j off) => spanLocs d j off n
  | _ => []
@[go_sem] theorem behind_d (n : Nat) (y : D) : behind n (some (.d y)) = [] := rfl
@[go_sem] theorem behind_own (n : Nat) (nw : Bool) (z : Nat) (es : List D) : behind n (some (.own nw z es)) = [] := rfl
@[go_sem] theorem behind_bor (n : Nat) (l : Loc) (a b : Nat) : behind n (some (.bor l a b)) = [l] := rfl
@[go_sem] theorem behind_bref (n : Nat) (l : Loc) (a b : Nat) : behind n (some (.bref l a b)) = [l] := rfl
@[go_sem] theorem behind_iptr (n : Nat) (e : D) (o : Nat) : behind n (some (.iptr e o)) = [] := rfl
@[go_sem] theorem behind_junk (n : Nat) : behind n (some .junk) = [] := rfl
@[go_sem] theorem behind_clo (n : Nat) (f : FuncId) (a b : List V) : behind n (some (.clo f a b)) = [] := rfl
@[go_sem] theorem behind_ifc (n : Nat) (t : TypeId) (v : V) : behind n (some (.ifc t v)) = [] := rfl
@[go_sem] theorem behind_ref (n d j off : Nat) : behind n (some (.ref d j off)) = spanLocs d j off n := rfl
@[go_sem] theorem opdLocs_t (s : Get) (n k : Nat) : opdLocs s n (.t k) = .slot k :: behind n (s (.slot k)) := by
  unfold behind
  simp only [opdLocs]
  rfl
@[go_sem] theorem opdLocs_c (s : Get) (n : Nat) (d : D) : opdLocs s n (.c d) = [] := rfl
@[go_sem] theorem opdLocs_g (s : Get) (n : Nat) (d : Nat) : opdLocs s n (.g d) = [] := rfl
/-- the box that an operation makes -/
def madeAt (dep : Nat) (dst : Option Nat) : IOp → List Loc
  | .alloc _ | .box _ _ => match dst with
    | some k => [.cell ⟨dep, k, 0⟩]
    | none => []
  | _ => []
@[go_sem] theorem readsOf_n (dep : Nat) (s : Get) (dst : Option Nat) (op : IOp) : readsOf dep s ⟨dst, none, op⟩ = madeAt dep dst op ++ op.operands.flatMap (opdLocs s op.span) := by
  cases op <;> cases dst <;> rfl
@[go_sem] theorem readsOf_g (dep : Nat) (s : Get) (dst : Option Nat) (k : Nat) (b : Bool) (op : IOp) : readsOf dep s ⟨dst, some (k, b), op⟩ = .slot k :: (madeAt dep dst op ++ op.operands.flatMap (opdLocs s op.span)) := by
  cases op <;> cases dst <;> rfl
@[go_sem] theorem isNil_cons (neg : Bool) (e : D) (es : List D) : evIsNil neg (.d (.sl (e :: es))) = some (.bool neg) := rfl
@[go_sem] theorem isNil_own (neg nw : Bool) (z : Nat) (es : List D) : evIsNil neg (.own nw z es) = some (.bool neg) := rfl
@[go_sem] theorem isNil_bor (neg : Bool) (l : Loc) (a b : Nat) : evIsNil neg (.bor l a b) = some (.bool neg) := rfl
attribute [go_sem] madeAt IOp.operands IOp.span List.flatMap_cons List.flatMap_nil spanLocs Option.toList
/-! append -/
theorem most_of {n : Nat} (h : n ≤ 1000000000) : (n ≤ mostEls) = True := by
  have : (1000000000 : Nat) ≤ mostEls := by unfold mostEls; decide
  simp; omega
def appB (dst : Option Nat) (z : Nat) (l : Loc) (off n : Nat) (ys : List D) : Option V → Option (List (Loc × V))
  | some (.own false z' es) => if off = 0 ∧ n ≤ es.length ∧ z' = z ∧ n + ys.length ≤ mostEls then some (put1 dst (.own true z (es.take n ++ ys)) ++ [(l, .junk)]) else none
  | _ => none
def appV (s : Get) (dst : Option Nat) (z : Nat) (x : IOpd) (v : V) (ys : List D) : Option (List (Loc × V)) :=
  match x, v with
    | _, .d .nilS => match ys with
      | [] => some (put1 dst (.d .nilS))
      | _ => if ys.length ≤ mostEls then some (put1 dst (.own true z ys)) else none
    | _, .d (.sl es) => match ys with
      | [] => some (put1 dst (.d (.sl es)))
      | _ => none
    | .t k, .own _ z' es => if z' = z ∧ es.length + ys.length ≤ mostEls then some (put1 dst (.own true z (es ++ ys)) ++ [(.slot k, .junk)]) else none
    | _, .bor l off n => appB dst z l off n ys (s l)
    | _, _ => none
@[go_sem] theorem evAppend_def (s : Get) (dst : Option Nat) (z bytes : Nat) (x : IOpd) (v : V) (ys : List D) : evAppend s dst z bytes x v ys = if (allZ z ys && decide (bytes ≤ 2048)) = true then appV s dst z x v ys else none := rfl
section
variable (g : Get) (dst : Option Nat) (z : Nat) (x : IOpd)
@[go_sem] theorem appV_nil0 : appV g dst z x (.d .nilS) [] = some (put1 dst (.d .nilS)) := by cases x <;> rfl
@[go_sem] theorem appV_nil (y : D) (ys : List D) (h : (y :: ys).length ≤ 1000000000) : appV g dst z x (.d .nilS) (y :: ys) = some (put1 dst (.own true z (y :: ys))) := by
  have := most_of h
  cases x <;> simp [appV, most_of h] <;> simpa using this
@[go_sem] theorem appV_sl0 (es : List D) : appV g dst z x (.d (.sl es)) [] = some (put1 dst (.d (.sl es))) := by cases x <;> rfl
@[go_sem] theorem appV_own (k : Nat) (nw : Bool) (es ys : List D) (h : es.length + ys.length ≤ 1000000000) : appV g dst z (.t k) (.own nw z es) ys = some (put1 dst (.own true z (es ++ ys)) ++ [(.slot k, .junk)]) := by
  simp [appV, most_of h]
@[go_sem] theorem appV_bor (l : Loc) (off n : Nat) (ys : List D) : appV g dst z x (.bor l off n) ys = appB dst z l off n ys (g l) := by cases x <;> rfl
@[go_sem] theorem appB_own (l : Loc) (n : Nat) (es ys : List D) (hn : n = es.length) (h : es.length + ys.length ≤ 1000000000) : appB dst z l 0 n ys (some (.own false z es)) = some (put1 dst (.own true z (es ++ ys)) ++ [(l, .junk)]) := by
  subst hn
  simp [appB, most_of h]
@[go_sem] theorem borQ_own' (l : Loc) (n : Nat) (es : List D) (hn : n = es.length) : borQ dst l 0 n (some (.own false z es)) = if dst.map Loc.slot = some l then some [(l, .own true z es)] else some (put1 dst (.own true z es) ++ [(l, .junk)]) := by
  subst hn
  exact borQ_own dst l z es
@[go_sem] theorem givenQ_own' (l : Loc) (n : Nat) (es : List D) (hn : n = es.length) : givenQ l 0 n (some (.own false z es)) = some ([(l, .junk)], .own false z es) := by
  subst hn
  exact givenQ_all l z es
@[go_sem high] theorem argQ_own' (n : Nat) (es : List D) (hn : n = es.length) : argQ 0 n (some (.own false z es)) = some (.sl es, true) := by
  subst hn
  simp [argQ]
end
@[go_sem] theorem allZ_nil (z : Nat) : allZ z [] = true := rfl
@[go_sem] theorem allZ_cons (z : Nat) (e : D) (r : List D) : allZ z (e :: r) = (e.cells.length == z && allZ z r) := rfl
theorem allZ_map {α : Type} {z : Nat} {f : α → D} (h : ∀ x, (f x).cells.length = z) (l : List α) : allZ z (l.map f) = true := by
  induction l with
  | nil => rfl
  | cons b l ih => simp [allZ, h b, ih]
@[go_sem] theorem allZ_bytes (l : List UInt8) : allZ 1 (l.map byteD) = true := allZ_map (f := byteD) (fun _ => rfl) l
theorem headZ_of {z : Nat} {es : List D} (h : allZ z es = true) : headZ z es = true := by
  cases es with
  | nil => rfl
  | cons e es => simp only [allZ, Bool.and_eq_true] at h; exact h.1
@[go_sem] theorem headZ_nil (z : Nat) : headZ z [] = true := rfl
@[go_sem] theorem headZ_cons (z : Nat) (e : D) (r : List D) : headZ z (e :: r) = (e.cells.length == z) := rfl
@[go_sem] theorem headZ_bytes (l : List UInt8) : headZ 1 (l.map byteD) = true := headZ_of (allZ_bytes l)
/-! pieces -/
variable {cfg : Cfg}
def slcB (dst : Option Nat) (z : Nat) (loc : Loc) (off l h : Nat) : Option V → Option (List (Loc × V))
  | some (.own false z' _) => if z' = z then some (put1 dst (.bor loc (off + l) (h - l))) else none
  | _ => none
def slcV (s : Get) (dst : Option Nat) (z : Nat) (x : IOpd) (l h : Nat) (v : V) : Option (List (Loc × V)) :=
  match x, v with
        | _, .d .nilS => some (put1 dst (.d .nilS))
        | _, .d (.sl es) => if headZ z es then some (put1 dst (.d (.sl ((es.take h).drop l)))) else none
        | .t k, .own false z' _ => if z' = z then some (put1 dst (.bor (.slot k) l (h - l))) else none
        | .t k, .own true z' es => if z' = z then some (put1 dst (.own true z ((es.take h).drop l)) ++ [(.slot k, .junk)]) else none
        | _, .bor loc off _ => slcB dst z loc off l h (s loc)
        | _, _ => none
@[go_sem] theorem evSlice_def (s : Get) (dst : Option Nat) (z : Nat) (x : IOpd) (v : V) (lo hi : Option IOpd) : evSlice cfg s dst z x v lo hi none = (cont s v).bind fun es => (sbounds cfg s es.length lo hi).bind fun lh => slcV s dst z x lh.1 lh.2 v := by
  unfold evSlice slcV slcB
  cases cont s v with
  | none => rfl
  | some es =>
    simp only [topOf, Option.bind_some]
    cases sbounds cfg s es.length lo hi with
    | none => rfl
    | some lh => obtain ⟨l, h⟩ := lh; simp only [Option.isSome_none, Bool.false_and, Bool.false_eq_true, if_false, Option.bind_some]; rfl
section
variable (g : Get) (dst : Option Nat) (z : Nat) (x : IOpd) (l h : Nat)
@[go_sem] theorem slcV_nil : slcV g dst z x l h (.d .nilS) = some (put1 dst (.d .nilS)) := by cases x <;> rfl
@[go_sem] theorem slcV_sl (es : List D) : slcV g dst z x l h (.d (.sl es)) = if headZ z es = true then some (put1 dst (.d (.sl ((es.take h).drop l)))) else none := by cases x <;> rfl
@[go_sem] theorem slcV_bor (loc : Loc) (off n : Nat) : slcV g dst z x l h (.bor loc off n) = slcB dst z loc off l h (g loc) := by cases x <;> rfl
/-! room cut -/
@[go_sem] theorem evClip_nil : evClip dst x (.d .nilS) = some (put1 dst (.d .nilS)) := by cases x <;> rfl
@[go_sem] theorem evClip_sl (es : List D) : evClip dst x (.d (.sl es)) = some (put1 dst (.d (.sl es))) := by cases x <;> rfl
@[go_sem] theorem evClip_own (nw : Bool) (es : List D) : evClip dst x (.own nw z es) = evMv dst x (.own nw z es) := rfl
@[go_sem] theorem evClip_bor (loc : Loc) (a b : Nat) : evClip dst x (.bor loc a b) = some (put1 dst (.bor loc a b)) := by cases x <;> rfl
/-! elements of one's own array -/
def idxB (dst : Option Nat) (z : Nat) (l : Loc) (i : Nat) : Option V → Option (List (Loc × V))
  | some (.own false z' _) => if z' = z then some (put1 dst (.bref l i 0)) else none
  | _ => none
end
@[go_sem high] theorem cells_byteD (c : UInt8) : (byteD c).cells = [byteD c] := rfl
@[go_sem] theorem storable_byteD (c : UInt8) : (byteD c).storable = true := rfl
@[go_sem] theorem canon_byteD (c : UInt8) : (byteD c).canon = byteD c := rfl
@[go_sem] theorem toInt_byteD (c : UInt8) : (byteD c).toInt? = some (c.toNat : Int) := rfl
@[go_sem] theorem asD_byteD (c : UInt8) : V.asD (.d (byteD c)) = some (byteD c) := rfl
end Go.Ev

/-! PlNums -/
/- Numbers as bytes, in plain words. Own work. -/
namespace Go.Ev
open Go

def inI (n : Int) : Prop := -9223372036854775808 ≤ n ∧ n < 9223372036854775808
instance (n : Int) : Decidable (inI n) := by unfold inI; infer_instance
theorem tmp {a k : Int} (h : 0 ≤ a) : a.tmod k = a % k := Int.tmod_eq_emod_of_nonneg h

/-- seven bits a byte -/
def varB : Nat → Nat → List UInt8
  | 0, _ => []
  | k + 1, u => if u < 128 then [UInt8.ofNat u] else UInt8.ofNat (u % 128 + 128) :: varB k (u / 128)
theorem varB_len : ∀ (k u : Nat), (varB k u).length ≤ k
  | 0, _ => Nat.le_refl _
  | k + 1, u => by
    unfold varB
    split
    · simp
    · have := varB_len k (u / 128)
      simp; omega

/-- a number read: its value, its bytes, what is wrong -/
def varM : Nat → Nat → List UInt8 → Nat × Nat × Nat
  | _, _, [] => (0, 0, 3)
  | i, v, c :: r => if i = 9 ∧ 1 < c.toNat then (0, 0, 4) else
    if c.toNat < 128 then (v + c.toNat * 128 ^ i, i + 1, 0) else varM (i + 1) (v + (c.toNat - 128) * 128 ^ i) r

theorem u8_of {n : Nat} (h : n < 256) : (UInt8.ofNat n).toNat = n := by
  simp [UInt8.toNat_ofNat']; omega
theorem u8_lt (b : UInt8) : b.toNat < 256 := b.toNat_lt

theorem varM_varB : ∀ (k i v u : Nat) (rest : List UInt8), i + k = 9 → u < 2 ^ (7 * k + 1) → varM i v (varB (k + 1) u ++ rest) = (v + u * 128 ^ i, i + (varB (k + 1) u).length, 0)
  | 0, i, v, u, rest, hi, hu => by
    have h1 : i = 9 := by omega
    subst h1
    have h2 : u < 2 := by simpa using hu
    have e : varB 1 u = [UInt8.ofNat u] := by simp [varB]; omega
    rw [e]
    simp only [List.cons_append, List.nil_append, varM, u8_of (n := u) (by omega), List.length_cons, List.length_nil]
    rw [if_neg (by omega), if_pos (by omega)]
  | k + 1, i, v, u, rest, hi, hu => by
    by_cases h : u < 128
    · have e : varB (k + 1 + 1) u = [UInt8.ofNat u] := by simp [varB, h]
      rw [e]
      simp only [List.cons_append, List.nil_append, varM, u8_of (n := u) (by omega), List.length_cons, List.length_nil]
      rw [if_neg (by omega), if_pos h]
    · have e : varB (k + 1 + 1) u = UInt8.ofNat (u % 128 + 128) :: varB (k + 1) (u / 128) := by rw [varB, if_neg h]
      have hu' : u / 128 < 2 ^ (7 * k + 1) := by
        rw [Nat.div_lt_iff_lt_mul (by decide)]
        have : 2 ^ (7 * (k + 1) + 1) = 2 ^ (7 * k + 1) * 128 := by rw [show 7 * (k + 1) + 1 = 7 * k + 1 + 7 by omega, Nat.pow_add]
        omega
      rw [e]
      simp only [List.cons_append, varM, u8_of (n := u % 128 + 128) (by omega)]
      rw [if_neg (by omega), if_neg (by omega), varM_varB k (i + 1) _ (u / 128) rest (by omega) hu']
      simp only [List.length_cons, Prod.mk.injEq, and_true]
      constructor
      · rw [Nat.pow_succ, show u % 128 + 128 - 128 = u % 128 by omega, Nat.add_assoc, Nat.mul_comm (128 ^ i) 128, ← Nat.mul_assoc, ← Nat.add_mul]
        congr 2
        omega
      · omega

theorem varM_back {u : Nat} (h : u < 18446744073709551616) (rest : List UInt8) : varM 0 0 (varB 10 u ++ rest) = (u, (varB 10 u).length, 0) := by
  have := varM_varB 9 0 0 u rest rfl (by omega)
  simpa using this

/-- what a number read is bounded by -/
theorem varM_ok : ∀ (l : List UInt8) (i v : Nat), i ≤ 9 → v < 128 ^ i → (varM i v l).1 < 18446744073709551616 ∧ (varM i v l).2.1 ≤ i + l.length ∧ (varM i v l).2.1 ≤ 10 ∧ (varM i v l).2.2 ≤ 4 ∧ ((varM i v l).2.2 = 0 → 0 < (varM i v l).2.1)
  | [], i, v, _, _ => by simp [varM]
  | c :: r, i, v, hi, hv => by
    have hc := u8_lt c
    have hp : 128 ^ i * 128 = 128 ^ (i + 1) := (Nat.pow_succ ..).symm
    unfold varM
    split
    · simp
    · rename_i h9
      split
      · rename_i hlt
        simp only [List.length_cons]
        refine ⟨?_, by omega, by omega, by omega, by omega⟩
        by_cases h : i = 9
        · subst h
          have : c.toNat ≤ 1 := by omega
          have h2 : c.toNat * 128 ^ 9 ≤ 1 * 128 ^ 9 := Nat.mul_le_mul_right _ this
          omega
        · have h2 : 128 ^ (i + 1) ≤ 128 ^ 9 := Nat.pow_le_pow_right (by decide) (by omega)
          have h3 : c.toNat * 128 ^ i ≤ 127 * 128 ^ i := Nat.mul_le_mul_right _ (by omega)
          have h4 : (128 : Nat) ^ 9 = 9223372036854775808 := by decide
          omega
      · rename_i hge
        have hi9 : i ≤ 8 := by
          by_cases h : i = 9
          · subst h; omega
          · omega
        have h3 : (c.toNat - 128) * 128 ^ i ≤ 127 * 128 ^ i := Nat.mul_le_mul_right _ (by omega)
        obtain ⟨g1, g2, g3, g4, g5⟩ := varM_ok r (i + 1) (v + (c.toNat - 128) * 128 ^ i) (by omega) (by omega)
        simp only [List.length_cons]
        exact ⟨g1, by omega, g3, g4, g5⟩

theorem pow128 (i : Nat) : 128 ^ i = 2 ^ (7 * i) := by rw [Nat.pow_mul]
theorem var_bits {v x i : Nat} (hv : v < 128 ^ i) (hx : i ≤ 8 ∧ x < 128 ∨ i = 9 ∧ x ≤ 1) : orI .u64 (v : Int) (shlI .u64 (x : Int) (7 * (i : Int))) = ((v + x * 128 ^ i : Nat) : Int) := by
  have e0 : (7 * (i : Int)) = ((7 * i : Nat) : Int) := by omega
  have hlt : x * 128 ^ i < 2 ^ 64 := by
    rcases hx with ⟨h1, h2⟩ | ⟨rfl, h2⟩
    · have h3 : 128 ^ i ≤ 128 ^ 8 := Nat.pow_le_pow_right (by decide) h1
      have h4 : x * 128 ^ i ≤ 127 * 128 ^ 8 := Nat.mul_le_mul (by omega) h3
      omega
    · have h4 : x * 128 ^ 9 ≤ 1 * 128 ^ 9 := Nat.mul_le_mul_right _ h2
      omega
  have hv2 : v < 2 ^ 64 := by
    have h3 : 128 ^ i ≤ 128 ^ 9 := Nat.pow_le_pow_right (by decide) (by omega)
    omega
  rw [e0, shlU (k := .u64) rfl x (by simp only [IntKind.bits]; omega), ← pow128]
  simp only [IntKind.bits]
  rw [Nat.mod_eq_of_lt hlt, orU (k := .u64) rfl hv2 hlt]
  rw [pow128, or_add (by rw [← pow128]; exact hv)]
theorem var_andNot (c : UInt8) : andNotI .u8 (c.toNat : Int) 128 = ((c.toNat % 128 : Nat) : Int) := by
  have : ∀ n : Fin 256, andNotI .u8 (n.val : Int) 128 = ((n.val % 128 : Nat) : Int) := by decide +kernel
  exact this ⟨c.toNat, u8_lt c⟩
theorem put_orI (u : Nat) : orI .u8 (((u % 256 : Nat)) : Int) 128 = ((u % 128 + 128 : Nat) : Int) := by
  have : ∀ n : Fin 256, orI .u8 (n.val : Int) 128 = ((n.val % 128 + 128 : Nat) : Int) := by decide +kernel
  have h := this ⟨u % 256, Nat.mod_lt _ (by decide)⟩
  simpa using h
/-- the same, masked first -/
theorem put_orR {u : Nat} (h : u < 18446744073709551616) : IntKind.u8.wrap (orI .u64 (andI .u64 (u : Int) 127) 128) = ((u % 128 + 128 : Nat) : Int) := by
  have h1 := andU (k := .u64) rfl (a := u) (b := 127) h
  rw [show ((127 : Nat) : Int) = 127 from rfl] at h1
  have h2 : u &&& 127 = u % 128 := and_mask u 7
  have h3 := orU (k := .u64) rfl (a := u % 128) (b := 128) (by simp only [IntKind.bits]; omega) (by decide)
  rw [show ((128 : Nat) : Int) = 128 from rfl] at h3
  have h4 : u % 128 ||| 128 = u % 128 + 128 := by
    have := or_add (a := u % 128) (b := 1) (n := 7) (by omega)
    simpa using this
  rw [h1, h2, h3, h4, cv_u8]
  omega

/-! bytes as data -/
theorem byteD_eq (b : UInt8) : byteD b = .int .u8 b.toNat := rfl
theorem plains_bytes (l : List UInt8) : D.plains (l.map byteD) = true := by
  induction l with
  | nil => rfl
  | cons b l ih => simp [D.plains, D.plain, byteD, ih]
attribute [go_sem] plains_bytes
@[go_sem] theorem bytesOf_map (l : List UInt8) : bytesOf? (l.map byteD) = some l := by
  induction l with
  | nil => rfl
  | cons b l ih =>
    simp only [List.map_cons, byteD_eq, bytesOf_cons, ih, Option.map_some]
    congr 2
    simp
theorem byteD_of {n : Nat} (h : n < 256) : byteD (UInt8.ofNat n) = .int .u8 (n : Int) := by rw [byteD_eq, u8_of h]
theorem shr_seven (u : Nat) : shrI .u64 (u : Int) 7 = ((u / 128 : Nat) : Int) := by
  have := shrU .u64 u (n := 7) (by decide)
  rw [show ((7 : Nat) : Int) = 7 from rfl] at this
  rw [this]
end Go.Ev

/-! PlRow -/
/- Arguments of rows as data. Own work. -/
namespace Go.Ev
open Go Go.RowKit

def mkD : List D → D
  | [x] => x
  | xs => .agg xs

variable {P : Program} {W : World} {H : Type} {enc : TypeId × Value → H} {base : Nat} {spare : Nat → Bool} {held : Bool} {t e : TypeId} {v : Value} {x : DataW H × List MemPlace}

theorem read_one {G : List D → Prop} {fuel : Nat} (hI : IsF P W fuel t G) (hf : DataW.trod enc P W base spare held fuel t v.cells.toList = some x) (hv : v.cells.toList = [v]) (hG : ∀ xs, G xs → ∃ d, xs = [d]) : ∃ d, G [d] ∧ Rd anyB W v d := by
  obtain ⟨xs, ⟨q1, q2, q3⟩, hg⟩ := hI H enc base spare held _ _ hf
  obtain ⟨d, rfl⟩ := hG xs hg
  exact ⟨d, hg, q3 0 v d (by rw [hv]; rfl) rfl⟩

theorem read_ints {k : IntKind} (ht : P.underlying t = some (.slice e)) (he : P.underlying e = some (.int k)) (hz : P.cellsOf e = 1) (hv : v.cells.toList = [v]) (h : ∃ fuel, DataW.trod enc P W base spare held fuel t v.cells.toList = some x) :
    ∃ l : List Int, l.length ≤ maxLen ∧ (∀ n ∈ l, (Lit.int k n).wf = true) ∧ Rd anyB W v (.sl (l.map (D.int k))) := by
  obtain ⟨fuel, hf⟩ := h
  obtain ⟨d, ⟨es, hd, hlen, hes⟩, hr⟩ := read_one (IsF.slice ht (by omega) (fun m _ => IsF.int he) mkD (fun xs hx _ => by obtain ⟨m, rfl, _⟩ := hx; rfl)) hf hv (fun xs hx => by obtain ⟨es, rfl, _⟩ := hx; exact ⟨_, rfl⟩)
  cases hd
  have key : ∀ es : List D, (∀ d ∈ es, ∃ ys, (∃ m, ys = [D.int k m] ∧ (Lit.int k m).wf = true) ∧ ys.length = P.cellsOf e ∧ d = mkD ys) → ∃ l : List Int, es = l.map (D.int k) ∧ ∀ n ∈ l, (Lit.int k n).wf = true := by
    intro es
    induction es with
    | nil => exact fun _ => ⟨[], rfl, by simp⟩
    | cons d es ih =>
      intro h
      obtain ⟨ys, ⟨m, rfl, hw⟩, _, rfl⟩ := h d (by simp)
      obtain ⟨l, rfl, hl⟩ := ih (fun d hd => h d (by simp [hd]))
      refine ⟨m :: l, rfl, fun n hn => ?_⟩
      rcases List.mem_cons.1 hn with rfl | hn
      · exact hw
      · exact hl n hn
  obtain ⟨l, rfl, hl⟩ := key es hes
  exact ⟨l, by simpa using hlen, hl, hr⟩

theorem read_bytes (ht : P.underlying t = some (.slice e)) (he : P.underlying e = some (.int .u8)) (hz : P.cellsOf e = 1) (hv : v.cells.toList = [v]) (h : ∃ fuel, DataW.trod enc P W base spare held fuel t v.cells.toList = some x) :
    ∃ l : List UInt8, l.length ≤ maxLen ∧ Rd anyB W v (.sl (l.map byteD)) := by
  obtain ⟨l, h1, h2, h3⟩ := read_ints ht he hz hv h
  refine ⟨l.map fun n => UInt8.ofNat n.toNat, by simpa using h1, ?_⟩
  have : (l.map fun n => UInt8.ofNat n.toNat).map byteD = l.map (D.int .u8) := by
    rw [List.map_map]
    refine List.map_congr_left fun n hn => ?_
    have hw := h2 n hn
    simp [Lit.wf, IntKind.min, IntKind.max, IntKind.signed, IntKind.bits] at hw
    show byteD (UInt8.ofNat n.toNat) = _
    rw [byteD_of (by omega)]
    congr 1
    omega
  rw [this]
  exact h3

end Go.Ev
