/- The evaluator of Go code and its proofs, part 8. Own work. -/
import Derived.Test.YtpabdojnfiiaoaaDoorL7
import Derived.Attr
import Derived.ChangeArms
import Derived.ChangeOld
import Derived.Below
import Derived.Lib.ItoaNum
import Derived.Lib.Repeat
set_option linter.unusedVariables false
set_option linter.unusedSimpArgs false
set_option linter.unusedSectionVars false
/-! EvZq -/
/- Rules for values. Own work. -/
namespace Go.Ev
open Go

attribute [go_sem] go_nil go_blk go_ret go_skip go_exit goX_c goX_b go_seq go_block go_condQ goQ_b go_demote go_free go_region goR_step goC_some goR_end
  get_slot get_cell upd_nil upd_slot upd_cell put1_some val_t val_c vals_nil vals_cons dats_nil dats_cons bind_some U_g gU_b gU_u U_mv U_asg U_pick pickU_b evPick_d U_bin U_eqn U_isNil U_un U_cvInt U_b2s U_load U_store U_nilck U_alloc
  U_box U_build U_lit U_mkI U_mkS U_slice U_sliceS U_fieldA U_field U_idxA U_idxS U_ext U_lenS U_len U_minmax U_append U_appendS U_copy U_tass
  lk st V.home settleM Option.map_some Option.map_none D.toInt? D.can D.canA D.canon D.cells V.len?

variable {cfg : Cfg} {s : Get} {dep : Nat}

@[go_sem] theorem settleE_nil (e : List (Nat × V)) : settleE dep [] e = [] := rfl
def setK (dep k : Nat) (r : List Nat) (e : List (Nat × V)) : Option V → List (Nat × V)
  | some v => (k, v.home dep) :: settleE dep r e
  | none => settleE dep r e
@[go_sem] theorem settleE_cons (k : Nat) (r : List Nat) (e : List (Nat × V)) : settleE dep (k :: r) e = setK dep k r e (lk e k) := by
  unfold setK
  rw [settleE]
  cases lk e k <;> rfl
@[go_sem] theorem setK_some (k : Nat) (r : List Nat) (e : List (Nat × V)) (v : V) : setK dep k r e (some v) = (k, v.home dep) :: settleE dep r e := rfl
@[go_sem] theorem setK_none (k : Nat) (r : List Nat) (e : List (Nat × V)) : setK dep k r e none = settleE dep r e := rfl
@[go_sem] theorem upTo_ref (n d k o : Nat) : V.upTo n (.ref d k o) = decide (d < n) := rfl
@[go_sem] theorem upTo_d (n : Nat) (x : D) : V.upTo n (.d x) = true := rfl
@[go_sem] theorem upTo_iptr (n : Nat) (x : D) (o : Nat) : V.upTo n (.iptr x o) = true := rfl
@[go_sem] theorem upTo_junk (n : Nat) : V.upTo n .junk = true := rfl
@[go_sem] theorem upTo_bor (n : Nat) (l : Loc) (a b : Nat) : V.upTo n (.bor l a b) = false := rfl
@[go_sem] theorem upTo_bref (n : Nat) (l : Loc) (a b : Nat) : V.upTo n (.bref l a b) = false := rfl
@[go_sem] theorem upTo_ifc (n : Nat) (t : TypeId) (v : V) : V.upTo n (.ifc t v) = v.upTo n := rfl

section
variable (dst : Option Nat) (x : IOpd)
@[go_sem] theorem evMv_d (y : D) : evMv dst x (.d y) = some (put1 dst (.d y)) := by cases x <;> rfl
@[go_sem] theorem evMv_ref (d k o : Nat) : evMv dst x (.ref d k o) = some (put1 dst (.ref d k o)) := by cases x <;> rfl
@[go_sem] theorem evMv_iptr (e : D) (o : Nat) : evMv dst x (.iptr e o) = some (put1 dst (.iptr e o)) := by cases x <;> rfl
@[go_sem] theorem evMv_bref (l : Loc) (i o : Nat) : evMv dst x (.bref l i o) = some (put1 dst (.bref l i o)) := by cases x <;> rfl
@[go_sem] theorem evMv_bor (l : Loc) (i o : Nat) : evMv dst x (.bor l i o) = some (put1 dst (.bor l i o)) := by cases x <;> rfl
@[go_sem] theorem evMv_ifc (t : TypeId) (v : V) : evMv dst x (.ifc t v) = some (put1 dst (.ifc t v)) := by cases x <;> rfl
@[go_sem] theorem evMv_clo (f : FuncId) (a b : List V) : evMv dst x (.clo f a b) = some (put1 dst (.clo f a b)) := by cases x <;> rfl
@[go_sem] theorem evMv_ownF (k z : Nat) (es : List D) : evMv dst (.t k) (.own false z es) = some (put1 dst (.bor (.slot k) 0 es.length)) := rfl
@[go_sem] theorem evMv_ownT (k z : Nat) (es : List D) : evMv dst (.t k) (.own true z es) = some (put1 dst (.own true z es) ++ [(.slot k, .junk)]) := rfl

@[go_sem] theorem evAsg_d (y : D) : evAsg s dst x (.d y) = some (put1 dst (.d y)) := by cases x <;> rfl
@[go_sem] theorem evAsg_ref (d k o : Nat) : evAsg s dst x (.ref d k o) = some (put1 dst (.ref d k o)) := by cases x <;> rfl
@[go_sem] theorem evAsg_iptr (e : D) (o : Nat) : evAsg s dst x (.iptr e o) = some (put1 dst (.iptr e o)) := by cases x <;> rfl
@[go_sem] theorem evAsg_ifc (t : TypeId) (v : V) : evAsg s dst x (.ifc t v) = some (put1 dst (.ifc t v)) := by cases x <;> rfl
@[go_sem] theorem evAsg_clo (f : FuncId) (a b : List V) : evAsg s dst x (.clo f a b) = some (put1 dst (.clo f a b)) := by cases x <;> rfl
@[go_sem] theorem evAsg_own (nw : Bool) (k z : Nat) (es : List D) : evAsg s dst (.t k) (.own nw z es) = some (put1 dst (.own true z es) ++ [(.slot k, .junk)]) := rfl
/-- what a borrowed piece is a piece of -/
def borQ (dst : Option Nat) (l : Loc) (off n : Nat) : Option V → Option (List (Loc × V))
  | some (.own false z es) => if off = 0 ∧ n = es.length then
        (if dst.map Loc.slot = some l then some [(l, .own true z es)] else some (put1 dst (.own true z es) ++ [(l, .junk)])) else none
  | _ => none
@[go_sem] theorem evAsg_bor (l : Loc) (off n : Nat) : evAsg s dst x (.bor l off n) = borQ dst l off n (s l) := by
  cases x <;> (simp only [evAsg]; unfold borQ; rfl)
@[go_sem] theorem borQ_own (l : Loc) (z : Nat) (es : List D) : borQ dst l 0 es.length (some (.own false z es)) = if dst.map Loc.slot = some l then some [(l, .own true z es)] else some (put1 dst (.own true z es) ++ [(l, .junk)]) := by
  unfold borQ
  simp

@[go_sem] theorem evLoad_iptr (z : Option Nat) (e : D) (off : Nat) : evLoad s dst z (.iptr e off) = (ldD z e off).map fun x => put1 dst (.d x) := rfl
@[go_sem] theorem evLoad_ptr (z : Option Nat) (e : D) : evLoad s dst z (.d (.ptr e)) = (ldD z e 0).map fun x => put1 dst (.d x) := rfl
def brefQ (dst : Option Nat) (z : Option Nat) (i off : Nat) : Option V → Option (List (Loc × V))
  | some (.own false _ es) => (es[i]?).bind fun e => (ldD z e off).map fun x => put1 dst (.d x)
  | _ => none
@[go_sem] theorem evLoad_bref (z : Option Nat) (l : Loc) (i off : Nat) : evLoad s dst z (.bref l i off) = brefQ dst z i off (s l) := by unfold brefQ; simp only [evLoad]; rfl
@[go_sem] theorem brefQ_own (z : Option Nat) (i off z' : Nat) (es : List D) : brefQ dst z i off (some (.own false z' es)) = (es[i]?).bind fun e => (ldD z e off).map fun x => put1 dst (.d x) := rfl
def refQ (dst : Option Nat) (d k off : Nat) : Option V → Option (List (Loc × V))
  | some (.own false _ es) => some (put1 dst (.bor (.cell ⟨d, k, off⟩) 0 es.length))
  | some v => if v.plainV then some (put1 dst v) else none
  | none => none
@[go_sem] theorem evLoad_ref (d k off : Nat) : evLoad s dst none (.ref d k off) = refQ dst d k off (s (.cell ⟨d, k, off⟩)) := by unfold refQ; simp only [evLoad]; rfl
@[go_sem] theorem refQ_own (d k off z : Nat) (es : List D) : refQ dst d k off (some (.own false z es)) = some (put1 dst (.bor (.cell ⟨d, k, off⟩) 0 es.length)) := rfl
@[go_sem] theorem refQ_d (d k off : Nat) (y : D) : refQ dst d k off (some (.d y)) = some (put1 dst (.d y)) := rfl
@[go_sem] theorem refQ_ref (d k off a b c : Nat) : refQ dst d k off (some (.ref a b c)) = some (put1 dst (.ref a b c)) := rfl
@[go_sem] theorem refQ_iptr (d k off : Nat) (e : D) (o : Nat) : refQ dst d k off (some (.iptr e o)) = some (put1 dst (.iptr e o)) := rfl
@[go_sem] theorem evLoad_refN (d k off n : Nat) : evLoad s dst (some n) (.ref d k off) = (gather s d k off n).map fun (cs, u) => u ++ put1 dst (.d (.agg cs)) := rfl
@[go_sem] theorem ldD_none (e : D) (off : Nat) : ldD none e off = e.cells[off]? := rfl
@[go_sem] theorem ldD_some (z : Nat) (e : D) (off : Nat) : ldD (some z) e off = if off + z ≤ e.cells.length then some (.agg ((e.cells.drop off).take z)) else none := rfl
end

@[go_sem] theorem dat_def (x : IOpd) : dat cfg s x = (val cfg s x).bind V.asD := rfl
@[go_sem] theorem asD_d (x : D) : V.asD (.d x) = some x.canon := rfl
@[go_sem] theorem asD_iptr (e : D) : V.asD (.iptr e 0) = some (.ptr e) := rfl
@[go_sem] theorem cont_nilS : cont s (.d .nilS) = some [] := rfl
@[go_sem] theorem cont_sl (es : List D) : cont s (.d (.sl es)) = some es := rfl
@[go_sem] theorem cont_own (nw : Bool) (z : Nat) (es : List D) : cont s (.own nw z es) = some es := rfl
def contQ (off n : Nat) : Option V → Option (List D)
  | some (.own false _ es) => some ((es.drop off).take n)
  | _ => none
@[go_sem] theorem cont_bor (l : Loc) (off n : Nat) : cont s (.bor l off n) = contQ off n (s l) := by unfold contQ; simp only [cont]; rfl
@[go_sem] theorem contQ_own (off n z : Nat) (es : List D) : contQ off n (some (.own false z es)) = some ((es.drop off).take n) := rfl

/-! calls -/
@[go_sem] theorem argsD_nil : argsD s [] = some ([], false) := rfl
@[go_sem] theorem argsD_cons (v : V) (r : List V) : argsD s (v :: r) = (argD s v).bind fun (x, a) => (argsD s r).bind fun (xs, b) => some (x :: xs, a || b) := by
  rw [argsD]
  cases argD s v <;> cases argsD s r <;> rfl
@[go_sem] theorem argD_d (x : D) : argD s (.d x) = some (x.canon, false) := rfl
@[go_sem] theorem argD_iptr (e : D) : argD s (.iptr e 0) = some (.ptr e, false) := rfl
@[go_sem] theorem argD_own (nw : Bool) (z : Nat) (es : List D) : argD s (.own nw z es) = some (.sl es, true) := rfl
def argQ (off n : Nat) : Option V → Option (D × Bool)
  | some (.own false _ es) => some (.sl ((es.drop off).take n), true)
  | _ => none
@[go_sem] theorem argD_bor (l : Loc) (off n : Nat) : argD s (.bor l off n) = argQ off n (s l) := by unfold argQ; simp only [argD]; rfl
@[go_sem] theorem argQ_own (off n z : Nat) (es : List D) : argQ off n (some (.own false z es)) = some (.sl ((es.drop off).take n), true) := rfl
def callQ (dst : Option Nat) (own shared : Bool) : Ans → Option (List (Loc × V))
  | some (r, _) => landed dst own shared r
  | none => none
@[go_sem] theorem callU_def (orc : Orc) (dst : Option Nat) (own : Bool) (f : FuncId) (vs : List V) : callU orc s dst own f vs = (argsD s vs).bind fun (ds, shared) => callQ dst own shared (orc f 0 (ds.map .d) []) := by
  unfold callU callQ
  cases argsD s vs with
  | none => rfl
  | some p => obtain ⟨ds, sh⟩ := p; simp only [Option.bind_some]; split <;> simp_all
@[go_sem] theorem callQ_some (dst : Option Nat) (own shared : Bool) (r : V) (m : List (Cel × V)) : callQ dst own shared (some (r, m)) = landed dst own shared r := rfl
@[go_sem] theorem landed_d (dst : Option Nat) (own shared : Bool) (r : D) : landed dst own shared (.d r) = if shared && !r.plain then none else some (put1 dst (.d (if own then r else r.canon))) := rfl
@[go_sem] theorem landed_own (dst : Option Nat) (own shared nw : Bool) (z : Nat) (es : List D) : landed dst own shared (.own nw z es) = if shared && !D.plains es then none else some (put1 dst (if own then .own true z es else .d (.sl es))) := rfl
attribute [go_sem] D.plain D.plains

/-! ends -/
@[go_sem] theorem fin_def (X : Kx) (t : St) : fin X t = (resAll X.dep t.get X.res).bind fun v => leaveR X.dep v t.mem := rfl
@[go_sem] theorem resAll_one (r : IRes) : resAll dep s [r] = resV dep s r := rfl
@[go_sem] theorem resAll_two (p q : IRes) (r : List IRes) : resAll dep s (p :: q :: r) = (resD dep s (p :: q :: r)).map fun ds => .d (.tup ds) := rfl
@[go_sem] theorem resAll_nil : resAll dep s [] = some (.d (.tup [])) := rfl
@[go_sem] theorem resD_nil : resD dep s [] = some [] := rfl
@[go_sem] theorem resD_cons (r : IRes) (rs : List IRes) : resD dep s (r :: rs) = ((resV dep s r).bind resCell).bind fun d => (resD dep s rs).bind fun ds => some (d :: ds) := by
  rw [resD]
  cases (resV dep s r).bind resCell <;> cases resD dep s rs <;> rfl
def resQ : Option V → Option V
  | some (.own _ z es) => some (.own false z es)
  | some v => if v.plainV then some v else none
  | none => none
@[go_sem] theorem resV_t (k : Nat) : resV dep s (.t k) = resQ (s (.slot k)) := by
  simp only [resV]; unfold resQ; rfl
@[go_sem] theorem resQ_d (x : D) : resQ (some (.d x)) = some (.d x) := rfl
@[go_sem] theorem resQ_own (nw : Bool) (z : Nat) (es : List D) : resQ (some (.own nw z es)) = some (.own false z es) := rfl
@[go_sem] theorem resQ_iptr (e : D) (o : Nat) : resQ (some (.iptr e o)) = some (.iptr e o) := rfl
@[go_sem] theorem resCell_d (x : D) : resCell (.d x) = some x.canon := rfl
@[go_sem] theorem resCell_own (nw : Bool) (z : Nat) (es : List D) : resCell (.own nw z es) = some (.sl es) := rfl
@[go_sem] theorem resCell_iptr (e : D) : resCell (.iptr e 0) = some (.ptr e) := rfl
@[go_sem] theorem leaveR_def (v : V) (m : List (Cel × V)) : leaveR dep v m = if v.upTo dep then some (v, leaveM dep m) else none := rfl
@[go_sem] theorem upTo_own (n : Nat) (nw : Bool) (z : Nat) (es : List D) : V.upTo n (.own nw z es) = true := rfl
attribute [go_sem] leaveM entry

/-! arithmetic -/
@[go_sem] theorem bin_ii (op : BinOp) (k k' : IntKind) (a b : Int) : D.bin op (.int k a) (.int k' b) = intBin op k a k' b := rfl
@[go_sem] theorem bin_ss (op : BinOp) (a b : List UInt8) : D.bin op (.str a) (.str b) = strBin op a b := rfl
section
variable (k : IntKind) (a b : Int)
@[go_sem] theorem ib_add : intBin .add k a k b = some (.int k (k.wrap (a + b))) := by simp [intBin]
@[go_sem] theorem ib_sub : intBin .sub k a k b = some (.int k (k.wrap (a - b))) := by simp [intBin]
@[go_sem] theorem ib_mul : intBin .mul k a k b = some (.int k (k.wrap (a * b))) := by simp [intBin]
@[go_sem] theorem ib_eql : intBin .eql k a k b = some (.bool (a == b)) := by simp [intBin]
@[go_sem] theorem ib_neq : intBin .neq k a k b = some (.bool (a != b)) := by simp [intBin]
@[go_sem] theorem ib_lss : intBin .lss k a k b = some (.bool (decide (a < b))) := by simp [intBin]
@[go_sem] theorem ib_leq : intBin .leq k a k b = some (.bool (decide (a ≤ b))) := by simp [intBin]
@[go_sem] theorem ib_gtr : intBin .gtr k a k b = some (.bool (decide (a > b))) := by simp [intBin]
@[go_sem] theorem ib_geq : intBin .geq k a k b = some (.bool (decide (a ≥ b))) := by simp [intBin]
end
theorem ib_quo (k : IntKind) (a : Int) {b : Int} (h : b ≠ 0) : intBin .quo k a k b = some (.int k (k.wrap (a.tdiv b))) := by simp [intBin, h]
theorem ib_rem (k : IntKind) (a : Int) {b : Int} (h : b ≠ 0) : intBin .rem k a k b = some (.int k (a.tmod b)) := by simp [intBin, h]
/-- bit by bit -/
def andI (k : IntKind) (a b : Int) : Int := k.wrap (BitVec.ofInt k.bits a &&& BitVec.ofInt k.bits b).toNat
def orI (k : IntKind) (a b : Int) : Int := k.wrap (BitVec.ofInt k.bits a ||| BitVec.ofInt k.bits b).toNat
def xorI (k : IntKind) (a b : Int) : Int := k.wrap (BitVec.ofInt k.bits a ^^^ BitVec.ofInt k.bits b).toNat
def shlI (k : IntKind) (a b : Int) : Int := k.wrap (a * 2 ^ (min b.toNat k.bits))
def shrI (k : IntKind) (a b : Int) : Int := a.fdiv (2 ^ (min b.toNat k.bits))
theorem ib_shl (k k' : IntKind) (a : Int) {b : Int} (h : 0 ≤ b) : intBin .shl k a k' b = some (.int k (shlI k a b)) := by simp [intBin, shlI]; omega
theorem ib_shr (k k' : IntKind) (a : Int) {b : Int} (h : 0 ≤ b) : intBin .shr k a k' b = some (.int k (shrI k a b)) := by simp [intBin, shrI]; omega
@[go_sem] theorem ib_and (k : IntKind) (a b : Int) : intBin .and k a k b = some (.int k (andI k a b)) := by simp [intBin, andI]
@[go_sem] theorem ib_or (k : IntKind) (a b : Int) : intBin .or k a k b = some (.int k (orI k a b)) := by simp [intBin, orI]
@[go_sem] theorem ib_xor (k : IntKind) (a b : Int) : intBin .xor k a k b = some (.int k (xorI k a b)) := by simp [intBin, xorI]
@[go_sem] theorem un_not (b : Bool) : D.un .not (.bool b) = some (.bool !b) := rfl
@[go_sem] theorem un_neg (k : IntKind) (n : Int) : D.un .neg (.int k n) = some (.int k (k.wrap (0 - n))) := rfl
section
variable (a b : List UInt8)
@[go_sem] theorem sb_eql : strBin .eql a b = some (.bool (a == b)) := rfl
@[go_sem] theorem sb_neq : strBin .neq a b = some (.bool !(a == b)) := rfl
@[go_sem] theorem sb_lss : strBin .lss a b = some (.bool (Go.Op.bytesLess a b)) := rfl
@[go_sem] theorem sb_geq : strBin .geq a b = some (.bool !(Go.Op.bytesLess a b)) := rfl
end
theorem wrap_i64 {n : Int} (h1 : -9223372036854775808 ≤ n) (h2 : n < 9223372036854775808) : IntKind.i64.wrap n = n := by
  simp [IntKind.wrap, IntKind.signed, IntKind.bits, BitVec.toInt_ofInt, Int.bmod_def]
  omega

theorem wrap_u64 {n : Int} (h1 : 0 ≤ n) (h2 : n < 18446744073709551616) : IntKind.u64.wrap n = n := by
  simp [IntKind.wrap, IntKind.signed, IntKind.bits]
  omega

theorem shrI_eq (k : IntKind) (a : Int) (n : Nat) (h : n ≤ k.bits) : shrI k a n = a / 2 ^ n := by
  unfold shrI
  rw [Int.toNat_natCast, Nat.min_eq_left h, Int.fdiv_eq_ediv_of_nonneg _ (Int.le_of_lt (Int.pow_pos (by decide)))]
/-- a mask on a number that is not below nought -/
theorem andI_mask {a : Int} (n : Nat) (hn : n ≤ 63) (h0 : 0 ≤ a) (h1 : a < 18446744073709551616) : andI .u64 a ((2 ^ n - 1 : Nat) : Int) = a % 2 ^ n := by
  obtain ⟨m, rfl⟩ : ∃ m : Nat, a = m := ⟨a.toNat, by omega⟩
  have hp : 2 ^ n - 1 < 2 ^ 64 := by
    have := Nat.pow_le_pow_right (show 2 > 0 by decide) hn
    have : (2 : Nat) ^ 63 < 2 ^ 64 := by decide
    omega
  have e : (BitVec.ofInt 64 (m : Int) &&& BitVec.ofInt 64 ((2 ^ n - 1 : Nat) : Int)).toNat = m % 2 ^ n := by
    rw [BitVec.toNat_and, BitVec.ofInt_natCast, BitVec.ofInt_natCast, BitVec.toNat_ofNat, BitVec.toNat_ofNat, Nat.mod_eq_of_lt (a := m) (by omega), Nat.mod_eq_of_lt hp, Nat.and_two_pow_sub_one_eq_mod]
  have hlt : m % 2 ^ n < 2 ^ n := Nat.mod_lt _ (Nat.two_pow_pos n)
  unfold andI
  show IntKind.u64.wrap ((BitVec.ofInt 64 (m : Int) &&& BitVec.ofInt 64 ((2 ^ n - 1 : Nat) : Int)).toNat : Int) = _
  rw [e, wrap_u64 (by omega) (by omega)]
  simp

/-! pieces, elements -/
theorem evIdx_none (dst : Option Nat) (z : Nat) (x : IOpd) (v : V) {n : Int} (h : n < 0) : evIdx s dst z x v n = none := by simp [evIdx, h]
theorem evIdx_sl (dst : Option Nat) (z : Nat) (x : IOpd) (es : List D) {n : Int} (h : 0 ≤ n) : evIdx s dst z x (.d (.sl es)) n = (es[n.toNat]?).bind fun e => if e.cells.length = z then some (put1 dst (.iptr e 0)) else none := by
  unfold evIdx
  rw [if_neg (by omega)]
@[go_sem] theorem evIdx_slN (dst : Option Nat) (z : Nat) (x : IOpd) (es : List D) (i : Nat) : evIdx s dst z x (.d (.sl es)) (i : Int) = (es[i]?).bind fun e => if e.cells.length = z then some (put1 dst (.iptr e 0)) else none := by
  rw [evIdx_sl _ _ _ _ (by omega)]; simp
attribute [go_sem] List.getElem?_map List.map_cons List.map_nil List.length_cons List.length_nil List.length_map List.getElem?_cons_zero List.getElem?_cons_succ

end Go.Ev

/-! EvZr -/
/- From a row's reading of its arguments to data, and from an answer to the row. Own work. -/
namespace Go.Ev
open Go Go.RowKit

abbrev anyB : Nat → Prop := fun _ => True

/-- cells and what they read as -/
def Rds (w : World) (cs : List Value) (xs : List D) : Prop :=
  cs.length = xs.length ∧ (∀ c ∈ xs, c.isCell = true) ∧ ∀ (i : Nat) v c, cs[i]? = some v → xs[i]? = some c → Rd anyB w v c

/-- what a reading of type t tells of the data -/
def IsF (P : Program) (w : World) (n : Nat) (t : TypeId) (G : List D → Prop) : Prop :=
  ∀ (H : Type) (enc : TypeId × Value → H) (base : Nat) (spare : Nat → Bool) (held : Bool) (cs : List Value) (x : DataW H × List MemPlace), DataW.trod enc P w base spare held n t cs = some x → ∃ xs, Rds w cs xs ∧ G xs

variable {P : Program} {w : World} {n : Nat} {t : TypeId}

theorem Rds.one {v : Value} {d : D} (h : Rd anyB w v d) (hc : d.isCell = true) : Rds w [v] [d] :=
  ⟨rfl, by simpa using hc, fun i v' c h1 h2 => by
    cases i with
    | zero => simp at h1 h2; subst h1; subst h2; exact h
    | succ i => simp at h1⟩

theorem IsF.bool (ht : P.underlying t = some .bool) : IsF P w n t fun xs => ∃ b, xs = [.bool b] := by
  intro H enc base spare held cs x h
  obtain ⟨b, rfl, _⟩ := DataW.trod_bool ht h
  exact ⟨_, Rds.one (.bool b) rfl, b, rfl⟩

theorem IsF.int {k : IntKind} (ht : P.underlying t = some (.int k)) : IsF P w n t fun xs => ∃ m, xs = [.int k m] ∧ (Lit.int k m).wf = true := by
  intro H enc base spare held cs x h
  obtain ⟨m, rfl, _, hw⟩ := DataW.trod_int ht h
  exact ⟨_, Rds.one (.int k m) rfl, m, rfl, hw⟩

theorem IsF.str (ht : P.underlying t = some .string) : IsF P w n t fun xs => ∃ s : List UInt8, xs = [.str s] ∧ s.length ≤ maxLen := by
  intro H enc base spare held cs x h
  obtain ⟨s, rfl, _, hw⟩ := DataW.trod_string ht h
  have e : (⟨s.data.toList.toArray⟩ : ByteArray) = s := by cases s; rfl
  have hl : s.data.toList.length = s.size := by rw [ByteArray.size, Array.length_toList]
  refine ⟨[.str s.data.toList], Rds.one ?_ rfl, _, rfl, by rw [hl]; exact hw⟩
  have := Rd.str (F := anyB) (w := w) s.data.toList
  rwa [e] at this

theorem mapM_at {α β : Type} {f : α → Option β} : ∀ {l : List α} {r : List β}, l.mapM f = some r → l.length = r.length ∧ ∀ (i : Nat) x y, l[i]? = some x → r[i]? = some y → f x = some y
  | [], r, h => by cases h; simp
  | a :: l, r, h => by
    rw [List.mapM_cons] at h
    cases hf : f a with
    | none => rw [hf] at h; cases h
    | some b =>
      cases hl : l.mapM f with
      | none => rw [hf, hl] at h; cases h
      | some bs =>
        rw [hf, hl] at h
        cases h
        obtain ⟨g1, g2⟩ := mapM_at hl
        refine ⟨by simp [g1], fun i x y h1 h2 => ?_⟩
        cases i with
        | zero => simp at h1 h2; subst h1; subst h2; exact hf
        | succ i => exact g2 i x y (by simpa using h1) (by simpa using h2)

theorem cells_at {base : Nat} {a : Addr} {m : Nat} {cs : List Value} (h : w.cells? base a m = some cs) : cs.length = m ∧ ∀ (j : Nat) v, cs[j]? = some v → w.cell? (a.add j) = some v := by
  unfold World.cells? at h
  split at h
  · obtain ⟨g1, g2⟩ := mapM_at h
    refine ⟨by simpa using g1.symm, fun j v hj => ?_⟩
    have hlt : j < (List.range m).length := by rw [g1]; exact (List.getElem?_eq_some_iff.1 hj).1
    exact g2 j j v (by rw [List.getElem?_eq_getElem hlt]; simp) hj
  · cases h

theorem IsF.slice {e : TypeId} {G : List D → Prop} (ht : P.underlying t = some (.slice e)) (hz : P.cellsOf e ≠ 0) (he : ∀ m, m < n → IsF P w m e G) (mk : List D → D) (hmk : ∀ xs, G xs → xs.length = P.cellsOf e → (mk xs).cells = xs) :
    IsF P w n t fun xs => ∃ es : List D, xs = [.sl es] ∧ es.length ≤ maxLen ∧ ∀ d ∈ es, ∃ ys, G ys ∧ ys.length = P.cellsOf e ∧ d = mk ys := by
  intro H enc base spare held cs x h
  rcases DataW.trod_slice ht h with ⟨rfl, _⟩ | ⟨a, len, cap, elems, rest, m, rfl, rfl, _, _, hl, hm, hlen, hel, _, _⟩
  · exact ⟨_, Rds.one (.slA _ _) rfl, [], rfl, by simp, by simp⟩
  · have key : ∀ i, i < len → ∃ cs', ∃ xs : List D, (cs'.length = P.cellsOf e ∧ ∀ (j : Nat) v, cs'[j]? = some v → w.cell? ((a.add (i * P.cellsOf e)).add j) = some v) ∧ Rds w cs' xs ∧ G xs := fun i hi => by
      have h1 := hel i hi
      rw [List.getElem?_eq_getElem (by omega), Option.bind_eq_some_iff] at h1
      obtain ⟨cs', h2, h3⟩ := h1
      obtain ⟨xs, h4, h5⟩ := he m (Nat.lt_succ_self m) H enc base spare held cs' _ h3
      exact ⟨cs', xs, cells_at h2, h4, h5⟩
    by_cases h0 : len = 0
    · subst h0
      exact ⟨_, Rds.one (.slA _ cap) rfl, [], rfl, by simp, by simp⟩
    · obtain ⟨b, o, rfl⟩ : ∃ b o, a = ad3 b o := by
        obtain ⟨cs', xs, ⟨h1, h2⟩, h3, h4⟩ := key 0 (by omega)
        have hlt : 0 < cs'.length := by omega
        have := h2 0 _ (List.getElem?_eq_getElem hlt)
        rw [Nat.zero_mul] at this
        have := World.cell?_spot this
        obtain ⟨b, o, sp⟩ := a
        cases sp with
        | none => exact ⟨b, o, rfl⟩
        | some s => simp [Addr.add] at this
      have hch : ∀ i, ∃ xs : List D, i < len → G xs ∧ xs.length = P.cellsOf e ∧ (∀ c ∈ xs, c.isCell = true) ∧ ∀ (j : Nat) c, xs[j]? = some c → ∃ v, w.cell? (ad3 b (o + i * P.cellsOf e + j)) = some v ∧ Rd anyB w v c := fun i => by
        by_cases hi : i < len
        · obtain ⟨cs', xs, ⟨h1, h2⟩, ⟨h3, h4, h5⟩, h6⟩ := key i hi
          refine ⟨xs, fun _ => ⟨h6, by omega, h4, fun j c hj => ?_⟩⟩
          have hlt : j < cs'.length := by rw [h3]; exact (List.getElem?_eq_some_iff.1 hj).1
          refine ⟨cs'[j], ?_, h5 j _ c (List.getElem?_eq_getElem hlt) hj⟩
          have := h2 j _ (List.getElem?_eq_getElem hlt)
          rw [ad3_add, ad3_add] at this
          exact this
        · exact ⟨[], fun h => absurd h hi⟩
      let es : List D := (List.range len).map fun i => mk (hch i).choose
      have hes : ∀ (i : Nat) d, es[i]? = some d → i < len ∧ d = mk (hch i).choose := fun i d hd => by
        simp only [es, List.getElem?_map, Option.map_eq_some_iff] at hd
        obtain ⟨j, h1, h2⟩ := hd
        have hlt := (List.getElem?_eq_some_iff.1 h1).1
        rw [List.getElem?_eq_getElem hlt] at h1
        simp at h1 hlt
        subst h1
        exact ⟨hlt, h2.symm⟩
      have hcell : ∀ i, i < len → (mk (hch i).choose).cells = (hch i).choose := fun i hi => hmk _ ((hch i).choose_spec hi).1 ((hch i).choose_spec hi).2.1
      refine ⟨[.sl es], Rds.one ?_ rfl, es, rfl, by simp [es]; omega, fun d hd => ?_⟩
      · have := Rd.sl_of (F := anyB) (w := w) (b := b) (o := o) (cap := cap) (z := P.cellsOf e) (es := es) (by simp [es]; omega) (fun d hd => ?_) (fun i d hi => ?_)
        · simpa [es] using this
        · obtain ⟨i, hi⟩ := List.getElem?_of_mem hd
          obtain ⟨h1, rfl⟩ := hes i d hi
          rw [hcell i h1]; exact ((hch i).choose_spec h1).2.1
        · obtain ⟨h1, rfl⟩ := hes i d hi
          have hs := (hch i).choose_spec h1
          refine ⟨by rw [hcell i h1]; exact hs.2.2.1, fun j c hj => ?_⟩
          rw [hcell i h1] at hj
          obtain ⟨v, q1, q2⟩ := hs.2.2.2 j c hj
          exact ⟨v, trivial, q1, q2⟩
      · obtain ⟨i, hi⟩ := List.getElem?_of_mem hd
        obtain ⟨h1, rfl⟩ := hes i d hi
        exact ⟨_, ((hch i).choose_spec h1).1, ((hch i).choose_spec h1).2.1, rfl⟩

end Go.Ev

/-! EvZs -/
/- From an answer to the row. Own work. -/
namespace Go.Ev
open Go Go.RowKit

variable {P : Program} {cfg : Cfg}

/-- nobody owns anything -/
def Cx.none : Cx := ⟨fun _ => Option.none, fun _ _ => 0⟩

theorem enters_none {ds : List D} {args : Array Value} {w : World} (hsz : args.size = ds.length) (hrd : ∀ (i : Nat) v d, args[i]? = some v → ds[i]? = some d → Rd anyB w v d)
    (hg : ∀ n e, cfg.glob n = some e → PtrAt anyB w n 0 e) (hgo : ∀ n ob, cfg.gobj n = some ob → HoldsG w n ob) : Enters cfg Cx.none (ds.map .d) [] args w := by
  have hF : freeB Cx.none = anyB := by funext b; simp [freeB, Cx.none]
  refine ⟨⟨rfl, rfl, fun b h => absurd rfl h, fun l v h => ?_, fun k v h => (by cases h), fun c v h => (by cases h), fun n e h => by rw [hF]; exact hg n e h, fun b h => ?_, fun n ob h => ⟨rfl, hgo n ob h⟩⟩, by simpa using hsz, fun i v y h1 h2 => ?_⟩
  · cases l <;> cases h
  · rcases h with h | ⟨_, h⟩ <;> cases h
  · rw [List.getElem?_map] at h2
    cases hd : ds[i]? with
    | none => rw [hd] at h2; cases h2
    | some d => rw [hd] at h2; cases h2; exact .d _ _ _ (by rw [hF]; exact hrd i v d h1 hd)

/-- an answer of the evaluator is the call's -/
theorem calls_of_evL (hm : P.follows .mixedOrders = true) (hC : CfgOk P cfg) (hF : FuncsOk P cfg) (hX : ExtOk P cfg) {f : FuncId} {F : Func} {c : Code} (hf : P.funcs[f]? = some F) (hname : (F.name == "runtime.NumGoroutine") = false) (hb : F.body = some c)
    {ds : List D} {y : D} (h : evL cfg f 0 (ds.map .d) [] = some (.d y, [])) {args : Array Value} {w : World} (hsz : args.size = ds.length) (hrd : ∀ (i : Nat) v d, args[i]? = some v → ds[i]? = some d → Rd anyB w v d)
    (hg : ∀ n e, cfg.glob n = some e → PtrAt anyB w n 0 e) (hgo : ∀ n ob, cfg.gobj n = some ob → HoldsG w n ob) : Calls P f args w fun e w' => ∃ v, e = .returned v ∧ Rd anyB w' v y ∧ Below w.heap.size w w' := by
  have hd := evL_ok hm hC hF hX f 0 _ [] _ _ h Cx.none w args (enters_none hsz hrd hg hgo)
  rcases hd with ⟨v, w', h1, _⟩ | ⟨_, h2⟩
  · rw [run_enter hf hname hb] at h1
    cases h1
  · refine h2.mono fun e w' he => ?_
    cases e with
    | returned v =>
      obtain ⟨x', L⟩ := he
      have hr : Rd (freeB x') w' v y := RdV.d_inv L.res
      exact ⟨v, rfl, hr.mono fun b o u _ h => ⟨trivial, h⟩, L.fr.io.1, L.fr.io.2.1, L.fr.io.2.2, L.fr.size, fun k hk => (L.fr.same k hk (.inl rfl)).1⟩
    | panicked c => exact he.elim
    | outgrown => exact he.elim

theorem calls_true (hm : P.follows .mixedOrders = true) (hC : CfgOk P cfg) (hF : FuncsOk P cfg) (hX : ExtOk P cfg) {f : FuncId} {F : Func} {c : Code} (hf : P.funcs[f]? = some F) (hname : (F.name == "runtime.NumGoroutine") = false) (hb : F.body = some c)
    {ds : List D} (h : evL cfg f 0 (ds.map .d) [] = some (.d (.bool true), [])) {args : Array Value} {w : World} (hsz : args.size = ds.length) (hrd : ∀ (i : Nat) v d, args[i]? = some v → ds[i]? = some d → Rd anyB w v d)
    (hg : ∀ n e, cfg.glob n = some e → PtrAt anyB w n 0 e) (hgo : ∀ n ob, cfg.gobj n = some ob → HoldsG w n ob) : Calls P f args w fun e w' => e = .returned (.bool true) ∧ Below w.heap.size w w' :=
  (calls_of_evL hm hC hF hX hf hname hb h hsz hrd hg hgo).mono fun e w' ⟨v, h1, h2, h3⟩ => ⟨by rw [h1, h2.bool_inv], h3⟩

/-! what is closed is reckoned -/

theorem evL_of_evFn {n : Nat} {f : FuncId} {d : Nat} {vs : List V} {m : List (Cel × V)} {r} (h : evFn cfg n f d vs m = some r) : evL cfg f d vs m = some r := evL_iff.2 ⟨n, h⟩

/-! the table of functions -/

/-- an entry of the table is the program's -/
def Entry (P : Program) (p : FuncId × IFunc) : Prop := ∃ F ad c, P.funcs[p.1]? = some F ∧ (F.name == "runtime.NumGoroutine") = false ∧ F.body = some c ∧ cFunc P ad F = some p.2

def Entries (P : Program) (l : List (FuncId × IFunc)) : Prop := ∀ p ∈ l, Entry P p
theorem Entries.nil : Entries P [] := fun _ h => by cases h
theorem Entries.cons {p : FuncId × IFunc} {l : List (FuncId × IFunc)} (h : Entry P p) (hl : Entries P l) : Entries P (p :: l) := fun q hq => by
  rcases List.mem_cons.1 hq with rfl | hq
  · exact h
  · exact hl q hq

theorem funcsOk_of {tbl : List (FuncId × IFunc)} (h : ∀ p ∈ tbl, Entry P p) (hc : cfg.funcs = lk tbl) : FuncsOk P cfg := fun f fn hf => by
  rw [hc] at hf
  exact h (f, fn) (lk_mem hf)

theorem Entry.mk' {F : Func} {f : FuncId} {fn : IFunc} {ad : Advice} {c : Code} (hf : P.funcs[f]? = some F) (hb : F.body = some c) (hn : (F.name == "runtime.NumGoroutine") = false) (hk : cFunc P ad F = some fn) : Entry P (f, fn) := ⟨F, ad, c, hf, hn, hb, hk⟩
theorem cFunc_body {F : Func} {fn : IFunc} {ad : Advice} (hk : cFunc P ad F = some fn) : ∃ c, F.body = some c := by
  unfold cFunc at hk
  split at hk
  · exact ⟨_, ‹_›⟩
  · cases hk
theorem Entry.of {F : Func} {f : FuncId} {fn : IFunc} {ad : Advice} (hf : P.funcs[f]? = some F) (hn : (F.name == "runtime.NumGoroutine") = false) (hk : cFunc P ad F = some fn) : Entry P (f, fn) := by
  obtain ⟨c, hb⟩ := cFunc_body hk
  exact .mk' hf hb hn hk

end Go.Ev

/-! EvZt -/
/- Library functions, as data. Own work. -/
namespace Go.Ev
open Go

/-- digits, most of them -/
def decF : Nat → Nat → List UInt8
  | 0, _ => []
  | n + 1, u => if u < 10 then [UInt8.ofNat (48 + u)] else decF n (u / 10) ++ [UInt8.ofNat (48 + u % 10)]

theorem decF_eq : ∀ (n u : Nat), u < 10 ^ (n + 1) → decF (n + 1) u = Lib.decDigits u
  | 0, u, h => by
    rw [decF, Lib.decDigits]
    simp at h
    rw [if_pos h, dif_pos h]
  | n + 1, u, h => by
    rw [decF, Lib.decDigits]
    by_cases h1 : u < 10
    · rw [if_pos h1, dif_pos h1]
    · rw [if_neg h1, dif_neg h1, decF_eq n (u / 10) (by rw [Nat.pow_succ] at h; omega)]

def itoaF (n : Int) : List UInt8 := if n < 0 then 45 :: decF 20 n.natAbs else decF 20 n.toNat
theorem itoaF_eq {n : Int} (h1 : -9223372036854775808 ≤ n) (h2 : n ≤ 9223372036854775807) : itoaF n = Lib.itoa n := by
  unfold itoaF Lib.itoa
  rw [decF_eq 19 _ (by omega), decF_eq 19 _ (by omega)]

/-! what library functions answer -/
def xItoa : List D → Option V
  | [.int .i64 n] => if -9223372036854775808 ≤ n ∧ n ≤ 9223372036854775807 then some (.d (.str (itoaF n))) else none
  | _ => none
def xRepeat : List D → Option V
  | [.str s, .int .i64 n] => if 0 ≤ n ∧ n ≤ 1000 ∧ s.length ≤ 1000 then some (.d (.str (Lib.repeatL s n.toNat))) else none
  | _ => none

/-! contracts of functions that are entered -/

/-- what a contract says of a function that is taken by it -/
def Gives (P : Program) (cfg : Cfg) (f : FuncId) (g : List D → Option V) : Prop :=
  ∀ ds r, g ds = some r → ∀ (F : Nat → Prop) (args : Array Value) (w : World), args.size = ds.length → (∀ (i : Nat) v d, args[i]? = some v → ds[i]? = some d → Rd F w v d) → (∀ n e, cfg.glob n = some e → PtrAt F w n 0 e) → (∀ n ob, cfg.gobj n = some ob → HoldsG w n ob) →
    Does P f args w fun v w' => w.heap.size ≤ w'.heap.size ∧ (∀ b, b < w.heap.size → w'.heap[b]? = w.heap[b]?) ∧ SameIO w w' ∧
      match r with
      | .own _ z es => ∃ b o cap, v = .slice (some (ad3 b o)) es.length cap ∧ w.heap.size ≤ b ∧ b < w'.heap.size ∧ es.length ≤ cap ∧ NoFz w' b ∧ Arr (fun b' => (F b' ∧ b' < w.heap.size) ∨ (w.heap.size ≤ b' ∧ b' ≠ b)) w' b o cap z es
      | .d y => Rd (fun b' => F b' ∨ w.heap.size ≤ b') w' v y
      | _ => False

theorem extOk_of {P : Program} {cfg : Cfg} (h : ∀ f g, cfg.ext f = some g → Gives P cfg f g) : ExtOk P cfg := fun f g hf ds r hr F args w h1 h2 h3 h4 => h f g hf ds r hr F args w h1 h2 h3 h4

open Go.RowKit in
/-- a function that hands back data without memory -/
theorem gives_of_calls {P : Program} {cfg : Cfg} {f : FuncId} {fn : Func} {c : Code} (hf : P.funcs[f]? = some fn) (hname : (fn.name == "runtime.NumGoroutine") = false) (hb : fn.body = some c) {g : List D → Option V}
    (h : ∀ ds r, g ds = some r → ∃ y, r = .d y ∧ y.plain = true ∧ ∀ (F : Nat → Prop) (args : Array Value) (w : World), args.size = ds.length → (∀ (i : Nat) v d, args[i]? = some v → ds[i]? = some d → Rd F w v d) → (∀ n ob, cfg.gobj n = some ob → HoldsG w n ob) →
      Calls P f args w fun e w' => ∃ v, e = .returned v ∧ Rd F w' v y ∧ Below w.heap.size w w') : Gives P cfg f g := by
  intro ds r hr F args w h1 h2 _ h4
  obtain ⟨y, rfl, hy, hc⟩ := h ds r hr
  refine .inr ⟨run_enter hf hname hb args w, (hc F args w h1 h2 h4).mono fun e w' ⟨v, e1, e2, e3⟩ => ?_⟩
  subst e1
  exact ⟨e3.size, fun b hb => e3.block b hb, ⟨e3.os, e3.tape, e3.output⟩, e2.plain hy⟩

theorem args_one {F : Nat → Prop} {w : World} {args : Array Value} {d : D} (h1 : args.size = [d].length) (h2 : ∀ (i : Nat) v d', args[i]? = some v → [d][i]? = some d' → Rd F w v d') : ∃ v, args = #[v] ∧ Rd F w v d := by
  obtain ⟨l⟩ := args
  match l, h1 with
  | [v], _ => exact ⟨v, rfl, h2 0 v d rfl rfl⟩
theorem args_two {F : Nat → Prop} {w : World} {args : Array Value} {d e : D} (h1 : args.size = [d, e].length) (h2 : ∀ (i : Nat) v d', args[i]? = some v → [d, e][i]? = some d' → Rd F w v d') : ∃ v u, args = #[v, u] ∧ Rd F w v d ∧ Rd F w u e := by
  obtain ⟨l⟩ := args
  match l, h1 with
  | [v, u], _ => exact ⟨v, u, rfl, h2 0 v d rfl rfl, h2 1 u e rfl rfl⟩

open Go.RowKit in
theorem gives_itoa {P : Program} {cfg : Cfg} {f : FuncId} {fn : Func} {c : Code} (hf : P.funcs[f]? = some fn) (hname : (fn.name == "runtime.NumGoroutine") = false) (hb : fn.body = some c)
    (h : ∀ (n : Int) (w : World), -9223372036854775808 ≤ n → n ≤ 9223372036854775807 → (∀ n ob, cfg.gobj n = some ob → HoldsG w n ob) →
      Calls P f #[.int .i64 n] w fun e w' => e = .returned (.string ⟨(Lib.itoa n).toArray⟩) ∧ Below w.heap.size w w') : Gives P cfg f xItoa := by
  refine gives_of_calls hf hname hb fun ds r hr => ?_
  unfold xItoa at hr
  split at hr
  · rename_i n
    split at hr
    · rename_i hn
      cases hr
      refine ⟨_, rfl, rfl, fun F args w h1 h2 h4 => ?_⟩
      obtain ⟨v, rfl, hv⟩ := args_one h1 h2
      cases hv.int_inv
      refine (h n w hn.1 hn.2 h4).mono fun e w' ⟨e1, e2⟩ => ⟨_, e1, ?_, e2⟩
      rw [itoaF_eq hn.1 hn.2]
      exact .str _
    · cases hr
  · cases hr

open Go.RowKit in
theorem gives_repeat {P : Program} {cfg : Cfg} {f : FuncId} {fn : Func} {c : Code} (hf : P.funcs[f]? = some fn) (hname : (fn.name == "runtime.NumGoroutine") = false) (hb : fn.body = some c)
    (h : ∀ (s : ByteArray) (n : Nat) (w : World), n ≤ 9223372036854775807 → s.size * n ≤ 140737488355328 →
      Calls P f #[.string s, .int .i64 n] w fun e w' => e = .returned (.string ⟨(Lib.repeatL s.data.toList n).toArray⟩) ∧ Below w.heap.size w w') : Gives P cfg f xRepeat := by
  refine gives_of_calls hf hname hb fun ds r hr => ?_
  unfold xRepeat at hr
  split at hr
  · rename_i s n
    split at hr
    · rename_i hn
      cases hr
      refine ⟨_, rfl, rfl, fun F args w h1 h2 h4 => ?_⟩
      obtain ⟨v, u, rfl, hv, hu⟩ := args_two h1 h2
      cases hv.str_inv
      cases hu.int_inv
      obtain ⟨m, rfl⟩ : ∃ m : Nat, n = m := ⟨n.toNat, by omega⟩
      refine (h ⟨s.toArray⟩ m w (by omega) ?_).mono fun e w' ⟨e1, e2⟩ => ⟨_, e1, ?_, e2⟩
      · have : (ByteArray.mk s.toArray).size = s.length := by simp [ByteArray.size]
        rw [this]
        have : s.length * m ≤ 1000 * 1000 := Nat.mul_le_mul hn.2.2 (by omega)
        omega
      · simpa using Rd.str (F := F) (w := w') (Lib.repeatL s m)
    · cases hr
  · cases hr

end Go.Ev

/-! EvZu -/
/- More rules for values. Own work. -/
namespace Go.Ev
open Go
@[go_sem] theorem bq_tt : ((true == true) = true) = True := by simp
@[go_sem] theorem bq_tf : ((true == false) = true) = False := by simp
@[go_sem] theorem bq_ft : ((false == true) = true) = False := by simp
@[go_sem] theorem bq_ff : ((false == false) = true) = True := by simp
variable (cfg : Cfg)
@[go_sem] theorem eqn_dd (c : ECls) (a b : D) : V.eqn cfg c (.d a) (.d b) = a.eqn cfg c b := by cases c <;> rfl
@[go_sem] theorem eqn_bool (a b : Bool) : D.eqn cfg .bool (.bool a) (.bool b) = some (a == b) := rfl
@[go_sem] theorem eqn_refn (d k o : Nat) : V.eqn cfg .ptr (.ref d k o) (.d .nilP) = some false := rfl
@[go_sem] theorem eqn_iptrn (e : D) (o : Nat) : V.eqn cfg .ptr (.iptr e o) (.d .nilP) = some false := rfl
@[go_sem] theorem eqn_brefn (l : Loc) (i o : Nat) : V.eqn cfg .ptr (.bref l i o) (.d .nilP) = some false := rfl
@[go_sem] theorem eqn_clon (f : FuncId) (a b : List V) : V.eqn cfg .func (.clo f a b) (.d .nilF) = some false := rfl
@[go_sem] theorem eqn_ifcn (t : TypeId) (v : V) : V.eqn cfg .iface (.ifc t v) (.d .nilI) = some false := rfl
@[go_sem] theorem deqn_pp : D.eqn cfg .ptr .nilP .nilP = some true := rfl
@[go_sem] theorem deqn_pn (e : D) : D.eqn cfg .ptr (.ptr e) .nilP = some false := rfl
@[go_sem] theorem deqn_np (e : D) : D.eqn cfg .ptr .nilP (.ptr e) = some false := rfl
@[go_sem] theorem deqn_ff : D.eqn cfg .func .nilF .nilF = some true := rfl
@[go_sem] theorem deqn_in (t : TypeId) (x : D) : D.eqn cfg .iface (.ifc t x) .nilI = some false := rfl
@[go_sem] theorem deqn_ni (t : TypeId) (x : D) : D.eqn cfg .iface .nilI (.ifc t x) = some false := rfl
end Go.Ev
