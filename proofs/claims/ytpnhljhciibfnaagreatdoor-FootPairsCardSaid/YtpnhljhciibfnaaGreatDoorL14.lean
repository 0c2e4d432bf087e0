/- The evaluator of Go code and its proofs, part 14. Own work. -/
import Derived.Test.YtpnhljhciibfnaaGreatDoorL13
import Derived.Sort.Grow
import Derived.Deep.Draws
set_option linter.unusedVariables false
set_option linter.unusedSimpArgs false
set_option linter.unusedSectionVars false
/-! EvGives -/
/- Library functions that are taken by their contracts: numbers as texts, texts joined, names. Own work. -/
namespace Go.Ev
open Go Go.RowKit

theorem strsOf_get : ∀ {es : List D} {l : List Tx}, strsOf? es = some l → es = l.map D.str
  | [], l, h => by cases h; rfl
  | e :: es, l, h => by
    unfold strsOf? at h
    split at h
    · rename_i he; cases he
    · rename_i b r he
      cases he
      simp only [Option.map_eq_some_iff] at h
      obtain ⟨l', h2, rfl⟩ := h
      rw [List.map_cons, ← strsOf_get h2]
    · cases h
section
variable {F : Nat → Prop} {w : World}
/-- where strings lie -/
theorem Rd.strs_at {v : Value} {l : List Tx} (h : Rd F w v (.sl (l.map D.str))) : (l = [] ∧ ∃ ad cap, v = .slice ad 0 cap) ∨ (l ≠ [] ∧ ∃ b o cap, v = .slice (some (ad3 b o)) l.length cap ∧ l.length ≤ cap ∧ b < w.heap.size ∧ ∀ (j : Nat) x, l[j]? = some x → w.cell? (ad3 b (o + j)) = some (.string ⟨x.toArray⟩)) := by
  generalize hd : l.map D.str = es at h
  cases h with
  | slA ad cap => exact .inl ⟨by simpa using hd, ad, cap, rfl⟩
  | sl b o len cap z es vs hlen hcap hz hc hm hr =>
    subst hd
    rw [List.length_map] at hlen
    subst hlen
    cases l with
    | nil => exact .inl ⟨rfl, _, _, rfl⟩
    | cons y r =>
      have hz1 : z = 1 := (hz (.str y) (by simp)).symm
      subst hz1
      have hcell : ∀ (j : Nat) x, (y :: r)[j]? = some x → w.cell? (ad3 b (o + j)) = some (.string ⟨x.toArray⟩) := fun j x hj => by
        have he : ((y :: r).map D.str)[j]? = some (.str x) := by rw [List.getElem?_map, hj]; rfl
        have h1 := hm j _ he 0 (.str x) rfl
        have h2 := hr j _ he 0 (.str x) rfl
        have h3 : vs j 0 = .string ⟨x.toArray⟩ := h2.str_inv
        rw [h3] at h1
        simpa using h1.2
      refine .inr ⟨by simp, b, o, cap, rfl, hcap, ?_, hcell⟩
      have := World.block_lt_of_cell? _ _ (hcell 0 y rfl)
      simpa using this
end

variable {P : Program} {cfg : Cfg} {f : FuncId} {fn : Func} {c : Code} (hf : P.funcs[f]? = some fn) (hname : (fn.name == "runtime.NumGoroutine") = false) (hb : fn.body = some c)
include hf hname hb

theorem gives_names (h0 : ∀ (a : Option Addr) (c : Nat) (w : World), Calls P f #[.slice a 0 c] w fun e w' => e = .returned (.bool true) ∧ Below w.heap.size w w')
    (h : ∀ (b o c : Nat) (l : List Tx) (w : World), l.length ≤ 1000000 → l.length ≤ c → b < w.heap.size → (∀ (j : Nat) x, l[j]? = some x → w.cell? ⟨b, o + j, none⟩ = some (.string ⟨x.toArray⟩)) →
      Calls P f #[.slice (some ⟨b, o, none⟩) l.length c] w fun e w' => e = .returned (.bool (namesOk [] l)) ∧ Below w.heap.size w w') : Gives P cfg f xNames := by
  refine gives_of_calls hf hname hb fun ds r hr => ?_
  unfold xNames at hr
  split at hr
  · rename_i es
    simp only [Option.bind_eq_some_iff] at hr
    obtain ⟨l, hl, hr⟩ := hr
    split at hr
    · rename_i hn
      cases hr
      refine ⟨_, rfl, rfl, fun F args w h1 h2 h4 => ?_⟩
      obtain ⟨v, rfl, hv⟩ := args_one h1 h2
      rw [strsOf_get hl] at hv
      rcases hv.strs_at with ⟨rfl, ad, cap, rfl⟩ | ⟨hne, b, o, cap, rfl, hcap, hblk, hcell⟩
      · exact (h0 ad cap w).mono fun e w' ⟨e1, e2⟩ => ⟨_, e1, .bool _, e2⟩
      · exact (h b o cap l w hn hcap hblk hcell).mono fun e w' ⟨e1, e2⟩ => ⟨_, e1, .bool _, e2⟩
    · cases hr
  · cases hr
end Go.Ev

/-! EvAuto -/
/- Functions whose code is reckoned when it is asked for; functions that are ranged over, as data. Own work. -/
namespace Go.Ev
open Go

structure AF where
  f : FuncId
  F : Func
  ad : Advice

def autoL (P : Program) : List AF → FuncId → Option IFunc
  | [], _ => none
  | a :: r, f => if a.f = f then cFunc P a.ad a.F else autoL P r f

def AOk (P : Program) (a : AF) : Prop := P.funcs[a.f]? = some a.F ∧ (a.F.name == "runtime.NumGoroutine") = false
def ATab (P : Program) (l : List AF) : Prop := ∀ a ∈ l, AOk P a
theorem ATab.nil {P : Program} : ATab P [] := fun _ h => by cases h
theorem ATab.cons {P : Program} {f : FuncId} {F : Func} {ad : Advice} {l : List AF} (h : P.funcs[f]? = some F) (hn : (F.name == "runtime.NumGoroutine") = false) (hl : ATab P l) : ATab P (⟨f, F, ad⟩ :: l) := fun q hq => by
  rcases List.mem_cons.1 hq with rfl | hq
  · exact ⟨h, hn⟩
  · exact hl q hq

theorem autoL_ok {P : Program} : ∀ {l : List AF}, ATab P l → ∀ {f : FuncId} {fn : IFunc}, autoL P l f = some fn → ∃ F ad c, P.funcs[f]? = some F ∧ (F.name == "runtime.NumGoroutine") = false ∧ F.body = some c ∧ cFunc P ad F = some fn
  | [], _, _, _, h => by cases h
  | a :: l, hl, f, fn, h => by
    unfold autoL at h
    split at h
    · rename_i e
      obtain ⟨h1, h2⟩ := hl a (by simp)
      subst e
      cases hb : a.F.body with
      | none => unfold cFunc at h; rw [hb] at h; cases h
      | some c => exact ⟨a.F, a.ad, c, h1, h2, hb, h⟩
    · exact autoL_ok (fun q hq => hl q (List.mem_cons_of_mem _ hq)) h

/-- printed code ahead, reckoned code behind it -/
def fnsOf (P : Program) (tbl : List (FuncId × IFunc)) (tab : List AF) (f : FuncId) : Option IFunc := match lk tbl f with
  | some fn => some fn
  | none => autoL P tab f

/-! functions that are ranged over -/
def xSeq (g : FuncId) : List D → Option V
  | [.sl es] => some (.clo g [] [.d (.ptr (.sl es))])
  | _ => none
def pairsFrom : Nat → List D → List (List D)
  | _, [] => []
  | i, x :: r => [.int .i64 i, x] :: pairsFrom (i + 1) r
def iAll : List D → Option (List (List D))
  | [.ptr (.sl es)] => some (pairsFrom 0 es)
  | _ => none
/-- elements of z cells -/
def aggN (z : Nat) : D → Bool
  | .agg ds => ds.length == z
  | _ => false
def iBackA (z : Nat) : List D → Option (List (List D))
  | [.ptr (.sl es)] => if es.all (aggN z) = true ∧ es.length ≤ 1000000000 then some (pairsFrom 0 es).reverse else none
  | _ => none
end Go.Ev

/-! EvMemo -/
/- Reckoning with calls that are known already. Own work. -/
namespace Go.Ev
open Go

mutual
def D.eqb : D → D → Bool
  | .bool a, .bool b => a == b
  | .int k a, .int j b => decide (k = j) && decide (a = b)
  | .str a, .str b => decide (a = b)
  | .nilS, .nilS => true
  | .nilP, .nilP => true
  | .nilI, .nilI => true
  | .nilF, .nilF => true
  | .nilM, .nilM => true
  | .sl a, .sl b => D.eqbs a b
  | .agg a, .agg b => D.eqbs a b
  | .ptr a, .ptr b => a.eqb b
  | .ifc t a, .ifc u b => decide (t = u) && a.eqb b
  | .fn a, .fn b => decide (a = b)
  | .tup a, .tup b => D.eqbs a b
  | _, _ => false
def D.eqbs : List D → List D → Bool
  | [], [] => true
  | a :: r, b :: s => a.eqb b && D.eqbs r s
  | _, _ => false
end
mutual
theorem D.eqb_eq : ∀ {a b : D}, a.eqb b = true → a = b
  | .bool _, b, h => by cases b <;> simp_all [D.eqb]
  | .int _ _, b, h => by cases b <;> simp_all [D.eqb]
  | .str _, b, h => by cases b <;> simp_all [D.eqb]
  | .nilS, b, h => by cases b <;> simp_all [D.eqb]
  | .nilP, b, h => by cases b <;> simp_all [D.eqb]
  | .nilI, b, h => by cases b <;> simp_all [D.eqb]
  | .nilF, b, h => by cases b <;> simp_all [D.eqb]
  | .nilM, b, h => by cases b <;> simp_all [D.eqb]
  | .sl es, b, h => by
    cases b <;> simp only [D.eqb, Bool.false_eq_true] at h
    rw [D.eqbs_eq h]
  | .agg es, b, h => by
    cases b <;> simp only [D.eqb, Bool.false_eq_true] at h
    rw [D.eqbs_eq h]
  | .ptr e, b, h => by
    cases b <;> simp only [D.eqb, Bool.false_eq_true] at h
    rw [D.eqb_eq h]
  | .ifc t e, b, h => by
    cases b <;> simp only [D.eqb, Bool.false_eq_true, Bool.and_eq_true, decide_eq_true_eq] at h
    rw [h.1, D.eqb_eq h.2]
  | .fn _, b, h => by cases b <;> simp_all [D.eqb]
  | .tup es, b, h => by
    cases b <;> simp only [D.eqb, Bool.false_eq_true] at h
    rw [D.eqbs_eq h]
  | .unk, b, h => by cases b <;> simp [D.eqb] at h
  | .unkB, b, h => by cases b <;> simp [D.eqb] at h
theorem D.eqbs_eq : ∀ {a b : List D}, D.eqbs a b = true → a = b
  | [], [], _ => rfl
  | [], _ :: _, h => by simp [D.eqbs] at h
  | _ :: _, [], h => by simp [D.eqbs] at h
  | a :: r, b :: s, h => by
    simp only [D.eqbs, Bool.and_eq_true] at h
    rw [D.eqb_eq h.1, D.eqbs_eq h.2]
end

abbrev Memo := List (FuncId × List D × V)
def memoOf : Memo → FuncId → List D → Option V
  | [], _, _ => none
  | (g, ds, v) :: r, f, xs => if g = f then (if D.eqbs ds xs then some v else memoOf r f xs) else memoOf r f xs
def memoAt (tb : Memo) (f : FuncId) : Nat → List V → List (Cel × V) → Option V
  | 0, vs, [] => (allD vs).bind (memoOf tb f)
  | _, _, _ => none
/-- as evFn; calls that are known are taken as they are -/
def evFnM (cfg : Cfg) (tb : Memo) : Nat → Orc
  | 0 => fun _ _ _ _ => none
  | n + 1 => fun f dep vs m => match memoAt tb f dep vs m with
    | some v => some (v, [])
    | none => match cfg.ext f with
      | some g => ((allD vs).bind g).map fun v => (v, m)
      | none => match cfg.funcs f with
        | some fn => evBody cfg (evFnM cfg tb n) n fn dep vs m
        | none => none
def MemoOk (cfg : Cfg) (tb : Memo) : Prop := ∀ e ∈ tb, evL cfg e.1 0 (e.2.1.map .d) [] = some (e.2.2, [])
theorem MemoOk.nil {cfg : Cfg} : MemoOk cfg [] := fun _ h => by cases h
theorem MemoOk.cons {cfg : Cfg} {f : FuncId} {ds : List D} {v : V} {tb : Memo} (h : evL cfg f 0 (ds.map .d) [] = some (v, [])) (ht : MemoOk cfg tb) : MemoOk cfg ((f, ds, v) :: tb) := fun e he => by
  rcases List.mem_cons.1 he with rfl | he
  · exact h
  · exact ht e he
theorem memoOf_mem : ∀ {tb : Memo} {f : FuncId} {xs : List D} {v : V}, memoOf tb f xs = some v → (f, xs, v) ∈ tb
  | [], _, _, _, h => by cases h
  | (g, ds, u) :: r, f, xs, v, h => by
    unfold memoOf at h
    split at h
    · rename_i e
      split at h
      · rename_i e2
        cases h
        rw [e, D.eqbs_eq e2]
        exact List.mem_cons_self
      · exact List.mem_cons_of_mem _ (memoOf_mem h)
    · exact List.mem_cons_of_mem _ (memoOf_mem h)
theorem allD_map : ∀ {vs : List V} {ds : List D}, allD vs = some ds → vs = ds.map .d
  | [], ds, h => by cases h; rfl
  | .d x :: r, ds, h => by
    simp only [allD] at h
    cases hr : allD r with
    | none => rw [hr] at h; cases h
    | some es => rw [hr] at h; cases h; rw [allD_map hr]; rfl
  | .own _ _ _ :: _, _, h => by cases h
  | .bor _ _ _ :: _, _, h => by cases h
  | .bref _ _ _ :: _, _, h => by cases h
  | .iptr _ _ :: _, _, h => by cases h
  | .ref _ _ _ :: _, _, h => by cases h
  | .clo _ _ _ :: _, _, h => by cases h
  | .ifc _ _ :: _, _, h => by cases h
  | .vec _ :: _, _, h => by cases h
  | .vref _ :: _, _, h => by cases h
  | .rcd _ :: _, _, h => by cases h
  | .junk :: _, _, h => by cases h
theorem evFnM_le {cfg : Cfg} {tb : Memo} (ok : MemoOk cfg tb) : ∀ n, Le (evFnM cfg tb n) (evL cfg)
  | 0 => fun _ _ _ _ _ h => by cases h
  | n + 1 => fun f dep vs m r h => by
    simp only [evFnM] at h
    split at h
    · rename_i v hm
      cases h
      unfold memoAt at hm
      split at hm
      · cases hd : allD vs with
        | none => rw [hd] at hm; cases hm
        | some ds =>
          rw [hd] at hm
          rw [allD_map hd]
          exact ok _ (memoOf_mem hm)
      · cases hm
    · split at h
      · rename_i g hx
        rw [evL_ext hx]; exact h
      · rename_i hx
        split at h
        · rename_i fn hf
          rw [evL_fn hx hf]
          have h2 := evBody_le (evFnM_le ok n) (Nat.le_refl n) h
          unfold evBody at h2
          unfold evB
          split at h2
          · rename_i hc
            rw [if_pos hc]
            split at h2
            · rename_i s h1
              rw [evC_iff.2 ⟨n, h1⟩]
              exact h2
            · rename_i s h1
              rw [evC_iff.2 ⟨n, h1⟩]
              exact h2
            · cases h2
          · cases h2
        · cases h
theorem evL_of_memo {cfg : Cfg} {tb : Memo} (ok : MemoOk cfg tb) {n : Nat} {f : FuncId} {d : Nat} {vs : List V} {m : List (Cel × V)} {r} (h : evFnM cfg tb n f d vs m = some r) : evL cfg f d vs m = some r := evFnM_le ok n _ _ _ _ _ h
end Go.Ev

/-! PlPb -/
/- Fields on a wire, in plain words. Own work. -/
namespace Go.Ev
open Go

structure Fld where
  num : Nat
  wire : Nat
  u : Nat
  b : List UInt8
  pl : Nat
def fld0 : Fld := ⟨0, 0, 0, [], 0⟩
def Fld.d (f : Fld) : D := .agg [.int .i64 (f.num : Int), .int .i64 (f.wire : Int), .int .u64 (f.u : Int), .sl (f.b.map byteD), .int .i64 (f.pl : Int)]

/-- the lowest byte first -/
def leN : List UInt8 → Nat
  | [] => 0
  | c :: r => c.toNat + 256 * leN r
/-- a field at a place: it, its bytes, what is wrong -/
def fieldM (l : List UInt8) (p : Nat) : Fld × Nat × Nat :=
  let k := varM 0 0 (l.drop p)
  if k.2.2 ≠ 0 then (fld0, 0, k.2.2) else
  if k.1 / 8 < 1 ∨ k.1 / 8 > 536870911 then (fld0, 0, 2) else
  if k.1 % 8 = 0 then
    let v := varM 0 0 (l.drop (p + k.2.1))
    if v.2.2 ≠ 0 then (fld0, 0, v.2.2) else (⟨k.1 / 8, 0, v.1, [], p⟩, k.2.1 + v.2.1, 0)
  else if k.1 % 8 = 2 then
    let v := varM 0 0 (l.drop (p + k.2.1))
    if v.2.2 ≠ 0 then (fld0, 0, v.2.2) else
    if v.1 > l.length - p - (k.2.1 + v.2.1) then (fld0, 0, 3) else (⟨k.1 / 8, 2, 0, (l.drop (p + (k.2.1 + v.2.1))).take v.1, p⟩, k.2.1 + v.2.1 + v.1, 0)
  else if k.1 % 8 = 1 then
    if 8 > l.length - p - k.2.1 then (fld0, 0, 3) else (⟨k.1 / 8, 1, leN ((l.drop (p + k.2.1)).take 8), [], p⟩, k.2.1 + 8, 0)
  else if k.1 % 8 = 5 then
    if 4 > l.length - p - k.2.1 then (fld0, 0, 3) else (⟨k.1 / 8, 5, leN ((l.drop (p + k.2.1)).take 4), [], p⟩, k.2.1 + 4, 0)
  else (fld0, 0, 2)

def parseN (l : List UInt8) : Nat → Nat → List Fld → List Fld × Nat
  | 0, _, _ => ([], 0)
  | n + 1, p, acc =>
    if p < l.length then
      if 4096 ≤ acc.length then ([], 4) else
      if (fieldM l p).2.2 ≠ 0 then ([], (fieldM l p).2.2) else parseN l n (p + (fieldM l p).2.1) (acc ++ [(fieldM l p).1])
    else (acc, 0)
def parseM (l : List UInt8) : List Fld × Nat := if l.length > 262144 then ([], 4) else parseN l (l.length + 1) 0 []

/-- what may be said of a field that has been read -/
theorem var_fits {l : List UInt8} {p : Nat} (h : (varM 0 0 (l.drop p)).2.2 = 0) (hp : p ≤ l.length) : (varM 0 0 (l.drop p)).1 < 18446744073709551616 ∧ 1 ≤ (varM 0 0 (l.drop p)).2.1 ∧ p + (varM 0 0 (l.drop p)).2.1 ≤ l.length ∧ (varM 0 0 (l.drop p)).2.1 ≤ 10 := by
  obtain ⟨h1, h2, h3, h4, h5⟩ := varM_ok (l.drop p) 0 0 (by omega) (by simp)
  simp only [List.length_drop] at h2
  exact ⟨h1, h5 h, by omega, h3⟩
end Go.Ev

/-! PlSf -/
/- A stripe's footer, in plain words. Own work. -/
namespace Go.Ev
open Go

def uintF (num v : Nat) : List UInt8 := varB 10 (num * 8) ++ varB 10 v
def bytesF (num : Nat) (v : List UInt8) : List UInt8 := varB 10 (num * 8 + 2) ++ varB 10 v.length ++ v
theorem varB_pos (u : Nat) : 1 ≤ (varB 10 u).length := by
  unfold varB
  split <;> simp
theorem uintF_len (k v : Nat) : 1 ≤ (uintF k v).length ∧ (uintF k v).length ≤ 20 := by
  unfold uintF
  have := varB_len 10 (k * 8)
  have := varB_len 10 v
  have := varB_pos (k * 8)
  simp; omega
theorem bytesF_len (k : Nat) (v : List UInt8) : 1 ≤ (bytesF k v).length ∧ (bytesF k v).length ≤ 20 + v.length := by
  unfold bytesF
  have := varB_len 10 (k * 8 + 2)
  have := varB_len 10 v.length
  have := varB_pos (k * 8 + 2)
  simp; omega

/-- a field, as it is put -/
inductive Put where
  | u (num v : Nat)
  | b (num : Nat) (v : List UInt8)
def Put.ok : Put → Prop
  | .u num v => 1 ≤ num ∧ num ≤ 536870911 ∧ v < 18446744073709551616
  | .b num _ => 1 ≤ num ∧ num ≤ 536870911
def Put.bytes : Put → List UInt8
  | .u num v => uintF num v
  | .b num v => bytesF num v
def Put.fld (p : Nat) : Put → Fld
  | .u num v => ⟨num, 0, v, [], p⟩
  | .b num v => ⟨num, 2, 0, v, p⟩
theorem Put.pos (x : Put) : 1 ≤ x.bytes.length := by
  cases x with
  | u num v => exact (uintF_len num v).1
  | b num v => exact (bytesF_len num v).1

theorem field_put {l rest : List UInt8} {p : Nat} {x : Put} (hx : x.ok) (hl : l.length ≤ 262144) (h : l.drop p = x.bytes ++ rest) : fieldM l p = (x.fld p, x.bytes.length, 0) := by
  have hlen : (x.bytes ++ rest).length = l.length - p := by rw [← h, List.length_drop]
  have hpos := x.pos
  rw [List.length_append] at hlen
  have hd : ∀ a b, x.bytes = a ++ b → l.drop (p + a.length) = b ++ rest := fun a b e => by
    rw [← List.drop_drop, h, e, List.append_assoc, List.drop_left]
  unfold fieldM
  simp only
  cases x with
  | u num v =>
    obtain ⟨h1, h2, h3⟩ := hx
    have e1 : varM 0 0 (l.drop p) = (num * 8, (varB 10 (num * 8)).length, 0) := by
      rw [h, Put.bytes, uintF, List.append_assoc]
      exact varM_back (by omega) _
    have e2 : varM 0 0 (l.drop (p + (varB 10 (num * 8)).length)) = (v, (varB 10 v).length, 0) := by
      rw [hd (varB 10 (num * 8)) (varB 10 v) rfl]
      exact varM_back h3 _
    rw [e1]
    simp only [ne_eq, not_true_eq_false, if_false]
    rw [if_neg (by omega), if_pos (by omega), e2]
    simp only [not_true_eq_false, if_false]
    rw [Put.fld, Put.bytes, uintF, List.length_append, Nat.mul_div_cancel _ (by omega)]
  | b num v =>
    obtain ⟨h1, h2⟩ := hx
    have hv : v.length ≤ 262144 := by
      have : v.length ≤ (Put.b num v).bytes.length := by simp [Put.bytes, bytesF]; omega
      omega
    have e1 : varM 0 0 (l.drop p) = (num * 8 + 2, (varB 10 (num * 8 + 2)).length, 0) := by
      rw [h, Put.bytes, bytesF, List.append_assoc, List.append_assoc]
      exact varM_back (by omega) _
    have e2 : varM 0 0 (l.drop (p + (varB 10 (num * 8 + 2)).length)) = (v.length, (varB 10 v.length).length, 0) := by
      rw [hd (varB 10 (num * 8 + 2)) (varB 10 v.length ++ v) (by simp [Put.bytes, bytesF]), List.append_assoc]
      exact varM_back (by omega) _
    have e3 : (l.drop (p + ((varB 10 (num * 8 + 2)).length + (varB 10 v.length).length))).take v.length = v := by
      have := hd (varB 10 (num * 8 + 2) ++ varB 10 v.length) v (by simp [Put.bytes, bytesF])
      rw [List.length_append] at this
      rw [this, List.take_left]
    rw [e1]
    simp only [ne_eq, not_true_eq_false, if_false]
    rw [if_neg (by omega), if_neg (by omega), if_pos (by omega), e2]
    simp only [not_true_eq_false, if_false]
    have hb : (Put.b num v).bytes.length = (varB 10 (num * 8 + 2)).length + (varB 10 v.length).length + v.length := by
      simp [Put.bytes, bytesF]; omega
    rw [if_neg (by omega), e3, Put.fld, hb, show (num * 8 + 2) / 8 = num by omega]

/-- what of a field counts -/
def Fld.core (f : Fld) : Nat × Nat × Nat × List UInt8 := (f.num, f.wire, f.u, f.b)
def Put.core (x : Put) : Nat × Nat × Nat × List UInt8 := (x.fld 0).core
theorem Put.core_fld (x : Put) (p : Nat) : (x.fld p).core = x.core := by cases x <;> rfl
def putB (xs : List Put) : List UInt8 := (xs.map Put.bytes).flatten
theorem putB_cons (x : Put) (xs : List Put) : putB (x :: xs) = x.bytes ++ putB xs := rfl
theorem putB_append (xs ys : List Put) : putB (xs ++ ys) = putB xs ++ putB ys := by simp [putB]

theorem parse_put {l : List UInt8} (hl : l.length ≤ 262144) : ∀ (xs : List Put) (n p : Nat) (acc : List Fld), (∀ x ∈ xs, x.ok) → l.drop p = putB xs → p ≤ l.length → l.length - p < n → acc.length + xs.length ≤ 4096 →
    ∃ fs, parseN l n p acc = (acc ++ fs, 0) ∧ fs.map Fld.core = xs.map Put.core
  | xs, 0, p, acc, _, _, _, hn, _ => absurd hn (Nat.not_lt_zero _)
  | [], n + 1, p, acc, hx, h, hp, hn, hc => by
    have : l.length ≤ p := by simpa [putB] using h
    refine ⟨[], ?_, rfl⟩
    rw [parseN, if_neg (by omega), List.append_nil]
  | x :: xs, n + 1, p, acc, hx, h, hp, hn, hc => by
    rw [putB_cons] at h
    have hpos := x.pos
    have hlen : (x.bytes ++ putB xs).length = l.length - p := by rw [← h, List.length_drop]
    rw [List.length_append] at hlen
    have hf := field_put (hx x (by simp)) hl h
    have hd : l.drop (p + x.bytes.length) = putB xs := by rw [← List.drop_drop, h, List.drop_left]
    simp only [List.length_cons] at hc
    obtain ⟨fs, g1, g2⟩ := parse_put hl xs n (p + x.bytes.length) (acc ++ [x.fld p]) (fun y hy => hx y (by simp [hy])) hd (by omega) (by omega) (by simp; omega)
    refine ⟨x.fld p :: fs, ?_, by rw [List.map_cons, List.map_cons, g2, x.core_fld]⟩
    rw [parseN, if_pos (by omega), if_neg (by omega), hf]
    simp only [ne_eq, not_true_eq_false, if_false]
    rw [g1, List.append_assoc]
    rfl
/-- fields that are put are read -/
theorem parseM_put (xs : List Put) (hx : ∀ x ∈ xs, x.ok) (hl : (putB xs).length ≤ 262144) (hn : xs.length ≤ 4096) : ∃ fs, parseM (putB xs) = (fs, 0) ∧ fs.map Fld.core = xs.map Put.core := by
  obtain ⟨fs, h1, h2⟩ := parse_put hl xs ((putB xs).length + 1) 0 [] hx rfl (by omega) (by omega) (by simpa using hn)
  refine ⟨fs, ?_, h2⟩
  unfold parseM
  rw [if_neg (by omega), h1]
  rfl

def isF (num wire : Nat) (f : Fld) : Bool := f.num == num && f.wire == wire
def lastM (fs : List Fld) (num wire : Nat) : Option Fld := fs.reverse.find? (isF num wire)
def uM (fs : List Fld) (k : Nat) : Nat := ((lastM fs k 0).getD fld0).u
def uC (cs : List (Nat × Nat × Nat × List UInt8)) (k : Nat) : Nat := match cs.reverse.find? fun c => c.1 == k && c.2.1 == 0 with
  | some c => c.2.2.1
  | none => 0
theorem uM_core (fs : List Fld) (k : Nat) : uM fs k = uC (fs.map Fld.core) k := by
  unfold uM uC lastM
  rw [← List.map_reverse, List.find?_map]
  have : ((fun c : Nat × Nat × Nat × List UInt8 => c.1 == k && c.2.1 == 0) ∘ Fld.core) = isF k 0 := rfl
  rw [this]
  cases fs.reverse.find? (isF k 0) <;> rfl

abbrev Pl := Nat × Nat × Nat
/-- a place, an encoding, as they are put -/
def plU (p : Pl) : List Put := [.u 1 p.1, .u 2 p.2.1, .u 3 p.2.2]
def enU (e : Nat × Nat) : List Put := if e.2 = 0 then [.u 1 e.1] else [.u 1 e.1, .u 2 e.2]
def plP (p : Pl) : Put := .b 1 (putB (plU p))
def enP (e : Nat × Nat) : Put := .b 2 (putB (enU e))
def plOk (p : Pl) : Prop := p.1 ≤ 262144 ∧ p.2.1 ≤ 262144 ∧ p.2.2 ≤ 262144
def enOk (e : Nat × Nat) : Prop := e.1 ≤ 262144 ∧ e.2 ≤ 262144
theorem putB_len : ∀ (xs : List Put) (n : Nat), (∀ x ∈ xs, x.bytes.length ≤ n) → (putB xs).length ≤ n * xs.length
  | [], n, h => by simp [putB]
  | x :: xs, n, h => by
    rw [putB_cons, List.length_append, List.length_cons, Nat.mul_add, Nat.mul_one]
    have h1 := h x (by simp)
    have h2 := putB_len xs n (fun y hy => h y (by simp [hy]))
    omega
/-- footers' fields, mixed: places, encodings, others -/
inductive Item where
  | p (p : Pl)
  | e (e : Nat × Nat)
  | z (num : Nat) (v : List UInt8)
def Item.put : Item → Put
  | .p a => plP a
  | .e a => enP a
  | .z num v => .b num v
def Item.ok : Item → Prop
  | .p a => plOk a
  | .e a => enOk a
  | .z num _ => 3 ≤ num ∧ num ≤ 536870911
def Item.ps : Item → List Pl
  | .p a => [a]
  | .e _ => []
  | .z _ _ => []
def Item.es : Item → List (Nat × Nat)
  | .p _ => []
  | .e a => [a]
  | .z _ _ => []
end Go.Ev
