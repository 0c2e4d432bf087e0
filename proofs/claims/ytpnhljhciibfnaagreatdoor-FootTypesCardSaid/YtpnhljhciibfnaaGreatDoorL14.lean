/- The evaluator of Go code and its proofs, part 14. Own work. -/
import Derived.Test.YtpnhljhciibfnaaGreatDoorL13
import Derived.Sort.Grow
import Derived.Deep.Draws
set_option linter.unusedVariables false
set_option linter.unusedSimpArgs false
set_option linter.unusedSectionVars false
/-! EvGives -/
/- Library functions that are taken by their contracts: numbers as texts, texts joined, names. Own work. -/
namespace Go.Ev
open Go Go.RowKit

theorem strsOf_get : ∀ {es : List D} {l : List Tx}, strsOf? es = some l → es = l.map D.str
  | [], l, h => by cases h; rfl
  | e :: es, l, h => by
    unfold strsOf? at h
    split at h
    · rename_i he; cases he
    · rename_i b r he
      cases he
      simp only [Option.map_eq_some_iff] at h
      obtain ⟨l', h2, rfl⟩ := h
      rw [List.map_cons, ← strsOf_get h2]
    · cases h
theorem strsOf_map : ∀ l : List Tx, strsOf? (l.map D.str) = some l
  | [] => rfl
  | x :: l => by rw [List.map_cons, strsOf?, strsOf_map l]; rfl
section
variable {F : Nat → Prop} {w : World}
/-- where strings lie -/
theorem Rd.strs_at {v : Value} {l : List Tx} (h : Rd F w v (.sl (l.map D.str))) : (l = [] ∧ ∃ ad cap, v = .slice ad 0 cap) ∨ (l ≠ [] ∧ ∃ b o cap, v = .slice (some (ad3 b o)) l.length cap ∧ l.length ≤ cap ∧ b < w.heap.size ∧ ∀ (j : Nat) x, l[j]? = some x → w.cell? (ad3 b (o + j)) = some (.string ⟨x.toArray⟩)) := by
  generalize hd : l.map D.str = es at h
  cases h with
  | slA ad cap => exact .inl ⟨by simpa using hd, ad, cap, rfl⟩
  | sl b o len cap z es vs hlen hcap hz hc hm hr =>
    subst hd
    rw [List.length_map] at hlen
    subst hlen
    cases l with
    | nil => exact .inl ⟨rfl, _, _, rfl⟩
    | cons y r =>
      have hz1 : z = 1 := (hz (.str y) (by simp)).symm
      subst hz1
      have hcell : ∀ (j : Nat) x, (y :: r)[j]? = some x → w.cell? (ad3 b (o + j)) = some (.string ⟨x.toArray⟩) := fun j x hj => by
        have he : ((y :: r).map D.str)[j]? = some (.str x) := by rw [List.getElem?_map, hj]; rfl
        have h1 := hm j _ he 0 (.str x) rfl
        have h2 := hr j _ he 0 (.str x) rfl
        have h3 : vs j 0 = .string ⟨x.toArray⟩ := h2.str_inv
        rw [h3] at h1
        simpa using h1.2
      refine .inr ⟨by simp, b, o, cap, rfl, hcap, ?_, hcell⟩
      have := World.block_lt_of_cell? _ _ (hcell 0 y rfl)
      simpa using this
end

variable {P : Program} {cfg : Cfg} {f : FuncId} {fn : Func} {c : Code} (hf : P.funcs[f]? = some fn) (hname : (fn.name == "runtime.NumGoroutine") = false) (hb : fn.body = some c)
include hf hname hb

theorem gives_names (h0 : ∀ (a : Option Addr) (c : Nat) (w : World), Calls P f #[.slice a 0 c] w fun e w' => e = .returned (.bool true) ∧ Below w.heap.size w w')
    (h : ∀ (b o c : Nat) (l : List Tx) (w : World), l.length ≤ 1000000 → l.length ≤ c → b < w.heap.size → (∀ (j : Nat) x, l[j]? = some x → w.cell? ⟨b, o + j, none⟩ = some (.string ⟨x.toArray⟩)) →
      Calls P f #[.slice (some ⟨b, o, none⟩) l.length c] w fun e w' => e = .returned (.bool (namesOk [] l)) ∧ Below w.heap.size w w') : Gives P cfg f xNames := by
  refine gives_of_calls hf hname hb fun ds r hr => ?_
  unfold xNames at hr
  split at hr
  · rename_i es
    simp only [Option.bind_eq_some_iff] at hr
    obtain ⟨l, hl, hr⟩ := hr
    split at hr
    · rename_i hn
      cases hr
      refine ⟨_, rfl, rfl, fun F args w h1 h2 h4 => ?_⟩
      obtain ⟨v, rfl, hv⟩ := args_one h1 h2
      rw [strsOf_get hl] at hv
      rcases hv.strs_at with ⟨rfl, ad, cap, rfl⟩ | ⟨hne, b, o, cap, rfl, hcap, hblk, hcell⟩
      · exact (h0 ad cap w).mono fun e w' ⟨e1, e2⟩ => ⟨_, e1, .bool _, e2⟩
      · exact (h b o cap l w hn hcap hblk hcell).mono fun e w' ⟨e1, e2⟩ => ⟨_, e1, .bool _, e2⟩
    · cases hr
  · cases hr
end Go.Ev

/-! EvAuto -/
/- Functions whose code is reckoned when it is asked for; functions that are ranged over, as data. Own work. -/
namespace Go.Ev
open Go

structure AF where
  f : FuncId
  F : Func
  ad : Advice

def autoL (P : Program) : List AF → FuncId → Option IFunc
  | [], _ => none
  | a :: r, f => if a.f = f then cFunc P a.ad a.F else autoL P r f

def AOk (P : Program) (a : AF) : Prop := P.funcs[a.f]? = some a.F ∧ (a.F.name == "runtime.NumGoroutine") = false
def ATab (P : Program) (l : List AF) : Prop := ∀ a ∈ l, AOk P a
theorem ATab.nil {P : Program} : ATab P [] := fun _ h => by cases h
theorem ATab.cons {P : Program} {f : FuncId} {F : Func} {ad : Advice} {l : List AF} (h : P.funcs[f]? = some F) (hn : (F.name == "runtime.NumGoroutine") = false) (hl : ATab P l) : ATab P (⟨f, F, ad⟩ :: l) := fun q hq => by
  rcases List.mem_cons.1 hq with rfl | hq
  · exact ⟨h, hn⟩
  · exact hl q hq

theorem autoL_ok {P : Program} : ∀ {l : List AF}, ATab P l → ∀ {f : FuncId} {fn : IFunc}, autoL P l f = some fn → ∃ F ad c, P.funcs[f]? = some F ∧ (F.name == "runtime.NumGoroutine") = false ∧ F.body = some c ∧ cFunc P ad F = some fn
  | [], _, _, _, h => by cases h
  | a :: l, hl, f, fn, h => by
    unfold autoL at h
    split at h
    · rename_i e
      obtain ⟨h1, h2⟩ := hl a (by simp)
      subst e
      cases hb : a.F.body with
      | none => unfold cFunc at h; rw [hb] at h; cases h
      | some c => exact ⟨a.F, a.ad, c, h1, h2, hb, h⟩
    · exact autoL_ok (fun q hq => hl q (List.mem_cons_of_mem _ hq)) h

/-- printed code ahead, reckoned code behind it -/
def fnsOf (P : Program) (tbl : List (FuncId × IFunc)) (tab : List AF) (f : FuncId) : Option IFunc := match lk tbl f with
  | some fn => some fn
  | none => autoL P tab f

/-! functions that are ranged over -/
def xSeq (g : FuncId) : List D → Option V
  | [.sl es] => some (.clo g [] [.d (.ptr (.sl es))])
  | _ => none
def xSeqN (g : FuncId) : List D → Option V
  | [.sl es, .int .i64 n] => if 1 ≤ n then some (.clo g [] [.d (.ptr (.sl es)), .d (.ptr (.int .i64 n))]) else none
  | _ => none
def pairsFrom : Nat → List D → List (List D)
  | _, [] => []
  | i, x :: r => [.int .i64 i, x] :: pairsFrom (i + 1) r
def iAll : List D → Option (List (List D))
  | [.ptr (.sl es)] => some (pairsFrom 0 es)
  | _ => none
/-- elements of z cells -/
def aggN (z : Nat) : D → Bool
  | .agg ds => ds.length == z
  | _ => false
def iBackA (z : Nat) : List D → Option (List (List D))
  | [.ptr (.sl es)] => if es.all (aggN z) = true ∧ es.length ≤ 1000000000 then some (pairsFrom 0 es).reverse else none
  | _ => none
/-- where kids stand that begin at a place -/
def kidAt : Nat → List Ty → List Nat
  | _, [] => []
  | i, k :: r => i :: kidAt (i + k.size) r
mutual
/-- columns of a tree: type, kids, parent, depth -/
def flatR (i : Nat) (parent deep : Int) : Ty → List (Ty × List Nat × Int × Int)
  | .mk k ns ks l p s => (.mk k ns ks l p s, kidAt (i + 1) ks, parent, deep) :: flatRs (i + 1) i (deep + 1) ks
def flatRs (i parent : Nat) (deep : Int) : List Ty → List (Ty × List Nat × Int × Int)
  | [] => []
  | k :: r => flatR i parent deep k ++ flatRs (i + k.size) parent deep r
end
def sigD (n : Ty × List Nat × Int × Int) : D :=
  .agg [.int .i64 n.1.kind, .sl (n.1.names.map D.str), .sl (n.1.kids.map Ty.d), .int .i64 n.1.len, .int .i64 n.1.prec, .int .i64 n.1.scale, .sl (n.2.1.map fun k => .int .i64 (k : Nat)), .int .i64 n.2.2.1, .int .i64 n.2.2.2]
def tysOf (f : D → Option Ty) : List D → Option (List Ty)
  | [] => some []
  | d :: r => match f d, tysOf f r with
    | some t, some l => some (t :: l)
    | _, _ => none
def tyOf : Nat → D → Option Ty
  | 0, _ => none
  | n + 1, .agg [.int .i64 k, .sl nm, .sl kids, .int .i64 l, .int .i64 p, .int .i64 s] => match strsOf? nm, tysOf (tyOf n) kids with
    | some ns, some ks => some (.mk k ns ks l p s)
    | _, _ => none
  | _, _ => none
/-- ingotref13.flat, handed no columns -/
def xFlat : List D → Option V
  | [.nilS, d, .int .i64 p, .int .i64 q] => (tyOf 1000 d).bind fun t =>
    if -9223372036854775808 ≤ p ∧ p ≤ 9223372036854775807 ∧ 0 ≤ q ∧ q + t.size ≤ 10000 then some (.own false 9 ((flatR 0 p q t).map sigD)) else none
  | _ => none
end Go.Ev

/-! EvMemo -/
/- Reckoning with calls that are known already. Own work. -/
namespace Go.Ev
open Go

mutual
def D.eqb : D → D → Bool
  | .bool a, .bool b => a == b
  | .int k a, .int j b => decide (k = j) && decide (a = b)
  | .str a, .str b => decide (a = b)
  | .nilS, .nilS => true
  | .nilP, .nilP => true
  | .nilI, .nilI => true
  | .nilF, .nilF => true
  | .nilM, .nilM => true
  | .sl a, .sl b => D.eqbs a b
  | .agg a, .agg b => D.eqbs a b
  | .ptr a, .ptr b => a.eqb b
  | .ifc t a, .ifc u b => decide (t = u) && a.eqb b
  | .fn a, .fn b => decide (a = b)
  | .tup a, .tup b => D.eqbs a b
  | _, _ => false
def D.eqbs : List D → List D → Bool
  | [], [] => true
  | a :: r, b :: s => a.eqb b && D.eqbs r s
  | _, _ => false
end
mutual
theorem D.eqb_eq : ∀ {a b : D}, a.eqb b = true → a = b
  | .bool _, b, h => by cases b <;> simp_all [D.eqb]
  | .int _ _, b, h => by cases b <;> simp_all [D.eqb]
  | .str _, b, h => by cases b <;> simp_all [D.eqb]
  | .nilS, b, h => by cases b <;> simp_all [D.eqb]
  | .nilP, b, h => by cases b <;> simp_all [D.eqb]
  | .nilI, b, h => by cases b <;> simp_all [D.eqb]
  | .nilF, b, h => by cases b <;> simp_all [D.eqb]
  | .nilM, b, h => by cases b <;> simp_all [D.eqb]
  | .sl es, b, h => by
    cases b <;> simp only [D.eqb, Bool.false_eq_true] at h
    rw [D.eqbs_eq h]
  | .agg es, b, h => by
    cases b <;> simp only [D.eqb, Bool.false_eq_true] at h
    rw [D.eqbs_eq h]
  | .ptr e, b, h => by
    cases b <;> simp only [D.eqb, Bool.false_eq_true] at h
    rw [D.eqb_eq h]
  | .ifc t e, b, h => by
    cases b <;> simp only [D.eqb, Bool.false_eq_true, Bool.and_eq_true, decide_eq_true_eq] at h
    rw [h.1, D.eqb_eq h.2]
  | .fn _, b, h => by cases b <;> simp_all [D.eqb]
  | .tup es, b, h => by
    cases b <;> simp only [D.eqb, Bool.false_eq_true] at h
    rw [D.eqbs_eq h]
  | .unk, b, h => by cases b <;> simp [D.eqb] at h
  | .unkB, b, h => by cases b <;> simp [D.eqb] at h
theorem D.eqbs_eq : ∀ {a b : List D}, D.eqbs a b = true → a = b
  | [], [], _ => rfl
  | [], _ :: _, h => by simp [D.eqbs] at h
  | _ :: _, [], h => by simp [D.eqbs] at h
  | a :: r, b :: s, h => by
    simp only [D.eqbs, Bool.and_eq_true] at h
    rw [D.eqb_eq h.1, D.eqbs_eq h.2]
end

abbrev Memo := List (FuncId × List D × V)
def memoOf : Memo → FuncId → List D → Option V
  | [], _, _ => none
  | (g, ds, v) :: r, f, xs => if g = f then (if D.eqbs ds xs then some v else memoOf r f xs) else memoOf r f xs
def memoAt (tb : Memo) (f : FuncId) : Nat → List V → List (Cel × V) → Option V
  | 0, vs, [] => (allD vs).bind (memoOf tb f)
  | _, _, _ => none
/-- as evFn; calls that are known are taken as they are -/
def evFnM (cfg : Cfg) (tb : Memo) : Nat → Orc
  | 0 => fun _ _ _ _ => none
  | n + 1 => fun f dep vs m => match memoAt tb f dep vs m with
    | some v => some (v, [])
    | none => match cfg.ext f with
      | some g => ((allD vs).bind g).map fun v => (v, m)
      | none => match cfg.funcs f with
        | some fn => evBody cfg (evFnM cfg tb n) n fn dep vs m
        | none => none
def MemoOk (cfg : Cfg) (tb : Memo) : Prop := ∀ e ∈ tb, evL cfg e.1 0 (e.2.1.map .d) [] = some (e.2.2, [])
theorem MemoOk.nil {cfg : Cfg} : MemoOk cfg [] := fun _ h => by cases h
theorem MemoOk.cons {cfg : Cfg} {f : FuncId} {ds : List D} {v : V} {tb : Memo} (h : evL cfg f 0 (ds.map .d) [] = some (v, [])) (ht : MemoOk cfg tb) : MemoOk cfg ((f, ds, v) :: tb) := fun e he => by
  rcases List.mem_cons.1 he with rfl | he
  · exact h
  · exact ht e he
theorem memoOf_mem : ∀ {tb : Memo} {f : FuncId} {xs : List D} {v : V}, memoOf tb f xs = some v → (f, xs, v) ∈ tb
  | [], _, _, _, h => by cases h
  | (g, ds, u) :: r, f, xs, v, h => by
    unfold memoOf at h
    split at h
    · rename_i e
      split at h
      · rename_i e2
        cases h
        rw [e, D.eqbs_eq e2]
        exact List.mem_cons_self
      · exact List.mem_cons_of_mem _ (memoOf_mem h)
    · exact List.mem_cons_of_mem _ (memoOf_mem h)
theorem allD_map : ∀ {vs : List V} {ds : List D}, allD vs = some ds → vs = ds.map .d
  | [], ds, h => by cases h; rfl
  | .d x :: r, ds, h => by
    simp only [allD] at h
    cases hr : allD r with
    | none => rw [hr] at h; cases h
    | some es => rw [hr] at h; cases h; rw [allD_map hr]; rfl
  | .own _ _ _ :: _, _, h => by cases h
  | .bor _ _ _ :: _, _, h => by cases h
  | .bref _ _ _ :: _, _, h => by cases h
  | .iptr _ _ :: _, _, h => by cases h
  | .ref _ _ _ :: _, _, h => by cases h
  | .clo _ _ _ :: _, _, h => by cases h
  | .ifc _ _ :: _, _, h => by cases h
  | .vec _ :: _, _, h => by cases h
  | .vref _ :: _, _, h => by cases h
  | .rcd _ :: _, _, h => by cases h
  | .junk :: _, _, h => by cases h
theorem evFnM_le {cfg : Cfg} {tb : Memo} (ok : MemoOk cfg tb) : ∀ n, Le (evFnM cfg tb n) (evL cfg)
  | 0 => fun _ _ _ _ _ h => by cases h
  | n + 1 => fun f dep vs m r h => by
    simp only [evFnM] at h
    split at h
    · rename_i v hm
      cases h
      unfold memoAt at hm
      split at hm
      · cases hd : allD vs with
        | none => rw [hd] at hm; cases hm
        | some ds =>
          rw [hd] at hm
          rw [allD_map hd]
          exact ok _ (memoOf_mem hm)
      · cases hm
    · split at h
      · rename_i g hx
        rw [evL_ext hx]; exact h
      · rename_i hx
        split at h
        · rename_i fn hf
          rw [evL_fn hx hf]
          have h2 := evBody_le (evFnM_le ok n) (Nat.le_refl n) h
          unfold evBody at h2
          unfold evB
          split at h2
          · rename_i hc
            rw [if_pos hc]
            split at h2
            · rename_i s h1
              rw [evC_iff.2 ⟨n, h1⟩]
              exact h2
            · rename_i s h1
              rw [evC_iff.2 ⟨n, h1⟩]
              exact h2
            · cases h2
          · cases h2
        · cases h
theorem evL_of_memo {cfg : Cfg} {tb : Memo} (ok : MemoOk cfg tb) {n : Nat} {f : FuncId} {d : Nat} {vs : List V} {m : List (Cel × V)} {r} (h : evFnM cfg tb n f d vs m = some r) : evL cfg f d vs m = some r := evFnM_le ok n _ _ _ _ _ h
end Go.Ev

/-! PlPb -/
/- Fields on a wire, in plain words. Own work. -/
namespace Go.Ev
open Go

structure Fld where
  num : Nat
  wire : Nat
  u : Nat
  b : List UInt8
  pl : Nat
def fld0 : Fld := ⟨0, 0, 0, [], 0⟩
def Fld.d (f : Fld) : D := .agg [.int .i64 (f.num : Int), .int .i64 (f.wire : Int), .int .u64 (f.u : Int), .sl (f.b.map byteD), .int .i64 (f.pl : Int)]

/-- the lowest byte first -/
def leN : List UInt8 → Nat
  | [] => 0
  | c :: r => c.toNat + 256 * leN r
/-- a field at a place: it, its bytes, what is wrong -/
def fieldM (l : List UInt8) (p : Nat) : Fld × Nat × Nat :=
  let k := varM 0 0 (l.drop p)
  if k.2.2 ≠ 0 then (fld0, 0, k.2.2) else
  if k.1 / 8 < 1 ∨ k.1 / 8 > 536870911 then (fld0, 0, 2) else
  if k.1 % 8 = 0 then
    let v := varM 0 0 (l.drop (p + k.2.1))
    if v.2.2 ≠ 0 then (fld0, 0, v.2.2) else (⟨k.1 / 8, 0, v.1, [], p⟩, k.2.1 + v.2.1, 0)
  else if k.1 % 8 = 2 then
    let v := varM 0 0 (l.drop (p + k.2.1))
    if v.2.2 ≠ 0 then (fld0, 0, v.2.2) else
    if v.1 > l.length - p - (k.2.1 + v.2.1) then (fld0, 0, 3) else (⟨k.1 / 8, 2, 0, (l.drop (p + (k.2.1 + v.2.1))).take v.1, p⟩, k.2.1 + v.2.1 + v.1, 0)
  else if k.1 % 8 = 1 then
    if 8 > l.length - p - k.2.1 then (fld0, 0, 3) else (⟨k.1 / 8, 1, leN ((l.drop (p + k.2.1)).take 8), [], p⟩, k.2.1 + 8, 0)
  else if k.1 % 8 = 5 then
    if 4 > l.length - p - k.2.1 then (fld0, 0, 3) else (⟨k.1 / 8, 5, leN ((l.drop (p + k.2.1)).take 4), [], p⟩, k.2.1 + 4, 0)
  else (fld0, 0, 2)

def parseN (l : List UInt8) : Nat → Nat → List Fld → List Fld × Nat
  | 0, _, _ => ([], 0)
  | n + 1, p, acc =>
    if p < l.length then
      if 4096 ≤ acc.length then ([], 4) else
      if (fieldM l p).2.2 ≠ 0 then ([], (fieldM l p).2.2) else parseN l n (p + (fieldM l p).2.1) (acc ++ [(fieldM l p).1])
    else (acc, 0)
def parseM (l : List UInt8) : List Fld × Nat := if l.length > 262144 then ([], 4) else parseN l (l.length + 1) 0 []

end Go.Ev

/-! PlSf -/
/- A stripe's footer, in plain words. Own work. -/
namespace Go.Ev
open Go

def uintF (num v : Nat) : List UInt8 := varB 10 (num * 8) ++ varB 10 v
def bytesF (num : Nat) (v : List UInt8) : List UInt8 := varB 10 (num * 8 + 2) ++ varB 10 v.length ++ v
theorem varB_pos (u : Nat) : 1 ≤ (varB 10 u).length := by
  unfold varB
  split <;> simp
theorem uintF_len (k v : Nat) : 1 ≤ (uintF k v).length ∧ (uintF k v).length ≤ 20 := by
  unfold uintF
  have := varB_len 10 (k * 8)
  have := varB_len 10 v
  have := varB_pos (k * 8)
  simp; omega
theorem bytesF_len (k : Nat) (v : List UInt8) : 1 ≤ (bytesF k v).length ∧ (bytesF k v).length ≤ 20 + v.length := by
  unfold bytesF
  have := varB_len 10 (k * 8 + 2)
  have := varB_len 10 v.length
  have := varB_pos (k * 8 + 2)
  simp; omega

/-- a field, as it is put -/
inductive Put where
  | u (num v : Nat)
  | b (num : Nat) (v : List UInt8)
def Put.ok : Put → Prop
  | .u num v => 1 ≤ num ∧ num ≤ 536870911 ∧ v < 18446744073709551616
  | .b num _ => 1 ≤ num ∧ num ≤ 536870911
def Put.bytes : Put → List UInt8
  | .u num v => uintF num v
  | .b num v => bytesF num v
theorem Put.pos (x : Put) : 1 ≤ x.bytes.length := by
  cases x with
  | u num v => exact (uintF_len num v).1
  | b num v => exact (bytesF_len num v).1

def putB (xs : List Put) : List UInt8 := (xs.map Put.bytes).flatten
def isF (num wire : Nat) (f : Fld) : Bool := f.num == num && f.wire == wire
def lastM (fs : List Fld) (num wire : Nat) : Option Fld := fs.reverse.find? (isF num wire)
def uM (fs : List Fld) (k : Nat) : Nat := ((lastM fs k 0).getD fld0).u
abbrev Pl := Nat × Nat × Nat
/-- a place, an encoding, as they are put -/
def plU (p : Pl) : List Put := [.u 1 p.1, .u 2 p.2.1, .u 3 p.2.2]
def enU (e : Nat × Nat) : List Put := if e.2 = 0 then [.u 1 e.1] else [.u 1 e.1, .u 2 e.2]
def plP (p : Pl) : Put := .b 1 (putB (plU p))
def enP (e : Nat × Nat) : Put := .b 2 (putB (enU e))
def plOk (p : Pl) : Prop := p.1 ≤ 262144 ∧ p.2.1 ≤ 262144 ∧ p.2.2 ≤ 262144
def enOk (e : Nat × Nat) : Prop := e.1 ≤ 262144 ∧ e.2 ≤ 262144
/-- footers' fields, mixed: places, encodings, others -/
inductive Item where
  | p (p : Pl)
  | e (e : Nat × Nat)
  | z (num : Nat) (v : List UInt8)
def Item.put : Item → Put
  | .p a => plP a
  | .e a => enP a
  | .z num v => .b num v
def Item.ok : Item → Prop
  | .p a => plOk a
  | .e a => enOk a
  | .z num _ => 3 ≤ num ∧ num ≤ 536870911
def Item.ps : Item → List Pl
  | .p a => [a]
  | .e _ => []
  | .z _ _ => []
def Item.es : Item → List (Nat × Nat)
  | .p _ => []
  | .e a => [a]
  | .z _ _ => []
end Go.Ev
