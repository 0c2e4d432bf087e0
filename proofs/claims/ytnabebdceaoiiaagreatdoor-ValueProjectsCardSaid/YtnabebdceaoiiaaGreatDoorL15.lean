/- The evaluator of Go code and its proofs, part 15. Own work. -/
import Derived.Test.YtnabebdceaoiiaaGreatDoorL14
import Derived.Sort.Grow
import Derived.Deep.Draws
set_option linter.unusedVariables false
set_option linter.unusedSimpArgs false
set_option linter.unusedSectionVars false
/-! EvGives -/
/- Library functions that are taken by their contracts: numbers as texts, texts joined, names. Own work. -/
namespace Go.Ev
open Go Go.RowKit

theorem gc : ∀ {es : List D} {l : List Tx}, fi es = some l → es = l.map D.str
  | [], l, h => by cases h; rfl
  | e :: es, l, h => by
    unfold fi at h
    split at h
    · rename_i he; cases he
    · rename_i b r he
      cases he
      simp only [Option.map_eq_some_iff] at h
      obtain ⟨l', h2, rfl⟩ := h
      rw [List.map_cons, ← gc h2]
    · cases h
theorem jn : ∀ l : List Tx, fi (l.map D.str) = some l
  | [] => rfl
  | x :: l => by rw [List.map_cons, fi, jn l]; rfl
section
variable {F : Nat → Prop} {w : World}
/-- where strings lie -/
theorem Rd.strs_at {v : Value} {l : List Tx} (h : Rd F w v (.sl (l.map D.str))) : (l = [] ∧ ∃ ad cap, v = .slice ad 0 cap) ∨ (l ≠ [] ∧ ∃ b o cap, v = .slice (some (ad3 b o)) l.length cap ∧ l.length ≤ cap ∧ b < w.heap.size ∧ ∀ (j : Nat) x, l[j]? = some x → w.cell? (ad3 b (o + j)) = some (.string ⟨x.toArray⟩)) := by
  generalize hd : l.map D.str = es at h
  cases h with
  | slA ad cap => exact .inl ⟨by simpa using hd, ad, cap, rfl⟩
  | sl b o len cap z es vs hlen hcap hz hc hm hr =>
    subst hd
    rw [List.length_map] at hlen
    subst hlen
    cases l with
    | nil => exact .inl ⟨rfl, _, _, rfl⟩
    | cons y r =>
      have hz1 : z = 1 := (hz (.str y) (by simp)).symm
      subst hz1
      have hcell : ∀ (j : Nat) x, (y :: r)[j]? = some x → w.cell? (ad3 b (o + j)) = some (.string ⟨x.toArray⟩) := fun j x hj => by
        have he : ((y :: r).map D.str)[j]? = some (.str x) := by rw [List.getElem?_map, hj]; rfl
        have h1 := hm j _ he 0 (.str x) rfl
        have h2 := hr j _ he 0 (.str x) rfl
        have h3 : vs j 0 = .string ⟨x.toArray⟩ := h2.str_inv
        rw [h3] at h1
        simpa using h1.2
      refine .inr ⟨by simp, b, o, cap, rfl, hcap, ?_, hcell⟩
      have := World.block_lt_of_cell? _ _ (hcell 0 y rfl)
      simpa using this
end

variable {P : Program} {cfg : Cfg} {f : FuncId} {fn : Func} {c : Code} (hf : P.funcs[f]? = some fn) (hname : (fn.name == "runtime.NumGoroutine") = false) (hb : fn.body = some c)
include hf hname hb

theorem ajc (h : ∀ (n : Int) (w : World), -9223372036854775808 ≤ n → n ≤ 9223372036854775807 → (∀ n ob, cfg.gobj n = some ob → HoldsG w n ob) →
      Calls P f #[.int .i64 n, .int .i64 10] w fun e w' => e = .returned (.string ⟨(Lib.itoa n).toArray⟩) ∧ ∃ k os, w' = Sort.grow (w.drewN k) os) : Gives P cfg f xFmtI := by
  refine ea hf hname hb fun ds r hr => ?_
  unfold xFmtI at hr
  split at hr
  · rename_i x y
    split at hr
    · rename_i hn
      cases hr
      refine ⟨_, rfl, rfl, fun F args w h1 h2 h4 => ?_⟩
      obtain ⟨v, u, rfl, hv, hu⟩ := args_two h1 h2
      cases hv.int_inv
      cases hu.int_inv
      obtain rfl := hn.2.2
      refine (h x w hn.1 hn.2.1 h4).mono fun e w' ⟨e1, k, os, e2⟩ => ⟨_, e1, ?_, ?_⟩
      · rw [itoaF_eq hn.1 hn.2.1]
        exact .str _
      · rw [e2]
        exact ⟨rfl, rfl, rfl, by simp [Sort.grow, World.drewN], fun j hj => Sort.heap_grow_old (w.drewN k) os hj⟩
    · cases hr
  · cases hr
theorem ajb (h0 : ∀ (a : Option Addr) (c : Nat) (sep : ByteArray) (w : World), Calls P f #[.slice a 0 c, .string sep] w fun e w' => e = .returned (.string ⟨#[]⟩) ∧ w' = w)
    (h : ∀ (bk o c : Nat) (xs : List ByteArray) (sep : ByteArray) (w : World), (∀ (j : Nat) x, xs[j]? = some x → w.cell? ⟨bk, o + j, none⟩ = some (.string x)) → bk < w.heap.size → xs.length ≤ 140737488355328 → xs.length ≤ c →
      (Lib.join (xs.map (·.data.toList)) sep.data.toList).length ≤ 140737488355328 →
      Calls P f #[.slice (some ⟨bk, o, none⟩) xs.length c, .string sep] w fun e w' => e = .returned (.string ⟨(Lib.join (xs.map (·.data.toList)) sep.data.toList).toArray⟩) ∧ Below w.heap.size w w') : Gives P cfg f xJoin := by
  refine ea hf hname hb fun ds r hr => ?_
  unfold xJoin at hr
  split at hr
  · rename_i es sep
    simp only [Option.bind_eq_some_iff] at hr
    obtain ⟨l, hl, hr⟩ := hr
    split at hr
    · rename_i hn
      cases hr
      refine ⟨_, rfl, rfl, fun F args w h1 h2 h4 => ?_⟩
      obtain ⟨v, u, rfl, hv, hu⟩ := args_two h1 h2
      cases hu.str_inv
      rw [gc hl] at hv
      rcases hv.strs_at with ⟨rfl, ad, cap, rfl⟩ | ⟨hne, b, o, cap, rfl, hcap, hblk, hcell⟩
      · refine (h0 ad cap ⟨sep.toArray⟩ w).mono fun e w' ⟨e1, e2⟩ => ⟨_, e1, ?_, by rw [e2]; exact Below.refl _ _⟩
        exact .str _
      · have hx : ((l.map fun x => (⟨x.toArray⟩ : ByteArray)).map (·.data.toList)) = l := by
          rw [List.map_map]
          conv => rhs; rw [← List.map_id l]
          exact List.map_congr_left fun x _ => by simp
        have := h b o cap (l.map fun x => ⟨x.toArray⟩) ⟨sep.toArray⟩ w (fun j x hj => by
          rw [List.getElem?_map, Option.map_eq_some_iff] at hj
          obtain ⟨y, hy, rfl⟩ := hj
          exact hcell j y hy) hblk (by simp; omega) (by simpa using hcap) (by rw [hx]; simpa using Nat.le_trans hn.2 (by omega))
        rw [hx, List.length_map] at this
        refine this.mono fun e w' ⟨e1, e2⟩ => ⟨_, e1, ?_, e2⟩
        simpa using Rd.str (F := F) (w := w') (Lib.join l sep)
    · cases hr
  · cases hr
theorem aaa (h0 : ∀ (a : Option Addr) (c : Nat) (w : World), Calls P f #[.slice a 0 c] w fun e w' => e = .returned (.bool true) ∧ Below w.heap.size w w')
    (h : ∀ (b o c : Nat) (l : List Tx) (w : World), l.length ≤ 1000000 → l.length ≤ c → b < w.heap.size → (∀ (j : Nat) x, l[j]? = some x → w.cell? ⟨b, o + j, none⟩ = some (.string ⟨x.toArray⟩)) →
      Calls P f #[.slice (some ⟨b, o, none⟩) l.length c] w fun e w' => e = .returned (.bool (b0 [] l)) ∧ Below w.heap.size w w') : Gives P cfg f m9 := by
  refine ea hf hname hb fun ds r hr => ?_
  unfold m9 at hr
  split at hr
  · rename_i es
    simp only [Option.bind_eq_some_iff] at hr
    obtain ⟨l, hl, hr⟩ := hr
    split at hr
    · rename_i hn
      cases hr
      refine ⟨_, rfl, rfl, fun F args w h1 h2 h4 => ?_⟩
      obtain ⟨v, rfl, hv⟩ := args_one h1 h2
      rw [gc hl] at hv
      rcases hv.strs_at with ⟨rfl, ad, cap, rfl⟩ | ⟨hne, b, o, cap, rfl, hcap, hblk, hcell⟩
      · exact (h0 ad cap w).mono fun e w' ⟨e1, e2⟩ => ⟨_, e1, .bool _, e2⟩
      · exact (h b o cap l w hn hcap hblk hcell).mono fun e w' ⟨e1, e2⟩ => ⟨_, e1, .bool _, e2⟩
    · cases hr
  · cases hr
end Go.Ev

/-! EvAuto -/
/- Functions whose code is reckoned when it is asked for; functions that are ranged over, as data. Own work. -/
namespace Go.Ev
open Go

structure AF where
  f : FuncId
  F : Func
  ad : Advice

def autoL (P : Program) : List AF → FuncId → Option IFunc
  | [], _ => none
  | a :: r, f => if a.f = f then cFunc P a.ad a.F else autoL P r f

def AOk (P : Program) (a : AF) : Prop := P.funcs[a.f]? = some a.F ∧ (a.F.name == "runtime.NumGoroutine") = false
def ATab (P : Program) (l : List AF) : Prop := ∀ a ∈ l, AOk P a
theorem ATab.nil {P : Program} : ATab P [] := fun _ h => by cases h
theorem ATab.cons {P : Program} {f : FuncId} {F : Func} {ad : Advice} {l : List AF} (h : P.funcs[f]? = some F) (hn : (F.name == "runtime.NumGoroutine") = false) (hl : ATab P l) : ATab P (⟨f, F, ad⟩ :: l) := fun q hq => by
  rcases List.mem_cons.1 hq with rfl | hq
  · exact ⟨h, hn⟩
  · exact hl q hq

theorem aij {P : Program} : ∀ {l : List AF}, ATab P l → ∀ {f : FuncId} {fn : IFunc}, autoL P l f = some fn → ∃ F ad c, P.funcs[f]? = some F ∧ (F.name == "runtime.NumGoroutine") = false ∧ F.body = some c ∧ cFunc P ad F = some fn
  | [], _, _, _, h => by cases h
  | a :: l, hl, f, fn, h => by
    unfold autoL at h
    split at h
    · rename_i e
      obtain ⟨h1, h2⟩ := hl a (by simp)
      subst e
      cases hb : a.F.body with
      | none => unfold cFunc at h; rw [hb] at h; cases h
      | some c => exact ⟨a.F, a.ad, c, h1, h2, hb, h⟩
    · exact aij (fun q hq => hl q (List.mem_cons_of_mem _ hq)) h

/-- printed code ahead, reckoned code behind it -/
def fnsOf (P : Program) (tbl : List (FuncId × IFunc)) (tab : List AF) (f : FuncId) : Option IFunc := match lk tbl f with
  | some fn => some fn
  | none => autoL P tab f

/-! functions that are ranged over -/
def xSeq (g : FuncId) : List D → Option V
  | [.sl es] => some (.clo g [] [.d (.ptr (.sl es))])
  | _ => none
def xSeqN (g : FuncId) : List D → Option V
  | [.sl es, .int .i64 n] => if 1 ≤ n then some (.clo g [] [.d (.ptr (.sl es)), .d (.ptr (.int .i64 n))]) else none
  | _ => none
/-- elements of z cells -/
def aggN (z : Nat) : D → Bool
  | .agg ds => ds.length == z
  | _ => false
/-- where kids stand that begin at a place -/
def kidAt : Nat → List Ty → List Nat
  | _, [] => []
  | i, k :: r => i :: kidAt (i + k.size) r
mutual
/-- columns of a tree: type, kids, parent, depth -/
def flatR (i : Nat) (parent deep : Int) : Ty → List (Ty × List Nat × Int × Int)
  | .mk k ns ks l p s => (.mk k ns ks l p s, kidAt (i + 1) ks, parent, deep) :: bh (i + 1) i (deep + 1) ks
def bh (i parent : Nat) (deep : Int) : List Ty → List (Ty × List Nat × Int × Int)
  | [] => []
  | k :: r => flatR i parent deep k ++ bh (i + k.size) parent deep r
end
def sigD (n : Ty × List Nat × Int × Int) : D :=
  .agg [.int .i64 n.1.kind, .sl (n.1.names.map D.str), .sl (n.1.kids.map Ty.d), .int .i64 n.1.len, .int .i64 n.1.prec, .int .i64 n.1.scale, .sl (n.2.1.map fun k => .int .i64 (k : Nat)), .int .i64 n.2.2.1, .int .i64 n.2.2.2]
def tysOf (f : D → Option Ty) : List D → Option (List Ty)
  | [] => some []
  | d :: r => match f d, tysOf f r with
    | some t, some l => some (t :: l)
    | _, _ => none
def tyOf : Nat → D → Option Ty
  | 0, _ => none
  | n + 1, .agg [.int .i64 k, .sl nm, .sl kids, .int .i64 l, .int .i64 p, .int .i64 s] => match fi nm, tysOf (tyOf n) kids with
    | some ns, some ks => some (.mk k ns ks l p s)
    | _, _ => none
  | _, _ => none
/-- ingotref13.flat, handed no columns -/
def xFlat : List D → Option V
  | [.nilS, d, .int .i64 p, .int .i64 q] => (tyOf 1000 d).bind fun t =>
    if -9223372036854775808 ≤ p ∧ p ≤ 9223372036854775807 ∧ 0 ≤ q ∧ q + t.size ≤ 10000 then some (.own false 9 ((flatR 0 p q t).map sigD)) else none
  | _ => none
end Go.Ev

/-! EvMemo -/
/- Reckoning with calls that are known already. Own work. -/
namespace Go.Ev
open Go

mutual
def D.eqb : D → D → Bool
  | .bool a, .bool b => a == b
  | .int k a, .int j b => decide (k = j) && decide (a = b)
  | .str a, .str b => decide (a = b)
  | .nilS, .nilS => true
  | .nilP, .nilP => true
  | .nilI, .nilI => true
  | .nilF, .nilF => true
  | .nilM, .nilM => true
  | .sl a, .sl b => D.eqbs a b
  | .agg a, .agg b => D.eqbs a b
  | .ptr a, .ptr b => a.eqb b
  | .ifc t a, .ifc u b => decide (t = u) && a.eqb b
  | .fn a, .fn b => decide (a = b)
  | .tup a, .tup b => D.eqbs a b
  | _, _ => false
def D.eqbs : List D → List D → Bool
  | [], [] => true
  | a :: r, b :: s => a.eqb b && D.eqbs r s
  | _, _ => false
end
mutual
theorem D.eqb_eq : ∀ {a b : D}, a.eqb b = true → a = b
  | .bool _, b, h => by cases b <;> simp_all [D.eqb]
  | .int _ _, b, h => by cases b <;> simp_all [D.eqb]
  | .str _, b, h => by cases b <;> simp_all [D.eqb]
  | .nilS, b, h => by cases b <;> simp_all [D.eqb]
  | .nilP, b, h => by cases b <;> simp_all [D.eqb]
  | .nilI, b, h => by cases b <;> simp_all [D.eqb]
  | .nilF, b, h => by cases b <;> simp_all [D.eqb]
  | .nilM, b, h => by cases b <;> simp_all [D.eqb]
  | .sl es, b, h => by
    cases b <;> simp only [D.eqb, Bool.false_eq_true] at h
    rw [D.eqbs_eq h]
  | .agg es, b, h => by
    cases b <;> simp only [D.eqb, Bool.false_eq_true] at h
    rw [D.eqbs_eq h]
  | .ptr e, b, h => by
    cases b <;> simp only [D.eqb, Bool.false_eq_true] at h
    rw [D.eqb_eq h]
  | .ifc t e, b, h => by
    cases b <;> simp only [D.eqb, Bool.false_eq_true, Bool.and_eq_true, decide_eq_true_eq] at h
    rw [h.1, D.eqb_eq h.2]
  | .fn _, b, h => by cases b <;> simp_all [D.eqb]
  | .tup es, b, h => by
    cases b <;> simp only [D.eqb, Bool.false_eq_true] at h
    rw [D.eqbs_eq h]
  | .unk, b, h => by cases b <;> simp [D.eqb] at h
  | .unkB, b, h => by cases b <;> simp [D.eqb] at h
theorem D.eqbs_eq : ∀ {a b : List D}, D.eqbs a b = true → a = b
  | [], [], _ => rfl
  | [], _ :: _, h => by simp [D.eqbs] at h
  | _ :: _, [], h => by simp [D.eqbs] at h
  | a :: r, b :: s, h => by
    simp only [D.eqbs, Bool.and_eq_true] at h
    rw [D.eqb_eq h.1, D.eqbs_eq h.2]
end

abbrev Memo := List (FuncId × List D × V)
def MemoOk (cfg : Cfg) (tb : Memo) : Prop := ∀ e ∈ tb, evL cfg e.1 0 (e.2.1.map .d) [] = some (e.2.2, [])
theorem MemoOk.nil {cfg : Cfg} : MemoOk cfg [] := fun _ h => by cases h
theorem MemoOk.cons {cfg : Cfg} {f : FuncId} {ds : List D} {v : V} {tb : Memo} (h : evL cfg f 0 (ds.map .d) [] = some (v, [])) (ht : MemoOk cfg tb) : MemoOk cfg ((f, ds, v) :: tb) := fun e he => by
  rcases List.mem_cons.1 he with rfl | he
  · exact h
  · exact ht e he
end Go.Ev

/-! PlClose -/
/- Columns that are kept with those that are asked for, in plain words; as data. Own work. -/
namespace Go.Ev
open Go

/-- what is asked of a column: its kids, its kind, its parent -/
structure Cn where
  kids : List Nat
  kind : Int
  par : Int
/-- a column and what is in it -/
def allM (ns : List Cn) : Nat → List Bool → Nat → List Bool
  | 0, keep, _ => keep
  | m + 1, keep, p => match ns[p]? with
    | some n => n.kids.foldl (allM ns m) (keep.set p true)
    | none => keep
/-- a column and those above it -/
def upM (ns : List Cn) : Nat → List Bool → Int → List Bool
  | 0, keep, _ => keep
  | m + 1, keep, p => if p < 0 then keep else match ns[p.toNat]? with
    | some n => upM ns m ((if (n.kind != 12) = true then allM ns ns.length keep p.toNat else keep).set p.toNat true) n.par
    | none => keep
def dt (ns : List Cn) : List Bool → List Int → List Bool
  | keep, [] => keep
  | keep, c :: r => dt ns (upM ns (c.toNat + 1) (allM ns ns.length keep c.toNat) c) r
def badC (n : Nat) (cols : List Int) : Bool := cols.any fun c => decide (c < 0) || decide (c ≥ (n : Int))
def aia (ns : List Cn) (cols : List Int) : V :=
  if badC ns.length cols then .d (.tup [.sl [], .int .i64 1]) else .d (.tup [.sl ((dt ns (List.replicate ns.length false) cols).map D.bool), .int .i64 0])
/-- kids stand behind, parents ahead -/
def cf (N : Nat) : Nat → List Cn → Bool
  | _, [] => true
  | i, n :: r => n.kids.all (fun k => decide (i < k) && decide (k < N)) && decide (n.par < (i : Int)) && decide (-1 ≤ n.par) && decide (n.kids.length ≤ 1000000) && cf N (i + 1) r
theorem lz {N : Nat} : ∀ {ns : List Cn} {i : Nat}, cf N i ns = true → ∀ {p : Nat} {n : Cn}, ns[p]? = some n → (∀ k ∈ n.kids, i + p < k ∧ k < N) ∧ n.par < ((i + p : Nat) : Int) ∧ -1 ≤ n.par ∧ n.kids.length ≤ 1000000
  | [], _, _, p, n, hp => by simp at hp
  | x :: r, i, h, 0, n, hp => by
    simp only [List.getElem?_cons_zero, Option.some.injEq] at hp
    subst hp
    simp only [cf, Bool.and_eq_true, List.all_eq_true, decide_eq_true_eq] at h
    obtain ⟨⟨⟨⟨h1, h2⟩, h3⟩, h4⟩, _⟩ := h
    exact ⟨fun k hk => by simpa using h1 k hk, by simpa using h2, h3, h4⟩
  | x :: r, i, h, p + 1, n, hp => by
    simp only [cf, Bool.and_eq_true] at h
    have := lz h.2 (p := p) (n := n) (by simpa using hp)
    rw [show i + (p + 1) = i + 1 + p by omega]
    exact this
theorem qf (ns : List Cn) : ∀ (m : Nat) (keep : List Bool) (p : Nat), (allM ns m keep p).length = keep.length
  | 0, _, _ => rfl
  | m + 1, keep, p => by
    rw [allM]
    split
    · have : ∀ (l : List Nat) (keep : List Bool), (l.foldl (allM ns m) keep).length = keep.length := by
        intro l
        induction l with
        | nil => intro _; rfl
        | cons k r ih => intro keep; rw [List.foldl_cons, ih, qf]
      rw [this, List.length_set]
    · rfl
theorem akb (ns : List Cn) : ∀ (m : Nat) (keep : List Bool) (p : Int), (upM ns m keep p).length = keep.length
  | 0, _, _ => rfl
  | m + 1, keep, p => by
    rw [upM]
    split
    · rfl
    split
    · rw [akb, List.length_set]
      split
      · exact qf _ _ _ _
      · rfl
    · rfl
theorem oy (ns : List Cn) : ∀ (cols : List Int) (keep : List Bool), (dt ns keep cols).length = keep.length
  | [], _ => rfl
  | c :: r, keep => by rw [dt, oy ns r, akb, qf]
def l3 : List D → Option (List Nat)
  | [] => some []
  | .int .i64 n :: r => if 0 ≤ n then (l3 r).map (n.toNat :: ·) else none
  | _ => none
def n9 : List D → Option (List Int)
  | [] => some []
  | .int .i64 n :: r => (n9 r).map (n :: ·)
  | _ => none
def cnOf : D → Option Cn
  | .agg [.int .i64 k, _, _, _, _, _, .sl ks, .int .i64 p, _] => (l3 ks).map fun l => ⟨l, k, p⟩
  | _ => none
def cnsOf : List D → Option (List Cn)
  | [] => some []
  | d :: r => match cnOf d, cnsOf r with
    | some n, some l => some (n :: l)
    | _, _ => none
/-- ingotref13.Close -/
def qk : List D → Option V
  | [.sl ds, .sl cs] => match cnsOf ds, n9 cs with
    | some ns, some cols => if (cf ns.length 0 ns && decide (ns.length ≤ 10000) && decide (cols.length ≤ 1000000)) = true then some (aia ns cols) else none
    | _, _ => none
  | _ => none
theorem np : ∀ l : List Nat, l3 (l.map fun k => D.int .i64 (k : Nat)) = some l
  | [] => rfl
  | k :: r => by rw [List.map_cons, l3, if_pos (by omega), np r]; rfl
theorem nq : ∀ {ds : List D} {l : List Nat}, l3 ds = some l → ds = l.map fun k => D.int .i64 (k : Nat)
  | [], l, h => by cases h; rfl
  | d :: r, l, h => by
    unfold l3 at h
    split at h
    · rename_i heq; cases heq
    · rename_i n r' heq
      cases heq
      split at h
      · rename_i hn
        rw [Option.map_eq_some_iff] at h
        obtain ⟨l', h1, rfl⟩ := h
        rw [List.map_cons, ← nq h1, Int.toNat_of_nonneg hn]
      · cases h
    · cases h
theorem n7 : ∀ l : List Int, n9 (l.map (D.int .i64)) = some l
  | [] => rfl
  | k :: r => by rw [List.map_cons, n9, n7 r]; rfl
theorem n8 : ∀ {ds : List D} {l : List Int}, n9 ds = some l → ds = l.map (D.int .i64)
  | [], l, h => by cases h; rfl
  | d :: r, l, h => by
    unfold n9 at h
    split at h
    · rename_i heq; cases heq
    · rename_i n r' heq
      cases heq
      rw [Option.map_eq_some_iff] at h
      obtain ⟨l', h1, rfl⟩ := h
      rw [List.map_cons, ← n8 h1]
    · cases h
theorem xk : ∀ {ds : List D} {ns : List Cn}, cnsOf ds = some ns → ds.length = ns.length
  | [], ns, h => by cases h; rfl
  | d :: r, ns, h => by
    unfold cnsOf at h
    split at h
    · rename_i n l h1 h2
      cases h
      rw [List.length_cons, List.length_cons, xk h2]
    · cases h
theorem ah9 : ∀ {ds : List D} {ns : List Cn}, cnsOf ds = some ns → ∀ {p : Nat} {n : Cn}, ns[p]? = some n → ∃ d, ds[p]? = some d ∧ cnOf d = some n
  | [], ns, h, p, n, hp => by cases h; simp at hp
  | d :: r, ns, h, p, n, hp => by
    unfold cnsOf at h
    split at h
    · rename_i n' l h1 h2
      cases h
      cases p with
      | zero => simp at hp; subst hp; exact ⟨d, rfl, h1⟩
      | succ p => obtain ⟨d', h3, h4⟩ := ah9 h2 (by simpa using hp); exact ⟨d', by simpa using h3, h4⟩
    · cases h
theorem cnOf_inv {d : D} {n : Cn} (h : cnOf d = some n) : ∃ a b c e f g, d = .agg [.int .i64 n.kind, a, b, c, e, f, .sl (n.kids.map fun k => D.int .i64 (k : Nat)), .int .i64 n.par, g] := by
  unfold cnOf at h
  split at h
  · rw [Option.map_eq_some_iff] at h
    obtain ⟨l, h1, rfl⟩ := h
    rw [nq h1]
    exact ⟨_, _, _, _, _, _, rfl⟩
  · cases h
end Go.Ev
