/- The evaluator of Go code and its proofs, part 2. Own work. -/
import Derived.Test.YtnabebdceaoiiaaGreatDoorL1
import Derived.Laws.Cells
import Derived.Laws.Append
import Derived.Laws.IdiomCopy
import Derived.Laws.Strings
import Derived.Lib.Strings
import Derived.Laws.BytesString
set_option linter.unusedVariables false
set_option linter.unusedSimpArgs false
set_option linter.unusedSectionVars false
/-! EvE -/
/- What the evaluator's data say of the model's memory. Own work. -/
namespace Go.Ev
open Go

inductive Own where
  | outer
  | box (d k : Nat)
  | at (l : Loc)
  | res
  deriving DecidableEq

/-- who may write a block; where the boxes lie -/
structure Cx where
  ow : Nat → Option Own
  ad : Nat → Nat → Nat
  /-- the memory's size when the call began -/
  base : Nat := 0

abbrev ad3 (b o : Nat) : Addr := ⟨b, o, none⟩

/-- the value v, in the world w, reads as d; only through blocks of F -/
inductive Rd (F : Nat → Prop) (w : World) : Value → D → Prop
  | bool (b : Bool) : Rd F w (.bool b) (.bool b)
  | int (k : IntKind) (n : Int) : Rd F w (.int k n) (.int k n)
  | str (s : List UInt8) : Rd F w (.string ⟨s.toArray⟩) (.str s)
  | nilS (ad : Option Addr) : Rd F w (.slice ad 0 0) .nilS
  | unkB (b : Bool) : Rd F w (.bool b) .unkB
  | nilP : Rd F w (.pointer none) .nilP
  | nilI : Rd F w .nilIface .nilI
  | nilF : Rd F w .nilFunc .nilF
  | nilM : Rd F w (.map none) .nilM
  | fn (f : FuncId) : Rd F w (.func (.func f) #[] #[]) (.fn f)
  | unk (v : Value) (h : v.oneCell' = true) : Rd F w v .unk
  | ifc (t : TypeId) (v : Value) (d : D) (h : Rd F w v d) : Rd F w (.iface t v) (.ifc t d)
  | agg (vs : List Value) (cs : List D) (hl : vs.length = cs.length) (hc : ∀ c ∈ cs, c.isCell = true)
      (h : ∀ (i : Nat) v c, vs[i]? = some v → cs[i]? = some c → Rd F w v c) : Rd F w (.agg vs.toArray) (.agg cs)
  | tup (vs : List Value) (cs : List D) (hl : vs.length = cs.length)
      (h : ∀ (i : Nat) v c, vs[i]? = some v → cs[i]? = some c → Rd F w v c) : Rd F w (.tuple vs.toArray) (.tup cs)
  | ptr (b o : Nat) (e : D) (vs : Nat → Value) (hc : ∀ c ∈ e.cells, c.isCell = true)
      (hm : ∀ (j : Nat) c, e.cells[j]? = some c → F b ∧ w.cell? (ad3 b (o + j)) = some (vs j))
      (h : ∀ (j : Nat) c, e.cells[j]? = some c → Rd F w (vs j) c) : Rd F w (.pointer (some (ad3 b o))) (.ptr e)
  | slA (ad : Option Addr) (cap : Nat) : Rd F w (.slice ad 0 cap) (.sl [])
  | sl (b o len cap z : Nat) (es : List D) (vs : Nat → Nat → Value) (hlen : es.length = len) (hcap : len ≤ cap)
      (hz : ∀ e ∈ es, e.cells.length = z) (hc : ∀ e ∈ es, ∀ c ∈ e.cells, c.isCell = true)
      (hm : ∀ (i : Nat) e, es[i]? = some e → ∀ (j : Nat) c, e.cells[j]? = some c → F b ∧ w.cell? (ad3 b (o + i * z + j)) = some (vs i j))
      (h : ∀ (i : Nat) e, es[i]? = some e → ∀ (j : Nat) c, e.cells[j]? = some c → Rd F w (vs i j) c) : Rd F w (.slice (some (ad3 b o)) len cap) (.sl es)

/-- the cells from b, o on read as e's -/
def PtrAt (F : Nat → Prop) (w : World) (b o : Nat) (e : D) : Prop :=
  (∀ c ∈ e.cells, c.isCell = true) ∧ ∀ (j : Nat) c, e.cells[j]? = some c → ∃ v, F b ∧ w.cell? (ad3 b (o + j)) = some v ∧ Rd F w v c

theorem Rd.mono {F F' : Nat → Prop} {w w' : World} {v : Value} {d : D} (h : Rd F w v d)
    (hc : ∀ b o u, F b → w.cell? (ad3 b o) = some u → F' b ∧ w'.cell? (ad3 b o) = some u) : Rd F' w' v d := by
  induction h with
  | bool b => exact .bool b
  | int k n => exact .int k n
  | str s => exact .str s
  | nilS ad => exact .nilS ad
  | unkB b => exact .unkB b
  | slA ad cap => exact .slA ad cap
  | nilP => exact .nilP
  | nilI => exact .nilI
  | nilF => exact .nilF
  | nilM => exact .nilM
  | fn f => exact .fn f
  | unk v h => exact .unk v h
  | ifc t v d _ ih => exact .ifc t v d ih
  | agg vs cs hl hcc _ ih => exact .agg vs cs hl hcc ih
  | tup vs cs hl _ ih => exact .tup vs cs hl ih
  | ptr b o e vs hcc hm _ ih => exact .ptr b o e vs hcc (fun j c hj => hc b _ _ (hm j c hj).1 (hm j c hj).2) ih
  | sl b o len cap z es vs hlen hcap hz hcc hm _ ih =>
    exact .sl b o len cap z es vs hlen hcap hz hcc (fun i e he j c hj => hc b _ _ (hm i e he j c hj).1 (hm i e he j c hj).2) ih

theorem PtrAt.mono {F F' : Nat → Prop} {w w' : World} {b o : Nat} {e : D} (h : PtrAt F w b o e)
    (hc : ∀ b o u, F b → w.cell? (ad3 b o) = some u → F' b ∧ w'.cell? (ad3 b o) = some u) : PtrAt F' w' b o e :=
  ⟨h.1, fun j c hj => let ⟨v, h0, h1, h2⟩ := h.2 j c hj; ⟨v, (hc b _ _ h0 h1).1, (hc b _ _ h0 h1).2, h2.mono hc⟩⟩

/-- the array of elements es, z cells each, from b, o on, with room for cap elements -/
structure Arr (F : Nat → Prop) (w : World) (b o cap z : Nat) (es : List D) : Prop where
  pos : z ≠ 0
  room : ∀ j, j < cap * z → (∃ u, w.cell? (ad3 b (o + j)) = some u) ∧ w.frozen? (ad3 b (o + j)) = false
  wid : ∀ e ∈ es, e.cells.length = z
  cel : ∀ e ∈ es, ∀ c ∈ e.cells, c.isCell = true
  els : ∀ (i : Nat) e, es[i]? = some e → ∀ (j : Nat) c, e.cells[j]? = some c → ∃ v, w.cell? (ad3 b (o + i * z + j)) = some v ∧ Rd F w v c

def freeB (x : Cx) (b : Nat) : Prop := x.ow b = none

/-- the concrete value at a place -/
def conc (x : Cx) (a : Act) (w : World) : Loc → Option Value
  | .slot k => some (a.tmps.getD k undef)
  | .cell c => w.cell? (ad3 (x.ad c.d c.k) c.off)

/-- the value v, at the place l, is what the evaluator holds there -/
inductive RdV (x : Cx) (s : Get) (cv : Loc → Option Value) (w : World) : Option Loc → Value → V → Prop
  | d (l : Option Loc) (v : Value) (y : D) (h : Rd (freeB x) w v y) : RdV x s cv w l v (.d y)
  | own (l : Loc) (b o len cap z : Nat) (nw : Bool) (es : List D) (how : x.ow b = some (.at l)) (hlen : es.length = len) (hcap : len ≤ cap)
      (h : Arr (freeB x) w b o cap z es) : RdV x s cv w (some l) (.slice (some (ad3 b o)) len cap) (.own nw z es)
  | bor (l : Option Loc) (l' : Loc) (off len b o' cap' : Nat) (hcap : len ≤ cap')
      (h : ∀ z es, s l' = some (.own false z es) → ∃ o L C, cv l' = some (.slice (some (ad3 b o)) L C) ∧
        off + len ≤ es.length ∧ (len = 0 ∧ cap' = 0 ∨ o' = o + off * z) ∧
        (∀ j, j < cap' * z → (∃ u, w.cell? (ad3 b (o' + j)) = some u) ∧ w.frozen? (ad3 b (o' + j)) = false)) :
      RdV x s cv w l (.slice (some (ad3 b o')) len cap') (.bor l' off len)
  | bref (l : Option Loc) (l' : Loc) (i off b o' : Nat)
      (h : ∀ z es, s l' = some (.own false z es) → ∃ o L C, cv l' = some (.slice (some (ad3 b o)) L C) ∧ o' = o + i * z + off) :
      RdV x s cv w l (.pointer (some (ad3 b o'))) (.bref l' i off)
  | iptr (l : Option Loc) (b o off : Nat) (e : D) (h : PtrAt (freeB x) w b o e) : RdV x s cv w l (.pointer (some (ad3 b (o + off)))) (.iptr e off)
  | ref (l : Option Loc) (d k off : Nat) (h : (s (.cell ⟨d, k, 0⟩)).isSome) : RdV x s cv w l (.pointer (some (ad3 (x.ad d k) off))) (.ref d k off)
  | clo (l : Option Loc) (f : FuncId) (va vb : List Value) (xs ys : List V) (hl : va.length = xs.length) (hl' : vb.length = ys.length)
      (h : ∀ (i : Nat) v y, va[i]? = some v → xs[i]? = some y → RdV x s cv w none v y)
      (h' : ∀ (i : Nat) v y, vb[i]? = some v → ys[i]? = some y → RdV x s cv w none v y) :
      RdV x s cv w l (.func (.func f) va.toArray vb.toArray) (.clo f xs ys)
  | ifc (l : Option Loc) (t : TypeId) (v : Value) (y : V) (h : RdV x s cv w none v y) : RdV x s cv w l (.iface t v) (.ifc t y)
  | vec (l : Option Loc) (b o cap : Nat) (ys : List V) (vs : Nat → Value) (hcap : ys.length ≤ cap)
      (hm : ∀ (i : Nat) y, ys[i]? = some y → freeB x b ∧ w.cell? (ad3 b (o + i)) = some (vs i)) (h : ∀ (i : Nat) y, ys[i]? = some y → RdV x s cv w none (vs i) y) :
      RdV x s cv w l (.slice (some (ad3 b o)) ys.length cap) (.vec ys)
  | vref (l : Option Loc) (b o : Nat) (v : Value) (y : V) (hb : freeB x b) (hm : w.cell? (ad3 b o) = some v) (h : RdV x s cv w none v y) :
      RdV x s cv w l (.pointer (some (ad3 b o))) (.vref y)
  | rcd (l : Loc) (vs : List Value) (ys : List V) (hl : vs.length = ys.length) (h : ∀ (i : Nat) v y, vs[i]? = some v → ys[i]? = some y → RdV x s cv w (some l) v y)
      (hd : ∀ (i j : Nat) (p q : Addr) (L C L' C' : Nat) (n n' : Bool) (z z' : Nat) (es es' : List D), i ≠ j → ys[i]? = some (.own n z es) → ys[j]? = some (.own n' z' es') →
        vs[i]? = some (.slice (some p) L C) → vs[j]? = some (.slice (some q) L' C') → p.block ≠ q.block) : RdV x s cv w (some l) (.agg vs.toArray) (.rcd ys)
  | junk (l : Option Loc) (v : Value) : RdV x s cv w l v .junk

/-- no cell of block b is frozen -/
def NoFz (w : World) (b : Nat) : Prop := ∀ c e lo hi, w.heap[b]? = some (.cells c e (lo, hi)) → lo ≠ hi → c.size ≤ lo
/-- an array of the call's own -/
def Held (o : Option Own) : Prop := o = some .res ∨ ∃ l, o = some (.at l)
theorem NoFz.heap {w w' : World} {b : Nat} (h : NoFz w b) (e : w'.heap[b]? = w.heap[b]?) : NoFz w' b := fun c t lo hi h1 => h c t lo hi (by rw [← e]; exact h1)

/-- the cells of a package-level variable -/
def HoldsG (w : World) (n : Nat) (cs : Array Value) : Prop := ∃ t fr, w.heap[n]? = some (.cells cs t fr)
theorem HoldsG.heap {w w' : World} {n : Nat} {cs : Array Value} (h : HoldsG w n cs) (e : w'.heap[n]? = w.heap[n]?) : HoldsG w' n cs := let ⟨t, fr, h⟩ := h; ⟨t, fr, e.trans h⟩
theorem HoldsG.lt {w : World} {n : Nat} {cs : Array Value} (h : HoldsG w n cs) : n < w.heap.size := let ⟨_, _, h⟩ := h; (Array.getElem?_eq_some_iff.1 h).1

/-- what a range over a function leaves among a call's deferred calls -/
abbrev markD (D : Nat) : Deferred := { target := .collected D, args := #[] }
/-- the deferred calls are such marks alone, each of a block of its own that holds nothing -/
def DefsOk (x : Cx) (a : Act) (w : World) : Prop := ∃ l : List Nat, a.defers = l.map markD ∧ l.Nodup ∧ ∀ D ∈ l, x.base ≤ D ∧ x.ow D = some .outer ∧ w.heap[D]? = some (.deferred (some []))
theorem DefsOk.nil {x : Cx} {a : Act} {w : World} (h : a.defers = []) : DefsOk x a w := ⟨[], h, .nil, by simp⟩
theorem DefsOk.mono {x x' : Cx} {a a' : Act} {w w' : World} (h : DefsOk x a w) (hb : ∀ b, x.ow b ≠ none → b < w.heap.size) (ha : a'.defers = a.defers) (hz : x'.base = x.base)
    (hG : ∀ b, x.ow b = some .outer → b < w.heap.size → x'.ow b = x.ow b ∧ w'.heap[b]? = w.heap[b]?) : DefsOk x' a' w' := by
  obtain ⟨l, h1, h2, h3⟩ := h
  refine ⟨l, ha.trans h1, h2, fun D hD => ?_⟩
  obtain ⟨g0, g1, g2⟩ := h3 D hD
  obtain ⟨g3, g4⟩ := hG D g1 (hb D (by rw [g1]; simp))
  exact ⟨by rw [hz]; exact g0, g3.trans g1, g4.trans g2⟩

/-- the evaluator's state is the model's -/
structure Rel (cfg : Cfg) (x : Cx) (N : Nat) (s : Get) (a : Act) (w : World) : Prop where
  size : a.tmps.size = N
  defs : DefsOk x a w
  bound : ∀ b, x.ow b ≠ none → b < w.heap.size
  locs : ∀ l v, s l = some v → ∃ u, conc x a w l = some u ∧ RdV x s (conc x a w) w (some l) u v
  slotN : ∀ k v, s (.slot k) = some v → k < N
  box : ∀ c v, s (.cell c) = some v → x.ow (x.ad c.d c.k) = some (.box c.d c.k) ∧ (s (.cell ⟨c.d, c.k, 0⟩)).isSome ∧ w.frozen? (ad3 (x.ad c.d c.k) c.off) = false
  globs : ∀ n e, cfg.glob n = some e → PtrAt (freeB x) w n 0 e
  nofz : ∀ b, Held (x.ow b) → NoFz w b
  gobj : ∀ n ob, cfg.gobj n = some ob → x.ow n = none ∧ HoldsG w n ob

/-- nothing but memory and the count of draws is turned -/
def SameIO (w w' : World) : Prop := w'.os = w.os ∧ w'.tape = w.tape ∧ w'.output = w.output
theorem SameIO.refl (w : World) : SameIO w w := ⟨rfl, rfl, rfl⟩
theorem SameIO.trans {w w' w'' : World} (h : SameIO w w') (k : SameIO w' w'') : SameIO w w'' := ⟨k.1.trans h.1, k.2.1.trans h.2.1, k.2.2.trans h.2.2⟩

/-- cells stay, and stay free to be written -/
def Room (w w' : World) : Prop := ∀ b o u, w.cell? (ad3 b o) = some u → w.frozen? (ad3 b o) = false → (∃ u', w'.cell? (ad3 b o) = some u') ∧ w'.frozen? (ad3 b o) = false
theorem Room.refl (w : World) : Room w w := fun _ _ u h1 h2 => ⟨⟨u, h1⟩, h2⟩
theorem Room.trans {w w' w'' : World} (h : Room w w') (k : Room w' w'') : Room w w'' := fun b o u h1 h2 => let ⟨⟨u', h3⟩, h4⟩ := h b o u h1 h2; k b o u' h3 h4

/-- what a step leaves of the memory that is not the call's own -/
structure Fr (dep : Nat) (x x' : Cx) (w w' : World) : Prop where
  size : w.heap.size ≤ w'.heap.size
  same : ∀ b, b < w.heap.size → x.ow b = none ∨ x.ow b = some .outer → w'.heap[b]? = w.heap[b]? ∧ x'.ow b = x.ow b
  ad : ∀ d k, d < dep → x'.ad d k = x.ad d k
  io : SameIO w w'
  room : Room w w'
  base : x'.base = x.base

theorem Fr.refl (dep : Nat) (x : Cx) (w : World) : Fr dep x x w w := ⟨Nat.le_refl _, fun _ _ _ => ⟨rfl, rfl⟩, fun _ _ _ => rfl, .refl _, .refl _, rfl⟩

theorem Fr.trans {dep : Nat} {x x' x'' : Cx} {w w' w'' : World} (h : Fr dep x x' w w') (h' : Fr dep x' x'' w' w'') : Fr dep x x'' w w'' :=
  ⟨Nat.le_trans h.size h'.size, fun b hb ho =>
    let ⟨h1, h2⟩ := h.same b hb ho
    let ⟨h3, h4⟩ := h'.same b (Nat.lt_of_lt_of_le hb h.size) (by rw [h2]; exact ho)
    ⟨h3.trans h1, h4.trans h2⟩, fun d k hd => (h'.ad d k hd).trans (h.ad d k hd), h.io.trans h'.io, h.room.trans h'.room, h'.base.trans h.base⟩

/-- the same but for block K -/
structure FrK (K dep : Nat) (x x' : Cx) (w w' : World) : Prop where
  size : w.heap.size ≤ w'.heap.size
  same : ∀ b, b < w.heap.size → x.ow b = none ∨ x.ow b = some .outer → (b ≠ K → w'.heap[b]? = w.heap[b]?) ∧ x'.ow b = x.ow b
  ad : ∀ d k, d < dep → x'.ad d k = x.ad d k
  io : SameIO w w'
  room : Room w w'
  base : x'.base = x.base
theorem Fr.toK {dep : Nat} {x x' : Cx} {w w' : World} (h : Fr dep x x' w w') (K : Nat) : FrK K dep x x' w w' := ⟨h.size, fun b hb ho => ⟨fun _ => (h.same b hb ho).1, (h.same b hb ho).2⟩, h.ad, h.io, h.room, h.base⟩
theorem FrK.toFr {K dep : Nat} {x x' : Cx} {w w' : World} (h : FrK K dep x x' w w') (hK : w.heap.size ≤ K) : Fr dep x x' w w' := ⟨h.size, fun b hb ho => ⟨(h.same b hb ho).1 (by omega), (h.same b hb ho).2⟩, h.ad, h.io, h.room, h.base⟩
theorem FrK.trans {K dep : Nat} {x x' x'' : Cx} {w w' w'' : World} (h : FrK K dep x x' w w') (h' : FrK K dep x' x'' w' w'') : FrK K dep x x'' w w'' :=
  ⟨Nat.le_trans h.size h'.size, fun b hb ho =>
    let ⟨h1, h2⟩ := h.same b hb ho
    let ⟨h3, h4⟩ := h'.same b (Nat.lt_of_lt_of_le hb h.size) (by rw [h2]; exact ho)
    ⟨fun e => (h3 e).trans (h1 e), h4.trans h2⟩, fun d k hd => (h'.ad d k hd).trans (h.ad d k hd), h.io.trans h'.io, h.room.trans h'.room, h'.base.trans h.base⟩

theorem RdV.mono {x x' : Cx} {s s' : Get} {cv cv' : Loc → Option Value} {w w' : World} {l : Option Loc} {v : Value} {y : V} (h : RdV x s cv w l v y)
    (hc : ∀ b o u, x.ow b = none → w.cell? (ad3 b o) = some u → x'.ow b = none ∧ w'.cell? (ad3 b o) = some u)
    (hR : ∀ b o u, w.cell? (ad3 b o) = some u → w.frozen? (ad3 b o) = false → (∃ u', w'.cell? (ad3 b o) = some u') ∧ w'.frozen? (ad3 b o) = false)
    (hS : ∀ l' z es, s' l' = some (.own false z es) → ∃ es0, s l' = some (.own false z es0) ∧ es0.length = es.length ∧
      ∀ b o L C, cv l' = some (.slice (some (ad3 b o)) L C) → ∃ L' C', cv' l' = some (.slice (some (ad3 b o)) L' C'))
    (hB : ∀ d k, (s (.cell ⟨d, k, 0⟩)).isSome → (s' (.cell ⟨d, k, 0⟩)).isSome ∧ x'.ad d k = x.ad d k)
    (hO : ∀ l0, l = some l0 → ∀ b, x.ow b = some (.at l0) → x'.ow b = some (.at l0) ∧ ∀ o u, w.cell? (ad3 b o) = some u → w'.cell? (ad3 b o) = some u) :
    RdV x' s' cv' w' l v y := by
  induction h with
  | d l v y h => exact .d l v y (h.mono hc)
  | own l b o len cap z nw es how hlen hcap h =>
    obtain ⟨ho1, ho2⟩ := hO l rfl b how
    refine .own l b o len cap z nw es ho1 hlen hcap ⟨h.pos, fun j hj => ?_, h.wid, h.cel, fun i e he j c hj => ?_⟩
    · obtain ⟨⟨u, hu⟩, hf⟩ := h.room j hj
      exact hR b _ u hu hf
    · obtain ⟨v, h1, h2⟩ := h.els i e he j c hj
      exact ⟨v, ho2 _ _ h1, h2.mono hc⟩
  | bor l l' off len b o' cap' hcap h =>
    refine .bor l l' off len b o' cap' hcap fun z es hs => ?_
    obtain ⟨es0, h0, hl, hcv⟩ := hS l' z es hs
    obtain ⟨o, L, C, h1, h3, h5, h6⟩ := h z es0 h0
    obtain ⟨L', C', h7⟩ := hcv b o L C h1
    refine ⟨o, L', C', h7, hl ▸ h3, h5, fun j hj => ?_⟩
    obtain ⟨⟨u, hu⟩, hf⟩ := h6 j hj
    exact hR b _ u hu hf
  | bref l l' i off b o' h =>
    refine .bref l l' i off b o' fun z es hs => ?_
    obtain ⟨es0, h0, _, hcv⟩ := hS l' z es hs
    obtain ⟨o, L, C, h1, h2⟩ := h z es0 h0
    obtain ⟨L', C', h7⟩ := hcv b o L C h1
    exact ⟨o, L', C', h7, h2⟩
  | iptr l b o off e h => exact .iptr l b o off e (h.mono hc)
  | ref l d k off h =>
    obtain ⟨h1, h2⟩ := hB d k h
    rw [← h2]
    exact .ref l d k off h1
  | clo l f va vb xs ys hl hl' _ _ ih ih' =>
    exact .clo l f va vb xs ys hl hl' (fun i v y h1 h2 => ih i v y h1 h2 (by simp)) (fun i v y h1 h2 => ih' i v y h1 h2 (by simp))
  | ifc l t v y _ ih => exact .ifc l t v y (ih (by simp))
  | vec l b o cap ys vs hcap hm _ ih => exact .vec l b o cap ys vs hcap (fun i y hy => hc b _ _ (hm i y hy).1 (hm i y hy).2) (fun i y hy => ih i y hy (by simp))
  | rcd l vs ys hl _ hd ih => exact .rcd l vs ys hl (fun i v y h1 h2 => ih i v y h1 h2 hO) hd
  | vref l b o v y hb hm _ ih => exact .vref l b o v y (hc b _ _ hb hm).1 (hc b _ _ hb hm).2 (ih (by simp))
  | junk l v => exact .junk l v

def V.isOwn : V → Bool
  | .own _ _ _ | .rcd _ => true
  | _ => false

theorem RdV.reloc {x : Cx} {s : Get} {cv : Loc → Option Value} {w : World} {l l' : Option Loc} {v : Value} {y : V} (h : RdV x s cv w l v y) (hn : y.isOwn = false) :
    RdV x s cv w l' v y := by
  cases h with
  | d l v y h => exact .d _ _ _ h
  | own => simp [V.isOwn] at hn
  | rcd => simp [V.isOwn] at hn
  | bor l l' off len b o' cap' hcap h => exact .bor _ _ _ _ _ _ _ hcap h
  | bref l l' i off b o' h => exact .bref _ _ _ _ _ _ h
  | iptr l b o off e h => exact .iptr _ _ _ _ _ h
  | ref l d k off h => exact .ref _ _ _ _ h
  | clo l f va vb xs ys hl hl' h h' => exact .clo _ _ _ _ _ _ hl hl' h h'
  | ifc l t v y h => exact .ifc _ _ _ _ h
  | vec l b o cap ys vs hcap hm h => exact .vec _ _ _ _ _ _ hcap hm h
  | vref l b o v y hb hm h => exact .vref _ _ _ _ _ hb hm h
  | junk l v => exact .junk _ _

/-- a step, place by place -/
theorem Rel.step {cfg : Cfg} {x x' : Cx} {N : Nat} {s s' : Get} {a a' : Act} {w w' : World} (R : Rel cfg x N s a w) (U : List Loc)
    (h1 : a'.tmps.size = N) (h2 : a'.defers = a.defers) (hz : x'.base = x.base)
    (hb : ∀ b, x'.ow b ≠ none → b < w'.heap.size)
    (hs : ∀ l, l ∉ U → ∀ v, s' l = some v → s l = some v ∧ ∀ u, conc x a w l = some u → conc x' a' w' l = some u)
    (hU : ∀ l, l ∈ U → ∀ v, s' l = some v → ∃ u, conc x' a' w' l = some u ∧ RdV x' s' (conc x' a' w') w' (some l) u v)
    (hn : ∀ k, .slot k ∈ U → k < N)
    (hc : ∀ b o u, x.ow b = none → w.cell? (ad3 b o) = some u → x'.ow b = none ∧ w'.cell? (ad3 b o) = some u)
    (hR : ∀ b o u, w.cell? (ad3 b o) = some u → w.frozen? (ad3 b o) = false → (∃ u', w'.cell? (ad3 b o) = some u') ∧ w'.frozen? (ad3 b o) = false)
    (hS : ∀ l', l' ∈ U → ∀ z es, s' l' = some (.own false z es) → ∃ es0, s l' = some (.own false z es0) ∧ es0.length = es.length ∧
      ∀ b o L C, conc x a w l' = some (.slice (some (ad3 b o)) L C) → ∃ L' C', conc x' a' w' l' = some (.slice (some (ad3 b o)) L' C'))
    (hB : ∀ d k, (s (.cell ⟨d, k, 0⟩)).isSome → (s' (.cell ⟨d, k, 0⟩)).isSome ∧ x'.ad d k = x.ad d k)
    (hO : ∀ l0, l0 ∉ U → ∀ b, x.ow b = some (.at l0) → x'.ow b = some (.at l0) ∧ ∀ o u, w.cell? (ad3 b o) = some u → w'.cell? (ad3 b o) = some u)
    (hx : ∀ c v, s' (.cell c) = some v → x'.ow (x'.ad c.d c.k) = some (.box c.d c.k) ∧ (s' (.cell ⟨c.d, c.k, 0⟩)).isSome ∧ w'.frozen? (ad3 (x'.ad c.d c.k) c.off) = false) (hZ : ∀ b, Held (x'.ow b) → NoFz w' b)
    (hG : ∀ b, x.ow b = none ∨ x.ow b = some .outer → b < w.heap.size → x'.ow b = x.ow b ∧ w'.heap[b]? = w.heap[b]?) :
    Rel cfg x' N s' a' w' := by
  refine ⟨h1, R.defs.mono R.bound h2 hz (fun b h hb => hG b (.inr h) hb), hb, fun l v hl => ?_, fun k v hk => ?_, hx, fun n e hg => (R.globs n e hg).mono hc, hZ, fun n ob hg => ?_⟩
  rotate_left 2
  · obtain ⟨g1, g2⟩ := R.gobj n ob hg
    obtain ⟨g3, g4⟩ := hG n (.inl g1) g2.lt
    exact ⟨g3.trans g1, g2.heap g4⟩
  · by_cases hm : l ∈ U
    · exact hU l hm v hl
    · obtain ⟨h3, h4⟩ := hs l hm v hl
      obtain ⟨u, hu, hr⟩ := R.locs l v h3
      refine ⟨u, h4 u hu, hr.mono hc hR (fun l' z es hs' => ?_) hB (fun l0 e => ?_)⟩
      · by_cases hm' : l' ∈ U
        · exact hS l' hm' z es hs'
        · obtain ⟨h5, h6⟩ := hs l' hm' _ hs'
          exact ⟨es, h5, rfl, fun b o L C hcv => ⟨L, C, h6 _ hcv⟩⟩
      · cases e
        exact hO l hm
  · by_cases hm : Loc.slot k ∈ U
    · exact hn k hm
    · exact R.slotN k v (hs _ hm v hk).1

end Go.Ev

/-! EvF -/
/- Single steps: values put into slots, arrays handed on. Own work. -/
namespace Go.Ev
open Go

@[simp] theorem ij (s : Get) : updG s [] = s := rfl
theorem aq (s : Get) (l : Loc) (v : V) (r : List (Loc × V)) : updG s ((l, v) :: r) = updG (fun l' => if l' = l then some v else s l') r := rfl
theorem ao (s : Get) (l : Loc) (v : V) (l' : Loc) : updG s [(l, v)] l' = if l' = l then some v else s l' := rfl
theorem bi (s : Get) (u v : List (Loc × V)) : updG s (u ++ v) = updG (updG s u) v := by
  induction u generalizing s with
  | nil => rfl
  | cons p r ih => obtain ⟨l, y⟩ := p; simp only [List.cons_append, aq]; exact ih _

theorem e9 {x : Cx} {a : Act} {w : World} {k : Nat} {v : Value} (h : k < a.tmps.size) : conc x (a.put (some k) v) w (.slot k) = some v := by
  simp [conc, Act.put, h]
theorem p7 {x : Cx} {a : Act} {w : World} {k j : Nat} {v : Value} (h : j ≠ k) : conc x (a.put (some k) v) w (.slot j) = conc x a w (.slot j) := by
  simp [conc, Act.put, Array.getElem?_setIfInBounds_ne (Ne.symm h)]
theorem mg {x : Cx} {a : Act} {w : World} {k : Nat} {v : Value} {l : Loc} (h : l ≠ .slot k) : conc x (a.put (some k) v) w l = conc x a w l := by
  cases l with
  | slot j => exact p7 (fun e => h (e ▸ rfl))
  | cell c => rfl
theorem abg (a : Act) (d : Option Nat) (v : Value) : (a.put d v).tmps.size = a.tmps.size := by cases d <;> simp [Act.put]
theorem ah5 (a : Act) (d : Option Nat) (v : Value) : (a.put d v).defers = a.defers := by cases d <;> rfl

/-- block b goes to o -/
def Cx.give (x : Cx) (b : Nat) (o : Option Own) : Cx := { x with ow := fun b' => if b' = b then o else x.ow b' }
@[simp] theorem Cx.give_same (x : Cx) (b : Nat) (o : Option Own) : (x.give b o).ow b = o := by simp [Cx.give]
theorem Cx.give_ne (x : Cx) {b b' : Nat} (o : Option Own) (h : b' ≠ b) : (x.give b o).ow b' = x.ow b' := by simp [Cx.give, h]
@[simp] theorem Cx.give_ad (x : Cx) (b : Nat) (o : Option Own) : (x.give b o).ad = x.ad := rfl

section
variable {cfg : Cfg} {x : Cx} {N : Nat} {s : Get} {a : Act} {w : World}

theorem Rel.nofz_give (R : Rel cfg x N s a w) {b : Nat} {o : Option Own} (h : Held o → Held (x.ow b)) : ∀ b', Held ((x.give b o).ow b') → NoFz w b' := fun b' h' => by
  by_cases e : b' = b
  · subst e
    simp only [Cx.give, if_true] at h'
    exact R.nofz _ (h h')
  · rw [Cx.give_ne _ _ e] at h'
    exact R.nofz _ h'

/-- a value that is no array of the call's own, put into a slot -/
theorem Rel.putAt (R : Rel cfg x N s a w) {k : Nat} (hk : k < N) {v : Value} {y : V} (hy : ∀ z es, y ≠ .own false z es) (hv : RdV x s (conc x a w) w (some (.slot k)) v y) :
    Rel cfg x N (updG s [(.slot k, y)]) (a.put (some k) v) w := by
  have hs' : ∀ l', updG s [(.slot k, y)] l' = if l' = .slot k then some y else s l' := fun l' => rfl
  have hcv : ∀ l', l' ≠ .slot k → conc x (a.put (some k) v) w l' = conc x a w l' := fun l' h => mg h
  have hkk : conc x (a.put (some k) v) w (.slot k) = some v := e9 (by rw [R.size]; exact hk)
  have hS : ∀ l' z es, updG s [(.slot k, y)] l' = some (.own false z es) → s l' = some (.own false z es) ∧ conc x (a.put (some k) v) w l' = conc x a w l' := by
    intro l' z es h
    rw [hs'] at h
    split at h
    · cases h; exact absurd rfl (hy z es)
    · rename_i hne; exact ⟨h, hcv l' hne⟩
  have hB : ∀ d j, (s (.cell ⟨d, j, 0⟩)).isSome → (updG s [(.slot k, y)] (.cell ⟨d, j, 0⟩)).isSome ∧ x.ad d j = x.ad d j := by
    intro d j h; rw [hs']; simp [h]
  refine R.step [.slot k] (by rw [abg]; exact R.size) (by rw [ah5]) rfl R.bound (fun l' hl' v' h => ?_) (fun l' hl' v' h => ?_) (fun j hj => ?_)
    (fun b o u h1 h2 => ⟨h1, h2⟩) (fun b o u h1 h2 => ⟨⟨u, h1⟩, h2⟩) (fun l' hl' z es h => ?_) hB (fun l0 _ b h => ⟨h, fun _ _ h => h⟩) (fun c v' h => ?_) R.nofz (fun _ _ _ => ⟨rfl, rfl⟩)
  · have hne : l' ≠ .slot k := by simpa using hl'
    rw [hs', if_neg hne] at h
    exact ⟨h, fun u hu => by rw [hcv l' hne]; exact hu⟩
  · have he : l' = .slot k := by simpa using hl'
    subst he
    rw [hs', if_pos rfl] at h
    cases h
    refine ⟨v, hkk, hv.mono (fun b o u h1 h2 => ⟨h1, h2⟩) (fun b o u h1 h2 => ⟨⟨u, h1⟩, h2⟩) (fun l' z es h => ?_) hB (fun l0 _ b h => ⟨h, fun _ _ h => h⟩)⟩
    obtain ⟨h1, h2⟩ := hS l' z es h
    exact ⟨es, h1, rfl, fun b o L C hcv => ⟨L, C, by rw [h2]; exact hcv⟩⟩
  · have : j = k := by simpa using hj
    omega
  · obtain ⟨h1, h2⟩ := hS l' z es h
    exact ⟨es, h1, rfl, fun b o L C hcv => ⟨L, C, by rw [h2]; exact hcv⟩⟩
  · rw [hs', if_neg (by simp)] at h
    obtain ⟨h1, h2, h3⟩ := R.box c v' h
    exact ⟨h1, by rw [hs', if_neg (by simp)]; exact h2, h3⟩

theorem Rel.put (R : Rel cfg x N s a w) {k : Nat} (hk : k < N) {v : Value} {y : V} (hy : y.isOwn = false) {l : Option Loc} (hv : RdV x s (conc x a w) w l v y) :
    Rel cfg x N (updG s [(.slot k, y)]) (a.put (some k) v) w :=
  R.putAt hk (fun z es e => by subst e; simp [V.isOwn] at hy) (hv.reloc hy)

theorem Rel.congr (R : Rel cfg x N s a w) {s' : Get} (h : ∀ l, s' l = s l) : Rel cfg x N s' a w := by
  have : s' = s := funext h
  subst this
  exact R

theorem Arr.mono {F F' : Nat → Prop} {w w' : World} {b o cap z : Nat} {es : List D} (h : Arr F w b o cap z es)
    (hc : ∀ b o u, F b → w.cell? (ad3 b o) = some u → F' b ∧ w'.cell? (ad3 b o) = some u)
    (hb : ∀ o u, w.cell? (ad3 b o) = some u → w'.cell? (ad3 b o) = some u)
    (hR : ∀ o u, w.cell? (ad3 b o) = some u → w.frozen? (ad3 b o) = false → w'.frozen? (ad3 b o) = false) : Arr F' w' b o cap z es :=
  ⟨h.pos, fun j hj => let ⟨⟨u, hu⟩, hf⟩ := h.room j hj; ⟨⟨u, hb _ _ hu⟩, hR _ u hu hf⟩, h.wid, h.cel, fun i e he j c hj =>
    let ⟨v, h1, h2⟩ := h.els i e he j c hj
    ⟨v, hb _ _ h1, h2.mono hc⟩⟩

/-- an array read as data, its block being free -/
theorem Arr.rd {F : Nat → Prop} {w : World} {b o cap z len : Nat} {es : List D} (h : Arr F w b o cap z es) (hb : F b) (hl : es.length = len) (hcap : len ≤ cap) :
    Rd F w (.slice (some (ad3 b o)) len cap) (.sl es) := by
  have hv : ∀ i j, ∃ v, ∀ e, es[i]? = some e → ∀ c, e.cells[j]? = some c → w.cell? (ad3 b (o + i * z + j)) = some v ∧ Rd F w v c := by
    intro i j
    cases he : es[i]? with
    | none => exact ⟨undef, fun e h => by cases h⟩
    | some e =>
      cases hc : e.cells[j]? with
      | none => exact ⟨undef, fun e' h c h' => by cases h; rw [hc] at h'; cases h'⟩
      | some c =>
        obtain ⟨v, h1, h2⟩ := h.els i e he j c hc
        exact ⟨v, fun e' h c' h' => by cases h; rw [hc] at h'; cases h'; exact ⟨h1, h2⟩⟩
  exact .sl b o len cap z es (fun i j => (hv i j).choose) hl hcap h.wid h.cel
    (fun i e he j c hc => ⟨hb, ((hv i j).choose_spec e he c hc).1⟩) (fun i e he j c hc => ((hv i j).choose_spec e he c hc).2)

/-- what is known of a place may be forgotten -/
theorem Rel.forget (R : Rel cfg x N s a w) {l0 : Loc} (h0 : (s l0).isSome) : Rel cfg x N (updG s [(l0, .junk)]) a w := by
  have hs' : ∀ l', updG s [(l0, .junk)] l' = if l' = l0 then some .junk else s l' := fun l' => rfl
  have hB : ∀ d j, (s (.cell ⟨d, j, 0⟩)).isSome → (updG s [(l0, .junk)] (.cell ⟨d, j, 0⟩)).isSome ∧ x.ad d j = x.ad d j := by
    intro d j h; rw [hs']; split <;> simp [h]
  refine R.step [l0] R.size rfl rfl R.bound (fun l' hl' v' h => ?_) (fun l' hl' v' h => ?_) (fun j hj => ?_)
    (fun b o u h1 h2 => ⟨h1, h2⟩) (fun b o u h1 h2 => ⟨⟨u, h1⟩, h2⟩) (fun l' hl' z es h => ?_) hB (fun l0 _ b h => ⟨h, fun _ _ h => h⟩) (fun c v' h => ?_) R.nofz (fun _ _ _ => ⟨rfl, rfl⟩)
  · have hne : l' ≠ l0 := by simpa using hl'
    rw [hs', if_neg hne] at h
    exact ⟨h, fun u hu => hu⟩
  · have he : l' = l0 := by simpa using hl'
    subst he
    rw [hs', if_pos rfl] at h
    cases h
    obtain ⟨v0, hv0⟩ := Option.isSome_iff_exists.1 h0
    obtain ⟨u, hu, _⟩ := R.locs l' v0 hv0
    exact ⟨u, hu, .junk _ _⟩
  · obtain ⟨v0, hv0⟩ := Option.isSome_iff_exists.1 h0
    have : l0 = .slot j := (List.mem_singleton.1 hj).symm
    exact R.slotN j v0 (this ▸ hv0)
  · have he : l' = l0 := by simpa using hl'
    subst he
    rw [hs', if_pos rfl] at h
    cases h
  · obtain ⟨v0, hv0⟩ := Option.isSome_iff_exists.1 h0
    rw [hs'] at h
    split at h
    · rename_i he
      obtain ⟨h1, h2, h3⟩ := R.box c v0 (he ▸ hv0)
      exact ⟨h1, (hB _ _ h2).1, h3⟩
    · obtain ⟨h1, h2, h3⟩ := R.box c v' h
      exact ⟨h1, (hB _ _ h2).1, h3⟩

/-- the array at l0 handed on to slot k, under a new header -/
theorem Rel.hand (R : Rel cfg x N s a w) {k : Nat} (hk : k < N) {l0 : Loc} (hne : l0 ≠ .slot k) {nw : Bool} {z : Nat} {es : List D} (h0 : s l0 = some (.own nw z es))
    {b : Nat} (how : x.ow b = some (.at l0)) {o len cap : Nat} {es' : List D} (hA : Arr (freeB x) w b o cap z es') (hl : es'.length = len) (hcap : len ≤ cap) :
    Rel cfg (x.give b (some (.at (.slot k)))) N (updG s [(.slot k, .own true z es'), (l0, .junk)]) (a.put (some k) (.slice (some (ad3 b o)) len cap)) w := by
  have hs' : ∀ l', updG s [(.slot k, .own true z es'), (l0, .junk)] l' = if l' = l0 then some .junk else if l' = .slot k then some (.own true z es') else s l' := fun l' => rfl
  have hx : ∀ b', x.ow b' = none → (x.give b (some (.at (.slot k)))).ow b' = none := fun b' h => by
    rw [Cx.give_ne]; · exact h
    intro e; rw [e, how] at h; cases h
  have hB : ∀ d j, (s (.cell ⟨d, j, 0⟩)).isSome → (updG s [(.slot k, .own true z es'), (l0, .junk)] (.cell ⟨d, j, 0⟩)).isSome ∧ (x.give b (some (.at (.slot k)))).ad d j = x.ad d j := by
    intro d j h; rw [hs']; split <;> simp [h]
  have hkk : conc (x.give b (some (.at (.slot k)))) (a.put (some k) (.slice (some (ad3 b o)) len cap)) w (.slot k) = some (.slice (some (ad3 b o)) len cap) :=
    e9 (by rw [R.size]; exact hk)
  have hcv : ∀ l', l' ≠ .slot k → conc (x.give b (some (.at (.slot k)))) (a.put (some k) (.slice (some (ad3 b o)) len cap)) w l' = conc x a w l' := fun l' h => by
    rw [mg h]; cases l' <;> rfl
  refine R.step [.slot k, l0] (by rw [abg]; exact R.size) (by rw [ah5]) rfl (fun b' hb' => ?_) (fun l' hl' v' h => ?_) (fun l' hl' v' h => ?_) (fun j hj => ?_)
    (fun b o u h1 h2 => ⟨hx b h1, h2⟩) (fun b o u h1 h2 => ⟨⟨u, h1⟩, h2⟩) (fun l' hl' z es h => ?_) hB (fun l1 hl1 b1 h1 => ⟨?_, fun _ _ h => h⟩) (fun c v' h => ?_) (R.nofz_give (fun _ => .inr ⟨_, how⟩)) (fun b' h _ => ⟨Cx.give_ne _ _ (fun e => by subst e; rw [how] at h; rcases h with h | h <;> cases h), rfl⟩)
  · by_cases e : b' = b
    · subst e; exact R.bound _ (by rw [how]; simp)
    · rw [Cx.give_ne _ _ e] at hb'; exact R.bound _ hb'
  · simp only [List.mem_cons, List.not_mem_nil, or_false, not_or] at hl'
    rw [hs', if_neg hl'.2, if_neg hl'.1] at h
    exact ⟨h, fun u hu => by rw [hcv l' hl'.1]; exact hu⟩
  · rw [hs'] at h
    simp only [List.mem_cons, List.not_mem_nil, or_false] at hl'
    by_cases e : l' = l0
    · rw [if_pos e] at h
      cases h
      obtain ⟨u, hu, _⟩ := R.locs l0 _ h0
      exact ⟨u, by rw [e, hcv l0 hne]; exact hu, .junk _ _⟩
    · rw [if_neg e] at h
      rcases hl' with hl' | hl'
      · subst hl'
        rw [if_pos rfl] at h
        cases h
        exact ⟨_, hkk, .own _ b o len cap z true es' (by simp) hl hcap (hA.mono (fun b o u h1 h2 => ⟨hx b h1, h2⟩) (fun _ _ h => h) (fun _ _ _ h => h))⟩
      · exact absurd hl' e
  · simp only [List.mem_cons, List.not_mem_nil, or_false] at hj
    rcases hj with hj | hj
    · cases hj; exact hk
    · exact R.slotN j _ (hj ▸ h0)
  · rw [hs'] at h
    split at h
    · cases h
    · split at h
      · cases h
      · simp_all
  · simp only [List.mem_cons, List.not_mem_nil, or_false, not_or] at hl1
    rw [Cx.give_ne]; · exact h1
    intro e; rw [e, how] at h1; cases h1; exact hl1.2 rfl
  · have key : ∀ v0, s (.cell c) = some v0 → (x.give b (some (.at (.slot k)))).ow (x.ad c.d c.k) = some (.box c.d c.k) ∧
        (updG s [(.slot k, .own true z es'), (l0, .junk)] (.cell ⟨c.d, c.k, 0⟩)).isSome ∧ w.frozen? (ad3 (x.ad c.d c.k) c.off) = false := fun v0 hv0 => by
      obtain ⟨h1, h2, h3⟩ := R.box c v0 hv0
      refine ⟨?_, (hB _ _ h2).1, h3⟩
      rw [Cx.give_ne]; · exact h1
      intro e; rw [e, how] at h1; cases h1
    rw [hs'] at h
    split at h
    · rename_i e; exact key _ (e ▸ h0)
    · rw [if_neg (by simp)] at h; exact key _ h

/-- the array at l0 is given up: from now on it is data -/
theorem Rel.release (R : Rel cfg x N s a w) {l0 : Loc} {nw : Bool} {z : Nat} {es : List D} (h0 : s l0 = some (.own nw z es)) :
    ∃ b, x.ow b = some (.at l0) ∧ (∃ o L C, conc x a w l0 = some (.slice (some (ad3 b o)) L C)) ∧ Rel cfg (x.give b none) N (updG s [(l0, .d (.sl es))]) a w := by
  obtain ⟨u, hu, hr⟩ := R.locs l0 _ h0
  cases hr with
  | own l b o len cap z nw es how hlen hcap hA =>
  refine ⟨b, how, ⟨o, len, cap, hu⟩, ?_⟩
  have hs' : ∀ l', updG s [(l0, .d (.sl es))] l' = if l' = l0 then some (.d (.sl es)) else s l' := fun l' => rfl
  have hx : ∀ b', x.ow b' = none → (x.give b none).ow b' = none := fun b' h => by
    simp only [Cx.give]; split <;> simp_all
  have hB : ∀ d j, (s (.cell ⟨d, j, 0⟩)).isSome → (updG s [(l0, .d (.sl es))] (.cell ⟨d, j, 0⟩)).isSome ∧ (x.give b none).ad d j = x.ad d j := by
    intro d j h; rw [hs']; split <;> simp [h]
  have hcv : ∀ l', conc (x.give b none) a w l' = conc x a w l' := fun l' => by cases l' <;> rfl
  refine R.step [l0] R.size rfl rfl (fun b' hb' => ?_) (fun l' hl' v' h => ?_) (fun l' hl' v' h => ?_) (fun j hj => ?_)
    (fun b o u h1 h2 => ⟨hx b h1, h2⟩) (fun b o u h1 h2 => ⟨⟨u, h1⟩, h2⟩) (fun l' hl' z es h => ?_) hB (fun l1 hl1 b1 h1 => ⟨?_, fun _ _ h => h⟩) (fun c v' h => ?_) (R.nofz_give (fun h => by rcases h with h | ⟨_, h⟩ <;> cases h)) (fun b' h _ => ⟨Cx.give_ne _ _ (fun e => by subst e; rw [how] at h; rcases h with h | h <;> cases h), rfl⟩)
  · by_cases e : b' = b
    · subst e; simp at hb'
    · rw [Cx.give_ne _ _ e] at hb'; exact R.bound _ hb'
  · have hne : l' ≠ l0 := by simpa using hl'
    rw [hs', if_neg hne] at h
    exact ⟨h, fun u hu => by rw [hcv]; exact hu⟩
  · have he : l' = l0 := by simpa using hl'
    subst he
    rw [hs', if_pos rfl] at h
    cases h
    exact ⟨_, by rw [hcv]; exact hu, .d _ _ _ ((hA.mono (fun b o u h1 h2 => ⟨hx b h1, h2⟩) (fun _ _ h => h) (fun _ _ _ h => h)).rd (Cx.give_same _ _ _) hlen hcap)⟩
  · have : l0 = .slot j := (List.mem_singleton.1 hj).symm
    exact R.slotN j _ (this ▸ h0)
  · have he : l' = l0 := by simpa using hl'
    subst he
    rw [hs', if_pos rfl] at h
    cases h
  · have hne : l1 ≠ l0 := by simpa using hl1
    rw [Cx.give_ne]; · exact h1
    intro e; rw [e, how] at h1; cases h1; exact hne rfl
  · have key : ∀ v0, s (.cell c) = some v0 → (x.give b none).ow (x.ad c.d c.k) = some (.box c.d c.k) ∧
        (updG s [(l0, .d (.sl es))] (.cell ⟨c.d, c.k, 0⟩)).isSome ∧ w.frozen? (ad3 (x.ad c.d c.k) c.off) = false := fun v0 hv0 => by
      obtain ⟨h1, h2, h3⟩ := R.box c v0 hv0
      refine ⟨?_, (hB _ _ h2).1, h3⟩
      rw [Cx.give_ne]; · exact h1
      intro e; rw [e, how] at h1; cases h1
    rw [hs'] at h
    split at h
    · rename_i e; exact key _ (e ▸ h0)
    · exact key _ h

/-- a block whose owner's place holds no array now goes to another place -/
theorem Rel.relabel (R : Rel cfg x N s a w) {l0 : Loc} {b : Nat} (how : x.ow b = some (.at l0)) (h0 : ∀ v, s l0 = some v → v.isOwn = false) (hn : ∀ k, l0 = .slot k → k < N) (l1 : Loc) :
    Rel cfg (x.give b (some (.at l1))) N s a w := by
  have hx : ∀ b', x.ow b' = none → (x.give b (some (.at l1))).ow b' = none := fun b' h => by
    rw [Cx.give_ne]; · exact h
    intro e; rw [e, how] at h; cases h
  have hcv : ∀ l', conc (x.give b (some (.at l1))) a w l' = conc x a w l' := fun l' => by cases l' <;> rfl
  refine R.step [l0] R.size rfl rfl (fun b' hb' => ?_) (fun l' hl' v' h => ⟨h, fun u hu => by rw [hcv]; exact hu⟩) (fun l' hl' v' h => ?_) (fun j hj => hn j (List.mem_singleton.1 hj).symm)
    (fun b o u h1 h2 => ⟨hx b h1, h2⟩) (fun b o u h1 h2 => ⟨⟨u, h1⟩, h2⟩) (fun l' hl' z es h => ?_) (fun d k h => ⟨h, rfl⟩) (fun l2 hl2 b2 h2 => ⟨?_, fun _ _ h => h⟩) (fun c v' h => ?_) (R.nofz_give (fun _ => .inr ⟨_, how⟩)) (fun b' h _ => ⟨Cx.give_ne _ _ (fun e => by subst e; rw [how] at h; rcases h with h | h <;> cases h), rfl⟩)
  · by_cases e : b' = b
    · subst e; exact R.bound _ (by rw [how]; simp)
    · rw [Cx.give_ne _ _ e] at hb'; exact R.bound _ hb'
  · have he : l' = l0 := by simpa using hl'
    subst he
    obtain ⟨u, hu, hr⟩ := R.locs _ _ h
    refine ⟨u, by rw [hcv]; exact hu, ((hr.reloc (l' := none) (h0 _ h)).mono (fun b o u h1 h2 => ⟨hx b h1, h2⟩) (fun b o u h1 h2 => ⟨⟨u, h1⟩, h2⟩) (fun l2 z es hs => ⟨es, hs, rfl, fun b o L C hc => ⟨L, C, by rw [hcv]; exact hc⟩⟩) (fun d k h => ⟨h, rfl⟩) (fun l0 e => by cases e)).reloc (h0 _ h)⟩
  · have he : l' = l0 := by simpa using hl'
    subst he
    have := h0 _ h
    simp [V.isOwn] at this
  · have hne : l2 ≠ l0 := by simpa using hl2
    rw [Cx.give_ne]; · exact h2
    intro e; rw [e, how] at h2; cases h2; exact hne rfl
  · obtain ⟨h1, h2, h3⟩ := R.box c v' h
    refine ⟨?_, h2, h3⟩
    rw [Cx.give_ad, Cx.give_ne]; · exact h1
    intro e; rw [e, how] at h1; cases h1

theorem Fr.give {dep : Nat} {l0 : Loc} {b : Nat} (how : x.ow b = some (.at l0)) (o : Option Own) : Fr dep x (x.give b o) w w :=
  ⟨Nat.le_refl _, fun b' _ h => ⟨rfl, Cx.give_ne _ _ (fun e => by rw [e, how] at h; simp at h)⟩, fun _ _ _ => rfl, .refl _, .refl _, rfl⟩

end
end Go.Ev

/-! EvG -/
/- Steps that write or make memory. Own work. -/
namespace Go.Ev
open Go

/-- only cells of block b are turned -/
structure OnlyB (b : Nat) (w w' : World) : Prop where
  size : w'.heap.size = w.heap.size
  other : ∀ b', b' ≠ b → w'.heap[b']? = w.heap[b']?
  froz : ∀ o, (∃ u, w.cell? (ad3 b o) = some u) → w'.frozen? (ad3 b o) = w.frozen? (ad3 b o)
  keep : ∀ o u, w.cell? (ad3 b o) = some u → ∃ u', w'.cell? (ad3 b o) = some u'
  io : SameIO w w'
  nofz : NoFz w b → NoFz w' b

theorem a7 {w w' : World} {b o : Nat} (h : w'.heap[b]? = w.heap[b]?) : w'.cell? (ad3 b o) = w.cell? (ad3 b o) := by simp [World.cell?, h]
theorem bl {w w' : World} {b o : Nat} (h : w'.heap[b]? = w.heap[b]?) : w'.frozen? (ad3 b o) = w.frozen? (ad3 b o) := by simp [World.frozen?, h]
theorem OnlyB.cell {b b' o : Nat} {w w' : World} (h : OnlyB b w w') (hb : b' ≠ b) : w'.cell? (ad3 b' o) = w.cell? (ad3 b' o) := a7 (h.other b' hb)
theorem OnlyB.frozen {b b' o : Nat} {w w' : World} (h : OnlyB b w w') (hb : b' ≠ b) : w'.frozen? (ad3 b' o) = w.frozen? (ad3 b' o) := bl (h.other b' hb)

theorem OnlyB.room {b : Nat} {w w' : World} (h : OnlyB b w w') : Room w w' := fun b' o u h1 h2 => by
  by_cases e : b' = b
  · subst e
    exact ⟨h.keep o u h1, by rw [h.froz o ⟨u, h1⟩]; exact h2⟩
  · exact ⟨⟨u, by rw [h.cell e]; exact h1⟩, by rw [h.frozen e]; exact h2⟩

theorem fv (w : World) (a : Addr) (v : Value) {b' : Nat} (h : b' ≠ a.block) : (w.setCell a v).heap[b']? = w.heap[b']? := by
  simp only [World.setCell, Array.getElem?_modify]
  rw [if_neg (Ne.symm h)]

theorem da (b : Nat) : ∀ (vs : List Value) (o : Nat) (w : World) {b' : Nat}, b' ≠ b → (w.setCells b o vs).heap[b']? = w.heap[b']?
  | [], _, _, _, _ => rfl
  | v :: r, o, w, b', h => by rw [World.setCells, da b r (o + 1) _ h, fv _ _ _ h]

theorem er (b : Nat) : ∀ (vs : List Value) (o : Nat) (w : World), (w.setCells b o vs).heap.size = w.heap.size
  | [], _, _ => rfl
  | v :: r, o, w => by rw [World.setCells, er b r, World.size_setCell]

theorem j6 (w : World) (a b : Addr) (v : Value) {u : Value} (h : w.cell? b = some u) : ∃ u', (w.setCell a v).cell? b = some u' := by
  by_cases e : a = b
  · subst e; exact ⟨v, World.cell?_setCell_same _ _ _ h⟩
  · exact ⟨u, by rw [World.cell?_setCell_other _ _ _ _ e]; exact h⟩

theorem de (b : Nat) : ∀ (vs : List Value) (o : Nat) (w : World) (p : Addr) {u : Value}, w.cell? p = some u → ∃ u', (w.setCells b o vs).cell? p = some u'
  | [], _, _, _, u, h => ⟨u, h⟩
  | v :: r, o, w, p, u, h => by
    obtain ⟨u', h'⟩ := j6 w ⟨b, o, none⟩ p v h
    exact de b r (o + 1) _ p h'

theorem g7 (b : Nat) : ∀ (vs : List Value) (o : Nat) (w : World), SameIO w (w.setCells b o vs)
  | [], _, _ => .refl _
  | v :: r, o, w => SameIO.trans (w' := w.setCell ⟨b, o, none⟩ v) ⟨rfl, rfl, rfl⟩ (g7 b r (o + 1) _)

theorem wk {w : World} (a : Addr) (v : Value) {b : Nat} (h : NoFz w b) : NoFz (w.setCell a v) b := by
  intro c e lo hi h1 h2
  simp only [World.setCell, Array.getElem?_modify] at h1
  split at h1
  · cases hw : w.heap[b]? with
    | none => rw [hw] at h1; cases h1
    | some ob =>
      rw [hw] at h1
      simp only [Option.map_some, Option.some.injEq] at h1
      cases ob with
      | cells c' e' fr =>
        simp only [Obj.cells.injEq] at h1
        obtain ⟨h3, _, h4⟩ := h1
        subst h4
        have := h c' e' lo hi hw h2
        rw [← h3]
        split <;> simp [this]
      | _ => cases h1
  · exact h c e lo hi h1 h2
theorem iw (b : Nat) {b' : Nat} : ∀ (vs : List Value) (o : Nat) (w : World), NoFz w b' → NoFz (w.setCells b o vs) b'
  | [], _, _, h => h
  | v :: r, o, w, h => iw b r (o + 1) _ (wk _ v h)

/-- an object without frozen cells -/
def NoFzO : Obj → Prop
  | .cells c _ (lo, hi) => lo ≠ hi → c.size ≤ lo
  | _ => True

theorem br (w : World) (b o : Nat) (vs : List Value) : OnlyB b w (w.setCells b o vs) :=
  ⟨er b vs o w, fun _ h => da b vs o w h, fun _ _ => World.frozen?_setCells b vs o w _, fun _ _ h => de b vs o w _ h, g7 b vs o w, iw b vs o w⟩

theorem bz (w : World) (b o : Nat) (v : Value) : OnlyB b w (w.setCell (ad3 b o) v) := br w b o [v]

section
variable {cfg : Cfg} {x : Cx} {N : Nat} {s : Get} {a : Act} {w : World}

theorem Rel.nofz_only (R : Rel cfg x N s a w) {b : Nat} {w' : World} (hw : OnlyB b w w') : ∀ b', Held (x.ow b') → NoFz w' b' := fun b' h => by
  by_cases e : b' = b
  · subst e; exact hw.nofz (R.nofz _ h)
  · exact (R.nofz _ h).heap (hw.other _ e)

/-- the array at l0 written in place -/
theorem Rel.write (R : Rel cfg x N s a w) {l0 : Loc} {nw : Bool} {z : Nat} {es : List D} (h0 : s l0 = some (.own nw z es))
    {b o len cap : Nat} (hv : conc x a w l0 = some (.slice (some (ad3 b o)) len cap)) (how : x.ow b = some (.at l0)) {w' : World} (hw : OnlyB b w w') {es' : List D}
    (hA : Arr (freeB x) w' b o cap z es') (hl : es'.length = es.length) (hlen : es.length = len) (hcap : len ≤ cap) :
    Rel cfg x N (updG s [(l0, .own nw z es')]) a w' := by
  have hs' : ∀ l', updG s [(l0, .own nw z es')] l' = if l' = l0 then some (.own nw z es') else s l' := fun l' => rfl
  have hB : ∀ d j, (s (.cell ⟨d, j, 0⟩)).isSome → (updG s [(l0, .own nw z es')] (.cell ⟨d, j, 0⟩)).isSome ∧ x.ad d j = x.ad d j := by
    intro d j h; rw [hs']; split <;> simp [h]
  have hcv : ∀ l' v, s l' = some v → conc x a w' l' = conc x a w l' := fun l' v h => by
    cases l' with
    | slot k => rfl
    | cell c =>
      obtain ⟨h1, _, _⟩ := R.box c v h
      exact hw.cell (fun e => by rw [e, how] at h1; cases h1)
  have hbn : ∀ b', x.ow b' ≠ x.ow b → b' ≠ b := fun b' h e => h (e ▸ rfl)
  refine R.step [l0] R.size rfl rfl (fun b' hb' => hw.size ▸ R.bound b' hb') (fun l' hl' v' h => ?_) (fun l' hl' v' h => ?_) (fun j hj => ?_)
    (fun b1 o1 u h1 h2 => ⟨h1, by rw [hw.cell (hbn b1 (by rw [h1, how]; simp))]; exact h2⟩) (fun b1 o1 u h1 h2 => ?_) (fun l' hl' z' es1 h => ?_) hB (fun l1 hl1 b1 h1 => ⟨h1, fun o1 u h => ?_⟩) (fun c v' h => ?_) (R.nofz_only hw) (fun b1 h _ => ⟨rfl, hw.other b1 (hbn b1 (by rcases h with h | h <;> rw [h, how] <;> simp))⟩)
  · have hne : l' ≠ l0 := by simpa using hl'
    rw [hs', if_neg hne] at h
    exact ⟨h, fun u hu => by rw [hcv l' v' h]; exact hu⟩
  · have he : l' = l0 := by simpa using hl'
    subst he
    rw [hs', if_pos rfl] at h
    cases h
    exact ⟨_, by rw [hcv _ _ h0]; exact hv, .own _ b o len cap z nw es' how (by omega) hcap hA⟩
  · have : l0 = .slot j := (List.mem_singleton.1 hj).symm
    exact R.slotN j _ (this ▸ h0)
  · by_cases e : b1 = b
    · subst e
      exact ⟨hw.keep _ _ h1, by rw [hw.froz _ ⟨u, h1⟩]; exact h2⟩
    · exact ⟨⟨u, by rw [hw.cell e]; exact h1⟩, by rw [hw.frozen e]; exact h2⟩
  · have he : l' = l0 := by simpa using hl'
    subst he
    rw [hs', if_pos rfl] at h
    cases h
    exact ⟨es, h0, hl.symm, fun b2 o2 L C hc => ⟨L, C, by rw [hcv _ _ h0]; exact hc⟩⟩
  · have hne : l1 ≠ l0 := by simpa using hl1
    rw [hw.cell (hbn b1 (by rw [h1, how]; simp [hne]))]
    exact h
  · have key : ∀ v0, s (.cell c) = some v0 → x.ow (x.ad c.d c.k) = some (.box c.d c.k) ∧ (updG s [(l0, .own nw z es')] (.cell ⟨c.d, c.k, 0⟩)).isSome ∧ w'.frozen? (ad3 (x.ad c.d c.k) c.off) = false := fun v0 hv0 => by
      obtain ⟨h1, h2, h3⟩ := R.box c v0 hv0
      refine ⟨h1, (hB _ _ h2).1, ?_⟩
      rw [hw.frozen (fun e => by rw [e, how] at h1; cases h1)]
      exact h3
    rw [hs'] at h
    split at h
    · rename_i e; exact key _ (e ▸ h0)
    · exact key _ h

theorem Fr.write {dep : Nat} {l0 : Loc} {b : Nat} {w' : World} (how : x.ow b = some (.at l0)) (hw : OnlyB b w w') : Fr dep x x w w' :=
  ⟨by rw [hw.size]; exact Nat.le_refl _, fun b' _ h => ⟨hw.other b' (fun e => by rw [e, how] at h; simp at h), rfl⟩, fun _ _ _ => rfl, hw.io, hw.room, rfl⟩

/-- a cell of a box written: data, addresses, functions -/
theorem Rel.setBox (R : Rel cfg x N s a w) {c : Cel} {old : V} (h0 : s (.cell c) = some old) {v : Value} {y : V} (hy : y.isOwn = false) {l : Option Loc}
    (hv : RdV x s (conc x a w) w l v y) : Rel cfg x N (updG s [(.cell c, y)]) a (w.setCell (ad3 (x.ad c.d c.k) c.off) v) := by
  obtain ⟨hbx, hal, hfz⟩ := R.box c old h0
  obtain ⟨u0, hu0, _⟩ := R.locs _ _ h0
  have hu0' : w.cell? (ad3 (x.ad c.d c.k) c.off) = some u0 := hu0
  have hw := bz w (x.ad c.d c.k) c.off v
  have hs' : ∀ l', updG s [(.cell c, y)] l' = if l' = .cell c then some y else s l' := fun l' => rfl
  have hB : ∀ d j, (s (.cell ⟨d, j, 0⟩)).isSome → (updG s [(.cell c, y)] (.cell ⟨d, j, 0⟩)).isSome ∧ x.ad d j = x.ad d j := by
    intro d j h; rw [hs']; split <;> simp [h]
  have hcv : ∀ l' v', s l' = some v' → l' ≠ .cell c → conc x a (w.setCell (ad3 (x.ad c.d c.k) c.off) v) l' = conc x a w l' := fun l' v' h hne => by
    cases l' with
    | slot k => rfl
    | cell c' =>
      refine World.cell?_setCell_other _ _ _ _ (fun e => hne ?_)
      simp only [Addr.mk.injEq, and_true] at e
      obtain ⟨h1, _, _⟩ := R.box c' v' h
      rw [← e.1, hbx] at h1
      obtain ⟨c1, c2, c3⟩ := c; obtain ⟨c1', c2', c3'⟩ := c'
      simp only [Option.some.injEq, Own.box.injEq] at h1
      simp only at e
      simp [h1.1, h1.2, e.2]
  have hbn : ∀ b', x.ow b' ≠ some (.box c.d c.k) → b' ≠ x.ad c.d c.k := fun b' h e => h (by rw [e]; exact hbx)
  have hS : ∀ l' z es, updG s [(.cell c, y)] l' = some (.own false z es) → s l' = some (.own false z es) ∧ conc x a (w.setCell (ad3 (x.ad c.d c.k) c.off) v) l' = conc x a w l' := by
    intro l' z es h
    rw [hs'] at h
    split at h
    · cases h; simp [V.isOwn] at hy
    · rename_i hne; exact ⟨h, hcv l' _ h hne⟩
  have hR : ∀ b o u, w.cell? (ad3 b o) = some u → w.frozen? (ad3 b o) = false → (∃ u', (w.setCell (ad3 (x.ad c.d c.k) c.off) v).cell? (ad3 b o) = some u') ∧ (w.setCell (ad3 (x.ad c.d c.k) c.off) v).frozen? (ad3 b o) = false :=
    fun b o u h1 h2 => ⟨j6 _ _ _ _ h1, by rw [World.frozen?_setCell]; exact h2⟩
  have hc : ∀ b o u, x.ow b = none → w.cell? (ad3 b o) = some u → x.ow b = none ∧ (w.setCell (ad3 (x.ad c.d c.k) c.off) v).cell? (ad3 b o) = some u :=
    fun b o u h1 h2 => ⟨h1, by rw [hw.cell (hbn b (by rw [h1]; simp))]; exact h2⟩
  have hO : ∀ (l0 : Loc) b, x.ow b = some (.at l0) → x.ow b = some (.at l0) ∧ ∀ o u, w.cell? (ad3 b o) = some u → (w.setCell (ad3 (x.ad c.d c.k) c.off) v).cell? (ad3 b o) = some u :=
    fun l0 b h => ⟨h, fun o u h' => by rw [hw.cell (hbn b (by rw [h]; simp))]; exact h'⟩
  refine R.step [.cell c] R.size rfl rfl (fun b' hb' => hw.size ▸ R.bound b' hb') (fun l' hl' v' h => ?_) (fun l' hl' v' h => ?_) (fun j hj => ?_)
    hc hR (fun l' hl' z' es1 h => ?_) hB (fun l1 _ b1 h1 => hO l1 b1 h1) (fun c' v' h => ?_) (R.nofz_only hw) (fun b1 h _ => ⟨rfl, hw.other b1 (hbn b1 (by rcases h with h | h <;> rw [h] <;> simp))⟩)
  · have hne : l' ≠ .cell c := by simpa using hl'
    rw [hs', if_neg hne] at h
    exact ⟨h, fun u hu => by rw [hcv l' v' h hne]; exact hu⟩
  · have he : l' = .cell c := by simpa using hl'
    subst he
    rw [hs', if_pos rfl] at h
    cases h
    refine ⟨v, World.cell?_setCell_same _ _ _ hu0', (hv.reloc hy).mono hc hR (fun l' z es h => ?_) hB (fun l0 _ b h => hO l0 b h)⟩
    obtain ⟨h1, h2⟩ := hS l' z es h
    exact ⟨es, h1, rfl, fun b o L C hcv => ⟨L, C, by rw [h2]; exact hcv⟩⟩
  · simp at hj
  · obtain ⟨h1, h2⟩ := hS l' z' es1 h
    exact ⟨es1, h1, rfl, fun b o L C hcv => ⟨L, C, by rw [h2]; exact hcv⟩⟩
  · have key : ∀ v0, s (.cell c') = some v0 → x.ow (x.ad c'.d c'.k) = some (.box c'.d c'.k) ∧ (updG s [(.cell c, y)] (.cell ⟨c'.d, c'.k, 0⟩)).isSome ∧ (w.setCell (ad3 (x.ad c.d c.k) c.off) v).frozen? (ad3 (x.ad c'.d c'.k) c'.off) = false := fun v0 hv0 => by
      obtain ⟨h1, h2, h3⟩ := R.box c' v0 hv0
      exact ⟨h1, (hB _ _ h2).1, by rw [World.frozen?_setCell]; exact h3⟩
    rw [hs'] at h
    split at h
    · rename_i e; cases e; exact key _ h0
    · exact key _ h

theorem Fr.setBox {dep : Nat} {d k : Nat} (hb : x.ow (x.ad d k) = some (.box d k)) (o : Nat) (v : Value) : Fr dep x x w (w.setCell (ad3 (x.ad d k) o) v) :=
  ⟨by simp, fun b' _ h => ⟨fv _ _ _ (fun e => by rw [show b' = x.ad d k from e, hb] at h; simp at h), rfl⟩, fun _ _ _ => rfl, ⟨rfl, rfl, rfl⟩, (bz w _ _ _).room, rfl⟩

/-- a new block -/
theorem Rel.alloc (R : Rel cfg x N s a w) (ob : Obj) (o : Option Own) (hob : NoFzO ob := by simp [NoFzO]) : Rel cfg (x.give w.heap.size o) N s a (w.alloc ob) := by
  have hlt : ∀ b, x.ow b ≠ none → b ≠ w.heap.size := fun b h e => by have := R.bound b h; omega
  have hold : ∀ b o' u, w.cell? (ad3 b o') = some u → b ≠ w.heap.size := fun b o' u h e => by have := World.block_lt_of_cell? _ _ h; simp at this; omega
  have hcell : ∀ b o', b ≠ w.heap.size → (w.alloc ob).cell? (ad3 b o') = w.cell? (ad3 b o') := fun b o' h => World.cell?_alloc_old _ _ _ h
  have hcv : ∀ l' v, s l' = some v → conc (x.give w.heap.size o) a (w.alloc ob) l' = conc x a w l' := fun l' v h => by
    cases l' with
    | slot k => rfl
    | cell c =>
      obtain ⟨h1, _, _⟩ := R.box c v h
      exact hcell _ _ (hlt _ (by rw [Cx.give_ad, h1]; simp))
  refine R.step [] R.size rfl rfl (fun b' hb' => ?_) (fun l' _ v' h => ⟨h, fun u hu => by rw [hcv l' v' h]; exact hu⟩) (fun l' hl' => by simp at hl') (fun j hj => by simp at hj)
    (fun b1 o1 u h1 h2 => ⟨?_, by rw [hcell _ _ (hold b1 o1 u h2)]; exact h2⟩) (fun b1 o1 u h1 h2 => ⟨⟨u, by rw [hcell _ _ (hold b1 o1 u h1)]; exact h1⟩, ?_⟩) (fun l' hl' => by simp at hl')
    (fun d k h => ⟨h, rfl⟩) (fun l1 _ b1 h1 => ⟨?_, fun o1 u h => by rw [hcell _ _ (hlt b1 (by rw [h1]; simp))]; exact h⟩) (fun c v' h => ?_) (fun b1 h1 => ?_) (fun b1 h hlt' => ⟨Cx.give_ne _ _ (by omega), by show (w.heap.push ob)[b1]? = _; rw [Array.getElem?_push, if_neg (by omega)]⟩)
  · by_cases e : b' = w.heap.size
    · subst e; simp
    · rw [Cx.give_ne _ _ e] at hb'; have := R.bound _ hb'; simp; omega
  · rw [Cx.give_ne _ _ (hold b1 o1 u h2)]; exact h1
  · rw [World.frozen?_alloc_old _ _ _ (hold b1 o1 u h1)]; exact h2
  · rw [Cx.give_ne _ _ (hlt b1 (by rw [h1]; simp))]; exact h1
  · obtain ⟨h1, h2, h3⟩ := R.box c v' h
    have hn := hlt _ (by rw [h1]; simp)
    exact ⟨by rw [Cx.give_ad, Cx.give_ne _ _ hn]; exact h1, h2, by rw [Cx.give_ad, World.frozen?_alloc_old _ _ _ hn]; exact h3⟩
  · by_cases e : b1 = w.heap.size
    · subst e
      intro c t lo hi h2
      have h3 : (w.heap.push ob)[w.heap.size]? = some (.cells c t (lo, hi)) := h2
      rw [Array.getElem?_push, if_pos rfl] at h3
      cases h3
      exact hob
    · rw [Cx.give_ne _ _ e] at h1
      have hlt' := R.bound b1 (by rcases h1 with h1 | ⟨_, h1⟩ <;> rw [h1] <;> simp)
      refine (R.nofz b1 h1).heap ?_
      show (w.heap.push ob)[b1]? = _
      rw [Array.getElem?_push, if_neg (by omega)]

theorem Fr.alloc {dep : Nat} (ob : Obj) (o : Option Own) : Fr dep x (x.give w.heap.size o) w (w.alloc ob) :=
  ⟨by simp, fun b' hb _ => ⟨heap_alloc_lt w ob hb, Cx.give_ne _ _ (by omega)⟩, fun _ _ _ => rfl, ⟨rfl, rfl, rfl⟩, fun b' o' u h1 h2 =>
    have hne : b' ≠ w.heap.size := fun e => by have := World.block_lt_of_cell? _ _ h1; simp [e] at this
    ⟨⟨u, by rw [World.cell?_alloc_old _ _ _ hne]; exact h1⟩, by rw [World.frozen?_alloc_old _ _ _ hne]; exact h2⟩, rfl⟩
where
  heap_alloc_lt (w : World) (ob : Obj) {b : Nat} (h : b < w.heap.size) : (w.alloc ob).heap[b]? = w.heap[b]? := by
    show (w.heap.push ob)[b]? = _
    rw [Array.getElem?_push, if_neg (by omega)]

/-- a draw -/
theorem Rel.drew (R : Rel cfg x N s a w) : Rel cfg x N s a w.drew :=
  R.step [] R.size rfl rfl R.bound (fun l' _ v' h => ⟨h, fun u hu => by cases l' <;> exact hu⟩) (fun l' hl' => by simp at hl') (fun j hj => by simp at hj)
    (fun b o u h1 h2 => ⟨h1, h2⟩) (fun b o u h1 h2 => ⟨⟨u, h1⟩, h2⟩) (fun l' hl' => by simp at hl') (fun d k h => ⟨h, rfl⟩) (fun l0 _ b h => ⟨h, fun _ _ h => h⟩)
    (fun c v h => R.box c v h) (fun b h => (R.nofz b h).heap rfl) (fun _ _ _ => ⟨rfl, rfl⟩)

theorem Fr.drew {dep : Nat} : Fr dep x x w w.drew := ⟨Nat.le_refl _, fun _ _ _ => ⟨rfl, rfl⟩, fun _ _ _ => rfl, ⟨rfl, rfl, rfl⟩, fun _ _ u h1 h2 => ⟨⟨u, h1⟩, h2⟩, rfl⟩

/-- a box that is not alive may lie anywhere -/
def Cx.lay (x : Cx) (d k b : Nat) : Cx := { x with ad := fun d' k' => if d' = d ∧ k' = k then b else x.ad d' k' }
@[simp] theorem Cx.lay_same (x : Cx) (d k b : Nat) : (x.lay d k b).ad d k = b := by simp [Cx.lay]
theorem Cx.lay_ne (x : Cx) {d k b d' k' : Nat} (h : ¬ (d' = d ∧ k' = k)) : (x.lay d k b).ad d' k' = x.ad d' k' := by simp [Cx.lay, h]
@[simp] theorem Cx.lay_ow (x : Cx) (d k b : Nat) : (x.lay d k b).ow = x.ow := rfl

theorem Rel.lay (R : Rel cfg x N s a w) {d k : Nat} (h0 : s (.cell ⟨d, k, 0⟩) = none) (b : Nat) : Rel cfg (x.lay d k b) N s a w := by
  have hne : ∀ c v, s (.cell c) = some v → (x.lay d k b).ad c.d c.k = x.ad c.d c.k := fun c v h => Cx.lay_ne _ (fun e => by
    obtain ⟨_, h2, _⟩ := R.box c v h
    rw [e.1, e.2, h0] at h2; simp at h2)
  refine R.step [] R.size rfl rfl R.bound (fun l' _ v' h => ⟨h, fun u hu => ?_⟩) (fun l' hl' => by simp at hl') (fun j hj => by simp at hj)
    (fun b o u h1 h2 => ⟨h1, h2⟩) (fun b o u h1 h2 => ⟨⟨u, h1⟩, h2⟩) (fun l' hl' => by simp at hl') (fun d' k' h => ⟨h, ?_⟩) (fun l0 _ b h => ⟨h, fun _ _ h => h⟩) (fun c v h => ?_) R.nofz (fun _ _ _ => ⟨rfl, rfl⟩)
  · cases l' with
    | slot k => exact hu
    | cell c => simp only [conc, hne c v' h] at hu ⊢; exact hu
  · obtain ⟨v, hv⟩ := Option.isSome_iff_exists.1 h; exact hne ⟨d', k', 0⟩ v hv
  · rw [hne c v h]; exact R.box c v h

theorem Fr.lay {dep d k b : Nat} (h : dep ≤ d) : Fr dep x (x.lay d k b) w w := ⟨Nat.le_refl _, fun _ _ _ => ⟨rfl, rfl⟩, fun d' k' hd => Cx.lay_ne _ (by omega), .refl _, .refl _, rfl⟩

/-- a cell of a box that has just been laid -/
theorem Rel.addCell (R : Rel cfg x N s a w) {c : Cel} (hb : x.ow (x.ad c.d c.k) = some (.box c.d c.k)) (hal : c.off = 0 ∨ (s (.cell ⟨c.d, c.k, 0⟩)).isSome)
    (hf : w.frozen? (ad3 (x.ad c.d c.k) c.off) = false) {v : Value} (hcell : w.cell? (ad3 (x.ad c.d c.k) c.off) = some v) {y : V} (hy : y.isOwn = false) {l : Option Loc}
    (hv : RdV x s (conc x a w) w l v y) : Rel cfg x N (updG s [(.cell c, y)]) a w := by
  have hs' : ∀ l', updG s [(.cell c, y)] l' = if l' = .cell c then some y else s l' := fun l' => rfl
  have hB : ∀ d j, (s (.cell ⟨d, j, 0⟩)).isSome → (updG s [(.cell c, y)] (.cell ⟨d, j, 0⟩)).isSome ∧ x.ad d j = x.ad d j := by
    intro d j h; rw [hs']; split <;> simp [h]
  have hS : ∀ l' z es, updG s [(.cell c, y)] l' = some (.own false z es) → s l' = some (.own false z es) := by
    intro l' z es h
    rw [hs'] at h
    split at h
    · cases h; simp [V.isOwn] at hy
    · exact h
  have h00 : (updG s [(.cell c, y)] (.cell ⟨c.d, c.k, 0⟩)).isSome := by
    rcases hal with h | h
    · rw [hs', if_pos (by obtain ⟨c1, c2, c3⟩ := c; simp at h; simp [h])]; rfl
    · exact (hB _ _ h).1
  refine R.step [.cell c] R.size rfl rfl R.bound (fun l' hl' v' h => ?_) (fun l' hl' v' h => ?_) (fun j hj => by simp at hj)
    (fun b o u h1 h2 => ⟨h1, h2⟩) (fun b o u h1 h2 => ⟨⟨u, h1⟩, h2⟩) (fun l' hl' z es h => ?_) hB (fun l0 _ b h => ⟨h, fun _ _ h => h⟩) (fun c' v' h => ?_) R.nofz (fun _ _ _ => ⟨rfl, rfl⟩)
  · have hne : l' ≠ .cell c := by simpa using hl'
    rw [hs', if_neg hne] at h
    exact ⟨h, fun u hu => hu⟩
  · have he : l' = .cell c := by simpa using hl'
    subst he
    rw [hs', if_pos rfl] at h
    cases h
    refine ⟨v, hcell, (hv.reloc hy).mono (fun b o u h1 h2 => ⟨h1, h2⟩) (fun b o u h1 h2 => ⟨⟨u, h1⟩, h2⟩) (fun l' z es h => ?_) hB (fun l0 _ b h => ⟨h, fun _ _ h => h⟩)⟩
    exact ⟨es, hS l' z es h, rfl, fun b o L C hcv => ⟨L, C, hcv⟩⟩
  · exact ⟨es, hS l' z es h, rfl, fun b o L C hcv => ⟨L, C, hcv⟩⟩
  · rw [hs'] at h
    split at h
    · rename_i e; cases e; exact ⟨hb, h00, hf⟩
    · obtain ⟨h1, h2, h3⟩ := R.box c' v' h
      exact ⟨h1, (hB _ _ h2).1, h3⟩

/-- the array at l0 changes hands: its header lies at l1 already -/
theorem Rel.reown (R : Rel cfg x N s a w) {l0 l1 : Loc} (hne : l0 ≠ l1) {nw : Bool} {z : Nat} {es : List D} (h0 : s l0 = some (.own nw z es)) {y1 : V} (h1 : s l1 = some y1)
    {b : Nat} (how : x.ow b = some (.at l0)) {o len cap : Nat} (hv1 : conc x a w l1 = some (.slice (some (ad3 b o)) len cap)) {es' : List D} (hA : Arr (freeB x) w b o cap z es') (hl : es'.length = len) (hcap : len ≤ cap) :
    Rel cfg (x.give b (some (.at l1))) N (updG s [(l1, .own true z es'), (l0, .junk)]) a w := by
  have hs' : ∀ l', updG s [(l1, .own true z es'), (l0, .junk)] l' = if l' = l0 then some .junk else if l' = l1 then some (.own true z es') else s l' := fun l' => rfl
  have hx : ∀ b', x.ow b' = none → (x.give b (some (.at l1))).ow b' = none := fun b' h => by
    rw [Cx.give_ne]; · exact h
    intro e; rw [e, how] at h; cases h
  have hB : ∀ d j, (s (.cell ⟨d, j, 0⟩)).isSome → (updG s [(l1, .own true z es'), (l0, .junk)] (.cell ⟨d, j, 0⟩)).isSome ∧ (x.give b (some (.at l1))).ad d j = x.ad d j := by
    intro d j h; rw [hs']; split
    · simp
    · split <;> simp [h]
  have hcv : ∀ l', conc (x.give b (some (.at l1))) a w l' = conc x a w l' := fun l' => by cases l' <;> rfl
  have hpl : ∀ j, Loc.slot j ∈ [l1, l0] → j < N := fun j hj => by
    simp only [List.mem_cons, List.not_mem_nil, or_false] at hj
    rcases hj with hj | hj
    · exact R.slotN j _ (hj ▸ h1)
    · exact R.slotN j _ (hj ▸ h0)
  refine R.step [l1, l0] R.size rfl rfl (fun b' hb' => ?_) (fun l' hl' v' h => ?_) (fun l' hl' v' h => ?_) hpl
    (fun b o u h1 h2 => ⟨hx b h1, h2⟩) (fun b o u h1 h2 => ⟨⟨u, h1⟩, h2⟩) (fun l' hl' z es h => ?_) hB (fun l2 hl2 b2 h2 => ⟨?_, fun _ _ h => h⟩) (fun c v' h => ?_) (R.nofz_give (fun _ => .inr ⟨_, how⟩)) (fun b' h _ => ⟨Cx.give_ne _ _ (fun e => by subst e; rw [how] at h; rcases h with h | h <;> cases h), rfl⟩)
  · by_cases e : b' = b
    · subst e; exact R.bound _ (by rw [how]; simp)
    · rw [Cx.give_ne _ _ e] at hb'; exact R.bound _ hb'
  · simp only [List.mem_cons, List.not_mem_nil, or_false, not_or] at hl'
    rw [hs', if_neg hl'.2, if_neg hl'.1] at h
    exact ⟨h, fun u hu => by rw [hcv]; exact hu⟩
  · rw [hs'] at h
    simp only [List.mem_cons, List.not_mem_nil, or_false] at hl'
    by_cases e : l' = l0
    · rw [if_pos e] at h
      cases h
      obtain ⟨u, hu, _⟩ := R.locs l0 _ h0
      exact ⟨u, by rw [e, hcv]; exact hu, .junk _ _⟩
    · rw [if_neg e] at h
      rcases hl' with hl' | hl'
      · subst hl'
        rw [if_pos rfl] at h
        cases h
        exact ⟨_, by rw [hcv]; exact hv1, .own _ b o len cap z true es' (by simp) hl hcap (hA.mono (fun b o u h1 h2 => ⟨hx b h1, h2⟩) (fun _ _ h => h) (fun _ _ _ h => h))⟩
      · exact absurd hl' e
  · rw [hs'] at h
    split at h
    · cases h
    · split at h
      · cases h
      · simp_all
  · simp only [List.mem_cons, List.not_mem_nil, or_false, not_or] at hl2
    rw [Cx.give_ne]; · exact h2
    intro e; rw [e, how] at h2; cases h2; exact hl2.2 rfl
  · have key : ∀ v0, s (.cell c) = some v0 → (x.give b (some (.at l1))).ow (x.ad c.d c.k) = some (.box c.d c.k) ∧
        (updG s [(l1, .own true z es'), (l0, .junk)] (.cell ⟨c.d, c.k, 0⟩)).isSome ∧ w.frozen? (ad3 (x.ad c.d c.k) c.off) = false := fun v0 hv0 => by
      obtain ⟨h1, h2, h3⟩ := R.box c v0 hv0
      refine ⟨?_, (hB _ _ h2).1, h3⟩
      rw [Cx.give_ne]; · exact h1
      intro e; rw [e, how] at h1; cases h1
    rw [hs'] at h
    split at h
    · rename_i e; exact key _ (e ▸ h0)
    · split at h
      · rename_i e; exact key _ (e ▸ h1)
      · exact key _ h

/-- an array whose header has just been put at l1, its owner's place -/
theorem Rel.claim (R : Rel cfg x N s a w) {l1 : Loc} {y1 : V} (h1 : s l1 = some y1) {b : Nat} (how : x.ow b = some (.at l1)) {o len cap z : Nat}
    (hv1 : conc x a w l1 = some (.slice (some (ad3 b o)) len cap)) {es' : List D} (hA : Arr (freeB x) w b o cap z es') (hl : es'.length = len) (hcap : len ≤ cap) :
    Rel cfg x N (updG s [(l1, .own true z es')]) a w := by
  have hs' : ∀ l', updG s [(l1, .own true z es')] l' = if l' = l1 then some (.own true z es') else s l' := fun l' => rfl
  have hB : ∀ d j, (s (.cell ⟨d, j, 0⟩)).isSome → (updG s [(l1, .own true z es')] (.cell ⟨d, j, 0⟩)).isSome ∧ x.ad d j = x.ad d j := by
    intro d j h; rw [hs']; split <;> simp [h]
  refine R.step [l1] R.size rfl rfl R.bound (fun l' hl' v' h => ?_) (fun l' hl' v' h => ?_) (fun j hj => ?_)
    (fun b o u h1 h2 => ⟨h1, h2⟩) (fun b o u h1 h2 => ⟨⟨u, h1⟩, h2⟩) (fun l' hl' z es h => ?_) hB (fun l0 _ b h => ⟨h, fun _ _ h => h⟩) (fun c v' h => ?_) R.nofz (fun _ _ _ => ⟨rfl, rfl⟩)
  · have hne : l' ≠ l1 := by simpa using hl'
    rw [hs', if_neg hne] at h
    exact ⟨h, fun u hu => hu⟩
  · have he : l' = l1 := by simpa using hl'
    subst he
    rw [hs', if_pos rfl] at h
    cases h
    exact ⟨_, hv1, .own _ b o len cap z true es' how hl hcap hA⟩
  · have : l1 = .slot j := (List.mem_singleton.1 hj).symm
    exact R.slotN j _ (this ▸ h1)
  · have he : l' = l1 := by simpa using hl'
    subst he
    rw [hs', if_pos rfl] at h
    cases h
  · have key : ∀ v0, s (.cell c) = some v0 → x.ow (x.ad c.d c.k) = some (.box c.d c.k) ∧
        (updG s [(l1, .own true z es')] (.cell ⟨c.d, c.k, 0⟩)).isSome ∧ w.frozen? (ad3 (x.ad c.d c.k) c.off) = false := fun v0 hv0 => by
      obtain ⟨h1, h2, h3⟩ := R.box c v0 hv0
      exact ⟨h1, (hB _ _ h2).1, h3⟩
    rw [hs'] at h
    split at h
    · rename_i e; exact key _ (e ▸ h1)
    · exact key _ h

end
end Go.Ev

/-! EvH -/
/- Operations that only reckon. Own work. -/
namespace Go.Ev
open Go

section
variable {F : Nat → Prop} {w : World} {v : Value}

theorem Rd.bool_inv {b : Bool} (h : Rd F w v (.bool b)) : v = .bool b := by cases h; rfl
theorem Rd.int_inv {k : IntKind} {n : Int} (h : Rd F w v (.int k n)) : v = .int k n := by cases h; rfl
theorem Rd.str_inv {s : List UInt8} (h : Rd F w v (.str s)) : v = .string ⟨s.toArray⟩ := by cases h; rfl
theorem Rd.nilS_inv (h : Rd F w v .nilS) : ∃ ad, v = .slice ad 0 0 := by cases h; exact ⟨_, rfl⟩
theorem Rd.unkB_inv (h : Rd F w v .unkB) : ∃ b, v = .bool b := by cases h; exact ⟨_, rfl⟩
theorem Rd.nilI_inv (h : Rd F w v .nilI) : v = .nilIface := by cases h; rfl
theorem Rd.fn_inv {f : FuncId} (h : Rd F w v (.fn f)) : v = .func (.func f) #[] #[] := by cases h; rfl
theorem Rd.sl_inv {es : List D} (h : Rd F w v (.sl es)) : ∃ ad cap, v = .slice ad es.length cap ∧ es.length ≤ cap := by
  cases h with
  | slA ad cap => exact ⟨ad, cap, rfl, Nat.zero_le _⟩
  | sl b o len cap z es vs hlen hcap => exact ⟨some (ad3 b o), cap, by rw [hlen], by omega⟩
theorem Rd.oneCell {d : D} (h : Rd F w v d) (hd : d.isCell = true) : v.oneCell' = true := by
  cases h <;> first | rfl | assumption | simp [D.isCell] at hd

theorem Rd.can {d : D} (h : Rd F w v d) : Rd F w v d.can := by
  cases h <;> first | exact .slA _ _ | (constructor <;> assumption)
theorem D.can_isCell {d : D} (h : d.isCell = true) : d.can.isCell = true := by cases d <;> first | rfl | exact h
theorem Rd.canA {d : D} (h : Rd F w v d) : Rd F w v d.canA := by
  cases h with
  | agg vs cs hl hc h =>
    refine .agg vs _ (by simpa using hl) (fun c hc' => ?_) (fun i v c h1 h2 => ?_)
    · obtain ⟨c', h1, rfl⟩ := List.mem_map.1 hc'
      exact D.can_isCell (hc c' h1)
    · rw [List.getElem?_map] at h2
      cases hd : cs[i]? with
      | none => rw [hd] at h2; cases h2
      | some c' => rw [hd] at h2; cases h2; exact (h i v c' h1 hd).can
  | nilS ad => exact .slA ad 0
  | _ => constructor <;> assumption
theorem Rd.canon {d : D} (h : Rd F w v d) : Rd F w v d.canon := by
  cases h with
  | tup vs cs hl h =>
    refine .tup vs _ (by simpa using hl) (fun i v c h1 h2 => ?_)
    rw [List.getElem?_map] at h2
    cases hd : cs[i]? with
    | none => rw [hd] at h2; cases h2
    | some c' => rw [hd] at h2; cases h2; exact (h i v c' h1 hd).canA
  | agg vs cs hl hc h => exact Rd.canA (.agg vs cs hl hc h)
  | nilS ad => exact .slA ad 0
  | _ => constructor <;> assumption

theorem aba {d : D} (h : valD0 v = some d) : Rd F w v d ∧ d.isCell = true := by
  unfold valD0 at h
  split at h <;> first | (cases h; exact ⟨by constructor, rfl⟩) | cases h
theorem aa9 : ∀ (vs : List Value) (ds : List D), valDs vs = some ds → vs.length = ds.length ∧ (∀ c ∈ ds, c.isCell = true) ∧ ∀ (i : Nat) v c, vs[i]? = some v → ds[i]? = some c → Rd F w v c
  | [], ds, h => by cases h; simp
  | v :: r, ds, h => by
    unfold valDs at h
    split at h
    · rename_i d ds' h1 h2
      cases h
      obtain ⟨i1, i2, i3⟩ := aa9 r ds' h2
      have := aba (F := F) (w := w) h1
      refine ⟨by simp [i1], ?_, ?_⟩
      · intro c hc
        rcases List.mem_cons.1 hc with rfl | hc
        · exact this.2
        · exact i2 c hc
      · intro i v' c h3 h4
        cases i with
        | zero => simp at h3 h4; subst h3; subst h4; exact this.1
        | succ i => simp at h3 h4; exact i3 i v' c h3 h4
    · cases h

theorem ff {d : D} (h : valD v = some d) : Rd F w v d := by
  unfold valD at h
  split at h
  · rename_i cs
    cases h1 : valDs cs.toList with
    | none => rw [h1] at h; cases h
    | some ds =>
      rw [h1] at h
      cases h
      obtain ⟨i1, i2, i3⟩ := aa9 (F := F) (w := w) _ _ h1
      exact .agg cs.toList ds i1 i2 i3
  · exact (aba h).1

theorem xy {d : D} (h : valC v = some d) : Rd F w v d := by
  simp only [valC, Option.map_eq_some_iff] at h
  obtain ⟨d', h1, rfl⟩ := h
  exact (ff h1).canon

end

section
variable {P : Program} {cfg : Cfg} {x : Cx} {N dep : Nat} {s : Get} {a : Act} {w : World}

theorem RdV.d_inv {l : Option Loc} {cv : Loc → Option Value} {v : Value} {y : D} (h : RdV x s cv w l v (.d y)) : Rd (freeB x) w v y := by cases h; assumption

theorem ap (R : Rel cfg x N s a w) {X : Operand} {ix : IOpd} (hX : cOpd X = some ix) {y : V} (hy : val cfg s ix = some y) :
    ∃ l, RdV x s (conc x a w) w l (a.eval X) y ∧ ∀ k, ix = .t k → l = some (.slot k) ∧ X = .tmp k := by
  cases X with
  | tmp t =>
    cases hX
    obtain ⟨u, hu, hr⟩ := R.locs (.slot t) y hy
    refine ⟨some (.slot t), ?_, fun k e => by cases e; exact ⟨rfl, rfl⟩⟩
    simp only [conc, Option.some.injEq] at hu
    show RdV x s (conc x a w) w _ (a.tmps.getD t undef) y
    rw [hu]; exact hr
  | const v =>
    simp only [cOpd, Option.map_eq_some_iff] at hX
    obtain ⟨d, hd, rfl⟩ := hX
    cases hy
    exact ⟨none, .d _ _ _ (ff hd), fun k e => by cases e⟩
  | global g =>
    cases hX
    simp only [val, Option.map_eq_some_iff] at hy
    obtain ⟨e, he, rfl⟩ := hy
    exact ⟨none, .iptr none g 0 0 e (R.globs g e he), fun k e => by cases e⟩
  | func f =>
    cases hX
    cases hy
    exact ⟨none, .d _ _ _ (.fn f), fun k e => by cases e⟩

/-- an operation goes through, and leaves the state s' -/
def Goes (P : Program) (cfg : Cfg) (x : Cx) (N dep : Nat) (s' : Get) (a : Act) (w : World) (o : Oper) : Prop :=
  ∃ v w' x', ((execOp a.eval o).run P w = .ok (.value v) w' ∨ ((execOp a.eval o).run P w = .ok .skip w' ∧ v = undef)) ∧ Rel cfg x' N s' (a.put o.dst v) w' ∧ Fr dep x x' w w'

/-- an operation that leaves the memory alone and yields a value that is no array of the call's own -/
theorem af (R : Rel cfg x N s a w) {o : Oper} {k : Nat} (hd : o.dst = some k) (hk : k < N) {v : Value} {y : V} (hrun : (execOp a.eval o).run P w = .ok (.value v) w)
    (hy : y.isOwn = false) {l : Option Loc} (hv : RdV x s (conc x a w) w l v y) : Goes P cfg x N dep (updG s (put1 o.dst y)) a w o := by
  refine ⟨v, w, x, .inl hrun, ?_, Fr.refl _ _ _⟩
  rw [hd]
  exact R.put hk hy hv

theorem al (R : Rel cfg x N s a w) {o : Oper} {k : Nat} (hd : o.dst = some k) (hk : k < N) {v : Value} {y : D} (hrun : (execOp a.eval o).run P w = .ok (.value v) w)
    (hv : Rd (freeB x) w v y) : Goes P cfg x N dep (updG s (put1 o.dst (.d y))) a w o :=
  af R hd hk hrun rfl (l := none) (.d _ _ _ hv)

end

theorem aix (P : Program) (w : World) (F : Nat → Prop) {op : BinOp} {k k' : IntKind} {n m : Int} {r : D} (t : TypeId) (h : az op k n k' m = some r) :
    ∃ v, (binOp op t (.int k n) (.int k' m)).run P w = .ok v w ∧ Rd F w v r := by
  cases op <;> simp only [az] at h
  case shl =>
    split at h
    · cases h
    · cases h; rename_i hm; exact ⟨_, by simp only [binOp, Op.shift, hm, if_false]; rfl, .int _ _⟩
  case shr =>
    split at h
    · cases h
    · cases h; rename_i hm; exact ⟨_, by simp only [binOp, Op.shift, hm, if_false]; rfl, .int _ _⟩
  case quo =>
    split at h
    · rename_i hm; obtain ⟨rfl, hm⟩ := hm; cases h; exact ⟨_, by simp only [binOp, Op.intDiv, hm, if_false, ne_eq, not_true_eq_false]; rfl, .int _ _⟩
    · cases h
  case rem =>
    split at h
    · rename_i hm; obtain ⟨rfl, hm⟩ := hm; cases h; exact ⟨_, by simp only [binOp, Op.intDiv, hm, if_false, ne_eq, not_true_eq_false]; rfl, .int _ _⟩
    · cases h
  all_goals
    split at h
    · rename_i hk; subst hk; cases h
      refine ⟨_, by simp only [binOp, if_false, ne_eq, not_true_eq_false]; rfl, ?_⟩
      first | exact .int _ _ | exact .bool _
    · cases h

theorem aiw (P : Program) (w : World) (F : Nat → Prop) {op : BinOp} {p q : List UInt8} {r : D} (t : TypeId) (h : dl op p q = some r) :
    ∃ v, (binOp op t (.string ⟨p.toArray⟩) (.string ⟨q.toArray⟩)).run P w = .ok v w ∧ Rd F w v r := by
  have hp : (⟨p.toArray⟩ : ByteArray).toList = p := ByteArray.toList_mk p
  have hq : (⟨q.toArray⟩ : ByteArray).toList = q := ByteArray.toList_mk q
  cases op <;> simp only [dl] at h
  case add =>
    split at h
    · cases h
      rename_i hm
      refine ⟨.string (⟨p.toArray⟩ ++ ⟨q.toArray⟩), ?_, ?_⟩
      · have hs : ((⟨p.toArray⟩ : ByteArray).size + (⟨q.toArray⟩ : ByteArray).size : Nat) = p.length + q.length := by simp [ByteArray.size]
        have : ¬ (((⟨p.toArray⟩ : ByteArray).size + (⟨q.toArray⟩ : ByteArray).size : Nat) : Int) > IntKind.i64.max := by
          rw [hs]
          simp only [aoc] at hm
          simp only [IntKind.max]
          simp [IntKind.signed, IntKind.bits]
          omega
        simp only [binOp, Op.stringOp, this, if_false]
        rfl
      · have : (⟨p.toArray⟩ ++ ⟨q.toArray⟩ : ByteArray) = ⟨(p ++ q).toArray⟩ := by
          apply ByteArray.ext
          apply Array.ext'
          simp
        rw [this]
        exact .str _
    · cases h
  all_goals
    first
    | cases h
    | skip
  all_goals
    refine ⟨_, by simp only [binOp, Op.stringOp, hp, hq]; rfl, ?_⟩
    exact .bool _

end Go.Ev

/-! EvI -/
/- Moves and assignments. Own work. -/
namespace Go.Ev
open Go

section
variable {P : Program} {cfg : Cfg} {x : Cx} {N dep : Nat} {s : Get} {a : Act} {w : World}

theorem RdV.own_inv {l : Option Loc} {cv : Loc → Option Value} {v : Value} {nw : Bool} {z : Nat} {es : List D} (h : RdV x s cv w l v (.own nw z es)) :
    ∃ l0 b o cap, l = some l0 ∧ v = .slice (some (ad3 b o)) es.length cap ∧ x.ow b = some (.at l0) ∧ es.length ≤ cap ∧ Arr (freeB x) w b o cap z es := by
  cases h with
  | own l b o len cap z nw es how hlen hcap h => exact ⟨l, b, o, cap, rfl, by rw [hlen], how, by omega, h⟩

/-- what is known of the array at a place -/
theorem Rel.own_at (R : Rel cfg x N s a w) {l0 : Loc} {nw : Bool} {z : Nat} {es : List D} (h0 : s l0 = some (.own nw z es)) :
    ∃ b o cap, conc x a w l0 = some (.slice (some (ad3 b o)) es.length cap) ∧ x.ow b = some (.at l0) ∧ es.length ≤ cap ∧ Arr (freeB x) w b o cap z es := by
  obtain ⟨u, hu, hr⟩ := R.locs l0 _ h0
  obtain ⟨l1, b, o, cap, h1, h2, h3, h4, h5⟩ := hr.own_inv
  cases h1
  exact ⟨b, o, cap, by rw [hu, h2], h3, h4, h5⟩

/-- a piece of an array, borrowed: its header and its cells -/
theorem Rel.bor_at (R : Rel cfg x N s a w) {l : Option Loc} {v : Value} {l' : Loc} {off len z : Nat} {es : List D} (h : RdV x s (conc x a w) w l v (.bor l' off len)) (hs : s l' = some (.own false z es)) :
    ∃ b o' cap', v = .slice (some (ad3 b o')) len cap' ∧ x.ow b = some (.at l') ∧ off + len ≤ es.length ∧ len ≤ cap' ∧ Arr (freeB x) w b o' cap' z ((es.drop off).take len) := by
  cases h with
  | bor _ _ _ _ b o' cap' h4 h =>
  obtain ⟨o, L, C, h1, h3, h5, h6⟩ := h z es hs
  obtain ⟨b2, o2, cap2, g1, g2, g3, g4⟩ := R.own_at hs
  rw [h1] at g1
  cases g1
  refine ⟨b, o', cap', rfl, g2, h3, h4, g4.pos, h6, fun e he => g4.wid e (List.mem_of_mem_drop (List.mem_of_mem_take he)), fun e he => g4.cel e (List.mem_of_mem_drop (List.mem_of_mem_take he)), fun i e he j c hj => ?_⟩
  rw [List.getElem?_take] at he
  split at he
  · rename_i hi
    rw [List.getElem?_drop] at he
    obtain ⟨v, q1, q2⟩ := g4.els (off + i) e he j c hj
    refine ⟨v, ?_, q2⟩
    rcases h5 with ⟨h5, _⟩ | h5
    · omega
    · rw [h5, show o + off * z + i * z + j = o + (off + i) * z + j by rw [Nat.add_mul]; omega]
      exact q1
  · cases he
theorem Rel.bor_at' (R : Rel cfg x N s a w) {l : Option Loc} {v : Value} {l' : Loc} {off len z : Nat} {es : List D} (h : RdV x s (conc x a w) w l v (.bor l' off len)) (hs : s l' = some (.own false z es)) :
    ∃ b o' cap', v = .slice (some (ad3 b o')) len cap' ∧ (∃ o L C, conc x a w l' = some (.slice (some (ad3 b o)) L C)) ∧ off + len ≤ es.length ∧ len ≤ cap' ∧ Arr (freeB x) w b o' cap' z ((es.drop off).take len) := by
  cases h with
  | bor _ _ _ _ b o' cap' h4 h =>
  obtain ⟨o, L, C, h1, h3, h5, h6⟩ := h z es hs
  obtain ⟨b2, o2, cap2, g1, g2, g3, g4⟩ := R.own_at hs
  rw [h1] at g1
  cases g1
  refine ⟨b, o', cap', rfl, ⟨_, _, _, h1⟩, h3, h4, g4.pos, h6, fun e he => g4.wid e (List.mem_of_mem_drop (List.mem_of_mem_take he)), fun e he => g4.cel e (List.mem_of_mem_drop (List.mem_of_mem_take he)), fun i e he j c hj => ?_⟩
  rw [List.getElem?_take] at he
  split at he
  · rename_i hi
    rw [List.getElem?_drop] at he
    obtain ⟨v, q1, q2⟩ := g4.els (off + i) e he j c hj
    refine ⟨v, ?_, q2⟩
    rcases h5 with ⟨h5, _⟩ | h5
    · omega
    · rw [h5, show o + off * z + i * z + j = o + (off + i) * z + j by rw [Nat.add_mul]; omega]
      exact q1
  · cases he

theorem nb {ix : IOpd} {y : V} (hy : val cfg s ix = some y) (h : ∀ k, ix ≠ .t k) : y.isOwn = false := by
  cases ix with
  | t k => exact absurd rfl (h k)
  | c d => cases hy; rfl
  | g n =>
    simp only [val, Option.map_eq_some_iff] at hy
    obtain ⟨e, _, rfl⟩ := hy; rfl

/-- the array in slot j moves to slot k under a header v -/
theorem Rel.handAny (R : Rel cfg x N s a w) {k : Nat} (hk : k < N) {l0 : Loc} {nw : Bool} {z : Nat} {es : List D} (h0 : s l0 = some (.own nw z es))
    {b : Nat} (how : x.ow b = some (.at l0)) {o len cap : Nat} {es' : List D} (hA : Arr (freeB x) w b o cap z es') (hl : es'.length = len) (hcap : len ≤ cap) :
    Rel cfg (x.give b (some (.at (.slot k)))) N (updG s [(.slot k, .own true z es'), (l0, .junk)]) (a.put (some k) (.slice (some (ad3 b o)) len cap)) w := by
  by_cases e : l0 = .slot k
  · subst e
    have h1 := R.put hk (v := .slice (some (ad3 b o)) len cap) (y := .junk) rfl (l := none) (.junk _ _)
    have hx : x.give b (some (.at (.slot k))) = x := by
      cases x with
      | mk ow ad =>
        simp only [Cx.give, Cx.mk.injEq, and_true]
        funext b'
        split
        · rename_i e; rw [e]; exact how.symm
        · rfl
    rw [hx]
    exact h1.congr (fun l => by simp only [aq, ij]; split <;> rfl)
  · exact R.hand hk e h0 how hA hl hcap

theorem sim_mv (R : Rel cfg x N s a w) {o : Oper} {X : Operand} (ho : o.op = .move X ∨ o.op = .assign X) {k : Nat} (hd : o.dst = some k) (hk : k < N) {ix : IOpd} (hX : cOpd X = some ix) {y : V} (hy : val cfg s ix = some y)
    {u : List (Loc × V)} (hu : evMv (some k) ix y = some u) : Goes P cfg x N dep (updG s u) a w o := by
  obtain ⟨l, hr, hl⟩ := ap R hX hy
  have hrun : (execOp a.eval o).run P w = .ok (.value (a.eval X)) w := by
    rcases ho with ho | ho <;> simp [execOp, ho]
  unfold evMv at hu
  split at hu
  · rename_i j z es
    cases hu
    obtain ⟨hl1, rfl⟩ := hl j rfl
    subst hl1
    rw [show put1 (some k) (V.bor (.slot j) 0 es.length) = put1 o.dst (V.bor (.slot j) 0 es.length) by rw [hd]]
    have he : s (.slot j) = some (.own false z es) := hy
    obtain ⟨b, o', cap, g1, g2, g3, g4⟩ := R.own_at he
    have hv : a.eval (.tmp j) = .slice (some (ad3 b o')) es.length cap := by simpa [conc, Act.eval] using g1
    rw [hv] at hrun
    refine af R hd hk hrun rfl (l := none) (.bor _ _ _ _ _ _ _ g3 fun z' es' hs => ?_)
    rw [he] at hs
    cases hs
    exact ⟨o', _, cap, g1, by omega, .inr (by omega), g4.room⟩
  · rename_i j z es
    cases hu
    obtain ⟨hl1, rfl⟩ := hl j rfl
    have he : s (.slot j) = some (.own true z es) := hy
    obtain ⟨b, o', cap, g1, g2, g3, g4⟩ := R.own_at he
    refine ⟨a.eval (.tmp j), w, x.give b (some (.at (.slot k))), .inl hrun, ?_, Fr.give g2 _⟩
    have hv : a.eval (.tmp j) = .slice (some (ad3 b o')) es.length cap := by simpa [conc, Act.eval] using g1
    rw [hv, hd]
    exact R.handAny hk he g2 g4 rfl g3
  · cases hu
  · rename_i h1 h2 h3
    cases hu
    have hn : y.isOwn = false := by
      by_cases hix : ∃ j, ix = .t j
      · obtain ⟨j, rfl⟩ := hix
        cases y <;> first | rfl | (rename_i nw z es; cases nw <;> simp_all; done) | simp_all
      · exact nb hy (fun j e => hix ⟨j, e⟩)
    rw [show put1 (some k) y = put1 o.dst y by rw [hd]]
    exact af R hd hk hrun hn hr

theorem sim_asg (R : Rel cfg x N s a w) {o : Oper} {X : Operand} (ho : o.op = .assign X) {k : Nat} (hd : o.dst = some k) (hk : k < N) {ix : IOpd} (hX : cOpd X = some ix) {y : V} (hy : val cfg s ix = some y)
    {u : List (Loc × V)} (hu : evAsg s (some k) ix y = some u) : Goes P cfg x N dep (updG s u) a w o := by
  obtain ⟨l, hr, hl⟩ := ap R hX hy
  have hrun : (execOp a.eval o).run P w = .ok (.value (a.eval X)) w := by simp [execOp, ho]
  unfold evAsg at hu
  split at hu
  · rename_i j nw z es
    cases hu
    obtain ⟨hl1, rfl⟩ := hl j rfl
    have he : s (.slot j) = some (.own nw z es) := hy
    obtain ⟨b, o', cap, g1, g2, g3, g4⟩ := R.own_at he
    refine ⟨a.eval (.tmp j), w, x.give b (some (.at (.slot k))), .inl hrun, ?_, Fr.give g2 _⟩
    have hv : a.eval (.tmp j) = .slice (some (ad3 b o')) es.length cap := by simpa [conc, Act.eval] using g1
    rw [hv, hd]
    exact R.handAny hk he g2 g4 rfl g3
  · rename_i l' off n
    split at hu
    · rename_i z es hs
      split at hu
      · rename_i hc
        obtain ⟨rfl, rfl⟩ := hc
        obtain ⟨b, o', cap', g1, g2, g3, g4, g5⟩ := R.bor_at hr hs
        simp only [List.drop_zero, List.take_length] at g5
        split at hu
        · rename_i e
          cases hu
          have e' : l' = .slot k := by simpa using e.symm
          subst e'
          refine ⟨a.eval X, w, x, .inl hrun, ?_, Fr.refl _ _ _⟩
          rw [g1, hd]
          have R1 := R.put hk (v := .slice (some (ad3 b o')) es.length cap') (y := .junk) rfl (l := none) (.junk _ _)
          have R2 := R1.claim (l1 := .slot k) (y1 := .junk) (by simp [aq]) g2 (e9 (by rw [R.size]; exact hk)) g5 rfl g4
          exact R2.congr (fun l => by simp only [aq, ij]; split <;> rfl)
        · cases hu
          refine ⟨a.eval X, w, x.give b (some (.at (.slot k))), .inl hrun, ?_, Fr.give g2 _⟩
          rw [g1, hd]
          exact R.handAny hk hs g2 g5 rfl g4
      · cases hu
    · cases hu
  · cases hu
  · cases hu
  · rename_i h1 h2 h3 h4
    cases hu
    have hn : y.isOwn = false := by
      by_cases hix : ∃ j, ix = .t j
      · obtain ⟨j, rfl⟩ := hix
        cases y <;> first | rfl | (rename_i nw z es; cases nw <;> simp_all; done) | simp_all
      · exact nb hy (fun j e => hix ⟨j, e⟩)
    rw [show put1 (some k) y = put1 o.dst y by rw [hd]]
    exact af R hd hk hrun hn hr

end
end Go.Ev
