/- Closed runs as contracts; comparing bytes. Own work. -/
import Derived.Test.YtplmdlobbfcknaaGreatDoorMeY
import Derived.Below
import GoSem.Extern.BytealgCompare
namespace Go.Me
open Go Go.RowKit
set_option linter.unusedSimpArgs false
set_option linter.unusedVariables false

def isTrue : Option (M × Hp) → Bool
  | some (.bool true, _) => true
  | _ => false
def noNm : Nm := ⟨fun _ => none, fun _ => (0, 0)⟩
theorem WR.start {C : Cfg} (hg : C.gobj = fun _ => none) (w : World) : WR C w.heap.size noNm (Hp.get ⟨0, .lf⟩) 0 w :=
  ⟨fun b c h => (by cases h), fun b o c h => (by cases h), fun b b' c ⟨o, h, _⟩ => (by cases h), fun k cs h => (by rw [hg] at h; cases h), Nat.le_refl _, fun b o h => (by cases h)⟩
theorem St.below {ν' : Nm} {g' : Gt} {n' : Nat} {w w' : World} (T : St noNm (Hp.get ⟨0, .lf⟩) 0 w ν' g' n' w') : Below w.heap.size w w' :=
  ⟨T.rest.1, T.rest.2.1, T.rest.2.2, T.size, fun k hk => T.keep k hk fun b h => by obtain ⟨o, h, _⟩ := h; cases h⟩
/-- a closed run that tells true -/
theorem closed_true {C : Cfg} (hm : C.P.follows .mixedOrders = true) (hM : MethOk C) (hI : IterOk C) (hF : FnOk C) (hX : ExtOk C) (hg : C.gobj = fun _ => none) {f : FuncId} {F : Func} {c : Code} {n : Nat} (hf : C.P.funcs[f]? = some F) (hname : (F.name == "runtime.NumGoroutine") = false) (hb : F.body = some c)
    (h : isTrue (evF C n f [] ⟨0, .lf⟩) = true) (w : World) : Calls C.P f #[] w fun e w' => e = .returned (.bool true) ∧ Below w.heap.size w w' := by
  unfold isTrue at h
  split at h
  · rename_i H hev
    have := evF_ok hm hM hI hF hX n f [] ⟨0, .lf⟩ _ H hev w.heap.size noNm w [] (WR.start hg w) .nil
    rcases this with ⟨v, w', ν', h1, _⟩ | ⟨_, h2⟩
    · rw [run_enter hf hname hb] at h1
      cases h1
    · refine h2.mono fun e w' ⟨v, ν', he, hv, hw, T⟩ => ?_
      cases hv
      exact ⟨he, T.below⟩
  · cases h

/-! bytes -/
def bytesH (H : Hp) : M → Option (List UInt8)
  | .sl b o n _ => match H.rds b o n with
    | some l => bytesM l
    | none => none
  | .slz => some []
  | .nilS => some []
  | .str s => some s
  | _ => none
section
variable {C : Cfg} {base : Nat} {ν : Nm} {w : World} {H : Hp}
theorem run_loadBytes {P : Program} {c : Nat} : ∀ (ns : List Int) (o : Nat) (acc : ByteArray), (∀ (j : Nat) n, ns[j]? = some n → w.cell? ⟨c, o + j, none⟩ = some (.int .u8 n)) → (Extern.Bytes.loadBytes ⟨c, o, none⟩ ns.length acc).run P w = .ok ⟨acc.data ++ (ns.map fun n => n.toNat.toUInt8).toArray⟩ w
  | [], o, acc, h => by simp [Extern.Bytes.loadBytes]
  | n :: ns, o, acc, h => by
    have h0 := h 0 n rfl
    rw [Nat.add_zero] at h0
    have ih := run_loadBytes (P := P) ns (o + 1) (acc.push n.toNat.toUInt8) (fun j m hj => by rw [show o + 1 + j = o + (j + 1) by omega]; exact h (j + 1) m (by simpa using hj))
    have hl : (load ⟨c, o, none⟩).run P w = .ok (.int .u8 n) w := by rw [run_load, h0]
    simp only [List.length_cons, Extern.Bytes.loadBytes, Sem.run_bind, hl, Result.andThen_ok, add_none, ih]
    congr 1
    simp [ByteArray.push]
theorem run_bytesH (R : WR C base ν H.get H.n w) {x : M} {v : Value} {l : List UInt8} (hx : VR ν x v) (h : bytesH H x = some l) : (Extern.Bytes.bytesOf v).run C.P w = .ok ⟨l.toArray⟩ w := by
  unfold bytesH at h
  split at h
  · rename_i b o n k
    cases hx with | sl _ _ _ _ c cap hb hc hk hr =>
    split at h
    · rename_i xs hxs
      obtain ⟨vs, h1, h2, h3⟩ := R.rds (fun b o h _ => h) hb n o hxs
      obtain ⟨ns, rfl, rfl⟩ := bytesM_get h
      have hvs : vs = ns.map (Value.int .u8) := by
        apply List.ext_getElem?
        intro j
        have hl := h2.1
        simp only [List.length_map] at hl
        by_cases hj : j < ns.length
        · obtain ⟨u, hu⟩ : ∃ u, vs[j]? = some u := ⟨_, List.getElem?_eq_getElem (by omega)⟩
          have := h2.2 j (.int .u8 ns[j]) u (by simp [hj]) hu
          cases this
          rw [hu]
          simp [hj]
        · rw [List.getElem?_eq_none (by omega), List.getElem?_eq_none (by simp; omega)]
      subst hvs
      have hn : n = ns.length := by simpa using h1.symm
      subst hn
      have := run_loadBytes (P := C.P) (w := w) (c := c) ns (o + (ν.rm b).2) .empty (fun j m hj => h3 j _ (by simp [hj]))
      simp only [Extern.Bytes.bytesOf]
      rw [this]
      simp [ByteArray.empty, ByteArray.emptyWithCapacity]
      rfl
    · cases h
  · cases h; cases hx; rfl
  · cases h; cases hx; rfl
  · rename_i s
    cases h
    cases hx
    rfl
  · cases h
def xCompare : List M → Hp → Option (M × Hp)
  | [x, y], H => match bytesH H x, bytesH H y with
    | some a, some b => some (.int .i64 (Extern.BytealgCompare.cmp ⟨a.toArray⟩ ⟨b.toArray⟩), H)
    | _, _ => none
  | _, _ => none
end
/-- what one function of a table of known ones must be -/
def ExtOne (C : Cfg) (f : FuncId) (g : List M → Hp → Option (M × Hp)) : Prop := ∀ args H x H', g args H = some (x, H') → ∀ base ν w vs, WR C base ν H.get H.n w → VRs ν args vs → CallTo C base ν H w f vs.toArray x H'
theorem xCompare_ok {C : Cfg} {f : FuncId} (hf : ∀ u v w, (callFunc f #[u, v]).run C.P w = ((do pure (goInt (Extern.BytealgCompare.cmp (← Extern.Bytes.bytesOf u) (← Extern.Bytes.bytesOf v)))) >>= fun v => (pure (.value v) : Sem Next)).run C.P w) : ExtOne C f xCompare := by
  intro args H x H' h base ν w vs R hv
  unfold xCompare at h
  split at h
  · rename_i y z
    split at h
    · rename_i a b h1 h2
      cases h
      obtain ⟨u, r, rfl, g1, g2⟩ := hv.inv_cons
      obtain ⟨v, r', rfl, g3, g4⟩ := g2.inv_cons
      rw [g4.inv_nil]
      refine .inl ⟨.int .i64 (Extern.BytealgCompare.cmp ⟨a.toArray⟩ ⟨b.toArray⟩), w, ν, ?_, .int _ _, R, R.refl⟩
      rw [hf]
      simp only [Sem.run_bind, run_bytesH R g1 h1, run_bytesH R g3 h2, Result.andThen_ok, Sem.run_pure]
      rfl
    · cases h
  · cases h
end Go.Me
