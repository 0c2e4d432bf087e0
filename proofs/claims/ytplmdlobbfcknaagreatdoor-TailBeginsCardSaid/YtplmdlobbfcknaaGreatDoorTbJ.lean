/- TailBegins: bytes put behind a row. Own work. -/
import Derived.Test.YtplmdlobbfcknaaGreatDoorTbI
import Derived.Deep.Upon
namespace Go.Proofs.YtplmdlobbfcknaaGreatDoor
open Go Go.RowKit Go.Me
set_option linter.unusedVariables false
set_option linter.unusedSimpArgs false
set_option maxRecDepth 100000

/-- bytes given -/
def Byt (w : World) (v : Value) (bs : List UInt8) : Prop :=
  (v = .slice none 0 0 ∧ bs = []) ∨ ∃ (a : Addr) (cap : Nat), v = .slice (some a) bs.length cap ∧ ∀ (j : Nat) x, bs[j]? = some x → w.cell? (a.add j) = some (.int .u8 (Int.ofNat x.toNat))
theorem Byt.keep {w w' : World} {v : Value} {bs : List UInt8} (h : Byt w v bs) (k : ∀ b, b < w.heap.size → w'.heap[b]? = w.heap[b]?) : Byt w' v bs := by
  rcases h with h | ⟨a, cap, rfl, h⟩
  · exact .inl h
  · refine .inr ⟨a, cap, rfl, fun j x hx => ?_⟩
    have := h j x hx
    rw [World.cell?_of_block (w := w) (k _ (World.block_lt_of_cell? _ _ this))]
    exact this
abbrev bytV (bs : List UInt8) : List Value := bs.map fun x => Value.int .u8 (Int.ofNat x.toNat)
theorem step_append_any {ops : Array Oper} {o : Oper} {a : Act} {w : World} {K : Act → World → Prop} {Q : Exit → Act → World → Prop} {E : Prop} (hgd : o.guard = none) (s x : Operand)
    (ho : o.op = .call { callee := .builtin .append, args := #[s, x], argTypes := #[22, 22] }) (base : Nat) (v y : Value) (n : Nat) (xs : List Value) (bs : List UInt8) (hs : a.eval s = v) (hx : a.eval x = y)
    (hown : w.ownsRow base 5 1 v n xs) (hb : Byt w y bs) (hn : n + bs.length ≤ 100000) (hbase : base ≤ w.heap.size)
    (h : ∀ v' w', w'.ownsRow base 5 1 v' (n + bs.length) (xs ++ bytV bs) → w.grownBy w' v.ownBlock → (v'.ownBlock = v.ownBlock ∨ v'.ownBlock = some w.heap.size) → K (a.put o.dst v') w') :
    if Region.wanted o (yielded ops a.tmps) = true then Oper.wp Tryz.prog o a w K Q else E := by
  have hw : Region.wanted o (yielded ops a.tmps) = true := by simp [Region.wanted, hgd]
  rw [if_pos hw]
  obtain ⟨i5, hi5, hz0, hz1, hz2⟩ := info_parts (P := Tryz.prog) (e := 5) (z := .int .u8 0) (size := 1) (bytes := 1) (by kernel_rfl)
  have key : ∃ v' w', (Builtin.append_ #[22, 22] o.type #[v, y]).run Tryz.prog w = .ok v' w' ∧ w'.ownsRow base 5 1 v' (n + bs.length) (xs ++ bytV bs) ∧ w.grownBy w' v.ownBlock ∧ (v'.ownBlock = v.ownBlock ∨ v'.ownBlock = some w.heap.size) := by
    rcases hb with ⟨rfl, rfl⟩ | ⟨ad, cap, rfl, hc⟩
    · have hf : ∃ ba sc, v = .slice ba n sc ∧ n ≤ sc := by
        rcases hown.2 with ⟨rfl, rfl⟩ | ⟨g, c, cur, rfl, _, _, hle, _⟩
        · exact ⟨none, 0, rfl, Nat.le_refl _⟩
        · exact ⟨_, c, rfl, hle⟩
      obtain ⟨ba, sc, rfl, hle⟩ := hf
      exact ⟨_, w, run_append_nothing w 22 22 _ 5 i5 rfl hi5 ba n sc hle _ (Src.ofNil w (e' := 5) rfl 0), by simpa using hown, grown_refl _ _, .inl rfl⟩
    · obtain ⟨v', w', h1, h2, h3, _, h5⟩ := run_append_own_at (P := Tryz.prog) w base 22 o.type 5 i5 _ 1 1 rfl hi5 hz0 hz1 hz2 rfl (by decide) v n xs hown ad bs.length cap (bytV bs) (by simp)
        (fun j u hu => by
          rw [List.getElem?_map] at hu
          cases hj : bs[j]? with
          | none => simp [hj] at hu
          | some x => simp only [hj, Option.map_some, Option.some.injEq] at hu; subst hu; exact hc j x hj)
        (fun u hu => by obtain ⟨x, _, rfl⟩ := List.mem_map.1 hu; rfl) (by unfold maxLen; omega) (by omega) hbase
      exact ⟨v', w', h1, h2, h3, h5⟩
  obtain ⟨v', w', hr, h2, h3, h5⟩ := key
  unfold Oper.wp execOp
  simp only [ho, resolve, invoke, builtin, Sem.run_bind, Sem.run_pure, Result.andThen_ok, List.map_toArray, List.map_cons, List.map_nil, hs, hx, hr]
  exact h v' w' h2 h3 h5
end Go.Proofs.YtplmdlobbfcknaaGreatDoor
