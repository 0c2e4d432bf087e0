/- Columns closed, in the document: a column and what is in it, walked. -/
import Derived.Test.YtnabebdceaoiiaaGreatDoorClA
import Derived.RangeFuncBox
import Derived.Shelf.Abstract
import Derived.WalkKit
import Derived.RegionTactic
import Derived.Deep.LoopGhost
import Derived.Deep.Draws
import Derived.Deep.QuietTactic
import Derived.Deep.DeepMust
namespace Go.Proofs.YtnabebdceaoiiaaGreatDoor
open Go Go.Ev Go.RowKit
set_option linter.unusedVariables false
set_option linter.unusedSimpArgs false

/-- behind so many kids -/
structure AllLoop (base : Nat) (W0 W : World) (lv : Value) (ns : List Cn) (g n cap m p : Nat) (bs : List Bool) (x : Cn) (k : Nat) : Prop where
  fl : Fl base W g n cap ((x.kids.take k).foldl (allM ns m) (bs.set p true))
  cn : CnAt base W lv ns
  gr : W0.grownBy W (some g)

set_option maxRecDepth 100000 in
set_option maxHeartbeats 400000 in
theorem mq (ns : List Cn) (ok : ln ns.length 0 ns = true) : ∀ (m : Nat) (base : Nat) (W : World) (lv : Value) (g cap p : Nat) (bs : List Bool), CnAt base W lv ns → base ≤ g → Fl base W g ns.length cap bs → p < ns.length → ns.length ≤ p + m →
    Calls Tryz.prog 48 #[lv, .slice (some ⟨g, 0, none⟩) ns.length cap, .int .i64 p] W fun e W' => e = .returned (.tuple #[]) ∧ Fl base W' g ns.length cap (allM ns m bs p) ∧ W.grownBy W' (some g)
  | 0, _, _, _, _, _, _, _, _, _, _, h, h' => by omega
  | m + 1, base, W, lv, g, cap, p, bs, hcn, hb, hfl, hp, hm => by
    obtain ⟨x, hx⟩ : ∃ x, ns[p]? = some x := ⟨_, List.getElem?_eq_getElem hp⟩
    obtain ⟨okk, _, _, okl⟩ := lm ok hx
    obtain ⟨u0, hu0⟩ := hfl.cell hp
    have hf0 := hfl.froz p
    obtain ⟨hset, hgr⟩ := hfl.set (p := p) true
    have L0 : Aside (AllLoop base W (W.setCell ⟨g, p, none⟩ (.bool true)) lv ns g ns.length cap m p bs x 0) := ⟨hset, hcn.kept hgr hb, hgr⟩
    have hbl := hfl.len
    have hcn' : Aside (CnAt base W lv ns) := hcn
    obtain ⟨ad, c, rfl, hc⟩ := hcn
    obtain ⟨b, o, rfl, hbb, _, _, kv, k6, hnum⟩ := hc p x hx
    obtain ⟨ka, kc, rfl, hk⟩ := hnum
    rw [List.length_map] at k6
    replace hk : Aside _ := hk
    clear hc
    replace hfl : Aside (Fl base W g ns.length cap bs) := hfl
    replace hset : Aside _ := hset
    go_enter Tryz.func48, Tryz.ntmps48
    go_wp2
    go_loopw [6] (fun i wl => ∃ k : Nat, k ≤ x.kids.length ∧ i = .int .i64 k ∧ Aside (AllLoop base W wl (.slice (some (ad3 b o)) ns.length c) ns g ns.length cap m p bs x k))
      (fun i _ => x.kids.length - (intOf i).toNat)
    case atStart => exact ⟨0, Nat.zero_le _, rfl, L0⟩
    case round =>
      obtain ⟨k, hkk, rfl, L⟩ := hrel
      have hn6 : wr.cell? (ad3 b (o + p * 9 + 6)) = some (.slice ka x.kids.length kc) := L.gr.cell k6 (by show some b ≠ some g; intro e; cases e; omega)
      by_cases hlt : k < x.kids.length
      · obtain ⟨y, hy⟩ : ∃ y, x.kids[k]? = some y := ⟨_, List.getElem?_eq_getElem hlt⟩
        obtain ⟨kb, ko, rfl, hkb, hkc⟩ := hk k (y : Int) (by rw [List.getElem?_map, hy]; rfl)
        have hny : wr.cell? (ad3 kb (ko + k)) = some (.int .i64 y) := L.gr.cell hkc (by show some kb ≠ some g; intro e; cases e; omega)
        obtain ⟨y1, y2⟩ := okk y (List.mem_of_getElem? hy)
        have ih := mq ns ok m base wr _ g cap y _ L.cn hb L.fl y2 (by omega)
        have e : (x.kids.take (k + 1)).foldl (allM ns m) (bs.set p true) = allM ns m ((x.kids.take k).foldl (allM ns m) (bs.set p true)) y := by
          rw [List.take_add_one, hy, List.foldl_append]; rfl
        replace ih : Aside _ := ih
        replace hy : Aside _ := hy
        go_wp2_with (first
          | (go_at_call 48; go_must (
             refine Calls.mono (Aside.out ih) ?_; rintro e2 w2 ⟨rfl, fl2, gr2⟩
             have L2 : Aside (AllLoop base W w2 (.slice (some (ad3 b o)) ns.length c) ns g ns.length cap m p bs x (k + 1)) := ⟨by rw [e]; exact fl2, L.cn.kept gr2 hb, L.gr.trans gr2⟩
             clear fl2 gr2 ih))
          | go_in)
        go_roundw
        case rel => exact ⟨k + 1, by omega, by go_num, L2⟩
        case measure => simp [intOf]; omega
      · have e : k = x.kids.length := by omega
        subst e
        have L := L.out
        have hfin : (x.kids.take x.kids.length).foldl (allM ns m) (bs.set p true) = allM ns (m + 1) bs p := by rw [allM, hx, List.take_length]
        have hflE := L.fl
        rw [hfin] at hflE
        replace hflE : Aside _ := hflE
        have hgE : Aside _ := L.gr
        clear L hfin
        go_wp2
        go_end0
        exact ⟨rfl, hflE, hgE⟩
end Go.Proofs.YtnabebdceaoiiaaGreatDoor
