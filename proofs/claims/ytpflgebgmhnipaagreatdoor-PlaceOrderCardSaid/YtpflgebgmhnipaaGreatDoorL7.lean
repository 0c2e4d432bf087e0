/- The evaluator of Go code and its proofs, part 7. Own work. -/
import Derived.Test.YtpflgebgmhnipaaGreatDoorL6
import Derived.Orders
import Derived.OrdersIn
import Derived.RangeFuncLeaves
set_option linter.unusedVariables false
set_option linter.unusedSimpArgs false
set_option linter.unusedSectionVars false
/-! EvZd -/
/- What an operation looks at: all kinds; a whole step. Own work. -/
namespace Go.Ev
open Go

section
variable {cfg : Cfg} {dep : Nat} {s s' : Get}

theorem evOp_loc {dst : Option Nat} {io : IOp} (h : ∀ l ∈ io.operands.flatMap (opdLocs s io.span), s' l = s l)
    (hb : ∀ k, dst = some k → (∀ zs, io = .alloc zs → s' (.cell ⟨dep, k, 0⟩) = s (.cell ⟨dep, k, 0⟩)) ∧ (∀ n x, io = .box n x → s' (.cell ⟨dep, k, 0⟩) = s (.cell ⟨dep, k, 0⟩))) :
    evOp cfg dep s' dst io = evOp cfg dep s dst io := by
  have h1 : ∀ x, io.operands = [x] → ∀ l ∈ opdLocs s io.span x, s' l = s l := fun x e l hl => h l (by rw [e]; simpa using hl)
  have h2 : ∀ x y, io.operands = [x, y] → (∀ l ∈ opdLocs s io.span x, s' l = s l) ∧ ∀ l ∈ opdLocs s io.span y, s' l = s l := fun x y e => ⟨fun l hl => h l (by rw [e]; simp [hl]), fun l hl => h l (by rw [e]; simp [hl])⟩
  cases io with
  | mv x => simp only [evOp]; rw [val_loc (h1 x rfl)]
  | asg x =>
    simp only [evOp]
    rw [val_loc (h1 x rfl)]
    cases hv : val cfg s x with
    | none => rfl
    | some v => simp only [Option.bind_some]; exact evAsg_loc dst hv (h1 x rfl)
  | pick c a b =>
    have hc : ∀ l ∈ opdLocs s 0 c, s' l = s l := fun l hl => h l (by simp [IOp.operands]; exact .inl hl)
    have ha : ∀ l ∈ opdLocs s 0 a, s' l = s l := fun l hl => h l (by simp [IOp.operands]; exact .inr (.inl hl))
    have hb' : ∀ l ∈ opdLocs s 0 b, s' l = s l := fun l hl => h l (by simp [IOp.operands]; exact .inr (.inr hl))
    simp only [evOp]
    rw [val_loc hc]
    cases hv : val cfg s c with
    | none => rfl
    | some v =>
      cases v with
      | d y =>
        cases y with
        | bool t =>
          have e : val cfg s' (if t = true then a else b) = val cfg s (if t = true then a else b) := by
            cases t
            · exact val_loc hb'
            · exact val_loc ha
          simp only [e]
        | _ => rfl
      | _ => rfl
  | alloc zs =>
    cases dst with
    | none => rfl
    | some k => simp only [evOp]; rw [(hb k rfl).1 zs rfl]
  | box n x =>
    cases dst with
    | none => rfl
    | some k =>
      simp only [evOp]
      rw [val_loc (h1 x rfl)]
      cases hv : val cfg s x with
      | none => rfl
      | some v => simp only [evBox]; rw [(hb k rfl).2 n x rfl]
  | build zs ps => simp only [evOp]; rw [parts3_loc h]
  | lit own z n zd ps => simp only [evOp]; rw [parts2_loc h]
  | load z a =>
    simp only [evOp]
    rw [val_loc (h1 a rfl)]
    cases hv : val cfg s a with
    | none => rfl
    | some v => simp only [Option.bind_some]; exact evLoad_loc dst z rfl hv (h1 a rfl)
  | store n a x =>
    obtain ⟨ha, hx⟩ := h2 a x rfl
    simp only [evOp]
    rw [val_loc ha, val_loc hx]
    cases hva : val cfg s a with
    | none => rfl
    | some va =>
      cases hvx : val cfg s x with
      | none => rfl
      | some vx => simp only; rw [show evStore s' n va x vx = evStore s n va x vx from evStore_loc hva hvx ha hx]
  | nilck x => simp only [evOp]; rw [val_loc (h1 x rfl)]
  | bin op x y => obtain ⟨ha, hx⟩ := h2 x y rfl; simp only [evOp]; rw [val_loc ha, val_loc hx]
  | eqn neg c x y => obtain ⟨ha, hx⟩ := h2 x y rfl; simp only [evOp]; rw [val_loc ha, val_loc hx]
  | isNil neg x => simp only [evOp]; rw [val_loc (h1 x rfl)]
  | un op x => simp only [evOp]; rw [val_loc (h1 x rfl)]
  | cvInt k x => simp only [evOp]; rw [val_loc (h1 x rfl)]
  | cvStr x => simp only [evOp]; rw [val_loc (h1 x rfl)]
  | b2s x => simp only [evOp]; rw [valc_loc (h1 x rfl)]
  | s2b own x => simp only [evOp]; rw [val_loc (h1 x rfl)]
  | cvB own x => simp only [evOp]; rw [val_loc (h1 x rfl)]
  | mkI t x => simp only [evOp]; rw [val_loc (h1 x rfl)]
  | mkF f a b =>
    have ha : ∀ l ∈ a.flatMap (opdLocs s 0), s' l = s l := fun l hl => h l (by simp only [IOp.operands, List.flatMap_append]; exact List.mem_append_left _ hl)
    have hb' : ∀ l ∈ b.flatMap (opdLocs s 0), s' l = s l := fun l hl => h l (by simp only [IOp.operands, List.flatMap_append]; exact List.mem_append_right _ hl)
    simp only [evOp]
    rw [vals_loc ha, vals_loc hb']
  | mkS z b zd l c => obtain ⟨ha, hx⟩ := h2 l c rfl; simp only [evOp]; rw [dat_loc ha, dat_loc hx]
  | slice z x lo hi mx =>
    have hx : ∀ l ∈ opdLocs s 0 x, s' l = s l := fun l hl => h l (by simp [IOp.operands]; exact .inl hl)
    have hlh : ∀ l ∈ (lo.toList ++ hi.toList).flatMap (opdLocs s 0), s' l = s l := fun l hl => h l (by
      simp only [IOp.operands, List.flatMap_append] at hl ⊢
      simp only [List.mem_append] at hl ⊢
      rcases hl with hl | hl
      · exact .inl (.inl (.inr hl))
      · exact .inl (.inr hl))
    have hm : ∀ l ∈ mx.toList.flatMap (opdLocs s 0), s' l = s l := fun l hl => h l (by
      simp only [IOp.operands, List.flatMap_append]
      exact List.mem_append_right _ hl)
    simp only [evOp]
    rw [val_loc hx]
    cases hv : val cfg s x with
    | none => rfl
    | some v => simp only [Option.bind_some]; exact evSlice_loc dst z hv hx hlh hm
  | sliceS x lo hi =>
    have hx : ∀ l ∈ opdLocs s 0 x, s' l = s l := fun l hl => h l (by simp [IOp.operands]; exact .inl hl)
    have hlh : ∀ l ∈ (lo.toList ++ hi.toList).flatMap (opdLocs s 0), s' l = s l := fun l hl => h l (by
      simp only [IOp.operands, List.flatMap_append] at hl ⊢
      simp only [List.mem_append] at hl ⊢
      rcases hl with hl | hl
      · exact .inl (.inr hl)
      · exact .inr hl)
    simp only [evOp]
    rw [val_loc hx]
    cases hv : val cfg s x with
    | none => rfl
    | some v =>
      cases v with
      | d y =>
        cases y with
        | str b => simp only; rw [sbounds_loc b.length hlh]
        | _ => rfl
      | _ => rfl
  | fieldA off x => simp only [evOp]; rw [val_loc (h1 x rfl)]
  | field off z x => simp only [evOp]; rw [val_loc (h1 x rfl)]
  | idxA z x i =>
    obtain ⟨ha, hx⟩ := h2 x i rfl
    simp only [evOp]
    rw [val_loc ha, dat_loc hx]
    cases hv : val cfg s x with
    | none => rfl
    | some v =>
      cases (dat cfg s i).bind D.toInt? with
      | none => rfl
      | some j => simp only; exact evIdx_loc dst z j hv ha
  | idxS x i => obtain ⟨ha, hx⟩ := h2 x i rfl; simp only [evOp]; rw [val_loc ha, dat_loc hx]
  | idxC n z g x i => obtain ⟨ha, hx⟩ := h2 x i rfl; simp only [evOp]; rw [val_loc ha, dat_loc hx]
  | idxB n z x i => obtain ⟨ha, hx⟩ := h2 x i rfl; simp only [evOp]; rw [val_loc ha, dat_loc hx]
  | ext x i => simp only [evOp]; rw [val_loc (h1 x rfl)]
  | len isS x => cases isS <;> simp only [evOp] <;> rw [val_loc (h1 x rfl)]
  | minmax mx xs => simp only [evOp]; rw [show dats cfg s' xs = dats cfg s xs from dats_loc (n := 0) h]
  | append z b x y =>
    obtain ⟨ha, hx⟩ := h2 x y rfl
    simp only [evOp]
    rw [val_loc ha, valc_loc hx]
    cases hv : val cfg s x with
    | none => rfl
    | some v =>
      cases (val cfg s y).bind (cont s) with
      | none => rfl
      | some ys => simp only; exact evAppend_loc dst z b ys hv ha
  | appendS x y =>
    obtain ⟨ha, hx⟩ := h2 x y rfl
    simp only [evOp]
    rw [val_loc ha, val_loc hx]
    cases hv : val cfg s x with
    | none => rfl
    | some v =>
      cases val cfg s y with
      | none => rfl
      | some w =>
        cases w with
        | d d => 
          cases d with
          | str b => simp only; exact evAppend_loc dst 1 1 _ hv ha
          | _ => rfl
        | _ => rfl
  | copy z x y =>
    obtain ⟨ha, hx⟩ := h2 x y rfl
    simp only [evOp]
    rw [val_loc ha, valc_loc hx]
    cases hv : val cfg s x with
    | none => rfl
    | some v =>
      cases (val cfg s y).bind (cont s) with
      | none => rfl
      | some ys => simp only; exact evCopy_loc dst z ys hv ha
  | tass t zero ok x => simp only [evOp]; rw [val_loc (h1 x rfl)]
  | call own f args => rfl
  | callg own f args i => rfl
  | callv own x args => rfl
  | inv own x nm args => rfl
  | bad => rfl

theorem argsD_of : ∀ {vs : List V}, (∀ v ∈ vs, argD s' v = argD s v) → argsD s' vs = argsD s vs
  | [], _ => rfl
  | v :: vs, h => by
    simp only [argsD]
    rw [h v (by simp), argsD_of (fun u hu => h u (by simp [hu]))]

theorem argD_plain {v : V} (h : v.plainV = true) : argD s' v = argD s v := by
  cases v with
  | iptr e o => cases o <;> rfl
  | bor l o n => simp [V.plainV] at h
  | _ => rfl

theorem vals_mem {n : Nat} : ∀ {xs : List IOpd} {vs : List V}, vals cfg s xs = some vs → (∀ l ∈ xs.flatMap (opdLocs s n), s' l = s l) → ∀ v ∈ vs, argD s' v = argD s v
  | [], vs, hv, _, v, hm => by cases hv; simp at hm
  | x :: xs, vs, hv, h, v, hm => by
    unfold vals at hv
    split at hv
    · rename_i v' vs' h1 h2
      cases hv
      rcases List.mem_cons.1 hm with rfl | hm
      · exact argD_loc (n := n) h1 (fun l hl => h l (by simp [hl]))
      · exact vals_mem (n := n) h2 (fun l hl => h l (by
          rw [List.flatMap_cons]; exact List.mem_append_right _ hl)) v hm
    · cases hv

theorem target_loc {io : IOp} (h : ∀ l ∈ io.operands.flatMap (opdLocs s io.span), s' l = s l) : target cfg s' io = target cfg s io ∧ ∀ own f vs, target cfg s io = some (own, f, vs) → argsD s' vs = argsD s vs := by
  cases io with
  | call own f args =>
    refine ⟨by simp only [target]; rw [show vals cfg s' args = vals cfg s args from vals_loc (n := 0) h], fun own' f' vs ht => ?_⟩
    simp only [target, Option.map_eq_some_iff] at ht
    obtain ⟨vs', hv, he⟩ := ht
    cases he
    exact argsD_of (vals_mem (n := 0) hv h)
  | callv own x args =>
    have hx : ∀ l ∈ opdLocs s 0 x, s' l = s l := fun l hl => h l (by simp [IOp.operands]; exact .inl hl)
    have ha : ∀ l ∈ args.flatMap (opdLocs s 0), s' l = s l := fun l hl => h l (by
      simp only [IOp.operands, List.flatMap_cons]; exact List.mem_append_right _ hl)
    refine ⟨by simp only [target]; rw [val_loc hx, vals_loc ha], fun own' f' vs ht => ?_⟩
    simp only [target] at ht
    split at ht
    · rename_i f0 vs' hv hvs
      cases ht
      exact argsD_of (vals_mem hvs ha)
    · rename_i f0 va vb vs' hv hvs
      split at ht
      · rename_i hq
        simp only [Bool.and_eq_true, List.all_eq_true] at hq
        cases ht
        refine argsD_of fun v hm => ?_
        simp only [List.mem_append] at hm
        rcases hm with (hm | hm) | hm
        · exact argD_plain (hq.1 v hm)
        · exact vals_mem hvs ha v hm
        · exact argD_plain (hq.2 v hm)
      · cases ht
    · cases ht
  | inv own x nm args =>
    have hx : ∀ l ∈ opdLocs s 0 x, s' l = s l := fun l hl => h l (by simp [IOp.operands]; exact .inl hl)
    have ha : ∀ l ∈ args.flatMap (opdLocs s 0), s' l = s l := fun l hl => h l (by
      simp only [IOp.operands, List.flatMap_cons]; exact List.mem_append_right _ hl)
    refine ⟨by simp only [target]; rw [val_loc hx, vals_loc ha], fun own' f' vs ht => ?_⟩
    simp only [target] at ht
    split at ht
    · rename_i t d vs' hv hvs
      simp only [Option.map_eq_some_iff] at ht
      obtain ⟨f0, _, he⟩ := ht
      cases he
      refine argsD_of fun v hm => ?_
      rcases List.mem_cons.1 hm with rfl | hm
      · rfl
      · exact vals_mem hvs ha v hm
    · rename_i t y vs' hv hvs
      split at ht
      · rename_i hq
        simp only [Option.map_eq_some_iff] at ht
        obtain ⟨f0, _, he⟩ := ht
        cases he
        refine argsD_of fun v hm => ?_
        rcases List.mem_cons.1 hm with rfl | hm
        · exact argD_plain hq
        · exact vals_mem hvs ha v hm
      · cases ht
    · cases ht
  | _ => exact ⟨rfl, fun _ _ _ h => by cases h⟩

theorem guard_loc {g : Option (Nat × Bool)} (h : ∀ k b, g = some (k, b) → s' (.slot k) = s (.slot k)) : guardOk s' g = guardOk s g := by
  cases g with
  | none => rfl
  | some kb =>
    obtain ⟨k, b⟩ := kb
    simp only [guardOk]
    rw [h k b rfl]

theorem givenV_loc {n : Nat} {x : IOpd} {v : V} (hv : val cfg s x = some v) (h : ∀ l ∈ opdLocs s n x, s' l = s l) : givenV s' x v = givenV s x v := by
  cases v with
  | bor l o m => cases x <;> simp only [givenV] <;> rw [h l (bor_in hv)]
  | d y => cases y <;> cases x <;> rfl
  | own nw z es => cases nw <;> cases x <;> rfl
  | _ => cases x <;> rfl

theorem updG_agree : ∀ (u : List (Loc × V)) {s s' : Get} {l : Loc}, s' l = s l → updG s' u l = updG s u l
  | [], _, _, _, h => h
  | (l0, v) :: r, s, s', l, h => updG_agree r (by show (if l = l0 then some v else s' l) = (if l = l0 then some v else s l); rw [h])

theorem givenV_keys {x : IOpd} {v : V} {g : List (Loc × V) × V} (h : givenV s x v = some g) : g.1 = [] ∨ ∃ l, g.1 = [(l, .junk)] := by
  unfold givenV at h
  split at h
  · cases h; exact .inl rfl
  · cases h; exact .inl rfl
  · cases h; exact .inr ⟨_, rfl⟩
  · split at h
    · split at h
      · cases h; exact .inr ⟨_, rfl⟩
      · cases h
    · cases h
  · cases h

/-- places looked at behind a giving: no more than ahead of it -/
theorem opdLocs_upd {n : Nat} {u : List (Loc × V)} (hu : u = [] ∨ ∃ l, u = [(l, .junk)]) {x : IOpd} {l : Loc} (h : l ∈ opdLocs (updG s u) n x) : l ∈ opdLocs s n x := by
  rcases hu with rfl | ⟨l0, rfl⟩
  · exact h
  · cases x with
    | t k =>
      simp only [opdLocs, updG] at h ⊢
      by_cases e : Loc.slot k = l0
      · rw [if_pos e] at h
        simp at h
        simp [h]
      · rw [if_neg e] at h
        exact h
    | _ => exact h

theorem callG_loc {orc : Orc} {n : Nat} {dst : Option Nat} {own : Bool} {f : FuncId} {args : List IOpd} {i : Nat} (h : ∀ l ∈ args.flatMap (opdLocs s n), s' l = s l) : callG cfg orc s' dst own f args i = callG cfg orc s dst own f args i := by
  unfold callG
  cases hx : args[i]? with
  | none => rfl
  | some x =>
    simp only [Option.bind_some]
    have hx' : ∀ l ∈ opdLocs s n x, s' l = s l := fun l hl => h l (List.mem_flatMap.2 ⟨x, List.mem_of_getElem? hx, hl⟩)
    rw [val_loc hx']
    cases hv : val cfg s x with
    | none => rfl
    | some v =>
      simp only [Option.bind_some]
      rw [givenV_loc hv hx']
      cases hg : givenV s x v with
      | none => rfl
      | some g =>
        simp only [Option.bind_some]
        have hall : ∀ l ∈ (args.set i (.c .nilS)).flatMap (opdLocs (updG s g.1) n), updG s' g.1 l = updG s g.1 l := fun l hl => by
          obtain ⟨y, h1, h2⟩ := List.mem_flatMap.1 hl
          have h3 := opdLocs_upd (givenV_keys hg) h2
          refine updG_agree _ ?_
          rcases List.mem_or_eq_of_mem_set h1 with h1 | rfl
          · exact h l (List.mem_flatMap.2 ⟨y, h1, h3⟩)
          · simp [opdLocs] at h3
        rw [vals_loc hall]
        cases hvs : vals cfg (updG s g.1) (args.set i (.c .nilS)) with
        | none => rfl
        | some vs =>
          simp only [Option.bind_some]
          rw [argsD_of (vals_mem hvs hall)]

theorem giveL_loc {n : Nat} : ∀ {l : List IOpd}, (∀ q ∈ l.flatMap (opdLocs s n), s' q = s q) → giveL s' l = giveL s l
  | [], _ => rfl
  | .c _ :: r, h => giveL_loc (l := r) fun q hq => h q (List.mem_flatMap.2 (by obtain ⟨y, h1, h2⟩ := List.mem_flatMap.1 hq; exact ⟨y, List.mem_cons_of_mem _ h1, h2⟩))
  | .g _ :: r, h => giveL_loc (l := r) fun q hq => h q (List.mem_flatMap.2 (by obtain ⟨y, h1, h2⟩ := List.mem_flatMap.1 hq; exact ⟨y, List.mem_cons_of_mem _ h1, h2⟩))
  | .t k :: r, h => by
    have ih := giveL_loc (l := r) fun q hq => h q (List.mem_flatMap.2 (by obtain ⟨y, h1, h2⟩ := List.mem_flatMap.1 hq; exact ⟨y, List.mem_cons_of_mem _ h1, h2⟩))
    have e := h (.slot k) (List.mem_flatMap.2 ⟨.t k, List.mem_cons_self, by simp [opdLocs]⟩)
    simp only [giveL, ih, e]
    split
    · rfl
    · rename_i l _ _ hk
      rw [h l (List.mem_flatMap.2 ⟨.t k, List.mem_cons_self, by simp [opdLocs, hk]⟩)]
    · rfl
theorem giveP_loc {n : Nat} : ∀ {l : List IOpd}, (∀ q ∈ l.flatMap (opdLocs s n), s' q = s q) → giveP s' l = giveP s l
  | [], _ => rfl
  | .c _ :: r, h => giveP_loc (l := r) fun q hq => h q (List.mem_flatMap.2 (by obtain ⟨y, h1, h2⟩ := List.mem_flatMap.1 hq; exact ⟨y, List.mem_cons_of_mem _ h1, h2⟩))
  | .g _ :: r, h => giveP_loc (l := r) fun q hq => h q (List.mem_flatMap.2 (by obtain ⟨y, h1, h2⟩ := List.mem_flatMap.1 hq; exact ⟨y, List.mem_cons_of_mem _ h1, h2⟩))
  | .t k :: r, h => by
    have ih := giveP_loc (l := r) fun q hq => h q (List.mem_flatMap.2 (by obtain ⟨y, h1, h2⟩ := List.mem_flatMap.1 hq; exact ⟨y, List.mem_cons_of_mem _ h1, h2⟩))
    have e := h (.slot k) (List.mem_flatMap.2 ⟨.t k, List.mem_cons_self, by simp [opdLocs]⟩)
    simp only [giveP, ih, e]
    split
    · rename_i l _ _ hk
      rw [h l (List.mem_flatMap.2 ⟨.t k, List.mem_cons_self, by simp [opdLocs, hk]⟩)]
    · rfl
theorem giveUp_loc {n : Nat} {l : List IOpd} (h : ∀ q ∈ l.flatMap (opdLocs s n), s' q = s q) : giveUp s' l = giveUp s l := by
  unfold giveUp
  rw [giveL_loc h, giveP_loc h]
theorem giveUp_sl {s : Get} {l : List IOpd} {p : Loc × V} (h : p ∈ giveUp s l) : ∃ es, p.2 = .d (.sl es) := by
  rcases List.mem_append.1 h with h | h
  · obtain ⟨_, _, _, es, _, _, h2, _⟩ := giveL_mem h
    exact ⟨es, h2⟩
  · obtain ⟨_, _, _, _, _, _, _, rfl, _⟩ := giveP_mem h
    exact ⟨_, rfl⟩
theorem giveUp_get (s : Get) (l : List IOpd) (q : Loc) : updG s (giveUp s l) q = s q ∨ ∃ es, updG s (giveUp s l) q = some (.d (.sl es)) := by
  have key : ∀ (u : List (Loc × V)) (g : Get), (∀ p ∈ u, ∃ es, p.2 = .d (.sl es)) → updG g u q = g q ∨ ∃ es, updG g u q = some (.d (.sl es)) := by
    intro u
    induction u with
    | nil => intro g _; exact .inl rfl
    | cons p u ih =>
      intro g hp
      obtain ⟨l, v⟩ := p
      obtain ⟨es, hv⟩ := hp (l, v) List.mem_cons_self
      simp only at hv
      subst hv
      rw [updG_cons]
      rcases ih (fun l' => if l' = l then some (.d (.sl es)) else g l') (fun p h => hp p (List.mem_cons_of_mem _ h)) with h | h
      · rw [h]
        by_cases e : q = l
        · rw [if_pos e]; exact .inr ⟨es, rfl⟩
        · rw [if_neg e]; exact .inl rfl
      · exact .inr h
  exact key _ s fun p hp => giveUp_sl hp
theorem opdLocs_give {n : Nat} {u : List IOpd} {x : IOpd} {l : Loc} (h : l ∈ opdLocs (updG s (giveUp s u)) n x) : l ∈ opdLocs s n x := by
  cases x with
  | t k =>
    simp only [opdLocs] at h ⊢
    rcases giveUp_get s u (.slot k) with e | ⟨es, e⟩
    · rw [e] at h; exact h
    · rw [e] at h
      simp only [List.mem_singleton] at h
      rw [h]
      exact List.mem_cons_self
  | _ => exact h
theorem upds_in {op : IOp} {x : IOpd} (h : x ∈ upds op) : x ∈ op.operands := by
  cases op <;> first | exact h | (simp [upds] at h)
theorem evOpD_loc {dst : Option Nat} {io : IOp} (h : ∀ l ∈ io.operands.flatMap (opdLocs s io.span), s' l = s l)
    (hb : ∀ k, dst = some k → (∀ zs, io = .alloc zs → s' (.cell ⟨dep, k, 0⟩) = s (.cell ⟨dep, k, 0⟩)) ∧ (∀ n x, io = .box n x → s' (.cell ⟨dep, k, 0⟩) = s (.cell ⟨dep, k, 0⟩))) :
    evOpD cfg dep s' dst io = evOpD cfg dep s dst io := by
  have hg : gives cfg s' io = gives cfg s io := by
    cases io with
    | store n a x =>
      simp only [gives]
      rw [val_loc (s := s) (s' := s') (x := a) (n := n) fun l hl => h l (List.mem_flatMap.2 ⟨a, by simp [IOp.operands], hl⟩)]
    | _ => rfl
  have hu : giveUp s' (upds io) = giveUp s (upds io) := giveUp_loc (n := io.span) fun q hq => by
    obtain ⟨y, h1, h2⟩ := List.mem_flatMap.1 hq
    exact h q (List.mem_flatMap.2 ⟨y, upds_in h1, h2⟩)
  unfold evOpD
  rw [hg, hu, evOp_loc h hb]
  split
  · rename_i hgv
    rw [evOp_loc (s := updG s (giveUp s (upds io))) (s' := updG s' (giveUp s (upds io))) (fun l hl => ?_) (fun k hk => ?_)]
    · obtain ⟨y, h1, h2⟩ := List.mem_flatMap.1 hl
      exact updG_agree _ (h l (List.mem_flatMap.2 ⟨y, h1, opdLocs_give h2⟩))
    · refine ⟨fun zs e => ?_, fun n x e => ?_⟩
      · rw [e] at hgv; cases hgv
      · rw [e] at hgv; cases hgv
  · rfl

theorem evOpG_loc {orc : Orc} {dst : Option Nat} {io : IOp} (h : ∀ l ∈ io.operands.flatMap (opdLocs s io.span), s' l = s l)
    (hb : ∀ k, dst = some k → (∀ zs, io = .alloc zs → s' (.cell ⟨dep, k, 0⟩) = s (.cell ⟨dep, k, 0⟩)) ∧ (∀ n x, io = .box n x → s' (.cell ⟨dep, k, 0⟩) = s (.cell ⟨dep, k, 0⟩))) :
    evOpG cfg orc dep s' dst io = evOpG cfg orc dep s dst io := by
  unfold evOpG
  split
  · exact callG_loc h
  · exact evOpD_loc h hb

theorem callT_loc {orc : Orc} {dst : Option Nat} {own : Bool} {f : FuncId} {args : List IOpd} {n : Nat} (h : ∀ l ∈ args.flatMap (opdLocs s n), s' l = s l) :
    callT cfg orc s' dst own f args = callT cfg orc s dst own f args := by
  have hu : giveUp s' args = giveUp s args := giveUp_loc (n := n) h
  have hl : ∀ l ∈ args.flatMap (opdLocs (updG s (giveUp s args)) n), updG s' (giveUp s args) l = updG s (giveUp s args) l := fun l hl => by
    obtain ⟨y, h1, h2⟩ := List.mem_flatMap.1 hl
    exact updG_agree _ (h l (List.mem_flatMap.2 ⟨y, h1, opdLocs_give h2⟩))
  unfold callT
  rw [hu, vals_loc hl]
  cases hv : vals cfg (updG s (giveUp s args)) args with
  | none => rfl
  | some vs =>
    simp only [Option.bind_some, callU]
    rw [argsD_of (vals_mem hv hl)]
theorem callR_loc {orc : Orc} {dst : Option Nat} {io : IOp} {vs : List V} (h : ∀ l ∈ io.operands.flatMap (opdLocs s io.span), s' l = s l) (ha : argsD s' vs = argsD s vs) :
    callR cfg orc s' dst io vs = callR cfg orc s dst io vs := by
  cases io with
  | call own f args =>
    have ht : callT cfg orc s' dst own f args = callT cfg orc s dst own f args := callT_loc (n := 0) h
    simp only [callR, ha, ht]
  | _ => rfl

theorem stepU_loc {orc : Orc} {io : IOper} (h : ∀ l ∈ readsOf dep s io, s' l = s l) : stepU cfg orc dep s' io = stepU cfg orc dep s io := by
  have hop : ∀ l ∈ io.op.operands.flatMap (opdLocs s io.op.span), s' l = s l := fun l hl => h l (by unfold readsOf; exact List.mem_append_right _ hl)
  have hg : guardOk s' io.guard = guardOk s io.guard := guard_loc fun k b e => h _ (by unfold readsOf; rw [e]; simp)
  have hbox : ∀ k, io.dst = some k → (∀ zs, io.op = .alloc zs → s' (.cell ⟨dep, k, 0⟩) = s (.cell ⟨dep, k, 0⟩)) ∧ (∀ n x, io.op = .box n x → s' (.cell ⟨dep, k, 0⟩) = s (.cell ⟨dep, k, 0⟩)) := fun k hk =>
    ⟨fun zs e => h _ (by unfold readsOf; rw [e, hk]; simp), fun n x e => h _ (by unfold readsOf; rw [e, hk]; simp)⟩
  obtain ⟨t1, t2⟩ := target_loc (cfg := cfg) hop
  unfold stepU
  rw [hg, evOpG_loc hop hbox, t1]
  split
  · rfl
  · rfl
  · split
    · rfl
    · split
      · cases hcl : clipArg cfg io.op with
        | some x =>
          simp only
          have hx : val cfg s' x = val cfg s x := by
            unfold clipArg at hcl
            split at hcl
            · rename_i f x' e
              split at hcl
              · cases hcl
                exact val_loc (n := io.op.span) (fun l hl => hop l (by rw [e] at hl ⊢; simpa [IOp.operands] using hl))
              · cases hcl
            · cases hcl
          rw [hx]
        | none =>
          simp only
          cases ht : target cfg s io.op with
          | none => rfl
          | some r =>
            obtain ⟨own, f, vs⟩ := r
            simp only [callU]
            rw [t2 own f vs ht, callR_loc hop (t2 own f vs ht)]
      · rfl

end
end Go.Ev

/-! EvZe -/
/- Regions that draw their order. Own work. -/
namespace Go.Ev
open Go

theorem disj_out {a b : List Loc} (h : disj a b = true) {l : Loc} (ha : l ∈ a) (hb : l ∈ b) : False := by
  simp only [disj, List.all_eq_true] at h
  have := h l ha
  simp at this
  exact this hb

def keysOf (u : List (Loc × V)) : List Loc := u.map (·.1)

theorem updG_out {u : List (Loc × V)} {s : Get} {l : Loc} (h : l ∉ keysOf u) : updG s u l = s l :=
  updG_notin u s fun p hp e => h (e ▸ List.mem_map_of_mem hp)

theorem updG_in : ∀ {u : List (Loc × V)} (s s' : Get) {l : Loc}, l ∈ keysOf u → updG s u l = updG s' u l
  | [], _, _, _, h => by simp [keysOf] at h
  | (l0, v) :: r, s, s', l, h => by
    simp only [updG]
    by_cases hr : l ∈ keysOf r
    · exact updG_in _ _ hr
    · rw [updG_out hr, updG_out hr]
      simp only [keysOf, List.map_cons, List.mem_cons] at h
      rcases h with rfl | h
      · simp
      · exact absurd h hr

/-- the updates of those operations that are done, in the order of the text -/
def part : List (List (Loc × V)) → (Nat → Bool) → Nat → Get → Get
  | [], _, _, s => s
  | u :: us, d, i, s => part us d (i + 1) (if d i then updG s u else s)

theorem part_agree : ∀ (us : List (List (Loc × V))) (d d' : Nat → Bool) (k : Nat) (s s' : Get) (l : Loc), s l = s' l → (∀ j u, us[j]? = some u → d (k + j) ≠ d' (k + j) → l ∉ keysOf u) → part us d k s l = part us d' k s' l
  | [], _, _, _, _, _, _, h, _ => h
  | u :: us, d, d', k, s, s', l, h, hk => by
    refine part_agree us d d' (k + 1) _ _ l ?_ (fun j u' hj hd => hk (j + 1) u' (by simpa using hj) (by rw [show k + (j + 1) = k + 1 + j by omega]; exact hd))
    have h0 := hk 0 u rfl
    simp only [Nat.add_zero] at h0
    by_cases hl : l ∈ keysOf u
    · have : d k = d' k := by
        apply Classical.byContradiction
        intro hne
        exact h0 hne hl
      rw [this]
      split
      · exact updG_in _ _ hl
      · exact h
    · have e1 : (if d k then updG s u else s) l = s l := by split <;> simp [updG_out hl]
      have e2 : (if d' k then updG s' u else s') l = s' l := by split <;> simp [updG_out hl]
      rw [e1, e2, h]

theorem part_out (us : List (List (Loc × V))) (d : Nat → Bool) (k : Nat) (s : Get) (l : Loc) (h : ∀ j u, us[j]? = some u → d (k + j) = true → l ∉ keysOf u) : part us d k s l = s l := by
  have : ∀ (us : List (List (Loc × V))) (k : Nat) (s : Get), part us (fun _ => false) k s = s := by
    intro us
    induction us with
    | nil => intros; rfl
    | cons u us ih => intro k s; simp [part, ih]
  rw [part_agree us d (fun _ => false) k s s l rfl (fun j u hj hd => h j u hj (by simpa using hd)), this]

theorem part_at : ∀ (us : List (List (Loc × V))) (d : Nat → Bool) (k i : Nat) (s s'' : Get) (u : List (Loc × V)) (l : Loc), us[i]? = some u → d (k + i) = true → l ∈ keysOf u →
    (∀ j u', us[j]? = some u' → i < j → d (k + j) = true → l ∉ keysOf u') → part us d k s l = updG s'' u l
  | [], _, _, _, _, _, _, _, h, _, _, _ => by simp at h
  | u0 :: us, d, k, 0, s, s'', u, l, h, hd, hl, hlast => by
    simp only [List.getElem?_cons_zero, Option.some.injEq] at h
    subst h
    simp only [Nat.add_zero] at hd
    simp only [part, hd, if_true]
    rw [part_out us d (k + 1) _ l (fun j u' hj hdj => hlast (j + 1) u' (by simpa using hj) (by omega) (by rw [show k + (j + 1) = k + 1 + j by omega]; exact hdj))]
    exact updG_in _ _ hl
  | u0 :: us, d, k, i + 1, s, s'', u, l, h, hd, hl, hlast => by
    simp only [part]
    exact part_at us d (k + 1) i _ s'' u l (by simpa using h) (by rw [show k + 1 + i = k + (i + 1) by omega]; exact hd) hl (fun j u' hj hij hdj => hlast (j + 1) u' (by simpa using hj) (by omega) (by rw [show k + (j + 1) = k + 1 + j by omega]; exact hdj))

theorem part_congr (us : List (List (Loc × V))) (d d' : Nat → Bool) (k : Nat) (s : Get) (h : ∀ j, j < us.length → d (k + j) = d' (k + j)) : part us d k s = part us d' k s := by
  funext l
  exact part_agree us d d' k s s l rfl (fun j u hj hd => absurd (h j (List.getElem?_eq_some_iff.1 hj).1) hd)

/-- the operations in the order of the text: their updates -/
theorem evOpsU_us {cfg : Cfg} {orc : Orc} {dep : Nat} : ∀ (l : List IOper) (st st' : St) (rw_ : List (List Loc × List Loc)), evOpsU cfg orc dep l st = some (rw_, st') →
    ∃ us : List (List (Loc × V)), us.length = l.length ∧ st'.get = part us (fun _ => true) 0 st.get ∧
      ∀ i io, l[i]? = some io → ∃ u, us[i]? = some u ∧ stepU cfg orc dep (part us (fun j => decide (j < i)) 0 st.get) io = some u ∧ rw_[i]? = some (readsOf dep (part us (fun j => decide (j < i)) 0 st.get) io, keysOf u)
  | [], st, st', rw_, h => by cases h; exact ⟨[], rfl, rfl, fun i io h => by simp at h⟩
  | io :: l, st, st', rw_, h => by
    unfold evOpsU at h
    split at h
    · rename_i u hu
      split at h
      · rename_i rw' st2 h2
        cases h
        obtain ⟨us, h3, h4, h5⟩ := evOpsU_us l (st.upd u) st' rw' h2
        have hsh : ∀ (us : List (List (Loc × V))) (d d' : Nat → Bool) (k k' : Nat) (s : Get), (∀ j, d (k + j) = d' (k' + j)) → part us d k s = part us d' k' s := by
          intro us
          induction us with
          | nil => intros; rfl
          | cons u us ih =>
            intro d d' k k' s hd
            have h0 := hd 0
            simp only [Nat.add_zero] at h0
            simp only [part, h0]
            exact ih d d' (k + 1) (k' + 1) _ (fun j => by have := hd (j + 1); rwa [show k + (j + 1) = k + 1 + j by omega, show k' + (j + 1) = k' + 1 + j by omega] at this)
        refine ⟨u :: us, by simp [h3], ?_, fun i io' hi => ?_⟩
        · rw [h4, get_upd]
          simp only [part, if_true]
          exact hsh us _ _ 0 (0 + 1) _ (fun j => rfl)
        · cases i with
          | zero =>
            simp only [List.getElem?_cons_zero, Option.some.injEq] at hi
            subst hi
            have hs0 : part (u :: us) (fun j => decide (j < 0)) 0 st.get = st.get := by
              funext l
              exact part_out _ _ _ _ _ (fun j u _ hd => by simp at hd)
            rw [hs0]
            exact ⟨u, rfl, hu, rfl⟩
          | succ i =>
            obtain ⟨u', g1, g2, g3⟩ := h5 i io' (by simpa using hi)
            have hs1 : part (u :: us) (fun j => decide (j < i + 1)) 0 st.get = part us (fun j => decide (j < i)) 0 (st.upd u).get := by
              rw [get_upd]
              simp only [part, show decide (0 < i + 1) = true by simp, if_true]
              exact hsh us _ _ (0 + 1) 0 _ (fun j => by simp; omega)
            rw [hs1]
            exact ⟨u', by simpa using g1, g2, by simpa using g3⟩
      · cases h
    · cases h

theorem backw_spec : ∀ (es : List (List Nat)) (k : Nat), backw k es = true → ∀ i e, es[i]? = some e → ∀ p ∈ e, p < k + i
  | [], _, _, i, e, h => by simp at h
  | e0 :: es, k, hb, i, e, h => by
    simp only [backw, Bool.and_eq_true, List.all_eq_true, decide_eq_true_eq] at hb
    intro p hp
    cases i with
    | zero =>
      simp only [List.getElem?_cons_zero, Option.some.injEq] at h
      subst h
      simpa using hb.1 p hp
    | succ i =>
      have := backw_spec es (k + 1) hb.2 i e (by simpa using h) p hp
      omega

/-- what comes ahead: the operation's own edges, and what comes ahead of those -/
theorem mem_uniq {p : Nat} : ∀ {l : List Nat}, p ∈ uniq l → p ∈ l
  | x :: r, h => by
    simp only [uniq, uadd] at h
    split at h
    · exact List.mem_cons_of_mem _ (mem_uniq h)
    · rcases List.mem_cons.1 h with rfl | h
      · exact List.mem_cons_self
      · exact List.mem_cons_of_mem _ (mem_uniq h)

theorem befores_spec (es : List (List Nat)) : ∀ (r acc : List (List Nat)), (∀ (i : Nat) e, r[i]? = some e → es[acc.length + i]? = some e) →
    (∀ (j : Nat) b, acc[j]? = some b → ∀ p ∈ b, ∃ e, es[j]? = some e ∧ (p ∈ e ∨ ∃ q ∈ e, q < j ∧ ∃ b', (befores acc r)[q]? = some b' ∧ p ∈ b')) →
    ∀ (j : Nat) b, (befores acc r)[j]? = some b → ∀ p ∈ b, ∃ e, es[j]? = some e ∧ (p ∈ e ∨ ∃ q ∈ e, q < j ∧ ∃ b', (befores acc r)[q]? = some b' ∧ p ∈ b')
  | [], acc, _, h => h
  | e0 :: r, acc, hr, h => by
    have hpre : ∀ (r acc : List (List Nat)) (j : Nat) b, acc[j]? = some b → (befores acc r)[j]? = some b := by
      intro r
      induction r with
      | nil => exact fun _ _ _ h => h
      | cons e r ih =>
        intro acc j b h
        simp only [befores]
        refine ih _ j b ?_
        rw [List.getElem?_append_left (List.getElem?_eq_some_iff.1 h).1]
        exact h
    simp only [befores] at h ⊢
    refine befores_spec es r _ (fun i e hi => ?_) (fun j b hj p hp => ?_)
    · have := hr (i + 1) e (by simpa using hi)
      rw [List.length_append, List.length_singleton]
      rw [show acc.length + 1 + i = acc.length + (i + 1) by omega]
      exact this
    · by_cases hlt : j < acc.length
      · rw [List.getElem?_append_left hlt] at hj
        exact h j b hj p hp
      · have hj2 : j = acc.length := by
          have := (List.getElem?_eq_some_iff.1 hj).1
          simp at this
          omega
        subst hj2
        have hes := hr 0 e0 rfl
        simp only [Nat.add_zero] at hes
        refine ⟨e0, hes, ?_⟩
        rw [List.getElem?_append_right (Nat.le_refl _)] at hj
        simp only [Nat.sub_self, List.getElem?_cons_zero, Option.some.injEq] at hj
        have key : ∀ (l : List Nat) (a : List Nat), p ∈ l.foldl (fun a e => e :: ((acc[e]?).getD [] ++ a)) a → p ∈ a ∨ p ∈ l ∨ ∃ q ∈ l, p ∈ (acc[q]?).getD [] := by
          intro l
          induction l with
          | nil => exact fun a h => .inl h
          | cons q l ih =>
            intro a hp
            rcases ih _ hp with hp | hp | ⟨q', h1, h2⟩
            · rcases List.mem_cons.1 hp with rfl | hp
              · exact .inr (.inl (by simp))
              · rcases List.mem_append.1 hp with hp | hp
                · exact .inr (.inr ⟨q, by simp, hp⟩)
                · exact .inl hp
            · exact .inr (.inl (by simp [hp]))
            · exact .inr (.inr ⟨q', by simp [h1], h2⟩)
        rw [← hj] at hp
        rcases key e0 [] (mem_uniq hp) with hp | hp | ⟨q, h1, h2⟩
        · simp at hp
        · exact .inl hp
        · refine .inr ⟨q, h1, ?_⟩
          cases hq : acc[q]? with
          | none => rw [hq] at h2; simp at h2
          | some b' =>
            rw [hq] at h2
            refine ⟨(List.getElem?_eq_some_iff.1 hq).1, b', ?_, h2⟩
            refine hpre r _ q b' ?_
            rw [List.getElem?_append_left (List.getElem?_eq_some_iff.1 hq).1]
            exact hq

/-- a set of operations that is closed under 'ahead' -/
theorem befores_closed {es : List (List Nat)} {d : Nat → Bool} (hd : ∀ (j : Nat) e, es[j]? = some e → d j = true → ∀ q ∈ e, d q = true) :
    ∀ (j : Nat) b, (befores [] es)[j]? = some b → d j = true → ∀ p ∈ b, d p = true := by
  have hs := befores_spec es es [] (fun i e h => by simpa using h) (fun j b h => by simp at h)
  intro j
  induction j using Nat.strongRecOn with
  | _ j ih =>
    intro b hb hdj p hp
    obtain ⟨e, he, h⟩ := hs j b hb p hp
    rcases h with h | ⟨q, h1, h2, b', h3, h4⟩
    · exact hd j e he hdj p h
    · exact ih q h2 b' h3 (hd j e he hdj q h1) p h4

theorem befores_len : ∀ (es acc : List (List Nat)), (befores acc es).length = acc.length + es.length
  | [], acc => rfl
  | e :: es, acc => by rw [befores, befores_len es]; simp; omega

theorem unord_mem {bs : List (List Nat)} {i j : Nat} (hij : i < j) (hj : j < bs.length) (h : i ∉ bs[j]) : (i, j) ∈ unordPairs bs := by
  unfold unordPairs
  refine List.mem_flatMap.2 ⟨j, List.mem_range.2 hj, List.mem_map.2 ⟨i, List.mem_filter.2 ⟨List.mem_range.2 hij, ?_⟩, rfl⟩⟩
  rw [List.getElem?_eq_getElem hj]
  simpa using h

theorem unordOk_spec {l : List (List Loc × List Loc)} : ∀ {un : List (Nat × Nat)}, unordOk l un = true → ∀ i j, (i, j) ∈ un → ∃ ri wi rj wj, l[i]? = some (ri, wi) ∧ l[j]? = some (rj, wj) ∧ disj wi (rj ++ wj) = true ∧ disj wj ri = true
  | [], _, i, j, h => by simp at h
  | (i0, j0) :: r, hk, i, j, h => by
    unfold unordOk at hk
    split at hk
    · rename_i ri wi rj wj h1 h2
      simp only [Bool.and_eq_true] at hk
      rcases List.mem_cons.1 h with e | h
      · cases e
        exact ⟨ri, wi, rj, wj, h1, h2, hk.1.1, hk.1.2⟩
      · exact unordOk_spec hk.2 i j h
    · cases hk

end Go.Ev

/-! EvZf -/
/- Regions that draw their order: any order. Own work. -/
namespace Go.Ev
open Go

section
variable {P : Program} {cfg : Cfg} {N dep : Nat}

theorem stepU_wp {x : Cx} {s : Get} {a : Act} {w : World} {orc : Orc} (hC : CfgOk P cfg) (hO : OrcOk P cfg orc) (R : Rel cfg x N s a w) {ops : Array Oper} {o : Oper} {io : IOper} (hc : COper P N ops o io) {u : List (Loc × V)} (hsu : stepU cfg orc dep s io = some u)
    {next : Act → World → Prop} {Q : Exit → Act → World → Prop} (hn : ∀ v w' x', Rel cfg x' N (updG s u) (a.put o.dst v) w' → Fr dep x x' w w' → next (a.put o.dst v) w') :
    (Region.wanted o (yielded ops a.tmps) = true ∧ o.wp P a w next Q) ∨ (Region.wanted o (yielded ops a.tmps) = false ∧ next (a.put o.dst undef) w) := by
  cases hg : guardOk s io.guard with
  | none => unfold stepU at hsu; rw [hg] at hsu; cases hsu
  | some t =>
    cases t
    · refine .inr ⟨guard_wanted R hc hg, ?_⟩
      unfold stepU at hsu
      rw [hg] at hsu
      cases hsu
      refine hn undef w x ?_ (.refl _ _ _)
      rw [hc.dst]
      cases hd : o.dst with
      | none => exact R
      | some k => exact R.put (hc.lt k hd) rfl (l := none) (.d _ _ _ (undef_rd _ _))
    · exact .inl ⟨guard_wanted R hc hg, sim_stepU hC hO R hc hg hsu next Q hn⟩

def doneF (listed : Array Bool) (j : Nat) : Bool := listed.getD j false

def left (n : Nat) (d : Nat → Bool) : Nat := ((List.range n).filter fun i => !d i).length

theorem filt1 (f : Nat → Bool) (n : Nat) : (List.filter f [n]).length = if f n then 1 else 0 := by
  cases h : f n <;> simp [h]

theorem left_mono (d d' : Nat → Bool) (h : ∀ i, d i = true → d' i = true) : ∀ n, left n d' ≤ left n d
  | 0 => Nat.le_refl _
  | n + 1 => by
    have ih := left_mono d d' h n
    unfold left at *
    rw [List.range_succ, List.filter_append, List.filter_append, List.length_append, List.length_append]
    have : (List.filter (fun i => !d' i) [n]).length ≤ (List.filter (fun i => !d i) [n]).length := by
      rw [filt1, filt1]
      have := h n
      cases hd : d n <;> cases hd' : d' n <;> simp_all
    omega

theorem left_lt (d d' : Nat → Bool) (h : ∀ i, d i = true → d' i = true) : ∀ n i, i < n → d i = false → d' i = true → left n d' < left n d
  | 0, i, hi, _, _ => by omega
  | n + 1, i, hi, h1, h2 => by
    have hm := left_mono d d' h n
    by_cases e : i = n
    · subst e
      unfold left at *
      rw [List.range_succ, List.filter_append, List.filter_append, List.length_append, List.length_append]
      simp [h1, h2]
      omega
    · have ih := left_lt d d' h n i (by omega) h1 h2
      have hm1 : (List.filter (fun i => !d' i) [n]).length ≤ (List.filter (fun i => !d i) [n]).length := by
        rw [filt1, filt1]
        have := h n
        cases hd : d n <;> cases hd' : d' n <;> simp_all
      unfold left at *
      rw [List.range_succ, List.filter_append, List.filter_append, List.length_append, List.length_append]
      omega

theorem left_zero {n : Nat} {d : Nat → Bool} (h : left n d = 0) : ∀ i, i < n → d i = true := by
  intro i hi
  unfold left at h
  have := List.eq_nil_of_length_eq_zero h
  rw [List.filter_eq_nil_iff] at this
  have := this i (List.mem_range.2 hi)
  simpa using this

theorem ready_spec {ops : Array Oper} {listed : Array Bool} (hs : listed.size = ops.size) {i : Nat} (hi : i ∈ Region.ready .any ops listed) :
    i < ops.size ∧ doneF listed i = false ∧ ∃ o, ops[i]? = some o ∧ ∀ q ∈ edgesOf o, doneF listed q = true := by
  unfold Region.ready at hi
  rw [List.mem_filter] at hi
  obtain ⟨h1, h2⟩ := hi
  have hlt := List.mem_range.1 h1
  simp only [Bool.and_eq_true, Bool.not_eq_true'] at h2
  refine ⟨hlt, ?_, ops[i], Array.getElem?_eq_getElem hlt, fun q hq => ?_⟩
  · have := h2.1
    unfold doneF
    rw [Array.getD_eq_getD_getElem?] at this ⊢
    rw [Array.getElem?_eq_getElem (by omega)] at this ⊢
    exact this
  · have h3 := h2.2
    rw [Array.getElem?_eq_getElem hlt] at h3
    simp only [Option.map_some, Option.getD_some, Array.all_eq_true_iff_forall_mem] at h3
    unfold edgesOf at hq
    obtain ⟨e, he, rfl⟩ := List.mem_map.1 hq
    obtain ⟨he1, he2⟩ := List.mem_filter.1 he
    have := h3 e (by simpa using he1)
    rw [he2] at this
    simpa [doneF] using this

theorem ready_nil {ops : Array Oper} {listed : Array Bool} (hs : listed.size = ops.size) (hb : backw 0 (ops.toList.map edgesOf) = true) (h : Region.ready .any ops listed = []) : ∀ i, i < ops.size → doneF listed i = true := by
  intro i
  induction i using Nat.strongRecOn with
  | _ i ih =>
    intro hi
    apply Classical.byContradiction
    intro hno
    have hno' : doneF listed i = false := by simpa using hno
    have : i ∈ Region.ready .any ops listed := by
      unfold Region.ready
      rw [List.mem_filter]
      refine ⟨List.mem_range.2 hi, ?_⟩
      simp only [Bool.and_eq_true, Bool.not_eq_true']
      constructor
      · unfold doneF at hno'
        rw [Array.getD_eq_getD_getElem?] at hno' ⊢
        rw [Array.getElem?_eq_getElem (by omega)] at hno' ⊢
        exact hno'
      · rw [Array.getElem?_eq_getElem hi]
        simp only [Option.map_some, Option.getD_some, Array.all_eq_true_iff_forall_mem]
        intro e he
        cases hbd : Region.binds .any e with
        | false => rfl
        | true =>
          have hlt := backw_spec _ 0 hb i (edgesOf ops[i]) (by simp [hi]) e.on (List.mem_map.2 ⟨e, List.mem_filter.2 ⟨by simpa using he, hbd⟩, rfl⟩)
          have := ih e.on (by omega) (by omega)
          simpa [doneF] using this
    rw [h] at this
    simp at this

theorem doneF_set {listed : Array Bool} {i : Nat} (hi : i < listed.size) (j : Nat) : doneF (listed.setIfInBounds i true) j = if j = i then true else doneF listed j := by
  unfold doneF
  rw [Array.getD_eq_getD_getElem?, Array.getD_eq_getD_getElem?, Array.getElem?_setIfInBounds]
  by_cases e : i = j
  · subst e; simp [hi]
  · simp [e, Ne.symm e]

theorem wpAny_ev {orc : Orc} (hC : CfgOk P cfg) (hO : OrcOk P cfg orc) {ops : Array Oper} {Q : Exit → Act → World → Prop} {l : List IOper} (hlen : l.length = ops.size) (hl : ∀ (j : Nat) io, l[j]? = some io → ∃ o, ops[j]? = some o ∧ COper P N ops o io)
    (hb : backw 0 (ops.toList.map edgesOf) = true) {st st' : St} {rw_ : List (List Loc × List Loc)} (hev : evOpsU cfg orc dep l st = some (rw_, st')) (hun : unordOk rw_ (unordPairs (befores [] (ops.toList.map edgesOf))) = true) :
    ∃ us : List (List (Loc × V)), us.length = ops.size ∧ ∀ (fuel : Nat) (listed : Array Bool) (x : Cx) (a : Act) (w : World), listed.size = ops.size → (∀ (j : Nat) o, ops[j]? = some o → doneF listed j = true → ∀ q ∈ edgesOf o, doneF listed q = true) →
      left ops.size (doneF listed) ≤ fuel → Rel cfg x N (part us (doneF listed) 0 st.get) a w →
      (∀ a' w' x', Rel cfg x' N st'.get a' w' → Fr dep x x' w w' → Q .normal a' w') → wpAny P .any ops Q fuel listed a w := by
  obtain ⟨us, hul, hfin, hus⟩ := evOpsU_us l st st' rw_ hev
  refine ⟨us, by rw [hul, hlen], fun fuel => ?_⟩
  have hbl : (befores [] (ops.toList.map edgesOf)).length = ops.size := by rw [befores_len]; simp
  have hend : ∀ (listed : Array Bool) (x : Cx) (a : Act) (w : World), (∀ i, i < ops.size → doneF listed i = true) → Rel cfg x N (part us (doneF listed) 0 st.get) a w → Rel cfg x N st'.get a w := by
    intro listed x a w hall R
    rw [hfin, ← part_congr us (doneF listed) (fun _ => true) 0 st.get (fun j hj => by rw [Nat.zero_add]; exact hall j (by omega))]
    exact R
  induction fuel with
  | zero =>
    intro listed x a w hs hcl hle R hQ
    have hall := left_zero (Nat.le_zero.1 hle)
    refine ⟨?_, hQ a w x (hend listed x a w hall R) (.refl _ _ _)⟩
    cases hr : Region.ready .any ops listed with
    | nil => rfl
    | cons i r =>
      obtain ⟨h1, h2, _⟩ := ready_spec hs (i := i) (by rw [hr]; simp)
      rw [hall i h1] at h2; cases h2
  | succ fuel ih =>
    intro listed x a w hs hcl hle R hQ
    refine ⟨fun hr => hQ a w x (hend listed x a w (ready_nil hs hb hr) R) (.refl _ _ _), fun i hi => ?_⟩
    obtain ⟨h1, h2, o, ho, h3⟩ := ready_spec hs hi
    obtain ⟨io, hio⟩ : ∃ io, l[i]? = some io := ⟨_, List.getElem?_eq_getElem (by omega)⟩
    obtain ⟨o', ho', hc⟩ := hl i io hio
    rw [ho] at ho'
    cases ho'
    obtain ⟨u, g1, g2, g3⟩ := hus i io hio
    have hclosed : ∀ (j : Nat) e, (ops.toList.map edgesOf)[j]? = some e → doneF listed j = true → ∀ q ∈ e, doneF listed q = true := by
      intro j e he hdj q hq
      rw [List.getElem?_map] at he
      cases hoj : ops.toList[j]? with
      | none => rw [hoj] at he; cases he
      | some oj =>
        rw [hoj] at he
        cases he
        exact hcl j oj (by simpa using hoj) hdj q hq
    have hbc := befores_closed hclosed
    -- who may be out of order with i
    have hpair : ∀ j, j < ops.size → j ≠ i → (doneF listed j ≠ decide (j < i)) → ∀ u', us[j]? = some u' → ∀ lc, lc ∈ keysOf u' → lc ∉ readsOf dep (part us (fun j => decide (j < i)) 0 st.get) io ∧ lc ∉ keysOf u := by
      intro j hj hne hd u' hu' lc hlc
      obtain ⟨ioj, hioj⟩ : ∃ io, l[j]? = some io := ⟨_, List.getElem?_eq_getElem (by omega)⟩
      obtain ⟨uj, f1, _, f3⟩ := hus j ioj hioj
      rw [hu'] at f1
      cases f1
      by_cases hji : j < i
      · -- j ahead of i in the text, not done
        have hdj : doneF listed j = false := by simpa [hji] using hd
        have hin : (j, i) ∈ unordPairs (befores [] (ops.toList.map edgesOf)) := by
          refine unord_mem hji (by omega) (fun hmem => ?_)
          obtain ⟨e, he, hp⟩ := befores_spec (ops.toList.map edgesOf) (ops.toList.map edgesOf) [] (fun i e h => by rw [List.length_nil, Nat.zero_add]; exact h) (fun j b h => by simp at h) i _ (List.getElem?_eq_getElem (by omega)) j hmem
          have hee : e = edgesOf o := by
            rw [List.getElem?_map] at he
            rw [show ops.toList[i]? = some o by simpa using ho] at he
            cases he; rfl
          subst hee
          rcases hp with hp | ⟨q, hq1, _, b', hq3, hq4⟩
          · rw [h3 j hp] at hdj; cases hdj
          · rw [hbc q b' hq3 (h3 q hq1) j hq4] at hdj; cases hdj
        obtain ⟨rj, wj, ri, wi, e1, e2, e3, e4⟩ := unordOk_spec hun j i hin
        rw [f3] at e1
        rw [g3] at e2
        cases e1
        cases e2
        exact ⟨fun h => disj_out e3 hlc (List.mem_append_left _ h), fun h => disj_out e3 hlc (List.mem_append_right _ h)⟩
      · have hdj : doneF listed j = true := by
          have : decide (j < i) = false := by simp; omega
          rw [this] at hd
          simpa using hd
        have hin : (i, j) ∈ unordPairs (befores [] (ops.toList.map edgesOf)) := by
          refine unord_mem (by omega) (by omega) (fun hmem => ?_)
          have := hbc j _ (List.getElem?_eq_getElem (by omega)) hdj i hmem
          rw [h2] at this; cases this
        obtain ⟨ri, wi, rj, wj, e1, e2, e3, e4⟩ := unordOk_spec hun i j hin
        rw [g3] at e1
        rw [f3] at e2
        cases e1
        cases e2
        exact ⟨fun h => disj_out e4 hlc h, fun h => disj_out e3 h (List.mem_append_right _ hlc)⟩
    have hagree : ∀ lc ∈ readsOf dep (part us (fun j => decide (j < i)) 0 st.get) io, part us (doneF listed) 0 st.get lc = part us (fun j => decide (j < i)) 0 st.get lc := by
      intro lc hlc
      refine part_agree us _ _ 0 _ _ lc rfl (fun j u' hj hd hk => ?_)
      rw [Nat.zero_add] at hd
      have hjl : j < ops.size := by have := (List.getElem?_eq_some_iff.1 hj).1; omega
      by_cases hji : j = i
      · subst hji
        rw [h2] at hd
        simp at hd
      · exact (hpair j hjl hji hd u' hj lc hk).1 hlc
    have hsu : stepU cfg orc dep (part us (doneF listed) 0 st.get) io = some u := by rw [stepU_loc hagree]; exact g2
    have hset : ∀ j, doneF (listed.setIfInBounds i true) j = if j = i then true else doneF listed j := doneF_set (by omega)
    have hcong : ∀ lc, part us (doneF (listed.setIfInBounds i true)) 0 st.get lc = updG (part us (doneF listed) 0 st.get) u lc := by
      intro lc
      by_cases hlc : lc ∈ keysOf u
      · refine part_at us _ 0 i st.get _ u lc g1 (by rw [Nat.zero_add, hset]; simp) hlc (fun j u' hj hij hd hk => ?_)
        rw [Nat.zero_add, hset, if_neg (by omega)] at hd
        have hjl : j < ops.size := by have := (List.getElem?_eq_some_iff.1 hj).1; omega
        exact (hpair j hjl (by omega) (by rw [hd]; simp; omega) u' hj lc hk).2 hlc
      · rw [updG_out hlc]
        refine part_agree us _ _ 0 _ _ lc rfl (fun j u' hj hd => ?_)
        rw [Nat.zero_add, hset] at hd
        by_cases hji : j = i
        · subst hji
          rw [g1] at hj
          cases hj
          exact hlc
        · rw [if_neg hji] at hd
          exact absurd rfl hd
    have hnext : ∀ v w' x', Rel cfg x' N (updG (part us (doneF listed) 0 st.get) u) (a.put o.dst v) w' → Fr dep x x' w w' → wpAny P .any ops Q fuel (listed.setIfInBounds i true) (a.put o.dst v) w' := by
      intro v w' x' R' F
      refine ih (listed.setIfInBounds i true) x' _ w' (by simpa using hs) (fun j oj hoj hdj q hq => ?_) ?_ (R'.congr hcong) (fun a' w'' x'' R'' F' => hQ a' w'' x'' R'' (F.trans F'))
      · rw [hset] at hdj ⊢
        split at hdj
        · rename_i e
          subst e
          rw [ho] at hoj
          cases hoj
          rw [h3 q hq]; simp
        · rw [hcl j oj hoj hdj q hq]; simp
      · have := left_lt (doneF listed) (doneF (listed.setIfInBounds i true)) (fun j hj => by rw [hset, hj]; simp) ops.size i h1 h2 (by rw [hset]; simp)
        omega
    unfold wpOp
    rw [ho]
    simp only
    rcases stepU_wp hC hO R hc hsu (Q := Q) hnext with ⟨e1, e2⟩ | ⟨e1, e2⟩
    · rw [if_pos e1]; exact .inl e2
    · rw [if_neg (by rw [e1]; simp)]; exact e2

end
end Go.Ev

/-! EvZg -/
/- Behind a region, ahead of one. Own work. -/
namespace Go.Ev
open Go

section
variable {P : Program} {cfg : Cfg} {x : Cx} {N dep : Nat} {a : Act} {w : World}

/-- another state of the same memory, value by value -/
theorem Rel.same {s s' : Get} (R : Rel cfg x N s a w) (h : ∀ l v', s' l = some v' → ∃ v, s l = some v ∧ ∀ u, RdV x s (conc x a w) w (some l) u v → RdV x s' (conc x a w) w (some l) u v')
    (hal : ∀ c v', s' (.cell c) = some v' → (s' (.cell ⟨c.d, c.k, 0⟩)).isSome) : Rel cfg x N s' a w := by
  refine ⟨R.size, R.defs, R.bound, fun l v' hl => ?_, fun k v' hk => ?_, fun c v' hc => ?_, R.globs, R.nofz, R.gobj⟩
  · obtain ⟨v, h1, h2⟩ := h l v' hl
    obtain ⟨u, hu, hr⟩ := R.locs l v h1
    exact ⟨u, hu, h2 u hr⟩
  · obtain ⟨v, h1, _⟩ := h _ v' hk
    exact R.slotN k v h1
  · obtain ⟨v, h1, _⟩ := h _ v' hc
    obtain ⟨g1, g2, g3⟩ := R.box c v h1
    exact ⟨g1, hal c v' hc, g3⟩

theorem lk_settleM (dep : Nat) (c : Cel) : ∀ m : List (Cel × V), lk (settleM dep m) c = (lk m c).map (V.home dep)
  | [] => rfl
  | (k, v) :: r => by
    simp only [settleM, lk]
    split
    · rfl
    · exact lk_settleM dep c r

theorem lk_settleE (dep : Nat) (e : List (Nat × V)) (k : Nat) : ∀ keep : List Nat, lk (settleE dep keep e) k = if keep.contains k then (lk e k).map (V.home dep) else none
  | [] => by simp [settleE, lk]
  | k0 :: r => by
    have ih := lk_settleE dep e k r
    unfold settleE
    by_cases e0 : k0 = k
    · subst e0
      cases h : lk e k0 with
      | some v => simp [lk]
      | none => rw [h] at ih; simp [ih]
    · have e1 : ¬ k = k0 := fun h => e0 h.symm
      split
      · simp [lk, e0, ih, e1]
      · simp [ih, e1]

/-- a value at home -/
theorem RdV.home {s s' : Get} {l : Loc} {u : Value} {v : V} (h : RdV x s (conc x a w) w (some l) u v) (hal : ∀ d k, (s (.cell ⟨d, k, 0⟩)).isSome → (s' (.cell ⟨d, k, 0⟩)).isSome) : RdV x s' (conc x a w) w (some l) u (v.home dep) := by
  have go : (if v.upTo (dep + 1) then v else .junk) = v.home dep → RdV x s' (conc x a w) w (some l) u (v.home dep) := fun e => by
    rw [← e]
    split
    · rename_i hup
      exact h.move (dep + 1) (fun b o u h1 h2 => ⟨h1, h2⟩) (.refl _) (fun d k _ h => ⟨hal d k h, rfl⟩) (fun l0 e b hb => ⟨hb, fun o u h => h⟩) hup
    · exact .junk _ _
  cases v with
  | own nw z es =>
    cases h with
    | own _ b o len cap _ _ _ how hlen hcap A => exact .own _ _ _ _ _ _ _ _ how hlen hcap A
  | _ => exact go rfl

theorem Rel.settle {st : St} (R : Rel cfg x N st.get a w) (keep : List Nat) : Rel cfg x N (settle dep keep st).get a w := by
  have hc : ∀ c v', (Go.Ev.settle dep keep st).get (.cell c) = some v' → ∃ v, st.get (.cell c) = some v ∧ v' = v.home dep := fun c v' h => by
    have h' : lk (settleM dep st.mem) c = some v' := h
    rw [lk_settleM, Option.map_eq_some_iff] at h'
    obtain ⟨v, h1, h2⟩ := h'
    exact ⟨v, h1, h2.symm⟩
  have hal : ∀ d k, (st.get (.cell ⟨d, k, 0⟩)).isSome → ((Go.Ev.settle dep keep st).get (.cell ⟨d, k, 0⟩)).isSome := fun d k h => by
    show (lk (settleM dep st.mem) _).isSome
    rw [lk_settleM, Option.isSome_map]
    exact h
  refine R.same (fun l v' hl => ?_) (fun c v' h => ?_)
  · cases l with
    | slot k =>
      have h' : lk (settleE dep keep st.env) k = some v' := hl
      rw [lk_settleE] at h'
      split at h'
      · rw [Option.map_eq_some_iff] at h'
        obtain ⟨v, h1, rfl⟩ := h'
        exact ⟨v, h1, fun u hr => hr.home hal⟩
      · cases h'
    | cell c =>
      obtain ⟨v, h1, rfl⟩ := hc c v' hl
      exact ⟨v, h1, fun u hr => hr.home hal⟩
  · obtain ⟨v, h1, _⟩ := hc c v' h
    exact hal _ _ (R.box c v h1).2.1

theorem lk_demoteE (k k' : Nat) : ∀ m : List (Nat × V), lk (demoteE k m) k' = if k' = k then (lk m k').map (fun v => match v with | .own _ _ es => .d (.sl es) | v => v) else lk m k'
  | [] => by simp [demoteE, lk]
  | (k0, v) :: r => by
    have ih := lk_demoteE k k' r
    simp only [demoteE]
    split
    · rename_i e
      subst e
      cases v <;> simp only [lk] <;> by_cases e : k0 = k' <;> simp [e]
      all_goals (intro h; exact absurd h.symm e)
    · rename_i hne
      simp only [lk]
      by_cases e : k0 = k'
      · subst e; simp [hne]
      · simp [e, ih]

theorem Rel.demote {st : St} (R : Rel cfg x N st.get a w) (k : Nat) : ∃ x', Rel cfg x' N (St.get { st with env := demoteE k st.env }) a w ∧ Fr dep x x' w w := by
  by_cases h : ∃ nw z es, st.get (.slot k) = some (.own nw z es)
  · obtain ⟨nw, z, es, h⟩ := h
    obtain ⟨b, h1, _, h2⟩ := R.release h
    refine ⟨_, h2.congr (fun l => ?_), Fr.give h1 _⟩
    rw [updG_one]
    cases l with
    | slot k' =>
      show lk (demoteE k st.env) k' = _
      rw [lk_demoteE]
      by_cases e : k' = k
      · subst e
        have h' : lk st.env k' = some (.own nw z es) := h
        simp [h']
      · simp [e]; rfl
    | cell c => simp; rfl
  · refine ⟨x, R.congr (fun l => ?_), .refl _ _ _⟩
    cases l with
    | slot k' =>
      show lk (demoteE k st.env) k' = lk st.env k'
      rw [lk_demoteE]
      split
      · rename_i e
        subst e
        cases hv : lk st.env k' with
        | none => rfl
        | some v =>
          cases v with
          | own nw z es => exact absurd ⟨nw, z, es, hv⟩ h
          | _ => rfl
      · rfl
    | cell c => rfl

theorem Rel.demotes : ∀ (ls : List Nat) {st : St} {x : Cx}, Rel cfg x N st.get a w → ∃ x', Rel cfg x' N (St.get { st with env := ls.foldl (fun e k => demoteE k e) st.env }) a w ∧ Fr dep x x' w w
  | [], st, x, R => ⟨x, R, .refl _ _ _⟩
  | k :: ls, st, x, R => by
    obtain ⟨x1, R1, F1⟩ := R.demote (dep := dep) k
    obtain ⟨x2, R2, F2⟩ := Rel.demotes ls R1
    exact ⟨x2, R2, F1.trans F2⟩

theorem Rel.givesB : ∀ (ls : List Nat) {st : St} {x : Cx}, Rel cfg x N st.get a w → ∃ x', Rel cfg x' N (Go.Ev.givesB st ls).get a w ∧ Fr dep x x' w w
  | [], st, x, R => ⟨x, R, .refl _ _ _⟩
  | k :: ls, st, x, R => by
    have one : ∃ x', Rel cfg x' N (st.upd (givenB st.get k)).get a w ∧ Fr dep x x' w w := by
      rw [get_upd]
      unfold givenB
      split
      · split
        · rename_i h
          obtain ⟨b, h1, _, h2⟩ := R.release h
          exact ⟨_, h2, Fr.give h1 _⟩
        · exact ⟨x, R, .refl _ _ _⟩
      · exact ⟨x, R, .refl _ _ _⟩
    obtain ⟨x1, R1, F1⟩ := one
    obtain ⟨x2, R2, F2⟩ := Rel.givesB ls R1
    exact ⟨x2, R2, F1.trans F2⟩

theorem lk_freeE (d k j : Nat) : ∀ m : List (Nat × V), lk (freeE d k m) j = (lk m j).map (V.free d k)
  | [] => rfl
  | (j0, v) :: r => by
    simp only [freeE, lk]
    split
    · rfl
    · exact lk_freeE d k j r

theorem lk_freeM (d k : Nat) (c : Cel) : ∀ m : List (Cel × V), lk (freeM d k m) c = if c.d = d ∧ c.k = k then none else (lk m c).map (V.free d k)
  | [] => by simp [freeM, lk]
  | (c0, v) :: r => by
    have ih := lk_freeM d k c r
    unfold freeM
    split
    · rename_i h
      rw [ih]
      simp only [lk]
      by_cases e : c0 = c
      · subst e; simp [h]
      · simp [e]
    · rename_i h
      simp only [lk]
      by_cases e : c0 = c
      · subst e; simp [h]
      · simp [e, ih]

theorem aparts_get {d k : Nat} : ∀ {l : List V}, V.aparts d k l = true → ∀ (i : Nat) y, l[i]? = some y → y.apart d k = true
  | [], _, i, y, h => by simp at h
  | v :: r, ha, i, y, h => by
    simp only [V.aparts, Bool.and_eq_true] at ha
    cases i with
    | zero => simp at h; rw [← h]; exact ha.1
    | succ i => exact aparts_get ha.2 i y (by simpa using h)
theorem RdV.toApart {x : Cx} {s s' : Get} {cv : Loc → Option Value} {w : World} {d k : Nat} (hown : ∀ l z es, s' l = some (.own false z es) → s l = some (.own false z es))
    (hal : ∀ d' j, ¬ (d' = d ∧ j = k) → (s (.cell ⟨d', j, 0⟩)).isSome → (s' (.cell ⟨d', j, 0⟩)).isSome) {l : Option Loc} {u : Value} {y : V} (h : RdV x s cv w l u y) : y.apart d k = true → RdV x s' cv w l u y := by
  induction h with
  | d _ _ y h => exact fun _ => .d _ _ _ h
  | own _ b o len cap z nw es how hlen hcap A => exact fun _ => .own _ _ _ _ _ _ _ _ how hlen hcap A
  | bor _ l' off len b o' cap' hcap h => exact fun _ => .bor _ _ _ _ _ _ _ hcap fun z es hs => h z es (hown _ _ _ hs)
  | bref _ l' i off b o' h => exact fun _ => .bref _ _ _ _ _ _ fun z es hs => h z es (hown _ _ _ hs)
  | iptr _ b o off e h => exact fun _ => .iptr _ _ _ _ _ h
  | ref _ d' j off h =>
    intro ha
    refine .ref _ _ _ _ (hal d' j (fun ⟨e1, e2⟩ => ?_) h)
    subst e1 e2
    simp [V.apart] at ha
  | clo _ f va vb xs ys hl hl' _ _ ih ih' =>
    intro ha
    simp only [V.apart, Bool.and_eq_true] at ha
    exact .clo _ _ _ _ _ _ hl hl' (fun i v y h1 h2 => ih i v y h1 h2 (aparts_get ha.1 i y h2)) (fun i v y h1 h2 => ih' i v y h1 h2 (aparts_get ha.2 i y h2))
  | ifc _ t v y _ ih => exact fun ha => .ifc _ _ _ _ (ih ha)
  | junk => exact fun _ => .junk _ _

theorem Rel.free {st : St} (R : Rel cfg x N st.get a w) (k : Nat) : Rel cfg x N (St.get ⟨freeE dep k st.env, freeM dep k st.mem⟩) a w := by
  have hall : ∀ l v', St.get ⟨freeE dep k st.env, freeM dep k st.mem⟩ l = some v' → (∀ c, l = .cell c → ¬ (c.d = dep ∧ c.k = k)) ∧ ∃ v, st.get l = some v ∧ v' = v.free dep k := fun l v' h => by
    cases l with
    | slot j =>
      have h' : lk (freeE dep k st.env) j = some v' := h
      rw [lk_freeE, Option.map_eq_some_iff] at h'
      obtain ⟨v, h1, h2⟩ := h'
      exact ⟨(fun c e => by cases e), v, h1, h2.symm⟩
    | cell c =>
      have h' : lk (freeM dep k st.mem) c = some v' := h
      rw [lk_freeM] at h'
      split at h'
      · cases h'
      · rename_i hne
        rw [Option.map_eq_some_iff] at h'
        obtain ⟨v, h1, h2⟩ := h'
        exact ⟨fun c' e => by cases e; exact hne, v, h1, h2.symm⟩
  have hal : ∀ d j, ¬ (d = dep ∧ j = k) → (st.get (.cell ⟨d, j, 0⟩)).isSome → (St.get ⟨freeE dep k st.env, freeM dep k st.mem⟩ (.cell ⟨d, j, 0⟩)).isSome := fun d j hne h => by
    show (lk (freeM dep k st.mem) _).isSome
    rw [lk_freeM, if_neg hne, Option.isSome_map]
    exact h
  have hown : ∀ l z es, St.get ⟨freeE dep k st.env, freeM dep k st.mem⟩ l = some (.own false z es) → st.get l = some (.own false z es) := fun l z es h => by
    obtain ⟨_, v, h1, h2⟩ := hall l _ h
    rw [h1]
    cases v with
    | own nw z' es' => simpa [V.free] using h2.symm
    | ref d' k' off =>
      simp only [V.free] at h2
      split at h2 <;> cases h2
    | clo f a b =>
      simp only [V.free] at h2
      split at h2 <;> cases h2
    | ifc t v =>
      simp only [V.free] at h2
      split at h2 <;> cases h2
    | _ => simp [V.free] at h2
  refine R.same (fun l v' hl => ?_) (fun c v' h => ?_)
  · obtain ⟨_, v, h1, rfl⟩ := hall l v' hl
    refine ⟨v, h1, fun u hr => ?_⟩
    cases hr with
    | d _ _ y h => exact .d _ _ _ h
    | own _ b o len cap z nw es how hlen hcap A => exact .own _ _ _ _ _ _ _ _ how hlen hcap A
    | bor _ l' off len b o' cap' hcap h => exact .bor _ _ _ _ _ _ _ hcap fun z es hs => h z es (hown _ _ _ hs)
    | bref _ l' i off b o' h => exact .bref _ _ _ _ _ _ fun z es hs => h z es (hown _ _ _ hs)
    | iptr _ b o off e h => exact .iptr _ _ _ _ _ h
    | ref _ d j off h =>
      simp only [V.free]
      split
      · exact .junk _ _
      · rename_i hne
        exact .ref _ _ _ _ (hal d j hne h)
    | clo _ f va vb xs ys k1 k2 g g' =>
      simp only [V.free]
      split
      · rename_i ha
        exact (RdV.clo _ f va vb xs ys k1 k2 g g').toApart hown hal (by simpa only [V.apart] using ha)
      · exact .junk _ _
    | ifc _ t v y g =>
      simp only [V.free]
      split
      · rename_i ha
        exact (RdV.ifc _ t v y g).toApart hown hal (by simpa only [V.apart] using ha)
      · exact .junk _ _
    | junk => exact .junk _ _
  · obtain ⟨h0, v, h1, _⟩ := hall _ v' h
    exact hal _ _ (h0 c rfl) (R.box c v h1).2.1

end
end Go.Ev

/-! EvZh -/
/- Code: what the evaluator answers is what the model does. Own work. -/
namespace Go.Ev
open Go

theorem cOpers_spec {P : Program} {ad : Advice} {N : Nat} {ops : Array Oper} : ∀ (r : List Oper) (l : List IOper), cOpers P ad N (ops.toList.map (·.dst)) r = some l →
    l.length = r.length ∧ ∀ (j : Nat) io, l[j]? = some io → ∃ o, r[j]? = some o ∧ COper P N ops o io
  | [], l, h => by cases h; simp
  | o :: r, l, h => by
    unfold cOpers at h
    split at h
    · rename_i io l' h1 h2
      cases h
      obtain ⟨g1, g2⟩ := cOpers_spec r l' h2
      refine ⟨by simp [g1], fun j io' hj => ?_⟩
      cases j with
      | succ j =>
        obtain ⟨o', h3, h4⟩ := g2 j io' (by simpa using hj)
        exact ⟨o', by simpa using h3, h4⟩
      | zero =>
        simp only [List.getElem?_cons_zero, Option.some.injEq] at hj
        subst hj
        refine ⟨o, rfl, ?_⟩
        unfold cOper at h1
        simp only at h1
        split at h1
        · rename_i hok
          have hlt : ∀ k, o.dst = some k → k < N := fun k e => by rw [e] at hok; simpa [okDst] using hok
          split at h1
          · rename_i hg
            cases h1
            exact ⟨rfl, hlt, ⟨_, _, rfl⟩, by rw [hg]⟩
          · rename_i i b hg
            split at h1
            · rename_i k hk
              cases h1
              refine ⟨rfl, hlt, ⟨_, _, rfl⟩, ?_⟩
              rw [hg]
              refine ⟨k, ?_, rfl⟩
              rw [List.getElem?_map] at hk
              cases ho : ops[i]? with
              | none => rw [show ops.toList[i]? = none by simpa using ho] at hk; cases hk
              | some oi =>
                rw [show ops.toList[i]? = some oi by simpa using ho] at hk
                simpa using hk
            · cases h1
        · cases h1
    · cases h

section
variable {P : Program} {cfg : Cfg} {N dep : Nat}

theorem un_nil_all {es : List (List Nat)} (h : unordPairs (befores [] es) = []) {i j : Nat} (hij : i < j) (hj : j < es.length) : ∃ b, (befores [] es)[j]? = some b ∧ i ∈ b := by
  have hl : j < (befores [] es).length := by rw [befores_len]; simpa using hj
  refine ⟨_, List.getElem?_eq_getElem hl, ?_⟩
  apply Classical.byContradiction
  intro hno
  have := unord_mem hij hl hno
  rw [h] at this
  simp at this

/-- a region that draws its order, but has only one -/
theorem wpAny_ord {orc : Orc} (hC : CfgOk P cfg) (hO : OrcOk P cfg orc) {ops : Array Oper} {Q : Exit → Act → World → Prop} {L : List IOper} (hlen : L.length = ops.size) (hL : ∀ (j : Nat) io, L[j]? = some io → ∃ o, ops[j]? = some o ∧ COper P N ops o io)
    (hb : backw 0 (ops.toList.map edgesOf) = true) (hun : unordPairs (befores [] (ops.toList.map edgesOf)) = []) :
    ∀ (l : List IOper) (i : Nat) (listed : Array Bool) (x : Cx) (a : Act) (w : World) (st st' : St), l = L.drop i → listed.size = ops.size → (∀ j, j < ops.size → doneF listed j = decide (j < i)) → Rel cfg x N st.get a w → evOps cfg orc dep l st = some st' →
    (∀ a' w' x', Rel cfg x' N st'.get a' w' → Fr dep x x' w w' → Q .normal a' w') → wpAny P .any ops Q l.length listed a w
  | [], i, listed, x, a, w, st, st', hl, hs, hd, R, h, hQ => by
    cases h
    have hi : ops.size ≤ i := by
      have := congrArg List.length hl
      simp at this
      omega
    refine ⟨?_, hQ a w x R (.refl _ _ _)⟩
    cases hr : Region.ready .any ops listed with
    | nil => rfl
    | cons j r =>
      obtain ⟨h1, h2, _⟩ := ready_spec hs (i := j) (by rw [hr]; simp)
      rw [hd j h1] at h2
      simp at h2
      omega
  | io :: l, i, listed, x, a, w, st, st', hl, hs, hd, R, h, hQ => by
    have hi : i < ops.size := by
      have := congrArg List.length hl
      simp at this
      omega
    refine ⟨fun hr => ?_, fun p hp => ?_⟩
    · have := ready_nil hs hb hr i hi
      rw [hd i hi] at this
      simp at this
    · obtain ⟨h1, h2, o, ho, h3⟩ := ready_spec hs hp
      have hpi : p = i := by
        rw [hd p h1] at h2
        simp at h2
        apply Classical.byContradiction
        intro hne
        have hip : i < p := by omega
        obtain ⟨b, hb1, hb2⟩ := un_nil_all hun hip (by simpa using h1)
        have hclosed : ∀ (j : Nat) e, (ops.toList.map edgesOf)[j]? = some e → doneF listed j = true → ∀ q ∈ e, doneF listed q = true := by
          intro j e he hdj q hq
          have hj : j < ops.size := by have := (List.getElem?_eq_some_iff.1 he).1; simpa using this
          have hlt := backw_spec _ 0 hb j e he q hq
          rw [hd j hj] at hdj
          simp at hdj
          rw [hd q (by omega)]
          simp; omega
        obtain ⟨e, he, hpp⟩ := befores_spec (ops.toList.map edgesOf) (ops.toList.map edgesOf) [] (fun i e h => by rw [List.length_nil, Nat.zero_add]; exact h) (fun j b h => by simp at h) p b hb1 i hb2
        have hee : e = edgesOf o := by
          rw [List.getElem?_map] at he
          rw [show ops.toList[p]? = some o by simpa using ho] at he
          cases he; rfl
        subst hee
        have hdi : doneF listed i = true := by
          rcases hpp with hpp | ⟨q, hq1, _, b', hq3, hq4⟩
          · exact h3 i hpp
          · exact befores_closed hclosed q b' hq3 (h3 q hq1) i hq4
        rw [hd i hi] at hdi
        simp at hdi
      subst hpi
      have hio : L[p]? = some io := by
        have := congrArg (fun l => l[0]?) hl
        simpa using this.symm
      obtain ⟨o', ho', hc⟩ := hL p io hio
      rw [ho] at ho'
      cases ho'
      unfold evOps at h
      split at h
      · rename_i st1 hst
        have hrest : ∀ v w' x', Rel cfg x' N st1.get (a.put o.dst v) w' → Fr dep x x' w w' → wpAny P .any ops Q l.length (listed.setIfInBounds p true) (a.put o.dst v) w' := fun v w' x' R' F =>
          wpAny_ord hC hO hlen hL hb hun l (p + 1) _ x' _ w' st1 st' (by
            have := congrArg List.tail hl
            simpa using this) (by simpa using hs) (fun j hj => by
              rw [doneF_set (by omega), hd j hj]
              by_cases e : j = p
              · simp [e]
              · rw [if_neg e]
                congr 1
                exact propext ⟨fun h => by omega, fun h => by omega⟩) R' h (fun a' w'' x'' R'' F' => hQ a' w'' x'' R'' (F.trans F'))
        unfold wpOp
        rw [ho]
        simp only
        rcases step_wp hC hO R hc hst (Q := Q) hrest with ⟨h1, h2⟩ | ⟨h1, h2⟩
        · rw [if_pos h1]; exact .inl h2
        · rw [if_neg (by rw [h1]; simp)]; exact h2
      · cases h

end
end Go.Ev

/-! EvZi -/
/- Code, whole. Own work. -/
namespace Go.Ev
open Go

theorem D.same_eq {a b : D} (h : a.same b = true) : a = b := by
  unfold D.same at h
  split at h <;> first | rfl | (simp only [beq_iff_eq] at h; rw [h]) | (simp only [Bool.and_eq_true, decide_eq_true_eq, beq_iff_eq] at h; rw [h.1, h.2]) | cases h
theorem envSame_eq : ∀ {a b : List (Nat × V)}, envSame a b = true → a = b
  | [], [], _ => rfl
  | (k, .d x) :: r, (k', .d y) :: r', h => by
    simp only [envSame, Bool.and_eq_true, beq_iff_eq] at h
    rw [h.1.1, D.same_eq h.1.2, envSame_eq h.2]
  | [], _ :: _, h => by simp [envSame] at h
  | (_, v) :: _, [], h => by cases v <;> simp [envSame] at h
  | (_, .d _) :: _, (_, v) :: _, h => by cases v <;> first | (simp [envSame] at h; done) | skip; rename_i y; rename_i k x r k' r'; simp only [envSame, Bool.and_eq_true, beq_iff_eq] at h; rw [h.1.1, D.same_eq h.1.2, envSame_eq h.2]
  | (_, .own _ _ _) :: _, _ :: _, h | (_, .bor _ _ _) :: _, _ :: _, h | (_, .bref _ _ _) :: _, _ :: _, h | (_, .iptr _ _) :: _, _ :: _, h | (_, .ref _ _ _) :: _, _ :: _, h | (_, .clo _ _ _) :: _, _ :: _, h | (_, .ifc _ _) :: _, _ :: _, h | (_, .junk) :: _, _ :: _, h => by simp [envSame] at h
theorem exSame_eq {a b : Ex} (h : exSame a b = true) : a = b := by
  unfold exSame at h
  split at h <;> first | rfl | (simp only [beq_iff_eq] at h; rw [h]) | cases h
theorem bothWays_eq {a b : Option (Ex × St)} {r : Ex × St} (h : bothWays a b = some r) : a = some r ∧ b = some r := by
  unfold bothWays at h
  split at h
  · rename_i e s e' s'
    split at h
    · rename_i hq
      cases h
      simp only [Bool.and_eq_true, List.isEmpty_iff] at hq
      obtain ⟨⟨⟨h1, h2⟩, h3⟩, h4⟩ := hq
      have := exSame_eq h1
      subst this
      obtain ⟨e1, m1⟩ := s
      obtain ⟨e2, m2⟩ := s'
      have := envSame_eq h2
      simp only at this h3 h4
      subst this; subst h3; subst h4
      exact ⟨rfl, rfl⟩
    · cases h
  · cases h
theorem bothWays_of {a b a' b' : Option (Ex × St)} (ha : ∀ r, a = some r → a' = some r) (hb : ∀ r, b = some r → b' = some r) {r : Ex × St} (h : bothWays a b = some r) : bothWays a' b' = some r := by
  obtain ⟨h1, h2⟩ := bothWays_eq h
  rw [ha r h1, hb r h2]
  rw [h1, h2] at h
  exact h

def exitOf : Ex → Exit
  | .normal => .normal
  | .ret => .ret
  | .exit id => .exit id

section
variable {P : Program} {cfg : Cfg} {N dep : Nat}

theorem region_ops {orc : Orc} (hC : CfgOk P cfg) (hO : OrcOk P cfg orc) {ops : Array Oper} {draw : Bool} {ad : Advice} {l : List IOper} (hl : cOpers P ad N (ops.toList.map (·.dst)) ops.toList = some l)
    (hb : draw = true → backw 0 (ops.toList.map edgesOf) = true) {st st' : St} {x : Cx} {a : Act} {w : World} (R : Rel cfg x N st.get a w)
    (hev : evRegion cfg orc dep l (if draw then unordPairs (befores [] (ops.toList.map edgesOf)) else []) st = some st') {Q : Exit → Act → World → Prop}
    (hQ : ∀ a' w' x', Rel cfg x' N st'.get a' w' → Fr dep x x' w w' → Q .normal a' w') :
    if draw then wpAny P .any ops Q ops.size (Array.replicate ops.size false) a { w with drawn := w.drawn + 1 } else wpOps P ops Q (List.range ops.size) a w := by
  obtain ⟨hlen, hspec⟩ := cOpers_spec ops.toList l hl
  have hspec' : ∀ (j : Nat) io, l[j]? = some io → ∃ o, ops[j]? = some o ∧ COper P N ops o io := fun j io h => by
    obtain ⟨o, h1, h2⟩ := hspec j io h
    exact ⟨o, by simpa using h1, h2⟩
  have hlen' : l.length = ops.size := by simpa using hlen
  cases draw with
  | false =>
    have hev' : evOps cfg orc dep l st = some st' := hev
    show wpOps P ops Q (List.range ops.size) a w
    rw [List.range_eq_range', ← hlen']
    exact wpOps_ev hC hO l 0 x a w st st' R (fun j io h => by rw [Nat.zero_add]; exact hspec' j io h) hev' hQ
  | true =>
    show wpAny P .any ops Q ops.size (Array.replicate ops.size false) a { w with drawn := w.drawn + 1 }
    have hdone : ∀ j, doneF (Array.replicate ops.size false) j = false := fun j => by
      unfold doneF
      rw [Array.getD_eq_getD_getElem?, Array.getElem?_replicate]
      split <;> rfl
    have hQ' : ∀ a' w' x', Rel cfg x' N st'.get a' w' → Fr dep x x' { w with drawn := w.drawn + 1 } w' → Q .normal a' w' := fun a' w' x' R' F => hQ a' w' x' R' (Fr.drew.trans F)
    have hev : evRegion cfg orc dep l (unordPairs (befores [] (ops.toList.map edgesOf))) st = some st' := hev
    unfold evRegion at hev
    split at hev
    · rename_i un hun
      rw [← hlen']
      have := wpAny_ord hC hO (Q := Q) hlen' hspec' (hb rfl) hun l 0 (Array.replicate ops.size false) x a { w with drawn := w.drawn + 1 } st st' rfl (by simp) (fun j _ => by rw [hdone]; simp) R.drew hev hQ'
      rwa [hlen'] at this ⊢
    · split at hev
      · rename_i rw_ st2 hst2
        split at hev
        · rename_i hok
          cases hev
          obtain ⟨us, hul, h⟩ := wpAny_ev hC hO (Q := Q) hlen' hspec' (hb rfl) hst2 hok
          refine h ops.size (Array.replicate ops.size false) x a _ (by simp) (fun j o _ hd => by rw [hdone] at hd; cases hd) ?_ ?_ hQ'
          · unfold left
            refine Nat.le_trans (List.length_filter_le _ _) ?_
            simp
          · have : part us (doneF (Array.replicate ops.size false)) 0 st.get = st.get := by
              funext lc
              exact part_out _ _ _ _ _ (fun j u _ hd => by rw [hdone] at hd; cases hd)
            rw [this]
            exact R.drew
        · cases hev
      · cases hev

theorem region_wp {orc : Orc} (hm : P.follows .mixedOrders = true) (hC : CfgOk P cfg) (hO : OrcOk P cfg orc) {id : Nat} {ops : Array Oper} {draw : Bool} {ad : Advice} {l : List IOper} (hl : cOpers P ad N (ops.toList.map (·.dst)) ops.toList = some l)
    (hb : draw = true → backw 0 (ops.toList.map edgesOf) = true) {st st' : St} {x : Cx} {a : Act} {w : World} (R : Rel cfg x N st.get a w)
    (hev : evRegion cfg orc dep l (if draw then unordPairs (befores [] (ops.toList.map edgesOf)) else []) st = some st') {Q : Exit → Act → World → Prop}
    (hQ : ∀ a' w' x', Rel cfg x' N st'.get a' w' → Fr dep x x' w w' → Q .normal a' w') : (Code.region id ops draw).wp P Q a w := by
  have h := region_ops hC hO hl hb R hev hQ
  cases draw
  · exact wp_region h
  · exact wp_region_any hm h

end
end Go.Ev

/-! EvRnd -/
/- Regions in a round of a range over a function. Own work. -/
namespace Go.Ev
open Go

/-- a round of loop r -/
abbrev rnd (r : Nat) : Fence := Fence.wide.inRound r

theorem stepsIn_rnd {P : Program} {r : Nat} {m m' : Machine} : StepsIn (Machine.fenced P (rnd r)) P m m' ↔ Steps P m m' := stepsIn_wide (P := P)

section
variable {P : Program} {ops : Array Oper} {Q : Exit → Act → World → Prop} {r n : Nat}

theorem upon_lift {o : Oper} {a : Act} {next next' : Act → World → Prop} {res : Result Next} (hQ : ¬ LetsOut Q) (hn : ∀ a w, next a w → next' a w) (h : o.upon P a next Q res) : o.uponIn (rnd r) n P a next' Q res := by
  unfold Oper.upon at h
  split at h
  · exact hn _ _ h
  · exact hn _ _ h
  · exact hn _ _ h
  · refine ⟨(fun h => by cases h), CallsIn.mono (F := rnd r) (show CallsIn (rnd r) _ _ _ _ _ _ from callsIn_wide.2 h) fun e w' hr => ?_⟩
    cases e with
    | returned v => exact hn _ _ hr
    | panicked c => exact hr
    | outgrown => exact hr
  · refine ⟨(fun h => by cases h), fun c cs _ => ?_⟩
    obtain ⟨v, w', h1, h2⟩ := h c cs
    exact ⟨v, w', hn _ _ h1, stepsIn_rnd.2 h2⟩
  · exact h
  · exact h.elim

theorem oper_lift {o : Oper} {a : Act} {w : World} {next next' : Act → World → Prop} (hd : ∀ c, o.op ≠ .defer c) (hQ : ¬ LetsOut Q) (hn : ∀ a w, next a w → next' a w) (h : o.wp P a w next Q) : o.wpIn (rnd r) n P a w next' Q := by
  refine ⟨fun _ _ => trivial, ?_⟩
  rw [Oper.semAt_eq _ _ _ hd]
  exact upon_lift hQ hn h

theorem ops_lift (hd : ∀ (j : Nat) o, ops[j]? = some o → ∀ c, o.op ≠ .defer c) (hQ : ¬ LetsOut Q) : ∀ (l : List Nat) (a : Act) (w : World), wpOps P ops Q l a w → wpOpsIn (rnd r) n P ops Q l a w
  | [], _, _, h => h
  | i :: l, a, w, h => by
    unfold wpOps at h
    unfold wpOpsIn
    split at h
    · rename_i e; rw [e]; exact ops_lift hd hQ l a w h
    · rename_i o e
      rw [e]
      simp only
      split at h
      · rename_i hw
        rw [if_pos hw]
        rcases h with h | h
        · exact oper_lift (hd i o e) hQ (fun a w h => ops_lift hd hQ l a w h) h
        · exact absurd h.2 hQ
      · rename_i hw
        rw [if_neg hw]
        exact ⟨fun _ _ => trivial, ops_lift hd hQ l _ w h⟩

theorem any_lift (hd : ∀ (j : Nat) o, ops[j]? = some o → ∀ c, o.op ≠ .defer c) (hQ : ¬ LetsOut Q) (md : Region.Mode) : ∀ (fuel : Nat) (listed : Array Bool) (a : Act) (w : World), wpAny P md ops Q fuel listed a w → wpAnyIn (rnd r) n P md ops Q fuel listed a w
  | 0, _, _, _, h => h
  | fuel + 1, listed, a, w, h => by
    refine ⟨h.1, fun i hi => ?_⟩
    have h2 := h.2 i hi
    unfold wpOp at h2
    unfold wpOpIn
    split at h2
    · rename_i e; rw [e]; exact any_lift hd hQ md fuel _ a w h2
    · rename_i o e
      rw [e]
      simp only
      split at h2
      · rename_i hw
        rw [if_pos hw]
        rcases h2 with h2 | h2
        · exact oper_lift (hd i o e) hQ (fun a w h => any_lift hd hQ md fuel _ a w h) h2
        · exact absurd h2.2 hQ
      · rename_i hw
        rw [if_neg hw]
        exact ⟨fun _ _ => trivial, any_lift hd hQ md fuel _ _ w h2⟩

theorem region_rnd {cfg : Cfg} {N dep : Nat} {orc : Orc} (hm : P.follows .mixedOrders = true) (hC : CfgOk P cfg) (hO : OrcOk P cfg orc) {id : Nat} {draw : Bool} {ad : Advice} {l : List IOper} (hl : cOpers P ad N (ops.toList.map (·.dst)) ops.toList = some l)
    (hb : draw = true → backw 0 (ops.toList.map edgesOf) = true) (hd : ∀ (j : Nat) o, ops[j]? = some o → ∀ c, o.op ≠ .defer c) {st st' : St} {x : Cx} {a : Act} {w : World} (R : Rel cfg x N st.get a w)
    (hev : evRegion cfg orc dep l (if draw then unordPairs (befores [] (ops.toList.map edgesOf)) else []) st = some st')
    (hQ : ∀ a' w' x', Rel cfg x' N st'.get a' w' → Fr dep x x' w w' → Q .normal a' w') : (Code.region id ops draw).wpIn (rnd r) n P Q a w := by
  have h := region_ops hC hO hl hb R hev (Q := fun e a' w' => e = .normal ∧ ∃ x', Rel cfg x' N st'.get a' w' ∧ Fr dep x x' w w') (fun a' w' x' R' F' => ⟨rfl, x', R', F'⟩)
  have hno : ¬ LetsOut (fun e a' w' => e = .normal ∧ ∃ x', Rel cfg x' N st'.get a' w' ∧ Fr dep x x' w w') := by
    rintro ⟨_, _, h, _⟩; cases h
  refine wpIn_mono ?_ (Q := fun e a' w' => e = .normal ∧ ∃ x', Rel cfg x' N st'.get a' w' ∧ Fr dep x x' w w') (fun e a' w' ⟨he, x', R', F'⟩ => he ▸ hQ a' w' x' R' F')
  cases draw
  · exact wpIn_region (ops_lift hd hno _ _ _ h)
  · exact wpIn_region_any hm (any_lift hd hno _ _ _ _ _ h)

theorem loop_n {F : Fence} {c : Code} (J : Nat → Act → World → Prop) (hz : ∀ a w, ¬ J 0 a w) (round : ∀ m a w, J (m + 1) a w → c.wpIn F n P (Exit.then (J m) Q) a w) {m : Nat} {a : Act} {w : World} (h : J m a w) : (Code.loop c).wpIn F n P Q a w := by
  intro b k cs hro hb hr
  have key : ∀ m a w, J m a w → ∃ e a' w', Q e a' w' ∧ ArrivesIn (Machine.fenced P F) P (lone (b.atR a (.code c :: .inLoop c :: k)) cs w) b k cs e a' w' := by
    intro m
    induction m with
    | zero => intro a w h; exact absurd h (hz a w)
    | succ m ih =>
      intro a w h
      obtain ⟨e, a₁, w₁, hq, harr⟩ := round m a w h b (.inLoop c :: k) cs hro hb hr
      have out : e ≠ .normal → ∃ e a' w', Q e a' w' ∧ ArrivesIn (Machine.fenced P F) P (lone (b.atR a (.code c :: .inLoop c :: k)) cs w) b k cs e a' w' := fun hne => by
        refine ⟨e, a₁, w₁, ?_, .pass (x := .inLoop c) rfl (fun _ _ => .inl hne) harr⟩
        cases e <;> first | exact absurd rfl hne | exact hq
      cases e with
      | normal =>
        obtain ⟨e₂, a₂, w₂, hq₂, harr₂⟩ := ih a₁ w₁ hq
        exact ⟨e₂, a₂, w₂, hq₂, .of_steps (StepsIn.trans harr (.one (fenced_calm hb hr rfl) stepR_inLoop)) harr₂⟩
      | _ => exact out (by simp)
  obtain ⟨e, a', w', hq, harr⟩ := key m a w h
  exact ⟨e, a', w', hq, .of_steps (.one (fenced_calm hb hr rfl) stepR_loop) harr⟩
end
end Go.Ev
