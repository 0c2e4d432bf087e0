/- What has been written is read. -/
import Derived.Test.YtpflgebgmhnipaaGreatDoorSfH
import Derived.Test.YtpflgebgmhnipaaGreatDoorSfA
namespace Go.Proofs.YtpflgebgmhnipaaGreatDoor
open Go Go.Ev
set_option linter.unusedVariables false
set_option linter.unusedSimpArgs false
set_option maxHeartbeats 4000000

def natP (p : PI) : Pl := (p.1.toNat, p.2.1.toNat, p.2.2.toNat)
def natE (e : EI) : Nat × Nat := (e.1.toNat, e.2.toNat)
theorem enB_put {e : EI} (h : inE e = true) : enB e = (Item.e (natE e)).put.bytes := by
  simp only [inE, Bool.and_eq_true] at h
  obtain ⟨h1, h2⟩ := h
  have h3 := in_nat h2
  show bytesF 2 (putFrom 1 (if e.2 > 0 then [e.1.toNat, e.2.toNat] else [e.1.toNat])) = bytesF 2 (putB (enU (e.1.toNat, e.2.toNat)))
  unfold enU
  by_cases hz : e.2 > 0
  · rw [if_pos hz, if_neg (by show ¬ e.2.toNat = 0; omega)]; rfl
  · rw [if_neg hz, if_pos (by show e.2.toNat = 0; omega)]; rfl
theorem itP_app (a b : List Ev.Item) : itP (a ++ b) = itP a ++ itP b := by simp [itP]
theorem itE_app (a b : List Ev.Item) : itE (a ++ b) = itE a ++ itE b := by simp [itE]
theorem itP_ps (ps : List Pl) : itP (ps.map Item.p) = ps := by
  induction ps with
  | nil => rfl
  | cons p r ih => rw [List.map_cons, itP_cons, ih]; rfl
theorem itE_ps (ps : List Pl) : itE (ps.map Item.p) = [] := by
  induction ps with
  | nil => rfl
  | cons p r ih => rw [List.map_cons, itE_cons, ih]; rfl
theorem itP_es (es : List (Nat × Nat)) : itP (es.map Item.e) = [] := by
  induction es with
  | nil => rfl
  | cons p r ih => rw [List.map_cons, itP_cons, ih]; rfl
theorem itE_es (es : List (Nat × Nat)) : itE (es.map Item.e) = es := by
  induction es with
  | nil => rfl
  | cons p r ih => rw [List.map_cons, itE_cons, ih]; rfl
theorem putB_ps (ps : List PI) : putB ((ps.map natP).map (fun p => (Item.p p).put)) = (ps.map plB).flatten := by
  induction ps with
  | nil => rfl
  | cons p r ih => rw [List.map_cons, List.map_cons, putB_cons, ih]; rfl
theorem putB_es (es : List EI) (h : ∀ e ∈ es, inE e = true) : putB ((es.map natE).map (fun e => (Item.e e).put)) = (es.map enB).flatten := by
  induction es with
  | nil => rfl
  | cons p r ih => rw [List.map_cons, List.map_cons, putB_cons, ih (fun e he => h e (by simp [he])), List.map_cons, List.flatten_cons, enB_put (h p (by simp))]
theorem inP_ok {p : PI} (h : inP p = true) : plOk (natP p) ∧ ((((natP p).1 : Nat) : Int), (((natP p).2.1 : Nat) : Int), (((natP p).2.2 : Nat) : Int)) = p := by
  simp only [inP, Bool.and_eq_true] at h
  obtain ⟨⟨h1, h2⟩, h3⟩ := h
  obtain ⟨a1, b1⟩ := in_nat h1
  obtain ⟨a2, b2⟩ := in_nat h2
  obtain ⟨a3, b3⟩ := in_nat h3
  refine ⟨⟨b1, b2, b3⟩, ?_⟩
  unfold natP
  simp only
  rw [← a1, ← a2, ← a3]
theorem inE_ok {e : EI} (h : inE e = true) : enOk (natE e) ∧ ((((natE e).1 : Nat) : Int), (((natE e).2 : Nat) : Int)) = e := by
  simp only [inE, Bool.and_eq_true] at h
  obtain ⟨h1, h2⟩ := h
  obtain ⟨a1, b1⟩ := in_nat h1
  obtain ⟨a2, b2⟩ := in_nat h2
  refine ⟨⟨b1, b2⟩, ?_⟩
  unfold natE
  simp only
  rw [← a1, ← a2]
theorem okE_parts {ps : List PI} {es : List EI} (h : okE ps es = true) : ps.length ≤ 800 ∧ es.length ≤ 100 ∧ (∀ p ∈ ps, inP p = true) ∧ ∀ e ∈ es, inE e = true := by
  unfold okE at h
  simp only [Bool.and_eq_true, decide_eq_true_eq, List.all_eq_true] at h
  exact ⟨h.1.1.1, h.1.1.2, h.1.2, h.2⟩
theorem flatE_len (ps : List PI) (es : List EI) (h : okE ps es = true) : (flatE ps es).length ≤ 80000 := by
  obtain ⟨h1, h2, _, _⟩ := okE_parts h
  have a := flat_len plB 80 plB_len ps
  have b := flat_len enB 60 enB_len es
  unfold flatE
  rw [List.length_append]; omega
def itemsE (ps : List PI) (es : List EI) : List Ev.Item := (ps.map natP).map Item.p ++ (es.map natE).map Item.e
theorem putB_items (ps : List PI) (es : List EI) (h : ∀ e ∈ es, inE e = true) : putB ((itemsE ps es).map Item.put) = flatE ps es := by
  unfold itemsE flatE
  rw [List.map_append, putB_append, List.map_map, List.map_map (l := es.map natE)]
  rw [show (Item.put ∘ Item.p) = fun p => (Item.p p).put from rfl, show (Item.put ∘ Item.e) = fun e => (Item.e e).put from rfl, putB_ps, putB_es es h]
theorem items_ok (ps : List PI) (es : List EI) (h1 : ∀ p ∈ ps, inP p = true) (h2 : ∀ e ∈ es, inE e = true) : ∀ i ∈ itemsE ps es, i.ok := by
  intro i hi
  unfold itemsE at hi
  rcases List.mem_append.1 hi with hi | hi
  · obtain ⟨q, hq, rfl⟩ := List.mem_map.1 hi
    obtain ⟨p, hp, rfl⟩ := List.mem_map.1 hq
    exact (inP_ok (h1 p hp)).1
  · obtain ⟨q, hq, rfl⟩ := List.mem_map.1 hi
    obtain ⟨p, hp, rfl⟩ := List.mem_map.1 hq
    exact (inE_ok (h2 p hp)).1
theorem itemsE_P (ps : List PI) (es : List EI) : itP (itemsE ps es) = ps.map natP := by
  unfold itemsE; rw [itP_app, itP_ps, itP_es, List.append_nil]
theorem itemsE_E (ps : List PI) (es : List EI) : itE (itemsE ps es) = es.map natE := by
  unfold itemsE; rw [itE_app, itE_ps, itE_es, List.nil_append]
theorem fD_nat (ps : List PI) (es : List EI) (h1 : ∀ p ∈ ps, inP p = true) (h2 : ∀ e ∈ es, inE e = true) (n : Nat) : fD (ps.map natP, es.map natE, n) = .d (.tup [fI ps es, .int .i64 (n : Int)]) := by
  unfold fD footD fI
  simp only
  rw [List.map_map, List.map_map]
  have a : ps.map (plD ∘ natP) = ps.map plI := List.map_congr_left fun p hp => by
    have := (inP_ok (h1 p hp)).2
    show plD (natP p) = plI p
    conv => rhs; rw [← this]
    rfl
  have b : es.map (enD ∘ natE) = es.map enI := List.map_congr_left fun p hp => by
    have := (inE_ok (h2 p hp)).2
    show enD (natE p) = enI p
    conv => rhs; rw [← this]
    rfl
  rw [a, b]
/-- a footer behind others' fields: read as it was -/
theorem dec_enc (ps : List PI) (es : List EI) (h : okE ps es = true) : decM (flatE ps es ++ bytesF 3 utc) = (ps.map natP, es.map natE, 0) := by
  obtain ⟨h1, h2, h3, h4⟩ := okE_parts h
  have hle := flatE_len ps es h
  have hu := bytesF_le 3 utc
  have e : flatE ps es ++ bytesF 3 utc = putB ((itemsE ps es ++ [Item.z 3 utc]).map Item.put) := by
    rw [List.map_append, putB_append, putB_items ps es h4]
    simp [putB, Item.put, Put.bytes]
  rw [e]
  have hl : (putB ((itemsE ps es ++ [Item.z 3 utc]).map Item.put)).length ≤ 262144 := by
    rw [← e, List.length_append]
    simp only [utc, List.length_cons, List.length_nil] at hu
    simp only [utc]; omega
  have hpp : itP (itemsE ps es ++ [Item.z 3 utc]) = ps.map natP := by rw [itP_app, itemsE_P]; simp [itP, Item.ps]
  have hee : itE (itemsE ps es ++ [Item.z 3 utc]) = es.map natE := by rw [itE_app, itemsE_E]; simp [itE, Item.es]
  have := decM_items (itemsE ps es ++ [Item.z 3 utc]) (fun i hi => by
    rcases List.mem_append.1 hi with hi | hi
    · exact items_ok ps es h3 h4 i hi
    · rw [List.mem_singleton] at hi; subst hi; exact ⟨by omega, by omega⟩) hl (by simp [itemsE]; omega) (by rw [hpp]; simpa using h1) (by rw [hee]; simpa using h2)
  rw [hpp, hee] at this
  exact this
end Go.Proofs.YtpflgebgmhnipaaGreatDoor
