/- The document's list, and for whom each waits: they tell the same. -/
import Derived.Test.YtjoafadhcdipnaaRef2
namespace Go.Proofs.Ytjoafadhcdipnaa
open Go.RowKit T Go.Proofs.YtjoafadhcdipnaaW.PrintWords Go.Proofs.YtjoafadhcdipnaaW.PrintLast Go.Proofs.YtjoafadhcdipnaaW.PrintMore
set_option linter.unusedVariables false

structure Rel (x : List S53) (W : Int → List Int) : Prop where
  mem : ∀ k y, y ∈ W k ↔ ∃ p ∈ x, p.f0 = k ∧ p.f1 = y
  low : ∀ p ∈ x, 1 ≤ p.f1 ∧ p.f1 < p.f0

variable {x : List S53} {keys : List Int} {W : Int → List Int}

theorem Rel.lowW (h : Rel x W) {k y : Int} (hy : y ∈ W k) : 1 ≤ y ∧ y < k := by
  obtain ⟨p, hp, e1, e2⟩ := (h.mem k y).1 hy
  have := h.low p hp
  omega
theorem rel_nil : Rel [] (fun _ => []) := ⟨fun k y => by simp, fun p hp => by cases hp⟩

theorem Rel.all (h : Rel x W) (hr : Rising keys) (hs : ∀ k, k ∈ keys ↔ W k ≠ []) : allX x = keys := by
  obtain ⟨h1, h2⟩ := allfold x [] (by unfold Rising; simp)
  refine rising_ext h1 hr fun y => ?_
  show y ∈ x.foldl (fun l p => ins p.f0 l) [] ↔ _
  rw [h2, hs]
  constructor
  · rintro (h3 | ⟨p, hp, e⟩)
    · cases h3
    · have : p.f1 ∈ W y := (h.mem y p.f1).2 ⟨p, hp, e, rfl⟩
      exact List.ne_nil_of_mem this
  · intro hne
    obtain ⟨z, hz⟩ := List.exists_mem_of_ne_nil _ hne
    obtain ⟨p, hp, e, _⟩ := (h.mem y z).1 hz
    exact .inr ⟨p, hp, e⟩
theorem Rel.waits (h : Rel x W) (hr : ∀ k, Rising (W k)) (k : Int) : waitsX x k = W k := by
  obtain ⟨h1, h2⟩ := waitsfold x k [] (by unfold Rising; simp)
  refine rising_ext h1 (hr k) fun y => ?_
  show y ∈ x.foldl (fun l p => if p.f0 = k then ins p.f1 l else l) [] ↔ _
  rw [h2, h.mem]
  constructor
  · rintro (h3 | h3)
    · cases h3
    · exact h3
  · exact .inr

theorem Rel.add (h : Rel x W) {of_ on_ : Int} (h1 : 1 ≤ on_) (h2 : on_ < of_) : Rel (addX x of_ on_) (added W of_ on_) := by
  unfold addX
  rw [if_neg (by omega)]
  by_cases c : x.any (fun p => decide (p.f0 = of_ ∧ p.f1 = on_)) = true
  · rw [if_pos c]
    obtain ⟨p, hp, e⟩ := List.any_eq_true.1 c
    have e' : p.f0 = of_ ∧ p.f1 = on_ := by simpa using e
    refine ⟨fun k y => ?_, h.low⟩
    unfold added
    split
    · rename_i hk
      rw [mem_ins, h.mem]
      constructor
      · rintro (rfl | h3)
        · exact ⟨p, hp, by omega, e'.2⟩
        · exact h3
      · exact .inr
    · exact h.mem k y
  · rw [if_neg c]
    refine ⟨fun k y => ?_, fun p hp => ?_⟩
    · unfold added
      split
      · rename_i hk
        rw [mem_ins, h.mem]
        constructor
        · rintro (rfl | ⟨p, hp, e⟩)
          · exact ⟨⟨of_, y⟩, List.mem_append.2 (.inr (List.mem_singleton.2 rfl)), hk.symm, rfl⟩
          · exact ⟨p, List.mem_append.2 (.inl hp), e⟩
        · rintro ⟨p, hp, e1, e2⟩
          rcases List.mem_append.1 hp with hp | hp
          · exact .inr ⟨p, hp, e1, e2⟩
          · rw [List.mem_singleton.1 hp] at e2
            exact .inl e2.symm
      · rename_i hk
        rw [h.mem]
        constructor
        · rintro ⟨p, hp, e⟩
          exact ⟨p, List.mem_append.2 (.inl hp), e⟩
        · rintro ⟨p, hp, e1, e2⟩
          rcases List.mem_append.1 hp with hp | hp
          · exact ⟨p, hp, e1, e2⟩
          · rw [List.mem_singleton.1 hp] at e1
            exact absurd e1.symm hk
    · rcases List.mem_append.1 hp with hp | hp
      · exact h.low p hp
      · rw [List.mem_singleton.1 hp]
        exact ⟨h1, h2⟩
theorem addX_no {of_ on_ : Int} (h : ¬ (1 ≤ on_ ∧ on_ < of_)) : addX x of_ on_ = x := by
  unfold addX
  rw [if_pos (by omega)]
theorem addX_len (of_ on_ : Int) : (addX x of_ on_).length ≤ x.length + 1 := by
  unfold addX
  split
  · omega
  · split
    · omega
    · simp

theorem Rel.drop (h : Rel x W) (l : List Int) : Rel (withoutX x l) (dropped W l) := by
  refine ⟨fun k y => ?_, fun p hp => h.low p (List.mem_filter.1 hp).1⟩
  unfold dropped withoutX
  by_cases c : k ∈ l
  · rw [if_pos c]
    constructor
    · intro hy; cases hy
    · rintro ⟨p, hp, e1, e2⟩
      have := (List.mem_filter.1 hp).2
      simp only [decide_eq_true_eq] at this
      exact absurd (e1 ▸ c) this.1
  · rw [if_neg c, List.mem_filter, h.mem]
    simp only [decide_eq_true_eq]
    constructor
    · rintro ⟨⟨p, hp, e1, e2⟩, hy⟩
      exact ⟨p, List.mem_filter.2 ⟨hp, by simp only [decide_eq_true_eq]; rw [e1, e2]; exact ⟨c, hy⟩⟩, e1, e2⟩
    · rintro ⟨p, hp, e1, e2⟩
      have h3 := List.mem_filter.1 hp
      have h4 := h3.2
      simp only [decide_eq_true_eq] at h4
      exact ⟨⟨p, h3.1, e1, e2⟩, e2 ▸ h4.2⟩
theorem dropped_one (W : Int → List Int) (y : Int) : dropped W [y] = settled W y := by
  rw [← List.nil_append [y], ← settled_dropped, dropped_nil]
theorem Rel.settle (h : Rel x W) (y : Int) : Rel (withoutX x [y]) (settled W y) := by
  rw [← dropped_one]
  exact h.drop [y]

/-! Those that go: the program's, and the document's. -/
theorem gmono (W : Int → List Int) : ∀ (keys gone : List Int), ∀ y ∈ gone, y ∈ keys.foldl (gstep W) gone
  | [], _, y, hy => hy
  | k :: r, gone, y, hy => gmono W r (gstep W gone k) y (by
      unfold gstep gpart
      split
      · exact mem_ins.2 (.inr hy)
      · exact hy)
theorem gclosed (W : Int → List Int) : ∀ (keys gone : List Int), Rising keys → Rising gone → (∀ k, ∀ y ∈ W k, y < k) → ∀ k ∈ keys, ∀ y ∈ W k, y ∈ keys.foldl (gstep W) gone → k ∈ keys.foldl (gstep W) gone
  | [], gone, _, _, _, k, hk, _, _, _ => by cases hk
  | a :: r, gone, hr, hg, hl, k, hk, y, hy, hm => by
    unfold Rising at hr
    rw [List.pairwise_cons] at hr
    rcases List.mem_cons.1 hk with rfl | hk
    · have hyk := hl k y hy
      rcases (gfold W r (gstep W gone k) (gpart_rising hg)).2.2 y hm with h3 | h3
      · have hyg : y ∈ gone := by
          rcases gpart_mem h3 with e | h4
          · omega
          · exact h4
        refine gmono W r _ k ?_
        unfold gstep gpart
        rw [if_pos (List.any_eq_true.2 ⟨y, hy, by simpa using hyg⟩)]
        exact mem_ins.2 (.inl rfl)
      · have := hr.1 y h3
        omega
    · exact gclosed W r (gstep W gone a) hr.2 (gpart_rising hg) hl k hk y hy hm
theorem gleast (W : Int → List Int) (C : Int → Prop) (hC : ∀ k, ∀ y ∈ W k, C y → C k) : ∀ (keys gone : List Int), (∀ y ∈ gone, C y) → ∀ y ∈ keys.foldl (gstep W) gone, C y
  | [], gone, h, y, hy => h y hy
  | a :: r, gone, h, y, hy => gleast W C hC r (gstep W gone a) (fun z hz => by
      unfold gstep gpart at hz
      split at hz
      · rename_i hany
        rcases mem_ins.1 hz with rfl | hz
        · obtain ⟨u, hu, hu2⟩ := List.any_eq_true.1 hany
          exact hC z u hu (h u (by simpa using hu2))
        · exact h z hz
      · exact h z hz) y hy

theorem gall_facts (hr : Rising keys) (hs : ∀ k, k ∈ keys ↔ W k ≠ []) (hl : ∀ k, ∀ y ∈ W k, y < k) (ts : Int) : Rising (gall W keys ts) ∧ ts ∈ gall W keys ts ∧ (∀ k, ∀ y ∈ W k, y ∈ gall W keys ts → k ∈ gall W keys ts) ∧ (∀ C : Int → Prop, C ts → (∀ k, ∀ y ∈ W k, C y → C k) → ∀ y ∈ gall W keys ts, C y) ∧ (∀ k ∈ gall W keys ts, k = ts ∨ k ∈ keys) := by
  refine ⟨(gfold W keys [ts] (rising_one ts)).1, gmono W keys [ts] ts (List.mem_singleton.2 rfl), fun k y hy hm => gclosed W keys [ts] hr (rising_one ts) hl k ((hs k).2 (List.ne_nil_of_mem hy)) y hy hm, fun C h0 hC => gleast W C hC keys [ts] (fun y hy => by rw [List.mem_singleton.1 hy]; exact h0), fun k hk => ?_⟩
  rcases (gfold W keys [ts] (rising_one ts)).2.2 k hk with h | h
  · exact .inl (List.mem_singleton.1 h)
  · exact .inr h

theorem Rel.gone (h : Rel x W) (hr : Rising keys) (hs : ∀ k, k ∈ keys ↔ W k ≠ []) (ts : Int) : goneX x ts = gall W keys ts := by
  obtain ⟨i1, i2, i3, i4⟩ := gone_facts x ts
  obtain ⟨j1, j2, j3, j4, _⟩ := gall_facts hr hs (fun k y hy => (h.lowW hy).2) ts
  refine rising_ext i1 j1 fun y => ⟨fun hy => i4 (fun z => z ∈ gall W keys ts) j2 (fun p hp hf => j3 p.f0 p.f1 ((h.mem _ _).2 ⟨p, hp, rfl, rfl⟩) hf) y hy, fun hy => j4 (fun z => z ∈ goneX x ts) i2 (fun k z hz hf => ?_) y hy⟩
  obtain ⟨p, hp, e1, e2⟩ := (h.mem k z).1 hz
  rw [← e1]
  exact i3 p hp (by rw [e2]; exact hf)

/-- Who goes, but the first one, waited for one that goes. -/
theorem gall_why (hr : Rising keys) (hs : ∀ k, k ∈ keys ↔ W k ≠ []) (hl : ∀ k, ∀ y ∈ W k, y < k) {ts k : Int} (hk : k ∈ gall W keys ts) (hne : k ≠ ts) : ∃ y ∈ W k, y ∈ gall W keys ts := by
  obtain ⟨j1, j2, j3, j4, _⟩ := gall_facts hr hs hl ts
  refine Decidable.byContradiction fun hno => ?_
  have := j4 (fun z => z ∈ gall W keys ts ∧ z ≠ k) ⟨j2, fun e => hne e.symm⟩ (fun q y hy hc => ⟨j3 q y hy hc.1, fun e => hno ⟨y, e ▸ hy, hc.1⟩⟩) k hk
  exact this.2 rfl
end Go.Proofs.Ytjoafadhcdipnaa
