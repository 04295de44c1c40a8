/- The document's Drop, in plain lists: it closes a set; and so does the program's. -/
import Derived.Test.YtjoafadhcdipnaaRef
namespace Go.Proofs.Ytjoafadhcdipnaa
open Go.RowKit T Go.Proofs.YtjoafadhcdipnaaW.PrintWords Go.Proofs.YtjoafadhcdipnaaW.PrintLast Go.Proofs.YtjoafadhcdipnaaW.PrintMore
set_option linter.unusedVariables false

/-- One turn of the document's Drop. -/
def turn (x : List S53) (l : List Int) : List Int := x.foldl (fun l p => if p.f1 ∈ l then ins p.f0 l else l) l
def turns (x : List S53) : Nat → List Int → List Int
  | 0, l => l
  | m + 1, l => turns x m (turn x l)
def goneX (x : List S53) (ts : Int) : List Int := turns x x.length [ts]

theorem turn_facts (x : List S53) : ∀ l : List Int, Rising l → Rising (turn x l) ∧ (∀ y ∈ l, y ∈ turn x l) ∧ (∀ y ∈ turn x l, y ∈ l ∨ ∃ p ∈ x, p.f0 = y) ∧ (turn x l).length ≤ l.length + x.length ∧ (∀ C : Int → Prop, (∀ y ∈ l, C y) → (∀ p ∈ x, C p.f1 → C p.f0) → ∀ y ∈ turn x l, C y) ∧ (∀ p ∈ x, p.f1 ∈ l → p.f0 ∈ turn x l) := by
  induction x with
  | nil => intro l h; exact ⟨h, fun y hy => hy, fun y hy => .inl hy, by simp [turn], fun C h _ => h, fun p hp => by cases hp⟩
  | cons p r ih =>
    intro l h
    have hstep : turn (p :: r) l = turn r (if p.f1 ∈ l then ins p.f0 l else l) := rfl
    by_cases c : p.f1 ∈ l
    · rw [if_pos c] at hstep
      obtain ⟨i1, i2, i3, i4, i5, i6⟩ := ih (ins p.f0 l) (rising_ins h)
      rw [hstep]
      refine ⟨i1, fun y hy => i2 y (mem_ins.2 (.inr hy)), fun y hy => ?_, ?_, fun C hC hx => ?_, fun q hq hf => ?_⟩
      · rcases i3 y hy with h3 | ⟨q, hq, e⟩
        · rcases mem_ins.1 h3 with rfl | h3
          · exact .inr ⟨p, List.mem_cons_self, rfl⟩
          · exact .inl h3
        · exact .inr ⟨q, List.mem_cons_of_mem _ hq, e⟩
      · have := length_ins p.f0 l
        rw [List.length_cons]; omega
      · refine i5 C (fun y hy => ?_) (fun q hq => hx q (List.mem_cons_of_mem _ hq))
        rcases mem_ins.1 hy with rfl | hy
        · exact hx p List.mem_cons_self (hC _ c)
        · exact hC y hy
      · rcases List.mem_cons.1 hq with rfl | hq
        · exact i2 _ (mem_ins.2 (.inl rfl))
        · exact i6 q hq (mem_ins.2 (.inr hf))
    · rw [if_neg c] at hstep
      obtain ⟨i1, i2, i3, i4, i5, i6⟩ := ih l h
      rw [hstep]
      refine ⟨i1, i2, fun y hy => ?_, ?_, fun C hC hx => i5 C hC (fun q hq => hx q (List.mem_cons_of_mem _ hq)), fun q hq hf => ?_⟩
      · rcases i3 y hy with h3 | ⟨q, hq, e⟩
        · exact .inl h3
        · exact .inr ⟨q, List.mem_cons_of_mem _ hq, e⟩
      · rw [List.length_cons]; omega
      · rcases List.mem_cons.1 hq with rfl | hq
        · exact absurd hf c
        · exact i6 q hq hf

/-- A set that is closed: who waits for one of it is of it. -/
def Closed (x : List S53) (l : List Int) : Prop := ∀ p ∈ x, p.f1 ∈ l → p.f0 ∈ l

theorem turn_closed {x : List S53} {l : List Int} (hr : Rising l) (h : Closed x l) : turn x l = l := by
  obtain ⟨i1, i2, i3, i4, i5, i6⟩ := turn_facts x l hr
  exact rising_ext i1 hr fun y => ⟨fun hy => i5 (fun z => z ∈ l) (fun _ h => h) (fun p hp hf => h p hp hf) y hy, i2 y⟩

/-- Those who are not of it yet. -/
def out (x : List S53) (l : List Int) : Nat := (x.filter fun p => decide (¬ p.f0 ∈ l)).length

theorem out_turn {x : List S53} {l : List Int} (hr : Rising l) : Closed x l ∨ out x (turn x l) < out x l := by
  by_cases hc : Closed x l
  · exact .inl hc
  · right
    obtain ⟨i1, i2, i3, i4, i5, i6⟩ := turn_facts x l hr
    have he : ∃ p ∈ x, p.f1 ∈ l ∧ ¬ p.f0 ∈ l := by
      refine Decidable.byContradiction fun hne => hc fun p hp hf => ?_
      exact Decidable.byContradiction fun h0 => hne ⟨p, hp, hf, h0⟩
    obtain ⟨p, hp, hf, h0⟩ := he
    have hsub : x.filter (fun p => decide (¬ p.f0 ∈ turn x l)) = (x.filter fun p => decide (¬ p.f0 ∈ l)).filter (fun p => decide (¬ p.f0 ∈ turn x l)) := by
      rw [List.filter_filter]
      refine List.filter_congr fun q _ => ?_
      by_cases a : q.f0 ∈ turn x l
      · simp [a]
      · have : ¬ q.f0 ∈ l := fun h => a (i2 _ h)
        simp [a, this]
    unfold out
    rw [hsub]
    exact List.length_filter_lt_length_iff_exists.2 ⟨p, List.mem_filter.2 ⟨hp, by simpa using h0⟩, by simpa using i6 p hp hf⟩

theorem turns_closed {x : List S53} : ∀ (m : Nat) {l : List Int}, Rising l → (Closed x l → turns x m l = l) := by
  intro m
  induction m with
  | zero => intro l _ _; rfl
  | succ m ih =>
    intro l hr hc
    show turns x m (turn x l) = l
    rw [turn_closed hr hc]
    exact ih hr hc
theorem turns_facts (x : List S53) : ∀ (m : Nat) (l : List Int), Rising l → Rising (turns x m l) ∧ (∀ y ∈ l, y ∈ turns x m l) ∧ (∀ C : Int → Prop, (∀ y ∈ l, C y) → (∀ p ∈ x, C p.f1 → C p.f0) → ∀ y ∈ turns x m l, C y) ∧ (out x l ≤ m → Closed x (turns x m l)) := by
  intro m
  induction m with
  | zero =>
    intro l hr
    refine ⟨hr, fun y hy => hy, fun C hC _ => hC, fun h0 p hp hf => ?_⟩
    have h1 : x.filter (fun p => decide (¬ p.f0 ∈ l)) = [] := List.eq_nil_of_length_eq_zero (by unfold out at h0; omega)
    refine Decidable.byContradiction fun (hn : ¬ p.f0 ∈ l) => ?_
    have : p ∈ x.filter (fun p => decide (¬ p.f0 ∈ l)) := List.mem_filter.2 ⟨hp, by simpa using hn⟩
    rw [h1] at this
    cases this
  | succ m ih =>
    intro l hr
    obtain ⟨i1, i2, i3, i4, i5, i6⟩ := turn_facts x l hr
    obtain ⟨j1, j2, j3, j4⟩ := ih (turn x l) i1
    refine ⟨j1, fun y hy => j2 y (i2 y hy), fun C hC hx => j3 C (i5 C hC hx) hx, fun h0 => ?_⟩
    rcases out_turn (x := x) hr with hc | hlt
    · show Closed x (turns x m (turn x l))
      rw [turn_closed hr hc, turns_closed m hr hc]
      exact hc
    · exact j4 (by omega)

theorem gone_facts (x : List S53) (ts : Int) : Rising (goneX x ts) ∧ ts ∈ goneX x ts ∧ Closed x (goneX x ts) ∧ (∀ C : Int → Prop, C ts → (∀ p ∈ x, C p.f1 → C p.f0) → ∀ y ∈ goneX x ts, C y) := by
  obtain ⟨i1, i2, i3, i4⟩ := turns_facts x x.length [ts] (rising_one ts)
  exact ⟨i1, i2 ts (List.mem_singleton.2 rfl), i4 (List.length_filter_le _ _), fun C h0 hx => i3 C (fun y hy => by rw [List.mem_singleton.1 hy]; exact h0) hx⟩

/-! The document's Drop tells this. -/
theorem sub_len {l m : List Int} : l.Nodup → (∀ y ∈ l, y ∈ m) → l.length ≤ m.length := by
  induction l generalizing m with
  | nil => intro _ _; simp
  | cons a r ih =>
    intro hn hs
    rw [List.nodup_cons] at hn
    have h1 := ih (m := m.erase a) hn.2 (fun y hy => (List.mem_erase_of_ne (fun (e : y = a) => hn.1 (e ▸ hy))).2 (hs y (List.mem_cons_of_mem _ hy)))
    have h2 := hs a List.mem_cons_self
    have h3 := List.length_erase_of_mem h2
    have h4 : 0 < m.length := List.length_pos_of_mem h2
    rw [List.length_cons]
    omega
/-- The lists on the way are no longer than all of them. -/
def Fits (x : List S53) (ts : Int) (l : List Int) : Prop := Rising l ∧ ∀ y ∈ l, y = ts ∨ ∃ p ∈ x, p.f0 = y
theorem Fits.len {x : List S53} {ts : Int} {l : List Int} (h : Fits x ts l) : l.length ≤ x.length + 1 := by
  have := sub_len (m := ts :: x.map S53.f0) (rising_nodup h.1) (fun y hy => by
    rcases h.2 y hy with rfl | ⟨p, hp, e⟩
    · exact List.mem_cons_self
    · exact List.mem_cons_of_mem _ (List.mem_map.2 ⟨p, hp, e⟩))
  simpa using this
theorem Fits.ins {x : List S53} {ts : Int} {l : List Int} (h : Fits x ts l) {p : S53} (hp : p ∈ x) : Fits x ts (ins p.f0 l) :=
  ⟨rising_ins h.1, fun y hy => by
    rcases mem_ins.1 hy with rfl | hy
    · exact .inr ⟨p, hp, rfl⟩
    · exact h.2 y hy⟩
theorem Fits.turn {x : List S53} {ts : Int} {l : List Int} (h : Fits x ts l) : Fits x ts (turn x l) := by
  obtain ⟨i1, i2, i3, _⟩ := turn_facts x l h.1
  exact ⟨i1, fun y hy => by
    rcases i3 y hy with h3 | h3
    · exact h.2 y h3
    · exact .inr h3⟩

theorem drop_l1 (x : List S53) (ts : Int) (hx : x.length ≤ 100) (R : List Int → Option (List S53 × List Int)) (c : Nat) (u : Int) (K : Nat) (hR : ∀ k l, K ≤ k → Fits x ts l → ogiveref12_Drop.l0 k x l (wrap64 (u + 1)) = R l) : ∀ (k i : Nat) (l : List Int), i ≤ x.length → K + 300 + (x.length - i) ≤ k → Fits x ts l → ogiveref12_Drop.l1 k x l u (i : Int) = R ((x.drop i).foldl (fun l p => if p.f1 ∈ l then ins p.f0 l else l) l)
  | 0, i, l, _, h, _ => by omega
  | k + 1, i, l, hi, h, hf => by
    have hlen := hf.len
    rw [ogiveref12_Drop.l1]
    by_cases hlt : i < x.length
    · rw [if_pos (by omega), if_pos (by omega), rd53 x i hlt, List.drop_eq_getElem_cons hlt, List.foldl_cons, wsucc hlt (by omega), in_tells l _ (by omega) k (by omega)]
      simp only [Option.bind_some]
      by_cases c1 : x[i].f1 ∈ l
      · rw [if_pos (decide_eq_true c1), if_pos c1, put_tells l _ hf.1 (by omega) k (by omega)]
        simp only [Option.bind_some]
        exact drop_l1 x ts hx R c u K hR k (i + 1) _ hlt (by omega) (hf.ins (List.getElem_mem _))
      · rw [if_neg (by simp [c1]), if_neg c1]
        exact drop_l1 x ts hx R c u K hR k (i + 1) _ hlt (by omega) hf
    · rw [if_neg (by omega), List.drop_eq_nil_of_le (by omega)]
      exact hR k l (by omega) hf
theorem drop_l0 (x : List S53) (ts : Int) (hx : x.length ≤ 100) (K : Nat) (hK : 4000 ≤ K) (m : Nat) : ∀ (u : Nat) (l : List Int) (k : Nat), m + u = x.length → K + m * 500 ≤ k → Fits x ts l → ogiveref12_Drop.l0 k x l (u : Int) = some (withoutX x (turns x m l), turns x m l) := by
  induction m with
  | zero =>
    intro u l k hu hk hf
    obtain ⟨k', rfl⟩ : ∃ k', k = k' + 1 := ⟨k - 1, by omega⟩
    have hlen := hf.len
    rw [ogiveref12_Drop.l0, if_neg (by omega), without_tells x l (by omega) (by omega) k' (by omega)]
    rfl
  | succ m ih =>
    intro u l k hu hk hf
    obtain ⟨k', rfl⟩ : ∃ k', k = k' + 1 := ⟨k - 1, by omega⟩
    rw [ogiveref12_Drop.l0, if_pos (by omega)]
    have h := drop_l1 x ts hx (fun l => some (withoutX x (turns x m l), turns x m l)) 0 (u : Int) (K + m * 500) (fun k l hk hf => by
      rw [wsucc (show u < x.length by omega) (by omega)]
      exact ih (u + 1) l k (by omega) hk hf) k' 0 l (Nat.zero_le _) (by omega) hf
    rw [List.drop_zero] at h
    exact h
theorem dropX_tells (x : List S53) (ts : Int) (hx : x.length ≤ 100) (h1 : 1 ≤ ts) (k : Nat) (hk : 60000 ≤ k) : ogiveref12_Drop.f k x ts = some (withoutX x (goneX x ts), goneX x ts) := by
  unfold ogiveref12_Drop.f
  rw [if_neg (by omega)]
  exact drop_l0 x ts hx 4000 (Nat.le_refl _) x.length 0 [ts] k (by omega) (by omega) ⟨rising_one ts, fun y hy => .inl (List.mem_singleton.1 hy)⟩
theorem dropX_none (x : List S53) (ts : Int) (h1 : ts < 1) (k : Nat) : ogiveref12_Drop.f k x ts = some (x, []) := by
  unfold ogiveref12_Drop.f
  rw [if_pos h1]
end Go.Proofs.Ytjoafadhcdipnaa
