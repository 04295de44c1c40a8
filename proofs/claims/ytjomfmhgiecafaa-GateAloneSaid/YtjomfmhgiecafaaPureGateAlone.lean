/- While there is an elder nobody else may begin, and it may itself just when nobody goes, and it doesn't rest; without one everybody may that is there, doesn't go, and doesn't rest: for every list, without a condition. -/
import Derived.Test.YtjomfmhgiecafaaElder
import Derived.Test.YtjomfmhgiecafaaPx23
namespace Go.Proofs.Ytjomfmhgiecafaa.Pure
open Go.RowKit Go.Proofs.Ytjomfmhgiecafaa.P Go.Proofs.YtjomfmhgiecafaaW.PrintWords Go.Proofs.YtjomfmhgiecafaaW.PrintLast

theorem first_range (l : List S29) (d : Nat) (hd : d ≤ l.length) : firstGoing l d = -1 ∨ 0 ≤ firstGoing l d := by
  induction d with
  | zero => exact .inl rfl
  | succ d ih =>
    rw [firstGoing]
    split
    · exact .inr (by omega)
    · exact ih (by omega)

theorem going_loop (l : List S29) (b5 : Bool) (n e : Int) (hlen : (l.length : Int) ≤ 1000) (d : Nat) : ∀ (k : Nat) (g : Bool) (i : Int), (l.length : Int) - i = d → d < k → 0 ≤ i →
    ogivelaw18_GateAlone.l0 k l b5 n e g i = ogivelaw18_GateAlone.l1 (k - d - 1) l b5 n e (g || decide (firstGoing l d ≥ 0)) 0 := by
  induction d with
  | zero =>
    intro k g i hd hk h0
    obtain ⟨k, rfl⟩ : ∃ q, k = q + 1 := ⟨k - 1, by omega⟩
    simp only [ogivelaw18_GateAlone.l0]
    rw [if_neg (by omega)]
    have : decide (firstGoing l 0 ≥ 0) = false := by simp [firstGoing]
    rw [this]
    simp
  | succ d ih =>
    intro k g i hd hk h0
    obtain ⟨k, rfl⟩ : ∃ q, k = q + 1 := ⟨k - 1, by omega⟩
    have e1 : wrap64 (i + 1) = i + 1 := by unfold wrap64; omega
    have e2 : (l.length : Int) - ((d : Int) + 1) = i := by omega
    have e3 : k + 1 - (d + 1) - 1 = k - d - 1 := by omega
    simp only [ogivelaw18_GateAlone.l0]
    rw [if_pos (by omega), e1, e3, firstGoing, e2]
    cases g with
    | true =>
      rw [if_pos rfl, ih k true (i + 1) (by omega) (by omega) (by omega)]
      simp
    | false =>
      rw [if_neg (by decide), if_pos h0, ih k _ (i + 1) (by omega) (by omega) (by omega)]
      cases hf : (rd_T29 l i).f3 with
      | true => simp [h0]
      | false => simp

theorem may_tells (k : Nat) (l : List S29) (n e i : Int) (he : gate_Elder.f k l n = some e) (h0 : 0 ≤ i) (h1 : i < (l.length : Int)) :
    gate_May.f k l n i = some (if (rd_T29 l i).f0 = 0 then false else if (rd_T29 l i).f3 = true then false else if (rd_T29 l i).f2 > 0 then false else if e = -1 then true else if e = i then !decide (firstGoing l l.length ≥ 0) else false) := by
  unfold gate_May.f
  rw [if_neg (by omega), if_neg (by omega), he]
  simp only [Option.bind_some]
  repeat' split
  all_goals rfl

theorem alone_loop (l : List S29) (n e : Int) (g : Bool) (hlen : (l.length : Int) ≤ 1000) (hg : g = decide (firstGoing l l.length ≥ 0)) (her : e = -1 ∨ 0 ≤ e) (he : ∀ k, l.length < k → gate_Elder.f k l n = some e) (d : Nat) :
    ∀ (k : Nat) (i : Int), (l.length : Int) - i = d → d + l.length + 1 < k → 0 ≤ i → ogivelaw18_GateAlone.l1 k l true n e g i = some true := by
  induction d with
  | zero =>
    intro k i hd hk h0
    obtain ⟨k, rfl⟩ : ∃ q, k = q + 1 := ⟨k - 1, by omega⟩
    simp only [ogivelaw18_GateAlone.l1]
    rw [if_neg (by omega), if_pos trivial]
    have m1 : gate_May.f k l n (-1) = some false := by unfold gate_May.f; rw [if_pos (by decide)]
    have m2 : gate_May.f k l n (l.length : Int) = some false := by unfold gate_May.f; rw [if_neg (by omega), if_pos (by omega)]
    rw [m1, m2]
    rfl
  | succ d ih =>
    intro k i hd hk h0
    obtain ⟨k, rfl⟩ : ∃ q, k = q + 1 := ⟨k - 1, by omega⟩
    have e1 : wrap64 (i + 1) = i + 1 := by unfold wrap64; omega
    have next := ih k (i + 1) (by omega) (by omega) (by omega)
    have m := may_tells k l n e i (he k (by omega)) h0 (by omega)
    simp only [ogivelaw18_GateAlone.l1]
    rw [if_pos (by omega), if_pos h0, e1, m, next]
    simp only [Option.bind_some]
    by_cases c1 : (rd_T29 l i).f0 = 0
    · simp [c1]
    · by_cases c2 : (rd_T29 l i).f3 = true
      · simp [c1, c2]
      · have c2' : (rd_T29 l i).f3 = false := by simpa using c2
        by_cases c3 : (rd_T29 l i).f2 > 0
        · have c3' : ¬ (rd_T29 l i).f2 ≤ 0 := by omega
          simp [c1, c2', c3, c3']
        · have c3' : (rd_T29 l i).f2 ≤ 0 := by omega
          rcases her with h | h
          · subst h
            simp [c1, c2', c3']
          · have n1 : ¬ e < 0 := by omega
            have n2 : ¬ e = -1 := by omega
            by_cases c4 : i = e
            · subst c4
              have c3'' : ¬ (rd_T29 l i).f2 > 0 := by omega
              simp [c1, c2', c3', c3'', n1, n2, hg, h]
            · have c5 : ¬ e = i := fun x => c4 x.symm
              simp [c1, c2', n1, n2, c4, c5, h]

theorem GateAlone (l0 : List S29) (a1 : Int) (_ : ∀ x ∈ l0, True) (_w1 : (Lit.int .u8 a1).wf = true) : ∃ k, ogivelaw18_GateAlone.f k l0 a1 = some true := by
  by_cases hl : (l0.length : Int) > 20
  · refine ⟨0, ?_⟩
    generalize 0 = K
    unfold ogivelaw18_GateAlone.f ogivelaw18_awake.f
    simp only [Option.bind_some]
    rw [if_pos hl]
  · obtain ⟨e, he, hs⟩ := elder_tells l0 (wrap64 (1 + wrap64 (Int.tmod a1 9))) (by omega)
    have her : e = -1 ∨ 0 ≤ e := by rcases hs.1 with h | h <;> omega
    obtain ⟨n, hn⟩ : ∃ n, wrap64 (1 + wrap64 (Int.tmod a1 9)) = n := ⟨_, rfl⟩
    rw [hn] at he
    obtain ⟨K, hK⟩ : ∃ K, K = 3 * l0.length + 100 := ⟨_, rfl⟩
    refine ⟨K, ?_⟩
    have h1 := going_loop l0 true n e (by omega) l0.length K false 0 (by omega) (by omega) (by omega)
    have h3 := alone_loop l0 n e (false || decide (firstGoing l0 l0.length ≥ 0)) (by omega) (by simp only [Bool.false_or]) her he l0.length (K - l0.length - 1) 0 (by omega) (by omega) (by omega)
    rw [h3] at h1
    have h2 := he K (by omega)
    clear hK h3
    unfold ogivelaw18_GateAlone.f ogivelaw18_awake.f
    simp only [Option.bind_some, hn]
    rw [if_neg hl, h2]
    simp only [Option.bind_some]
    exact h1
end Go.Proofs.Ytjomfmhgiecafaa.Pure
