/- The elder is aged, and older than all others that are; with all tickets higher by as much it is the same one: for every list, without a condition. -/
import Derived.Test.YtjomfmhgiecafaaElder
import Derived.Test.YtjomfmhgiecafaaPx9
namespace Go.Proofs.Ytjomfmhgiecafaa.Pure
open Go.RowKit Go.Proofs.Ytjomfmhgiecafaa.P Go.Proofs.YtjomfmhgiecafaaW.PrintWords Go.Proofs.YtjomfmhgiecafaaW.PrintLast

/-- One whose ticket, if it has one, is higher by b. -/
def upBy (b : Int) (x : S29) : S29 := if x.f0 > 0 then ⟨x.f0 + b, x.f1, x.f2, x.f3⟩ else x

theorem rd_map (b : Int) (l : List S29) (i : Int) (h0 : 0 ≤ i) (h1 : i < (l.length : Int)) : rd_T29 (l.map (upBy b)) i = upBy b (rd_T29 l i) := by
  unfold rd_T29
  have h : i.toNat < l.length := by omega
  simp [List.getD_eq_getElem?_getD, h]

theorem up_aged (b : Int) (hb : 0 ≤ b) (x : S29) (n : Int) : agedB (upBy b x) n = agedB x n := by
  unfold agedB upBy
  by_cases h : x.f0 > 0
  · rw [if_pos h]
    have : x.f0 + b > 0 := by omega
    simp [h, this]
  · rw [if_neg h]

theorem up_lt (b : Int) (n : Int) (x y : S29) (hx : agedB x n = true) (hy : agedB y n = true) : (upBy b x).f0 < (upBy b y).f0 ↔ x.f0 < y.f0 := by
  have h1 : x.f0 > 0 := by unfold agedB at hx; simp at hx; omega
  have h2 : y.f0 > 0 := by unfold agedB at hy; simp at hy; omega
  unfold upBy
  rw [if_pos h1, if_pos h2]
  simp

theorem oldest_loop (l : List S29) (b n e : Int) (hlen : (l.length : Int) ≤ 20) (hb0 : 0 ≤ b) (hb : b ≤ 255) (hs : Stand l n e (l.length : Int)) (hm : gate_Elder.f (l.length + 5) (l.map (upBy b)) n = some e) (d : Nat) :
    ∀ (k : Nat) (i : Int), (l.length : Int) - i = d → 2 * d + l.length + 6 < k → 0 ≤ i → ogivelaw18_GateOldest.l0 k l b true n e ((l.map (upBy b)).take i.toNat) i = some true := by
  induction d with
  | zero =>
    intro k i hd hk h0
    obtain ⟨k, rfl⟩ : ∃ q, k = q + 1 := ⟨k - 1, by omega⟩
    have hi : i.toNat = l.length := by omega
    have ht : (l.map (upBy b)).take i.toNat = l.map (upBy b) := List.take_of_length_le (by simp; omega)
    have hk2 : gate_Elder.f k (l.map (upBy b)) n = some e := at_rounds (g := fun k => gate_Elder.f k (l.map (upBy b)) n) (gate_Elder.mono _ n) (k := l.length + 5) (by omega) hm
    simp only [ogivelaw18_GateOldest.l0]
    rw [if_neg (by omega), if_pos trivial, ht, hk2]
    simp
  | succ d ih =>
    intro k i hd hk h0
    obtain ⟨k, rfl⟩ : ∃ q, k = q + 1 := ⟨k - 1, by omega⟩
    obtain ⟨k, rfl⟩ : ∃ q, k = q + 1 := ⟨k - 1, by omega⟩
    have hi : i < (l.length : Int) := by omega
    have e1 : wrap64 (i + 1) = i + 1 := by unfold wrap64; omega
    have next := ih k (i + 1) (by omega) (by omega) (by omega)
    have hstep : ((l.map (upBy b)).take (i + 1).toNat) = (l.map (upBy b)).take i.toNat ++ [upBy b (rd_T29 l i)] := by
      have h : i.toNat < l.length := by omega
      have e2 : (i + 1).toNat = i.toNat + 1 := by omega
      rw [e2, List.take_succ_eq_append_getElem (by simpa using h)]
      congr 1
      simp [rd_T29, List.getD_eq_getElem?_getD, h]
    rw [hstep] at next
    have hj : ∀ c : Bool, (c = true → (rd_T29 l i).f0 > 1099511627776) → (c = false → (rd_T29 l i).f0 ≤ 1099511627776) → ogivelaw18_GateOldest.j1 (k + 1) l b true n e ((l.map (upBy b)).take i.toNat) i c = some true := by
      intro c hc1 hc2
      have hw : wrap64 b = b := by unfold wrap64; omega
      have hlt : ((l.map (upBy b)).take i.toNat).length < 4398046511104 := by
        have : ((l.map (upBy b)).take i.toNat).length ≤ i.toNat := List.length_take_le _ _
        omega
      simp only [ogivelaw18_GateOldest.j1, hw, e1]
      cases c with
      | true => rw [if_pos rfl, if_pos h0, if_pos hi, if_pos (hc1 rfl)]
      | false =>
        have hbig := hc2 rfl
        rw [if_neg (by decide), if_pos h0, if_pos hi]
        by_cases hp : (rd_T29 l i).f0 > 0
        · have hu : upBy b (rd_T29 l i) = ⟨wrap64 ((rd_T29 l i).f0 + b), (rd_T29 l i).f1, (rd_T29 l i).f2, (rd_T29 l i).f3⟩ := by
            have : wrap64 ((rd_T29 l i).f0 + b) = (rd_T29 l i).f0 + b := by unfold wrap64; omega
            unfold upBy
            rw [if_pos hp, this]
          rw [if_pos hp, if_pos hlt, ← hu]
          exact next
        · have hu : upBy b (rd_T29 l i) = ⟨(rd_T29 l i).f0, (rd_T29 l i).f1, (rd_T29 l i).f2, (rd_T29 l i).f3⟩ := by
            unfold upBy
            rw [if_neg hp]
          rw [if_neg hp, if_pos hlt, ← hu]
          exact next
    have hjd := hj (decide ((rd_T29 l i).f0 > 1099511627776)) (fun h => of_decide_eq_true h) (fun h => by have := of_decide_eq_false h; omega)
    simp only [ogivelaw18_GateOldest.l0]
    rw [if_pos hi, if_pos h0, aged_f]
    simp only [Option.bind_some]
    by_cases ha : agedB (rd_T29 l i) n = true
    · obtain ⟨he0, hle⟩ := hs.2 i h0 hi ha
      have hs1 : 0 ≤ e ∧ e < (l.length : Int) ∧ agedB (rd_T29 l e) n = true := by rcases hs.1 with h | h <;> omega
      rw [if_pos ha, if_neg (by omega), if_neg (by omega), if_pos (by omega), if_pos (by omega), if_neg (by omega), aged_f]
      simp only [Option.bind_some]
      rw [if_pos hs1.2.2]
      exact hjd
    · rw [if_neg ha]
      exact hjd

theorem GateOldest (l0 : List S29) (a1 a2 : Int) (_ : ∀ x ∈ l0, True) (_ : (Lit.int .u8 a1).wf = true) (w2 : (Lit.int .u8 a2).wf = true) : ∃ k, ogivelaw18_GateOldest.f k l0 a1 a2 = some true := by
  have h' : (decide (IntKind.u8.min ≤ a2) && decide (a2 ≤ IntKind.u8.max)) = true := w2
  have b2 : 0 ≤ a2 ∧ a2 ≤ 255 := by simpa [IntKind.min, IntKind.max, IntKind.signed, IntKind.bits] using h'
  by_cases hl : (l0.length : Int) > 20
  · refine ⟨0, ?_⟩
    generalize 0 = K
    unfold ogivelaw18_GateOldest.f ogivelaw18_awake.f
    simp only [Option.bind_some]
    rw [if_pos hl]
  · obtain ⟨n, hn⟩ : ∃ n, wrap64 (1 + wrap64 (Int.tmod a1 9)) = n := ⟨_, rfl⟩
    obtain ⟨e, he, hs⟩ := elder_tells l0 n (by omega)
    have hm : gate_Elder.f (l0.length + 5) (l0.map (upBy a2)) n = some e := by
      have h := elder_same l0 (l0.map (upBy a2)) n (by omega) (by simp) (fun i h0 h1 => by rw [rd_map a2 l0 i h0 h1, up_aged a2 b2.1]) (fun i j i0 i1 j0 j1 ai aj => by rw [rd_map a2 l0 i i0 i1, rd_map a2 l0 j j0 j1]; exact up_lt a2 n _ _ ai aj)
        l0.length (l0.length + 5) (-1) 0 (by omega) (by omega) (by omega) ⟨.inl rfl, fun j a b => by omega⟩
      have h2 := he (l0.length + 5) (by omega)
      unfold gate_Elder.f at h2 ⊢
      rw [List.length_map, h]
      exact h2
    obtain ⟨K, hK⟩ : ∃ K, K = 3 * l0.length + 100 := ⟨_, rfl⟩
    refine ⟨K, ?_⟩
    have h1 := oldest_loop l0 a2 n e (by omega) b2.1 b2.2 hs hm l0.length K 0 (by omega) (by omega) (by omega)
    have e0 : (l0.map (upBy a2)).take (0 : Int).toNat = [] := rfl
    rw [e0] at h1
    have h2 := he K (by omega)
    clear hK
    unfold ogivelaw18_GateOldest.f ogivelaw18_awake.f
    simp only [Option.bind_some, hn]
    rw [if_neg hl, h2]
    simp only [Option.bind_some]
    exact h1
end Go.Proofs.Ytjomfmhgiecafaa.Pure
