/- The document's chains, by the program's. -/
import Derived.Test.YtdiahlfhcbcceaaChainD
import Derived.Test.YtdiahlfhcbcceaaPx11
import Derived.Test.YtdiahlfhcbcceaaPx12
import Derived.Test.YtdiahlfhcbcceaaPx13
import Derived.Test.YtdiahlfhcbcceaaPx14
import Derived.Test.YtdiahlfhcbcceaaPx15
import Derived.Test.YtdiahlfhcbcceaaPx16
import Derived.Test.YtdiahlfhcbcceaaPx21
import Derived.Test.YtdiahlfhcbcceaaPx23
namespace Go.Proofs.Ytdiahlfhcbcceaa.Pure
open Go.RowKit Go.Proofs.Ytdiahlfhcbcceaa.P Go.Proofs.YtdiahlfhcbcceaaW.PrintWords Go.Proofs.YtdiahlfhcbcceaaW.PrintLast Go.Proofs.YtdiahlfhcbcceaaW.PrintMore

def to27 (x : S30) : S27 := ⟨x.f0, x.f1, x.f2, x.f3⟩
theorem back (l : List S30) : (l.map to27).map to30 = l := by
  rw [List.map_map]
  exact List.map_id'' (fun _ => rfl) l

theorem rd_all (l : List S27) (i : Int) : rd_T30 (l.map to30) i = to30 (rd_T27 l i) := by
  unfold rd_T30 rd_T27
  rw [List.getD_eq_getElem?_getD, List.getD_eq_getElem?_getD, List.getElem?_map]
  cases l[i.toNat]? <;> rfl

theorem made_loop (l : List S30) (hl : l.length ≤ 1000) : ∀ (d i k : Nat) (acc : List S27), l.length - i = d → i ≤ l.length → acc = (l.take i).map to27 → d < k → ogivelaw10_made.l0 k l acc (i : Int) = some (l.map to27) := by
  intro d
  induction d with
  | zero =>
    intro i k acc hd hi ha hk
    obtain ⟨k, rfl⟩ : ∃ q, k = q + 1 := ⟨k - 1, by omega⟩
    simp only [ogivelaw10_made.l0]
    rw [if_neg (by omega), ha, List.take_of_length_le (by omega)]
  | succ d ih =>
    intro i k acc hd hi ha hk
    obtain ⟨k, rfl⟩ : ∃ q, k = q + 1 := ⟨k - 1, by omega⟩
    have e1 : wrap64 ((i : Int) + 1) = ((i + 1 : Nat) : Int) := by unfold wrap64; omega
    have hal : acc.length = i := by rw [ha, List.length_map, List.length_take]; omega
    simp only [ogivelaw10_made.l0]
    rw [if_pos (by omega), if_pos (by omega), if_pos (by omega), e1]
    refine ih (i + 1) k _ (by omega) (by omega) ?_ (by omega)
    have hil : i < l.length := by omega
    have hrd : rd_T30 l (i : Int) = l[i] := by
      unfold rd_T30
      rw [Int.toNat_natCast, List.getD_eq_getElem?_getD, List.getElem?_eq_getElem hil]
      rfl
    rw [ha, List.take_add_one, List.getElem?_eq_getElem hil, hrd, List.map_append]
    rfl
theorem made_tells (l : List S30) (hl : l.length ≤ 1000) (k : Nat) (hk : l.length < k) : ogivelaw10_made.f k l = some (l.map to27) := by
  unfold ogivelaw10_made.f
  exact made_loop l hl l.length 0 k [] (by omega) (by omega) (by simp) hk

theorem rmay_loop (l : List S27) : ∀ (k : Nat) (i : Int), ogiveref10_May.l0 k (l.map to30) i = chain_May.l0 k l l (l.length : Int) i := by
  intro k
  induction k with
  | zero => intro i; rfl
  | succ k ih =>
    intro i
    simp only [ogiveref10_May.l0, chain_May.l0, rd_all, List.length_map, to30, ih]
    by_cases c : i < (l.length : Int)
    · rw [if_pos c, if_pos c, if_pos c]
    · rw [if_neg c, if_neg c]
theorem rmay_tells (l : List S27) (k : Nat) : ogiveref10_May.f k (l.map to30) = chain_May.f k l := rmay_loop l k 0

theorem rlook_loop {l : List S27} (hg : Good l) (hl : l.length ≤ 1000) (ts : Int) (n : Nat) (hlow : ∀ i : Nat, i < n → (rd_T27 l (i : Int)).f0 ≤ ts) (hhigh : ∀ i : Nat, n ≤ i → i < l.length → ts < (rd_T27 l (i : Int)).f0) (hn : n ≤ l.length) :
    ∀ (d i k : Nat) (a : Int), l.length - i = d → i ≤ l.length → 2 * d + l.length + 4 < k → ogiveref10_Look.l0 k (l.map to30) ts a (i : Int) = some (if i < n then (n : Int) - 1 else a) := by
  intro d
  induction d with
  | zero =>
    intro i k a hd hi hk
    obtain ⟨k, rfl⟩ : ∃ q, k = q + 2 := ⟨k - 2, by omega⟩
    simp only [ogiveref10_Look.l0, List.length_map]
    rw [if_neg (by omega), if_neg (by omega)]
    simp [ogiveref10_Look.j1]
  | succ d ih =>
    intro i k a hd hi hk
    obtain ⟨k, rfl⟩ : ∃ q, k = q + 2 := ⟨k - 2, by omega⟩
    have e1 : wrap64 ((i : Int) + 1) = ((i + 1 : Nat) : Int) := by unfold wrap64; omega
    simp only [ogiveref10_Look.l0, List.length_map]
    rw [if_pos (by omega), rmay_tells, may_good hg hl (k + 1) (by omega)]
    simp only [Option.bind_some, ogiveref10_Look.j1, List.length_map, rd_all]
    rw [if_pos trivial, if_pos (by omega), if_pos (by omega), e1]
    have e2 : (to30 (rd_T27 l (i : Int))).f0 = (rd_T27 l (i : Int)).f0 := rfl
    rw [e2]
    by_cases c : i < n
    · rw [if_pos (hlow i c), ih (i + 1) k _ (by omega) (by omega) (by omega), if_pos c]
      by_cases c2 : i + 1 < n
      · rw [if_pos c2]
      · rw [if_neg c2]; congr 1; omega
    · rw [if_neg (by have := hhigh i (by omega) (by omega); omega), ih (i + 1) k _ (by omega) (by omega) (by omega), if_neg c, if_neg (by omega)]

theorem rlook_tells (l : List S27) (hl : l.length ≤ 100) (ts : Int) (k : Nat) (hk : 3 * l.length + 10 < k) : ogiveref10_Look.f k (l.map to30) ts = chain_Look.f k l ts := by
  unfold ogiveref10_Look.f
  by_cases hg : Good l
  · rcases parts_of l hg.1 ts with hn | ⟨pre, x, post, hp⟩
    · rw [look_none hn hg (by omega) k (by omega)]
      have := rlook_loop hg (by omega) ts 0 (fun i h => by omega) (fun i _ h => by rw [rd_get h]; exact hn _ (List.getElem_mem h)) (by omega) l.length 0 k (-1) (by omega) (by omega) (by omega)
      exact this.trans (by simp)
    · rw [look_parts hp hg (by omega) k (by omega)]
      have hlen : l.length = pre.length + 1 + post.length := by rw [hp.eq]; exact len_mid pre x post
      have hat := hp.at_
      have hlow : ∀ i : Nat, i < pre.length + 1 → (rd_T27 l (i : Int)).f0 ≤ ts := by
        intro i hi
        rw [rd_get (show i < l.length by omega)]
        rcases Nat.lt_or_ge i pre.length with h | h
        · have : l[i]'(by omega) = pre[i] := by simp only [hp.eq]; rw [List.getElem_append_left h]
          rw [this]
          have := hp.pre _ (List.getElem_mem h)
          omega
        · obtain rfl : i = pre.length := by omega
          have : l[pre.length]'(by omega) = x := by simp only [hp.eq]; simp
          rw [this]; exact hat
      have hhigh : ∀ i : Nat, pre.length + 1 ≤ i → i < l.length → ts < (rd_T27 l (i : Int)).f0 := by
        intro i h1 h2
        rw [rd_get h2]
        have h3 : i - pre.length - 1 < post.length := by omega
        have : l[i] = post[i - pre.length - 1] := by
          simp only [hp.eq]
          rw [List.getElem_append_right (by omega)]
          obtain ⟨d, hd⟩ : ∃ d, i - pre.length = d + 1 := ⟨i - pre.length - 1, by omega⟩
          simp [hd]
        rw [this]
        exact hp.post _ (List.getElem_mem h3)
      have := rlook_loop hg (by omega) ts (pre.length + 1) hlow hhigh (by omega) l.length 0 k (-1) (by omega) (by omega) (by omega)
      refine this.trans ?_
      rw [if_pos (by omega)]
      congr 1
      omega
  · rw [look_bad hg (by omega) k (by omega)]
    obtain ⟨k, rfl⟩ : ∃ q, k = q + 2 := ⟨k - 2, by omega⟩
    simp only [ogiveref10_Look.l0]
    rw [rmay_tells, may_bad hg (by omega) (k + 1) (by omega)]
    split <;> simp [ogiveref10_Look.j1]

theorem with_tells (l : List S27) (hl : l.length ≤ 1000) (i : Nat) (hi : i < l.length) (x : S27) : ogiveref10_with.f (l.map to30) (i : Int) x.f0 x.f1 x.f2 x.f3 = some ((l.set i x).map to30) := by
  unfold ogiveref10_with.f
  simp only [Option.bind_some, List.nil_append, List.length_nil, List.length_map, Nat.zero_add, Int.toNat_natCast]
  rw [if_pos (by omega), if_pos (by omega), if_pos (by omega), List.map_set]
  rfl
end Go.Proofs.Ytdiahlfhcbcceaa.Pure
