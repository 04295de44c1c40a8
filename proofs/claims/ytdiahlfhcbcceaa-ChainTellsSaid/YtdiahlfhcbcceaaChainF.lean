/- The document's deeds, by the program's. -/
import Derived.Test.YtdiahlfhcbcceaaChainE
namespace Go.Proofs.Ytdiahlfhcbcceaa.Pure
open Go.RowKit Go.Proofs.Ytdiahlfhcbcceaa.P Go.Proofs.YtdiahlfhcbcceaaW.PrintWords Go.Proofs.YtdiahlfhcbcceaaW.PrintLast Go.Proofs.YtdiahlfhcbcceaaW.PrintMore

/-- Who is seen, or that nobody is. -/
theorem seen_or (l : List S27) (ts : Int) (hl : l.length ≤ 1000) : (∀ k, l.length < k → chain_Look.f k l ts = some (-1)) ∧ (¬ Good l ∨ ∀ y ∈ l, ts < y.f0) ∨ Good l ∧ ∃ pre x post, Parts l ts pre x post := by
  by_cases hg : Good l
  · rcases parts_of l hg.1 ts with h | h
    · exact .inl ⟨fun k hk => look_none h hg hl k hk, .inr h⟩
    · exact .inr ⟨hg, h⟩
  · exact .inl ⟨fun k hk => look_bad hg hl k hk, .inl hg⟩

theorem rcommit_tells (l : List S27) (hl : l.length ≤ 100) (ts : Int) (k : Nat) (hk : 3 * l.length + 10 < k) : ∃ r, chain_Commit.f k l ts = some r ∧ r.length ≤ 101 ∧ ogiveref10_Commit.f k (l.map to30) ts = some (r.map to30) := by
  unfold ogiveref10_Commit.f
  rw [rmay_tells]
  have same : ∀ (m : Bool) (q : List S27), (∀ y ∈ q, (m && (y.f0 == ts)) = false) → (q.map to30).map (rc_at m ts) = q.map to30 := by
    intro m q hq
    rw [List.map_map]
    refine List.map_congr_left fun y hy => ?_
    have := hq y hy
    simp only [Function.comp, rc_at, to30]
    rw [this, Bool.or_false]
  rcases seen_or l ts (by omega) with ⟨hlook, hwhy⟩ | ⟨hg, pre, x, post, hp⟩
  · refine ⟨l, (none_tells (hlook k (by omega)) ⟨#[]⟩).2.2.2.1, by omega, ?_⟩
    obtain ⟨b, hb, hiff⟩ := may_any l (by omega) k (by omega)
    rw [hb]
    simp only [Option.bind_some, List.length_map]
    rw [if_pos (by omega), same b l]
    intro y hy
    rcases hwhy with h | h
    · cases b with
      | false => rfl
      | true => exact absurd (hiff.1 rfl) h
    · have := h y hy
      have : (y.f0 == ts) = false := by simp; omega
      rw [this, Bool.and_false]
  · have hat := hp.at_
    have hpre : ∀ y ∈ pre, (true && (y.f0 == ts)) = false := fun y hy => by have := hp.pre y hy; simp; omega
    have hpost : ∀ y ∈ post, (true && (y.f0 == ts)) = false := fun y hy => by have := hp.post y hy; simp; omega
    have hlen := len_mid pre x post
    rw [← hp.eq] at hlen
    refine ⟨_, commit_tells hp hg (by omega) k (by omega), ?_, ?_⟩
    · split
      · rw [len_mid]; omega
      · omega
    · rw [may_good hg (by omega) k (by omega)]
      simp only [Option.bind_some, List.length_map]
      rw [if_pos (by omega)]
      congr 1
      have hx : rc_at true ts (to30 x) = to30 (if x.f0 = ts then doneAt x else x) := by
        by_cases c : x.f0 = ts
        · rw [if_pos c]
          have : (x.f0 == ts) = true := by simpa using c
          simp only [rc_at, to30, doneAt]
          rw [this]; simp
        · rw [if_neg c]
          have : (x.f0 == ts) = false := by simpa using c
          simp only [rc_at, to30]
          rw [this]; simp
      have e : ((l.map to30).map (rc_at true ts)) = pre.map to30 ++ to30 (if x.f0 = ts then doneAt x else x) :: post.map to30 := by
        rw [hp.eq, List.map_append, List.map_cons, List.map_append, List.map_cons, same true pre hpre, same true post hpost, hx]
      rw [e]
      by_cases c : x.f0 = ts
      · rw [if_pos c, if_pos c, List.map_append, List.map_cons]
      · rw [if_neg c, if_neg c, hp.eq, List.map_append, List.map_cons]

/-- What an abort keeps. -/
def keep (m : Bool) (ts : Int) (y : S27) : Bool := !(m && (y.f0 == ts) && !y.f3)

theorem rabort_loop (l : List S27) (hl : l.length ≤ 100) (ts : Int) (m : Bool) (hm : ∀ k, l.length < k → chain_May.f k l = some m) : ∀ (d i k : Nat) (acc : List S30), l.length - i = d → i ≤ l.length → acc = ((l.take i).filter (keep m ts)).map to30 → d + l.length + 2 < k → ogiveref10_Abort.l0 k (l.map to30) ts acc (i : Int) = some ((l.filter (keep m ts)).map to30) := by
  intro d
  induction d with
  | zero =>
    intro i k acc hd hi ha hk
    obtain ⟨k, rfl⟩ : ∃ q, k = q + 1 := ⟨k - 1, by omega⟩
    simp only [ogiveref10_Abort.l0, List.length_map]
    rw [if_neg (by omega), ha, List.take_of_length_le (by omega)]
  | succ d ih =>
    intro i k acc hd hi ha hk
    obtain ⟨k, rfl⟩ : ∃ q, k = q + 1 := ⟨k - 1, by omega⟩
    have e1 : wrap64 ((i : Int) + 1) = ((i + 1 : Nat) : Int) := by unfold wrap64; omega
    have hil : i < l.length := by omega
    have hal : acc.length < 3518437208883 := by
      rw [ha, List.length_map]
      have := List.length_filter_le (keep m ts) (l.take i)
      rw [List.length_take] at this
      omega
    simp only [ogiveref10_Abort.l0, List.length_map, rd_all]
    rw [if_pos (by omega), rmay_tells, hm k (by omega)]
    simp only [Option.bind_some]
    rw [if_pos (show (0 : Int) ≤ (i : Int) by omega), if_pos hal, e1]
    have hr := rd_get hil
    obtain ⟨y, hy⟩ : ∃ y, rd_T27 l (i : Int) = y := ⟨_, rfl⟩
    rw [hy] at hr ⊢
    have step : ((l.take (i + 1)).filter (keep m ts)).map to30 = if keep m ts y = true then acc ++ [to30 y] else acc := by
      rw [List.take_add_one, List.getElem?_eq_getElem hil, List.filter_append, List.map_append, ← ha, ← hr]
      by_cases c : keep m ts y = true
      · rw [if_pos c]; simp [c]
      · rw [if_neg c]; simp [c]
    have yes : keep m ts y = true → ogiveref10_Abort.l0 k (l.map to30) ts (acc ++ [to30 y]) ((i + 1 : Nat) : Int) = some ((l.filter (keep m ts)).map to30) :=
      fun c => ih (i + 1) k _ (by omega) (by omega) (by rw [step, if_pos c]) (by omega)
    have no : keep m ts y = false → ogiveref10_Abort.l0 k (l.map to30) ts acc ((i + 1 : Nat) : Int) = some ((l.filter (keep m ts)).map to30) :=
      fun c => ih (i + 1) k _ (by omega) (by omega) (by rw [step, if_neg (by rw [c]; simp)]) (by omega)
    have e2 : (to30 y).f0 = y.f0 := rfl
    have e3 : (to30 y).f3 = y.f3 := rfl
    have e4 : ({ f0 := (to30 y).f0, f1 := (to30 y).f1, f2 := (to30 y).f2, f3 := (to30 y).f3 } : S30) = to30 y := rfl
    rw [e4, e2, e3]
    cases m with
    | true =>
      rw [if_pos rfl]
      by_cases c1 : y.f0 = ts
      · rw [if_pos c1]
        by_cases c2 : y.f3 = true
        · rw [if_pos c2]; exact yes (by simp [keep, c2])
        · rw [if_neg c2]; exact no (by simp [keep, c1]; simpa using c2)
      · rw [if_neg c1]; exact yes (by simp [keep, c1])
    | false =>
      rw [if_neg (by decide)]
      exact yes (by simp [keep])

theorem rabort_tells (l : List S27) (hl : l.length ≤ 100) (ts : Int) (k : Nat) (hk : 3 * l.length + 10 < k) : ∃ r, chain_Abort.f k l ts = some r ∧ r.length ≤ 101 ∧ ogiveref10_Abort.f k (l.map to30) ts = some (r.map to30) := by
  have all : ∀ (m : Bool) (q : List S27), (∀ y ∈ q, keep m ts y = true) → q.filter (keep m ts) = q := fun m q h => List.filter_eq_self.2 h
  unfold ogiveref10_Abort.f
  rcases seen_or l ts (by omega) with ⟨hlook, hwhy⟩ | ⟨hg, pre, x, post, hp⟩
  · refine ⟨l, (none_tells (hlook k (by omega)) ⟨#[]⟩).2.2.2.2, by omega, ?_⟩
    obtain ⟨b, hb, hiff⟩ := may_any l (by omega) k (by omega)
    have hm : ∀ k, l.length < k → chain_May.f k l = some b := by
      intro k2 hk2
      by_cases hg : Good l
      · rw [may_good hg (by omega) k2 hk2]; rw [hiff.2 hg]
      · rw [may_bad hg (by omega) k2 hk2]
        cases b with
        | false => rfl
        | true => exact absurd (hiff.1 rfl) hg
    have := rabort_loop l hl ts b hm l.length 0 k [] (by omega) (by omega) (by simp) (by omega)
    refine this.trans ?_
    rw [all b l]
    intro y hy
    rcases hwhy with h | h
    · cases b with
      | false => simp [keep]
      | true => exact absurd (hiff.1 rfl) h
    · have := h y hy
      have : (y.f0 == ts) = false := by simp; omega
      simp [keep, this]
  · have hat := hp.at_
    have hpre : ∀ y ∈ pre, keep true ts y = true := fun y hy => by
      have := hp.pre y hy
      have : (y.f0 == ts) = false := by simp; omega
      simp [keep, this]
    have hpost : ∀ y ∈ post, keep true ts y = true := fun y hy => by
      have := hp.post y hy
      have : (y.f0 == ts) = false := by simp; omega
      simp [keep, this]
    have hlen := len_mid pre x post
    rw [← hp.eq] at hlen
    refine ⟨_, abort_tells hp hg (by omega) k (by omega), ?_, ?_⟩
    · split
      · rw [List.length_append]; omega
      · omega
    · have := rabort_loop l hl ts true (fun k hk => may_good hg (by omega) k hk) l.length 0 k [] (by omega) (by omega) (by simp) (by omega)
      refine this.trans ?_
      congr 2
      have e : l.filter (keep true ts) = pre ++ (if keep true ts x = true then x :: post else post) := by
        rw [hp.eq, List.filter_append, List.filter_cons, all true pre hpre, all true post hpost]
      rw [e]
      by_cases c : x.f0 = ts ∧ x.f3 = false
      · rw [if_neg (by simp [keep, c.1, c.2]), if_pos c]
      · have hk2 : keep true ts x = true := by
          cases h3 : x.f3 with
          | true => simp [keep, h3]
          | false =>
            have : x.f0 ≠ ts := fun h => c ⟨h, h3⟩
            simp [keep, this]
        rw [if_pos hk2, if_neg c, ← hp.eq]

theorem rread_tells (l : List S27) (hl : l.length ≤ 100) (ts : Int) (k : Nat) (hk : 3 * l.length + 10 < k) : ∃ r a b c d, chain_Read.f k l ts = some (r, a, b, c, d) ∧ r.length ≤ 101 ∧ ogiveref10_Read.f k (l.map to30) ts = some (r.map to30, a, b, c, d) := by
  unfold ogiveref10_Read.f
  rw [rlook_tells l hl ts k hk]
  rcases seen_or l ts (by omega) with ⟨hlook, _⟩ | ⟨hg, pre, x, post, hp⟩
  · refine ⟨l, _, _, _, _, (none_tells (hlook k (by omega)) ⟨#[]⟩).1, by omega, ?_⟩
    rw [hlook k (by omega)]
    rfl
  · have hlen := len_mid pre x post
    rw [← hp.eq] at hlen
    refine ⟨_, _, _, _, _, read_tells hp hg (by omega) k (by omega), by rw [len_mid]; omega, ?_⟩
    rw [look_parts hp hg (by omega) k (by omega)]
    simp only [Option.bind_some, List.length_map, rd_all]
    have er : rd_T27 l (pre.length : Int) = x := by rw [hp.eq]; exact rd_mid pre x post
    rw [if_neg (by omega), if_pos (by omega), if_pos (by omega), er]
    have hw := with_tells l (by omega) pre.length (by omega) (readAt x ts)
    have e1 : mx (to30 x).f1 ts = (readAt x ts).f1 := rfl
    have e2 : ogiveref10_with.f (l.map to30) (pre.length : Int) (to30 x).f0 (mx (to30 x).f1 ts) (to30 x).f2 (to30 x).f3 = some ((l.set pre.length (readAt x ts)).map to30) := hw
    rw [e2]
    simp only [Option.bind_some]
    have e3 : l.set pre.length (readAt x ts) = pre ++ readAt x ts :: post := by
      have h := hp.eq
      subst h
      exact set_mid pre x _ post
    rw [e3]
    rfl

theorem rwrite_tells (l : List S27) (hl : l.length ≤ 100) (ts : Int) (v : ByteArray) (k : Nat) (hk : 3 * l.length + 10 < k) : ∃ r e, chain_Write.f k l ts v = some (r, e) ∧ r.length ≤ 101 ∧ ogiveref10_Write.f k (l.map to30) ts v = some (r.map to30, e) := by
  obtain ⟨k, rfl⟩ : ∃ q, k = q + 1 := ⟨k - 1, by omega⟩
  unfold ogiveref10_Write.f
  rw [rlook_tells l hl ts (k + 1) hk]
  rcases seen_or l ts (by omega) with ⟨hlook, _⟩ | ⟨hg, pre, x, post, hp⟩
  · refine ⟨l, 8, (none_tells (hlook (k + 1) (by omega)) v).2.1, by omega, ?_⟩
    rw [hlook (k + 1) (by omega)]
    simp only [Option.bind_some]
    rw [if_pos (by omega)]
    simp [ogiveref10_Write.j0]
  · have hlen := len_mid pre x post
    have hat := hp.at_
    rw [← hp.eq] at hlen
    have er : rd_T27 l (pre.length : Int) = x := by rw [hp.eq]; exact rd_mid pre x post
    have hw := write_tells hp hg (by omega) v (k + 1) (by omega)
    have hl2 := look_parts hp hg (by omega) (k + 1) (by omega)
    have e1 : wrap64 ((pre.length : Int) + 1) = ((pre.length + 1 : Nat) : Int) := by unfold wrap64; omega
    have hmid : ∀ y, l.set pre.length y = pre ++ y :: post := fun y => by
      have h := hp.eq
      subst h
      exact set_mid pre x y post
    have x0 : (to30 x).f0 = x.f0 := rfl
    have x1 : (to30 x).f1 = x.f1 := rfl
    have x3 : (to30 x).f3 = x.f3 := rfl
    rw [hl2]
    simp only [Option.bind_some, List.length_map, rd_all]
    rw [if_neg (by omega), if_pos (by omega), if_pos (by omega), er, x0, x1, x3]
    by_cases c1 : x.f1 > ts
    · rw [if_pos c1] at hw ⊢
      exact ⟨_, _, hw, by omega, by simp [ogiveref10_Write.j0]⟩
    · rw [if_neg c1] at hw ⊢
      by_cases c2 : x.f0 < ts
      · rw [if_pos c2] at hw
        have eb : (x.f0 == ts) = false := by simp; omega
        have key : ogiveref10_Write.j0 (k + 1) (l.map to30) ts v (pre.length : Int) false = some ((pre ++ x :: ⟨ts, ts, v, false⟩ :: post).map to30, 0) := by
          simp only [ogiveref10_Write.j0, List.length_map, rd_all]
          rw [if_neg (by decide), if_pos (by omega), if_pos (by omega), er, x0, if_neg (by omega), e1]
          simp only [Option.bind_some, Int.toNat_natCast, List.nil_append, List.length_nil, Nat.zero_add]
          have e4 : (l.map to30).take (pre.length + 1) = (pre ++ [x]).map to30 := by
            rw [← List.map_take, hp.eq, List.take_append, List.take_of_length_le (by omega)]; simp
          have e5 : (l.map to30).drop (pre.length + 1) = post.map to30 := by
            rw [← List.map_drop, hp.eq, List.drop_append]; simp
          rw [e4, e5, if_pos (by omega), if_pos (by omega), if_pos (by simp; omega), if_pos (by simp; omega), if_pos (by simp; omega)]
          simp [to30]
        refine ⟨_, _, hw, by rw [len_mid, List.length_cons]; omega, ?_⟩
        by_cases c3 : x.f3 = true
        · rw [if_pos c3, eb]; exact key
        · rw [if_neg c3]; exact key
      · rw [if_neg c2] at hw
        have hx0 : x.f0 = ts := by omega
        have eb : (x.f0 == ts) = true := by simpa using hx0
        by_cases c3 : x.f3 = true
        · rw [if_pos c3] at hw ⊢
          refine ⟨_, _, hw, by omega, ?_⟩
          rw [eb]
          simp [ogiveref10_Write.j0]
        · rw [if_neg c3] at hw ⊢
          refine ⟨_, _, hw, by rw [len_mid]; omega, ?_⟩
          simp only [ogiveref10_Write.j0, List.length_map, rd_all]
          rw [if_neg (by decide), if_pos (by omega), if_pos (by omega), er, x0, if_pos hx0]
          have hwt := with_tells l (by omega) pre.length (by omega) (valAt x v)
          have e2 : ogiveref10_with.f (l.map to30) (pre.length : Int) x.f0 (to30 x).f1 v (to30 x).f3 = some ((l.set pre.length (valAt x v)).map to30) := hwt
          rw [e2, hmid]
          rfl
end Go.Proofs.Ytdiahlfhcbcceaa.Pure
