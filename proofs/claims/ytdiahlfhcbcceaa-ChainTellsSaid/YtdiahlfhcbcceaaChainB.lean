/- Chains as lists: what Read, Write, Commit, Abort do to them, and what stays. -/
import Derived.Test.YtdiahlfhcbcceaaChainA
import Derived.Test.YtdiahlfhcbcceaaPx7
import Derived.Test.YtdiahlfhcbcceaaPx8
import Derived.Test.YtdiahlfhcbcceaaPx20
import Derived.Test.YtdiahlfhcbcceaaPx22
namespace Go.Proofs.Ytdiahlfhcbcceaa.Pure
open Go.RowKit Go.Proofs.Ytdiahlfhcbcceaa.P

theorem rd_mid (pre : List S27) (x : S27) (post : List S27) : rd_T27 (pre ++ x :: post) (pre.length : Int) = x := by
  rw [rd_get (by simp)]
  simp
theorem set_mid (pre : List S27) (x y : S27) (post : List S27) : (pre ++ x :: post).set pre.length y = pre ++ y :: post := by
  simp
theorem len_mid (pre : List S27) (x : S27) (post : List S27) : (pre ++ x :: post).length = pre.length + 1 + post.length := by simp; omega
theorem clone_tells {l : List S27} (hl : l.length ≤ 1000) : chain_Ver_28.f l = some l := by
  unfold chain_Ver_28.f
  rw [if_pos (by omega)]

section
variable {l : List S27} {ts : Int} {pre : List S27} {x : S27} {post : List S27}

theorem read_tells (hp : Parts l ts pre x post) (hg : Good l) (hl : l.length ≤ 1000) (k : Nat) (hk : l.length < k) :
    chain_Read.f k l ts = some (pre ++ readAt x ts :: post, x.f0, (readAt x ts).f1, x.f2, x.f3) := by
  have h1 := look_parts hp hg hl k hk
  have hn := len_mid pre x post
  unfold chain_Read.f
  rw [h1]
  obtain rfl := hp.eq
  simp only [Option.bind_some, Int.toNat_natCast]
  rw [if_neg (by omega), if_pos (by omega), clone_tells hl]
  simp only [Option.bind_some, rd_mid, set_mid]
  rfl

theorem write_tells (hp : Parts l ts pre x post) (hg : Good l) (hl : l.length ≤ 1000) (v : ByteArray) (k : Nat) (hk : l.length < k) :
    chain_Write.f k l ts v = some (if x.f1 > ts then (l, 8) else if x.f0 < ts then (pre ++ x :: ⟨ts, ts, v, false⟩ :: post, 0) else if x.f3 = true then (l, 8) else (pre ++ valAt x v :: post, 0)) := by
  have h1 := look_parts hp hg hl k hk
  have hn := len_mid pre x post
  unfold chain_Write.f
  rw [h1]
  obtain rfl := hp.eq
  simp only [Option.bind_some, Int.toNat_natCast]
  rw [if_neg (by omega), if_pos (by omega)]
  simp only [rd_mid]
  have e : ((pre.length : Int) + 1).toNat = pre.length + 1 := by omega
  rw [e]
  have e1 : (pre ++ x :: post).take (pre.length + 1) = pre ++ [x] := by rw [List.take_append, List.take_of_length_le (by omega)]; simp
  have e2 : (pre ++ x :: post).drop (pre.length + 1) = post := by rw [List.drop_append]; simp
  rw [e1, e2, if_pos (by omega : (pre ++ x :: post).length < 3518437208882), clone_tells hl]
  simp only [Option.bind_some, set_mid]
  by_cases c1 : x.f1 > ts
  · rw [if_pos c1, if_pos c1]
  · rw [if_neg c1, if_neg c1]
    by_cases c2 : x.f0 < ts
    · rw [if_pos c2, if_pos c2]; simp
    · rw [if_neg c2, if_neg c2]
      by_cases c3 : x.f3 = true
      · rw [if_pos c3, if_pos c3]
      · rw [if_neg c3, if_neg c3]

theorem of_tells (hp : Parts l ts pre x post) (hg : Good l) (hl : l.length ≤ 1000) (k : Nat) (hk : l.length < k) :
    chain_of.f k l ts = some (if x.f0 = ts then (pre.length : Int) else -1) := by
  have h1 := look_parts hp hg hl k hk
  have hn := len_mid pre x post
  unfold chain_of.f
  rw [h1]
  obtain rfl := hp.eq
  simp only [Option.bind_some]
  rw [if_pos (by omega), if_pos (by omega), if_pos (by omega)]
  simp only [rd_mid]
  by_cases c : x.f0 = ts
  · rw [if_pos c, if_pos c]
  · rw [if_neg c, if_neg c]

theorem commit_tells (hp : Parts l ts pre x post) (hg : Good l) (hl : l.length ≤ 1000) (k : Nat) (hk : l.length < k) :
    chain_Commit.f k l ts = some (if x.f0 = ts then pre ++ doneAt x :: post else l) := by
  have h1 := of_tells hp hg hl k hk
  have hn := len_mid pre x post
  unfold chain_Commit.f
  rw [h1]
  obtain rfl := hp.eq
  simp only [Option.bind_some]
  by_cases c : x.f0 = ts
  · rw [if_pos c, if_neg (by omega), if_pos (by omega), clone_tells hl, if_pos c]
    simp only [Option.bind_some, Int.toNat_natCast, rd_mid, set_mid]
  · rw [if_neg c, if_pos (by omega), if_neg c]

theorem abort_tells (hp : Parts l ts pre x post) (hg : Good l) (hl : l.length ≤ 1000) (k : Nat) (hk : l.length < k) :
    chain_Abort.f k l ts = some (if x.f0 = ts ∧ x.f3 = false then pre ++ post else l) := by
  have h1 := of_tells hp hg hl k hk
  have hn := len_mid pre x post
  unfold chain_Abort.f
  rw [h1]
  obtain rfl := hp.eq
  simp only [Option.bind_some]
  by_cases c : x.f0 = ts
  · rw [if_pos c, if_neg (by omega), if_pos (by omega)]
    have e : ((pre.length : Int) + 1).toNat = pre.length + 1 := by omega
    have e1 : (pre ++ x :: post).take pre.length = pre := by rw [List.take_append]; simp
    have e2 : (pre ++ x :: post).drop (pre.length + 1) = post := by rw [List.drop_append]; simp
    simp only [Int.toNat_natCast, rd_mid, e, e1, e2]
    by_cases c3 : x.f3 = true
    · rw [if_pos c3, if_neg (by rw [c3]; simp)]
    · rw [if_neg c3, if_pos (by omega), if_pos ⟨c, by simpa using c3⟩]
  · rw [if_neg c, if_pos (by omega), if_neg (by simp [c])]
end

/-- Where nobody is seen, nothing is done. -/
theorem none_tells {l : List S27} {ts : Int} {k : Nat} (h : chain_Look.f k l ts = some (-1)) (v : ByteArray) :
    chain_Read.f k l ts = some (l, 0, 0, ⟨#[]⟩, false) ∧ chain_Write.f k l ts v = some (l, 8) ∧ chain_of.f k l ts = some (-1) ∧ chain_Commit.f k l ts = some l ∧ chain_Abort.f k l ts = some l := by
  have h2 : chain_of.f k l ts = some (-1) := by unfold chain_of.f; rw [h]; rfl
  refine ⟨?_, ?_, h2, ?_, ?_⟩
  · unfold chain_Read.f; rw [h]; rfl
  · unfold chain_Write.f; rw [h]; rfl
  · unfold chain_Commit.f; rw [h2]; rfl
  · unfold chain_Abort.f; rw [h2]; rfl

/-- What every chain of the laws keeps. -/
structure Inv (l : List S27) : Prop where
  sorted : Sorted l
  fair : Fair l
  head : ∃ x r, l = x :: r ∧ x.f3 = true ∧ x.f0 = 0

theorem Inv.good {l : List S27} (h : Inv l) : Good l := by
  obtain ⟨x, r, h1, h2, _⟩ := h.head
  exact ⟨h.sorted, h.fair, x, r, h1, h2⟩

theorem sorted_mid {pre : List S27} {x : S27} {post : List S27} : Sorted (pre ++ x :: post) ↔ Sorted pre ∧ Sorted post ∧ (∀ a ∈ pre, a.f0 < x.f0) ∧ (∀ b ∈ post, x.f0 < b.f0) ∧ (∀ a ∈ pre, ∀ b ∈ post, a.f0 < b.f0) := by
  unfold Sorted
  rw [List.pairwise_append, List.pairwise_cons]
  constructor
  · rintro ⟨h1, ⟨h2, h3⟩, h4⟩
    exact ⟨h1, h3, fun a ha => h4 a ha x List.mem_cons_self, h2, fun a ha b hb => h4 a ha b (List.mem_cons_of_mem _ hb)⟩
  · rintro ⟨h1, h3, h4, h2, h5⟩
    refine ⟨h1, ⟨h2, h3⟩, fun a ha b hb => ?_⟩
    rcases List.mem_cons.1 hb with rfl | hb
    · exact h4 a ha
    · exact h5 a ha b hb
theorem sorted_two {pre post : List S27} : Sorted (pre ++ post) ↔ Sorted pre ∧ Sorted post ∧ (∀ a ∈ pre, ∀ b ∈ post, a.f0 < b.f0) := by
  unfold Sorted
  rw [List.pairwise_append]
theorem fair_mid {pre : List S27} {x : S27} {post : List S27} : Fair (pre ++ x :: post) ↔ Fair pre ∧ (0 ≤ x.f0 ∧ x.f0 ≤ x.f1) ∧ Fair post := by
  unfold Fair
  constructor
  · intro h
    exact ⟨fun y hy => h y (by simp [hy]), h x (by simp), fun y hy => h y (by simp [hy])⟩
  · rintro ⟨h1, h2, h3⟩ y hy
    rcases List.mem_append.1 hy with hy | hy
    · exact h1 y hy
    · rcases List.mem_cons.1 hy with rfl | hy
      · exact h2
      · exact h3 y hy

section
variable {pre : List S27} {x y : S27} {post : List S27}
theorem Inv.replace (h : Inv (pre ++ x :: post)) (h0 : y.f0 = x.f0) (h1 : x.f1 ≤ y.f1) (h3 : x.f3 = true → y.f3 = true) : Inv (pre ++ y :: post) := by
  obtain ⟨s1, s2, s3, s4, s5⟩ := sorted_mid.1 h.sorted
  obtain ⟨f1, f2, f3⟩ := fair_mid.1 h.fair
  refine ⟨sorted_mid.2 ⟨s1, s2, by rw [h0]; exact s3, by rw [h0]; exact s4, s5⟩, fair_mid.2 ⟨f1, by omega, f3⟩, ?_⟩
  obtain ⟨a, r, e, ha, hz⟩ := h.head
  cases pre with
  | nil =>
    injection e with e1 e2
    subst e1
    exact ⟨y, post, rfl, h3 ha, by omega⟩
  | cons p q =>
    injection e with e1 e2
    subst e1
    exact ⟨p, q ++ y :: post, rfl, ha, hz⟩
theorem Inv.insert (h : Inv (pre ++ x :: post)) (h0 : x.f0 < y.f0) (h1 : y.f0 ≤ y.f1) (h2 : ∀ b ∈ post, y.f0 < b.f0) : Inv (pre ++ x :: y :: post) := by
  obtain ⟨s1, s2, s3, s4, s5⟩ := sorted_mid.1 h.sorted
  obtain ⟨f1, f2, f3⟩ := fair_mid.1 h.fair
  have e2 : pre ++ x :: y :: post = (pre ++ [x]) ++ y :: post := by simp
  refine ⟨?_, ?_, ?_⟩
  · rw [e2]
    refine sorted_mid.2 ⟨?_, s2, ?_, h2, ?_⟩
    · rw [show pre ++ [x] = pre ++ x :: [] from rfl]
      exact sorted_mid.2 ⟨s1, by unfold Sorted; simp, s3, fun b hb => (by cases hb), fun _ _ b hb => (by cases hb)⟩
    · intro a ha
      rcases List.mem_append.1 ha with ha | ha
      · have := s3 a ha; omega
      · obtain rfl : a = x := by simpa using ha
        exact h0
    · intro a ha b hb
      rcases List.mem_append.1 ha with ha | ha
      · exact s5 a ha b hb
      · obtain rfl : a = x := by simpa using ha
        exact s4 b hb
  · rw [e2]
    refine fair_mid.2 ⟨?_, by omega, f3⟩
    rw [show pre ++ [x] = pre ++ x :: [] from rfl]
    exact fair_mid.2 ⟨f1, f2, fun b hb => by cases hb⟩
  · obtain ⟨a, r, e, ha, hz⟩ := h.head
    cases pre with
    | nil =>
      injection e with e1 e2
      subst e1
      exact ⟨x, y :: post, rfl, ha, hz⟩
    | cons p q =>
      injection e with e1 e2
      subst e1
      exact ⟨p, q ++ x :: y :: post, rfl, ha, hz⟩
theorem Inv.remove (h : Inv (pre ++ x :: post)) (h3 : x.f3 = false) : Inv (pre ++ post) := by
  obtain ⟨s1, s2, s3, s4, s5⟩ := sorted_mid.1 h.sorted
  obtain ⟨f1, f2, f3⟩ := fair_mid.1 h.fair
  refine ⟨sorted_two.2 ⟨s1, s2, s5⟩, ?_, ?_⟩
  · intro z hz
    rcases List.mem_append.1 hz with hz | hz
    · exact f1 z hz
    · exact f3 z hz
  · obtain ⟨a, r, e, ha, hz⟩ := h.head
    cases pre with
    | nil =>
      injection e with e1 e2
      subst e1
      rw [h3] at ha; cases ha
    | cons p q =>
      injection e with e1 e2
      subst e1
      exact ⟨p, q ++ post, rfl, ha, hz⟩
end

theorem readAt_f1 (x : S27) (ts : Int) : x.f1 ≤ (readAt x ts).f1 ∧ ts ≤ (readAt x ts).f1 := by
  unfold readAt
  simp only
  split <;> omega

/-- Of every chain that may be, and every timestamp from 0 on: who is seen. -/
theorem Inv.parts {l : List S27} (h : Inv l) {ts : Int} (h0 : 0 ≤ ts) : ∃ pre x post, Parts l ts pre x post := by
  rcases parts_of l h.sorted ts with hn | hp
  · obtain ⟨x, r, rfl, _, hz⟩ := h.head
    have := hn x List.mem_cons_self
    omega
  · exact hp
theorem Inv.look_neg {l : List S27} (h : Inv l) {ts : Int} (h0 : ts < 0) (hl : l.length ≤ 1000) (k : Nat) (hk : l.length < k) : chain_Look.f k l ts = some (-1) :=
  look_none (fun y hy => by have := (h.fair y hy).1; omega) h.good hl k hk
end Go.Proofs.Ytdiahlfhcbcceaa.Pure
