/- ChainStays: what one reads stays what it reads. -/
import Derived.Test.YtdiahlfhcbcceaaChainC
import Derived.Test.YtdiahlfhcbcceaaPx28
namespace Go.Proofs.Ytdiahlfhcbcceaa.Pure
open Go.RowKit Go.Proofs.Ytdiahlfhcbcceaa.P

section
variable {l : List S27} {ts b : Int} {pre pre' : List S27} {x x' y : S27} {post post' : List S27}
/-- How the places that two timestamps see lie to each other. -/
theorem parts_cmp (hp : Parts l ts pre x post) (hq : Parts l b pre' x' post') : (pre' = pre ∧ x' = x ∧ post' = post) ∨ (∃ mid, pre' = pre ++ x :: mid ∧ post = mid ++ x' :: post') ∨ (∃ mid, pre = pre' ++ x' :: mid ∧ post' = mid ++ x :: post) := by
  have h := hp.eq.symm.trans hq.eq
  rcases List.append_eq_append_iff.1 h with ⟨us, h1, h2⟩ | ⟨bs, h1, h2⟩
  · cases us with
    | nil =>
      injection h2 with h3 h4
      exact .inl ⟨by rw [h1, List.append_nil], h3.symm, h4.symm⟩
    | cons a mid =>
      injection h2 with h3 h4
      subst h3
      exact .inr (.inl ⟨mid, h1, h4⟩)
  · cases bs with
    | nil =>
      injection h2 with h3 h4
      exact .inl ⟨by rw [h1, List.append_nil], h3, h4⟩
    | cons a mid =>
      injection h2 with h3 h4
      subst h3
      exact .inr (.inr ⟨mid, h1, h4⟩)

theorem Parts.replace (hp : Parts l ts pre x post) (hq : Parts l b pre' x' post') (hy : y.f0 = x'.f0) :
    (x' = x ∧ Parts (pre' ++ y :: post') ts pre y post) ∨ (x'.f0 ≠ x.f0 ∧ ∃ pre2 post2, Parts (pre' ++ y :: post') ts pre2 x post2) := by
  have hat := hp.at_
  rcases parts_cmp hp hq with ⟨rfl, rfl, rfl⟩ | ⟨mid, rfl, rfl⟩ | ⟨mid, rfl, rfl⟩
  · exact .inl ⟨rfl, rfl, by rw [hy]; exact hp.pre, by rw [hy]; exact hat, hp.post⟩
  · have hx' := hp.post x' (by simp)
    refine .inr ⟨by omega, pre, mid ++ y :: post', by simp, hp.pre, hat, fun z hz => ?_⟩
    rcases List.mem_append.1 hz with hz | hz
    · exact hp.post z (by simp [hz])
    · rcases List.mem_cons.1 hz with rfl | hz
      · omega
      · exact hp.post z (by simp [hz])
  · have hx' := hp.pre x' (by simp)
    refine .inr ⟨by omega, pre' ++ y :: mid, post, by simp, fun z hz => ?_, hat, hp.post⟩
    rcases List.mem_append.1 hz with hz | hz
    · exact hp.pre z (by simp [hz])
    · rcases List.mem_cons.1 hz with rfl | hz
      · omega
      · exact hp.pre z (by simp [hz])

/-- Who is seen at ts: by whom it was written, what it has, whether it is committed at least (D); somebody at ts has read it. -/
def Seen (l : List S27) (ts T : Int) (V : ByteArray) (D : Bool) : Prop := ∃ pre x post, Parts l ts pre x post ∧ x.f0 = T ∧ x.f2 = V ∧ (D = true → x.f3 = true) ∧ ts ≤ x.f1

theorem Did.keeps {l' : List S27} {a : Int} {v : ByteArray} {T : Int} {V : ByteArray} {D : Bool} (h : Did l a b v l') (hS : Seen l ts T V D)
    (h1 : ¬ (b = ts ∧ a = 2)) (h2 : ¬ (b = T ∧ a = 2)) (h3 : ¬ (b = T ∧ a = 4 ∧ D = false)) : Seen l' ts T V D := by
  obtain ⟨pre, x, post, hp, hT, hV, hD, hr⟩ := hS
  have hat := hp.at_
  cases h with
  | same => exact ⟨pre, x, post, hp, hT, hV, hD, hr⟩
  | @read pre' x' post' ha hq =>
    rcases hp.replace hq (y := readAt x' b) rfl with ⟨rfl, hn⟩ | ⟨_, pre2, post2, hn⟩
    · exact ⟨_, _, _, hn, hT, hV, hD, by have := (readAt_f1 x' b).1; omega⟩
    · exact ⟨_, _, _, hn, hT, hV, hD, hr⟩
  | @put pre' x' post' ha hq h0 =>
    rcases hp.replace hq (y := valAt x' v) rfl with ⟨rfl, hn⟩ | ⟨_, pre2, post2, hn⟩
    · exact absurd ⟨by omega, ha⟩ h2
    · exact ⟨_, _, _, hn, hT, hV, hD, hr⟩
  | @commit pre' x' post' ha hq h0 =>
    rcases hp.replace hq (y := doneAt x') rfl with ⟨rfl, hn⟩ | ⟨_, pre2, post2, hn⟩
    · exact ⟨_, _, _, hn, hT, hV, fun _ => rfl, hr⟩
    · exact ⟨_, _, _, hn, hT, hV, hD, hr⟩
  | @ins pre' x' post' ha hq hx1 hx0 =>
    rcases parts_cmp hp hq with ⟨rfl, rfl, rfl⟩ | ⟨mid, rfl, rfl⟩ | ⟨mid, rfl, rfl⟩
    · have hb : ts < b := by
        have : b ≠ ts := fun e => h1 ⟨e, ha⟩
        omega
      refine ⟨_, _, _, ⟨rfl, hp.pre, hat, fun z hz => ?_⟩, hT, hV, hD, hr⟩
      rcases List.mem_cons.1 hz with rfl | hz
      · exact hb
      · exact hp.post z hz
    · have hx' := hp.post x' (by simp)
      refine ⟨pre, x, mid ++ x' :: ⟨b, b, v, false⟩ :: post', ⟨by simp, hp.pre, hat, fun z hz => ?_⟩, hT, hV, hD, hr⟩
      rcases List.mem_append.1 hz with hz | hz
      · exact hp.post z (by simp [hz])
      · rcases List.mem_cons.1 hz with rfl | hz
        · exact hx'
        · rcases List.mem_cons.1 hz with rfl | hz
          · show ts < b
            omega
          · exact hp.post z (by simp [hz])
    · have hx := hq.post x (by simp)
      have hx' := hp.pre x' (by simp)
      refine ⟨pre' ++ x' :: ⟨b, b, v, false⟩ :: mid, x, post, ⟨by simp, fun z hz => ?_, hat, hp.post⟩, hT, hV, hD, hr⟩
      rcases List.mem_append.1 hz with hz | hz
      · exact hp.pre z (by simp [hz])
      · rcases List.mem_cons.1 hz with rfl | hz
        · exact hx'
        · rcases List.mem_cons.1 hz with rfl | hz
          · exact hx
          · exact hp.pre z (by simp [hz])
  | @abort pre' x' post' ha hq h0 hx3 =>
    rcases parts_cmp hp hq with ⟨rfl, rfl, rfl⟩ | ⟨mid, rfl, rfl⟩ | ⟨mid, rfl, rfl⟩
    · refine absurd ⟨by omega, ha, ?_⟩ h3
      cases hDD : D with
      | false => rfl
      | true => have := hD hDD; rw [hx3] at this; cases this
    · refine ⟨pre, x, mid ++ post', ⟨by simp, hp.pre, hat, fun z hz => ?_⟩, hT, hV, hD, hr⟩
      rcases List.mem_append.1 hz with hz | hz
      · exact hp.post z (by simp [hz])
      · exact hp.post z (by simp [hz])
    · refine ⟨pre' ++ mid, x, post, ⟨by simp, fun z hz => ?_, hat, hp.post⟩, hT, hV, hD, hr⟩
      rcases List.mem_append.1 hz with hz | hz
      · exact hp.pre z (by simp [hz])
      · exact hp.pre z (by simp [hz])
end

theorem stays_loop (ds : List S51) (ts T R : Int) (V : ByteArray) (D : Bool) : ∀ (d i : Nat) (l : List S27) (k : Nat), 60 - i = d → i ≤ 60 → Inv l → l.length ≤ i + 61 → Seen l ts T V D → 3 * d + 300 < k → ogivelaw10_ChainStays.l0 k ds ts true l (i : Int) T R V D = some true := by
  intro d
  induction d with
  | zero =>
    intro i l k hd hi hI hl hS hk
    obtain ⟨k, rfl⟩ : ∃ q, k = q + 2 := ⟨k - 2, by omega⟩
    simp only [ogivelaw10_ChainStays.l0]
    rw [decide_eq_false (by omega : ¬ (i : Int) < 60)]
    simp [ogivelaw10_ChainStays.j1]
  | succ d ih =>
    intro i l k hd hi hI hl hS hk
    obtain ⟨k, rfl⟩ : ∃ q, k = q + 3 := ⟨k - 3, by omega⟩
    simp only [ogivelaw10_ChainStays.l0]
    by_cases c : (i : Int) < (ds.length : Int)
    · have e1 : wrap64 ((i : Int) + 1) = ((i + 1 : Nat) : Int) := by unfold wrap64; omega
      rw [if_pos c, decide_eq_true (by omega : (i : Int) < 60)]
      simp only [ogivelaw10_ChainStays.j1]
      rw [if_pos trivial, if_pos (by omega), if_pos c]
      obtain ⟨q, hq⟩ : ∃ q, rd_T51 ds (i : Int) = q := ⟨_, rfl⟩
      rw [hq]
      have yes : ogivelaw10_ChainStays.j2 (k + 1) ds ts true l (i : Int) true T R V D = some true := by
        simp only [ogivelaw10_ChainStays.j2]
        rw [if_pos trivial, e1]
        exact ih (i + 1) l k (by omega) (by omega) hI (by omega) hS (by omega)
      have no : ¬ (q.f1 = ts ∧ q.f0 = 2) → ¬ (q.f1 = T ∧ q.f0 = 2) → ¬ (q.f1 = T ∧ q.f0 = 4 ∧ D = false) → ogivelaw10_ChainStays.j2 (k + 1) ds ts true l (i : Int) false T R V D = some true := by
        intro n1 n2 n3
        obtain ⟨l1, h1, hD⟩ := do_did hI (by omega) q.f0 q.f1 q.f2
        have hlen := hD.len
        have hI1 := hD.inv hI
        have hS1 := hD.keeps hS n1 n2 n3
        obtain ⟨pre, x, post, hp, hT, hV, hD3, hr⟩ := id hS1
        simp only [ogivelaw10_ChainStays.j2]
        rw [if_neg (by simp), if_pos (by omega), if_pos c, hq, h1 k (by omega)]
        simp only [Option.bind_some]
        rw [read_tells hp hI1.good (by omega) k (by omega)]
        simp only [Option.bind_some]
        rw [if_pos hT, hV, if_pos (rfl : V.toList = V.toList), e1]
        exact ih (i + 1) l1 k (by omega) (by omega) hI1 (by omega) hS1 (by omega)
      by_cases c1 : q.f1 = ts
      · rw [if_pos c1]
        by_cases c2 : q.f0 = 2
        · rw [if_pos c2]; exact yes
        · rw [if_neg c2]
          have b2 : (q.f0 == 2) = false := by simpa using c2
          rw [b2]
          by_cases c3 : q.f1 = T
          · rw [if_pos c3]
            by_cases c4 : q.f0 = 4
            · rw [if_pos c4]
              cases D with
              | true => rw [if_pos rfl]; exact no (by simp [c2]) (by simp [c2]) (by simp)
              | false => rw [if_neg (by decide)]; exact yes
            · rw [if_neg c4]; exact no (by simp [c2]) (by simp [c2]) (by simp [c4])
          · rw [if_neg c3]; exact no (by simp [c2]) (by simp [c2]) (by simp [c3])
      · rw [if_neg c1]
        by_cases c3 : q.f1 = T
        · rw [if_pos c3]
          by_cases c2 : q.f0 = 2
          · have b2 : (q.f0 == 2) = true := by simpa using c2
            rw [b2, if_neg (by omega)]; exact yes
          · have b2 : (q.f0 == 2) = false := by simpa using c2
            rw [b2]
            by_cases c4 : q.f0 = 4
            · rw [if_pos c4]
              cases D with
              | true => rw [if_pos rfl]; exact no (by simp [c2]) (by simp [c2]) (by simp)
              | false => rw [if_neg (by decide)]; exact yes
            · rw [if_neg c4]; exact no (by simp [c2]) (by simp [c2]) (by simp [c4])
        · rw [if_neg c3]; exact no (by simp [c1]) (by simp [c3]) (by simp [c3])
    · rw [if_neg c]
      simp [ogivelaw10_ChainStays.j1]

theorem ChainStays (l0 l1 : List S51) (a2 : Int) (_ : ∀ x ∈ l0, True) (_ : ∀ x ∈ l1, True) (_ : (Lit.int .i64 a2).wf = true) : ∃ k, ogivelaw10_ChainStays.f k l0 l1 a2 = some true := by
  refine ⟨1000, ?_⟩
  unfold ogivelaw10_ChainStays.f
  rw [awake_tells 1000 (by omega)]
  simp only [Option.bind_some]
  by_cases c : a2 < 1
  · rw [if_pos c]
  · rw [if_neg c]
    obtain ⟨l, h, hI, hl⟩ := run_tells l0
    obtain ⟨pre, x, post, hp⟩ := hI.parts (show 0 ≤ a2 by omega)
    rw [h 1000 (by omega)]
    simp only [Option.bind_some]
    rw [read_tells hp hI.good (by omega) 1000 (by omega)]
    simp only [Option.bind_some]
    have hD : Did l 1 a2 ⟨#[]⟩ (pre ++ readAt x a2 :: post) := .read rfl hp
    have hlen : (pre ++ readAt x a2 :: post).length ≤ 61 := by rw [len_mid]; have := len_mid pre x post; rw [← hp.eq] at this; omega
    exact stays_loop l1 a2 x.f0 (readAt x a2).f1 x.f2 x.f3 60 0 (pre ++ readAt x a2 :: post) 1000 (by omega) (by omega) (hD.inv hI) (by omega) ⟨pre, readAt x a2, post, ⟨rfl, hp.pre, hp.at_, hp.post⟩, rfl, rfl, id, (readAt_f1 x a2).2⟩ (by omega)
end Go.Proofs.Ytdiahlfhcbcceaa.Pure
