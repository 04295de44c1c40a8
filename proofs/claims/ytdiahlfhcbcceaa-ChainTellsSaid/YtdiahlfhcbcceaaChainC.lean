/- Chains as lists: a deed, and deeds. -/
import Derived.Test.YtdiahlfhcbcceaaChainB
import Derived.Test.YtdiahlfhcbcceaaPx10
import Derived.Test.YtdiahlfhcbcceaaPx25
import Derived.Test.YtdiahlfhcbcceaaPx27
namespace Go.Proofs.Ytdiahlfhcbcceaa.Pure
open Go.RowKit Go.Proofs.Ytdiahlfhcbcceaa.P Go.Proofs.YtdiahlfhcbcceaaW.PrintWords Go.Proofs.YtdiahlfhcbcceaaW.PrintLast Go.Proofs.YtdiahlfhcbcceaaW.PrintMore

/-- A chain behind a deed. -/
inductive Did (l : List S27) (a b : Int) (v : ByteArray) : List S27 → Prop
  | same : Did l a b v l
  | read {pre : List S27} {x : S27} {post : List S27} (ha : a = 1) (hp : Parts l b pre x post) : Did l a b v (pre ++ readAt x b :: post)
  | ins {pre : List S27} {x : S27} {post : List S27} (ha : a = 2) (hp : Parts l b pre x post) (h1 : x.f1 ≤ b) (h0 : x.f0 < b) : Did l a b v (pre ++ x :: ⟨b, b, v, false⟩ :: post)
  | put {pre : List S27} {x : S27} {post : List S27} (ha : a = 2) (hp : Parts l b pre x post) (h0 : x.f0 = b) : Did l a b v (pre ++ valAt x v :: post)
  | commit {pre : List S27} {x : S27} {post : List S27} (ha : a = 3) (hp : Parts l b pre x post) (h0 : x.f0 = b) : Did l a b v (pre ++ doneAt x :: post)
  | abort {pre : List S27} {x : S27} {post : List S27} (ha : a = 4) (hp : Parts l b pre x post) (h0 : x.f0 = b) (h3 : x.f3 = false) : Did l a b v (pre ++ post)

theorem do_did {l : List S27} (hI : Inv l) (hl : l.length ≤ 1000) (a b : Int) (v : ByteArray) : ∃ l', (∀ k, l.length < k → ogivelaw10_do.f k l a b v = some l') ∧ Did l a b v l' := by
  by_cases hb : b < 0
  · refine ⟨l, fun k hk => ?_, .same⟩
    obtain ⟨h1, h2, _, h4, h5⟩ := none_tells (hI.look_neg hb hl k hk) v
    unfold ogivelaw10_do.f
    rw [h1, h2, h4, h5]
    simp only [Option.bind_some]
    repeat' split
    all_goals rfl
  · obtain ⟨pre, x, post, hp⟩ := hI.parts (show 0 ≤ b by omega)
    have hat := hp.at_
    by_cases h1 : a = 1
    · refine ⟨_, fun k hk => ?_, .read h1 hp⟩
      unfold ogivelaw10_do.f
      rw [if_pos h1, read_tells hp hI.good hl k hk]
      rfl
    · by_cases h2 : a = 2
      · have hw : ∀ k, l.length < k → ogivelaw10_do.f k l a b v = some (if x.f1 > b then l else if x.f0 < b then pre ++ x :: ⟨b, b, v, false⟩ :: post else if x.f3 = true then l else pre ++ valAt x v :: post) := by
          intro k hk
          unfold ogivelaw10_do.f
          rw [if_neg h1, if_pos h2, write_tells hp hI.good hl v k hk]
          simp only [Option.bind_some]
          repeat' split
          all_goals rfl
        refine ⟨_, hw, ?_⟩
        by_cases c1 : x.f1 > b
        · rw [if_pos c1]; exact .same
        · rw [if_neg c1]
          by_cases c2 : x.f0 < b
          · rw [if_pos c2]; exact .ins h2 hp (by omega) c2
          · rw [if_neg c2]
            by_cases c3 : x.f3 = true
            · rw [if_pos c3]; exact .same
            · rw [if_neg c3]; exact .put h2 hp (by omega)
      · by_cases h3 : a = 3
        · have hw : ∀ k, l.length < k → ogivelaw10_do.f k l a b v = some (if x.f0 = b then pre ++ doneAt x :: post else l) := by
            intro k hk
            unfold ogivelaw10_do.f
            rw [if_neg h1, if_neg h2, if_pos h3, commit_tells hp hI.good hl k hk]
            rfl
          refine ⟨_, hw, ?_⟩
          by_cases c : x.f0 = b
          · rw [if_pos c]; exact .commit h3 hp c
          · rw [if_neg c]; exact .same
        · by_cases h4 : a = 4
          · have hw : ∀ k, l.length < k → ogivelaw10_do.f k l a b v = some (if x.f0 = b ∧ x.f3 = false then pre ++ post else l) := by
              intro k hk
              unfold ogivelaw10_do.f
              rw [if_neg h1, if_neg h2, if_neg h3, if_pos h4, abort_tells hp hI.good hl k hk]
              rfl
            refine ⟨_, hw, ?_⟩
            by_cases c : x.f0 = b ∧ x.f3 = false
            · rw [if_pos c]; exact .abort h4 hp c.1 c.2
            · rw [if_neg c]; exact .same
          · refine ⟨l, fun k _ => ?_, .same⟩
            unfold ogivelaw10_do.f
            rw [if_neg h1, if_neg h2, if_neg h3, if_neg h4]

theorem Did.inv {l l' : List S27} {a b : Int} {v : ByteArray} (h : Did l a b v l') (hI : Inv l) : Inv l' := by
  cases h with
  | same => exact hI
  | read ha hp => rw [hp.eq] at hI; exact hI.replace rfl (readAt_f1 _ _).1 id
  | ins ha hp h1 h0 => rw [hp.eq] at hI; exact hI.insert h0 (Int.le_refl _) hp.post
  | put ha hp h0 => rw [hp.eq] at hI; exact hI.replace rfl (Int.le_refl _) id
  | commit ha hp h0 => rw [hp.eq] at hI; exact hI.replace rfl (Int.le_refl _) (fun _ => rfl)
  | abort ha hp h0 h3 => rw [hp.eq] at hI; exact hI.remove h3

theorem Did.len {l l' : List S27} {a b : Int} {v : ByteArray} (h : Did l a b v l') : l'.length ≤ l.length + 1 := by
  cases h with
  | same => omega
  | read ha hp => rw [hp.eq, len_mid, len_mid]; omega
  | ins ha hp h1 h0 => rw [hp.eq, len_mid, len_mid, List.length_cons]; omega
  | put ha hp h0 => rw [hp.eq, len_mid, len_mid]; omega
  | commit ha hp h0 => rw [hp.eq, len_mid, len_mid]; omega
  | abort ha hp h0 h3 => rw [hp.eq, len_mid, List.length_append]; omega

def fresh : List S27 := [⟨0, 0, ⟨#[]⟩, true⟩]
theorem fresh_is : chain_Fresh.f = some fresh := rfl
theorem fresh_inv : Inv fresh := by
  refine ⟨by unfold Sorted fresh; simp, ?_, ⟨_, _, rfl, rfl, rfl⟩⟩
  intro x hx
  obtain rfl : x = ⟨0, 0, ⟨#[]⟩, true⟩ := by simpa [fresh] using hx
  exact ⟨Int.le_refl _, Int.le_refl _⟩

theorem run_loop (ds : List S51) : ∀ (d : Nat) (i : Nat) (l : List S27), 60 - i = d → i ≤ 60 → Inv l → l.length ≤ i + 1 → ∃ l', (∀ k, d + 100 < k → ogivelaw10_run.l0 k ds l (i : Int) = some l') ∧ Inv l' ∧ l'.length ≤ 61 := by
  intro d
  induction d with
  | zero =>
    intro i l hd hi hI hl
    refine ⟨l, fun k hk => ?_, hI, by omega⟩
    obtain ⟨k, rfl⟩ : ∃ q, k = q + 1 := ⟨k - 1, by omega⟩
    simp only [ogivelaw10_run.l0]
    by_cases c : (i : Int) < (ds.length : Int)
    · rw [if_pos c, if_neg (by omega)]
    · rw [if_neg c]
  | succ d ih =>
    intro i l hd hi hI hl
    by_cases c : (i : Int) < (ds.length : Int)
    · obtain ⟨l1, h1, hD⟩ := do_did hI (by omega) (rd_T51 ds (i : Int)).f0 (rd_T51 ds (i : Int)).f1 (rd_T51 ds (i : Int)).f2
      have hlen := hD.len
      obtain ⟨l2, h2, hI2, hl2⟩ := ih (i + 1) l1 (by omega) (by omega) (hD.inv hI) (by omega)
      refine ⟨l2, fun k hk => ?_, hI2, hl2⟩
      obtain ⟨k, rfl⟩ : ∃ q, k = q + 1 := ⟨k - 1, by omega⟩
      have e1 : wrap64 ((i : Int) + 1) = ((i + 1 : Nat) : Int) := by unfold wrap64; omega
      simp only [ogivelaw10_run.l0]
      rw [if_pos c, if_pos (by omega), if_pos (by omega), h1 k (by omega), e1]
      exact h2 k (by omega)
    · refine ⟨l, fun k hk => ?_, hI, by omega⟩
      obtain ⟨k, rfl⟩ : ∃ q, k = q + 1 := ⟨k - 1, by omega⟩
      simp only [ogivelaw10_run.l0]
      rw [if_neg c]

theorem run_tells (ds : List S51) : ∃ l, (∀ k, 200 < k → ogivelaw10_run.f k ds = some l) ∧ Inv l ∧ l.length ≤ 61 := by
  obtain ⟨l, h, hI, hl⟩ := run_loop ds 60 0 fresh (by omega) (by omega) fresh_inv (by simp [fresh])
  refine ⟨l, fun k hk => ?_, hI, hl⟩
  unfold ogivelaw10_run.f
  rw [fresh_is]
  exact h k (by omega)

theorem awake_tells (k : Nat) (hk : 100 < k) : ogivelaw10_awake.f k = some true := by
  have p1 : Parts fresh 9 [] ⟨0, 0, ⟨#[]⟩, true⟩ [] := ⟨rfl, fun y hy => (by cases hy), by decide, fun y hy => (by cases hy)⟩
  have i1 : Inv (readAt ⟨0, 0, ⟨#[]⟩, true⟩ 9 :: []) := (Did.read (l := fresh) (v := ⟨#[]⟩) rfl p1).inv fresh_inv
  have r1 := read_tells p1 fresh_inv.good (by simp [fresh]) k (by simp [fresh]; omega)
  have p2 : Parts (readAt ⟨0, 0, ⟨#[]⟩, true⟩ 9 :: []) 5 [] (readAt ⟨0, 0, ⟨#[]⟩, true⟩ 9) [] := ⟨rfl, fun y hy => (by cases hy), by decide, fun y hy => (by cases hy)⟩
  have p3 : Parts (readAt ⟨0, 0, ⟨#[]⟩, true⟩ 9 :: []) 12 [] (readAt ⟨0, 0, ⟨#[]⟩, true⟩ 9) [] := ⟨rfl, fun y hy => (by cases hy), by decide, fun y hy => (by cases hy)⟩
  have w2 := write_tells p2 i1.good (by simp) ⟨#[120]⟩ k (by simp; omega)
  have w3 := write_tells p3 i1.good (by simp) ⟨#[121]⟩ k (by simp; omega)
  rw [if_pos (by decide)] at w2
  rw [if_neg (by decide), if_pos (by decide)] at w3
  have i3 : Inv (readAt ⟨0, 0, ⟨#[]⟩, true⟩ 9 :: ⟨12, 12, ⟨#[121]⟩, false⟩ :: []) := Inv.insert (pre := []) i1 (by decide) (by decide) (fun y hy => by cases hy)
  have p4 : Parts (readAt ⟨0, 0, ⟨#[]⟩, true⟩ 9 :: ⟨12, 12, ⟨#[121]⟩, false⟩ :: []) 11 [] (readAt ⟨0, 0, ⟨#[]⟩, true⟩ 9) [⟨12, 12, ⟨#[121]⟩, false⟩] := ⟨rfl, fun y hy => (by cases hy), by decide, fun y hy => by obtain rfl : y = _ := List.mem_singleton.1 hy; decide⟩
  have p5 : Parts (readAt ⟨0, 0, ⟨#[]⟩, true⟩ 9 :: ⟨12, 12, ⟨#[121]⟩, false⟩ :: []) 12 [readAt ⟨0, 0, ⟨#[]⟩, true⟩ 9] ⟨12, 12, ⟨#[121]⟩, false⟩ [] := ⟨rfl, fun y hy => by obtain rfl : y = _ := List.mem_singleton.1 hy; decide, by decide, fun y hy => (by cases hy)⟩
  have l4 := look_parts p4 i3.good (by simp) k (by simp; omega)
  have l5 := look_parts p5 i3.good (by simp) k (by simp; omega)
  have m5 := may_good i3.good (by simp) k (by simp; omega)
  unfold ogivelaw10_awake.f
  rw [fresh_is]
  simp only [Option.bind_some, List.nil_append] at r1 w2 w3 ⊢
  rw [r1]
  simp only [Option.bind_some]
  rw [w2, w3]
  simp only [Option.bind_some]
  rw [l4, l5, m5]
  simp
end Go.Proofs.Ytdiahlfhcbcceaa.Pure
