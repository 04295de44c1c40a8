/- What the document's functions of layer 12 tell, in plain lists. -/
import Derived.Test.YtjoafadhcdipnaaDrp
import Derived.Test.YtjoafadhcdipnaaDoc
namespace Go.Proofs.Ytjoafadhcdipnaa
open Go.RowKit T Go.Proofs.YtjoafadhcdipnaaW.PrintWords Go.Proofs.YtjoafadhcdipnaaW.PrintLast Go.Proofs.YtjoafadhcdipnaaW.PrintMore
set_option linter.unusedVariables false

theorem rd_get (l : List Int) (i : Nat) (h : i < l.length) : rd l (i : Int) = l[i] := by
  unfold rd
  rw [Int.toNat_natCast, List.getD_eq_getElem?_getD, List.getElem?_eq_getElem h, Option.getD_some]
theorem rd53 (x : List S53) (i : Nat) (h : i < x.length) : rd_T53 x (i : Int) = x[i] := by
  unfold rd_T53
  rw [Int.toNat_natCast, List.getD_eq_getElem?_getD, List.getElem?_eq_getElem h, Option.getD_some]
theorem wsucc {i n : Nat} (h : i < n) (hn : n ≤ 100000) : wrap64 ((i : Int) + 1) = ((i + 1 : Nat) : Int) := by unfold wrap64; omega

/-! in -/
theorem in_l0 (l : List Int) (a : Int) (hl : l.length ≤ 100000) : ∀ (k i : Nat), i ≤ l.length → l.length - i < k → ogiveref12_in.l0 k l a (i : Int) = some (decide (a ∈ l.drop i))
  | 0, i, _, h => by omega
  | k + 1, i, hi, h => by
    unfold ogiveref12_in.l0
    by_cases hlt : i < l.length
    · rw [if_pos (by omega), if_pos (by omega), wsucc hlt hl, rd_get l i hlt, List.drop_eq_getElem_cons hlt]
      by_cases he : l[i] = a
      · rw [if_pos he]; simp [he]
      · rw [if_neg he, in_l0 l a hl k (i + 1) hlt (by omega)]
        have : ¬ a = l[i] := fun e => he e.symm
        generalize l.drop (i + 1) = r
        simp [this]
    · rw [if_neg (by omega), List.drop_eq_nil_of_le (by omega)]; simp
theorem in_tells (l : List Int) (a : Int) (hl : l.length ≤ 100000) (k : Nat) (hk : l.length < k) : ogiveref12_in.f k l a = some (decide (a ∈ l)) := by
  have := in_l0 l a hl k 0 (Nat.zero_le _) (by omega)
  rw [List.drop_zero] at this
  exact this
theorem lin_l0 (l : List Int) (a : Int) (hl : l.length ≤ 100000) : ∀ (k i : Nat), i ≤ l.length → l.length - i < k → ogivelaw12_in.l0 k l a (i : Int) = some (decide (a ∈ l.drop i))
  | 0, i, _, h => by omega
  | k + 1, i, hi, h => by
    unfold ogivelaw12_in.l0
    by_cases hlt : i < l.length
    · rw [if_pos (by omega), if_pos (by omega), wsucc hlt hl, rd_get l i hlt, List.drop_eq_getElem_cons hlt]
      by_cases he : l[i] = a
      · rw [if_pos he]; simp [he]
      · rw [if_neg he, lin_l0 l a hl k (i + 1) hlt (by omega)]
        have : ¬ a = l[i] := fun e => he e.symm
        generalize l.drop (i + 1) = r
        simp [this]
    · rw [if_neg (by omega), List.drop_eq_nil_of_le (by omega)]; simp
theorem lin_tells (l : List Int) (a : Int) (hl : l.length ≤ 100000) (k : Nat) (hk : l.length < k) : ogivelaw12_in.f k l a = some (decide (a ∈ l)) := by
  have := lin_l0 l a hl k 0 (Nat.zero_le _) (by omega)
  rw [List.drop_zero] at this
  exact this

/-! Same -/
theorem same_l0 (l : List Int) (hl : l.length ≤ 100000) : ∀ (k i : Nat), i ≤ l.length → l.length - i < k → ogiveref09_Same.l0 k l l (i : Int) = some true
  | 0, i, _, h => by omega
  | k + 1, i, hi, h => by
    unfold ogiveref09_Same.l0
    by_cases hlt : i < l.length
    · rw [if_pos (by omega), if_pos (by omega), if_pos (by omega), if_pos rfl, wsucc hlt hl]
      exact same_l0 l hl k (i + 1) hlt (by omega)
    · rw [if_neg (by omega)]
theorem same_tells (l : List Int) (hl : l.length ≤ 100000) (k : Nat) (hk : l.length < k) : ogiveref12_Same.f k l l = some true := by
  unfold ogiveref12_Same.f ogiveref09_Same.f
  have := same_l0 l hl k 0 (Nat.zero_le _) (by omega)
  rw [show ((0 : Nat) : Int) = 0 from rfl] at this
  rw [if_pos rfl, this]
  rfl
theorem same_some (l l' : List Int) (hl : l.length ≤ 100000) : ∀ (k i : Nat), i ≤ l.length → l.length = l'.length → l.length - i < k → ∃ r, ogiveref09_Same.l0 k l l' (i : Int) = some r
  | 0, i, _, _, h => by omega
  | k + 1, i, hi, he, h => by
    unfold ogiveref09_Same.l0
    by_cases hlt : i < l.length
    · rw [if_pos (by omega), if_pos (by omega), if_pos (by omega), wsucc hlt hl]
      split
      · exact same_some l l' hl k (i + 1) hlt he (by omega)
      · exact ⟨_, rfl⟩
    · rw [if_neg (by omega)]
      exact ⟨_, rfl⟩
theorem same_any (l l' : List Int) (hl : l.length ≤ 100000) (k : Nat) (hk : l.length < k) : ∃ r, ogiveref12_Same.f k l l' = some r := by
  unfold ogiveref12_Same.f ogiveref09_Same.f
  by_cases h : l.length = l'.length
  · rw [if_pos (by omega)]
    obtain ⟨r, hr⟩ := same_some l l' hl k 0 (Nat.zero_le _) h (by omega)
    exact ⟨r, by rw [show ((0 : Nat) : Int) = 0 from rfl] at hr; rw [hr]; rfl⟩
  · rw [if_neg (by omega)]
    exact ⟨false, rfl⟩

/-! put -/
theorem ins_split (a : Int) : ∀ (pre post : List Int), (∀ x ∈ pre, x < a) → (∀ x, post.head? = some x → a < x) → ins a (pre ++ post) = pre ++ a :: post
  | [], [], _, _ => rfl
  | [], b :: r, _, h => by
    show ins a (b :: r) = a :: b :: r
    unfold ins
    rw [if_pos (h b rfl)]
  | b :: r, post, h, h2 => by
    have hb := h b List.mem_cons_self
    rw [List.cons_append, List.cons_append]
    unfold ins
    rw [if_neg (by omega), if_neg (by omega), ins_split a r post (fun x hx => h x (List.mem_cons_of_mem _ hx)) h2]

theorem put_l0 (l : List Int) (a : Int) (hl : l.length ≤ 100000) (ha : ¬ a ∈ l) : ∀ (k i : Nat), i ≤ l.length → l.length - i < k → (∀ x ∈ l.take i, x < a) → ogiveref12_put.l0 k l a (i : Int) = some (ins a l)
  | 0, i, _, h, _ => by omega
  | k + 1, i, hi, h, hp => by
    have key : (∀ x, (l.drop i).head? = some x → a < x) → l.take i ++ [a] ++ l.drop i = ins a l := fun hh => by
      have := ins_split a (l.take i) (l.drop i) hp hh
      rw [List.take_append_drop] at this
      rw [this]
      simp
    unfold ogiveref12_put.l0
    have hlen : (l.take i).length = i := by rw [List.length_take]; omega
    have hlen2 : (l.drop i).length = l.length - i := List.length_drop
    by_cases hlt : i < l.length
    · rw [if_pos (by omega), if_pos (by omega), rd_get l i hlt]
      by_cases hc : l[i] < a
      · rw [if_pos hc, wsucc hlt hl]
        refine put_l0 l a hl ha k (i + 1) hlt (by omega) fun x hx => ?_
        rw [List.take_succ_eq_append_getElem hlt] at hx
        rcases List.mem_append.1 hx with hx | hx
        · exact hp x hx
        · rw [List.mem_singleton.1 hx]; exact hc
      · rw [if_neg hc]
        simp only [Option.bind_some, Int.toNat_natCast, List.nil_append, List.length_nil, Nat.zero_add, hlen]
        rw [if_pos (by omega), if_pos (by omega), if_pos (by omega), if_pos (by simp [hlen2]; omega), key]
        intro x hx
        rw [List.drop_eq_getElem_cons hlt] at hx
        have hx' : l[i] = x := by
          have h2 : some l[i] = some x := hx
          injection h2
        have hm : l[i] ∈ l := List.getElem_mem _
        have hne : a ≠ l[i] := fun e => ha (e ▸ hm)
        omega
    · rw [if_neg (by omega)]
      simp only [Option.bind_some, Int.toNat_natCast, List.nil_append, List.length_nil, Nat.zero_add, hlen]
      rw [if_pos (by omega), if_pos (by omega), if_pos (by omega), if_pos (by omega), if_pos (by simp [hlen2]; omega), key]
      intro x hx
      rw [List.drop_eq_nil_of_le (by omega)] at hx
      cases hx
theorem put_tells (l : List Int) (a : Int) (hr : Rising l) (hl : l.length ≤ 100000) (k : Nat) (hk : l.length < k) : ogiveref12_put.f k l a = some (ins a l) := by
  unfold ogiveref12_put.f
  rw [in_tells l a hl k hk]
  by_cases h : a ∈ l
  · simp only [Option.bind_some, decide_eq_true h, if_pos]
    rw [ins_mem hr h]
  · simp only [Option.bind_some, decide_eq_false h]
    rw [if_neg (by simp)]
    exact put_l0 l a hl h k 0 (Nat.zero_le _) (by omega) (by simp)

/-! All, Waits -/
def allX (x : List S53) : List Int := x.foldl (fun l p => ins p.f0 l) []
def waitsX (x : List S53) (of_ : Int) : List Int := x.foldl (fun l p => if p.f0 = of_ then ins p.f1 l else l) []

theorem allfold (x : List S53) : ∀ l : List Int, Rising l → Rising (x.foldl (fun l p => ins p.f0 l) l) ∧ ∀ y, y ∈ x.foldl (fun l p => ins p.f0 l) l ↔ y ∈ l ∨ ∃ p ∈ x, p.f0 = y := by
  induction x with
  | nil => intro l h; exact ⟨h, fun y => by simp⟩
  | cons p r ih =>
    intro l h
    obtain ⟨h1, h2⟩ := ih (ins p.f0 l) (rising_ins h)
    refine ⟨h1, fun y => ?_⟩
    rw [List.foldl_cons, h2, mem_ins]
    constructor
    · rintro ((rfl | h) | ⟨q, hq, e⟩)
      · exact .inr ⟨p, List.mem_cons_self, rfl⟩
      · exact .inl h
      · exact .inr ⟨q, List.mem_cons_of_mem _ hq, e⟩
    · rintro (h | ⟨q, hq, e⟩)
      · exact .inl (.inr h)
      · rcases List.mem_cons.1 hq with rfl | hq
        · exact .inl (.inl e.symm)
        · exact .inr ⟨q, hq, e⟩
theorem waitsfold (x : List S53) (of_ : Int) : ∀ l : List Int, Rising l → Rising (x.foldl (fun l p => if p.f0 = of_ then ins p.f1 l else l) l) ∧ ∀ y, y ∈ x.foldl (fun l p => if p.f0 = of_ then ins p.f1 l else l) l ↔ y ∈ l ∨ ∃ p ∈ x, p.f0 = of_ ∧ p.f1 = y := by
  induction x with
  | nil => intro l h; exact ⟨h, fun y => by simp⟩
  | cons p r ih =>
    intro l h
    rw [List.foldl_cons]
    by_cases c : p.f0 = of_
    · rw [if_pos c]
      obtain ⟨h1, h2⟩ := ih (ins p.f1 l) (rising_ins h)
      refine ⟨h1, fun y => ?_⟩
      rw [h2, mem_ins]
      constructor
      · rintro ((rfl | h) | ⟨q, hq, e⟩)
        · exact .inr ⟨p, List.mem_cons_self, c, rfl⟩
        · exact .inl h
        · exact .inr ⟨q, List.mem_cons_of_mem _ hq, e⟩
      · rintro (h | ⟨q, hq, e⟩)
        · exact .inl (.inr h)
        · rcases List.mem_cons.1 hq with rfl | hq
          · exact .inl (.inl e.2.symm)
          · exact .inr ⟨q, hq, e⟩
    · rw [if_neg c]
      obtain ⟨h1, h2⟩ := ih l h
      refine ⟨h1, fun y => ?_⟩
      rw [h2]
      constructor
      · rintro (h | ⟨q, hq, e⟩)
        · exact .inl h
        · exact .inr ⟨q, List.mem_cons_of_mem _ hq, e⟩
      · rintro (h | ⟨q, hq, e⟩)
        · exact .inl h
        · rcases List.mem_cons.1 hq with rfl | hq
          · exact absurd e.1 c
          · exact .inr ⟨q, hq, e⟩
theorem allfold_len (x : List S53) : ∀ l : List Int, (x.foldl (fun l p => ins p.f0 l) l).length ≤ l.length + x.length := by
  induction x with
  | nil => simp
  | cons p r ih =>
    intro l
    have h1 := ih (ins p.f0 l)
    have h2 := length_ins p.f0 l
    rw [List.foldl_cons, List.length_cons]
    omega

theorem all_l0 (x : List S53) (hx : x.length ≤ 1000) : ∀ (k i : Nat) (l : List Int), i ≤ x.length → (x.length - i) + 1003 < k → Rising l → l.length ≤ i → ogiveref12_All.l0 k x l (i : Int) = some ((x.drop i).foldl (fun l p => ins p.f0 l) l)
  | 0, i, l, _, h, _, _ => by omega
  | k + 1, i, l, hi, h, hr, hl => by
    unfold ogiveref12_All.l0
    by_cases hlt : i < x.length
    · rw [if_pos (by omega), if_pos (by omega), rd53 x i hlt, put_tells l _ hr (by omega) k (by omega), List.drop_eq_getElem_cons hlt, List.foldl_cons]
      simp only [Option.bind_some]
      rw [wsucc hlt (by omega)]
      exact all_l0 x hx k (i + 1) _ hlt (by omega) (rising_ins hr) (by have := length_ins x[i].f0 l; omega)
    · rw [if_neg (by omega), List.drop_eq_nil_of_le (by omega)]; rfl
theorem all_tells (x : List S53) (hx : x.length ≤ 1000) (k : Nat) (hk : 3000 ≤ k) : ogiveref12_All.f k x = some (allX x) := by
  have := all_l0 x hx k 0 [] (Nat.zero_le _) (by omega) (by unfold Rising; simp) (Nat.le_refl _)
  rw [List.drop_zero] at this
  exact this
theorem waits_l0 (x : List S53) (of_ : Int) (hx : x.length ≤ 1000) : ∀ (k i : Nat) (l : List Int), i ≤ x.length → (x.length - i) + 1003 < k → Rising l → l.length ≤ i → ogiveref12_Waits.l0 k x of_ l (i : Int) = some ((x.drop i).foldl (fun l p => if p.f0 = of_ then ins p.f1 l else l) l)
  | 0, i, l, _, h, _, _ => by omega
  | k + 1, i, l, hi, h, hr, hl => by
    unfold ogiveref12_Waits.l0
    by_cases hlt : i < x.length
    · rw [if_pos (by omega), if_pos (by omega), rd53 x i hlt, List.drop_eq_getElem_cons hlt, List.foldl_cons, wsucc hlt (by omega)]
      by_cases c : x[i].f0 = of_
      · rw [if_pos c, if_pos c, put_tells l _ hr (by omega) k (by omega)]
        simp only [Option.bind_some]
        exact waits_l0 x of_ hx k (i + 1) _ hlt (by omega) (rising_ins hr) (by have := length_ins x[i].f1 l; omega)
      · rw [if_neg c, if_neg c]
        exact waits_l0 x of_ hx k (i + 1) _ hlt (by omega) hr (by omega)
    · rw [if_neg (by omega), List.drop_eq_nil_of_le (by omega)]; rfl
theorem waits_tells (x : List S53) (of_ : Int) (hx : x.length ≤ 1000) (k : Nat) (hk : 3000 ≤ k) : ogiveref12_Waits.f k x of_ = some (waitsX x of_) := by
  have := waits_l0 x of_ hx k 0 [] (Nat.zero_le _) (by omega) (by unfold Rising; simp) (Nat.le_refl _)
  rw [List.drop_zero] at this
  exact this

/-! Add -/
def addX (x : List S53) (of_ on_ : Int) : List S53 := if on_ < 1 ∨ on_ ≥ of_ then x else if x.any (fun p => decide (p.f0 = of_ ∧ p.f1 = on_)) = true then x else x ++ [⟨of_, on_⟩]
theorem add_l0 (x : List S53) (of_ on_ : Int) (hx : x.length ≤ 1000) : ∀ (k i : Nat), i ≤ x.length → x.length - i < k → ogiveref12_Add.l0 k x of_ on_ (i : Int) = some (if (x.drop i).any (fun p => decide (p.f0 = of_ ∧ p.f1 = on_)) = true then x else x ++ [⟨of_, on_⟩], true)
  | 0, i, _, h => by omega
  | k + 1, i, hi, h => by
    unfold ogiveref12_Add.l0
    by_cases hlt : i < x.length
    · rw [if_pos (by omega), if_pos (by omega), rd53 x i hlt, List.drop_eq_getElem_cons hlt, List.any_cons, wsucc hlt (by omega)]
      by_cases c : x[i].f0 = of_
      · rw [if_pos c]
        by_cases c2 : x[i].f1 = on_
        · rw [if_pos c2, if_pos (by simp [c, c2])]
        · rw [if_neg c2, add_l0 x of_ on_ hx k (i + 1) hlt (by omega)]
          simp only [c2, and_false, decide_false, Bool.false_or]
      · rw [if_neg c, add_l0 x of_ on_ hx k (i + 1) hlt (by omega)]
        simp only [c, false_and, decide_false, Bool.false_or]
    · rw [if_neg (by omega), List.drop_eq_nil_of_le (by omega)]
      simp only [Option.bind_some, List.nil_append, List.length_nil, Nat.zero_add]
      rw [if_pos (by omega), if_pos (by omega), if_neg (by simp)]
theorem add_j0 (k : Nat) (x : List S53) (of_ on_ : Int) (b : Bool) : ogiveref12_Add.j0 (k + 1) x of_ on_ b = if b = true then some (x, false) else ogiveref12_Add.l0 k x of_ on_ 0 := by
  rw [ogiveref12_Add.j0]
theorem add_tells (x : List S53) (of_ on_ : Int) (hx : x.length ≤ 1000) (k : Nat) (hk : 1003 ≤ k) : ogiveref12_Add.f k x of_ on_ = some (addX x of_ on_, decide (1 ≤ on_ ∧ on_ < of_)) := by
  unfold ogiveref12_Add.f addX
  obtain ⟨k', rfl⟩ : ∃ k', k = k' + 1 := ⟨k - 1, by omega⟩
  rw [add_j0, add_j0]
  by_cases c1 : on_ < 1
  · rw [if_pos c1, if_pos rfl, if_pos (show on_ < 1 ∨ on_ ≥ of_ from .inl c1), decide_eq_false (by omega)]
  · rw [if_neg c1]
    by_cases c2 : on_ ≥ of_
    · rw [if_pos (decide_eq_true c2), if_pos (.inr c2), decide_eq_false (by omega)]
    · have := add_l0 x of_ on_ hx k' 0 (Nat.zero_le _) (by omega)
      rw [List.drop_zero] at this
      rw [decide_eq_false c2, if_neg (by simp), if_neg (by omega), decide_eq_true (show 1 ≤ on_ ∧ on_ < of_ by omega)]
      exact this

/-! Without -/
def withoutX (x : List S53) (l : List Int) : List S53 := x.filter fun p => decide (¬ p.f0 ∈ l ∧ ¬ p.f1 ∈ l)
theorem without_l0 (x : List S53) (l : List Int) (hx : x.length ≤ 1000) (hl : l.length ≤ 2000) : ∀ (k i : Nat) (out : List S53), i ≤ x.length → (x.length - i) + 2003 < k → out.length ≤ i → ogiveref12_Without.l0 k x l out (i : Int) = some (out ++ withoutX (x.drop i) l)
  | 0, i, _, _, h, _ => by omega
  | k + 1, i, out, hi, h, ho => by
    unfold ogiveref12_Without.l0
    by_cases hlt : i < x.length
    · rw [if_pos (by omega), if_pos (by omega), rd53 x i hlt, List.drop_eq_getElem_cons hlt, wsucc hlt (by omega), in_tells l _ (by omega) k (by omega), in_tells l _ (by omega) k (by omega)]
      simp only [Option.bind_some]
      unfold withoutX
      by_cases c1 : x[i].f0 ∈ l
      · rw [if_pos (decide_eq_true c1), List.filter_cons_of_neg (by simp [c1])]
        exact without_l0 x l hx hl k (i + 1) out hlt (by omega) (by omega)
      · rw [if_neg (by simp [c1])]
        by_cases c2 : x[i].f1 ∈ l
        · rw [if_pos (decide_eq_true c2), List.filter_cons_of_neg (by simp [c2])]
          exact without_l0 x l hx hl k (i + 1) out hlt (by omega) (by omega)
        · rw [if_neg (by simp [c2]), if_pos (by omega), List.filter_cons_of_pos (by simp [c1, c2])]
          have := without_l0 x l hx hl k (i + 1) (out ++ [⟨x[i].f0, x[i].f1⟩]) hlt (by omega) (by rw [List.length_append]; simp; omega)
          rw [this]
          unfold withoutX
          simp
    · rw [if_neg (by omega), List.drop_eq_nil_of_le (by omega)]
      simp [withoutX]
theorem without_tells (x : List S53) (l : List Int) (hx : x.length ≤ 1000) (hl : l.length ≤ 2000) (k : Nat) (hk : 3010 ≤ k) : ogiveref12_Without.f k x l = some (withoutX x l) := by
  have := without_l0 x l hx hl k 0 [] (Nat.zero_le _) (by omega) (Nat.le_refl _)
  rw [List.drop_zero, List.nil_append] at this
  exact this
end Go.Proofs.Ytjoafadhcdipnaa
