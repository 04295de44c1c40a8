/- Drop: who is dropped takes with it all that wait for it, or for one that goes. -/
import Derived.Test.YtjoafadhcdipnaaStl
namespace Go.Proofs.Ytjoafadhcdipnaa
open Go.RowKit Go.Maps Go.Proofs.YtjoafadhcdipnaaW.PrintWords Go.Proofs.YtjoafadhcdipnaaW.PrintLast Go.Proofs.YtjoafadhcdipnaaW.PrintMore
set_option linter.unusedVariables false

/-- Of one, and some of those for which it waits: does it go, too? -/
def gpart (pre : List Int) (of_ : Int) (gone : List Int) : List Int := if pre.any (fun x => decide (x ∈ gone)) = true then ins of_ gone else gone
def gstep (W : Int → List Int) (gone : List Int) (of_ : Int) : List Int := gpart (W of_) of_ gone
/-- All that go. -/
def gall (W : Int → List Int) (keys : List Int) (ts : Int) : List Int := keys.foldl (gstep W) [ts]
/-- For whom each waits, behind a Drop. -/
def dropped (W : Int → List Int) (l : List Int) (k : Int) : List Int := if k ∈ l then [] else (W k).filter (fun x => decide (¬ x ∈ l))
def keysD (keys : List Int) (W : Int → List Int) (l : List Int) : List Int := keys.filter fun k => decide (dropped W l k ≠ [])

variable {base p b n : Nat} {keys : List Int} {B : Int → Nat} {W : Int → List Int}

theorem gpart_rising {pre gone : List Int} {of_ : Int} (h : Rising gone) : Rising (gpart pre of_ gone) := by
  unfold gpart
  split
  · exact rising_ins h
  · exact h
theorem gpart_yes {pre gone : List Int} {of_ x : Int} (h : Rising gone) (hx : x ∈ gpart pre of_ gone) : ins of_ (gpart pre of_ gone) = gpart (pre ++ [x]) of_ gone := by
  unfold gpart at *
  rw [List.any_append]
  by_cases c : pre.any (fun x => decide (x ∈ gone)) = true
  · rw [if_pos c, c]
    rw [Bool.true_or, if_pos rfl]
    exact ins_mem (rising_ins h) (mem_ins.2 (.inl rfl))
  · rw [if_neg c] at hx ⊢
    rw [if_pos (by simp [hx])]
theorem gpart_no {pre gone : List Int} {of_ x : Int} (hx : ¬ x ∈ gpart pre of_ gone) : gpart pre of_ gone = gpart (pre ++ [x]) of_ gone := by
  unfold gpart at *
  rw [List.any_append]
  by_cases c : pre.any (fun x => decide (x ∈ gone)) = true
  · rw [if_pos c, c]
    rw [Bool.true_or, if_pos rfl]
  · rw [if_neg c] at hx ⊢
    rw [if_neg (by rw [Bool.eq_false_iff.2 c]; simp [hx])]
theorem gpart_mem {pre gone : List Int} {of_ x : Int} (hx : x ∈ gpart pre of_ gone) : x = of_ ∨ x ∈ gone := by
  unfold gpart at hx
  split at hx
  · exact mem_ins.1 hx
  · exact .inr hx
theorem gpart_len (pre gone : List Int) (of_ : Int) : (gpart pre of_ gone).length ≤ gone.length + 1 := by
  unfold gpart
  split
  · exact length_ins _ _
  · omega

theorem gfold (W : Int → List Int) : ∀ (keys gone : List Int), Rising gone → Rising (keys.foldl (gstep W) gone) ∧ (keys.foldl (gstep W) gone).length ≤ gone.length + keys.length ∧ ∀ x ∈ keys.foldl (gstep W) gone, x ∈ gone ∨ x ∈ keys
  | [], gone, h => ⟨h, by simp, fun x hx => .inl hx⟩
  | k :: r, gone, h => by
    obtain ⟨h1, h2, h3⟩ := gfold W r (gstep W gone k) (gpart_rising h)
    have h4 := gpart_len (W k) gone k
    refine ⟨h1, ?_, fun x hx => ?_⟩
    · simp only [List.foldl_cons, List.length_cons]; unfold gstep at h2 ⊢; omega
    · rcases h3 x hx with h5 | h5
      · rcases gpart_mem h5 with rfl | h6
        · exact .inr List.mem_cons_self
        · exact .inl h6
      · exact .inr (List.mem_cons_of_mem _ h5)

theorem rising_one (ts : Int) : Rising [ts] := by unfold Rising; simp

theorem settled_dropped (W : Int → List Int) (l : List Int) (x : Int) : settled (dropped W l) x = dropped W (l ++ [x]) := by
  funext k
  unfold settled dropped
  by_cases h1 : k = x
  · subst h1; simp
  · by_cases h2 : k ∈ l
    · simp [h1, h2]
    · rw [if_neg h1, if_neg h2, if_neg (by simp [h1, h2]), List.filter_filter]
      refine List.filter_congr fun y _ => ?_
      by_cases a : y ∈ l <;> by_cases b : y = x <;> simp [a, b]
theorem stay_dropped (keys : List Int) (W : Int → List Int) (l : List Int) (x : Int) : stay (keysD keys W l) (dropped W l) x = keysD keys W (l ++ [x]) := by
  unfold stay keysD
  rw [List.filter_filter, settled_dropped]
  refine List.filter_congr fun k _ => ?_
  by_cases h : dropped W l k = []
  · have : dropped W (l ++ [x]) k = [] := by
      rw [← settled_dropped]
      unfold settled
      split
      · rfl
      · rw [h]; rfl
    simp [h, this]
  · simp [h]
theorem dropped_nil (W : Int → List Int) : dropped W [] = W := by
  funext k
  unfold dropped
  simp
theorem keysD_nil (h : ∀ k, k ∈ keys ↔ W k ≠ []) : keysD keys W [] = keys := by
  unfold keysD
  rw [dropped_nil]
  exact List.filter_eq_self.2 fun k hk => by simpa using (h k).1 hk

theorem il_at {w : World} {A : Option Addr} {n : Nat} {xs : List Int} (h : Kd.C (Kd.int .i64) w A n xs) (i : Int) (h0 : 0 ≤ i) (h1 : i < n) : ∃ ad, A = some ad ∧ w.cell? (ad.add i.toNat) = some (.int .i64 (xs.getD i.toNat 0)) := by
  obtain ⟨ad, c, e, _, hK, hc0⟩ := Kd.C_get h 0 i h0 h1
  have hc : ∀ j u, c[j]? = some u → w.cell? (ad.add (i.toNat * 1 + j)) = some u := hc0
  obtain rfl : c = [.int .i64 (xs.getD i.toNat 0)] := hK
  refine ⟨ad, e, ?_⟩
  have hq := hc 0 _ rfl
  rwa [Nat.mul_one, Nat.add_zero] at hq
theorem take_snoc (xs : List Int) (i : Nat) (h : i < xs.length) : xs.take (i + 1) = xs.take i ++ [xs.getD i 0] := by
  rw [List.take_succ_eq_append_getElem h, List.getD_eq_getElem?_getD, List.getElem?_eq_getElem h]; rfl
theorem getD_mem (xs : List Int) (i : Nat) (h : i < xs.length) : xs.getD i 0 ∈ xs := by
  rw [List.getD_eq_getElem?_getD, List.getElem?_eq_getElem h]
  exact List.getElem_mem _

/-- The set of those that go, ahead of the loops: what a literal's one entry leaves. -/
theorem lit_one (ts : Int) (hw : (Lit.int .i64 ts).wf = true) (w : World) : ∃ w1, (Instr.mapUpdate 58 (.map (some w.heap.size)) (.int .i64 ts) (.bool true)).run Try.prog (w.alloc (.map #[] 0)) = .ok () w1 ∧ Own w1 w.heap.size 1 [ts] ∧ Below w.heap.size w w1 ∧ w.heap.size < w1.heap.size := by
  obtain ⟨w1, h1, h2, h3⟩ := (World.ownsMap_made w Try.prog 2 (plainElem (H := Unit) Try.prog 4)).update law2 Try.underlying58 (by unfold maxLen; omega) (keyOf_int_mk Try.underlying2 hw) (plainElem_bool Try.underlying4 true)
  have hD : (DataW.map [] : DataW Unit).put (.int .i64 ts) (.lit (.bool true)) = D [ts] := D_put (l := []) (by unfold Rising; simp) ts
  rw [hD] at h2
  refine ⟨w1, h1, h2, pw_below_grown ((Below.refl _ w).alloc (Nat.le_refl _) _) _ (by simp) h3 (fun k hk => by injection hk with hk; omega), ?_⟩
  have := h3.size
  simp at this
  omega

/-- 'gone[on]'. -/
theorem look_set {w : World} {g m : Nat} {l : List Int} (h : Own w g m l) (x : Int) (hw : (Lit.int .i64 x).wf = true) : (Instr.lookup 58 (.map (some g)) (.int .i64 x) false).run Try.prog w = .ok (.bool (decide (x ∈ l))) w := by
  obtain ⟨v, ps, hrun, hv⟩ := h.lookup law2 Try.underlying58 (zero4 w) (plainElem_bool Try.underlying4 false) (keyOf_int_mk Try.underlying2 hw)
  rw [D_at] at hv
  obtain ⟨a, rfl, ha⟩ := plain_bool_inv Try.underlying4 hv
  obtain rfl : decide (x ∈ l) = a := by simpa using congrArg Prod.fst ha
  exact hrun
end Go.Proofs.Ytjoafadhcdipnaa
