/- The keys of its maps, sorted; All, Waits. -/
import Derived.Test.YtjoafadhcdipnaaLay
import Derived.Test.YtjoafadhcdipnaaDep
namespace Go.Proofs.Ytjoafadhcdipnaa
open Go.RowKit Go.Maps Go.Sort Go.Shelf Go.Proofs.YtjoafadhcdipnaaW.PrintWords Go.Proofs.YtjoafadhcdipnaaW.PrintLast Go.Proofs.YtjoafadhcdipnaaW.PrintMore
set_option linter.unusedVariables false

theorem sortsA (m : Nat) : AnyZI.SortsIn Try.prog Try.sortedA_ren Fence.wide m :=
  ⟨fun blk off cap ss W hH hblk hsz => callsIn_wide.2 (AnyM.slices_Sort_int Try.sortA blk off cap ss W hH hblk hsz),
   fun p cap W => callsIn_wide.2 (AnyM.slices_Sort_int_none Try.sortA p cap W)⟩

theorem keys_E (keys : List Int) (f : Int → DataW Unit) : intKeys (E keys f) = keys := by
  unfold E M intKeys
  simp only [List.map_map]
  exact List.map_id'' (fun _ => rfl) keys

theorem sorted_is {act ss : List Int} (hr : Rising act) (hp : ss.Perm act) : ss.mergeSort (fun x y => decide (x ≤ y)) = act := by
  refine List.Perm.eq_of_pairwise (le := fun a b => a ≤ b) (fun a b _ _ h1 h2 => Int.le_antisymm h1 h2) ?_ (hr.imp (fun h => Int.le_of_lt h)) ((List.mergeSort_perm _ _).trans hp)
  have := List.pairwise_mergeSort (le := fun x y : Int => decide (x ≤ y)) (fun a b c h1 h2 => by simp at *; omega) (fun a b => by simp; omega) ss
  exact this.imp (fun h => by simpa using h)

theorem reps_ints (w : World) (base : Nat) (ok : Nat → Prop) (l : List Int) : Reps ((Kd.int .i64).M w base ok) 1 l (l.map (Value.int .i64)) := by
  refine ⟨by simp, fun j p hj => ?_⟩
  obtain ⟨hjl, hp⟩ := List.getElem?_eq_some_iff.1 hj
  show ((l.map (Value.int .i64)).drop (j * 1)).take 1 = [Value.int .i64 p]
  rw [Nat.mul_one, List.drop_eq_getElem_cons (by simpa using hjl)]
  simp [hp]

theorem row_of {w w' : World} {v : Value} {l ss : List Int} (hr : Rising l) (hp : ss.Perm l) (hrow : w'.ownsRow w.heap.size 2 1 v ss.length ((ss.mergeSort (fun x y => decide (x ≤ y))).map encZ)) : Kd.R (Kd.int .i64) 2 w' w.heap.size (fun _ => True) v l := by
  rw [sorted_is hr hp, hp.length_eq] at hrow
  exact ⟨fun _ _ => trivial, l.map (Value.int .i64), hrow, reps_ints _ _ _ _⟩

theorem keysA_calls (mb : Option Nat) (w : World) : Calls Try.prog 30 #[.map mb] w fun e w' => e = .returned (.func (.func 35) #[] #[.pointer (some ⟨w.heap.size, 0, none⟩)]) ∧ w' = w.alloc (.cells #[.map mb] 58) :=
  callsIn_wide.1 (AnyZI.keys_in Try.keysA Fence.wide 5 trivial rfl mb w)
theorem keysO_calls (mb : Option Nat) (w : World) : Calls Try.prog 29 #[.map mb] w fun e w' => e = .returned (.func (.func 34) #[] #[.pointer (some ⟨w.heap.size, 0, none⟩)]) ∧ w' = w.alloc (.cells #[.map mb] 44) :=
  callsIn_wide.1 (AnyZI.keys_in Try.keysO Fence.wide 5 trivial rfl mb w)

theorem sortedA_calls {g b n : Nat} {l : List Int} (w : World) (hg : g < w.heap.size) (hc : w.cell? ⟨g, 0, none⟩ = some (.map (some b))) (hm : Own w b n l) (hr : Rising l) (hn : n ≤ 2000) :
    Calls Try.prog 28 #[.func (.func 35) #[] #[.pointer (some ⟨g, 0, none⟩)]] w fun e w' => ∃ v, e = .returned v ∧ Kd.R (Kd.int .i64) 2 w' w.heap.size (fun _ => True) v l ∧ Below w.heap.size w w' := by
  have hs := hm.size_le
  have hseq : SeqGives Fence.wide 2 Try.prog 35 #[.pointer (some ⟨g, 0, none⟩)] encZ (fun ss => ss.Perm (intKeys (D l))) (Maps.size (D l)) w :=
    AnyZI.keys_gives (ρ := Try.keysA_ren) { Try.keysA with } Fence.wide _ trivial rfl (by omega) g b n (D l) _ hg hc hm
  have cS := AnyZI.sorted_in Try.sortedA Fence.wide 5 trivial trivial trivial trivial rfl (by omega) (sortsA _) (enters_of Try.func33 (by kernel_rfl) rfl) 35 #[.pointer (some ⟨g, 0, none⟩)] trivial (enters_of Try.func35 (by kernel_rfl) rfl) _ _ (by unfold maxLen; omega) (by omega) _ hseq
  change CallsIn _ _ Try.prog 28 _ _ _ at cS
  refine (callsIn_wide.1 cS).mono ?_
  rintro e w' ⟨v, ss, rfl, hp, hrow, _, hb⟩
  rw [show intKeys (D l) = l from keys_E l _] at hp
  exact ⟨v, rfl, row_of hr hp hrow, hb⟩
theorem sortedA_nil {g : Nat} (w : World) (hg : g < w.heap.size) (hc : w.cell? ⟨g, 0, none⟩ = some (.map none)) :
    Calls Try.prog 28 #[.func (.func 35) #[] #[.pointer (some ⟨g, 0, none⟩)]] w fun e w' => ∃ v, e = .returned v ∧ Kd.R (Kd.int .i64) 2 w' w.heap.size (fun _ => True) v [] ∧ Below w.heap.size w w' := by
  have hseq : SeqGives Fence.wide 2 Try.prog 35 #[.pointer (some ⟨g, 0, none⟩)] encZ (fun ss : List Int => ss = []) 0 w :=
    AnyZI.keys_gives_nil (ρ := Try.keysA_ren) { Try.keysA with } Fence.wide _ trivial rfl g _ hg hc
  have cS := AnyZI.sorted_in Try.sortedA Fence.wide 5 trivial trivial trivial trivial rfl (by omega) (sortsA _) (enters_of Try.func33 (by kernel_rfl) rfl) 35 #[.pointer (some ⟨g, 0, none⟩)] trivial (enters_of Try.func35 (by kernel_rfl) rfl) _ _ (by unfold maxLen; omega) (by omega) _ hseq
  change CallsIn _ _ Try.prog 28 _ _ _ at cS
  refine (callsIn_wide.1 cS).mono ?_
  rintro e w' ⟨v, ss, rfl, rfl, hrow, _, hb⟩
  exact ⟨v, rfl, row_of (by unfold Rising; simp) (List.Perm.refl _) hrow, hb⟩
theorem sortedO_calls {g b n : Nat} {keys : List Int} {B : Int → Nat} (w : World) (hg : g < w.heap.size) (hc : w.cell? ⟨g, 0, none⟩ = some (.map (some b))) (hm : w.ownsMap Try.prog 2 elemO b n (O keys B)) (hr : Rising keys) (hn : n ≤ 2000) :
    Calls Try.prog 28 #[.func (.func 34) #[] #[.pointer (some ⟨g, 0, none⟩)]] w fun e w' => ∃ v, e = .returned v ∧ Kd.R (Kd.int .i64) 2 w' w.heap.size (fun _ => True) v keys ∧ Below w.heap.size w w' := by
  have hs := hm.size_le
  have hseq : SeqGives Fence.wide 2 Try.prog 34 #[.pointer (some ⟨g, 0, none⟩)] encZ (fun ss => ss.Perm (intKeys (O keys B))) (Maps.size (O keys B)) w :=
    AnyZI.keys_gives (ρ := Try.keysO_ren) { Try.keysO with } Fence.wide _ trivial rfl (by omega) g b n (O keys B) _ hg hc hm
  have cS := AnyZI.sorted_in Try.sortedA Fence.wide 5 trivial trivial trivial trivial rfl (by omega) (sortsA _) (enters_of Try.func33 (by kernel_rfl) rfl) 34 #[.pointer (some ⟨g, 0, none⟩)] trivial (enters_of Try.func34 (by kernel_rfl) rfl) _ _ (by unfold maxLen; omega) (by omega) _ hseq
  change CallsIn _ _ Try.prog 28 _ _ _ at cS
  refine (callsIn_wide.1 cS).mono ?_
  rintro e w' ⟨v, ss, rfl, hp, hrow, _, hb⟩
  rw [show intKeys (O keys B) = keys from keys_E keys _] at hp
  exact ⟨v, rfl, row_of hr hp hrow, hb⟩

variable {base p b n : Nat} {keys : List Int} {B : Int → Nat} {W : Int → List Int}

theorem R_lower {w : World} {B B0 : Nat} {v : Value} {xs : List Int} (h : Kd.R (Kd.int .i64) 2 w B (fun _ => True) v xs) (hB : B0 ≤ B) : Kd.R (Kd.int .i64) 2 w B0 (fun k => B ≤ k) v xs := by
  have h0 := Kd.R_base h
  obtain ⟨ho, inner, hrow, hreps⟩ := h
  exact ⟨h0, inner, ownsRow_base_a hrow hB, hreps⟩

set_option maxHeartbeats 1000000 in
theorem all_calls (w : World) (h : Dep w base p b n keys B W) (hn : n ≤ 2000) :
    Calls Try.prog 14 #[.pointer (some ⟨p, 0, none⟩)] w fun e w' => ∃ v, e = .returned v ∧ Kd.R (Kd.int .i64) 2 w' w.heap.size (fun _ => True) v keys ∧ Below w.heap.size w w' := by
  have z0 : w.cell? ⟨p, 0, none⟩ = some (.map (some b)) := blk_cell h.box 0
  have HK := Aside0.mk h
  clear h
  go_enter Try.func14, Try.ntmps14
  go_wp2_with fail
  refine (keysO_calls _ _).mono ?_
  rintro e w1 ⟨rfl, rfl⟩
  have HC := Aside0.mk (show (w.alloc (.cells #[.map (some b)] 44)).cell? ⟨w.heap.size, 0, none⟩ = some (.map (some b)) from blk_cell (blk_new _ _) 0)
  go_wp2_with fail
  refine (sortedO_calls _ (by simp) HC.out (HK.out.own.alloc _) HK.out.rise hn).mono ?_
  rintro e w1 ⟨v, rfl, hR, hb⟩
  have HR := Aside0.mk hR
  have HBB := Aside0.mk hb
  clear hR hb
  go_wp2
  go_ret
  exact ⟨v, rfl, Kd.R_mono (R_lower HR.out (by simp)) (fun _ _ => trivial), ((Below.refl _ w).alloc (Nat.le_refl _) _).trans (HBB.out.mono (by simp))⟩

set_option maxHeartbeats 1000000 in
theorem waits_calls (of_ : Int) (hw : (Lit.int .i64 of_).wf = true) (w : World) (h : Dep w base p b n keys B W) (hn : n ≤ 2000) :
    Calls Try.prog 15 #[.pointer (some ⟨p, 0, none⟩), .int .i64 of_] w fun e w' => ∃ v, e = .returned v ∧ Kd.R (Kd.int .i64) 2 w' w.heap.size (fun _ => True) v (W of_) ∧ Below w.heap.size w w' := by
  have z0 : w.cell? ⟨p, 0, none⟩ = some (.map (some b)) := blk_cell h.box 0
  have hl := look_own h.own of_ hw
  have HK := Aside0.mk h
  by_cases hin : of_ ∈ keys
  · rw [if_pos hin] at hl
    have HI := Aside0.mk (h.inner of_ hin)
    obtain ⟨g, hg⟩ : ∃ g, B of_ = g := ⟨_, rfl⟩
    rw [hg] at hl HI
    clear h hin hg
    go_enter Try.func15, Try.ntmps15
    go_wp2_with fail
    refine (keysA_calls _ _).mono ?_
    rintro e w1 ⟨rfl, rfl⟩
    have HC := Aside0.mk (show (w.alloc (.cells #[.map (some g)] 58)).cell? ⟨w.heap.size, 0, none⟩ = some (.map (some g)) from blk_cell (blk_new _ _) 0)
    have HI2 := Aside0.mk (show Own (w.alloc (.cells #[.map (some g)] 58)) g n (W of_) from World.ownsMap.alloc HI.out _)
    go_wp2_with fail
    refine (sortedA_calls _ (by simp) HC.out HI2.out (HK.out.rises of_) hn).mono ?_
    rintro e w1 ⟨v, rfl, hR, hb⟩
    have HR := Aside0.mk hR
    have HBB := Aside0.mk hb
    clear hR hb
    go_wp2
    go_ret
    exact ⟨v, rfl, Kd.R_mono (R_lower HR.out (by simp)) (fun _ _ => trivial), ((Below.refl _ w).alloc (Nat.le_refl _) _).trans (HBB.out.mono (by simp))⟩
  · rw [if_neg hin] at hl
    have HE := Aside0.mk (show W of_ = [] from Decidable.byContradiction fun e => hin ((h.some of_).2 e))
    clear h hin
    go_enter Try.func15, Try.ntmps15
    go_wp2_with fail
    refine (keysA_calls _ _).mono ?_
    rintro e w1 ⟨rfl, rfl⟩
    have HC := Aside0.mk (show (w.alloc (.cells #[.map none] 58)).cell? ⟨w.heap.size, 0, none⟩ = some (.map none) from blk_cell (blk_new _ _) 0)
    go_wp2_with fail
    refine (sortedA_nil _ (by simp) HC.out).mono ?_
    rintro e w1 ⟨v, rfl, hR, hb⟩
    have HR := Aside0.mk hR
    have HBB := Aside0.mk hb
    clear hR hb
    go_wp2
    go_ret
    rw [HE.out]
    exact ⟨v, rfl, Kd.R_mono (R_lower HR.out (by simp)) (fun _ _ => trivial), ((Below.refl _ w).alloc (Nat.le_refl _) _).trans (HBB.out.mono (by simp))⟩
end Go.Proofs.Ytjoafadhcdipnaa
