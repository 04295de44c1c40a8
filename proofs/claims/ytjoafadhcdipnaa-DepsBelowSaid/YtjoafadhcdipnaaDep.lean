/- Who waits for whom, layer 12: its state in memory; New, Add, and the nil one. -/
import Derived.WalkSpells
import Derived.RegionTactic
import Derived.ChangeAlike
import Derived.Test.YtjoafadhcdipnaaSet
import Derived.Test.YtjoafadhcdipnaaTx0
namespace Go.Proofs.Ytjoafadhcdipnaa
open Go.RowKit Go.Maps Go.Proofs.YtjoafadhcdipnaaW.PrintWords Go.Proofs.YtjoafadhcdipnaaW.PrintLast Go.Proofs.YtjoafadhcdipnaaW.PrintMore
set_option linter.unusedVariables false

structure HoldC (p : Prop) : Prop where
  out : p

theorem zero4 (w : World) : (zeroValue 4).run Try.prog w = .ok (.bool false) w := by kernel_rfl
theorem zero58 (w : World) : (zeroValue 58).run Try.prog w = .ok (.map none) w := by kernel_rfl
theorem eqm_some (g : Nat) (w : World) : (binOp BinOp.eql 58 (.map (some g)) (.map none)).run Try.prog w = .ok (.bool false) w := by kernel_rfl
theorem eqm_none (w : World) : (binOp BinOp.eql 58 (.map none) (.map none)).run Try.prog w = .ok (.bool true) w := by kernel_rfl
theorem law2 : Keyed Try.prog 2 := int_keyed Try.underlying2

theorem plain_bool_inv {e : TypeId} (he : Try.prog.underlying e = some .bool) {v : Value} {z : DataW Unit × List MemPlace} (h : plainElem Try.prog e v = some z) : ∃ a, v = .bool a ∧ z = (.lit (.bool a), []) := by
  unfold plainElem at h
  rw [he] at h
  cases v <;> simp at h
  subst h
  exact ⟨_, rfl, rfl⟩

/-- A set of timestamps that lies in block b. -/
def Own (w : World) (b n : Nat) (l : List Int) : Prop := w.ownsMap Try.prog 2 (plainElem (H := Unit) Try.prog 4) b n (D l)

/-- Deps at block p, its map at block b: who waits, in which block it lies for whom, for whom; n bounds the maps; all of it is new since 'base'. -/
structure Dep (w : World) (base p b n : Nat) (keys : List Int) (B : Int → Nat) (W : Int → List Int) : Prop where
  box : w.heap[p]? = some (.cells #[.map (some b)] 46 (0, 0))
  own : w.ownsMap Try.prog 2 elemO b n (O keys B)
  inner : ∀ k ∈ keys, Own w (B k) n (W k)
  apart : ∀ k ∈ keys, B k ≠ p ∧ B k ≠ b ∧ base ≤ B k
  inj : ∀ k ∈ keys, ∀ k' ∈ keys, B k = B k' → k = k'
  basep : base ≤ p
  baseb : base ≤ b
  rise : Rising keys
  rises : ∀ k, Rising (W k)
  some : ∀ k, k ∈ keys ↔ W k ≠ []
  wf : ∀ k ∈ keys, (Lit.int .i64 k).wf = true
  wfs : ∀ k, ∀ x ∈ W k, (Lit.int .i64 x).wf = true

/-- The blocks that it lies in. -/
def Lies (p b : Nat) (keys : List Int) (B : Int → Nat) (g : Nat) : Prop := g = p ∨ g = b ∨ ∃ k ∈ keys, g = B k

/-- What isn't memory stands. -/
structure Still (w w' : World) : Prop where
  os : w'.os = w.os
  tape : w'.tape = w.tape
  output : w'.output = w.output
theorem Still.refl (w : World) : Still w w := ⟨rfl, rfl, rfl⟩
theorem Still.trans {w w1 w2 : World} (h : Still w w1) (h' : Still w1 w2) : Still w w2 := ⟨h'.os.trans h.os, h'.tape.trans h.tape, h'.output.trans h.output⟩
theorem Still.grown {w w' : World} {row : Option Nat} (h : w.grownBy w' row) : Still w w' := ⟨h.os, h.tape, h.output⟩
theorem Still.below {B : Nat} {w w' : World} (h : Below B w w') : Still w w' := ⟨h.os, h.tape, h.output⟩
theorem Still.to {B : Nat} {w w' : World} {S : Nat → Prop} (h : Still w w') (hk : Kept w w' S) (hB : B ≤ w.heap.size) (hS : ∀ g, S g → B ≤ g) : Below B w w' :=
  ⟨h.os, h.tape, h.output, hk.1, fun k hk' => hk.2 k (by omega) (fun hs => by have := hS k hs; omega)⟩

variable {w w' : World} {base p b n : Nat} {keys : List Int} {B : Int → Nat} {W : Int → List Int}

theorem Own.kept {b n : Nat} {l : List Int} (h : Own w b n l) {S : Nat → Prop} (hk : Kept w w' S) (hs : ¬ S b) : Own w' b n l := by
  obtain ⟨es, clock, hm, hF⟩ := h
  exact ⟨es, clock, (hk.2 b (blk_lt hm) hs).trans hm, hF⟩
theorem Own.exact {b n : Nat} {l : List Int} (h : Own w b n l) : Own w b l.length l := by
  have hs : l.length = Maps.size (D l) := (D_size l).symm
  obtain ⟨es, clock, hm, hF, hn, hD⟩ := h
  refine ⟨es, clock, hm, hF, ?_, hD⟩
  rw [hs, hD]
  show es.size ≤ (List.foldr DataW.insert [] _).length
  rw [length_read]
  exact Nat.le_refl _
theorem Own.mono {b n n' : Nat} {l : List Int} (h : Own w b n l) (hn : n ≤ n') : Own w b n' l := World.ownsMap.mono h hn

theorem Dep.kept (h : Dep w base p b n keys B W) {S : Nat → Prop} (hk : Kept w w' S) (hs : ∀ g, Lies p b keys B g → ¬ S g) : Dep w' base p b n keys B W :=
  ⟨blk_kept h.box hk (hs p (.inl rfl)), (by
    obtain ⟨es, clock, hm, hF⟩ := h.own
    exact ⟨es, clock, (hk.2 b (blk_lt hm) (hs b (.inr (.inl rfl)))).trans hm, hF⟩),
   fun k hk' => (h.inner k hk').kept hk (hs _ (.inr (.inr ⟨k, hk', rfl⟩))), h.apart, h.inj, h.basep, h.baseb, h.rise, h.rises, h.some, h.wf, h.wfs⟩
theorem Dep.below (h : Dep w base p b n keys B W) (hb : Below w.heap.size w w') : Dep w' base p b n keys B W := h.kept (Kept.of_below hb (fun _ => False)) (fun _ _ h => h)
theorem Dep.ne (h : Dep w base p b n keys B W) : p ≠ b := by
  rintro rfl
  obtain ⟨es, clock, hb, _⟩ := h.own
  have := h.box.symm.trans hb
  cases this
theorem Dep.lt (h : Dep w base p b n keys B W) {g : Nat} (hg : Lies p b keys B g) : g < w.heap.size := by
  rcases hg with rfl | rfl | ⟨k, hk, rfl⟩
  · exact blk_lt h.box
  · exact h.own.lt
  · exact (h.inner k hk).lt
theorem Dep.old (h : Dep w base p b n keys B W) {g : Nat} (hg : Lies p b keys B g) : base ≤ g := by
  rcases hg with rfl | rfl | ⟨k, hk, rfl⟩
  · exact h.basep
  · exact h.baseb
  · exact (h.apart k hk).2.2
theorem Dep.mono (h : Dep w base p b n keys B W) {n' : Nat} (hn : n ≤ n') : Dep w base p b n' keys B W :=
  ⟨h.box, h.own.mono hn, fun k hk => (h.inner k hk).mono hn, h.apart, h.inj, h.basep, h.baseb, h.rise, h.rises, h.some, h.wf, h.wfs⟩

theorem new_calls (w : World) : Calls Try.prog 10 #[] w fun e w' => e = .returned (.pointer (some ⟨w.heap.size + 1, 0, none⟩)) ∧ Dep w' w.heap.size (w.heap.size + 1) w.heap.size 0 [] (fun _ => 0) (fun _ => []) ∧ Below w.heap.size w w' := by
  have hmm := @run_makeMap Try.prog
  go_enter Try.func10, Try.ntmps10
  go_wp2
  go_ret
  exact ⟨rfl, ⟨heap_alloc2_new _ _ _, (World.ownsMap_made w _ _ _).alloc _, fun k hk => (by cases hk), fun k hk => (by cases hk), fun k hk => (by cases hk), by omega, Nat.le_refl _, by unfold Rising; simp, fun _ => by unfold Rising; simp, fun k => by simp, fun k hk => (by cases hk), fun k x hx => (by cases hx)⟩, ((Below.refl _ w).alloc (Nat.le_refl _) _).alloc (by simp) _⟩

/-! The nil one. -/
theorem settle_nil (x : Int) (w : World) : Calls Try.prog 20 #[.pointer none, .int .i64 x] w fun e w' => e = .returned (.tuple #[]) ∧ w' = w := by
  go_enter Try.func20, Try.ntmps20
  go_wp2
  refine bodyPost_ret (results_none rfl _ _ _) rfl ?_
  exact ⟨rfl, rfl⟩
theorem add_nil (x y : Int) (w : World) : Calls Try.prog 21 #[.pointer none, .int .i64 x, .int .i64 y] w fun e w' => e = .returned (.bool false) ∧ w' = w := by
  go_enter Try.func21, Try.ntmps21
  go_wp2
  go_ret
  exact ⟨rfl, rfl⟩
theorem drop_nil (x : Int) (w : World) : Calls Try.prog 18 #[.pointer none, .int .i64 x] w fun e w' => e = .returned (.slice none 0 0) ∧ w' = w := by
  go_enter Try.func18, Try.ntmps18
  go_wp2
  go_ret
  exact ⟨rfl, rfl⟩
theorem waits_nil (x : Int) (w : World) : Calls Try.prog 15 #[.pointer none, .int .i64 x] w fun e w' => e = .returned (.slice none 0 0) ∧ w' = w := by
  go_enter Try.func15, Try.ntmps15
  go_wp2
  go_ret
  exact ⟨rfl, rfl⟩
theorem all_nil (w : World) : Calls Try.prog 14 #[.pointer none] w fun e w' => e = .returned (.slice none 0 0) ∧ w' = w := by
  go_enter Try.func14, Try.ntmps14
  go_wp2
  go_ret
  exact ⟨rfl, rfl⟩

/-! Add. -/
theorem add_no (of_ on_ : Int) (h : ¬ (1 ≤ on_ ∧ on_ < of_)) (g : Nat) (w : World) : Calls Try.prog 21 #[.pointer (some ⟨g, 0, none⟩), .int .i64 of_, .int .i64 on_] w fun e w' => e = .returned (.bool false) ∧ w' = w := by
  by_cases c1 : on_ < 1
  · have d1 : decide (on_ < 1) = true := decide_eq_true c1
    clear h
    go_enter Try.func21, Try.ntmps21
    go_wp2
    go_ret
    exact ⟨rfl, rfl⟩
  · have d1 : decide (on_ < 1) = false := decide_eq_false c1
    have d2 : decide (on_ ≥ of_) = true := decide_eq_true (by omega)
    clear h
    go_enter Try.func21, Try.ntmps21
    go_wp2
    go_ret
    exact ⟨rfl, rfl⟩

/-- For whom each waits, behind an Add. -/
def added (W : Int → List Int) (of_ on_ : Int) (k : Int) : List Int := if k = of_ then ins on_ (W k) else W k

theorem grown_kept {row : Nat} {S : Nat → Prop} (h : w.grownBy w' (some row)) (hs : S row) : Kept w w' S := ⟨h.size, fun i hi hn => h.block i hi (fun e => hn (by injection e with e; rw [e]; exact hs))⟩

theorem look_own (h : w.ownsMap Try.prog 2 elemO b n (O keys B)) (of_ : Int) (hw : (Lit.int .i64 of_).wf = true) : (Instr.lookup 44 (.map (some b)) (.int .i64 of_) false).run Try.prog w = .ok (.map (if of_ ∈ keys then some (B of_) else none)) w := by
  have hkey : keyOf Try.prog 2 (.int .i64 of_) = some (.int .i64 of_) := keyOf_int_mk Try.underlying2 hw
  obtain ⟨v, ps, hrun, hv⟩ := h.lookup law2 Try.underlying44 (zero58 w) (zd := .lit (.int .i64 (-1))) (zp := []) rfl hkey
  rw [O_at] at hv
  obtain ⟨mb, rfl⟩ := elemO_inv hv
  rw [hrun]
  by_cases hin : of_ ∈ keys
  · rw [if_pos hin] at hv ⊢
    rw [elemO_block hv]
  · rw [if_neg hin] at hv ⊢
    rw [elemO_none hv]

theorem ins_mem {k : Int} {l : List Int} (hr : Rising l) (h : k ∈ l) : ins k l = l :=
  rising_ext (rising_ins hr) hr fun x => by
    rw [mem_ins]
    exact ⟨fun hx => by rcases hx with rfl | hx; exact h; exact hx, fun hx => .inr hx⟩
theorem ins_ne (k : Int) (l : List Int) : ins k l ≠ [] := by
  intro h
  have : k ∈ ins k l := mem_ins.2 (.inl rfl)
  rw [h] at this
  cases this

set_option maxHeartbeats 2000000 in
theorem add_old (of_ on_ : Int) (h1 : 1 ≤ on_) (h2 : on_ < of_) (ho : (Lit.int .i64 on_).wf = true) (hw : (Lit.int .i64 of_).wf = true) (w : World) (h : Dep w base p b n keys B W) (hin : of_ ∈ keys) (hn : n < 1000) :
    Calls Try.prog 21 #[.pointer (some ⟨p, 0, none⟩), .int .i64 of_, .int .i64 on_] w fun e w' => e = .returned (.bool true) ∧ Dep w' base p b (n + 1) keys B (added W of_ on_) ∧ Kept w w' (Lies p b keys B) ∧ Still w w' := by
  have d1 : decide (on_ < 1) = false := decide_eq_false (by omega)
  have d2 : decide (on_ ≥ of_) = false := decide_eq_false (by omega)
  have hkey : keyOf Try.prog 2 (.int .i64 on_) = some (.int .i64 on_) := keyOf_int_mk Try.underlying2 ho
  have hl := look_own h.own of_ hw
  rw [if_pos hin] at hl
  have z0 : w.cell? ⟨p, 0, none⟩ = some (.map (some b)) := blk_cell h.box 0
  have HK := Aside0.mk h
  have HI := Aside0.mk hin
  have HP := Aside0.mk (D_put (h.rises of_) on_)
  obtain ⟨g, hg⟩ : ∃ g, B of_ = g := ⟨_, rfl⟩
  rw [hg] at hl
  have HG := Aside0.mk hg
  have HO := Aside0.mk (show Own w g n (W of_) from hg ▸ h.inner of_ hin)
  clear h h1 h2 hin hg
  have eS := eqm_some
  have eN := eqm_none
  go_enter Try.func21, Try.ntmps21
  go_wp2_with (at_mapUpdate; refine HoldC.out ?_)
  constructor
  refine wpList_mapUpdate_own _ rfl _ _ _ 58 rfl 2 4 law2 Try.underlying58 _ g n (D (W of_)) rfl HO.out (by unfold maxLen; omega) _ _ _ rfl rfl hkey (.lit (.bool true)) [] (plainElem_bool Try.underlying4 true) ?_
  intro w1 hown1 hg1
  rw [HP.out] at hown1
  have HO1 := Aside0.mk (show Own w1 g (n + 1) (ins on_ (W of_)) from hown1)
  have HG1 := Aside0.mk hg1
  clear z0 hl hown1 hg1
  go_wp2
  go_ret
  have h := HK.out
  have hk : Kept w w1 (fun k => k = g) := grown_kept HG1.out rfl
  have hng : g ≠ p ∧ g ≠ b := by have := h.apart of_ HI.out; rw [HG.out] at this; exact ⟨this.1, this.2.1⟩
  refine ⟨rfl, ⟨blk_kept h.box hk (fun e => hng.1 e.symm), ?_, fun k hk' => ?_, h.apart, h.inj, h.basep, h.baseb, h.rise, fun k => ?_, fun k => ?_, h.wf, fun k x hx => ?_⟩, hk.mono (fun k e => .inr (.inr ⟨of_, HI.out, e.trans HG.out.symm⟩)), Still.grown HG1.out⟩
  · obtain ⟨es, clock, hm, hF, hs⟩ := h.own
    exact ⟨es, clock, (hk.2 b (blk_lt hm) (fun e => hng.2 e.symm)).trans hm, hF, by omega, hs.2⟩
  · unfold added
    by_cases e : k = of_
    · subst e
      rw [if_pos rfl, HG.out]
      exact HO1.out
    · rw [if_neg e]
      exact ((h.inner k hk').kept hk (fun e' => e (h.inj k hk' of_ HI.out (e'.trans HG.out.symm)))).mono (by omega)
  · unfold added
    split
    · exact rising_ins (h.rises k)
    · exact h.rises k
  · unfold added
    by_cases e : k = of_
    · subst e
      rw [if_pos rfl]
      exact ⟨fun _ => ins_ne _ _, fun _ => HI.out⟩
    · rw [if_neg e]
      exact h.some k
  · unfold added at hx
    split at hx
    · rcases mem_ins.1 hx with rfl | hx
      · exact ho
      · exact h.wfs k x hx
    · exact h.wfs k x hx

set_option maxHeartbeats 2000000 in
theorem add_new (of_ on_ : Int) (h1 : 1 ≤ on_) (h2 : on_ < of_) (ho : (Lit.int .i64 on_).wf = true) (hw : (Lit.int .i64 of_).wf = true) (w : World) (h : Dep w base p b n keys B W) (hin : ¬ of_ ∈ keys) (hn : n < 1000) (hb0 : base ≤ w.heap.size) :
    Calls Try.prog 21 #[.pointer (some ⟨p, 0, none⟩), .int .i64 of_, .int .i64 on_] w fun e w' => e = .returned (.bool true) ∧ Dep w' base p b (n + 1) (ins of_ keys) (fun x => if x = of_ then w.heap.size else B x) (added W of_ on_) ∧ Kept w w' (Lies p b keys B) ∧ Still w w' := by
  have hmm := @run_makeMap Try.prog
  have d1 : decide (on_ < 1) = false := decide_eq_false (by omega)
  have d2 : decide (on_ ≥ of_) = false := decide_eq_false (by omega)
  have hkey : keyOf Try.prog 2 (.int .i64 on_) = some (.int .i64 on_) := keyOf_int_mk Try.underlying2 ho
  have hkeyO : keyOf Try.prog 2 (.int .i64 of_) = some (.int .i64 of_) := keyOf_int_mk Try.underlying2 hw
  have hl := look_own h.own of_ hw
  rw [if_neg hin] at hl
  have z0 : w.cell? ⟨p, 0, none⟩ = some (.map (some b)) := blk_cell h.box 0
  have n0 := World.new_ne w _ z0
  have HK := Aside0.mk h
  have HI := Aside0.mk hin
  have HW := Aside0.mk hw
  have HWE := Aside0.mk (show W of_ = [] from by have := (h.some of_); exact Decidable.byContradiction fun e => hin (this.2 e))
  have HP := Aside0.mk (O_put h.rise B of_ w.heap.size)
  have HPB := Aside0.mk (show b ≠ w.heap.size from by have := h.own.lt; omega)
  have HB0 := Aside0.mk hb0
  clear h h1 h2 hin hw hb0
  have eS := eqm_some
  have eN := eqm_none
  go_enter Try.func21, Try.ntmps21
  go_wp2_with (at_mapUpdate; refine HoldC.out ?_)
  constructor
  refine wpList_mapUpdate_own _ rfl _ _ _ 44 rfl 2 58 law2 Try.underlying44 _ b n (O keys B) rfl (HK.out.own.alloc _) (by unfold maxLen; omega) _ _ _ rfl rfl hkeyO (.lit (.int .i64 w.heap.size)) [] rfl ?_
  intro w1 hown1 hg1
  rw [HP.out] at hown1
  have HO1 := Aside0.mk hown1
  have HG1 := Aside0.mk hg1
  have hk1 : Kept (w.alloc (.map #[] 0)) w1 (fun k => k = b) := grown_kept hg1 rfl
  have HE := Aside0.mk (show Own w1 w.heap.size 0 [] from Own.kept (b := w.heap.size) (World.ownsMap_made w Try.prog 2 (plainElem (H := Unit) Try.prog 4)) hk1 (fun e => HPB.out e.symm))
  have hl := look_own HO1.out of_ HW.out
  rw [if_pos (mem_ins.2 (.inl rfl)), if_pos rfl] at hl
  have z0 : w1.cell? ⟨p, 0, none⟩ = some (.map (some b)) := cell_kept (pw_cell_below ((Below.refl _ w).alloc (Nat.le_refl _) _) z0) hk1 (fun e => HK.out.ne e)
  have HK1 := Aside0.mk hk1
  clear n0 hown1 hg1 hk1
  obtain ⟨g, hg⟩ : ∃ g, w.heap.size = g := ⟨_, rfl⟩
  rw [hg] at hl HE
  have HG := Aside0.mk hg
  have HP2 := Aside0.mk (D_put (show Rising [] by unfold Rising; simp) on_)
  clear hg
  go_wp2_with (at_mapUpdate; refine HoldC.out ?_)
  constructor
  refine wpList_mapUpdate_own _ rfl _ _ _ 58 rfl 2 4 law2 Try.underlying58 _ g 0 (D []) rfl HE.out (by unfold maxLen; omega) _ _ _ rfl rfl hkey (.lit (.bool true)) [] (plainElem_bool Try.underlying4 true) ?_
  intro w2 hown2 hg2
  rw [HP2.out] at hown2
  have HO2 := Aside0.mk hown2
  have HG2 := Aside0.mk hg2
  clear hown2 hg2 z0 hl
  go_wp2
  go_ret
  rw [HG.out]
  have h := HK.out
  have hgw : ∀ {x}, x < w.heap.size → x ≠ g := fun hx e => by have := HG.out; omega
  have hk2 : Kept w1 w2 (fun k => k = g) := grown_kept HG2.out rfl
  have hk : Kept w w2 (fun k => k = b) := by
    have := (Kept.of_below ((Below.refl _ w).alloc (Nat.le_refl _) (.map #[] 0)) (fun k => k = b)).then_ HK1.out (fun k hk => .inl hk)
    exact this.then_ hk2 (fun k hk => .inr (by have := HG.out; omega))
  refine ⟨rfl, ⟨blk_kept h.box hk (fun e => h.ne e), ?_, fun k hk' => ?_, fun k hk' => ?_, fun k hk' k' hk'' e => ?_, h.basep, h.baseb, rising_ins h.rise, fun k => ?_, fun k => ?_, fun k hk' => ?_, fun k x hx => ?_⟩, hk.mono (fun k e => .inr (.inl e)), (show Still w (w.alloc (.map #[] 0)) from ⟨rfl, rfl, rfl⟩).trans ((Still.grown HG1.out).trans (Still.grown HG2.out))⟩
  · obtain ⟨es, clock, hm, hF, hs⟩ := HO1.out
    have hbg : b ≠ g := hgw h.own.lt
    rw [HG.out] at hs
    exact ⟨es, clock, (hk2.2 b (blk_lt hm) hbg).trans hm, hF, hs⟩
  · unfold added
    by_cases e : k = of_
    · subst e
      rw [if_pos rfl, if_pos rfl, HWE.out]
      exact Own.mono HO2.out (by omega)
    · rw [if_neg e, if_neg e]
      have hkk : k ∈ keys := by rcases mem_ins.1 hk' with e' | e'; exact absurd e' e; exact e'
      exact ((h.inner k hkk).kept hk (h.apart k hkk).2.1).mono (by omega)
  · by_cases e : k = of_
    · subst e
      simp only [if_pos]
      have h3 := blk_lt h.box; have h4 := h.own.lt; have h5 := HG.out; have h6 := HB0.out
      exact ⟨by omega, by omega, by omega⟩
    · simp only [if_neg e]
      exact h.apart k (by rcases mem_ins.1 hk' with e' | e'; exact absurd e' e; exact e')
  · by_cases e1 : k = of_
    · by_cases e2 : k' = of_
      · rw [e1, e2]
      · simp only [if_pos e1, if_neg e2] at e
        have hkk : k' ∈ keys := by rcases mem_ins.1 hk'' with e' | e'; exact absurd e' e2; exact e'
        exact absurd e.symm (hgw (h.inner k' hkk).lt)
    · have hkk : k ∈ keys := by rcases mem_ins.1 hk' with e' | e'; exact absurd e' e1; exact e'
      by_cases e2 : k' = of_
      · simp only [if_pos e2, if_neg e1] at e
        exact absurd e (hgw (h.inner k hkk).lt)
      · simp only [if_neg e2, if_neg e1] at e
        have hkk' : k' ∈ keys := by rcases mem_ins.1 hk'' with e' | e'; exact absurd e' e2; exact e'
        exact h.inj k hkk k' hkk' e
  · unfold added
    split
    · exact rising_ins (h.rises k)
    · exact h.rises k
  · unfold added
    by_cases e : k = of_
    · subst e
      rw [if_pos rfl]
      exact ⟨fun _ => ins_ne _ _, fun _ => mem_ins.2 (.inl rfl)⟩
    · rw [if_neg e]
      exact ⟨fun hh => (h.some k).1 (by rcases mem_ins.1 hh with e' | e'; exact absurd e' e; exact e'), fun hh => mem_ins.2 (.inr ((h.some k).2 hh))⟩
  · rcases mem_ins.1 hk' with rfl | e'
    · exact HW.out
    · exact h.wf k e'
  · unfold added at hx
    split at hx
    · rcases mem_ins.1 hx with rfl | hx
      · exact ho
      · exact h.wfs k x hx
    · exact h.wfs k x hx

theorem add_calls (of_ on_ : Int) (h1 : 1 ≤ on_) (h2 : on_ < of_) (ho : (Lit.int .i64 on_).wf = true) (hw : (Lit.int .i64 of_).wf = true) (w : World) (h : Dep w base p b n keys B W) (hn : n < 1000) (hb0 : base ≤ w.heap.size) :
    Calls Try.prog 21 #[.pointer (some ⟨p, 0, none⟩), .int .i64 of_, .int .i64 on_] w fun e w' => e = .returned (.bool true) ∧ (∃ B', Dep w' base p b (n + 1) (ins of_ keys) B' (added W of_ on_) ∧ (∀ g, Lies p b (ins of_ keys) B' g → Lies p b keys B g ∨ w.heap.size ≤ g)) ∧ Kept w w' (Lies p b keys B) ∧ Still w w' := by
  by_cases hin : of_ ∈ keys
  · refine (add_old of_ on_ h1 h2 ho hw w h hin hn).mono ?_
    rintro e w' ⟨he, hd, hk⟩
    refine ⟨he, ⟨B, ?_, ?_⟩, hk⟩
    · rw [ins_mem h.rise hin]; exact hd
    · rw [ins_mem h.rise hin]; exact fun g hg => .inl hg
  · refine (add_new of_ on_ h1 h2 ho hw w h hin hn hb0).mono ?_
    rintro e w' ⟨he, hd, hk⟩
    refine ⟨he, ⟨_, hd, fun g hg => ?_⟩, hk⟩
    rcases hg with e | e | ⟨k, hk', e⟩
    · exact .inl (.inl e)
    · exact .inl (.inr (.inl e))
    · by_cases e1 : k = of_
      · simp only [if_pos e1] at e
        exact .inr (by omega)
      · simp only [if_neg e1] at e
        exact .inl (.inr (.inr ⟨k, by rcases mem_ins.1 hk' with e' | e'; exact absurd e' e1; exact e', e⟩))
end Go.Proofs.Ytjoafadhcdipnaa
