/- A deed, of both: the program's state and the document's list tell the same. -/
import Derived.Test.YtjoafadhcdipnaaAwk
namespace Go.Proofs.Ytjoafadhcdipnaa
open Go.RowKit Go.Maps T Go.Proofs.YtjoafadhcdipnaaW.PrintWords Go.Proofs.YtjoafadhcdipnaaW.PrintLast Go.Proofs.YtjoafadhcdipnaaW.PrintMore
attribute [local go_sem] max2_int min2_int max_two min_two max_three min_three max_four min_four
set_option linter.unusedVariables false

/-- Who waits behind a deed, and for whom. -/
def stepK (k a b : Int) (keys : List Int) (W : Int → List Int) : List Int :=
  if k = 1 then (if 1 ≤ b ∧ b < a then ins a keys else keys) else if k = 2 then stay keys W a else if k = 3 then (if 1 ≤ a then keysD keys W (gall W keys a) else keys) else keys
def stepW (k a b : Int) (keys : List Int) (W : Int → List Int) : Int → List Int :=
  if k = 1 then (if 1 ≤ b ∧ b < a then added W a b else W) else if k = 2 then settled W a else if k = 3 then (if 1 ≤ a then dropped W (gall W keys a) else W) else W

/-- Both at once: the program's state, the document's list. -/
structure PS (w0 w : World) (p b n : Nat) (keys : List Int) (B : Int → Nat) (W : Int → List Int) (v : Value) (x : List S53) : Prop where
  ds : DS w0 w p b n keys B W
  row : Kd.V k53 53 w w.heap.size (fun g => ¬ Lies p b keys B g) v x
  rel : Rel x W
  len : x.length ≤ n

theorem PS.go {w0 w w' : World} {p b n : Nat} {keys : List Int} {B : Int → Nat} {W : Int → List Int} {v : Value} {x : List S53} (h : PS w0 w p b n keys B W v x) (hb : Below w.heap.size w w') : PS w0 w' p b n keys B W v x :=
  ⟨h.ds.go hb, Kd.V_below h.row hb, h.rel, h.len⟩

/-- The list's row, behind a deed of the program's. -/
theorem row_next {w0 w w' : World} {p b n : Nat} {keys keys' : List Int} {B B' : Int → Nat} {W : Int → List Int} {v : Value} {x : List S53} (h : PS w0 w p b n keys B W v x) (hk : Kept w w' (Lies p b keys B)) (hl : ∀ g, Lies p b keys' B' g → Lies p b keys B g ∨ w.heap.size ≤ g) :
    Kd.V k53 53 w' w'.heap.size (fun g => ¬ Lies p b keys' B' g) v x :=
  Kd.V_kept (Kd.V_mono (Kd.V_bound h.row) (fun k hk => (⟨fun hh => by
    rcases hl k hh with h1 | h1
    · exact hk.1 h1
    · exact absurd hk.2 (by omega), hk.1⟩ : ¬ Lies p b keys' B' k ∧ ¬ Lies p b keys B k))) hk (fun k hk => hk.2) |> fun hv => Kd.V_mono hv (fun k hk => hk.1)

set_option maxRecDepth 100000 in
set_option maxHeartbeats 4000000 in
theorem do_add {w0 : World} {p b n : Nat} {keys : List Int} {B : Int → Nat} {W : Int → List Int} {v : Value} {x : List S53} (a1 a2 : Int) (hw1 : (Lit.int .i64 a1).wf = true) (hw2 : (Lit.int .i64 a2).wf = true) (w : World) (h : PS w0 w p b n keys B W v x) (hn : n ≤ 90) :
    Calls Try.prog 11 #[.pointer (some ⟨p, 0, none⟩), v, .agg #[.int .i64 1, .int .i64 a1, .int .i64 a2]] w fun e w' => ∃ v' n' x' B', e = .returned (.tuple #[v', .bool true]) ∧ n' ≤ n + 1 ∧ PS w0 w' p b n' (stepK 1 a1 a2 keys W) B' (stepW 1 a1 a2 keys W) v' x' := by
  have HW1 := Aside0.mk hw1
  have HW2 := Aside0.mk hw2
  obtain ⟨A, c, rfl⟩ := Kd.V_slice h.row
  have hH := h.go ((Below.refl _ w).alloc (Nat.le_refl _) (.cells #[.int .i64 1, .int .i64 a1, .int .i64 a2] 30))
  have HQ := Aside0.mk (blk_new w (.cells #[.int .i64 1, .int .i64 a1, .int .i64 a2] 30))
  have HLQ := Aside0.mk (show ∀ g, Lies p b keys B g → g ≠ w.heap.size from fun g hg e => by have := h.ds.dep.lt hg; omega)
  have HX := Aside0.mk (show x.length ≤ 1000 by have := h.len; omega)
  have HH := Aside0.mk hH
  have HA := Aside0.mk (add_tells x a1 a2 HX.out 3000 (by omega))
  clear hw1 hw2 h hH
  have HS1 := Aside0.mk (show stepK 1 a1 a2 keys W = if 1 ≤ a2 ∧ a2 < a1 then ins a1 keys else keys from if_pos rfl)
  have HS2 := Aside0.mk (show stepW 1 a1 a2 keys W = if 1 ≤ a2 ∧ a2 < a1 then added W a1 a2 else W from if_pos rfl)
  by_cases hc : 1 ≤ a2 ∧ a2 < a1
  · have HC := Aside0.mk hc
    have h1 := hc.1
    have h2 := hc.2
    rw [decide_eq_true hc] at HA
    clear hc
    go_enter Try.func11, Try.ntmps11
    go_wp2_with fail
    refine (add_calls a1 a2 h1 h2 HW2.out HW1.out _ HH.out.ds.dep (by omega) HH.out.ds.below.size).mono ?_
    rintro e w2 ⟨rfl, ⟨B2, hd, hl⟩, hk, hq⟩
    have HD2 := Aside0.mk (HH.out.ds.next hd hk hq)
    have HV2 := Aside0.mk (row_next HH.out hk hl)
    have hq2 := blk_kept HQ.out hk (fun hh => HLQ.out _ hh rfl)
    have k0 : w2.cell? ⟨w.heap.size, 1, none⟩ = some (.int .i64 a1) := blk_cell hq2 1
    have k1 : w2.cell? ⟨w.heap.size, 2, none⟩ = some (.int .i64 a2) := blk_cell hq2 2
    clear hd hl hk hq hq2
    go_wp2_with fail
    refine (ogiveref12_Add.calls 3000 _ A c x a1 a2 _ _ _ HV2.out HA.out).mono ?_
    rintro e w3 ⟨v3, rfl, hv, hb⟩
    have HD3 := Aside0.mk (HD2.out.go hb)
    have HV3 := Aside0.mk (show Kd.V k53 53 w3 w3.heap.size (fun g => ¬ Lies p b (ins a1 keys) B2 g) v3 (addX x a1 a2) from Kd.V_mono hv (fun k hk => by
      rcases hk with hk | hk
      · exact hk
      · intro hh; have := HD2.out.dep.lt hh; omega))
    clear hv hb k0 k1 h1 h2
    go_wp2
    refine bodyPost_ret (results_tmp2 rfl _ _ _) rfl ?_
    rw [HS1.out, HS2.out, if_pos HC.out, if_pos HC.out]
    exact ⟨v3, n + 1, addX x a1 a2, B2, rfl, Nat.le_refl _, HD3.out, HV3.out, HH.out.rel.add HC.out.1 HC.out.2, by have h1 := HH.out.len; have h2 := addX_len (x := x) a1 a2; omega⟩
  · have HC := Aside0.mk hc
    have HXX := Aside0.mk (addX_no (x := x) hc)
    rw [decide_eq_false hc] at HA
    go_enter Try.func11, Try.ntmps11
    go_wp2_with fail
    refine (add_no a1 a2 hc _ _).mono ?_
    rintro e w2 ⟨rfl, rfl⟩
    clear hc
    go_wp2_with fail
    refine (ogiveref12_Add.calls 3000 _ A c x a1 a2 _ _ _ HH.out.row HA.out).mono ?_
    rintro e w3 ⟨v3, rfl, hv, hb⟩
    have HD3 := Aside0.mk (HH.out.ds.go hb)
    rw [HXX.out] at hv
    have HV3 := Aside0.mk (show Kd.V k53 53 w3 w3.heap.size (fun g => ¬ Lies p b keys B g) v3 x from Kd.V_mono hv (fun k hk => by
      rcases hk with hk | hk
      · exact hk
      · intro hh; have := HH.out.ds.dep.lt hh; omega))
    clear hv hb
    go_wp2
    refine bodyPost_ret (results_tmp2 rfl _ _ _) rfl ?_
    rw [HS1.out, HS2.out, if_neg HC.out, if_neg HC.out]
    exact ⟨v3, n, x, B, rfl, by omega, HD3.out, HV3.out, HH.out.rel, HH.out.len⟩

theorem withoutX_len (x : List S53) (l : List Int) : (withoutX x l).length ≤ x.length := List.length_filter_le _ _

set_option maxRecDepth 100000 in
set_option maxHeartbeats 4000000 in
theorem do_settle {w0 : World} {p b n : Nat} {keys : List Int} {B : Int → Nat} {W : Int → List Int} {v : Value} {x : List S53} (a1 a2 : Int) (hw1 : (Lit.int .i64 a1).wf = true) (w : World) (h : PS w0 w p b n keys B W v x) (hn : n ≤ 90) :
    Calls Try.prog 11 #[.pointer (some ⟨p, 0, none⟩), v, .agg #[.int .i64 2, .int .i64 a1, .int .i64 a2]] w fun e w' => ∃ v' n' x' B', e = .returned (.tuple #[v', .bool true]) ∧ n' ≤ n + 1 ∧ PS w0 w' p b n' (stepK 2 a1 a2 keys W) B' (stepW 2 a1 a2 keys W) v' x' := by
  have HW1 := Aside0.mk hw1
  obtain ⟨A, c, rfl⟩ := Kd.V_slice h.row
  have hH := h.go ((Below.refl _ w).alloc (Nat.le_refl _) (.cells #[.int .i64 2, .int .i64 a1, .int .i64 a2] 30))
  have HQ := Aside0.mk (blk_new w (.cells #[.int .i64 2, .int .i64 a1, .int .i64 a2] 30))
  have HLQ := Aside0.mk (show ∀ g, Lies p b keys B g → g ≠ w.heap.size from fun g hg e => by have := h.ds.dep.lt hg; omega)
  have HX := Aside0.mk (show x.length ≤ 1000 by have := h.len; omega)
  have HH := Aside0.mk hH
  have HA := Aside0.mk (without_tells x [a1] HX.out (by simp) 3010 (by omega))
  clear hw1 h hH
  have HS1 := Aside0.mk (show stepK 2 a1 a2 keys W = stay keys W a1 from rfl)
  have HS2 := Aside0.mk (show stepW 2 a1 a2 keys W = settled W a1 from rfl)
  go_enter Try.func11, Try.ntmps11
  go_wp2_with fail
  refine (settle_calls HW1.out _ HH.out.ds.dep).mono ?_
  rintro e w2 ⟨rfl, hd, hk, hq⟩
  have HD2 := Aside0.mk (HH.out.ds.next hd hk hq)
  have hsub : ∀ g, Lies p b (stay keys W a1) B g → Lies p b keys B g := fun g hg => by
    rcases hg with e | e | ⟨q, hq, e⟩
    · exact .inl e
    · exact .inr (.inl e)
    · exact .inr (.inr ⟨q, (List.mem_filter.1 hq).1, e⟩)
  have HV2 := Aside0.mk (row_next (keys' := stay keys W a1) (B' := B) HH.out hk (fun g hg => .inl (hsub g hg)))
  have hq2 := blk_kept HQ.out hk (fun hh => HLQ.out _ hh rfl)
  have k0 : w2.cell? ⟨w.heap.size, 1, none⟩ = some (.int .i64 a1) := blk_cell hq2 1
  clear hd hk hq hq2 hsub
  go_wp2_with fail
  have HB3 := Aside0.mk ((Below.refl w2.heap.size w2).alloc (Nat.le_refl _) (.cells #[.int .i64 a1] 2))
  have hv2 := Kd.V_reads' (Kd.V_below HV2.out HB3.out)
  refine (ogiveref12_Without.calls 3010 A c x _ 1 [a1] _ _ hv2.2.2 hv2.2.1 (C_ints _ _ [a1] 2 (by simp) (blk_new _ _)) (Nat.le_refl _) HA.out).mono ?_
  rintro e w3 ⟨v3, rfl, hR, hb⟩
  have HD3 := Aside0.mk ((HD2.out.go HB3.out).go hb)
  have HV3 := Aside0.mk (show Kd.V k53 53 w3 w3.heap.size (fun g => ¬ Lies p b (stay keys W a1) B g) v3 (withoutX x [a1]) from Kd.V_mono (Kd.R_V (Kd.R_newM (M := fun g => ¬ Lies p b (stay keys W a1) B g) hR HB3.out.size (fun k hk hh => by have := HD2.out.dep.lt hh; omega))) (fun k hk => hk.1))
  clear hR hb hv2 k0
  go_wp2
  refine bodyPost_ret (results_tmp2 rfl _ _ _) rfl ?_
  rw [HS1.out, HS2.out]
  exact ⟨v3, n, withoutX x [a1], B, rfl, by omega, HD3.out, HV3.out, HH.out.rel.settle a1, by have h1 := HH.out.len; have h2 := withoutX_len x [a1]; omega⟩

set_option maxRecDepth 100000 in
set_option maxHeartbeats 4000000 in
theorem do_drop {w0 : World} {p b n : Nat} {keys : List Int} {B : Int → Nat} {W : Int → List Int} {v : Value} {x : List S53} (a1 a2 : Int) (hw1 : (Lit.int .i64 a1).wf = true) (w : World) (h : PS w0 w p b n keys B W v x) (hn : n ≤ 90) :
    Calls Try.prog 11 #[.pointer (some ⟨p, 0, none⟩), v, .agg #[.int .i64 3, .int .i64 a1, .int .i64 a2]] w fun e w' => ∃ v' n' x' B', e = .returned (.tuple #[v', .bool true]) ∧ n' ≤ n + 1 ∧ PS w0 w' p b n' (stepK 3 a1 a2 keys W) B' (stepW 3 a1 a2 keys W) v' x' := by
  have HW1 := Aside0.mk hw1
  obtain ⟨A, c, rfl⟩ := Kd.V_slice h.row
  have hH := h.go ((Below.refl _ w).alloc (Nat.le_refl _) (.cells #[.int .i64 3, .int .i64 a1, .int .i64 a2] 30))
  have HQ := Aside0.mk (blk_new w (.cells #[.int .i64 3, .int .i64 a1, .int .i64 a2] 30))
  have HLQ := Aside0.mk (show ∀ g, Lies p b keys B g → g ≠ w.heap.size from fun g hg e => by have := h.ds.dep.lt hg; omega)
  have HX := Aside0.mk (show x.length ≤ 100 by have := h.len; omega)
  have HH := Aside0.mk hH
  have HS1 := Aside0.mk (show stepK 3 a1 a2 keys W = if 1 ≤ a1 then keysD keys W (gall W keys a1) else keys from rfl)
  have HS2 := Aside0.mk (show stepW 3 a1 a2 keys W = if 1 ≤ a1 then dropped W (gall W keys a1) else W from rfl)
  have HE := Aside0.mk (h.rel.gone h.ds.dep.rise h.ds.dep.some a1)
  clear hw1 h hH
  by_cases hc : 1 ≤ a1
  · have HC := Aside0.mk hc
    have HA := Aside0.mk (dropX_tells x a1 HX.out hc 60000 (Nat.le_refl _))
    rw [HE.out] at HA
    have HGL := Aside0.mk (show (gall W keys a1).length ≤ 1000 by
      have h1 := (gfold W keys [a1] (rising_one a1)).2.1
      have h2 := HH.out.ds.dep.own.size_le
      rw [O_size] at h2
      unfold gall
      simp at h1
      omega)
    go_enter Try.func11, Try.ntmps11
    go_wp2_with fail
    refine (drop_calls a1 hc HW1.out _ HH.out.ds.dep (by omega)).mono ?_
    rintro e w2 ⟨⟨vg, rfl, hRg⟩, hd, hk, hq⟩
    clear hc
    obtain ⟨l, hl⟩ : ∃ l, gall W keys a1 = l := ⟨_, rfl⟩
    rw [hl] at hRg hd HA HGL HS1 HS2
    obtain ⟨Ag, cg, rfl⟩ := Kd.R_slice hRg
    have HRG := Aside0.mk hRg
    have HD2 := Aside0.mk (HH.out.ds.next hd hk hq)
    have hsub : ∀ g, Lies p b (keysD keys W l) B g → Lies p b keys B g := fun g hg => by
      rcases hg with e | e | ⟨q, hq, e⟩
      · exact .inl e
      · exact .inr (.inl e)
      · exact .inr (.inr ⟨q, (List.mem_filter.1 hq).1, e⟩)
    have HV2 := Aside0.mk (row_next (keys' := keysD keys W l) (B' := B) HH.out hk (fun g hg => .inl (hsub g hg)))
    have hq2 := blk_kept HQ.out hk (fun hh => HLQ.out _ hh rfl)
    have k0 : w2.cell? ⟨w.heap.size, 1, none⟩ = some (.int .i64 a1) := blk_cell hq2 1
    clear hd hk hq hq2 hsub hRg hl
    go_wp2_with fail
    refine (ogiveref12_Drop.calls 60000 _ A c x a1 _ _ _ HV2.out HA.out).mono ?_
    rintro e w3 ⟨v3, vd, rfl, hv, hvd, hb⟩
    obtain ⟨Ad, cd, rfl⟩ := Kd.V_slice hvd
    have HD3 := Aside0.mk (HD2.out.go hb)
    have HV3 := Aside0.mk (show Kd.V k53 53 w3 w3.heap.size (fun g => ¬ Lies p b (keysD keys W l) B g) v3 (withoutX x l) from Kd.V_mono hv (fun k hk => by
      rcases hk with hk | hk
      · exact hk
      · intro hh; have := HD2.out.dep.lt hh; omega))
    have HRG3 := Aside0.mk (Kd.R_reads' (Kd.R_below HRG.out hb))
    have HVD := Aside0.mk (Kd.V_reads' hvd)
    clear hv hvd hb k0
    go_wp2_with fail
    refine (same_calls HGL.out HRG3.out.2.2 HRG3.out.2.1 HVD.out.2.2 HVD.out.2.1).mono ?_
    rintro e w4 ⟨rfl, hb4⟩
    have HD4 := Aside0.mk (HD3.out.go hb4)
    have HV4 := Aside0.mk (Kd.V_below HV3.out hb4)
    clear hb4
    go_wp2
    refine bodyPost_ret (results_tmp2 rfl _ _ _) rfl ?_
    rw [HS1.out, HS2.out, if_pos HC.out, if_pos HC.out]
    exact ⟨v3, n, withoutX x l, B, rfl, by omega, HD4.out, HV4.out, HH.out.rel.drop l, by have h1 := HH.out.len; have h2 := withoutX_len x l; omega⟩
  · have HC := Aside0.mk hc
    have HA := Aside0.mk (dropX_none x a1 (by omega) 60000)
    go_enter Try.func11, Try.ntmps11
    go_wp2_with fail
    refine (drop_no a1 (by omega) _ _).mono ?_
    rintro e w2 ⟨rfl, rfl⟩
    clear hc
    go_wp2_with fail
    refine (ogiveref12_Drop.calls 60000 _ A c x a1 _ _ _ HH.out.row HA.out).mono ?_
    rintro e w3 ⟨v3, vd, rfl, hv, hvd, hb⟩
    obtain ⟨Ad, cd, rfl⟩ := Kd.V_slice hvd
    have HD3 := Aside0.mk (HH.out.ds.go hb)
    have HV3 := Aside0.mk (show Kd.V k53 53 w3 w3.heap.size (fun g => ¬ Lies p b keys B g) v3 x from Kd.V_mono hv (fun k hk => by
      rcases hk with hk | hk
      · exact hk
      · intro hh; have := HH.out.ds.dep.lt hh; omega))
    have HVD := Aside0.mk (Kd.V_reads' hvd)
    clear hv hvd hb
    go_wp2_with fail
    refine (same_calls (l := []) (by simp) (Kd.C_nil _ _) (Nat.le_refl _) HVD.out.2.2 HVD.out.2.1).mono ?_
    rintro e w4 ⟨rfl, hb4⟩
    have HD4 := Aside0.mk (HD3.out.go hb4)
    have HV4 := Aside0.mk (Kd.V_below HV3.out hb4)
    clear hb4
    go_wp2
    refine bodyPost_ret (results_tmp2 rfl _ _ _) rfl ?_
    have hcc : ¬ 1 ≤ a1 := by have := HC.out; omega
    rw [HS1.out, HS2.out, if_neg hcc, if_neg hcc]
    exact ⟨v3, n, x, B, rfl, by omega, HD4.out, HV4.out, HH.out.rel, HH.out.len⟩

set_option maxRecDepth 100000 in
set_option maxHeartbeats 4000000 in
theorem do_other {w0 : World} {p b n : Nat} {keys : List Int} {B : Int → Nat} {W : Int → List Int} {v : Value} {x : List S53} (a0 a1 a2 : Int) (h1 : a0 ≠ 1) (h2 : a0 ≠ 2) (h3 : a0 ≠ 3) (w : World) (h : PS w0 w p b n keys B W v x) :
    Calls Try.prog 11 #[.pointer (some ⟨p, 0, none⟩), v, .agg #[.int .i64 a0, .int .i64 a1, .int .i64 a2]] w fun e w' => ∃ v' n' x' B', e = .returned (.tuple #[v', .bool true]) ∧ n' ≤ n + 1 ∧ PS w0 w' p b n' (stepK a0 a1 a2 keys W) B' (stepW a0 a1 a2 keys W) v' x' := by
  have e1 : (a0 == 1) = false := by simpa using h1
  have e2 : (a0 == 2) = false := by simpa using h2
  have e3 : (a0 == 3) = false := by simpa using h3
  obtain ⟨A, c, rfl⟩ := Kd.V_slice h.row
  have HH := Aside0.mk (h.go ((Below.refl _ w).alloc (Nat.le_refl _) (.cells #[.int .i64 a0, .int .i64 a1, .int .i64 a2] 30)))
  have HS1 := Aside0.mk (show stepK a0 a1 a2 keys W = keys by unfold stepK; rw [if_neg h1, if_neg h2, if_neg h3])
  have HS2 := Aside0.mk (show stepW a0 a1 a2 keys W = W by unfold stepW; rw [if_neg h1, if_neg h2, if_neg h3])
  clear h h1 h2 h3
  go_enter Try.func11, Try.ntmps11
  go_wp2
  refine bodyPost_ret (results_tmp2 rfl _ _ _) rfl ?_
  rw [HS1.out, HS2.out]
  exact ⟨_, n, x, B, rfl, by omega, HH.out⟩

/-- What a deed tells, and leaves. -/
def Did (w0 : World) (p b n : Nat) (k a1 a2 : Int) (keys : List Int) (W : Int → List Int) (e : Ending) (w' : World) : Prop :=
  ∃ v' n' x' B', e = .returned (.tuple #[v', .bool true]) ∧ n' ≤ n + 1 ∧ PS w0 w' p b n' (stepK k a1 a2 keys W) B' (stepW k a1 a2 keys W) v' x'

theorem do_calls {w0 : World} {p b n : Nat} {keys : List Int} {B : Int → Nat} {W : Int → List Int} {v : Value} {x : List S53} (a0 a1 a2 : Int) (hw1 : (Lit.int .i64 a1).wf = true) (hw2 : (Lit.int .i64 a2).wf = true) (w : World) (h : PS w0 w p b n keys B W v x) (hn : n ≤ 90) :
    Calls Try.prog 11 #[.pointer (some ⟨p, 0, none⟩), v, .agg #[.int .i64 a0, .int .i64 a1, .int .i64 a2]] w (Did w0 p b n a0 a1 a2 keys W) := by
  by_cases h1 : a0 = 1
  · subst h1; exact do_add a1 a2 hw1 hw2 w h hn
  · by_cases h2 : a0 = 2
    · subst h2; exact do_settle a1 a2 hw1 w h hn
    · by_cases h3 : a0 = 3
      · subst h3; exact do_drop a1 a2 hw1 w h hn
      · exact do_other a0 a1 a2 h1 h2 h3 w h
end Go.Proofs.Ytjoafadhcdipnaa
