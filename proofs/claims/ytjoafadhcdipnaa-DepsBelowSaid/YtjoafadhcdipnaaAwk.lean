/- The document's example for layer 12; DepsNobody. -/
import Derived.Test.YtjoafadhcdipnaaDrw
import Derived.Test.YtjoafadhcdipnaaRel
namespace Go.Proofs.Ytjoafadhcdipnaa
open Go.RowKit Go.Maps T Go.Proofs.YtjoafadhcdipnaaW.PrintWords Go.Proofs.YtjoafadhcdipnaaW.PrintLast Go.Proofs.YtjoafadhcdipnaaW.PrintMore
attribute [local go_sem] max2_int min2_int max_two min_two max_three min_three max_four min_four
set_option linter.unusedVariables false

/-- One that the call has made: its state, and that all else stands. -/
structure DS (w0 w : World) (p b n : Nat) (keys : List Int) (B : Int → Nat) (W : Int → List Int) : Prop where
  dep : Dep w w0.heap.size p b n keys B W
  below : Below w0.heap.size w0 w
theorem DS.go {w0 w w' : World} {p b n : Nat} {keys : List Int} {B : Int → Nat} {W : Int → List Int} (h : DS w0 w p b n keys B W) (hb : Below w.heap.size w w') : DS w0 w' p b n keys B W :=
  ⟨h.dep.below hb, h.below.trans (hb.mono h.below.size)⟩
theorem DS.next {w0 w w' : World} {p b n n' : Nat} {keys keys' : List Int} {B B' : Int → Nat} {W W' : Int → List Int} (h : DS w0 w p b n keys B W) (hd : Dep w' w0.heap.size p b n' keys' B' W') (hk : Kept w w' (Lies p b keys B)) (hq : Still w w') : DS w0 w' p b n' keys' B' W' :=
  ⟨hd, h.below.trans (hq.to hk h.below.size (fun g hg => h.dep.old hg))⟩
theorem Dep.base_le {w : World} {base base' p b n : Nat} {keys : List Int} {B : Int → Nat} {W : Int → List Int} (h : Dep w base p b n keys B W) (hb : base' ≤ base) : Dep w base' p b n keys B W :=
  ⟨h.box, h.own, h.inner, fun k hk => ⟨(h.apart k hk).1, (h.apart k hk).2.1, Nat.le_trans hb (h.apart k hk).2.2⟩, h.inj, Nat.le_trans hb h.basep, Nat.le_trans hb h.baseb, h.rise, h.rises, h.some, h.wf, h.wfs⟩
theorem DS.made {w0 w w' : World} (h0 : Below w0.heap.size w0 w) (h : Dep w' w.heap.size (w.heap.size + 1) w.heap.size 0 [] (fun _ => 0) (fun _ => [])) (hb : Below w.heap.size w w') : DS w0 w' (w.heap.size + 1) w.heap.size 0 [] (fun _ => 0) (fun _ => []) :=
  ⟨h.base_le h0.size, h0.trans (hb.mono h0.size)⟩

theorem C_ints (w : World) (g : Nat) (xs : List Int) (t : TypeId) (hl : xs.length ≤ 1000) (h : w.heap[g]? = some (.cells (xs.map (Value.int .i64)).toArray t (0, 0))) : Kd.C (Kd.int .i64) w (some ⟨g, 0, none⟩) xs.length xs := by
  refine ⟨rfl, by omega, fun _ => ⟨⟨g, 0, none⟩, rfl, fun j p hj => ⟨[.int .i64 p], rfl, rfl, fun i u hu => ?_⟩⟩⟩
  cases i with
  | succ i => simp at hu
  | zero =>
    have hu' : Value.int .i64 p = u := by simpa using hu
    subst hu'
    show w.cell? (Addr.add ⟨g, 0, none⟩ (j * 1 + 0)) = _
    have := blk_cell h j
    simp only [List.getElem?_toArray, List.getElem?_map, hj, Option.map_some] at this
    have e : Addr.add ⟨g, 0, none⟩ (j * 1 + 0) = ⟨g, j, none⟩ := by
      cases j with
      | zero => rfl
      | succ j => simp [Addr.add]
    rw [e]
    simpa using this

theorem same_calls {w : World} {A A' : Option Addr} {c c' : Nat} {l : List Int} (hl : l.length ≤ 1000) (h : Kd.C (Kd.int .i64) w A l.length l) (hc : l.length ≤ c) (h' : Kd.C (Kd.int .i64) w A' l.length l) (hc' : l.length ≤ c') :
    Calls Try.prog 13 #[.slice A l.length c, .slice A' l.length c'] w fun e w' => e = .returned (.bool true) ∧ Below w.heap.size w w' :=
  (ogiveref12_Same.calls 2000 A c l A' c' l true w h hc h' hc' (same_tells l (by omega) 2000 (by omega))).mono fun e w' h => ⟨h.1, h.2.below⟩

set_option maxRecDepth 100000 in
set_option maxHeartbeats 4000000 in
theorem awake_calls (w : World) : Calls Try.prog 9 #[] w fun e w' => e = .returned (.bool true) ∧ Below w.heap.size w w' := by
  go_enter Try.func9, Try.ntmps9
  go_wp2_with fail
  refine (new_calls _).mono ?_
  rintro e w1 ⟨rfl, hd, hb⟩
  have HS := Aside0.mk (DS.made (Below.refl _ w) hd hb)
  obtain ⟨p, hp⟩ : ∃ p, w.heap.size + 1 = p := ⟨_, rfl⟩
  obtain ⟨b, hbb⟩ : ∃ b, w.heap.size = b := ⟨_, rfl⟩
  have HZ := Aside0.mk hbb
  rw [hp, show DS w w1 p w.heap.size 0 [] (fun _ => 0) (fun _ => []) = DS w w1 p b 0 [] (fun _ => 0) (fun _ => []) by rw [hbb]] at HS
  rw [hp]
  clear hd hb hp hbb
  go_wp2_with fail
  refine (add_calls 3 2 (by omega) (by omega) (by decide) (by decide) _ HS.out.dep (by omega) HS.out.below.size).mono ?_
  rintro e w2 ⟨rfl, ⟨B2, hd, _⟩, hk, hq⟩
  have HS2 := Aside0.mk (HS.out.next hd hk hq)
  clear hd hk hq HS
  go_wp2_with fail
  refine (add_calls 2 1 (by omega) (by omega) (by decide) (by decide) _ HS2.out.dep (by omega) HS2.out.below.size).mono ?_
  rintro e w3 ⟨rfl, ⟨B3, hd, _⟩, hk, hq⟩
  have HS3 := Aside0.mk (HS2.out.next hd hk hq)
  clear hd hk hq HS2
  go_wp2_with fail
  refine (add_no 1 1 (by omega) p _).mono ?_
  rintro e w4 ⟨rfl, rfl⟩
  obtain ⟨W, hW⟩ : ∃ W, added (added (fun _ => []) 3 2) 2 1 = W := ⟨_, rfl⟩
  have hW3 : W 3 = [2] := by rw [← hW]; rfl
  have hK : ins 2 (ins 3 []) = [2, 3] := by rfl
  have hG : gall W [2, 3] 1 = [1, 2, 3] := by rw [← hW]; rfl
  have hD : keysD [2, 3] W [1, 2, 3] = [] := by rw [← hW]; rfl
  rw [hW, hK] at HS3
  have HG := Aside0.mk hG
  have HD := Aside0.mk hD
  have HW3 := Aside0.mk hW3
  clear hW hW3 hK hG hD
  go_wp2_with fail
  refine (waits_calls 3 (by decide) _ HS3.out.dep (by omega)).mono ?_
  rintro e w5 ⟨v, rfl, hR, hb⟩
  rw [HW3.out] at hR
  obtain ⟨A5, c5, rfl⟩ := Kd.R_slice hR
  have HS5 := Aside0.mk (HS3.out.go hb)
  obtain ⟨_, _, hC⟩ := Kd.R_reads' hR
  obtain ⟨ad, rfl, hx⟩ := il_at hC 0 (by omega) (by simp)
  have hx0 : w5.cell? ad = some (.int .i64 2) := by simpa [Addr.add] using hx
  have hl5 : ([2] : List Int).length = 1 := rfl
  clear hR hb hC hx HS3
  go_wp2_with fail
  refine (drop_calls 1 (by omega) (by decide) _ HS5.out.dep (by omega)).mono ?_
  rintro e w6 ⟨⟨v, rfl, hR⟩, hd, hk, hq⟩
  rw [HG.out] at hR hd
  rw [HD.out] at hd
  obtain ⟨A6, c6, rfl⟩ := Kd.R_slice hR
  have HS6 := Aside0.mk (HS5.out.next hd hk hq)
  have HR6 := Aside0.mk hR
  clear hR hd hk hq HS5 hx0
  go_wp2_with fail
  refine (same_calls (l := [1, 2, 3]) (by simp) (Kd.R_reads' (Kd.R_alloc HR6.out _)).2.2 (Kd.R_reads' HR6.out).2.1 (C_ints _ _ [1, 2, 3] 2 (by simp) (blk_new _ _)) (Nat.le_refl _)).mono ?_
  rintro e w7 ⟨rfl, hb7⟩
  have HS7 := Aside0.mk ((HS6.out.go ((Below.refl _ _).alloc (Nat.le_refl _) _)).go hb7)
  clear hb7 HS6 HR6
  go_wp2_with fail
  refine (all_calls _ HS7.out.dep (by omega)).mono ?_
  rintro e w8 ⟨v, rfl, hR, hb⟩
  obtain ⟨A8, c8, rfl⟩ := Kd.R_slice hR
  have HS8 := Aside0.mk (HS7.out.go hb)
  clear hR hb HS7
  go_wp2
  go_ret
  exact ⟨rfl, HS8.out.below⟩

set_option maxRecDepth 100000 in
set_option maxHeartbeats 4000000 in
theorem nobody_calls (x y : Int) (w0 : (Lit.int .i64 x).wf = true) (w1 : (Lit.int .i64 y).wf = true) (w : World) : Calls Try.prog 8 #[.int .i64 x, .int .i64 y] w fun e w' => e = .returned (.bool true) ∧ Below w.heap.size w w' := by
  have HX := Aside0.mk w0
  have HY := Aside0.mk w1
  clear w0 w1
  go_enter Try.func8, Try.ntmps8
  go_wp2_with fail
  refine (awake_calls _).mono ?_
  rintro e w1 ⟨rfl, hb1⟩
  have HB := Aside0.mk hb1
  clear hb1
  go_wp2_with fail
  refine (settle_nil x _).mono ?_
  rintro e w2 ⟨rfl, rfl⟩
  go_wp2_with fail
  refine (new_calls _).mono ?_
  rintro e w3 ⟨rfl, hd, hb⟩
  have HS := Aside0.mk (DS.made HB.out hd hb)
  obtain ⟨p, hp⟩ : ∃ p, w2.heap.size + 1 = p := ⟨_, rfl⟩
  rw [hp] at HS ⊢
  clear hd hb hp HB
  by_cases h : 1 ≤ y ∧ y < x
  · have h1 : 1 ≤ y := h.1
    have h2 : y < x := h.2
    have d1 : decide (y ≥ 1) = true := decide_eq_true h1
    have d2 : decide (y < x) = true := decide_eq_true h2
    clear h
    go_wp2_with fail
    refine (add_calls x y h1 h2 HY.out HX.out _ HS.out.dep (by omega) HS.out.below.size).mono ?_
    rintro e w4 ⟨rfl, ⟨B2, hd, _⟩, hk, hq⟩
    have HS2 := Aside0.mk (HS.out.next hd hk hq)
    clear hd hk hq HS
    go_wp2_with fail
    refine (add_nil x y _).mono ?_
    rintro e w5 ⟨rfl, rfl⟩
    go_wp2_with fail
    refine (drop_nil x _).mono ?_
    rintro e w5 ⟨rfl, rfl⟩
    go_wp2_with fail
    refine (waits_nil x _).mono ?_
    rintro e w5 ⟨rfl, rfl⟩
    go_wp2_with fail
    refine (all_nil _).mono ?_
    rintro e w5 ⟨rfl, rfl⟩
    go_wp2_with fail
    refine (all_calls _ HS2.out.dep (by omega)).mono ?_
    rintro e w6 ⟨v, rfl, hR, hb⟩
    obtain ⟨A8, c8, rfl⟩ := Kd.R_slice hR
    have HS3 := Aside0.mk (HS2.out.go hb)
    have hl : (ins x []).length = 1 := rfl
    rw [hl]
    clear hR hb HS2 hl
    go_wp2_with fail
    refine (ogivelaw12_one.calls true 1 _ rfl).mono ?_
    rintro e w7 ⟨rfl, hb⟩
    have HS4 := Aside0.mk (HS3.out.go hb.below)
    clear hb HS3
    go_wp2
    go_ret
    exact ⟨rfl, HS4.out.below⟩
  · go_wp2_with fail
    refine (add_no x y h _ _).mono ?_
    rintro e w4 ⟨rfl, rfl⟩
    go_wp2_with fail
    refine (add_nil x y _).mono ?_
    rintro e w5 ⟨rfl, rfl⟩
    go_wp2_with fail
    refine (drop_nil x _).mono ?_
    rintro e w5 ⟨rfl, rfl⟩
    go_wp2_with fail
    refine (waits_nil x _).mono ?_
    rintro e w5 ⟨rfl, rfl⟩
    go_wp2_with fail
    refine (all_nil _).mono ?_
    rintro e w5 ⟨rfl, rfl⟩
    have HH := Aside0.mk h
    by_cases h1 : y ≥ 1
    · have d1 : decide (y ≥ 1) = true := decide_eq_true h1
      have d2 : decide (y < x) = false := decide_eq_false (by omega)
      clear h
      go_wp2_with fail
      refine (all_calls _ HS.out.dep (by omega)).mono ?_
      rintro e w6 ⟨v, rfl, hR, hb⟩
      obtain ⟨A8, c8, rfl⟩ := Kd.R_slice hR
      have HS3 := Aside0.mk (HS.out.go hb)
      clear hR hb HS
      go_wp2_with fail
      refine (ogivelaw12_one.calls false 0 _ rfl).mono ?_
      rintro e w7 ⟨rfl, hb⟩
      have HS4 := Aside0.mk (HS3.out.go hb.below)
      clear hb HS3
      go_wp2
      go_ret
      exact ⟨rfl, HS4.out.below⟩
    · have d1 : decide (y ≥ 1) = false := decide_eq_false h1
      clear h
      go_wp2_with fail
      refine (all_calls _ HS.out.dep (by omega)).mono ?_
      rintro e w6 ⟨v, rfl, hR, hb⟩
      obtain ⟨A8, c8, rfl⟩ := Kd.R_slice hR
      have HS3 := Aside0.mk (HS.out.go hb)
      clear hR hb HS
      go_wp2_with fail
      refine (ogivelaw12_one.calls false 0 _ rfl).mono ?_
      rintro e w7 ⟨rfl, hb⟩
      have HS4 := Aside0.mk (HS3.out.go hb.below)
      clear hb HS3
      go_wp2
      go_ret
      exact ⟨rfl, HS4.out.below⟩
end Go.Proofs.Ytjoafadhcdipnaa
