/- Drop, walked. -/
import Derived.Test.YtjoafadhcdipnaaDrp
namespace Go.Proofs.Ytjoafadhcdipnaa
open Go.RowKit Go.Maps Go.Proofs.YtjoafadhcdipnaaW.PrintWords Go.Proofs.YtjoafadhcdipnaaW.PrintLast Go.Proofs.YtjoafadhcdipnaaW.PrintMore
set_option linter.unusedVariables false
variable {base p b n : Nat} {keys : List Int} {B : Int → Nat} {W : Int → List Int}

theorem drop_no (ts : Int) (h : ts < 1) (g : Nat) (w : World) : Calls Try.prog 18 #[.pointer (some ⟨g, 0, none⟩), .int .i64 ts] w fun e w' => e = .returned (.slice none 0 0) ∧ w' = w := by
  have d1 : decide (ts < 1) = true := decide_eq_true h
  clear h
  go_enter Try.func18, Try.ntmps18
  go_wp2
  go_ret
  exact ⟨rfl, rfl⟩

set_option maxRecDepth 100000 in
set_option maxHeartbeats 4000000 in
theorem drop_calls (ts : Int) (h1 : 1 ≤ ts) (hw : (Lit.int .i64 ts).wf = true) (w : World) (h : Dep w base p b n keys B W) (hn : n ≤ 1000) :
    Calls Try.prog 18 #[.pointer (some ⟨p, 0, none⟩), .int .i64 ts] w fun e w' => (∃ v, e = .returned v ∧ Kd.R (Kd.int .i64) 2 w' w.heap.size (fun _ => True) v (gall W keys ts)) ∧ Dep w' base p b n (keysD keys W (gall W keys ts)) B (dropped W (gall W keys ts)) ∧ Kept w w' (Lies p b keys B) ∧ Still w w' := by
  have hmm := @run_makeMap Try.prog
  have d1 : decide (ts < 1) = false := decide_eq_false (by omega)
  obtain ⟨w1, hrun, hown, hb1, hg1⟩ := lit_one ts hw w
  obtain ⟨gb, hgb⟩ : ∃ g, w.heap.size = g := ⟨_, rfl⟩
  rw [hgb] at hrun hown hg1
  have HGB := Aside0.mk hgb
  have HK := Aside0.mk h
  have HLK := Aside0.mk (show keys.length ≤ n by have := h.own.size_le; rwa [O_size] at this)
  have HLW := Aside0.mk (show ∀ k ∈ keys, (W k).length ≤ n from fun k hk => by have := (h.inner k hk).size_le; rwa [D_size] at this)
  have HO1 := Aside0.mk hown
  have HB1 := Aside0.mk hb1
  have HG1 := Aside0.mk hg1
  have HTS := Aside0.mk hw
  clear h h1 hown hb1 hg1 hw
  go_enter Try.func18, Try.ntmps18
  go_wp2_with fail
  refine (all_calls _ (HK.out.below HB1.out) (by omega)).mono ?_
  rintro e w2 ⟨v, rfl, hR, hb⟩
  obtain ⟨A, c, rfl⟩ := Kd.R_slice hR
  have HR2 := Aside0.mk (show Kd.R (Kd.int .i64) 2 w2 w.heap.size (fun k => k ≠ gb) (.slice A keys.length c) keys from Kd.R_mono (R_lower hR HB1.out.size) (fun k hk => by have h1 := HG1.out; omega))
  have HB2 := Aside0.mk (HB1.out.trans (hb.mono HB1.out.size))
  have HO2 := Aside0.mk (show Own w2 gb 1 [ts] from HO1.out.kept (Kept.of_below hb (fun _ => False)) (fun e => e))
  have HX := Aside0.mk (show (keys.length : Int) ≤ 1000 by have := HLK.out; omega)
  clear hR hb HO1 HB1 hrun
  go_wp2
  go_loopg [25] keys.length (fun g v25 w' => ∃ (j : Int) (gone : List Int), v25 = .int .i64 j ∧ Aside0 (0 ≤ j ∧ j + g = keys.length ∧ gone = (keys.take j.toNat).foldl (gstep W) [ts]) ∧ Aside0 (Below w.heap.size w w') ∧ Aside0 (Kd.R (Kd.int .i64) 2 w' w.heap.size (fun k => k ≠ gb) (.slice A keys.length c) keys) ∧ Aside0 (Own w' gb gone.length gone))
  case atStart => exact ⟨0, [ts], rfl, ⟨by simp⟩, HB2, HR2, HO2⟩
  case round =>
    clear HB2 HR2 HO2
    obtain ⟨j, gone, rfl, HJ, HB, HR, HO⟩ := hrel
    have hj := HJ.out
    have hx := HX.out
    cases gk with
    | zero =>
      have d2 : decide (j < (keys.length : Int)) = false := decide_eq_false (by omega)
      have hjn : j.toNat = keys.length := by omega
      have hgo : gone = gall W keys ts := by rw [hj.2.2, hjn, List.take_length]; rfl
      subst hgo
      have HF := Aside0.mk (gfold W keys [ts] (rising_one ts))
      clear hj hx hjn
      go_wp2_with fail
      refine (keysA_calls _ _).mono ?_
      rintro e w3 ⟨rfl, rfl⟩
      have HC := Aside0.mk (show (wr.alloc (.cells #[.map (some gb)] 58)).cell? ⟨wr.heap.size, 0, none⟩ = some (.map (some gb)) from blk_cell (blk_new _ _) 0)
      have HO3 := Aside0.mk (show Own (wr.alloc (.cells #[.map (some gb)] 58)) gb _ (gall W keys ts) from World.ownsMap.alloc HO.out _)
      go_wp2_with fail
      refine (sortedA_calls _ (by simp) HC.out HO3.out HF.out.1 (by have h1 := HF.out.2.1; have h2 := HLK.out; unfold gall; simp at h1; omega)).mono ?_
      rintro e w4 ⟨v, rfl, hR, hb⟩
      obtain ⟨A4, c4, rfl⟩ := Kd.R_slice hR
      have hba := HB.out.alloc HB.out.size (.cells #[.map (some gb)] 58)
      have hb4 : Below w.heap.size w w4 := hba.trans (hb.mono hba.size)
      have HR4 := Aside0.mk (Kd.R_mono (R_lower hR (show w.heap.size ≤ _ from hba.size)) (fun k hk => Nat.le_trans hba.size hk))
      have HB4 := Aside0.mk hb4
      have HL4 := Aside0.mk (show (gall W keys ts).length ≤ 1001 by have h1 := HF.out.2.1; have h2 := HLK.out; unfold gall; simp at h1; omega)
      have HD4 := Aside0.mk (HK.out.below hb4)
      have HWF := Aside0.mk (show ∀ x ∈ gall W keys ts, (Lit.int .i64 x).wf = true from fun x hx => by
        rcases HF.out.2.2 x hx with h | h
        · rw [List.mem_singleton.1 h]; exact HTS.out
        · exact HK.out.wf x h)
      clear hR hb hba hb4 HC HO3 HB HR HO HJ
      obtain ⟨l, hl⟩ : ∃ l, gall W keys ts = l := ⟨_, rfl⟩
      rw [hl] at HR4 HL4 HWF ⊢
      have HLE := Aside0.mk hl
      clear hl HF
      have hx4 : (l.length : Int) ≤ 1001 := by have := HL4.out; omega
      go_wp2
      go_loopg [49] l.length (fun g v49 w' => ∃ (j : Int), v49 = .int .i64 j ∧ Aside0 (0 ≤ j ∧ j + g = l.length) ∧ Aside0 (Dep w' base p b n (keysD keys W (l.take j.toNat)) B (dropped W (l.take j.toNat))) ∧ Aside0 (Kept w w' (Lies p b keys B) ∧ Still w w') ∧ Aside0 (Kd.R (Kd.int .i64) 2 w' w.heap.size (fun k => w.heap.size ≤ k) (.slice A4 l.length c4) l))
      case atStart => exact ⟨0, rfl, ⟨by simp⟩, ⟨by rw [Int.toNat_zero, List.take_zero, dropped_nil, keysD_nil HK.out.some]; exact HD4.out⟩, ⟨Kept.of_below HB4.out _, Still.below HB4.out⟩, HR4⟩
      case round =>
        clear HD4 HB4 HR4
        obtain ⟨j, rfl, HJ, HD, HKP, HR⟩ := hrel
        have hj := HJ.out
        cases gk with
        | zero =>
          have d3 : decide (j < (l.length : Int)) = false := decide_eq_false (by omega)
          have hjn : j.toNat = l.length := by omega
          have HD5 := Aside0.mk (show Dep wr base p b n (keysD keys W l) B (dropped W l) by have := HD.out; rwa [hjn, List.take_length] at this)
          clear hj hjn HD HJ
          go_wp2
          go_ret
          rw [HLE.out]
          exact ⟨⟨_, rfl, Kd.R_mono HR.out (fun _ _ => trivial)⟩, HD5.out, HKP.out.1, HKP.out.2⟩
        | succ g =>
          have h0 : 0 ≤ j := hj.1
          have h1 : j < (l.length : Int) := by omega
          have d3 : decide (j < (l.length : Int)) = true := decide_eq_true h1
          have e5 : wrap64 (j + 1) = j + 1 := by unfold wrap64; omega
          obtain ⟨_, _, hC⟩ := Kd.R_reads' HR.out
          obtain ⟨ad, e, hxx⟩ := il_at hC j h0 h1
          subst e
          have hts := take_snoc l j.toNat (by omega)
          have hmem := getD_mem l j.toNat (by omega)
          obtain ⟨x, hxe⟩ : ∃ x, l.getD j.toNat 0 = x := ⟨_, rfl⟩
          rw [hxe] at hxx hts hmem
          have HT := Aside0.mk hts
          have HWX := Aside0.mk (HWF.out x hmem)
          clear hC hts hmem hxe hj
          go_wp2_with fail
          refine (settle_calls HWX.out _ HD.out).mono ?_
          rintro e w5 ⟨rfl, hd, hk, hq⟩
          have HD5 := Aside0.mk (show Dep w5 base p b n (keysD keys W (l.take (j.toNat + 1))) B (dropped W (l.take (j.toNat + 1))) by rw [HT.out, ← stay_dropped, ← settled_dropped]; exact hd)
          have hk' : Kept wr w5 (Lies p b keys B) := hk.mono (fun k hk => by
            rcases hk with e | e | ⟨q, hq, e⟩
            · exact .inl e
            · exact .inr (.inl e)
            · exact .inr (.inr ⟨q, (List.mem_filter.1 hq).1, e⟩))
          have HKP5 := Aside0.mk (show Kept w w5 (Lies p b keys B) ∧ Still w w5 from ⟨HKP.out.1.then_ hk' (fun k hk => .inl hk), HKP.out.2.trans hq⟩)
          have HR5 := Aside0.mk (Kd.R_step HR.out (fun k hk hlt => hk'.2 k hlt (fun hh => by have := HK.out.lt hh; omega)))
          clear hd hk hk' hq HD HKP HR hxx
          go_wp2
          go_roundg g
          case measure => omega
          case rel => exact ⟨j + 1, (by first | rfl | rw [e5]), ⟨by have := HJ.out; push_cast at this ⊢; omega⟩, ⟨by rw [show (j + 1).toNat = j.toNat + 1 by omega]; exact HD5.out⟩, HKP5, HR5⟩
    | succ g =>
      have h0 : 0 ≤ j := hj.1
      have h1 : j < (keys.length : Int) := by omega
      have d2 : decide (j < (keys.length : Int)) = true := decide_eq_true h1
      have e5 : wrap64 (j + 1) = j + 1 := by unfold wrap64; omega
      obtain ⟨_, _, hC⟩ := Kd.R_reads' HR.out
      obtain ⟨ad, e, hxx⟩ := il_at hC j h0 h1
      subst e
      have hts := take_snoc keys j.toNat (by omega)
      have hmem := getD_mem keys j.toNat (by omega)
      obtain ⟨x, hxe⟩ : ∃ x, keys.getD j.toNat 0 = x := ⟨_, rfl⟩
      rw [hxe] at hxx hts hmem
      have HT := Aside0.mk hts
      have HM := Aside0.mk hmem
      have HGF := Aside0.mk (gfold W (keys.take j.toNat) [ts] (rising_one ts))
      have HGE := Aside0.mk hj.2.2
      clear hC hts hmem hxe hj hx
      go_wp2_with fail
      refine (waits_calls x (HK.out.wf x HM.out) _ (HK.out.below HB.out) (by omega)).mono ?_
      rintro e w3 ⟨v, rfl, hR, hb⟩
      obtain ⟨A3, c3, rfl⟩ := Kd.R_slice hR
      have HR3 := Aside0.mk (show Kd.R (Kd.int .i64) 2 w3 w.heap.size (fun k => k ≠ gb) (.slice A3 (W x).length c3) (W x) from Kd.R_mono (R_lower hR HB.out.size) (fun k hk => by have h1 := HO.out.lt; omega))
      have HRK := Aside0.mk (Kd.R_below HR.out hb)
      have HB3 := Aside0.mk (HB.out.trans (hb.mono HB.out.size))
      have HO3 := Aside0.mk (show Own w3 gb gone.length gone from HO.out.kept (Kept.of_below hb (fun _ => False)) (fun e => e))
      have HLX := Aside0.mk (show (W x).length ≤ 1000 by have := HLW.out x HM.out; omega)
      have hx3 : ((W x).length : Int) ≤ 1000 := by have := HLX.out; omega
      clear hR hb hxx HR HB HO
      go_wp2
      go_loopg [33] (W x).length (fun g v33 w' => ∃ (q : Int) (gg : List Int), v33 = .int .i64 q ∧ Aside0 (0 ≤ q ∧ q + g = (W x).length ∧ gg = gpart ((W x).take q.toNat) x gone) ∧ Aside0 (Below w.heap.size w w') ∧ Aside0 (Kd.R (Kd.int .i64) 2 w' w.heap.size (fun k => k ≠ gb) (.slice (some ad) keys.length c) keys) ∧ Aside0 (Kd.R (Kd.int .i64) 2 w' w.heap.size (fun k => k ≠ gb) (.slice A3 (W x).length c3) (W x)) ∧ Aside0 (Own w' gb gg.length gg))
      case atStart => exact ⟨0, gone, rfl, ⟨by simp [gpart]⟩, HB3, HRK, HR3, HO3⟩
      case round =>
        clear HB3 HRK HR3 HO3
        obtain ⟨q, gg, rfl, HQ, HB, HRK, HR, HO⟩ := hrel
        have hq := HQ.out
        cases gk with
        | zero =>
          have d4 : decide (q < ((W x).length : Int)) = false := decide_eq_false (by omega)
          have hqn : q.toNat = (W x).length := by omega
          have hgg : gg = gstep W gone x := by rw [hq.2.2, hqn, List.take_length]; rfl
          have HE := Aside0.mk (show gg = (keys.take (j.toNat + 1)).foldl (gstep W) [ts] by rw [hgg, HT.out, List.foldl_append, ← HGE.out]; rfl)
          clear hq hqn hgg
          go_wp2
          go_roundg g
          case measure => omega
          case rel => exact ⟨j + 1, gg, (by first | rfl | rw [e5]), ⟨by have h1 := HJ.out; have h2 := HE.out; rw [show (j + 1).toNat = j.toNat + 1 by omega]; push_cast at h1 ⊢; exact ⟨by omega, by omega, h2⟩⟩, HB, HRK, HO⟩
        | succ g2 =>
          have q0 : 0 ≤ q := hq.1
          have q1 : q < ((W x).length : Int) := by omega
          have d4 : decide (q < ((W x).length : Int)) = true := decide_eq_true q1
          have e6 : wrap64 (q + 1) = q + 1 := by unfold wrap64; omega
          obtain ⟨_, _, hC⟩ := Kd.R_reads' HR.out
          obtain ⟨ad2, e, hyy⟩ := il_at hC q q0 q1
          subst e
          have hts := take_snoc (W x) q.toNat (by omega)
          have hmem := getD_mem (W x) q.toNat (by omega)
          obtain ⟨y, hye⟩ : ∃ y, (W x).getD q.toNat 0 = y := ⟨_, rfl⟩
          rw [hye] at hyy hts hmem
          have HT2 := Aside0.mk hts
          have HM2 := Aside0.mk hmem
          have hgr : Rising gone := by rw [HGE.out]; exact HGF.out.1
          have HGR := Aside0.mk hgr
          have HQG := Aside0.mk hq.2.2
          have hlk := look_set HO.out y (HK.out.wfs x y hmem)
          clear hC hts hmem hye hq hgr
          by_cases hin : y ∈ gg
          · rw [decide_eq_true hin] at hlk
            have HIN := Aside0.mk hin
            have hkx := keyOf_int_mk (k := 2) Try.underlying2 (HK.out.wf x HM.out)
            have HP := Aside0.mk (D_put (l := gg) (by rw [HQG.out]; exact gpart_rising HGR.out) x)
            have HLG := Aside0.mk (show gg.length < 5000 by
              have h1 := gpart_len ((W x).take q.toNat) gone x
              have h2 := HGF.out.2.1
              rw [← HGE.out, List.length_take] at h2
              have h3 := HLK.out
              rw [HQG.out]
              simp at h2
              omega)
            clear hin
            go_wp2_with (at_mapUpdate; refine HoldC.out ?_)
            constructor
            refine wpList_mapUpdate_own _ rfl _ _ _ 58 rfl 2 4 law2 Try.underlying58 (plainElem (H := Unit) Try.prog 4) gb gg.length (D gg) rfl HO.out (by have := HLG.out; unfold maxLen; omega) _ _ _ rfl rfl hkx (.lit (.bool true)) [] (plainElem_bool Try.underlying4 true) ?_
            intro w4 hown4 hg4
            rw [HP.out] at hown4
            have HO4 := Aside0.mk (Own.exact (show Own w4 gb _ (ins x gg) from hown4))
            have HB4 := Aside0.mk (pw_below_grown HB.out _ HB.out.size hg4 (fun k hk => by injection hk with hk; have := HGB.out; omega))
            have hk4 : Kept wr w4 (fun k => k = gb) := grown_kept hg4 rfl
            have HRK4 := Aside0.mk (Kd.R_step HRK.out (fun k hk hlt => hk4.2 k hlt (fun e => hk e)))
            have HR4 := Aside0.mk (Kd.R_step HR.out (fun k hk hlt => hk4.2 k hlt (fun e => hk e)))
            have HE := Aside0.mk (show ins x gg = gpart ((W x).take (q.toNat + 1)) x gone by
              rw [HT2.out, HQG.out]
              exact gpart_yes HGR.out (by rw [← HQG.out]; exact HIN.out))
            clear hown4 hg4 hk4 hkx hlk hyy
            obtain ⟨g4, hg4⟩ : ∃ y, ins x gg = y := ⟨_, rfl⟩
            rw [hg4] at HO4 HE
            clear hg4
            go_wp2
            go_roundg g2
            case measure => omega
            case rel => exact ⟨q + 1, g4, (by first | rfl | rw [e6]), ⟨by have h1 := HQ.out; have h2 := HE.out; rw [show (q + 1).toNat = q.toNat + 1 by omega]; push_cast at h1 ⊢; exact ⟨by omega, by omega, h2⟩⟩, HB4, HRK4, HR4, HO4⟩
          · rw [decide_eq_false hin] at hlk
            have HE := Aside0.mk (show gg = gpart ((W x).take (q.toNat + 1)) x gone by
              rw [HT2.out]
              exact HQG.out.trans (gpart_no (by rw [← HQG.out]; exact hin)))
            clear hin
            go_wp2
            go_roundg g2
            case measure => omega
            case rel => exact ⟨q + 1, gg, (by first | rfl | rw [e6]), ⟨by have h1 := HQ.out; have h2 := HE.out; rw [show (q + 1).toNat = q.toNat + 1 by omega]; push_cast at h1 ⊢; exact ⟨by omega, by omega, h2⟩⟩, HB, HRK, HR, HO⟩
end Go.Proofs.Ytjoafadhcdipnaa
