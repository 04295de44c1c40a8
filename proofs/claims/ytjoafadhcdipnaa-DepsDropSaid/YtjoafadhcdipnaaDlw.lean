/- DepsDrop: who is dropped takes with it just those that wait for it, or for one that goes. -/
import Derived.Test.YtjoafadhcdipnaaTwo
namespace Go.Proofs.Ytjoafadhcdipnaa
open Go.RowKit Go.Maps T Go.Proofs.YtjoafadhcdipnaaW.PrintWords Go.Proofs.YtjoafadhcdipnaaW.PrintLast Go.Proofs.YtjoafadhcdipnaaW.PrintMore
attribute [local go_sem] max2_int min2_int max_two min_two max_three min_three max_four min_four
set_option linter.unusedVariables false

theorem lin_calls {w : World} {A : Option Addr} {c : Nat} {l : List Int} (x : Int) (hl : l.length ≤ 1000) (h : Kd.C (Kd.int .i64) w A l.length l) (hc : l.length ≤ c) :
    Calls Try.prog 19 #[.slice A l.length c, .int .i64 x] w fun e w' => e = .returned (.bool (decide (x ∈ l))) ∧ Below w.heap.size w w' :=
  (ogivelaw12_in.calls 2000 A c l x _ w h hc (lin_tells l x (by omega) 2000 (by omega))).mono fun e w' h => ⟨h.1, h.2.below⟩

set_option maxRecDepth 100000 in
set_option maxHeartbeats 8000000 in
theorem drop_law_no (A1 : Option Addr) (c1 : Nat) (l : List Dd) (ts : Int) (hg : ∀ d ∈ l, goodD d) (ht : ts < 1) (w : World) (hr : Kd.C kdeed w A1 l.length l) (hc : l.length ≤ c1) : Calls Try.prog 5 #[.slice A1 l.length c1, .int .i64 ts] w fun e w' => e = .returned (.bool true) ∧ Below w.heap.size w w' := by
  have HR := Aside0.mk hr
  have HG := Aside0.mk hg
  have HT := Aside0.mk ht
  have d0 : decide (ts < 1) = true := decide_eq_true ht
  clear hr hg ht
  go_enter Try.func5, Try.ntmps5
  go_wp2_with fail
  refine (awake_calls _).mono ?_
  rintro e w1 ⟨rfl, hb1⟩
  have HB := Aside0.mk hb1
  clear hb1
  go_wp2_with fail
  refine (run_calls A1 c1 l HG.out _ (Kd.C_below HR.out HB.out) hc).mono ?_
  rintro e w2 ⟨p, b, n, B, v, x, rfl, hn, hp⟩
  have HP := Aside0.mk hp
  clear hn hp
  go_wp2_with fail
  refine (drop_no ts HT.out p _).mono ?_
  rintro e w3 ⟨rfl, rfl⟩
  go_wp2
  go_ret
  exact ⟨rfl, HB.out.trans (HP.out.ds.below.mono HB.out.size)⟩

/-- What is known of those that go. -/
structure Goes (K : List Int) (W : Int → List Int) (ts : Int) (G : List Int) : Prop where
  rise : Rising G
  first : ts ∈ G
  shut : ∀ k, ∀ y ∈ W k, y ∈ G → k ∈ G
  why : ∀ k ∈ G, k ≠ ts → ∃ y ∈ W k, y ∈ G
  wf : ∀ k ∈ G, (Lit.int .i64 k).wf = true
  few : G.length ≤ 100

/-- Does one go that it waits for? -/
def forOne (G l : List Int) : Bool := l.any fun y => decide (y ∈ G)
theorem forOne_snoc (G l : List Int) (y : Int) : forOne G (l ++ [y]) = (forOne G l || decide (y ∈ G)) := by simp [forOne]
theorem Goes.one {K : List Int} {W : Int → List Int} {ts : Int} {G : List Int} (h : Goes K W ts G) {a : Int} (ha : a ≠ ts) : forOne G (W a) = decide (a ∈ G) := by
  unfold forOne
  rw [Bool.eq_iff_iff, List.any_eq_true]
  constructor
  · rintro ⟨y, hy, hm⟩
    simpa using h.shut a y hy (by simpa using hm)
  · intro hm
    obtain ⟨y, hy, hg⟩ := h.why a (by simpa using hm) ha
    exact ⟨y, hy, by simpa using hg⟩
theorem Goes.stays {K : List Int} {W : Int → List Int} {ts : Int} {G : List Int} (h : Goes K W ts G) {a : Int} (ha : ¬ a ∈ G) : dropped W G a = W a := by
  unfold dropped
  rw [if_neg ha]
  exact List.filter_eq_self.2 fun y hy => by
    have : ¬ y ∈ G := fun hm => ha (h.shut a y hy hm)
    simpa using this
theorem dropped_in {W : Int → List Int} {G : List Int} {a : Int} (ha : a ∈ G) : dropped W G a = [] := if_pos ha

set_option maxRecDepth 100000 in
set_option maxHeartbeats 8000000 in
theorem drop_law (A1 : Option Addr) (c1 : Nat) (l : List Dd) (ts : Int) (hg : ∀ d ∈ l, goodD d) (hts : (Lit.int .i64 ts).wf = true) (ht : 1 ≤ ts) (w : World) (hr : Kd.C kdeed w A1 l.length l) (hc : l.length ≤ c1) : Calls Try.prog 5 #[.slice A1 l.length c1, .int .i64 ts] w fun e w' => e = .returned (.bool true) ∧ Below w.heap.size w w' := by
  have HR := Aside0.mk hr
  have HG := Aside0.mk hg
  have HTS := Aside0.mk hts
  have HT1 := Aside0.mk ht
  have d0 : decide (ts < 1) = false := decide_eq_false (by omega)
  clear hr hg hts ht
  go_enter Try.func5, Try.ntmps5
  go_wp2_with fail
  refine (awake_calls _).mono ?_
  rintro e w1 ⟨rfl, hb1⟩
  have HB := Aside0.mk hb1
  clear hb1
  go_wp2_with fail
  refine (run_calls A1 c1 l HG.out _ (Kd.C_below HR.out HB.out) hc).mono ?_
  rintro e w2 ⟨p, b, n, B, v, x, rfl, hn, hp⟩
  have HP := Aside0.mk hp
  have HN := Aside0.mk hn
  clear hn hp
  go_wp2_with fail
  refine (run_calls A1 c1 l HG.out _ (Kd.C_below (Kd.C_below HR.out HB.out) HP.out.ds.below) hc).mono ?_
  rintro e w3 ⟨p2, b2, n2, B2, v2, x2, rfl, hn2, hp2⟩
  have HD := Aside0.mk (two_runs HB.out HP.out hp2 HN.out hn2)
  have HX := Aside0.mk HP.out.rel
  obtain ⟨K, hK⟩ : ∃ K, ranK l = K := ⟨_, rfl⟩
  obtain ⟨W, hW⟩ : ∃ W, ranW l = W := ⟨_, rfl⟩
  rw [hK, hW] at HD
  rw [hW] at HX
  clear hn2 hp2 hK hW HB HP HN
  go_wp2_with fail
  refine (drop_calls ts HT1.out HTS.out _ HD.out.one.dep (by omega)).mono ?_
  rintro e w4 ⟨⟨v4, rfl, hR⟩, hd, hk, hq⟩
  have hGo : Goes K W ts (gall W K ts) := by
    have hd2 := HD.out.two.dep
    have hl : ∀ k, ∀ y ∈ W k, y < k := fun k y hy => (HX.out.lowW hy).2
    obtain ⟨j1, j2, j3, j4, j5⟩ := gall_facts hd2.rise hd2.some hl ts
    refine ⟨j1, j2, j3, fun k hk hne => gall_why hd2.rise hd2.some hl hk hne, fun k hk => ?_, ?_⟩
    · rcases j5 k hk with rfl | h
      · exact HTS.out
      · exact hd2.wf k h
    · have h1 := (gfold W K [ts] (rising_one ts)).2.1
      have h2 := hd2.own.size_le
      rw [O_size] at h2
      unfold gall
      simp at h1
      omega
  obtain ⟨G, hG⟩ : ∃ G, gall W K ts = G := ⟨_, rfl⟩
  rw [hG] at hGo hR hd
  obtain ⟨A4, c4, rfl⟩ := Kd.R_slice hR
  have HGO := Aside0.mk hGo
  have HD4 := Aside0.mk (HD.out.next hd hk hq (fun k hk => (List.mem_filter.1 hk).1))
  have HCG := Aside0.mk (Kd.R_reads' hR)
  have hlg : (G.length : Int) ≤ 100 := by have := hGo.few; omega
  have HLG := Aside0.mk (show G.length ≤ 1000 by have := hGo.few; omega)
  clear hd hk hq HD hG hGo hR
  go_wp2_with fail
  refine (all_calls _ HD4.out.two.dep (by omega)).mono ?_
  rintro e w5 ⟨v5, rfl, hR, hb⟩
  obtain ⟨A5, c5, rfl⟩ := Kd.R_slice hR
  have HD5 := Aside0.mk (HD4.out.go hb)
  have HC5 := Aside0.mk (Kd.R_reads' hR).2.2
  have HCG5 := Aside0.mk (Kd.C_below HCG.out.2.2 hb)
  have HCC := Aside0.mk HCG.out.2.1
  have HLK := Aside0.mk (show K.length ≤ 60 by have h1 := HD4.out.two.dep.own.size_le; rwa [O_size] at h1)
  have hlk : (K.length : Int) ≤ 60 := by have := HLK.out; omega
  clear hR hb HD4 HCG
  go_wp2_with fail
  refine (lin_calls ts HLG.out HCG5.out HCC.out).mono ?_
  rintro e w6 ⟨rfl, hb⟩
  rw [decide_eq_true HGO.out.first]
  have HD6 := Aside0.mk (HD5.out.go hb)
  have HC6 := Aside0.mk (Kd.C_below HC5.out hb)
  have HCG6 := Aside0.mk (Kd.C_below HCG5.out hb)
  clear hb HD5 HC5 HCG5
  go_wp2
  go_loopg [10] K.length (fun g v10 w' => ∃ (j : Int), v10 = .int .i64 j ∧ Aside0 (0 ≤ j ∧ j + g = K.length) ∧ Aside0 (D2 w w' p b (keysD K W G) B (dropped W G) p2 b2 K B2 W) ∧ Aside0 (Kd.C (Kd.int .i64) w' A5 K.length K) ∧ Aside0 (Kd.C (Kd.int .i64) w' A4 G.length G))
  case atStart => exact ⟨0, rfl, ⟨by simp⟩, HD6, HC6, HCG6⟩
  case round =>
    clear HD6 HC6 HCG6
    obtain ⟨j, rfl, HJ, HD, HC, HCG⟩ := hrel
    have hj := HJ.out
    cases gk with
    | zero =>
      have d1 : decide (j < (K.length : Int)) = false := decide_eq_false (by omega)
      clear hj
      go_wp2
      go_loopg [14] G.length (fun g v14 w' => ∃ (q : Int), v14 = .int .i64 q ∧ Aside0 (0 ≤ q ∧ q + g = G.length) ∧ Aside0 (D2 w w' p b (keysD K W G) B (dropped W G) p2 b2 K B2 W) ∧ Aside0 (Kd.C (Kd.int .i64) w' A4 G.length G))
      case atStart => exact ⟨0, rfl, ⟨by simp⟩, HD, HCG⟩
      case round =>
        clear HD HCG HC
        obtain ⟨q, rfl, HQ, HD, HCG⟩ := hrel
        have hq := HQ.out
        cases gk with
        | zero =>
          have d2 : decide (q < (G.length : Int)) = false := decide_eq_false (by omega)
          clear hq
          go_wp2
          go_ret
          exact ⟨rfl, HD.out.one.below⟩
        | succ g2 =>
          have q0 : 0 ≤ q := hq.1
          have q1 : q < (G.length : Int) := by omega
          have d2 : decide (q < (G.length : Int)) = true := decide_eq_true q1
          have e8 : wrap64 (q + 1) = q + 1 := by unfold wrap64; omega
          have HKM := Aside0.mk (getI_mem2 G q q0 q1)
          obtain ⟨ad, e, hx⟩ := il_at HCG.out q q0 q1
          subst e
          obtain ⟨a, ha⟩ : ∃ a, G.getD q.toNat 0 = a := ⟨_, rfl⟩
          rw [ha] at hx HKM
          have HDE := Aside0.mk (dropped_in (W := W) HKM.out)
          clear hq ha
          go_wp2_with fail
          refine (waits_calls a (HGO.out.wf a HKM.out) _ HD.out.one.dep (by omega)).mono ?_
          rintro e w7 ⟨v7, rfl, hR, hb⟩
          rw [HDE.out] at hR
          obtain ⟨A7, c7, rfl⟩ := Kd.R_slice hR
          have HD7 := Aside0.mk (HD.out.go hb)
          have HCG7 := Aside0.mk (Kd.C_below HCG.out hb)
          clear hR hb hx
          go_wp2
          go_roundg g2
          case measure => omega
          case rel => exact ⟨q + 1, (by first | rfl | rw [e8]), ⟨by have h3 := HQ.out; push_cast at h3 ⊢; omega⟩, HD7, HCG7⟩
    | succ g =>
      have h0 : 0 ≤ j := hj.1
      have h1 : j < (K.length : Int) := by omega
      have d1 : decide (j < (K.length : Int)) = true := decide_eq_true h1
      have e4 : wrap64 (j + 1) = j + 1 := by unfold wrap64; omega
      have HKM := Aside0.mk (getI_mem2 K j h0 h1)
      obtain ⟨ad, e, hx⟩ := il_at HC.out j h0 h1
      subst e
      obtain ⟨a, ha⟩ : ∃ a, K.getD j.toNat 0 = a := ⟨_, rfl⟩
      have HAE := Aside0.mk ha
      rw [ha] at hx HKM
      have HWF := Aside0.mk (HD.out.two.dep.wf a HKM.out)
      clear hj ha
      go_wp2_with fail
      refine (waits_calls a HWF.out _ HD.out.two.dep (by omega)).mono ?_
      rintro e w7 ⟨v7, rfl, hR, hb⟩
      obtain ⟨A7, c7, rfl⟩ := Kd.R_slice hR
      have HD7 := Aside0.mk (HD.out.go hb)
      have HC7 := Aside0.mk (Kd.C_below HC.out hb)
      have HCG7 := Aside0.mk (Kd.C_below HCG.out hb)
      have HCW := Aside0.mk (Kd.R_reads' hR).2.2
      have HCWC := Aside0.mk (Kd.R_reads' hR).2.1
      have HLW := Aside0.mk (show (W a).length ≤ 60 by have h1 := (HD.out.two.dep.inner a HKM.out).size_le; rwa [D_size] at h1)
      have hlw : ((W a).length : Int) ≤ 60 := by have := HLW.out; omega
      clear hR hb hx HD HC HCG
      go_wp2
      go_loopg [12, 13] (W a).length (fun g v12 v13 w' => ∃ (q : Int) (f : Bool), v13 = .int .i64 q ∧ v12 = .bool f ∧ Aside0 (0 ≤ q ∧ q + g = (W a).length ∧ f = forOne G ((W a).take q.toNat)) ∧ Aside0 (Below w7.heap.size w7 w'))
      case atStart => exact ⟨0, false, rfl, rfl, ⟨by simp [forOne]⟩, ⟨Below.refl _ _⟩⟩
      case round =>
        obtain ⟨q, f, rfl, rfl, HQ, HB⟩ := hrel
        have hq := HQ.out
        cases gk with
        | zero =>
          have d2 : decide (q < ((W a).length : Int)) = false := decide_eq_false (by omega)
          have HF := Aside0.mk (show f = forOne G (W a) by rw [hq.2.2, show q.toNat = (W a).length by omega, List.take_length])
          have HD8 := Aside0.mk (HD7.out.go HB.out)
          have HC8 := Aside0.mk (Kd.C_below HC7.out HB.out)
          have HCG8 := Aside0.mk (Kd.C_below HCG7.out HB.out)
          have HCW8 := Aside0.mk (Kd.C_below HCW.out HB.out)
          obtain ⟨ad', e', hx⟩ := il_at HC8.out j h0 h1
          obtain rfl : ad = ad' := by injection e'
          rw [HAE.out] at hx
          clear hq e'
          -- region 19: all[i] != ts && for1 != in(gone, all[i])
          go_upto_region 19 with fail
          go_cut [82] (fun v82 wc => v82 = .bool false ∧ Aside0 (Below wr.heap.size wr wc))
          case first =>
            by_cases hat : a = ts
            · have t1 : (a != ts) = false := by simpa using hat
              clear hat
              go_wp2_with fail
              go_meet
              case rel => exact ⟨rfl, ⟨Below.refl _ _⟩⟩
            · have t1 : (a != ts) = true := by simpa using hat
              have HFE := Aside0.mk (HF.out.trans (HGO.out.one hat))
              clear hat
              go_wp2_with fail
              refine (lin_calls a HLG.out HCG8.out HCC.out).mono ?_
              rintro e w9 ⟨rfl, hb⟩
              have HBB := Aside0.mk hb
              rw [← HFE.out]
              clear hb hx
              go_wp2_with fail
              go_meet
              case rel => exact ⟨by simp, HBB⟩
          case rest =>
            obtain ⟨rfl, HB9⟩ := hcut
            have HD9 := Aside0.mk (HD8.out.go HB9.out)
            have HC9 := Aside0.mk (Kd.C_below HC8.out HB9.out)
            have HCG9 := Aside0.mk (Kd.C_below HCG8.out HB9.out)
            have HCW9 := Aside0.mk (Kd.C_below HCW8.out HB9.out)
            have hx9 := pw_cell_below HB9.out hx
            clear hx
            go_wp2_with fail
            refine (lin_calls a HLG.out HCG9.out HCC.out).mono ?_
            rintro e w10 ⟨rfl, hb⟩
            have HD10 := Aside0.mk (HD9.out.go hb)
            have HC10 := Aside0.mk (Kd.C_below HC9.out hb)
            have HCG10 := Aside0.mk (Kd.C_below HCG9.out hb)
            have HCW10 := Aside0.mk (Kd.C_below HCW9.out hb)
            have hx10 := pw_cell_below hb hx9
            clear hb hx9
            by_cases hin : a ∈ G
            · rw [decide_eq_true hin]
              clear hin
              go_wp2
              go_roundg g
              case measure => omega
              case rel => exact ⟨j + 1, (by first | rfl | rw [e4]), ⟨by have h3 := HJ.out; push_cast at h3 ⊢; omega⟩, HD10, HC10, HCG10⟩
            · rw [decide_eq_false hin]
              have HST := Aside0.mk (HGO.out.stays hin)
              clear hin
              go_wp2_with fail
              refine (waits_calls a HWF.out _ HD10.out.one.dep (by omega)).mono ?_
              rintro e w11 ⟨v11, rfl, hR, hb⟩
              rw [HST.out] at hR
              obtain ⟨A11, c11, rfl⟩ := Kd.R_slice hR
              have HD11 := Aside0.mk (HD10.out.go hb)
              have HC11 := Aside0.mk (Kd.C_below HC10.out hb)
              have HCG11 := Aside0.mk (Kd.C_below HCG10.out hb)
              have HCW11 := Aside0.mk (Kd.C_below HCW10.out hb)
              have HR11 := Aside0.mk (Kd.R_reads' hR)
              clear hR hb hx10
              go_wp2_with fail
              refine (same_calls (l := W a) (by have := HLW.out; omega) HR11.out.2.2 HR11.out.2.1 HCW11.out HCWC.out).mono ?_
              rintro e w12 ⟨rfl, hb⟩
              have HD12 := Aside0.mk (HD11.out.go hb)
              have HC12 := Aside0.mk (Kd.C_below HC11.out hb)
              have HCG12 := Aside0.mk (Kd.C_below HCG11.out hb)
              clear hb
              go_wp2
              go_roundg g
              case measure => omega
              case rel => exact ⟨j + 1, (by first | rfl | rw [e4]), ⟨by have h3 := HJ.out; push_cast at h3 ⊢; omega⟩, HD12, HC12, HCG12⟩
        | succ g2 =>
          have q0 : 0 ≤ q := hq.1
          have q1 : q < ((W a).length : Int) := by omega
          have d2 : decide (q < ((W a).length : Int)) = true := decide_eq_true q1
          have e8 : wrap64 (q + 1) = q + 1 := by unfold wrap64; omega
          have HT := Aside0.mk (take_snoc (W a) q.toNat (by omega))
          obtain ⟨ad7, e, hy⟩ := il_at (Kd.C_below HCW.out HB.out) q q0 q1
          subst e
          obtain ⟨y, hye⟩ : ∃ y, (W a).getD q.toNat 0 = y := ⟨_, rfl⟩
          rw [hye] at hy HT
          have HFQ := Aside0.mk hq.2.2
          clear hq hye
          cases f with
          | true =>
            have HE := Aside0.mk (show true = forOne G ((W a).take (q.toNat + 1)) by rw [HT.out, forOne_snoc, ← HFQ.out]; rfl)
            go_wp2
            go_roundg g2
            case measure => omega
            case rel => exact ⟨q + 1, true, (by first | rfl | rw [e8]), rfl, ⟨by have h3 := HQ.out; have h4 := HE.out; rw [show (q + 1).toNat = q.toNat + 1 by omega]; push_cast at h3 ⊢; exact ⟨by omega, by omega, h4⟩⟩, HB⟩
          | false =>
            have HE := Aside0.mk (show decide (y ∈ G) = forOne G ((W a).take (q.toNat + 1)) by rw [HT.out, forOne_snoc, ← HFQ.out]; rfl)
            go_wp2_with fail
            refine (lin_calls y HLG.out (Kd.C_below HCG7.out HB.out) HCC.out).mono ?_
            rintro e w9 ⟨rfl, hb⟩
            have HB9 := Aside0.mk (HB.out.trans (hb.mono HB.out.size))
            obtain ⟨f2, hf2⟩ : ∃ f2, decide (y ∈ G) = f2 := ⟨_, rfl⟩
            rw [hf2] at HE ⊢
            clear hb hy hf2
            go_wp2
            go_roundg g2
            case measure => omega
            case rel => exact ⟨q + 1, f2, (by first | rfl | rw [e8]), rfl, ⟨by have h3 := HQ.out; have h4 := HE.out; rw [show (q + 1).toNat = q.toNat + 1 by omega]; push_cast at h3 ⊢; exact ⟨by omega, by omega, h4⟩⟩, HB9⟩

theorem drop_law_all (A1 : Option Addr) (c1 : Nat) (l : List Dd) (ts : Int) (hg : ∀ d ∈ l, goodD d) (hts : (Lit.int .i64 ts).wf = true) (w : World) (hr : Kd.C kdeed w A1 l.length l) (hc : l.length ≤ c1) : Calls Try.prog 5 #[.slice A1 l.length c1, .int .i64 ts] w fun e w' => e = .returned (.bool true) ∧ Below w.heap.size w w' := by
  by_cases h : ts < 1
  · exact drop_law_no A1 c1 l ts hg h w hr hc
  · exact drop_law A1 c1 l ts hg hts (by omega) w hr hc
end Go.Proofs.Ytjoafadhcdipnaa
