/- ChainLate, walked by its facts. -/
import Derived.WalkSpells
import Derived.RegionTactic
import Derived.ChangeAlike
import Derived.Test.YtdiahlfhcbcceaaLateA
import Derived.Test.YtdiahlfhcbcceaaPx1
namespace Go.Proofs.Ytdiahlfhcbcceaa.Pure
open Go.RowKit Go.Proofs.Ytdiahlfhcbcceaa.P Go.Proofs.YtdiahlfhcbcceaaW.PrintWords Go.Proofs.YtdiahlfhcbcceaaW.PrintLast Go.Proofs.YtdiahlfhcbcceaaW.PrintMore
attribute [local go_sem] max2_int min2_int max_two min_two max_three min_three max_four min_four
set_option linter.unusedVariables false

theorem cells4L {W : World} {g : Nat} {x0 x1 x2 x3 : Value} {t : TypeId} (h : W.heap[g]? = some (.cells #[x0, x1, x2, x3] t (0, 0))) :
    (W.cell? ⟨g, 0, none⟩ = some x0 ∧ W.cell? ⟨g, 1, none⟩ = some x1 ∧ W.cell? ⟨g, 2, none⟩ = some x2 ∧ W.cell? ⟨g, 3, none⟩ = some x3) ∧ (∀ j, W.frozen? ⟨g, j, none⟩ = false) :=
  ⟨⟨cell_of_row W g 0 _ _ _ h, cell_of_row W g 1 _ _ _ h, cell_of_row W g 2 _ _ _ h, cell_of_row W g 3 _ _ _ h⟩, fun j => by simp [World.frozen?, h]⟩
theorem cells3L {W : World} {g : Nat} {x0 x1 x2 : Value} {t : TypeId} (h : W.heap[g]? = some (.cells #[x0, x1, x2] t (0, 0))) :
    W.cell? ⟨g, 0, none⟩ = some x0 ∧ W.cell? ⟨g, 1, none⟩ = some x1 ∧ W.cell? ⟨g, 2, none⟩ = some x2 :=
  ⟨cell_of_row W g 0 _ _ _ h, cell_of_row W g 1 _ _ _ h, cell_of_row W g 2 _ _ _ h⟩

theorem stored4 {w3 w4 : World} {gb : Nat} {t : TypeId} {x0 x1 x2 x3 y0 y1 y2 y3 : Value} (hbox : w4.heap[gb]? = some (.cells #[x0, x1, x2, x3] t (0, 0))) (hg : gb = w3.heap.size) (hb : Below w3.heap.size w3 w4) :
    ((((w4.setCell ⟨gb, 0, none⟩ y0).setCell ⟨gb, 1, none⟩ y1).setCell ⟨gb, 2, none⟩ y2).setCell ⟨gb, 3, none⟩ y3).heap[gb]? = some (.cells #[y0, y1, y2, y3] t (0, 0)) ∧ Below w3.heap.size w3 ((((w4.setCell ⟨gb, 0, none⟩ y0).setCell ⟨gb, 1, none⟩ y1).setCell ⟨gb, 2, none⟩ y2).setCell ⟨gb, 3, none⟩ y3) := by
  have hl := Nat.le_of_eq hg.symm
  exact ⟨blk_set (blk_set (blk_set (blk_set hbox 0 _) 1 _) 2 _) 3 _, below_set (below_set (below_set (below_set hb hl) hl) hl) hl⟩

/-- A row in V's form, whatever it lies in. -/
def VV (W : World) (v : Value) (l : List S27) : Prop := Kd.V k27 27 W W.heap.size (fun _ => True) v l
theorem VV.below {W W1 : World} {v : Value} {l : List S27} (h : VV W v l) (hb : Below W.heap.size W W1) : VV W1 v l := Kd.V_below h hb
theorem VV.of {W : World} {base : Nat} {ok : Nat → Prop} {v : Value} {l : List S27} (h : Kd.V k27 27 W base ok v l) : VV W v l := Kd.V_mono h (fun _ _ => trivial)

/-- The law's state behind its first calls. -/
structure LS (w W : World) (v : Value) (l : List S27) (gd : Nat) (d : S51) : Prop where
  row : VV W v l
  deed : W.heap[gd]? = some (.cells #[.int .i64 d.f0, .int .i64 d.f1, .string d.f2] 51 (0, 0))
  below : Below w.heap.size w W
theorem LS.go {w W W1 : World} {v : Value} {l : List S27} {gd : Nat} {d : S51} (h : LS w W v l gd d) (hb : Below W.heap.size W W1) : LS w W1 v l gd d :=
  ⟨h.row.below hb, blk_below h.deed hb, h.below.trans (hb.mono h.below.size)⟩

set_option maxHeartbeats 4000000 in
set_option maxRecDepth 100000 in
theorem late_calls (A0 : Option Addr) (c0 : Nat) (l0 : List S51) (d0 d1 : Int) (d2 : ByteArray) (w : World) (hr0 : Kd.C k51 w A0 l0.length l0) (hc0 : l0.length ≤ c0) :
    Calls Try.prog 6 #[.slice A0 l0.length c0, .agg #[.int .i64 d0, .int .i64 d1, .string d2]] w fun e w' => e = .returned (.bool true) ∧ Below w.heap.size w w' := by
  have hu27 := Try.underlying27
  have hu51 := Try.underlying51
  obtain ⟨l, hrun, hI, hlen⟩ := run_tells l0
  have HR := Aside0.mk hr0
  have HC := Aside0.mk hc0
  have HRun := Aside0.mk (hrun 1000 (by omega))
  have HI := Aside0.mk hI
  have hpos : 0 < l.length := by obtain ⟨x, r, rfl, _⟩ := hI.head; simp
  clear hr0 hc0 hrun hI
  go_enter Try.func6, Try.ntmps6
  go_upto_region 3 with (first
    | ((with_reducible refine gate_dst (N := 3) rfl ?_); refine box_event ?hg (N := 3) ?hd (cs := #[.int .i64 d0, .int .i64 d1, .string d2]) (t := 51) ?hr ?_; (case hd => rfl); (case hg => rfl); (case hr => first | (go_simp; done) | (go_simp; rfl)); intro gd hg w1 hbox hb; have HD := Aside0.mk hbox; have HB := Aside0.mk hb; clear hbox hg hb)
    | (go_at_call 9; refine (ogivelaw10_awake.calls 1000 true _ (awake_tells 1000 (by omega))).mono ?_; rintro e w2 ⟨rfl, b2⟩; have HD2 := Aside0.mk (blk_below HD.out b2); have HB2 := Aside0.mk (HB.out.trans (b2.mono HB.out.size)); clear HD HB b2)
    | (go_at_call 27; refine (ogivelaw10_run.calls 1000 _ _ l0 l _ (Kd.C_below HR.out HB2.out) HC.out HRun.out).mono ?_; rintro e w3 ⟨u3, rfl, ho3, b3⟩; obtain ⟨A3, c3, hu3⟩ := Kd.V_slice ho3; subst hu3; have HS := Aside0.mk (LS.mk (d := ⟨d0, d1, d2⟩) (VV.of ho3) (blk_below HD2.out b3) (HB2.out.trans (b3.mono HB2.out.size))); clear ho3 b3 HD2 HB2))
  obtain ⟨k0, k1, k2⟩ := cells3L HS.out.deed
  have hz : ((l.length : Int) == 0) = false := beq_eq_false_iff_ne.mpr (by omega)
  by_cases ca : d1 < 1
  · have q1 : decide (d1 < 1) = true := decide_eq_true ca
    go_wp2
    go_ret
    exact ⟨rfl, HS.out.below⟩
  have q1 : decide (d1 < 1) = false := decide_eq_false ca
  by_cases cb : d1 > 1099511627776
  · have q2 : decide (d1 > 1099511627776) = true := decide_eq_true cb
    go_wp2
    go_ret
    exact ⟨rfl, HS.out.below⟩
  have q2 : decide (d1 > 1099511627776) = false := decide_eq_false cb
  obtain ⟨pre, x, post, hp⟩ := HI.out.parts (show 0 ≤ d1 by omega)
  have hln := len_mid pre x post
  rw [← hp.eq] at hln
  obtain ⟨q, hqe⟩ : ∃ q : Int, q = (pre.length : Int) := ⟨_, rfl⟩
  have hlook := look_parts hp HI.out.good (by omega) 1000 (by omega)
  rw [← hqe] at hlook
  have hrd : rd_T27 l q = x := by rw [hqe, hp.eq]; exact rd_mid pre x post
  have hq0 : 0 ≤ q := by omega
  have hq1 : q < (l.length : Int) := by omega
  have HP := Aside0.mk hp
  have HLK := Aside0.mk hlook
  have HRX := Aside0.mk hrd
  have HQE := Aside0.mk hqe
  have HLN := Aside0.mk hln
  clear hp hlook hrd hqe hln
  go_wp2_with fail
  obtain ⟨_, hcc, hCC⟩ := Kd.V_reads' HS.out.row
  refine (chain_Look.calls 1000 _ _ l d1 q _ hCC hcc HLK.out).mono ?_
  rintro e w4 ⟨rfl, b4⟩
  have HS4 := Aside0.mk (HS.out.go b4)
  clear HS b4 k0 k1 k2 hcc hCC
  obtain ⟨k0, k1, k2⟩ := cells3L HS4.out.deed
  obtain ⟨_, _, hCC⟩ := Kd.V_reads' HS4.out.row
  obtain ⟨ad, e, hx0, hx1, hx2, hx3⟩ := at_T27 hCC q hq0 hq1
  subst e
  rw [HRX.out] at hx0 hx1 hx2 hx3
  clear hCC
  have g1 : decide (q < 0) = false := decide_eq_false (by omega)
  have g2 : decide (q ≥ (l.length : Int)) = false := decide_eq_false (by omega)
  go_upto_region 8 with (fail)
  by_cases hlate : x.f1 > d1 ∨ (x.f0 = d1 ∧ x.f3 = true)
  · have HW := Aside0.mk (late_yes HI.out hlen d2 HP.out hlate)
    go_cut [8] (fun v8 wc => v8 = .bool true ∧ Aside0 (LS w wc (.slice (some ad) l.length c3) l gd ⟨d0, d1, d2⟩))
    case first =>
      rcases hlate with h1 | ⟨h0, h3⟩
      · have t1 : decide (x.f1 > d1) = true := decide_eq_true h1
        go_quiet (fail)
        go_wp2
        go_meet
        case rel => exact ⟨rfl, ⟨HS4.out.go (pw_below_drewN (Below.refl _ _) _)⟩⟩
      · by_cases h1 : x.f1 > d1
        · have t1 : decide (x.f1 > d1) = true := decide_eq_true h1
          go_quiet (fail)
          go_wp2
          go_meet
          case rel => exact ⟨rfl, ⟨HS4.out.go (pw_below_drewN (Below.refl _ _) _)⟩⟩
        · have t1 : decide (x.f1 > d1) = false := decide_eq_false h1
          have t2 : (x.f0 == d1) = true := by simpa using h0
          rw [h3] at hx3
          go_quiet (fail)
          go_wp2
          go_meet
          case rel => exact ⟨rfl, ⟨HS4.out.go (pw_below_drewN (Below.refl _ _) _)⟩⟩
    case rest =>
      clear hlate hx0 hx1 hx2 hx3 k0 k1 k2 g1 g2 q1 q2 HS4
      obtain ⟨rfl, HS5⟩ := hcut
      obtain ⟨k0, k1, k2⟩ := cells3L HS5.out.deed
      obtain ⟨m, HMR, HMS⟩ : ∃ m, Aside0 (ogivelaw10_real.f 1000 l = some m) ∧ Aside0 (ogiveref10_Same.f 1000 m m = some true) := ⟨_, ⟨real_tells l (by omega) 1000 (by omega)⟩, ⟨same_tells _ (by rw [List.length_map]; omega) 1000 (by rw [List.length_map]; omega)⟩⟩
      go_wp2_with fail
      refine (chain_Write.calls 1000 (fun _ => True) _ _ l d1 d2 l 8 _ HS5.out.row HW.out).mono ?_
      rintro e w6 ⟨u6, rfl, ho6, b6⟩
      obtain ⟨A6, c6, hu6⟩ := Kd.V_slice ho6
      subst hu6
      have HS6 := Aside0.mk (HS5.out.go b6)
      have HV6 := Aside0.mk (VV.of ho6)
      clear ho6 b6 k0 k1 k2
      go_wp2_with fail
      obtain ⟨_, hcc, hCC⟩ := Kd.V_reads' HV6.out
      refine (ogivelaw10_real.calls 1000 _ _ l m _ hCC hcc HMR.out).mono ?_
      rintro e w7 ⟨u7, rfl, ho7, b7⟩
      obtain ⟨A7, c7, hu7⟩ := Kd.R_slice ho7
      subst hu7
      have HS7 := Aside0.mk (HS6.out.go b7)
      have HR7 := Aside0.mk ho7
      clear hcc hCC ho7 b7 HS6 HV6
      go_wp2_with fail
      obtain ⟨_, hcc, hCC⟩ := Kd.V_reads' HS7.out.row
      refine (ogivelaw10_real.calls 1000 _ _ l m _ hCC hcc HMR.out).mono ?_
      rintro e w8 ⟨u8, rfl, ho8, b8⟩
      obtain ⟨A8, c8, hu8⟩ := Kd.R_slice ho8
      subst hu8
      have HS8 := Aside0.mk (HS7.out.go b8)
      have HR8 := Aside0.mk (Kd.R_below HR7.out b8)
      have HT8 := Aside0.mk ho8
      clear hcc hCC ho8 b8 HS7 HR7
      go_wp2_with fail
      obtain ⟨_, h7, hC7⟩ := Kd.R_reads' HR8.out
      obtain ⟨_, h8, hC8⟩ := Kd.R_reads' HT8.out
      refine (ogiveref10_Same.calls 1000 _ _ m _ _ m true _ hC7 h7 hC8 h8 HMS.out).mono ?_
      rintro e w9 ⟨rfl, d9⟩
      have HB9 := Aside0.mk (HS8.out.below.trans (d9.below.mono HS8.out.below.size))
      clear h7 h8 hC7 hC8 d9 HS8 HR8 HT8
      go_wp2
      go_ret
      exact ⟨rfl, HB9.out⟩
  · have n1 : ¬ x.f1 > d1 := fun h => hlate (.inl h)
    have n2 : ¬ (x.f0 = d1 ∧ x.f3 = true) := fun h => hlate (.inr h)
    obtain ⟨l1, hw, ⟨r1, o1, hr1⟩, ⟨r2, s0, s1, s2, s3, hr2, hnx⟩, ⟨r3, r4, t0, t1, t2, t3, v1, v3, hr3, hr4⟩⟩ := late_no HI.out hlen (by omega) d2 HP.out n1 n2
    have HW := Aside0.mk hw
    have HR1 := Aside0.mk hr1
    have HR2 := Aside0.mk hr2
    have HR3 := Aside0.mk hr3
    have HR4 := Aside0.mk hr4
    have HNX := Aside0.mk hnx
    clear hw hr1 hr2 hr3 hr4 hnx hlate
    have e1 : IntKind.i64.wrap (d1 + 1) = d1 + 1 := by rw [IntKind.wrap_i64]; omega
    have e2 : IntKind.i64.wrap (d1 - 1) = d1 - 1 := by rw [IntKind.wrap_i64]; omega
    have e3 : wrap64 (d1 + 1) = d1 + 1 := by unfold wrap64; omega
    have e4 : wrap64 (d1 - 1) = d1 - 1 := by unfold wrap64; omega
    have e5 : IntKind.i64.wrap (q + 1) = q + 1 := by rw [IntKind.wrap_i64]; omega
    have e6 : wrap64 (q + 1) = q + 1 := by unfold wrap64; omega
    go_cut [8] (fun v8 wc => v8 = .bool false ∧ Aside0 (LS w wc (.slice (some ad) l.length c3) l gd ⟨d0, d1, d2⟩))
    case first =>
      have t1 : decide (x.f1 > d1) = false := decide_eq_false n1
      by_cases h0 : x.f0 = d1
      · have t2 : (x.f0 == d1) = true := by simpa using h0
        have h3 : x.f3 = false := by cases h : x.f3 with
          | false => rfl
          | true => exact absurd ⟨h0, h⟩ n2
        rw [h3] at hx3
        clear n1 n2 h0 h3
        go_quiet (fail)
        go_wp2
        go_meet
        case rel => exact ⟨rfl, ⟨HS4.out.go (pw_below_drewN (Below.refl _ _) _)⟩⟩
      · have t2 : (x.f0 == d1) = false := by simpa using h0
        clear n1 n2 h0
        go_quiet (fail)
        go_wp2
        go_meet
        case rel => exact ⟨rfl, ⟨HS4.out.go (pw_below_drewN (Below.refl _ _) _)⟩⟩
    case rest =>
      clear n1 n2 hx0 hx1 hx2 hx3 k0 k1 k2 g1 g2 q1 q2 HS4
      obtain ⟨rfl, HS⟩ := hcut
      obtain ⟨k0, k1, k2⟩ := cells3L HS.out.deed
      go_wp2_with fail
      refine (chain_Write.calls 1000 (fun _ => True) _ _ l d1 d2 l1 0 _ HS.out.row HW.out).mono ?_
      rintro e w6 ⟨u6, rfl, ho6, b6⟩
      obtain ⟨A6, c6, hu6⟩ := Kd.V_slice ho6
      subst hu6
      have HS := Aside0.mk (HS.out.go b6)
      have HV := Aside0.mk (VV.of ho6)
      clear ho6 b6 k0 k1 k2
      obtain ⟨k0, k1, k2⟩ := cells3L HS.out.deed
      go_wp2_with fail
      refine (chain_Read.calls 1000 (fun _ => True) _ _ l1 d1 r1 d1 o1 d2 false _ HV.out HR1.out).mono ?_
      rintro e wr ⟨ur, rfl, hor, br⟩
      obtain ⟨Ar, cr, hur⟩ := Kd.V_slice hor
      subst hur
      clear hor
      go_upto_region 13 with (((with_reducible refine gate_dst (N := 12) rfl ?_); refine box_event ?hg (N := 12) ?hd (cs := #[.int .i64 0, .int .i64 0, .string (⟨#[]⟩ : ByteArray), .bool false]) (t := 27) ?hr ?_; (case hd => rfl); (case hg => rfl); (case hr => first | (go_simp; done) | (go_simp; rfl)); intro gb12 hg wb hbox hb; have HBX := Aside0.mk hbox; have HGX := Aside0.mk hg; have HBB := Aside0.mk hb; obtain ⟨⟨z0, z1, z2, z3⟩, zf⟩ := cells4L hbox; have zf0 := zf 0; have zf1 := zf 1; have zf2 := zf 2; have zf3 := zf 3; clear hbox hg hb zf))
      obtain ⟨W12, hW⟩ : ∃ W, ((((wb.setCell ⟨gb12, 0, none⟩ (.int .i64 d1)).setCell ⟨gb12, 1, none⟩ (.int .i64 o1)).setCell ⟨gb12, 2, none⟩ (.string d2)).setCell ⟨gb12, 3, none⟩ (.bool false)) = W := ⟨_, rfl⟩
      rw [hW]
      have hst := stored4 (y0 := .int .i64 d1) (y1 := .int .i64 o1) (y2 := .string d2) (y3 := .bool false) HBX.out HGX.out HBB.out
      rw [hW] at hst
      have hbl := br.trans (hst.2.mono br.size)
      have HS := Aside0.mk (HS.out.go hbl)
      have HV := Aside0.mk (HV.out.below hbl)
      have HB12 := Aside0.mk hst.1
      clear hW hst hbl br HBX HGX HBB z0 z1 z2 z3 zf0 zf1 zf2 zf3 k0 k1 k2
      obtain ⟨k0, k1, k2⟩ := cells3L HS.out.deed
      go_wp2_with fail
      refine (chain_Read.calls 1000 (fun _ => True) _ _ l1 (d1 + 1) r2 s0 s1 s2 s3 _ HV.out HR2.out).mono ?_
      rintro e wr ⟨ur, rfl, hor, br⟩
      obtain ⟨Ar, cr, hur⟩ := Kd.V_slice hor
      subst hur
      clear hor
      go_upto_region 14 with (((with_reducible refine gate_dst (N := 14) rfl ?_); refine box_event ?hg (N := 14) ?hd (cs := #[.int .i64 0, .int .i64 0, .string (⟨#[]⟩ : ByteArray), .bool false]) (t := 27) ?hr ?_; (case hd => rfl); (case hg => rfl); (case hr => first | (go_simp; done) | (go_simp; rfl)); intro gb14 hg wb hbox hb; have HBX := Aside0.mk hbox; have HGX := Aside0.mk hg; have HBB := Aside0.mk hb; obtain ⟨⟨z0, z1, z2, z3⟩, zf⟩ := cells4L hbox; have zf0 := zf 0; have zf1 := zf 1; have zf2 := zf 2; have zf3 := zf 3; clear hbox hg hb zf))
      obtain ⟨W14, hW⟩ : ∃ W, ((((wb.setCell ⟨gb14, 0, none⟩ (.int .i64 s0)).setCell ⟨gb14, 1, none⟩ (.int .i64 s1)).setCell ⟨gb14, 2, none⟩ (.string s2)).setCell ⟨gb14, 3, none⟩ (.bool s3)) = W := ⟨_, rfl⟩
      rw [hW]
      have hst := stored4 (y0 := .int .i64 s0) (y1 := .int .i64 s1) (y2 := .string s2) (y3 := .bool s3) HBX.out HGX.out HBB.out
      rw [hW] at hst
      have hbl := br.trans (hst.2.mono br.size)
      have HS := Aside0.mk (HS.out.go hbl)
      have HV := Aside0.mk (HV.out.below hbl)
      have HB12 := Aside0.mk (blk_below HB12.out hbl)
      have HB14 := Aside0.mk hst.1
      clear hW hst hbl br HBX HGX HBB z0 z1 z2 z3 zf0 zf1 zf2 zf3 k0 k1 k2
      obtain ⟨k0, k1, k2⟩ := cells3L HS.out.deed
      go_wp2_with fail
      refine (chain_Read.calls 1000 (fun _ => True) _ _ l1 (d1 - 1) r3 t0 t1 t2 t3 _ HV.out HR3.out).mono ?_
      rintro e wr ⟨ur, rfl, hor, br⟩
      obtain ⟨Ar, cr, hur⟩ := Kd.V_slice hor
      subst hur
      clear hor
      go_upto_region 15 with (((with_reducible refine gate_dst (N := 16) rfl ?_); refine box_event ?hg (N := 16) ?hd (cs := #[.int .i64 0, .int .i64 0, .string (⟨#[]⟩ : ByteArray), .bool false]) (t := 27) ?hr ?_; (case hd => rfl); (case hg => rfl); (case hr => first | (go_simp; done) | (go_simp; rfl)); intro gb16 hg wb hbox hb; have HBX := Aside0.mk hbox; have HGX := Aside0.mk hg; have HBB := Aside0.mk hb; obtain ⟨⟨z0, z1, z2, z3⟩, zf⟩ := cells4L hbox; have zf0 := zf 0; have zf1 := zf 1; have zf2 := zf 2; have zf3 := zf 3; clear hbox hg hb zf))
      obtain ⟨W16, hW⟩ : ∃ W, ((((wb.setCell ⟨gb16, 0, none⟩ (.int .i64 t0)).setCell ⟨gb16, 1, none⟩ (.int .i64 t1)).setCell ⟨gb16, 2, none⟩ (.string t2)).setCell ⟨gb16, 3, none⟩ (.bool t3)) = W := ⟨_, rfl⟩
      rw [hW]
      have hst := stored4 (y0 := .int .i64 t0) (y1 := .int .i64 t1) (y2 := .string t2) (y3 := .bool t3) HBX.out HGX.out HBB.out
      rw [hW] at hst
      have hbl := br.trans (hst.2.mono br.size)
      have HS := Aside0.mk (HS.out.go hbl)
      have HV := Aside0.mk (HV.out.below hbl)
      have HB12 := Aside0.mk (blk_below HB12.out hbl)
      have HB14 := Aside0.mk (blk_below HB14.out hbl)
      have HB16 := Aside0.mk hst.1
      clear hW hst hbl br HBX HGX HBB z0 z1 z2 z3 zf0 zf1 zf2 zf3 k0 k1 k2
      obtain ⟨k0, k1, k2⟩ := cells3L HS.out.deed
      go_wp2_with fail
      refine (chain_Read.calls 1000 (fun _ => True) _ _ l (d1 - 1) r4 t0 v1 t2 v3 _ HS.out.row HR4.out).mono ?_
      rintro e wr ⟨ur, rfl, hor, br⟩
      obtain ⟨Ar, cr, hur⟩ := Kd.V_slice hor
      subst hur
      clear hor
      go_upto_region 16 with (((with_reducible refine gate_dst (N := 18) rfl ?_); refine box_event ?hg (N := 18) ?hd (cs := #[.int .i64 0, .int .i64 0, .string (⟨#[]⟩ : ByteArray), .bool false]) (t := 27) ?hr ?_; (case hd => rfl); (case hg => rfl); (case hr => first | (go_simp; done) | (go_simp; rfl)); intro gb18 hg wb hbox hb; have HBX := Aside0.mk hbox; have HGX := Aside0.mk hg; have HBB := Aside0.mk hb; obtain ⟨⟨z0, z1, z2, z3⟩, zf⟩ := cells4L hbox; have zf0 := zf 0; have zf1 := zf 1; have zf2 := zf 2; have zf3 := zf 3; clear hbox hg hb zf))
      obtain ⟨W18, hW⟩ : ∃ W, ((((wb.setCell ⟨gb18, 0, none⟩ (.int .i64 t0)).setCell ⟨gb18, 1, none⟩ (.int .i64 v1)).setCell ⟨gb18, 2, none⟩ (.string t2)).setCell ⟨gb18, 3, none⟩ (.bool v3)) = W := ⟨_, rfl⟩
      rw [hW]
      have hst := stored4 (y0 := .int .i64 t0) (y1 := .int .i64 v1) (y2 := .string t2) (y3 := .bool v3) HBX.out HGX.out HBB.out
      rw [hW] at hst
      have hbl := br.trans (hst.2.mono br.size)
      have HS := Aside0.mk (HS.out.go hbl)
      have HV := Aside0.mk (HV.out.below hbl)
      have HB12 := Aside0.mk (blk_below HB12.out hbl)
      have HB14 := Aside0.mk (blk_below HB14.out hbl)
      have HB16 := Aside0.mk (blk_below HB16.out hbl)
      have HB18 := Aside0.mk hst.1
      clear hW hst hbl br HBX HGX HBB z0 z1 z2 z3 zf0 zf1 zf2 zf3 k0 k1 k2
      obtain ⟨k0, k1, k2⟩ := cells3L HS.out.deed
      simp only at k0 k1 k2
      go_cut [19] (fun v19 wc => ∃ nx : Bool, v19 = .bool nx ∧ Aside0 (nx = true ∨ s2 = d2) ∧ Aside0 (Below W18.heap.size W18 wc))
      case first =>
        cases hpost : post with
        | nil =>
          have hx : decide (q + 1 < (l.length : Int)) = false := decide_eq_false (by have h1 := HLN.out; have h2 := HQE.out; rw [hpost] at h1; simp at h1; omega)
          have hs : s2 = d2 := by
            rcases HNX.out with ⟨y, r, h, _⟩ | h
            · rw [hpost] at h; cases h
            · exact h
          have HSS := Aside0.mk hs
          clear hs hpost
          go_quiet (fail)
          go_wp2
          go_meet
          case rel => exact ⟨false, rfl, ⟨.inr HSS.out⟩, ⟨pw_below_drewN (Below.refl _ _) _⟩⟩
        | cons y post2 =>
          have hx1 : q + 1 < (l.length : Int) := by have h1 := HLN.out; have h2 := HQE.out; rw [hpost] at h1; simp at h1; omega
          have hx0 : 0 ≤ q + 1 := by omega
          have hx : decide (q + 1 < (l.length : Int)) = true := decide_eq_true hx1
          obtain ⟨_, _, hCC⟩ := Kd.V_reads' HS.out.row
          obtain ⟨ad', e', m0, _, _, _⟩ := at_T27 hCC (q + 1) hx0 hx1
          cases e'
          have hy : rd_T27 l (q + 1) = y := by
            have e : l = (pre ++ [x]) ++ y :: post2 := by rw [HP.out.eq, hpost]; simp
            rw [show q + 1 = ((pre ++ [x]).length : Int) by rw [HQE.out]; simp, e]
            exact rd_mid _ _ _
          rw [hy] at m0
          have hs : (y.f0 == d1 + 1) = true ∨ s2 = d2 := by
            rcases HNX.out with ⟨z, r, h, h2⟩ | h
            · rw [hpost] at h
              injection h with h3 h4
              subst h3
              exact .inl (by simpa using h2)
            · exact .inr h
          obtain ⟨nx, hnx⟩ : ∃ nx, (y.f0 == d1 + 1) = nx := ⟨_, rfl⟩
          rw [hnx] at hs
          have HSS := Aside0.mk hs
          clear hs hpost hy hCC
          go_quiet (fail)
          go_wp2
          go_meet
          case rel => exact ⟨nx, rfl, HSS, ⟨pw_below_drewN (Below.refl _ _) _⟩⟩
      case rest =>
        obtain ⟨nx, rfl, HSS, HBC⟩ := hcut
        have HS := Aside0.mk (HS.out.go HBC.out)
        have HB12 := Aside0.mk (blk_below HB12.out HBC.out)
        have HB14 := Aside0.mk (blk_below HB14.out HBC.out)
        have HB16 := Aside0.mk (blk_below HB16.out HBC.out)
        have HB18 := Aside0.mk (blk_below HB18.out HBC.out)
        clear k0 k1 k2
        obtain ⟨k0, k1, k2⟩ := cells3L HS.out.deed
        simp only at k0 k1 k2
        obtain ⟨⟨a0, a1, a2, a3⟩, _⟩ := cells4L HB12.out
        obtain ⟨⟨b0, b1, b2, b3⟩, _⟩ := cells4L HB14.out
        obtain ⟨⟨f0, f1, f2, f3⟩, _⟩ := cells4L HB16.out
        obtain ⟨⟨g0, g1, g2, g3⟩, _⟩ := cells4L HB18.out
        cases nx with
        | true =>
          go_wp2
          go_ret
          exact ⟨rfl, HS.out.below⟩
        | false =>
          obtain rfl : s2 = d2 := by rcases HSS.out with h | h; cases h; exact h
          go_wp2
          go_ret
          exact ⟨rfl, HS.out.below⟩
end Go.Proofs.Ytdiahlfhcbcceaa.Pure
