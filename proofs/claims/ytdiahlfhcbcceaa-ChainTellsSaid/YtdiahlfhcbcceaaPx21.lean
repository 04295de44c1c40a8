-- Written for this claim by a program of this seat's (wip/tools), by way of the kit's printing program; not one of its printed files. Lean checks it.
import Derived.Test.YtdiahlfhcbcceaaPx0
import Derived.Test.YtdiahlfhcbcceaaPx12
namespace Go.Proofs.Ytdiahlfhcbcceaa.P
open Go.RowKit Go.Proofs.YtdiahlfhcbcceaaW.PrintWords Go.Proofs.YtdiahlfhcbcceaaW.PrintLast Go.Proofs.YtdiahlfhcbcceaaW.PrintMore
attribute [local go_sem] max2_int min2_int max_two min_two max_three min_three max_four min_four   -- for this text's walks alone
set_option linter.unusedVariables false
set_option linter.unusedSimpArgs false

/-! ### ogiveref10_Commit: function 22 -/

structure Hold30 (p : Prop) : Prop where
  out : p

theorem rc_cells4 {W : World} {g : Nat} {x0 x1 x2 x3 : Value} {t : TypeId} (h : W.heap[g]? = some (.cells #[x0, x1, x2, x3] t (0, 0))) :
    (W.cell? ⟨g, 0, none⟩ = some x0 ∧ W.cell? ⟨g, 1, none⟩ = some x1 ∧ W.cell? ⟨g, 2, none⟩ = some x2 ∧ W.cell? ⟨g, 3, none⟩ = some x3) ∧ (∀ j, W.frozen? ⟨g, j, none⟩ = false) :=
  ⟨⟨cell_of_row W g 0 _ _ _ h, cell_of_row W g 1 _ _ _ h, cell_of_row W g 2 _ _ _ h, cell_of_row W g 3 _ _ _ h⟩, fun j => by simp [World.frozen?, h]⟩
theorem rc_stored {w3 w4 : World} {gb : Nat} {t : TypeId} {x0 x1 x2 x3 y0 y1 y2 y3 : Value} (hbox : w4.heap[gb]? = some (.cells #[x0, x1, x2, x3] t (0, 0))) (hg : gb = w3.heap.size) (hb : Below w3.heap.size w3 w4) :
    ((((w4.setCell ⟨gb, 0, none⟩ y0).setCell ⟨gb, 1, none⟩ y1).setCell ⟨gb, 2, none⟩ y2).setCell ⟨gb, 3, none⟩ y3).heap[gb]? = some (.cells #[y0, y1, y2, y3] t (0, 0)) ∧ Below w3.heap.size w3 ((((w4.setCell ⟨gb, 0, none⟩ y0).setCell ⟨gb, 1, none⟩ y1).setCell ⟨gb, 2, none⟩ y2).setCell ⟨gb, 3, none⟩ y3) := by
  have hl := Nat.le_of_eq hg.symm
  exact ⟨blk_set (blk_set (blk_set (blk_set hbox 0 _) 1 _) 2 _) 3 _, below_set (below_set (below_set (below_set hb hl) hl) hl) hl⟩

/-- A version, committed where m tells so. -/
def rc_at (m : Bool) (ts : Int) (x : S30) : S30 := ⟨x.f0, x.f1, x.f2, x.f3 || (m && (x.f0 == ts))⟩

def ogiveref10_Commit.f (k : Nat) (l0 : List S30) (a1 : Int) : Option (List S30) :=
  (ogiveref10_May.f k l0).bind fun m => if l0.length < 3518437208883 then some (l0.map (rc_at m a1)) else none

theorem ogiveref10_Commit.mono : ∀ a0 a1 k, LeO (ogiveref10_Commit.f k a0 a1) (ogiveref10_Commit.f (k + 1) a0 a1) := by
  intro a0 a1 k
  unfold ogiveref10_Commit.f
  exact LeO.bind (ogiveref10_May.mono _ _) (fun _ => LeO.refl _)

theorem rc_take (m : Bool) (ts : Int) (l : List S30) (j : Int) (h0 : 0 ≤ j) (h1 : j < (l.length : Int)) : (l.take j.toNat).map (rc_at m ts) ++ [rc_at m ts (rd_T30 l j)] = (l.take (j + 1).toNat).map (rc_at m ts) := by
  have e : (j + 1).toNat = j.toNat + 1 := by omega
  have h : j.toNat < l.length := by omega
  rw [e, List.take_add_one, List.getElem?_eq_getElem h, List.map_append]
  unfold rd_T30
  rw [List.getD_eq_getElem?_getD, List.getElem?_eq_getElem h]
  rfl

set_option maxHeartbeats 4000000 in
set_option maxRecDepth 100000 in
theorem ogiveref10_Commit.calls (k : Nat) (A0 : Option Addr) (c0 : Nat) (l0 : List S30) (a1 : Int) (r : List S30) (w : World) (hr0 : Kd.C k30 w A0 l0.length l0) (hc0 : l0.length ≤ c0) (h : ogiveref10_Commit.f k l0 a1 = some r) :
    Calls Try.prog 22 #[.slice A0 l0.length c0, .int .i64 a1] w fun e w' => ∃ v0_ : Value, e = .returned (v0_) ∧ Kd.R k30 30 w' w.heap.size (fun _ => True) v0_ r ∧ Below w.heap.size w w' := by
  have hu30 := Try.underlying30
  obtain ⟨m, hm, h⟩ := Option.bind_eq_some_iff.1 h
  by_cases hl : l0.length < 3518437208883
  · rw [if_pos hl] at h
    obtain rfl := Option.some.inj h
    have HM := Aside0.mk hm
    have HR0 := Aside0.mk hr0
    have HC0 := Aside0.mk hc0
    clear hm h hr0 hc0
    go_enter Try.func22, Try.ntmps22
    go_wp2
    go_loopg [5, 6] l0.length (fun g v5 v6 w' => ∃ j : Int, v6 = .int .i64 j ∧ Aside0 (0 ≤ j ∧ j + g = l0.length) ∧ Aside0 (Kd.R k30 30 w' w.heap.size (fun _ => True) v5 ((l0.take j.toNat).map (rc_at m a1))) ∧ Aside0 (Below w.heap.size w w'))
    case atStart => exact ⟨0, rfl, ⟨by omega⟩, ⟨Kd.R_nil _ _ _ _ _⟩, ⟨Below.refl _ _⟩⟩
    case round =>
      obtain ⟨j, rfl, HJ, HO, HB⟩ := hrel
      have hj := HJ.out
      cases gk with
      | zero =>
        have hd : decide (j < (l0.length : Int)) = false := decide_eq_false (by omega)
        have hjl : (l0.take j.toNat) = l0 := List.take_of_length_le (by omega)
        have HO2 := HO.out
        rw [hjl] at HO2
        have HO3 := Aside0.mk HO2
        clear HO2 hjl hj
        go_wp2
        go_ret
        exact ⟨_, rfl, HO3.out, HB.out⟩
      | succ g =>
        have h0 : 0 ≤ j := hj.1
        have h1 : j < (l0.length : Int) := by omega
        have hd : decide (j < (l0.length : Int)) = true := decide_eq_true h1
        have e1 : wrap64 (j + 1) = j + 1 := by unfold wrap64; omega
        obtain ⟨ad, e, hx0, hx1, hx2, hx3⟩ := at_T30 HR0.out j h0 h1
        subst e
        replace hx0 := (HB.out.cell (World.block_lt_of_cell? w _ hx0)).trans hx0
        replace hx1 := (HB.out.cell (World.block_lt_of_cell? w _ hx1)).trans hx1
        replace hx2 := (HB.out.cell (World.block_lt_of_cell? w _ hx2)).trans hx2
        replace hx3 := (HB.out.cell (World.block_lt_of_cell? w _ hx3)).trans hx3
        have htk := rc_take m a1 l0 j h0 h1
        obtain ⟨x, hx⟩ : ∃ x, rd_T30 l0 j = x := ⟨_, rfl⟩
        rw [hx] at hx0 hx1 hx2 hx3 htk
        have HTK := Aside0.mk htk
        have HTL := Aside0.mk (show ((l0.take j.toNat).map (rc_at m a1)).length < 3518437208883 by rw [List.length_map, List.length_take]; omega)
        clear hj hx htk
        go_upto_region 6 with ((with_reducible refine gate_dst (N := 7) rfl ?_); refine box_event ?hg (N := 7) ?hd (cs := #[.int .i64 0, .int .i64 0, .string (⟨#[]⟩ : ByteArray), .bool false]) (t := 30) ?hr ?_; (case hd => rfl); (case hg => rfl); (case hr => first | (go_simp; done) | (go_simp; rfl)); intro gb hg wb hbox hb; have HBX := Aside0.mk hbox; have HGX := Aside0.mk hg; have HBB := Aside0.mk hb; obtain ⟨⟨z0, z1, z2, z3⟩, zf⟩ := rc_cells4 hbox; have zf0 := zf 0; have zf1 := zf 1; have zf2 := zf 2; have zf3 := zf 3; clear hbox hg hb zf)
        obtain ⟨W, hW⟩ : ∃ W, ((((wb.setCell ⟨gb, 0, none⟩ (.int .i64 x.f0)).setCell ⟨gb, 1, none⟩ (.int .i64 x.f1)).setCell ⟨gb, 2, none⟩ (.string x.f2)).setCell ⟨gb, 3, none⟩ (.bool x.f3)) = W := ⟨_, rfl⟩
        rw [hW]
        have hst := rc_stored (y0 := .int .i64 x.f0) (y1 := .int .i64 x.f1) (y2 := .string x.f2) (y3 := .bool x.f3) HBX.out HGX.out HBB.out
        rw [hW] at hst
        have HO1 := Aside0.mk (Kd.R_below (Kd.R_elderB HO.out gb (Nat.le_of_eq HGX.out.symm)) hst.2)
        have HB1 := Aside0.mk (HB.out.trans (hst.2.mono HB.out.size))
        have HGB := Aside0.mk (show w.heap.size ≤ gb by rw [HGX.out]; exact HB.out.size)
        have HK := Aside0.mk hst.1
        clear hW hst HBX HGX HBB z0 z1 z2 z3 zf0 zf1 zf2 zf3 hx0 hx1 hx2 hx3 HO HB
        obtain ⟨nb, hnb⟩ : ∃ nb, nb = (rc_at m a1 x).f3 := ⟨_, rfl⟩
        have HNB := Aside0.mk hnb
        go_cut [7] (fun v7 wc => v7 = .pointer (some ⟨gb, 0, none⟩) ∧ Aside0 (Kd.R k30 30 wc w.heap.size (fun k_ => True ∧ k_ ≠ gb) u5 ((l0.take j.toNat).map (rc_at m a1))) ∧ Aside0 (Below w.heap.size w wc) ∧ Aside0 (wc.heap[gb]? = some (.cells #[.int .i64 x.f0, .int .i64 x.f1, .string x.f2, .bool nb] 30 (0, 0))))
        case first =>
          cases hf3 : x.f3 with
          | true =>
            have HK2 := HK.out
            rw [hf3] at HK2
            have HK3 := Aside0.mk HK2
            obtain ⟨⟨z0, z1, z2, z3⟩, zf⟩ := rc_cells4 HK2
            have zf3 := zf 3
            obtain rfl : nb = true := by rw [hnb]; simp [rc_at, hf3]
            clear HK2 zf hnb hf3 HK
            go_wp2
            go_meet
            case rel => exact ⟨rfl, ⟨Kd.R_far HO1.out (fun _ hk => hk.2) _⟩, ⟨below_set HB1.out HGB.out⟩, ⟨blk_set HK3.out 3 _⟩⟩
          | false =>
            have HK2 := HK.out
            rw [hf3] at HK2
            have HK3 := Aside0.mk HK2
            obtain ⟨⟨z0, z1, z2, z3⟩, zf⟩ := rc_cells4 HK2
            clear HK2 zf HK
            have hnb2 : nb = (m && (x.f0 == a1)) := by rw [hnb]; simp [rc_at, hf3]
            clear hf3 hnb
            go_wp2_with fail
            refine (ogiveref10_May.calls k _ _ l0 m _ (Kd.C_below HR0.out HB1.out) HC0.out HM.out).mono ?_
            rintro e w5 ⟨rfl, d5⟩
            have b5 := d5.below
            have HO2 := Aside0.mk (Kd.R_below HO1.out b5)
            have HB2 := Aside0.mk (HB1.out.trans (b5.mono HB1.out.size))
            have HK4 := Aside0.mk (blk_below HK3.out b5)
            clear z0 z1 z2 z3 d5 b5
            obtain ⟨⟨z0, z1, z2, z3⟩, zf⟩ := rc_cells4 HK4.out
            have zf3 := zf 3
            clear zf
            cases m with
            | true =>
              have hnb3 : (x.f0 == a1) = nb := by rw [hnb2]; simp
              clear hnb2
              go_wp2
              go_meet
              case rel => exact ⟨rfl, ⟨Kd.R_far HO2.out (fun _ hk => hk.2) _⟩, ⟨below_set HB2.out HGB.out⟩, ⟨blk_set HK4.out 3 _⟩⟩
            | false =>
              obtain rfl : nb = false := by rw [hnb2]; simp
              clear hnb2
              go_wp2
              go_meet
              case rel => exact ⟨rfl, ⟨Kd.R_far HO2.out (fun _ hk => hk.2) _⟩, ⟨below_set HB2.out HGB.out⟩, ⟨blk_set HK4.out 3 _⟩⟩
        case rest =>
          obtain ⟨rfl, HO2, HB2, HK2⟩ := hcut
          have hxn : rc_at m a1 x = ⟨x.f0, x.f1, x.f2, nb⟩ := by rw [hnb]; rfl
          have HTK2 := HTK.out
          rw [hxn] at HTK2
          have HT2 := Aside0.mk HTK2
          obtain ⟨⟨z0, z1, z2, z3⟩, zf⟩ := rc_cells4 HK2.out
          clear HTK2 zf hxn hnb HK
          go_wp2_with (at_builtin; refine Hold30.out ?_)
          constructor
          refine Kd.R_append k30 (w0 := w) w.heap.size rfl (.tmp 31) (.tmp 33) 22 30 (.agg #[(.int .i64 0), (.int .i64 0), (.string ⟨#[]⟩), (.bool false)]) 40 rfl Try.underlying22 info30 rfl (by decide) (by omega) u5 ((l0.take j.toNat).map (rc_at m a1)) (⟨x.f0, x.f1, x.f2, nb⟩ : S30) [.int .i64 x.f0, .int .i64 x.f1, .string x.f2, .bool nb] (fun _ => True) (fun _ => False) rfl rfl (k30_mkM _ _ _ (⟨x.f0, x.f1, x.f2, nb⟩ : S30)) (fun _ h => h.elim) (fun _ _ => trivial) (Kd.R_mono HO2.out (fun _ _ => trivial)) HB2.out HB2.out.size (by have := HTL.out; omega) ?_
          intro v1 w1 hR1 hB1 _ _
          rw [HT2.out] at hR1
          have HR1 := Aside0.mk hR1
          have HB3 := Aside0.mk hB1
          clear hR1 hB1 z0 z1 z2 z3 HO2 HB2 HK2
          go_wp2
          go_roundg g
          case measure => omega
          case rel => exact ⟨j + 1, rfl, ⟨by have := HJ.out; push_cast at this ⊢; omega⟩, HR1, HB3⟩
  · rw [if_neg hl] at h
    cases h


end Go.Proofs.Ytdiahlfhcbcceaa.P
