/- ChainSees, walked by its facts. -/
import Derived.WalkSpells
import Derived.RegionTactic
import Derived.ChangeAlike
import Derived.Test.YtdiahlfhcbcceaaChainC
import Derived.Test.YtdiahlfhcbcceaaPx1
namespace Go.Proofs.Ytdiahlfhcbcceaa.Pure
open Go.RowKit Go.Proofs.Ytdiahlfhcbcceaa.P Go.Proofs.YtdiahlfhcbcceaaW.PrintWords Go.Proofs.YtdiahlfhcbcceaaW.PrintLast Go.Proofs.YtdiahlfhcbcceaaW.PrintMore
attribute [local go_sem] max2_int min2_int max_two min_two max_three min_three max_four min_four
attribute [local go_sem high] eqA27
set_option linter.unusedVariables false

theorem cells4_ {W : World} {g : Nat} {x0 x1 x2 x3 : Value} {t : TypeId} (h : W.heap[g]? = some (.cells #[x0, x1, x2, x3] t (0, 0))) :
    (W.cell? ⟨g, 0, none⟩ = some x0 ∧ W.cell? ⟨g, 1, none⟩ = some x1 ∧ W.cell? ⟨g, 2, none⟩ = some x2 ∧ W.cell? ⟨g, 3, none⟩ = some x3) ∧ (∀ j, W.frozen? ⟨g, j, none⟩ = false) :=
  ⟨⟨cell_of_row W g 0 _ _ _ h, cell_of_row W g 1 _ _ _ h, cell_of_row W g 2 _ _ _ h, cell_of_row W g 3 _ _ _ h⟩, fun j => by simp [World.frozen?, h]⟩

/-- Behind the calls: what the law holds. -/
structure Held (w W : World) (A : Option Addr) (c : Nat) (l : List S27) (A1 : Option Addr) (c1 : Nat) (l1 : List S27) (gb : Nat) (v : S27) : Prop where
  row : Kd.C k27 W A l.length l
  cap : l.length ≤ c
  row1 : Kd.C k27 W A1 l1.length l1
  cap1 : l1.length ≤ c1
  box : W.heap[gb]? = some (.cells #[.int .i64 v.f0, .int .i64 v.f1, .string v.f2, .bool v.f3] 27 (0, 0))
  below : Below w.heap.size w W

theorem Held.drewN {w W : World} {A : Option Addr} {c : Nat} {l : List S27} {A1 : Option Addr} {c1 : Nat} {l1 : List S27} {gb : Nat} {v : S27} (h : Held w W A c l A1 c1 l1 gb v) (n : Nat) : Held w (W.drewN n) A c l A1 c1 l1 gb v :=
  ⟨Kd.C_drewN h.row n, h.cap, Kd.C_drewN h.row1 n, h.cap1, blk_drewN h.box n, pw_below_drewN h.below n⟩

theorem rd_other {pre : List S27} {x y : S27} {post : List S27} (i : Nat) (hi : i < (pre ++ x :: post).length) (h : i ≠ pre.length) : rd_T27 (pre ++ y :: post) (i : Int) = rd_T27 (pre ++ x :: post) (i : Int) := by
  rw [rd_get hi, rd_get (by rw [len_mid] at hi ⊢; exact hi)]
  rcases Nat.lt_or_ge i pre.length with h1 | h1
  · rw [List.getElem_append_left h1, List.getElem_append_left h1]
  · rw [List.getElem_append_right h1, List.getElem_append_right h1]
    obtain ⟨j, hj⟩ : ∃ j, i - pre.length = j + 1 := ⟨i - pre.length - 1, by omega⟩
    simp only [hj, List.getElem_cons_succ]

set_option maxHeartbeats 4000000 in
set_option maxRecDepth 100000 in
theorem sees_calls (A0 : Option Addr) (c0 : Nat) (l0 : List S51) (a1 : Int) (w : World) (hr0 : Kd.C k51 w A0 l0.length l0) (hc0 : l0.length ≤ c0) :
    Calls Try.prog 8 #[.slice A0 l0.length c0, .int .i64 a1] w fun e w' => e = .returned (.bool true) ∧ Below w.heap.size w w' := by
  have hu27 := Try.underlying27
  obtain ⟨l, hrun, hI, hlen⟩ := run_tells l0
  have HR := Aside0.mk hr0
  have HC := Aside0.mk hc0
  have HRun := Aside0.mk (hrun 1000 (by omega))
  have HI := Aside0.mk hI
  clear hr0 hc0 hrun
  obtain ⟨l1, v, hread, hfacts⟩ : ∃ (l1 : List S27) (v : S27), chain_Read.f 1000 l a1 = some (l1, v.f0, v.f1, v.f2, v.f3) ∧ ((a1 < 0 ∧ l1 = l) ∨ (0 ≤ a1 ∧ ∃ pre x post, Parts l a1 pre x post ∧ v = readAt x a1 ∧ l1 = pre ++ readAt x a1 :: post)) := by
    by_cases hb : a1 < 0
    · exact ⟨l, ⟨0, 0, ⟨#[]⟩, false⟩, (none_tells (hI.look_neg hb (by omega) 1000 (by omega)) ⟨#[]⟩).1, .inl ⟨hb, rfl⟩⟩
    · obtain ⟨pre, x, post, hp⟩ := hI.parts (show 0 ≤ a1 by omega)
      exact ⟨pre ++ readAt x a1 :: post, readAt x a1, read_tells hp hI.good (by omega) 1000 (by omega), .inr ⟨by omega, pre, x, post, hp, rfl, rfl⟩⟩
  have hl1 : l1.length = l.length := by
    rcases hfacts with ⟨_, rfl⟩ | ⟨_, pre, x, post, hp, _, rfl⟩
    · rfl
    · rw [hp.eq, len_mid, len_mid]
  have HRd := Aside0.mk hread
  have HF := Aside0.mk hfacts
  clear hread hfacts hI
  go_enter Try.func8, Try.ntmps8
  go_wp2_with fail
  refine (ogivelaw10_awake.calls 1000 true _ (awake_tells 1000 (by omega))).mono ?_
  rintro e w1 ⟨rfl, b1⟩
  have HB1 := Aside0.mk b1
  clear b1
  go_wp2_with fail
  refine (ogivelaw10_run.calls 1000 _ _ l0 l _ (Kd.C_below HR.out HB1.out) HC.out HRun.out).mono ?_
  rintro e w2 ⟨u2, rfl, ho2, b2⟩
  obtain ⟨A2, c2, hu2⟩ := Kd.V_slice ho2
  subst hu2
  have HB2 := Aside0.mk (HB1.out.trans (b2.mono HB1.out.size))
  have HO2 := Aside0.mk (Kd.V_mono ho2 (ok' := fun _ => True) (fun _ _ => trivial))
  clear ho2 b2 HB1
  go_wp2_with fail
  refine (chain_Read.calls 1000 (fun _ => True) _ _ l a1 l1 v.f0 v.f1 v.f2 v.f3 _ (show Kd.V k27 27 w2 w2.heap.size (fun _ => True) _ _ from HO2.out) HRd.out).mono ?_
  rintro e w3 ⟨u3, rfl, ho3, b3⟩
  obtain ⟨A3, c3, hu3⟩ := Kd.V_slice ho3
  subst hu3
  have HB3 := Aside0.mk (HB2.out.trans (b3.mono HB2.out.size))
  obtain ⟨_, hc2, hC2⟩ := Kd.V_reads' HO2.out
  obtain ⟨_, hc3, hC3⟩ := Kd.V_reads' ho3
  have HC2 := Aside0.mk (Kd.C_below hC2 b3)
  have HC3 := Aside0.mk hC3
  have HL := Aside0.mk (And.intro hc2 hc3)
  clear ho3 b3 hc2 hc3 hC2 hC3 HO2 HB2
  go_upto_region 4 with ((with_reducible refine gate_dst (N := 8) rfl ?_); refine box_event ?hg (N := 8) ?hd (cs := #[.int .i64 0, .int .i64 0, .string (⟨#[]⟩ : ByteArray), .bool false]) (t := 27) ?hr ?_; (case hd => rfl); (case hg => rfl); (case hr => first | (go_simp; done) | (go_simp; rfl)); intro gb hg w4 hbox hb; have HBK := Aside0.mk hbox; have HG := Aside0.mk hg; have HB4 := Aside0.mk hb; obtain ⟨⟨z0, z1, z2, z3⟩, zf⟩ := cells4_ hbox; have zf0 := zf 0; have zf1 := zf 1; have zf2 := zf 2; have zf3 := zf 3; clear hbox hg hb zf)
  obtain ⟨W, hW⟩ : ∃ W, ((((w4.setCell ⟨gb, 0, none⟩ (.int .i64 v.f0)).setCell ⟨gb, 1, none⟩ (.int .i64 v.f1)).setCell ⟨gb, 2, none⟩ (.string v.f2)).setCell ⟨gb, 3, none⟩ (.bool v.f3)) = W := ⟨_, rfl⟩
  rw [hW]
  have hheld : Held w W A2 c2 l A3 c3 l1 gb v := by
    have hsz : w.heap.size ≤ w3.heap.size := HB3.out.size
    have hg : w3.heap.size ≤ gb := Nat.le_of_eq HG.out.symm
    have hb : Below w3.heap.size w3 W := by rw [← hW]; exact below_set (below_set (below_set (below_set HB4.out hg) hg) hg) hg
    refine ⟨Kd.C_below HC2.out hb, HL.out.1, Kd.C_below HC3.out hb, HL.out.2, ?_, HB3.out.trans (hb.mono hsz)⟩
    rw [← hW]
    exact blk_set (blk_set (blk_set (blk_set HBK.out 0 _) 1 _) 2 _) 3 _
  have HH := Aside0.mk hheld
  clear hheld hW z0 z1 z2 z3 zf0 zf1 zf2 zf3 HBK HB4 HG HB3 HC2 HC3 HL HR HC HRun HRd w4 w3 w2 w1
  have HN := Aside0.mk hl1
  rcases HF.out with ⟨hneg, rfl⟩ | ⟨hpos, pre, x, post, hp, rfl, rfl⟩
  · have hd : decide (a1 < 0) = true := decide_eq_true hneg
    go_wp2
    go_ret
    exact ⟨rfl, HH.out.below⟩
  · have hd : decide (a1 < 0) = false := decide_eq_false (by omega)
    have HP := Aside0.mk hp
    have hll : l.length ≤ 61 := hlen
    clear hpos
    go_wp2
    go_loopg [9] l.length (fun g v9 w' => ∃ j : Int, v9 = .int .i64 j ∧ Aside0 (0 ≤ j ∧ j + g = l.length) ∧ Aside0 (Held w w' A2 c2 l A3 c3 (pre ++ readAt x a1 :: post) gb (readAt x a1)))
    case atStart => exact ⟨0, rfl, ⟨by omega⟩, HH⟩
    case round =>
      clear HH
      obtain ⟨j, rfl, HJ, HH⟩ := hrel
      have hj := HJ.out
      cases gk with
      | zero =>
        have hd0 : decide (j < (l.length : Int)) = false := decide_eq_false (by omega)
        have hd1 : decide ((readAt x a1).f0 ≤ a1) = true := decide_eq_true HP.out.at_
        have hd2 : decide ((readAt x a1).f1 ≥ a1) = true := decide_eq_true (readAt_f1 x a1).2
        obtain ⟨⟨z0, z1, z2, z3⟩, zf⟩ := cells4_ HH.out.box
        clear zf hj hp hl1 hlen
        go_wp2
        go_ret
        exact ⟨rfl, HH.out.below⟩
      | succ g =>
        obtain ⟨i, hi0⟩ : ∃ i : Nat, j = (i : Int) := ⟨j.toNat, by omega⟩
        have hil : i < l.length := by omega
        have h0 : 0 ≤ j := by omega
        have h1 : j < (l.length : Int) := by omega
        have hd0 : decide (j < (l.length : Int)) = true := decide_eq_true h1
        obtain ⟨ad, e, hx0, hx1, hx2, hx3⟩ := at_T27 HH.out.row j h0 h1
        subst e
        obtain ⟨ad1, e, hy0, hy1, hy2, hy3⟩ := at_T27 HH.out.row1 j h0 (by rw [HN.out]; exact h1)
        subst e
        obtain ⟨⟨z0, z1, z2, z3⟩, zf⟩ := cells4_ HH.out.box
        clear zf
        have e1 : wrap64 (j + 1) = j + 1 := by unfold wrap64; omega
        have e1' : IntKind.i64.wrap (j + 1) = j + 1 := by rw [IntKind.wrap_i64]; omega
        have HI2 := Aside0.mk hi0
        by_cases hi : i = pre.length
        · have r0 : rd_T27 l j = x := by rw [HP.out.eq, hi0, hi]; exact rd_mid pre x post
          have r1 : rd_T27 (pre ++ readAt x a1 :: post) j = readAt x a1 := by rw [hi0, hi]; exact rd_mid pre _ post
          rw [r0] at hx0 hx1 hx2 hx3
          rw [r1] at hy0 hy1 hy2 hy3
          have o0 : (x.f0 == (readAt x a1).f0) = true := by simp [readAt]
          have o1 : decide (x.f0 ≤ a1) = true := decide_eq_true HP.out.at_
          have o2 : decide (x.f0 > (readAt x a1).f0) = false := decide_eq_false (by simp [readAt])
          have hmx : (if x.f1 < a1 then a1 else x.f1) = (readAt x a1).f1 := rfl
          clear r0 r1 hi hi0 hp hl1 hlen hil hj
          go_wp2
          go_quiet (fail)
          go_wp2
          go_quiet (fail)
          go_wp2
          go_roundg g
          case measure => omega
          case rel => exact ⟨j + 1, rfl, ⟨by have := HJ.out; push_cast at this ⊢; omega⟩, ⟨HH.out.drewN _⟩⟩
        · have hlt : i < (pre ++ x :: post).length := by rw [← HP.out.eq]; exact hil
          have r1 : rd_T27 (pre ++ readAt x a1 :: post) j = rd_T27 l j := by rw [HP.out.eq, hi0]; exact rd_other i hlt hi
          rw [r1] at hy0 hy1 hy2 hy3
          have hat := HP.out.at_
          have hz : (i < pre.length ∧ (rd_T27 l j).f0 < x.f0) ∨ (pre.length < i ∧ a1 < (rd_T27 l j).f0) := by
            rw [hi0, rd_get hil]
            have hg : l[i] = (pre ++ x :: post)[i] := by simp only [HP.out.eq]
            rw [hg]
            rcases Nat.lt_or_ge i pre.length with h | h
            · refine .inl ⟨h, ?_⟩
              rw [List.getElem_append_left h]
              exact HP.out.pre _ (List.getElem_mem h)
            · refine .inr ⟨by omega, ?_⟩
              rw [List.getElem_append_right h]
              obtain ⟨d, hd⟩ : ∃ d, i - pre.length = d + 1 := ⟨i - pre.length - 1, by omega⟩
              simp only [hd, List.getElem_cons_succ]
              exact HP.out.post _ (List.getElem_mem _)
          obtain ⟨y, hy⟩ : ∃ y, rd_T27 l j = y := ⟨_, rfl⟩
          rw [hy] at hx0 hx1 hx2 hx3 hy0 hy1 hy2 hy3 hz
          have o0 : (y.f0 == (readAt x a1).f0) = false := by
            have : y.f0 ≠ x.f0 := by rcases hz with h | h <;> omega
            simpa [readAt] using this
          clear r1 hy hi hi0 hp hl1 hlen hil hj hlt
          rcases hz with ⟨_, hz⟩ | ⟨_, hz⟩
          · have o1 : decide (y.f0 ≤ a1) = true := decide_eq_true (by omega)
            have o2 : decide (y.f0 > (readAt x a1).f0) = false := decide_eq_false (by simp only [readAt]; omega)
            clear hz hat
            go_wp2
            go_quiet (fail)
            go_wp2
            go_quiet (fail)
            go_wp2
            go_roundg g
            case measure => omega
            case rel => exact ⟨j + 1, rfl, ⟨by have := HJ.out; push_cast at this ⊢; omega⟩, ⟨HH.out.drewN _⟩⟩
          · have o1 : decide (y.f0 ≤ a1) = false := decide_eq_false (by omega)
            clear hz hat
            go_wp2
            go_quiet (fail)
            go_wp2
            go_quiet (fail)
            go_wp2
            go_roundg g
            case measure => omega
            case rel => exact ⟨j + 1, rfl, ⟨by have := HJ.out; push_cast at this ⊢; omega⟩, ⟨HH.out.drewN _⟩⟩
end Go.Proofs.Ytdiahlfhcbcceaa.Pure
