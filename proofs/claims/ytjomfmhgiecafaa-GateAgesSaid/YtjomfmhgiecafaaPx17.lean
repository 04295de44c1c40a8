-- Written for this claim by a program of this seat's (wip/tools), by way of the kit's printing program; not one of its printed files. Lean checks it.
import Derived.Test.YtjomfmhgiecafaaPx0
import Derived.Test.YtjomfmhgiecafaaPx1
import Derived.Test.YtjomfmhgiecafaaPx2
import Derived.Test.YtjomfmhgiecafaaPx16
namespace Go.Proofs.Ytjomfmhgiecafaa.P
open Go.RowKit Go.Proofs.YtjomfmhgiecafaaW.PrintWords Go.Proofs.YtjomfmhgiecafaaW.PrintLast Go.Proofs.YtjomfmhgiecafaaW.PrintMore
attribute [local go_sem] max2_int min2_int max_two min_two max_three min_three max_four min_four   -- for this text's walks alone
set_option linter.unusedVariables false
set_option linter.unusedSimpArgs false

/-! ### gate_Lost: function 20 -/
def gate_Lost.f (k : Nat) (a0_0 : Int) (a0_1 : Int) (a0_2 : Int) (a0_3 : Bool) (a1 : Int) (a2 : Int) : Option (Int × Int × Int × Bool) := (gate_older.f a0_0 a0_1 a0_2 a0_3 a1).bind fun p => ((gate_Aged.f p.1 p.2.1 0 false a1).bind fun t => (if t = true then (some (p.1, p.2.1, 0, false)) else ((gate_Backoff.f k p.2.1 a2).bind fun r => (some (p.1, p.2.1, r, false)))))

theorem gate_Lost.mono : ∀ a0 a1 a2 a3 a4 a5 k, LeO (gate_Lost.f k a0 a1 a2 a3 a4 a5) (gate_Lost.f (k + 1) a0 a1 a2 a3 a4 a5) := by
  intro a0 a1 a2 a3 a4 a5 k
  unfold gate_Lost.f
  exact LeO.bind (LeO.refl _) (fun _ => LeO.bind (LeO.refl _) fun _ => LeO.ite (LeO.refl _) (LeO.bind (gate_Backoff.mono _ _ _) fun _ => LeO.refl _))

theorem lost_cells {W : World} {g : Nat} {x0 x1 x2 x3 : Value} {t : TypeId} (h : W.heap[g]? = some (.cells #[x0, x1, x2, x3] t (0, 0))) :
    (W.cell? ⟨g, 0, none⟩ = some x0 ∧ W.cell? ⟨g, 1, none⟩ = some x1 ∧ W.cell? ⟨g, 2, none⟩ = some x2 ∧ W.cell? ⟨g, 3, none⟩ = some x3) ∧ (∀ j, W.frozen? ⟨g, j, none⟩ = false) ∧ g < W.heap.size :=
  ⟨⟨cell_of_row W g 0 _ _ _ h, cell_of_row W g 1 _ _ _ h, cell_of_row W g 2 _ _ _ h, cell_of_row W g 3 _ _ _ h⟩, fun j => by simp [World.frozen?, h], (Array.getElem?_eq_some_iff.1 h).1⟩

theorem lost_blocks (w w1 : World) (o1 o2 : Obj) (hb : Below ((w.alloc o1).alloc o2).heap.size ((w.alloc o1).alloc o2) w1) : w1.heap[w.heap.size]? = some o1 ∧ w1.heap[w.heap.size + 1]? = some o2 ∧ Below w.heap.size w w1 := by
  have h2 := heap_alloc_new (w.alloc o1) o2
  rw [World.size_alloc] at h2
  refine ⟨(hb.block _ (by simp; omega)).trans ((Below.heap_alloc _ _ _ (by simp)).trans (heap_alloc_new w o1)), (hb.block _ (by simp)).trans h2, (((Below.refl _ w).alloc (Nat.le_refl _) _).alloc (by simp) _).trans (hb.mono (by simp; omega))⟩

set_option maxHeartbeats 200000 in
theorem gate_Lost.calls (k : Nat) (a0_0 : Int) (a0_1 : Int) (a0_2 : Int) (a0_3 : Bool) (a1 : Int) (a2 : Int) (r1 : Int) (r2 : Int) (r3 : Int) (r4 : Bool) (w : World) (h : gate_Lost.f k a0_0 a0_1 a0_2 a0_3 a1 a2 = some (r1, r2, r3, r4)) :
    Calls Try.prog 20 #[.agg #[.int .i64 a0_0, .int .i64 a0_1, .int .i64 a0_2, .bool a0_3], .int .i64 a1, .int .i64 a2] w fun e w' => e = .returned (.agg #[.int .i64 r1, .int .i64 r2, .int .i64 r3, .bool r4]) ∧ Below w.heap.size w w' := by
  unfold gate_Lost.f at h
  obtain ⟨⟨q1, q2, q3, q4⟩, ho, h⟩ := Option.bind_eq_some_iff.1 h
  obtain ⟨t, ha, h⟩ := Option.bind_eq_some_iff.1 h
  simp only at ha h
  have hu29 := Try.underlying29
  have HO := Aside0.mk ho
  have HA := Aside0.mk ha
  have HH := Aside0.mk h
  clear ho ha h
  go_enter Try.func20, Try.ntmps20
  go_wp2_with fail
  refine (gate_older.calls _ _ _ _ _ _ _ _ _ _ HO.out).mono ?_
  rintro e w1 ⟨rfl, hb⟩
  obtain ⟨hx, hy, hbl⟩ := lost_blocks w w1 _ _ hb
  clear hb
  obtain ⟨⟨x0, x1, x2, x3⟩, xf, xl⟩ := lost_cells hx
  obtain ⟨⟨y0, y1, y2, y3⟩, yf, yl⟩ := lost_cells hy
  have HX := Aside0.mk hx
  have HY := Aside0.mk hy
  clear hx hy
  go_upto_region 3 with (fail)
  generalize hW : World.setCell _ _ _ = w2
  have hx2 : w2.heap[w.heap.size]? = some (.cells #[.int .i64 q1, .int .i64 q2, .int .i64 0, .bool false] 29 (0, 0)) := by
    rw [← hW]
    exact blk_set (blk_set (blk_set (blk_set (blk_set (blk_set HX.out 0 _) 1 _) 2 _) 3 _) 3 _) 2 _
  have hy2 : w2.heap[w.heap.size + 1]? = some (.cells #[.int .i64 0, .int .i64 0, .int .i64 0, .bool false] 29 (0, 0)) := by
    rw [← hW]
    exact blk_far (blk_far (blk_far (blk_far (blk_far (blk_far HY.out (by simp) _) (by simp) _) (by simp) _) (by simp) _) (by simp) _) (by simp) _
  have hb2 : Below w.heap.size w w2 := by
    rw [← hW]
    exact (((((hbl.setCell (Nat.le_refl _) _).setCell (Nat.le_refl _) _).setCell (Nat.le_refl _) _).setCell (Nat.le_refl _) _).setCell (Nat.le_refl _) _).setCell (Nat.le_refl _) _
  clear hW HX HY x0 x1 x2 x3 xf xl y0 y1 y2 y3 yf yl hbl
  obtain ⟨⟨x0, x1, x2, x3⟩, xf, xl⟩ := lost_cells hx2
  have HX := Aside0.mk hx2
  have HY := Aside0.mk hy2
  clear hx2 hy2
  go_wp2_with fail
  refine (gate_Aged.calls _ _ _ _ _ _ _ HA.out).mono ?_
  rintro e w3 ⟨rfl, hb3⟩
  have hx3 := blk_below HX.out hb3
  have hy3 := blk_below HY.out hb3
  have hbl3 := hb2.trans (hb3.mono hb2.size)
  clear HX HY x0 x1 x2 x3 xf xl hb2 hb3
  have hh := HH.out
  cases t
  · rw [if_neg (by decide)] at hh
    obtain ⟨q, hq, hh⟩ := Option.bind_eq_some_iff.1 hh
    simp only [Option.some.injEq, Prod.mk.injEq] at hh
    obtain ⟨rfl, rfl, rfl, rfl⟩ := hh
    have HQ := Aside0.mk hq
    clear hq HH
    obtain ⟨⟨x0, x1, x2, x3⟩, xf, xl⟩ := lost_cells hx3
    have HX := Aside0.mk hx3
    have HY := Aside0.mk hy3
    clear hx3 hy3
    go_wp2_with fail
    refine (gate_Backoff.calls _ _ _ _ _ HQ.out).mono ?_
    rintro e w4 ⟨rfl, hb4⟩
    have hx4 := blk_below HX.out hb4
    have hy4 := blk_below HY.out hb4
    have hbl4 := hbl3.trans (hb4.mono hbl3.size)
    clear HX HY x0 x1 x2 x3 xf xl hbl3 hb4
    obtain ⟨⟨x0, x1, x2, x3⟩, xf, xl⟩ := lost_cells hx4
    obtain ⟨⟨y0, y1, y2, y3⟩, yf, yl⟩ := lost_cells hy4
    have HX := Aside0.mk hx4
    have HY := Aside0.mk hy4
    clear hx4 hy4
    go_wp2
    refine bodyPost_ret (results_cell_row rfl _ _ (w.heap.size + 1) 29 #[.int .i64 q1, .int .i64 q2, .int .i64 q, .bool false] (0, 0) _ rfl (blk_set (blk_set (blk_set (blk_set (blk_far HY.out (p := ⟨w.heap.size, 2, none⟩) (by simp) _) 0 _) 1 _) 2 _) 3 _) Try.underlying29 rfl (by kernel_rfl)) rfl ?_
    exact ⟨rfl, ((((hbl4.setCell (p := ⟨w.heap.size, 2, none⟩) (Nat.le_refl _) _).setCell (p := ⟨w.heap.size + 1, 0, none⟩) (by simp) _).setCell (p := ⟨w.heap.size + 1, 1, none⟩) (by simp) _).setCell (p := ⟨w.heap.size + 1, 2, none⟩) (by simp) _).setCell (p := ⟨w.heap.size + 1, 3, none⟩) (by simp) _⟩
  · rw [if_pos rfl] at hh
    simp only [Option.some.injEq, Prod.mk.injEq] at hh
    obtain ⟨rfl, rfl, rfl, rfl⟩ := hh
    clear HH
    obtain ⟨⟨x0, x1, x2, x3⟩, xf, xl⟩ := lost_cells hx3
    obtain ⟨⟨y0, y1, y2, y3⟩, yf, yl⟩ := lost_cells hy3
    have HX := Aside0.mk hx3
    have HY := Aside0.mk hy3
    clear hx3 hy3
    go_wp2
    refine bodyPost_ret (results_cell_row rfl _ _ (w.heap.size + 1) 29 #[.int .i64 q1, .int .i64 q2, .int .i64 0, .bool false] (0, 0) _ rfl (blk_set (blk_set (blk_set (blk_set HY.out 0 _) 1 _) 2 _) 3 _) Try.underlying29 rfl (by kernel_rfl)) rfl ?_
    exact ⟨rfl, (((hbl3.setCell (p := ⟨w.heap.size + 1, 0, none⟩) (by simp) _).setCell (p := ⟨w.heap.size + 1, 1, none⟩) (by simp) _).setCell (p := ⟨w.heap.size + 1, 2, none⟩) (by simp) _).setCell (p := ⟨w.heap.size + 1, 3, none⟩) (by simp) _⟩


end Go.Proofs.Ytjomfmhgiecafaa.P
