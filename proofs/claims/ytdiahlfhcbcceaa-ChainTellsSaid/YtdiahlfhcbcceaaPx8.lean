-- Written for this claim by a program of this seat's (wip/tools), by way of the kit's printing program; not one of its printed files. Lean checks it.
import Derived.Test.YtdiahlfhcbcceaaPx0
import Derived.Test.YtdiahlfhcbcceaaPx5
import Derived.Test.YtdiahlfhcbcceaaPx6
import Derived.Test.YtdiahlfhcbcceaaPx7
namespace Go.Proofs.Ytdiahlfhcbcceaa.P
open Go.RowKit Go.Proofs.YtdiahlfhcbcceaaW.PrintWords Go.Proofs.YtdiahlfhcbcceaaW.PrintLast Go.Proofs.YtdiahlfhcbcceaaW.PrintMore
attribute [local go_sem] max2_int min2_int max_two min_two max_three min_three max_four min_four   -- for this text's walks alone
set_option linter.unusedVariables false
set_option linter.unusedSimpArgs false

/-! ### chain_Write: function 13 -/
theorem cut_hm {P : Program} (t e : TypeId) (kh km : IntKind) {i : TypeInfo} (ht : P.underlying t = some (.slice e)) (hi : P.info? e = some i) (A : Option Addr) (n c : Nat) (j : Int) (h0 : 0 ≤ j) (hm : j ≤ c) :
    ∀ W : World, (Instr.slice t (.slice A n c) none (some (.int kh j)) (some (.int km j))).run P W = .ok (.slice A j.toNat j.toNat) W := by
  intro W
  have hel : P.elem t = e := by simp [Program.elem, ht]
  have hu : P.underlying t = some (.slice (P.elem t)) := by rw [hel]; exact ht
  have ha : (A.map fun x => x.add 0) = A := by cases A <;> simp [Addr.add]
  rw [run_slice_hm W t A n c hu kh km j j h0 (Int.le_refl _) (by omega), hel]
  simp [sizeOf, typeInfo, hi, sliced, Result.andThen, ha]

/-- append of a row that is read onto a row that is read and is full: a new row. -/
theorem append_two (W : World) (ty : TypeId) (xs ys : List S27) (A : Addr) (B : Option Addr) (m c : Nat) (hX : Kd.C k27 W (some A) xs.length xs) (hY : Kd.C k27 W B m ys) (hm : 0 < m) (hl : (xs.length + m) * 40 ≤ 140737488355328) :
    ∃ v1 w1, (Builtin.append_ #[24, 24] ty #[.slice (some A) xs.length xs.length, .slice B m c]).run Try.prog W = .ok v1 w1 ∧ Kd.R k27 27 w1 W.heap.size (fun k => W.heap.size ≤ k) v1 (xs ++ ys) ∧ W.grownBy w1 none := by
  obtain ⟨i0, hi, hzz⟩ := Option.map_eq_some_iff.1 info27
  simp only [Prod.mk.injEq] at hzz
  obtain ⟨hz0, hz1, hz2⟩ := hzz
  obtain ⟨b, rfl, _⟩ := hY.2.2 hm
  have hml : ys.length = m := hY.1
  obtain ⟨olds, hor, hoc⟩ := ReadsRow.inner_ hX
  obtain ⟨news, hnr, hnc⟩ := ReadsRow.inner_ hY
  obtain ⟨v1, w1, hrun, hown, hg⟩ := run_append_arg_grows (P := Try.prog) W 24 ty 27 i0 _ 4 40 Try.underlying24 hi hz0 hz1 hz2 (by decide) (by decide) A xs.length xs.length olds hor.1 hoc b m c news (by rw [hnr.1, hml]; rfl) hnc (by omega) (by simp only [maxLen]; omega) hl
  refine ⟨v1, w1, hrun, ⟨fun k hk => own_base hown k hk, olds ++ news, by rw [List.length_append, hml]; exact hown, Kd.reps_append (hor.imp_ (fun _ _ h => clone_mk _ _ h)) (hnr.imp_ (fun _ _ h => clone_mk _ _ h))⟩, hg⟩

theorem wp_append_two {ops : Array Oper} {rest : List Oper} {o : Oper} {a : Act} {Q : Exit → Act → World → Prop} {W : World} (hgd : o.guard = none) (s x : Operand)
    (ho : o.op = .call { callee := .builtin .append, args := #[s, x], argTypes := #[24, 24] }) (xs ys : List S27) (A : Addr) (B : Option Addr) (n m c : Nat) (hn : n = xs.length) (hs : a.eval s = .slice (some A) n n) (hx : a.eval x = .slice B m c)
    (hX : Kd.C k27 W (some A) xs.length xs) (hY : Kd.C k27 W B m ys) (hm : 0 < m) (hl : (xs.length + m) * 40 ≤ 140737488355328)
    (h : ∀ v1 w1, Kd.R k27 27 w1 W.heap.size (fun k => W.heap.size ≤ k) v1 (xs ++ ys) → W.grownBy w1 none → wpList Try.prog ops Q rest (a.put o.dst v1) w1) : wpList Try.prog ops Q (o :: rest) a W := by
  subst hn
  obtain ⟨v1, w1, hrun, hR, hg⟩ := append_two W o.type xs ys A B m c hX hY hm hl
  refine wpList_plain hgd fun K hK => ?_
  unfold Oper.wp execOp
  simp only [ho, resolve, invoke, builtin, Sem.run_bind, Sem.run_pure, Result.andThen_ok, List.map_toArray, List.map_cons, List.map_nil, hs, hx, hrun]
  exact hK _ _ (h v1 w1 hR hg)

theorem step_append_two {ops : Array Oper} {o : Oper} {a : Act} {W : World} {K : Act → World → Prop} {Q : Exit → Act → World → Prop} {E : Prop} (hgd : o.guard = none) (s x : Operand)
    (ho : o.op = .call { callee := .builtin .append, args := #[s, x], argTypes := #[24, 24] }) (xs ys : List S27) (A : Addr) (B : Option Addr) (n m c : Nat) (hn : n = xs.length) (hs : a.eval s = .slice (some A) n n) (hx : a.eval x = .slice B m c)
    (hX : Kd.C k27 W (some A) xs.length xs) (hY : Kd.C k27 W B m ys) (hm : 0 < m) (hl : (xs.length + m) * 40 ≤ 140737488355328)
    (h : ∀ v1 w1, Kd.R k27 27 w1 W.heap.size (fun k => W.heap.size ≤ k) v1 (xs ++ ys) → W.grownBy w1 none → K (a.put o.dst v1) w1) :
    if Region.wanted o (yielded ops a.tmps) = true then Oper.wp Try.prog o a W K Q else E := by
  subst hn
  have hw : Region.wanted o (yielded ops a.tmps) = true := by simp [Region.wanted, hgd]
  rw [if_pos hw]
  obtain ⟨v1, w1, hrun, hR, hg⟩ := append_two W o.type xs ys A B m c hX hY hm hl
  unfold Oper.wp execOp
  simp only [ho, resolve, invoke, builtin, Sem.run_bind, Sem.run_pure, Result.andThen_ok, List.map_toArray, List.map_cons, List.map_nil, hs, hx, hrun]
  exact h v1 w1 hR hg

/-- append of nothing onto a full row: the row itself. -/
theorem append_none (W : World) (ty : TypeId) (A : Addr) (B : Option Addr) (n c : Nat) : (Builtin.append_ #[24, 24] ty #[.slice (some A) n n, .slice B 0 c]).run Try.prog W = .ok (.slice (some A) n n) W := by
  obtain ⟨i0, hi, hzz⟩ := Option.map_eq_some_iff.1 info27
  cases B with
  | none => simp [Builtin.append_, run_underlying Try.underlying24, sizeOf, typeInfo, hi, Builtin.lenOf, Builtin.firstCells, storeCells]
  | some b =>
    have h0 : (loadCells b 0).run Try.prog W = .ok #[] W := run_loadCells_list (P := Try.prog) W b [] (fun j v hj => by simp at hj)
    simp [Builtin.append_, run_underlying Try.underlying24, sizeOf, typeInfo, hi, Builtin.lenOf, Builtin.firstCells, storeCells, h0]

theorem C_one27 {W : World} {b : Nat} (x : S27) (h : W.heap[b]? = some (.cells #[.int .i64 x.f0, .int .i64 x.f1, .string x.f2, .bool x.f3] 27 (0, 0))) : Kd.C k27 W (some ⟨b, 0, none⟩) 1 [x] := by
  refine ⟨rfl, by omega, fun _ => ⟨_, rfl, fun j p hj => ?_⟩⟩
  have hj0 : j = 0 := by
    rcases j with _ | j
    · rfl
    · simp at hj
  subst hj0
  obtain rfl : x = p := by simpa using hj
  refine ⟨_, ?_, k27_mk W x, ?_⟩
  · rfl
  · intro i u hu
    rw [add_zero_addr]
    have h4 := four_at (w := W) (g := b) (o := 0) (blk_cell h 0) (blk_cell h 1) (blk_cell h 2) (blk_cell h 3) i u hu
    rw [Nat.zero_mul]
    exact h4

def valAt (x : S27) (v : ByteArray) : S27 := ⟨x.f0, x.f1, v, x.f3⟩

def chain_Write.f (k : Nat) (l0 : List S27) (a1 : Int) (a2 : ByteArray) : Option (List S27 × Int) :=
  (chain_Look.f k l0 a1).bind fun t => if t < 0 then some (l0, 8)
    else if t < (l0.length : Int) then
      (if (rd_T27 l0 t).f1 > a1 then some (l0, 8)
       else if (rd_T27 l0 t).f0 < a1 then (if l0.length < 3518437208882 then some ((l0.take (t + 1).toNat ++ [⟨a1, a1, a2, false⟩]) ++ l0.drop (t + 1).toNat, 0) else none)
       else if (rd_T27 l0 t).f3 = true then some (l0, 8)
       else (chain_Ver_28.f l0).bind fun c => some (c.set t.toNat (valAt (rd_T27 l0 t) a2), 0))
    else none

theorem chain_Write.mono : ∀ a0 a1 a2 k, LeO (chain_Write.f k a0 a1 a2) (chain_Write.f (k + 1) a0 a1 a2) := by
  intro a0 a1 a2 k
  unfold chain_Write.f
  exact LeO.bind (chain_Look.mono _ _ _) (fun _ => LeO.refl _)

set_option maxHeartbeats 4000000 in
theorem chain_Write.calls (k : Nat) (P0_ : Nat → Prop) (A0 : Option Addr) (c0 : Nat) (l0 : List S27) (a1 : Int) (a2 : ByteArray) (r1 : List S27) (r2 : Int) (w : World) (hs0 : Kd.V k27 27 w w.heap.size (fun k_ => P0_ k_) (.slice A0 l0.length c0) l0) (h : chain_Write.f k l0 a1 a2 = some (r1, r2)) :
    Calls Try.prog 13 #[.slice A0 l0.length c0, .int .i64 a1, .string a2] w fun e w' => ∃ v0_, e = .returned (.tuple #[v0_, .int .i64 r2]) ∧ Kd.V k27 27 w' w.heap.size (fun k_ => (P0_ k_ ∨ w.heap.size ≤ k_)) v0_ r1 ∧ Below w.heap.size w w' := by
  have hu27 := Try.underlying27
  have hu24 := Try.underlying24
  obtain ⟨_, hc, hC⟩ := Kd.V_reads' hs0
  have hm : (l0.length : Int) ≤ 9223372036854775807 := by have := hC.2.1; omega
  have HS := Aside0.mk (Kd.V_bound hs0)
  have HC := Aside0.mk hC
  have HL := Aside0.mk hc
  clear hs0 hC hc
  obtain ⟨q, hq, h⟩ := Option.bind_eq_some_iff.1 h
  have HQ := Aside0.mk hq
  clear hq
  by_cases hn : q < 0
  · rw [if_pos hn] at h
    simp only [Option.some.injEq, Prod.mk.injEq] at h
    obtain ⟨rfl, rfl⟩ := h
    have hd : decide (q < 0) = true := decide_eq_true hn
    go_enter Try.func13, Try.ntmps13
    go_wp2_with fail
    refine (chain_Look.calls _ _ _ _ _ _ _ HC.out HL.out HQ.out).mono ?_
    rintro e w2 ⟨rfl, b2⟩
    have HB2 := Aside0.mk b2
    have HS2 := Aside0.mk (Kd.V_below HS.out b2)
    clear b2 h
    go_wp2
    refine bodyPost_ret (results_tmp2 rfl _ _ _) rfl ?_
    exact ⟨_, rfl, Kd.V_mono HS2.out (fun k_ hk_ => .inl hk_.1), HB2.out⟩
  · rw [if_neg hn] at h
    have hd : decide (q < 0) = false := decide_eq_false hn
    by_cases hq1 : q < (l0.length : Int)
    · rw [if_pos hq1] at h
      have hn0 : 0 ≤ q := by omega
      obtain ⟨ad, rfl, hx0, hx1, hx2, hx3⟩ := at_T27 HC.out q hn0 hq1
      have HX := Aside0.mk (And.intro hx0 (And.intro hx1 (And.intro hx2 hx3)))
      clear hx0 hx1 hx2 hx3
      by_cases c1 : (rd_T27 l0 q).f1 > a1
      · rw [if_pos c1] at h
        simp only [Option.some.injEq, Prod.mk.injEq] at h
        obtain ⟨rfl, rfl⟩ := h
        have d1 : decide ((rd_T27 l0 q).f1 > a1) = true := decide_eq_true c1
        go_enter Try.func13, Try.ntmps13
        go_wp2_with fail
        refine (chain_Look.calls _ _ _ _ _ _ _ HC.out HL.out HQ.out).mono ?_
        rintro e w2 ⟨rfl, b2⟩
        have HB2 := Aside0.mk b2
        have HS2 := Aside0.mk (Kd.V_below HS.out b2)
        have hx1 := (HB2.out.cell (World.block_lt_of_cell? w _ HX.out.2.1)).trans HX.out.2.1
        clear b2 h
        go_wp2
        refine bodyPost_ret (results_tmp2 rfl _ _ _) rfl ?_
        exact ⟨_, rfl, Kd.V_mono HS2.out (fun k_ hk_ => .inl hk_.1), HB2.out⟩
      · rw [if_neg c1] at h
        have d1 : decide ((rd_T27 l0 q).f1 > a1) = false := decide_eq_false c1
        by_cases c2 : (rd_T27 l0 q).f0 < a1
        · rw [if_pos c2] at h
          have d2 : decide ((rd_T27 l0 q).f0 < a1) = true := decide_eq_true c2
          by_cases c3 : l0.length < 3518437208882
          · rw [if_pos c3] at h
            simp only [Option.some.injEq, Prod.mk.injEq] at h
            obtain ⟨rfl, rfl⟩ := h
            obtain ⟨i0, hi, hzz⟩ := Option.map_eq_some_iff.1 info27
            simp only [Prod.mk.injEq] at hzz
            have hp0 : 0 ≤ q + 1 := by omega
            have hpl : q + 1 ≤ (l0.length : Int) := by omega
            have hpc : q + 1 ≤ (c0 : Int) := by have := HL.out; omega
            have ct1 := cut_hm 24 27 .i64 .i64 Try.underlying24 hi (some ad) l0.length c0 (q + 1) hp0 hpc
            have ct2 := cut_from 24 27 .i64 Try.underlying24 hi 4 hzz.2.1 (some ad) l0.length c0 (q + 1) hp0 hpl
            obtain ⟨B, hB⟩ : ∃ B, (if c0 = (q + 1).toNat then some ad else Option.map (fun x => x.add ((q + 1).toNat * 4)) (some ad)) = B := ⟨_, rfl⟩
            rw [hB] at ct2
            have HBD := Aside0.mk hB
            clear hzz hi hB
            go_enter Try.func13, Try.ntmps13
            go_wp2_with fail
            refine (chain_Look.calls _ _ _ _ _ _ _ HC.out HL.out HQ.out).mono ?_
            rintro e w2 ⟨rfl, b2⟩
            have HB2 := Aside0.mk b2
            have HC2 := Aside0.mk (Kd.C_below HC.out b2)
            have hx0 := (HB2.out.cell (World.block_lt_of_cell? w _ HX.out.1)).trans HX.out.1
            have hx1 := (HB2.out.cell (World.block_lt_of_cell? w _ HX.out.2.1)).trans HX.out.2.1
            clear b2 h
            go_wp2_with (at_builtin; refine Hold.out ?_)
            constructor
            have hlq : (q + 1).toNat ≤ l0.length := by omega
            have hlt : (q + 1).toNat = (l0.take (q + 1).toNat).length := by rw [List.length_take]; omega
            refine wp_append_two rfl (.tmp 37) (.tmp 42) rfl (l0.take (q + 1).toNat) [⟨a1, a1, a2, false⟩] ad (some ⟨w2.heap.size, 0, none⟩) (q + 1).toNat 1 1 hlt rfl rfl (Kd.C_below (Kd.C_take HC2.out hlq) (below_alloc (Below.refl _ _) _)) (C_one27 ⟨a1, a1, a2, false⟩ (blk_new w2 _)) (by omega) (by rw [← hlt]; omega) ?_
            intro v3 w3 hR3 hg3
            have HR3 := Aside0.mk hR3
            have hb3 : Below (w2.alloc (.cells #[.int .i64 a1, .int .i64 a1, .string a2, .bool false] 27)).heap.size (w2.alloc (.cells #[.int .i64 a1, .int .i64 a1, .string a2, .bool false] 27)) w3 := (Below.refl _ _).grown hg3 (Nat.le_refl _) (fun k hk => by cases hk)
            have HB3 := Aside0.mk hb3
            have HB3' := Aside0.mk ((below_alloc (Below.refl _ w2) _).trans (hb3.mono (by simp)))
            have HC3 := Aside0.mk (Kd.C_below (Kd.C_drop HC2.out hlq HL.out) HB3'.out)
            have HLT := Aside0.mk hlt
            clear hR3 hg3 hb3 hlt hx0 hx1 HX HC2
            go_wp2_with (at_builtin; refine Hold.out ?_)
            constructor
            refine Kd.R_append_rows k27 (Rr := k27.K w3) (w0 := w2) w2.heap.size rfl (.tmp 44) (.tmp 48) 24 27 (.agg #[(.int .i64 0), (.int .i64 0), (.string ⟨#[]⟩), (.bool false)]) 40 rfl Try.underlying24 info27 rfl (by decide) (by decide) v3 _ (l0.drop (q + 1).toNat) _ (l0.length - (q + 1).toNat) _ (fun k => w2.heap.size ≤ k) (fun _ => False) rfl rfl (Kd.R_mono (Kd.R_lower HR3.out (by simp)) (fun k hk => Nat.le_trans (by simp) hk)) (by have := HC3.out; rw [List.length_drop] at this; rw [← HBD.out]; exact this) (fun x cs h => clone_mk x cs h) (fun _ h => h.elim) (fun k hk => Nat.le_trans HB3'.out.size hk) HB3'.out HB3'.out.size (by simp; omega) ?_
            intro v4 w4 hR4 hB4 hg4 _
            have HR4 := Aside0.mk hR4
            have HB4 := Aside0.mk (HB2.out.trans (hB4.mono HB2.out.size))
            clear hR4 hB4 hg4 HR3 HB3
            go_wp2
            refine bodyPost_ret (results_tmp2 rfl _ _ _) rfl ?_
            have hsz : w.heap.size ≤ w2.heap.size := HB2.out.size
            obtain ⟨A4, c4, hv4⟩ := Kd.R_slice HR4.out
            have hR4 := HR4.out
            rw [hv4] at hR4
            have hV := Kd.V_mk (e := 27) (base := w.heap.size) (Kd.R_reads' hR4).2.1 (Kd.R_F hR4)
            rw [← hv4] at hV
            exact ⟨v4, rfl, Kd.V_mono hV (fun k_ hk_ => .inr (Nat.le_trans hsz hk_)), HB4.out⟩
          · rw [if_neg c3] at h
            cases h
        · rw [if_neg c2] at h
          have d2 : decide ((rd_T27 l0 q).f0 < a1) = false := decide_eq_false c2
          cases hc3 : (rd_T27 l0 q).f3 with
          | true =>
            rw [if_pos hc3] at h
            simp only [Option.some.injEq, Prod.mk.injEq] at h
            obtain ⟨rfl, rfl⟩ := h
            rw [hc3] at HX
            go_enter Try.func13, Try.ntmps13
            go_wp2_with fail
            refine (chain_Look.calls _ _ _ _ _ _ _ HC.out HL.out HQ.out).mono ?_
            rintro e w2 ⟨rfl, b2⟩
            have HB2 := Aside0.mk b2
            have HS2 := Aside0.mk (Kd.V_below HS.out b2)
            have hx0 := (HB2.out.cell (World.block_lt_of_cell? w _ HX.out.1)).trans HX.out.1
            have hx1 := (HB2.out.cell (World.block_lt_of_cell? w _ HX.out.2.1)).trans HX.out.2.1
            have hx3 := (HB2.out.cell (World.block_lt_of_cell? w _ HX.out.2.2.2)).trans HX.out.2.2.2
            clear b2 h
            go_wp2
            refine bodyPost_ret (results_tmp2 rfl _ _ _) rfl ?_
            exact ⟨_, rfl, Kd.V_mono HS2.out (fun k_ hk_ => .inl hk_.1), HB2.out⟩
          | false =>
            rw [if_neg (by rw [hc3]; decide)] at h
            obtain ⟨c, hcl, h⟩ := Option.bind_eq_some_iff.1 h
            obtain rfl := clone_is hcl
            have HCL := Aside0.mk hcl
            clear hcl
            simp only [Option.some.injEq, Prod.mk.injEq] at h
            obtain ⟨rfl, rfl⟩ := h
            have HC3 := Aside0.mk hc3
            rw [hc3] at HX
            clear hc3
            go_enter Try.func13, Try.ntmps13
            go_wp2_with fail
            refine (chain_Look.calls _ _ _ _ _ _ _ HC.out HL.out HQ.out).mono ?_
            rintro e w2 ⟨rfl, b2⟩
            have HB2 := Aside0.mk b2
            have HC2 := Aside0.mk (Kd.C_below HC.out b2)
            have hx0 := (HB2.out.cell (World.block_lt_of_cell? w _ HX.out.1)).trans HX.out.1
            have hx1 := (HB2.out.cell (World.block_lt_of_cell? w _ HX.out.2.1)).trans HX.out.2.1
            have hx3 := (HB2.out.cell (World.block_lt_of_cell? w _ HX.out.2.2.2)).trans HX.out.2.2.2
            clear b2 h
            go_wp2_with fail
            refine (chain_Ver_28.calls _ _ _ _ _ HC2.out HL.out HCL.out).mono ?_
            rintro e w3 ⟨v3, rfl, ho, b3⟩
            obtain ⟨g, c3, hv⟩ := R_at0 ho (by omega)
            subst hv
            clear hx0 hx1 hx3
            obtain ⟨hx0, hx1, hx2, hx3⟩ := own_cells27 ho q hn0 hq1
            have HO := Aside0.mk ho
            have HY := Aside0.mk (And.intro hx0 (And.intro hx1 (And.intro hx2 hx3)))
            have HB3 := Aside0.mk b3
            clear ho HC2 b3
            have HQ1 := Aside0.mk hq1
            have HQ0 := Aside0.mk hn0
            go_wp2_with ((with_reducible refine gate_ (.store 9 (.tmp 62) (.tmp 60)) rfl ?_); refine Hold.out ?_)
            constructor
            refine Kd.R_store k27 (w0 := w2) w2.heap.size rfl rfl 9 (.tmp 62) (.tmp 60) rfl 27 (g := g) (n := c.length) (cap := c3) (o' := q.toNat * 4 + 2) q 2 c (valAt (rd_T27 c q) a2) (.string a2) [.string a2] [.int .i64 (rd_T27 c q).f0, .int .i64 (rd_T27 c q).f1, .string (rd_T27 c q).f2, .bool (rd_T27 c q).f3] (fun _ => True) (fun _ => False) rfl rfl rfl rfl (by kernel_rfl) (by simp [Value.oneCell']) HO.out HQ0.out HQ1.out rfl (four_at HY.out.1 HY.out.2.1 HY.out.2.2.1 HY.out.2.2.2) (show 2 + 1 ≤ 4 by decide) (k27_mkM _ _ _ _) (fun _ h => h.elim) HB3.out ?_
            intro w4 hR4 hB4 hG4
            have HR4 := Aside0.mk hR4
            have HB4 := Aside0.mk hB4
            clear hR4 hB4 hG4 hx0 hx1 hx2 hx3
            go_wp2
            refine bodyPost_ret (results_tmp2 rfl _ _ _) rfl ?_
            have hR : Kd.R k27 27 w4 w2.heap.size (fun k_ => w2.heap.size ≤ k_) (.slice (some ⟨g, 0, none⟩) (c.set q.toNat (valAt (rd_T27 c q) a2)).length c3) (c.set q.toNat (valAt (rd_T27 c q) a2)) := Kd.R_mono (Kd.R_bound (by rw [List.length_set]; exact HR4.out)) (fun k_ hk_ => hk_.2.1)
            have hV := Kd.V_mk (e := 27) (base := w.heap.size) (Kd.R_reads' hR).2.1 (Kd.R_F hR)
            rw [List.length_set] at hV
            have hsz : w.heap.size ≤ w2.heap.size := HB2.out.size
            exact ⟨_, rfl, Kd.V_mono hV (fun k_ hk_ => .inr (Nat.le_trans hsz hk_)), HB2.out.trans (HB4.out.mono hsz)⟩
    · rw [if_neg hq1] at h
      cases h


end Go.Proofs.Ytdiahlfhcbcceaa.P
