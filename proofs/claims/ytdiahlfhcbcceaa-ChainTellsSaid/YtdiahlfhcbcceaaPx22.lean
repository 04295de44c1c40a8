-- Written for this claim by a program of this seat's (wip/tools), by way of the kit's printing program; not one of its printed files. Lean checks it.
import Derived.Test.YtdiahlfhcbcceaaPx0
import Derived.Test.YtdiahlfhcbcceaaPx8
import Derived.Test.YtdiahlfhcbcceaaPx19
namespace Go.Proofs.Ytdiahlfhcbcceaa.P
open Go.RowKit Go.Proofs.YtdiahlfhcbcceaaW.PrintWords Go.Proofs.YtdiahlfhcbcceaaW.PrintLast Go.Proofs.YtdiahlfhcbcceaaW.PrintMore
attribute [local go_sem] max2_int min2_int max_two min_two max_three min_three max_four min_four   -- for this text's walks alone
set_option linter.unusedVariables false
set_option linter.unusedSimpArgs false

/-! ### chain_Abort: function 23 -/
theorem step_append_none {ops : Array Oper} {o : Oper} {a : Act} {W : World} {K : Act → World → Prop} {Q : Exit → Act → World → Prop} {E : Prop} (hgd : o.guard = none) (s x : Operand)
    (ho : o.op = .call { callee := .builtin .append, args := #[s, x], argTypes := #[24, 24] }) (A : Addr) (B : Option Addr) (n c : Nat) (hs : a.eval s = .slice (some A) n n) (hx : a.eval x = .slice B 0 c)
    (h : K (a.put o.dst (.slice (some A) n n)) W) :
    if Region.wanted o (yielded ops a.tmps) = true then Oper.wp Try.prog o a W K Q else E := by
  have hw : Region.wanted o (yielded ops a.tmps) = true := by simp [Region.wanted, hgd]
  rw [if_pos hw]
  unfold Oper.wp execOp
  simp only [ho, resolve, invoke, builtin, Sem.run_bind, Sem.run_pure, Result.andThen_ok, List.map_toArray, List.map_cons, List.map_nil, hs, hx, append_none]
  exact h

def chain_Abort.f (k : Nat) (l0 : List S27) (a1 : Int) : Option (List S27) :=
  (chain_of.f k l0 a1).bind fun t => if t < 0 then some l0
    else if t < (l0.length : Int) then
      (if (rd_T27 l0 t).f3 = true then some l0
       else if l0.length < 3518437208882 then some (l0.take t.toNat ++ l0.drop (t + 1).toNat) else none)
    else none

theorem chain_Abort.mono : ∀ a0 a1 k, LeO (chain_Abort.f k a0 a1) (chain_Abort.f (k + 1) a0 a1) := by
  intro a0 a1 k
  unfold chain_Abort.f
  exact LeO.bind (chain_of.mono _ _ _) (fun _ => LeO.refl _)

set_option maxHeartbeats 4000000 in
theorem chain_Abort.calls (k : Nat) (P0_ : Nat → Prop) (A0 : Option Addr) (c0 : Nat) (l0 : List S27) (a1 : Int) (r : List S27) (w : World) (hs0 : Kd.V k27 27 w w.heap.size (fun k_ => P0_ k_) (.slice A0 l0.length c0) l0) (h : chain_Abort.f k l0 a1 = some r) :
    Calls Try.prog 23 #[.slice A0 l0.length c0, .int .i64 a1] w fun e w' => ∃ v0_, e = .returned v0_ ∧ Kd.V k27 27 w' w.heap.size (fun k_ => (P0_ k_ ∨ w.heap.size ≤ k_)) v0_ r ∧ Below w.heap.size w w' := by
  have hu27 := Try.underlying27
  have hu24 := Try.underlying24
  obtain ⟨_, hc, hC⟩ := Kd.V_reads' hs0
  have hm : (l0.length : Int) ≤ 9223372036854775807 := by have := hC.2.1; omega
  have HS := Aside0.mk (Kd.V_bound hs0)
  have HC := Aside0.mk hC
  have HL := Aside0.mk hc
  clear hs0 hC hc
  obtain ⟨q, hq, h⟩ := Option.bind_eq_some_iff.1 h
  have HQ := Aside0.mk hq
  clear hq
  by_cases hn : q < 0
  · rw [if_pos hn] at h
    obtain rfl := Option.some.inj h
    have hd : decide (q < 0) = true := decide_eq_true hn
    go_enter Try.func23, Try.ntmps23
    go_wp2_with fail
    refine (chain_of.calls _ _ _ _ _ _ _ HC.out HL.out HQ.out).mono ?_
    rintro e w2 ⟨rfl, b2⟩
    have HB2 := Aside0.mk b2
    have HS2 := Aside0.mk (Kd.V_below HS.out b2)
    clear b2 h
    go_wp2
    go_ret
    exact ⟨_, rfl, Kd.V_mono HS2.out (fun k_ hk_ => .inl hk_.1), HB2.out⟩
  · rw [if_neg hn] at h
    have hd : decide (q < 0) = false := decide_eq_false hn
    by_cases hq1 : q < (l0.length : Int)
    · rw [if_pos hq1] at h
      have hn0 : 0 ≤ q := by omega
      obtain ⟨ad, rfl, hx0, hx1, hx2, hx3⟩ := at_T27 HC.out q hn0 hq1
      have HX := Aside0.mk (And.intro hx0 (And.intro hx1 (And.intro hx2 hx3)))
      clear hx0 hx1 hx2 hx3
      cases hc3 : (rd_T27 l0 q).f3 with
      | true =>
        rw [if_pos hc3] at h
        obtain rfl := Option.some.inj h
        rw [hc3] at HX
        go_enter Try.func23, Try.ntmps23
        go_wp2_with fail
        refine (chain_of.calls _ _ _ _ _ _ _ HC.out HL.out HQ.out).mono ?_
        rintro e w2 ⟨rfl, b2⟩
        have HB2 := Aside0.mk b2
        have HS2 := Aside0.mk (Kd.V_below HS.out b2)
        have hx3 := (HB2.out.cell (World.block_lt_of_cell? w _ HX.out.2.2.2)).trans HX.out.2.2.2
        clear b2 h
        go_wp2
        go_ret
        exact ⟨_, rfl, Kd.V_mono HS2.out (fun k_ hk_ => .inl hk_.1), HB2.out⟩
      | false =>
        rw [if_neg (by rw [hc3]; decide)] at h
        rw [hc3] at HX
        by_cases c3 : l0.length < 3518437208882
        · rw [if_pos c3] at h
          obtain rfl := Option.some.inj h
          obtain ⟨i0, hi, hzz⟩ := Option.map_eq_some_iff.1 info27
          simp only [Prod.mk.injEq] at hzz
          have hp0 : 0 ≤ q + 1 := by omega
          have hpl : q + 1 ≤ (l0.length : Int) := by omega
          have hpc : q ≤ (c0 : Int) := by have := HL.out; omega
          have e1 : wrap64 (q + 1) = q + 1 := by unfold wrap64; omega
          have e2 : IntKind.i64.wrap (q + 1) = q + 1 := by rw [IntKind.wrap_i64]; omega
          have ct1 := cut_hm 24 27 .i64 .i64 Try.underlying24 hi (some ad) l0.length c0 q hn0 hpc
          have ct2 := cut_from 24 27 .i64 Try.underlying24 hi 4 hzz.2.1 (some ad) l0.length c0 (q + 1) hp0 hpl
          obtain ⟨B, hB⟩ : ∃ B, (if c0 = (q + 1).toNat then some ad else Option.map (fun x => x.add ((q + 1).toNat * 4)) (some ad)) = B := ⟨_, rfl⟩
          rw [hB] at ct2
          have HBD := Aside0.mk hB
          have hlq : q.toNat ≤ l0.length := by omega
          have hlq1 : (q + 1).toNat ≤ l0.length := by omega
          have hlt : q.toNat = (l0.take q.toNat).length := by rw [List.length_take]; omega
          have HLQ := Aside0.mk (And.intro hlq (And.intro hlq1 hlt))
          obtain ⟨m, hml⟩ : ∃ m, l0.length - (q + 1).toNat = m := ⟨_, rfl⟩
          rw [hml] at ct2
          have HML := Aside0.mk hml
          have H3 := Aside0.mk c3
          clear hzz hi hB hlq hlq1 hlt hml
          by_cases hm0 : m = 0
          · subst hm0
            go_enter Try.func23, Try.ntmps23
            go_wp2_with fail
            refine (chain_of.calls _ _ _ _ _ _ _ HC.out HL.out HQ.out).mono ?_
            rintro e w2 ⟨rfl, b2⟩
            have HB2 := Aside0.mk b2
            have HS2 := Aside0.mk (Kd.V_below HS.out b2)
            have hx3 := (HB2.out.cell (World.block_lt_of_cell? w _ HX.out.2.2.2)).trans HX.out.2.2.2
            clear b2 h
            go_wp2
            go_region_law (refine step_append_none rfl (.tmp 22) (.tmp 26) rfl ad B q.toNat (c0 - (q + 1).toNat) (by simp [Act.eval, Act.put]) (by simp [Act.eval, Act.put]) ?_)
            go_wp2
            go_ret
            have hdr : l0.drop (q + 1).toNat = [] := List.drop_eq_nil_of_le (by have := HML.out; omega)
            rw [hdr, List.append_nil]
            obtain ⟨_, _, hF⟩ := Kd.V_at HS2.out
            have hF2 : Kd.F k27 w2 (fun k_ => P0_ k_ ∧ k_ < w.heap.size) (some ad) (l0.take q.toNat).length (l0.take q.toNat) := Kd.F_imp hF (fun _ h => Kd.C_take h HLQ.out.1)
            have hV := Kd.V_mk (e := 27) (base := w.heap.size) (c := q.toNat) (by rw [← HLQ.out.2.2]; exact Nat.le_refl _) hF2
            rw [← HLQ.out.2.2] at hV
            exact ⟨_, rfl, Kd.V_drew (Kd.V_mono hV (fun k_ hk_ => .inl hk_.1)), below_drew HB2.out⟩
          · have HM0 := Aside0.mk hm0
            clear hm0
            go_enter Try.func23, Try.ntmps23
            go_wp2_with fail
            refine (chain_of.calls _ _ _ _ _ _ _ HC.out HL.out HQ.out).mono ?_
            rintro e w2 ⟨rfl, b2⟩
            have HB2 := Aside0.mk b2
            have HC2 := Aside0.mk (Kd.C_below HC.out b2)
            have hx3 := (HB2.out.cell (World.block_lt_of_cell? w _ HX.out.2.2.2)).trans HX.out.2.2.2
            have HT := Aside0.mk (Kd.C_drew (Kd.C_take HC2.out HLQ.out.1))
            have hD := Kd.C_drew (Kd.C_drop HC2.out HLQ.out.2.1 HL.out)
            rw [List.length_drop, HML.out] at hD
            have HD := Aside0.mk (show Kd.C k27 w2.drew B m (l0.drop (q + 1).toNat) by rw [← HBD.out]; exact hD)
            clear b2 h hD
            go_wp2
            go_region_law (refine step_append_two rfl (.tmp 22) (.tmp 26) rfl (l0.take q.toNat) (l0.drop (q + 1).toNat) ad B q.toNat m (c0 - (q + 1).toNat) HLQ.out.2.2 (by simp [Act.eval, Act.put]) (by simp [Act.eval, Act.put]) HT.out HD.out (Nat.pos_of_ne_zero HM0.out) (by rw [← HLQ.out.2.2]; have := HML.out; have := H3.out; omega) ?_; intro v3 w3 hR3 hg3; have HR3 := Aside0.mk hR3; have HB3 := Aside0.mk (show Below w.heap.size w w3 from (below_drew HB2.out).trans (((Below.refl _ w2.drew).grown hg3 (Nat.le_refl _) (fun k hk => by cases hk)).mono HB2.out.size)); clear hR3 hg3)
            go_wp2
            go_ret
            obtain ⟨A4, c4, hv4⟩ := Kd.R_slice HR3.out
            have hR4 := HR3.out
            rw [hv4] at hR4
            have hV := Kd.V_mk (e := 27) (base := w.heap.size) (Kd.R_reads' hR4).2.1 (Kd.R_F hR4)
            rw [← hv4] at hV
            exact ⟨_, rfl, Kd.V_mono hV (fun k_ hk_ => .inr (Nat.le_trans HB2.out.size hk_)), HB3.out⟩
        · rw [if_neg c3] at h
          cases h
    · rw [if_neg hq1] at h
      cases h


end Go.Proofs.Ytdiahlfhcbcceaa.P
