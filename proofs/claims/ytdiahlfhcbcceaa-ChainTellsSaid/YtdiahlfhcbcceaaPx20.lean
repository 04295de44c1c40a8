-- Written for this claim by a program of this seat's (wip/tools), by way of the kit's printing program; not one of its printed files. Lean checks it.
import Derived.Test.YtdiahlfhcbcceaaPx0
import Derived.Test.YtdiahlfhcbcceaaPx6
import Derived.Test.YtdiahlfhcbcceaaPx7
import Derived.Test.YtdiahlfhcbcceaaPx19
namespace Go.Proofs.Ytdiahlfhcbcceaa.P
open Go.RowKit Go.Proofs.YtdiahlfhcbcceaaW.PrintWords Go.Proofs.YtdiahlfhcbcceaaW.PrintLast Go.Proofs.YtdiahlfhcbcceaaW.PrintMore
attribute [local go_sem] max2_int min2_int max_two min_two max_three min_three max_four min_four   -- for this text's walks alone
set_option linter.unusedVariables false
set_option linter.unusedSimpArgs false

/-! ### chain_Commit: function 21 -/
def doneAt (x : S27) : S27 := ⟨x.f0, x.f1, x.f2, true⟩

def chain_Commit.f (k : Nat) (l0 : List S27) (a1 : Int) : Option (List S27) :=
  (chain_of.f k l0 a1).bind fun t => if t < 0 then some l0
    else if t < (l0.length : Int) then (chain_Ver_28.f l0).bind fun c => some (c.set t.toNat (doneAt (rd_T27 l0 t)))
    else none

theorem chain_Commit.mono : ∀ a0 a1 k, LeO (chain_Commit.f k a0 a1) (chain_Commit.f (k + 1) a0 a1) := by
  intro a0 a1 k
  unfold chain_Commit.f
  exact LeO.bind (chain_of.mono _ _ _) (fun _ => LeO.refl _)

set_option maxHeartbeats 2000000 in
theorem chain_Commit.calls (k : Nat) (P0_ : Nat → Prop) (A0 : Option Addr) (c0 : Nat) (l0 : List S27) (a1 : Int) (r : List S27) (w : World) (hs0 : Kd.V k27 27 w w.heap.size (fun k_ => P0_ k_) (.slice A0 l0.length c0) l0) (h : chain_Commit.f k l0 a1 = some r) :
    Calls Try.prog 21 #[.slice A0 l0.length c0, .int .i64 a1] w fun e w' => ∃ v0_, e = .returned v0_ ∧ Kd.V k27 27 w' w.heap.size (fun k_ => (P0_ k_ ∨ w.heap.size ≤ k_)) v0_ r ∧ Below w.heap.size w w' := by
  have hu27 := Try.underlying27
  obtain ⟨_, hc, hC⟩ := Kd.V_reads' hs0
  have hm : (l0.length : Int) ≤ 9223372036854775807 := by have := hC.2.1; omega
  have HS := Aside0.mk (Kd.V_bound hs0)
  have HC := Aside0.mk hC
  have HL := Aside0.mk hc
  clear hs0 hC hc
  obtain ⟨q, hq, h⟩ := Option.bind_eq_some_iff.1 h
  have HQ := Aside0.mk hq
  clear hq
  by_cases hn : q < 0
  · rw [if_pos hn] at h
    obtain rfl := Option.some.inj h
    go_enter Try.func21, Try.ntmps21
    go_wp2_with fail
    refine (chain_of.calls _ _ _ _ _ _ _ HC.out HL.out HQ.out).mono ?_
    rintro e w2 ⟨rfl, b2⟩
    have HB2 := Aside0.mk b2
    have HS2 := Aside0.mk (Kd.V_below HS.out b2)
    clear b2 h
    go_wp2
    go_ret
    exact ⟨_, rfl, Kd.V_mono HS2.out (fun k_ hk_ => .inl hk_.1), HB2.out⟩
  · rw [if_neg hn] at h
    by_cases hq1 : q < (l0.length : Int)
    · rw [if_pos hq1] at h
      obtain ⟨c, hcl, h⟩ := Option.bind_eq_some_iff.1 h
      obtain rfl := clone_is hcl
      have HCL := Aside0.mk hcl
      clear hcl
      obtain rfl := Option.some.inj h
      go_enter Try.func21, Try.ntmps21
      go_wp2_with fail
      refine (chain_of.calls _ _ _ _ _ _ _ HC.out HL.out HQ.out).mono ?_
      rintro e w2 ⟨rfl, b2⟩
      have HB2 := Aside0.mk b2
      have HC2 := Aside0.mk (Kd.C_below HC.out b2)
      clear b2 h
      go_wp2_with fail
      refine (chain_Ver_28.calls _ _ _ _ _ HC2.out HL.out HCL.out).mono ?_
      rintro e w3 ⟨v3, rfl, ho, b3⟩
      have hn0 : 0 ≤ q := by omega
      obtain ⟨g, c3, hv⟩ := R_at0 ho (by omega)
      subst hv
      obtain ⟨hx0, hx1, hx2, hx3⟩ := own_cells27 ho q hn0 hq1
      have HO := Aside0.mk ho
      have HX := Aside0.mk (And.intro hx0 (And.intro hx1 (And.intro hx2 hx3)))
      have HB3 := Aside0.mk b3
      clear ho HC2 b3
      have HQ1 := Aside0.mk hq1
      have HQ0 := Aside0.mk hn0
      go_wp2_with ((with_reducible refine gate_ (.store 4 (.tmp 17) (.const (.bool true))) rfl ?_); refine Hold.out ?_)
      constructor
      refine Kd.R_store k27 (w0 := w2) w2.heap.size rfl rfl 4 (.tmp 17) (.const (.bool true)) rfl 27 (g := g) (n := c.length) (cap := c3) (o' := q.toNat * 4 + 3) q 3 c (doneAt (rd_T27 c q)) (.bool true) [.bool true] [.int .i64 (rd_T27 c q).f0, .int .i64 (rd_T27 c q).f1, .string (rd_T27 c q).f2, .bool (rd_T27 c q).f3] (fun _ => True) (fun _ => False) rfl rfl rfl rfl (by kernel_rfl) (by simp [Value.oneCell']) HO.out HQ0.out HQ1.out rfl (four_at HX.out.1 HX.out.2.1 HX.out.2.2.1 HX.out.2.2.2) (show 3 + 1 ≤ 4 by decide) (k27_mkM _ _ _ _) (fun _ h => h.elim) HB3.out ?_
      intro w4 hR4 hB4 hG4
      have HR4 := Aside0.mk hR4
      have HB4 := Aside0.mk hB4
      clear hR4 hB4 hG4 hx0 hx1 hx2 hx3
      go_wp2
      go_ret
      have hR : Kd.R k27 27 w4 w2.heap.size (fun k_ => w2.heap.size ≤ k_) (.slice (some ⟨g, 0, none⟩) (c.set q.toNat (doneAt (rd_T27 c q))).length c3) (c.set q.toNat (doneAt (rd_T27 c q))) := Kd.R_mono (Kd.R_bound (by rw [List.length_set]; exact HR4.out)) (fun k_ hk_ => hk_.2.1)
      have hV := Kd.V_mk (e := 27) (base := w.heap.size) (Kd.R_reads' hR).2.1 (Kd.R_F hR)
      rw [List.length_set] at hV
      have hsz : w.heap.size ≤ w2.heap.size := HB2.out.size
      exact ⟨_, rfl, Kd.V_mono hV (fun k_ hk_ => .inr (Nat.le_trans hsz hk_)), HB2.out.trans (HB4.out.mono hsz)⟩
    · rw [if_neg hq1] at h
      cases h


end Go.Proofs.Ytdiahlfhcbcceaa.P
