-- Written for this claim by a program of this seat's (wip/tools), by way of the kit's printing program; not one of its printed files. Lean checks it.
import Derived.Test.YtdiahlfhcbcceaaPx0
namespace Go.Proofs.Ytdiahlfhcbcceaa.P
open Go.RowKit Go.Proofs.YtdiahlfhcbcceaaW.PrintWords Go.Proofs.YtdiahlfhcbcceaaW.PrintLast Go.Proofs.YtdiahlfhcbcceaaW.PrintMore
attribute [local go_sem] max2_int min2_int max_two min_two max_three min_three max_four min_four   -- for this text's walks alone
set_option linter.unusedVariables false
set_option linter.unusedSimpArgs false

/-! ### chain_Ver_28: function 28 -/
def chain_Ver_28.f (l0 : List S27) : Option (List S27) := if l0.length < 3518437208883 then some l0 else none

theorem clone_empty (W : World) : Kd.R k27 27 (W.alloc (.cells #[] 27)) W.heap.size (fun _ => True) (.slice (some ⟨W.heap.size, 0, none⟩) 0 0) [] :=
  ⟨fun _ _ => trivial, OwnRow.lit (R := k27.M (W.alloc (.cells #[] 27)) W.heap.size _) (e := 27) (size := 4) W W.heap.size (ps := []) (inner := []) (Reps.none _ _) (Nat.le_refl _) (by simp)⟩
theorem clone_reads {W : World} {A : Option Addr} {l : List S27} {o : Obj} (h : Kd.C k27 W A l.length l) : ReadsRow (k27.K W) k27.sz (W.alloc o) A l.length l :=
  ReadsRow.imp_ h ((Below.refl _ W).alloc (Nat.le_refl _) o) (fun _ _ h => h)
theorem clone_mk {W W1 : World} {base : Nat} {ok : Nat → Prop} (x : S27) (cs : List Value) (h : k27.K W x cs) : k27.M W1 base ok x cs := by
  rw [k27_open h]; exact k27_mkM W1 base ok x

set_option maxHeartbeats 1000000 in
theorem chain_Ver_28.calls (A0 : Option Addr) (c0 : Nat) (l0 : List S27) (r : List S27) (w : World) (hr0 : Kd.C k27 w A0 l0.length l0) (hc0 : l0.length ≤ c0) (h : chain_Ver_28.f l0 = some r) :
    Calls Try.prog 28 #[.slice A0 l0.length c0] w fun e w' => ∃ v0_ : Value, e = .returned (v0_) ∧ Kd.R k27 27 w' w.heap.size (fun _ => True) v0_ r ∧ Below w.heap.size w w' := by
  have hu24 := Try.underlying24
  unfold chain_Ver_28.f at h
  by_cases hl : l0.length < 3518437208883
  · rw [if_pos hl] at h
    obtain rfl := Option.some.inj h
    clear h
    have hnil := fun (W : World) (a : Option Addr) (n c : Nat) => Lib.run_eql_slice_nil (P := Try.prog) W 24 27 a n c 0 0 Try.underlying24
    cases A0 with
    | none =>
      have h0 : l0.length = 0 := by
        rcases Nat.eq_zero_or_pos l0.length with h0 | h0
        · exact h0
        · obtain ⟨ad, he, _⟩ := hr0.2.2 h0
          cases he
      obtain rfl : l0 = [] := List.eq_nil_of_length_eq_zero h0
      clear hr0 h0 hl
      go_enter Try.func28, Try.ntmps28
      go_wp2
      go_ret
      exact ⟨_, rfl, Kd.R_nil _ _ _ _ _, Below.refl _ _⟩
    | some ad =>
      have HR := Aside0.mk hr0
      clear hr0
      go_enter Try.func28, Try.ntmps28
      have HO := Aside0.mk (clone_empty w)
      go_wp2_with (at_builtin; refine Kd.R_append_rows k27 (Rr := k27.K w) (w0 := w) w.heap.size rfl (.tmp 5) (.tmp 6) 24 27 (.agg #[(.int .i64 0), (.int .i64 0), (.string ⟨#[]⟩), (.bool false)]) 40 rfl Try.underlying24 info27 rfl (by decide) (by decide) (.slice (some ⟨w.heap.size, 0, none⟩) 0 0) [] l0 (some ad) l0.length c0 (fun _ => True) (fun _ => False) rfl rfl HO.out (clone_reads HR.out) clone_mk (fun _ h => h.elim) (fun _ _ => trivial) ((Below.refl _ w).alloc (Nat.le_refl _) _) (by simp) (by simp; omega) ?_; intro v1 w1 hR1 hB1 _ _; rw [List.nil_append] at hR1; have HR1 := Aside0.mk hR1; have HB1 := Aside0.mk hB1; clear hR1 hB1)
      go_ret
      exact ⟨_, rfl, HR1.out, HB1.out⟩
  · rw [if_neg hl] at h
    cases h


end Go.Proofs.Ytdiahlfhcbcceaa.P
