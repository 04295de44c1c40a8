-- Written for this claim by a program of this seat's (wip/tools), by way of the kit's printing program; not one of its printed files. Lean checks it.
import Derived.Test.YtjomfmhgiecafaaPx0
import Derived.Test.YtjomfmhgiecafaaPx3
namespace Go.Proofs.Ytjomfmhgiecafaa.P
open Go.RowKit Go.Proofs.YtjomfmhgiecafaaW.PrintWords Go.Proofs.YtjomfmhgiecafaaW.PrintLast Go.Proofs.YtjomfmhgiecafaaW.PrintMore
attribute [local go_sem] max2_int min2_int max_two min_two max_three min_three max_four min_four   -- for this text's walks alone
set_option linter.unusedVariables false
set_option linter.unusedSimpArgs false

/-! ### gate_May: function 22 -/
theorem may_lit (a0 a1 a2 : Int) (a3 : Bool) (w : World) : Calls Try.prog 25 #[.agg #[.int .i64 a0, .int .i64 a1, .int .i64 a2, .bool a3]] w fun e w' => e = .returned (.bool a3) ∧ Below w.heap.size w w' := by
  go_enter Try.func25, Try.ntmps25
  go_wp2
  go_ret
  exact ⟨rfl, (Below.refl _ _).alloc (Nat.le_refl _) _⟩

/-- The first place of one that goes; -1: there is none. -/
def firstGoing (l : List S29) : Nat → Int
  | 0 => -1
  | d + 1 => if (rd_T29 l ((l.length : Int) - (d + 1))).f3 = true then (l.length : Int) - (d + 1) else firstGoing l d

set_option maxHeartbeats 1000000 in
theorem may_index (A : Option Addr) (c : Nat) (l : List S29) (w : World) (hC : Kd.C k29 w A l.length l) (hc : l.length ≤ c) :
    Calls Try.prog 26 #[.slice A l.length c, .func (.func 25) #[] #[]] w fun e w' => e = .returned (.int .i64 (firstGoing l l.length)) ∧ Below w.heap.size w w' := by
  have hm : (l.length : Int) ≤ 9223372036854775807 := by have := hC.2.1; omega
  have HR := Aside0.mk hC
  clear hC
  go_enter Try.func26, Try.ntmps26
  go_wp2
  go_loopg [8] l.length (fun g v8 w' => ∃ j : Int, v8 = .int .i64 j ∧ Aside0 (0 ≤ j ∧ j + g = l.length) ∧ Aside0 (firstGoing l l.length = firstGoing l g) ∧ Aside0 (Below w.heap.size w w'))
  case atStart => exact ⟨0, rfl, ⟨by omega, by omega⟩, ⟨rfl⟩, ⟨Below.refl _ _⟩⟩
  case round =>
    obtain ⟨j, rfl, HJ, HF, HB⟩ := hrel
    have hj := HJ.out
    cases gk with
    | zero =>
      have hge : ¬ j < (l.length : Int) := by omega
      have hd : decide (j < (l.length : Int)) = false := decide_eq_false hge
      clear hge hj
      go_wp2
      go_ret
      exact ⟨by rw [HF.out]; rfl, HB.out⟩
    | succ g =>
      have h0 : 0 ≤ j := hj.1
      have h1 : j < (l.length : Int) := by omega
      obtain ⟨ad, rfl, hx0, hx1, hx2, hx3⟩ := at_T29 HR.out j h0 h1
      replace hx0 := (HB.out.cell (World.block_lt_of_cell? w _ hx0)).trans hx0
      replace hx1 := (HB.out.cell (World.block_lt_of_cell? w _ hx1)).trans hx1
      replace hx2 := (HB.out.cell (World.block_lt_of_cell? w _ hx2)).trans hx2
      replace hx3 := (HB.out.cell (World.block_lt_of_cell? w _ hx3)).trans hx3
      have hF : firstGoing l (g + 1) = if (rd_T29 l j).f3 = true then j else firstGoing l g := by
        have e : (l.length : Int) - ((g : Int) + 1) = j := by omega
        rw [firstGoing, e]
      have HF2 := Aside0.mk (HF.out.trans hF)
      clear HF hF hj
      by_cases hg : (rd_T29 l j).f3 = true
      · go_wp2_with fail
        refine (may_lit _ _ _ _ _).mono ?_
        rintro e w2 ⟨rfl, b2⟩
        have HB2 := Aside0.mk (HB.out.trans (b2.mono HB.out.size))
        clear HB b2
        go_wp2
        go_ret
        exact ⟨by rw [HF2.out, if_pos hg]; rfl, HB2.out⟩
      · have hg' : (rd_T29 l j).f3 = false := by simpa using hg
        go_wp2_with fail
        refine (may_lit _ _ _ _ _).mono ?_
        rintro e w2 ⟨rfl, b2⟩
        have HB2 := Aside0.mk (HB.out.trans (b2.mono HB.out.size))
        clear HB b2
        go_wp2
        go_roundg g
        case measure => omega
        case rel => exact ⟨j + 1, by rfl, ⟨by omega, by have := HJ.out; push_cast at this ⊢; omega⟩, ⟨by rw [HF2.out, if_neg hg]⟩, HB2⟩

theorem may_contains (A : Option Addr) (c : Nat) (l : List S29) (w : World) (hC : Kd.C k29 w A l.length l) (hc : l.length ≤ c) :
    Calls Try.prog 24 #[.slice A l.length c, .func (.func 25) #[] #[]] w fun e w' => e = .returned (.bool (decide (firstGoing l l.length ≥ 0))) ∧ Below w.heap.size w w' := by
  have HR := Aside0.mk hC
  clear hC
  go_enter Try.func24, Try.ntmps24
  go_wp2_with fail
  refine (may_index _ _ _ _ HR.out hc).mono ?_
  rintro e w2 ⟨rfl, b2⟩
  have HB2 := Aside0.mk b2
  clear b2
  go_wp2
  go_ret
  exact ⟨rfl, HB2.out⟩

def gate_May.f (k : Nat) (l : List S29) (a1 a2 : Int) : Option Bool :=
  if a2 < 0 then some false else if a2 ≥ (l.length : Int) then some false else if (rd_T29 l a2).f0 = 0 then some false else if (rd_T29 l a2).f3 = true then some false else if (rd_T29 l a2).f2 > 0 then some false else
  (gate_Elder.f k l a1).bind fun e => if e = -1 then some true else if e = a2 then some (!decide (firstGoing l l.length ≥ 0)) else some false

theorem gate_May.mono : ∀ a0 a1 a2 k, LeO (gate_May.f k a0 a1 a2) (gate_May.f (k + 1) a0 a1 a2) := by
  intro a0 a1 a2 k
  unfold gate_May.f
  exact LeO.ite (LeO.refl _) (LeO.ite (LeO.refl _) (LeO.ite (LeO.refl _) (LeO.ite (LeO.refl _) (LeO.ite (LeO.refl _) (LeO.bind (gate_Elder.mono _ _ _) (fun _ => LeO.refl _))))))

set_option maxHeartbeats 2000000 in
theorem gate_May.calls (k : Nat) (A0 : Option Addr) (c0 : Nat) (l0 : List S29) (a1 : Int) (a2 : Int) (r : Bool) (w : World) (hr0 : Kd.C k29 w A0 l0.length l0) (hc0 : l0.length ≤ c0) (h : gate_May.f k l0 a1 a2 = some r) :
    Calls Try.prog 22 #[.slice A0 l0.length c0, .int .i64 a1, .int .i64 a2] w fun e w' => e = .returned (.bool r) ∧ Below w.heap.size w w' := by
  have hm : (l0.length : Int) ≤ 9223372036854775807 := by have := hr0.2.1; omega
  have HR := Aside0.mk hr0
  clear hr0
  unfold gate_May.f at h
  by_cases c1 : a2 < 0
  · rw [if_pos c1] at h
    obtain rfl := Option.some.inj h
    clear h
    go_enter Try.func22, Try.ntmps22
    go_wp2
    go_ret
    exact ⟨rfl, Below.refl _ _⟩
  rw [if_neg c1] at h
  have p1 : 0 ≤ a2 := by omega
  clear c1
  by_cases c2 : a2 ≥ (l0.length : Int)
  · rw [if_pos c2] at h
    obtain rfl := Option.some.inj h
    clear h
    go_enter Try.func22, Try.ntmps22
    go_wp2
    go_ret
    exact ⟨rfl, Below.refl _ _⟩
  rw [if_neg c2] at h
  have p2 : a2 < (l0.length : Int) := by omega
  clear c2
  obtain ⟨ad, rfl, hx0, hx1, hx2, hx3⟩ := at_T29 HR.out a2 p1 p2
  by_cases c3 : (rd_T29 l0 a2).f0 = 0
  · rw [if_pos c3] at h
    obtain rfl := Option.some.inj h
    rw [c3] at hx0
    clear h c3
    go_enter Try.func22, Try.ntmps22
    go_wp2
    go_ret
    exact ⟨rfl, Below.refl _ _⟩
  rw [if_neg c3] at h
  have p3 : ((rd_T29 l0 a2).f0 == 0) = false := by simpa using c3
  clear c3
  by_cases c4 : (rd_T29 l0 a2).f3 = true
  · rw [if_pos c4] at h
    obtain rfl := Option.some.inj h
    rw [c4] at hx3
    clear h c4
    go_enter Try.func22, Try.ntmps22
    go_wp2
    go_ret
    exact ⟨rfl, Below.refl _ _⟩
  rw [if_neg c4] at h
  have p4 : (rd_T29 l0 a2).f3 = false := by simpa using c4
  rw [p4] at hx3
  clear c4 p4
  by_cases c5 : (rd_T29 l0 a2).f2 > 0
  · rw [if_pos c5] at h
    obtain rfl := Option.some.inj h
    clear h
    go_enter Try.func22, Try.ntmps22
    go_wp2
    go_ret
    exact ⟨rfl, Below.refl _ _⟩
  rw [if_neg c5] at h
  have p5 : (rd_T29 l0 a2).f2 ≤ 0 := by omega
  clear c5
  obtain ⟨e, he, h⟩ := Option.bind_eq_some_iff.1 h
  have HE := Aside0.mk he
  clear he
  by_cases c6 : e = -1
  · rw [if_pos c6] at h
    obtain rfl := Option.some.inj h
    subst c6
    clear h
    go_enter Try.func22, Try.ntmps22
    go_wp2_with fail
    refine (gate_Elder.calls _ _ _ _ _ _ _ HR.out hc0 HE.out).mono ?_
    rintro e w2 ⟨rfl, b2⟩
    have HB2 := Aside0.mk b2
    clear b2
    go_wp2
    go_ret
    exact ⟨rfl, HB2.out⟩
  rw [if_neg c6] at h
  have p6 : (e == -1) = false := by simpa using c6
  clear c6
  by_cases c7 : e = a2
  · rw [if_pos c7] at h
    obtain rfl := Option.some.inj h
    subst c7
    clear h
    go_enter Try.func22, Try.ntmps22
    go_wp2_with fail
    refine (gate_Elder.calls _ _ _ _ _ _ _ HR.out hc0 HE.out).mono ?_
    rintro e' w2 ⟨rfl, b2⟩
    have HB2 := Aside0.mk b2
    have HR2 := Aside0.mk (Kd.C_below HR.out b2)
    clear b2 hx0 hx1 hx2 hx3
    go_wp2_with fail
    refine (may_contains _ _ _ _ HR2.out hc0).mono ?_
    rintro e' w3 ⟨rfl, b3⟩
    have HB3 := Aside0.mk (HB2.out.trans (b3.mono HB2.out.size))
    clear HB2 HR2 b3
    go_wp2
    go_ret
    exact ⟨rfl, HB3.out⟩
  rw [if_neg c7] at h
  have p7 : (e == a2) = false := by simpa using c7
  clear c7
  obtain rfl := Option.some.inj h
  clear h
  go_enter Try.func22, Try.ntmps22
  go_wp2_with fail
  refine (gate_Elder.calls _ _ _ _ _ _ _ HR.out hc0 HE.out).mono ?_
  rintro e' w2 ⟨rfl, b2⟩
  have HB2 := Aside0.mk b2
  clear b2
  go_wp2
  go_ret
  exact ⟨rfl, HB2.out⟩


end Go.Proofs.Ytjomfmhgiecafaa.P
