-- Written for this claim by a program of this seat's (wip/tools), by way of the kit's printing program; not one of its printed files. Lean checks it.
import Derived.Test.YtdiahlfhcbcceaaPx0
import Derived.Test.YtdiahlfhcbcceaaPx3
namespace Go.Proofs.Ytdiahlfhcbcceaa.P
open Go.RowKit Go.Proofs.YtdiahlfhcbcceaaW.PrintWords Go.Proofs.YtdiahlfhcbcceaaW.PrintLast Go.Proofs.YtdiahlfhcbcceaaW.PrintMore
attribute [local go_sem] max2_int min2_int max_two min_two max_three min_three max_four min_four   -- for this text's walks alone
set_option linter.unusedVariables false
set_option linter.unusedSimpArgs false

/-! ### chain_Look: function 17 -/
/-- Look's literal: is the version behind the timestamp that the cell at b holds? -/
theorem look_lit (b : Nat) (ts a0 a1 : Int) (a2 : ByteArray) (a3 : Bool) (w : World) (hb : w.cell? ⟨b, 0, none⟩ = some (.int .i64 ts)) :
    Calls Try.prog 31 #[.agg #[.int .i64 a0, .int .i64 a1, .string a2, .bool a3], .pointer (some ⟨b, 0, none⟩)] w fun e w' => e = .returned (.bool (decide (a0 > ts))) ∧ Below w.heap.size w w' := by
  have hlt := World.block_lt_of_cell? w _ hb
  go_enter Try.func31, Try.ntmps31
  go_wp2
  go_ret
  exact ⟨rfl, (Below.refl _ _).alloc (Nat.le_refl _) _⟩

/-- The first place behind a timestamp, of the last d; -1: there is none. -/
def firstBehind (l : List S27) (ts : Int) : Nat → Int
  | 0 => -1
  | d + 1 => if (rd_T27 l ((l.length : Int) - (d + 1))).f0 > ts then (l.length : Int) - (d + 1) else firstBehind l ts d

set_option maxHeartbeats 1000000 in
theorem look_index (A : Option Addr) (c : Nat) (l : List S27) (b : Nat) (ts : Int) (w : World) (hC : Kd.C k27 w A l.length l) (hb : w.cell? ⟨b, 0, none⟩ = some (.int .i64 ts)) :
    Calls Try.prog 30 #[.slice A l.length c, .func (.func 31) #[] #[.pointer (some ⟨b, 0, none⟩)]] w fun e w' => e = .returned (.int .i64 (firstBehind l ts l.length)) ∧ Below w.heap.size w w' := by
  have hm : (l.length : Int) ≤ 9223372036854775807 := by have := hC.2.1; omega
  have hblt := World.block_lt_of_cell? w _ hb
  have HR := Aside0.mk hC
  have HBB := Aside0.mk hb
  clear hC hb
  go_enter Try.func30, Try.ntmps30
  go_wp2
  go_loopg [8] l.length (fun g v8 w' => ∃ j : Int, v8 = .int .i64 j ∧ Aside0 (0 ≤ j ∧ j + g = l.length) ∧ Aside0 (firstBehind l ts l.length = firstBehind l ts g) ∧ Aside0 (Below w.heap.size w w'))
  case atStart => exact ⟨0, rfl, ⟨by omega, by omega⟩, ⟨rfl⟩, ⟨Below.refl _ _⟩⟩
  case round =>
    obtain ⟨j, rfl, HJ, HF, HB⟩ := hrel
    have hj := HJ.out
    cases gk with
    | zero =>
      have hge : ¬ j < (l.length : Int) := by omega
      have hd : decide (j < (l.length : Int)) = false := decide_eq_false hge
      clear hge hj
      go_wp2
      go_ret
      exact ⟨by rw [HF.out]; rfl, HB.out⟩
    | succ g =>
      have h0 : 0 ≤ j := hj.1
      have h1 : j < (l.length : Int) := by omega
      obtain ⟨ad, rfl, hx0, hx1, hx2, hx3⟩ := at_T27 HR.out j h0 h1
      replace hx0 := (HB.out.cell (World.block_lt_of_cell? w _ hx0)).trans hx0
      replace hx1 := (HB.out.cell (World.block_lt_of_cell? w _ hx1)).trans hx1
      replace hx2 := (HB.out.cell (World.block_lt_of_cell? w _ hx2)).trans hx2
      replace hx3 := (HB.out.cell (World.block_lt_of_cell? w _ hx3)).trans hx3
      have hbw := (HB.out.cell hblt).trans HBB.out
      have HBW := Aside0.mk hbw
      clear hbw
      have hF : firstBehind l ts (g + 1) = if (rd_T27 l j).f0 > ts then j else firstBehind l ts g := by
        have e : (l.length : Int) - ((g : Int) + 1) = j := by omega
        rw [firstBehind, e]
      have HF2 := Aside0.mk (HF.out.trans hF)
      clear HF hF hj
      by_cases hg : (rd_T27 l j).f0 > ts
      · go_wp2_with fail
        refine (look_lit _ _ _ _ _ _ _ HBW.out).mono ?_
        rintro e w2 ⟨rfl, b2⟩
        have HB2 := Aside0.mk (HB.out.trans (b2.mono HB.out.size))
        have hgd : decide ((rd_T27 l j).f0 > ts) = true := decide_eq_true hg
        clear HB b2 HBW
        go_wp2
        go_ret
        exact ⟨by rw [HF2.out, if_pos hg]; rfl, HB2.out⟩
      · go_wp2_with fail
        refine (look_lit _ _ _ _ _ _ _ HBW.out).mono ?_
        rintro e w2 ⟨rfl, b2⟩
        have HB2 := Aside0.mk (HB.out.trans (b2.mono HB.out.size))
        have hgd : decide ((rd_T27 l j).f0 > ts) = false := decide_eq_false (by omega)
        clear HB b2 HBW
        go_wp2
        go_roundg g
        case measure => omega
        case rel => exact ⟨j + 1, by rfl, ⟨by omega, by have := HJ.out; push_cast at this ⊢; omega⟩, ⟨by rw [HF2.out, if_neg (by omega)]⟩, HB2⟩

def chain_Look.f (k : Nat) (l0 : List S27) (a1 : Int) : Option Int :=
  (chain_May.f k l0).bind fun m => if m = true then some ((if firstBehind l0 a1 l0.length < 0 then (l0.length : Int) else firstBehind l0 a1 l0.length) - 1) else some (-1)

theorem chain_Look.mono : ∀ a0 a1 k, LeO (chain_Look.f k a0 a1) (chain_Look.f (k + 1) a0 a1) := by
  intro a0 a1 k
  unfold chain_Look.f
  exact LeO.bind (chain_May.mono _ _) (fun _ => LeO.refl _)

theorem firstBehind_range (l : List S27) (ts : Int) (d : Nat) (hd : d ≤ l.length) : -1 ≤ firstBehind l ts d ∧ firstBehind l ts d ≤ l.length := by
  induction d with
  | zero => unfold firstBehind; omega
  | succ d ih =>
    have := ih (by omega)
    rw [firstBehind]
    split <;> omega

theorem look_box {W w2 : World} {v : Value} {t : TypeId} (h : Below (W.alloc (.cells #[v] t)).heap.size (W.alloc (.cells #[v] t)) w2) : w2.cell? ⟨W.heap.size, 0, none⟩ = some v ∧ Below W.heap.size W w2 := by
  refine ⟨?_, ((Below.refl _ W).alloc (Nat.le_refl _) _).trans (h.mono (by simp))⟩
  have h1 : w2.heap[W.heap.size]? = some (.cells #[v] t) := (h.block _ (by simp)).trans (heap_alloc_new W _)
  exact cell_of_row _ _ 0 _ _ _ h1

set_option maxHeartbeats 1000000 in
theorem chain_Look.calls (k : Nat) (A0 : Option Addr) (c0 : Nat) (l0 : List S27) (a1 : Int) (r : Int) (w : World) (hr0 : Kd.C k27 w A0 l0.length l0) (hc0 : l0.length ≤ c0) (h : chain_Look.f k l0 a1 = some r) :
    Calls Try.prog 17 #[.slice A0 l0.length c0, .int .i64 a1] w fun e w' => e = .returned (.int .i64 r) ∧ Below w.heap.size w w' := by
  have hm : (l0.length : Int) ≤ 9223372036854775807 := by have := hr0.2.1; omega
  have hfr := firstBehind_range l0 a1 l0.length (Nat.le_refl _)
  have HR := Aside0.mk (Kd.C_below hr0 ((Below.refl _ w).alloc (Nat.le_refl _) (.cells #[.int .i64 a1] 2)))
  clear hr0
  obtain ⟨m, hmay, h⟩ := Option.bind_eq_some_iff.1 h
  have HM := Aside0.mk hmay
  clear hmay
  obtain ⟨q, hq⟩ : ∃ q, firstBehind l0 a1 l0.length = q := ⟨_, rfl⟩
  rw [hq] at h hfr
  have HQ := Aside0.mk hq
  clear hq
  cases m with
  | false =>
    rw [if_neg (by decide)] at h
    obtain rfl := Option.some.inj h
    clear h hfr
    go_enter Try.func17, Try.ntmps17
    go_wp2_with fail
    refine (chain_May.calls _ _ _ _ _ _ HR.out hc0 HM.out).mono ?_
    rintro e w2 ⟨rfl, b2⟩
    obtain ⟨_, bw⟩ := look_box b2
    have HB := Aside0.mk bw
    clear b2 bw
    go_wp2
    go_ret
    exact ⟨rfl, HB.out⟩
  | true =>
    rw [if_pos rfl] at h
    have HH := Aside0.mk (Option.some.inj h)
    clear h
    go_enter Try.func17, Try.ntmps17
    go_wp2_with fail
    refine (chain_May.calls _ _ _ _ _ _ HR.out hc0 HM.out).mono ?_
    rintro e w2 ⟨rfl, b2⟩
    obtain ⟨hc2, bw⟩ := look_box b2
    have HB := Aside0.mk bw
    have HR2 := Aside0.mk (Kd.C_below HR.out b2)
    have HC2 := Aside0.mk hc2
    clear b2 bw hc2 HR
    go_wp2_with fail
    refine (look_index _ _ _ _ _ _ HR2.out HC2.out).mono ?_
    rintro e w3 ⟨rfl, b3⟩
    have HB3 := Aside0.mk (HB.out.trans (b3.mono HB.out.size))
    clear b3 HB HR2 HC2
    rw [HQ.out]
    by_cases hn : q < 0
    · have hx : r = (l0.length : Int) - 1 := by rw [← HH.out, if_pos hn]
      subst hx
      clear HH
      go_wp2
      go_ret
      exact ⟨rfl, HB3.out⟩
    · have hx : r = q - 1 := by rw [← HH.out, if_neg hn]
      subst hx
      clear HH
      go_wp2
      go_ret
      exact ⟨rfl, HB3.out⟩



end Go.Proofs.Ytdiahlfhcbcceaa.P
