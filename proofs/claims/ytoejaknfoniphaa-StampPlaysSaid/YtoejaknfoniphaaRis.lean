/- StampRises, walked by its facts. -/
import Derived.Test.YtoejaknfoniphaaRsd
import Derived.Test.YtoejaknfoniphaaOvr
namespace Go.Proofs.Ytoejaknfoniphaa
open Go.RowKit Go.Maps Go.Proofs.YtoejaknfoniphaaW.PrintWords Go.Proofs.YtoejaknfoniphaaW.PrintLast Go.Proofs.YtoejaknfoniphaaW.PrintMore
attribute [local go_sem] max2_int min2_int max_two min_two max_three min_three max_four min_four
set_option linter.unusedVariables false

/-- A deed: what is done, and its number. -/
def kdeed : Kd (Int × Int) := Kd.pair (Kd.int .i64) (Kd.int .i64)
def rdD (xs : List (Int × Int)) (i : Int) : Int × Int := xs.getD i.toNat (0, 0)
theorem dl_at {w : World} {A : Option Addr} {n : Nat} {xs : List (Int × Int)} (h : Kd.C kdeed w A n xs) (i : Int) (h0 : 0 ≤ i) (h1 : i < n) : ∃ ad, A = some ad ∧ w.cell? (ad.add (i.toNat * 2)) = some (.int .i64 (rdD xs i).1) ∧ w.cell? ⟨(ad.add (i.toNat * 2)).block, (ad.add (i.toNat * 2)).off + 1, none⟩ = some (.int .i64 (rdD xs i).2) := by
  obtain ⟨ad, c, e, _, hK, hc0⟩ := Kd.C_get h (0, 0) i h0 h1
  have hc : ∀ j u, c[j]? = some u → w.cell? (ad.add (i.toNat * 2 + j)) = some u := hc0
  obtain ⟨_, _, rfl, rfl, rfl⟩ := hK
  exact ⟨ad, e, hc 0 _ rfl, by rw [← add_field _ _ 1 (by omega)]; exact hc 1 _ rfl⟩

theorem least_le {next : Int} {act : List Int} (h : ∀ t ∈ act, t < next) : least next act ≤ next := by
  cases act with
  | nil => exact Int.le_refl _
  | cons a r => have := h a List.mem_cons_self; show a ≤ next; omega
theorem least_issue (next : Int) (act : List Int) : least (next + 1) (act ++ [next]) = least next act := by
  cases act <;> rfl
theorem least_mem {next : Int} {act : List Int} (hr : Rising act) : ∀ t ∈ act, least next act ≤ t := by
  intro t ht
  cases act with
  | nil => cases ht
  | cons a r =>
    unfold Rising at hr
    rw [List.pairwise_cons] at hr
    show a ≤ t
    rcases List.mem_cons.1 ht with rfl | ht
    · exact Int.le_refl _
    · have := hr.1 t ht; omega
theorem least_filter {next : Int} {act : List Int} (hr : Rising act) (h : ∀ t ∈ act, t < next) (ts : Int) : least next act ≤ least next (act.filter fun t => t ≠ ts) := by
  cases hf : act.filter (fun t => t ≠ ts) with
  | nil => exact least_le h
  | cons a r =>
    have ha : a ∈ act.filter (fun t => t ≠ ts) := by rw [hf]; exact List.mem_cons_self
    exact least_mem hr a (List.mem_filter.1 ha).1
theorem least_raise {next x : Int} (act : List Int) : least next act ≤ least (raised next x) act := by
  cases act with
  | nil => show next ≤ raised next x; unfold raised; split <;> omega
  | cons a r => exact Int.le_refl _
theorem rising_filter {act : List Int} (hr : Rising act) (ts : Int) : Rising (act.filter fun t => t ≠ ts) := List.Pairwise.filter _ hr

/-- What the law keeps of a clock. -/
structure Ok (next last : Int) (act : List Int) : Prop where
  rising : Rising act
  below : ∀ t ∈ act, t < next
  one : 1 ≤ next
  most : next ≤ 1099511627777
  last0 : 0 ≤ last
  last1 : last < next

set_option maxHeartbeats 8000000 in
theorem rises_calls (a0 : Int) (A1 : Option Addr) (c1 : Nat) (l : List (Int × Int)) (w0 : (Lit.int .u16 a0).wf = true) (hg : ∀ x ∈ l, (Lit.int .i64 x.2).wf = true) (w : World) (hr : Kd.C kdeed w A1 l.length l) (hc : l.length ≤ c1) :
    Calls Try.prog 6 #[.int .u16 a0, .slice A1 l.length c1] w fun e w' => e = .returned (.bool true) ∧ Below w.heap.size w w' := by
  obtain ⟨b0, b1⟩ := u16_bd w0
  have e0 : wrap64 a0 = a0 := by unfold wrap64; omega
  have e1 : wrap64 (1 + a0) = 1 + a0 := by unfold wrap64; omega
  have hm : (l.length : Int) ≤ 9223372036854775807 := by have := hr.2.1; omega
  have HR := Aside0.mk hr
  have hwf : ∀ i : Int, (Lit.int .i64 (rdD l i).2).wf = true := by
    intro i
    unfold rdD
    rw [List.getD_eq_getElem?_getD]
    cases h : l[i.toNat]? with
    | none => decide
    | some x => exact hg x (List.mem_of_getElem? h)
  have HW := Aside0.mk hwf
  obtain ⟨N, hN⟩ : ∃ N : Nat, N = min l.length 100 := ⟨_, rfl⟩
  have HN := Aside0.mk hN
  clear w0 hr hg hwf hN
  go_enter Try.func6, Try.ntmps6
  go_wp2_with fail
  refine (awake_calls _).mono ?_
  rintro e w1 ⟨rfl, hb1⟩
  have HB := Aside0.mk hb1
  clear hb1
  go_wp2_with fail
  refine (new_some (1 + a0) (by omega) (by omega) _).mono ?_
  rintro e w2 ⟨rfl, hcl, hb⟩
  have HS := Aside0.mk (St.made HB.out hcl hb)
  obtain ⟨p, hp⟩ : ∃ p, w1.heap.size + 1 = p := ⟨_, rfl⟩
  obtain ⟨b, hbb⟩ : ∃ b, w1.heap.size = b := ⟨_, rfl⟩
  rw [hp, hbb] at HS
  rw [hp]
  clear hcl hb HB hp hbb
  go_wp2_with fail
  refine (min_tells _ HS.out.clk (by omega) (by unfold Rising; simp)).mono ?_
  rintro e w3 ⟨rfl, hb3⟩
  have HS2 := Aside0.mk (HS.out.go hb3)
  have hok : Ok (1 + a0) a0 [] := ⟨by unfold Rising; simp, fun t ht => (by cases ht), by omega, by omega, by omega, by omega⟩
  have HOK := Aside0.mk hok
  clear hb3 HS hok
  go_wp2
  go_loopg [7, 8, 9] N (fun g v7 v8 v9 w' => ∃ (j last next : Int) (act : List Int) (n : Nat), v7 = .int .i64 last ∧ v8 = .int .i64 (least next act) ∧ v9 = .int .i64 j ∧ Aside0 (0 ≤ j ∧ j + g = N ∧ n ≤ j.toNat) ∧ Aside0 (Ok next last act) ∧ Aside0 (St w w' p b n next act))
  case atStart => exact ⟨0, a0, 1 + a0, [], 0, rfl, rfl, rfl, ⟨by simp⟩, HOK, HS2⟩
  case round =>
    clear HS2 HOK
    obtain ⟨j, last, next, act, n, rfl, rfl, rfl, HJ, HOK, HS⟩ := hrel
    have hj := HJ.out
    have hn := HN.out
    cases gk with
    | zero =>
      by_cases h1 : j < (l.length : Int)
      · have d1 : decide (j < (l.length : Int)) = true := decide_eq_true h1
        have d2 : decide (j < 100) = false := decide_eq_false (by omega)
        clear hj hn h1
        go_wp2
        go_ret
        exact ⟨rfl, HS.out.below⟩
      · have d1 : decide (j < (l.length : Int)) = false := decide_eq_false h1
        clear hj hn
        go_wp2
        go_ret
        exact ⟨rfl, HS.out.below⟩
    | succ g =>
      have h0 : 0 ≤ j := hj.1
      have h1 : j < (l.length : Int) := by omega
      have h2 : j < 100 := by omega
      have d1 : decide (j < (l.length : Int)) = true := decide_eq_true h1
      have d2 : decide (j < 100) = true := decide_eq_true h2
      have e4 : wrap64 (j + 1) = j + 1 := by unfold wrap64; omega
      obtain ⟨ad, e, hx0, hx1⟩ := dl_at (Kd.C_below HR.out HS.out.below) j h0 h1
      subst e
      have hwd := HW.out j
      obtain ⟨d, hd⟩ : ∃ d, rdD l j = d := ⟨_, rfl⟩
      rw [hd] at hx0 hx1 hwd
      have HWD := Aside0.mk hwd
      clear hj hn hd hwd
      by_cases k1 : d.1 = 1
      · have kk1 : (d.1 == 1) = true := by simpa using k1
        by_cases ho : next ≤ 1099511627776
        · go_wp2_with fail
          refine (issue_calls _ HS.out.clk ho (by have := HOK.out.one; omega) HOK.out.below (by have := HJ.out; have := HN.out; omega)).mono ?_
          rintro e w4 ⟨rfl, hcl, hmv⟩
          have hs := HS.out.moved hcl hmv
          have hok : Ok (next + 1) next (act ++ [next]) := ⟨rising_snoc HOK.out.rising HOK.out.below, fun t ht => by
            rcases List.mem_append.1 ht with ht | ht
            · have := HOK.out.below t ht; omega
            · have : t = next := by simpa using ht
              omega, by have := HOK.out.one; omega, by omega, by have := HOK.out.one; omega, by omega⟩
          have hlow : least next act ≤ least (next + 1) (act ++ [next]) := by rw [least_issue]; exact Int.le_refl _
          have q1 : decide (next ≤ last) = false := decide_eq_false (by have := HOK.out.last1; omega)
          have hmx : (if last < next then next else last) = next := if_pos HOK.out.last1
          clear hcl hmv k1
          obtain ⟨nx2, hnx⟩ : ∃ y, next + 1 = y := ⟨_, rfl⟩
          obtain ⟨ac2, hac⟩ : ∃ y, act ++ [next] = y := ⟨_, rfl⟩
          rw [hnx, hac] at hs hok hlow
          have HS2 := Aside0.mk hs
          have HOK2 := Aside0.mk hok
          have l1 : decide (least nx2 ac2 < least next act) = false := decide_eq_false (by omega)
          have l2 : decide (least nx2 ac2 > nx2) = false := decide_eq_false (by have := least_le hok.below; omega)
          clear hs hok hlow hnx hac hx0 hx1 HOK HS
          go_wp2_with fail
          refine (min_tells _ HS2.out.clk (by have := HJ.out; have := HN.out; omega) HOK2.out.rising).mono ?_
          rintro e wA ⟨rfl, hbA⟩
          have HS3 := Aside0.mk (HS2.out.go hbA)
          clear hbA HS2
          go_wp2_with fail
          refine (min_tells _ HS3.out.clk (by have := HJ.out; have := HN.out; omega) HOK2.out.rising).mono ?_
          rintro e wB ⟨rfl, hbB⟩
          have HS4 := Aside0.mk (HS3.out.go hbB)
          clear hbB HS3
          go_wp2_with fail
          refine (next_calls _ HS4.out.clk).mono ?_
          rintro e wC ⟨rfl, rfl⟩
          go_wp2_with fail
          refine (min_tells _ HS4.out.clk (by have := HJ.out; have := HN.out; omega) HOK2.out.rising).mono ?_
          rintro e wD ⟨rfl, hbD⟩
          have HS5 := Aside0.mk (HS4.out.go hbD)
          clear hbD HS4
          go_wp2
          go_roundg g
          case measure => omega
          case rel => exact ⟨j + 1, next, nx2, ac2, n + 1, rfl, rfl, rfl, ⟨by have := HJ.out; push_cast at this ⊢; omega⟩, HOK2, HS5⟩
        · go_wp2_with fail
          refine (issue_over _ HS.out.clk (by omega)).mono ?_
          rintro e w4 ⟨rfl, rfl⟩
          have hs := HS.out
          have hok := HOK.out
          have hlow : least next act ≤ least next act := Int.le_refl _
          have hmx : (if last < 0 then 0 else last) = last := if_neg (by have := HOK.out.last0; omega)
          have HSx := Aside0.mk hs
          clear hs hok hlow ho k1
          go_wp2_with fail
          refine (min_tells _ HSx.out.clk (by have := HJ.out; have := HN.out; omega) HOK.out.rising).mono ?_
          rintro e wA ⟨rfl, hbA⟩
          have HS3 := Aside0.mk (HSx.out.go hbA)
          have l1 : decide (least next act < least next act) = false := decide_eq_false (by omega)
          have l2 : decide (least next act > next) = false := decide_eq_false (by have := least_le HOK.out.below; omega)
          clear hbA HSx hx0 hx1 HS
          go_wp2_with fail
          refine (min_tells _ HS3.out.clk (by have := HJ.out; have := HN.out; omega) HOK.out.rising).mono ?_
          rintro e wB ⟨rfl, hbB⟩
          have HS4 := Aside0.mk (HS3.out.go hbB)
          clear hbB HS3
          go_wp2_with fail
          refine (next_calls _ HS4.out.clk).mono ?_
          rintro e wC ⟨rfl, rfl⟩
          go_wp2_with fail
          refine (min_tells _ HS4.out.clk (by have := HJ.out; have := HN.out; omega) HOK.out.rising).mono ?_
          rintro e wD ⟨rfl, hbD⟩
          have HS5 := Aside0.mk (HS4.out.go hbD)
          clear hbD HS4
          go_wp2
          go_roundg g
          case measure => omega
          case rel => exact ⟨j + 1, last, next, act, n, rfl, rfl, rfl, ⟨by have := HJ.out; push_cast at this ⊢; omega⟩, HOK, HS5⟩
      · have kk1 : (d.1 == 1) = false := by simpa using k1
        by_cases k2 : d.1 = 2
        · have kk2 : (d.1 == 2) = true := by simpa using k2
          go_wp2_with fail
          refine (done_calls d.2 HWD.out _ HS.out.clk).mono ?_
          rintro e w4 ⟨rfl, hcl, hmv⟩
          have hs := HS.out.moved hcl hmv
          have hok : Ok next last (act.filter fun t => t ≠ d.2) := ⟨rising_filter HOK.out.rising _, fun t ht => HOK.out.below t (List.mem_filter.1 ht).1, HOK.out.one, HOK.out.most, HOK.out.last0, HOK.out.last1⟩
          have hlow := least_filter HOK.out.rising HOK.out.below d.2
          clear hcl hmv k1 k2
          obtain ⟨ac2, hac⟩ : ∃ y, act.filter fun t => t ≠ d.2 = y := ⟨_, rfl⟩
          rw [hac] at hs hok hlow
          have HS2 := Aside0.mk hs
          have HOK2 := Aside0.mk hok
          have l1 : decide (least next ac2 < least next act) = false := decide_eq_false (by omega)
          have l2 : decide (least next ac2 > next) = false := decide_eq_false (by have := least_le hok.below; omega)
          clear hs hok hlow hac hx0 hx1 HOK HS
          go_wp2_with fail
          refine (min_tells _ HS2.out.clk (by have := HJ.out; have := HN.out; omega) HOK2.out.rising).mono ?_
          rintro e wA ⟨rfl, hbA⟩
          have HS3 := Aside0.mk (HS2.out.go hbA)
          clear hbA HS2
          go_wp2_with fail
          refine (min_tells _ HS3.out.clk (by have := HJ.out; have := HN.out; omega) HOK2.out.rising).mono ?_
          rintro e wB ⟨rfl, hbB⟩
          have HS4 := Aside0.mk (HS3.out.go hbB)
          clear hbB HS3
          go_wp2_with fail
          refine (next_calls _ HS4.out.clk).mono ?_
          rintro e wC ⟨rfl, rfl⟩
          go_wp2_with fail
          refine (min_tells _ HS4.out.clk (by have := HJ.out; have := HN.out; omega) HOK2.out.rising).mono ?_
          rintro e wD ⟨rfl, hbD⟩
          have HS5 := Aside0.mk (HS4.out.go hbD)
          clear hbD HS4
          go_wp2
          go_roundg g
          case measure => omega
          case rel => exact ⟨j + 1, last, next, ac2, n, rfl, rfl, rfl, ⟨by have := HJ.out; push_cast at this ⊢; omega⟩, HOK2, HS5⟩
        · have kk2 : (d.1 == 2) = false := by simpa using k2
          go_wp2_with fail
          refine (raise_calls d.2 _ HS.out.clk).mono ?_
          rintro e w4 ⟨rfl, hcl, hgr⟩
          have hs := HS.out.moved hcl (Moved.of_p hgr)
          have hrd : next ≤ raised next d.2 ∧ raised next d.2 ≤ 1099511627777 := by have := HOK.out.most; unfold raised; split <;> omega
          have hok : Ok (raised next d.2) last act := ⟨HOK.out.rising, fun t ht => by have := HOK.out.below t ht; omega, by have := HOK.out.one; omega, hrd.2, HOK.out.last0, by have := HOK.out.last1; omega⟩
          have hlow := least_raise (next := next) (x := d.2) act
          clear hcl hgr k1 k2 hrd
          obtain ⟨nx2, hnx⟩ : ∃ y, raised next d.2 = y := ⟨_, rfl⟩
          rw [hnx] at hs hok hlow
          have HS2 := Aside0.mk hs
          have HOK2 := Aside0.mk hok
          have l1 : decide (least nx2 act < least next act) = false := decide_eq_false (by omega)
          have l2 : decide (least nx2 act > nx2) = false := decide_eq_false (by have := least_le hok.below; omega)
          clear hs hok hlow hnx hx0 hx1 HOK HS
          go_wp2_with fail
          refine (min_tells _ HS2.out.clk (by have := HJ.out; have := HN.out; omega) HOK2.out.rising).mono ?_
          rintro e wA ⟨rfl, hbA⟩
          have HS3 := Aside0.mk (HS2.out.go hbA)
          clear hbA HS2
          go_wp2_with fail
          refine (min_tells _ HS3.out.clk (by have := HJ.out; have := HN.out; omega) HOK2.out.rising).mono ?_
          rintro e wB ⟨rfl, hbB⟩
          have HS4 := Aside0.mk (HS3.out.go hbB)
          clear hbB HS3
          go_wp2_with fail
          refine (next_calls _ HS4.out.clk).mono ?_
          rintro e wC ⟨rfl, rfl⟩
          go_wp2_with fail
          refine (min_tells _ HS4.out.clk (by have := HJ.out; have := HN.out; omega) HOK2.out.rising).mono ?_
          rintro e wD ⟨rfl, hbD⟩
          have HS5 := Aside0.mk (HS4.out.go hbD)
          clear hbD HS4
          go_wp2
          go_roundg g
          case measure => omega
          case rel => exact ⟨j + 1, last, nx2, act, n, rfl, rfl, rfl, ⟨by have := HJ.out; push_cast at this ⊢; omega⟩, HOK2, HS5⟩
end Go.Proofs.Ytoejaknfoniphaa
