/- StampActive, walked by its facts. -/
import Derived.Test.YtoejaknfoniphaaRis
namespace Go.Proofs.Ytoejaknfoniphaa
open Go.RowKit Go.Maps Go.Proofs.YtoejaknfoniphaaW.PrintWords Go.Proofs.YtoejaknfoniphaaW.PrintLast Go.Proofs.YtoejaknfoniphaaW.PrintMore
attribute [local go_sem] max2_int min2_int max_two min_two max_three min_three max_four min_four
set_option linter.unusedVariables false

theorem il8_at {w : World} {A : Option Addr} {n : Nat} {xs : List Int} (h : Kd.C (Kd.int .u8) w A n xs) (i : Int) (h0 : 0 ≤ i) (h1 : i < n) : ∃ ad, A = some ad ∧ w.cell? (ad.add i.toNat) = some (.int .u8 (xs.getD i.toNat 0)) := by
  obtain ⟨ad, c, e, _, hK, hc0⟩ := Kd.C_get h 0 i h0 h1
  have hc : ∀ j u, c[j]? = some u → w.cell? (ad.add (i.toNat * 1 + j)) = some u := hc0
  obtain rfl : c = [.int .u8 (xs.getD i.toNat 0)] := hK
  refine ⟨ad, e, ?_⟩
  have hq := hc 0 _ rfl
  rwa [Nat.mul_one, Nat.add_zero] at hq

theorem filter_none {act : List Int} {ts : Int} (h : ¬ ts ∈ act) : act.filter (fun t => t ≠ ts) = act :=
  List.filter_eq_self.2 fun t ht => by
    have : t ≠ ts := fun e => h (e ▸ ht)
    simpa using this
theorem filter_gone (act : List Int) (ts : Int) : ¬ ts ∈ act.filter (fun t => t ≠ ts) := by
  intro h
  have := (List.mem_filter.1 h).2
  simp at this
theorem filter_len {act : List Int} (hr : Rising act) {ts : Int} (h : ts ∈ act) : (act.filter (fun t => t ≠ ts)).length + 1 = act.length := by
  induction act with
  | nil => cases h
  | cons a r ih =>
    unfold Rising at hr
    rw [List.pairwise_cons] at hr
    by_cases e : a = ts
    · subst e
      have hn : ¬ a ∈ r := fun hm => by have := hr.1 a hm; omega
      rw [List.filter_cons_of_neg (by simp), filter_none hn]
      rfl
    · have hm : ts ∈ r := by
        rcases List.mem_cons.1 h with rfl | h
        · exact absurd rfl e
        · exact h
      rw [List.filter_cons_of_pos (by simpa using e), List.length_cons, List.length_cons, ih hr.2 hm]

/-- What the law keeps of a clock of the first n timestamps. -/
structure Fst (n : Int) (act : List Int) : Prop where
  rising : Rising act
  bd : ∀ t ∈ act, 1 ≤ t ∧ t ≤ n

set_option maxHeartbeats 8000000 in
theorem active_law (a0 : Int) (A1 : Option Addr) (c1 : Nat) (l : List Int) (w0 : (Lit.int .u8 a0).wf = true) (hg : ∀ x ∈ l, (Lit.int .u8 x).wf = true) (w : World) (hr : Kd.C (Kd.int .u8) w A1 l.length l) (hc : l.length ≤ c1) :
    Calls Try.prog 3 #[.int .u8 a0, .slice A1 l.length c1] w fun e w' => e = .returned (.bool true) ∧ Below w.heap.size w w' := by
  obtain ⟨b0, b1⟩ := u8_bd w0
  obtain ⟨n, hn⟩ : ∃ n, Int.tmod a0 50 = n := ⟨_, rfl⟩
  have hn0 : 0 ≤ n ∧ n ≤ 49 := by rw [← hn, Int.tmod_eq_emod_of_nonneg b0]; omega
  have e0 : wrap64 n = n := by unfold wrap64; omega
  have e2 : wrap64 (n + 1) = n + 1 := by unfold wrap64; omega
  have hm : (l.length : Int) ≤ 9223372036854775807 := by have := hr.2.1; omega
  have HR := Aside0.mk hr
  have hwf : ∀ i : Int, 0 ≤ l.getD i.toNat 0 ∧ l.getD i.toNat 0 ≤ 255 := by
    intro i
    rw [List.getD_eq_getElem?_getD]
    cases h : l[i.toNat]? with
    | none => simp
    | some x => exact u8_bd (hg x (List.mem_of_getElem? h))
  have HW := Aside0.mk hwf
  obtain ⟨N, hN⟩ : ∃ N : Nat, N = min l.length 60 := ⟨_, rfl⟩
  have HN := Aside0.mk hN
  clear w0 hr hg hwf hN
  go_enter Try.func3, Try.ntmps3
  go_wp2_with fail
  refine (awake_calls _).mono ?_
  rintro e w1 ⟨rfl, hb1⟩
  have HB := Aside0.mk hb1
  clear hb1
  go_wp2_with fail
  refine (new_some 1 (by omega) (by omega) _).mono ?_
  rintro e w2 ⟨rfl, hcl, hb⟩
  have HS := Aside0.mk (St.made HB.out hcl hb)
  obtain ⟨p, hp⟩ : ∃ p, w1.heap.size + 1 = p := ⟨_, rfl⟩
  obtain ⟨b, hbb⟩ : ∃ b, w1.heap.size = b := ⟨_, rfl⟩
  rw [hp, hbb] at HS
  rw [hp]
  clear hcl hb HB hp hbb
  go_wp2
  go_loopg [8] n.toNat (fun g v8 w' => ∃ (j : Int) (act : List Int) (m : Nat), v8 = .int .i64 j ∧ Aside0 (1 ≤ j ∧ j + g = n + 1 ∧ m ≤ j.toNat ∧ (act.length : Int) = j - 1) ∧ Aside0 (Fst (j - 1) act) ∧ Aside0 (St w w' p b m j act))
  case atStart => exact ⟨1, [], 0, rfl, ⟨by simp; omega⟩, ⟨by unfold Rising; simp, fun t ht => (by cases ht)⟩, HS⟩
  case round =>
    clear HS
    obtain ⟨j, act, m, rfl, HJ, HF, HS⟩ := hrel
    have hj := HJ.out
    cases gk with
    | succ g =>
      have d1 : decide (j ≤ n) = true := decide_eq_true (by omega)
      have h0 : 1 ≤ j := hj.1
      have h1 : j ≤ n := by omega
      have hm1 : m < 1000 := by omega
      have e3 : wrap64 (j + 1) = j + 1 := by unfold wrap64; omega
      clear hj
      go_wp2_with fail
      refine (issue_calls _ HS.out.clk (by omega) (by omega) (fun t ht => by have := HF.out.bd t ht; omega) hm1).mono ?_
      rintro e w3 ⟨rfl, hcl, hmv⟩
      have HS2 := Aside0.mk (HS.out.moved hcl hmv)
      have HF2 := Aside0.mk (show Fst (j + 1 - 1) (act ++ [j]) from ⟨rising_snoc HF.out.rising (fun t ht => by have := HF.out.bd t ht; omega), fun t ht => by
        rcases List.mem_append.1 ht with ht | ht
        · have := HF.out.bd t ht; omega
        · have : t = j := by simpa using ht
          omega⟩)
      clear hcl hmv HS HF
      go_wp2
      go_roundg g
      case measure => omega
      case rel => exact ⟨j + 1, act ++ [j], m + 1, rfl, ⟨by have := HJ.out; rw [List.length_append]; simp; omega⟩, HF2, HS2⟩
    | zero =>
      have hjn : j = n + 1 := by omega
      subst hjn
      have d1 : decide (n + 1 ≤ n) = false := decide_eq_false (by omega)
      have hm1 : m ≤ 1000 := by omega
      have hlen : (act.length : Int) = n := by omega
      have HF2 := Aside0.mk (show Fst n act by have := HF.out; rwa [show n + 1 - 1 = n by omega] at this)
      have HL := Aside0.mk hlen
      clear hj HF HJ hlen
      go_wp2
      go_loopg [11, 12] N (fun g v11 v12 w' => ∃ (i left : Int) (act : List Int), v12 = .int .i64 i ∧ v11 = .int .i64 left ∧ Aside0 (0 ≤ i ∧ i + g = N) ∧ Aside0 (Fst n act ∧ (act.length : Int) = left) ∧ Aside0 (act.length ≤ 50) ∧ Aside0 (St w w' p b m (n + 1) act))
      case atStart => exact ⟨0, n, act, rfl, rfl, ⟨by simp⟩, ⟨HF2.out, HL.out⟩, ⟨by have := HL.out; omega⟩, HS⟩
      case round =>
        clear HS HF2 HL
        obtain ⟨i, left, act, rfl, rfl, HI, HF, HB9, HS⟩ := hrel
        have hi := HI.out
        have hnn := HN.out
        cases gk with
        | zero =>
          by_cases h1 : i < (l.length : Int)
          · have d1 : decide (i < (l.length : Int)) = true := decide_eq_true h1
            have d2 : decide (i < 60) = false := decide_eq_false (by omega)
            clear hi hnn h1
            go_wp2_with fail
            refine (active_tells _ HS.out.clk hm1 HF.out.1.rising).mono ?_
            rintro e w5 ⟨A, c, rfl, hac, hC, hb5⟩
            have HS5 := Aside0.mk (HS.out.go hb5)
            have HC5 := Aside0.mk hC
            clear hb5 hC HS
            go_wp2
            go_loopg [16] act.length (fun g v16 w' => ∃ q : Int, v16 = .int .i64 q ∧ Aside0 (0 ≤ q ∧ q + g = act.length) ∧ Aside0 (St w w' p b m (n + 1) act) ∧ Aside0 (Kd.C (Kd.int .i64) w' A act.length act))
            case atStart => exact ⟨0, rfl, ⟨by simp⟩, HS5, HC5⟩
            case round =>
              clear HS5 HC5
              obtain ⟨q, rfl, HQ, HS, HCC⟩ := hrel
              have hq := HQ.out
              cases gk with
              | zero =>
                have d3 : decide (q < (act.length : Int)) = false := decide_eq_false (by omega)
                have HLL := Aside0.mk HF.out.2
                have hll2 : ((act.length : Int) == left) = true := by simpa using HF.out.2
                by_cases hpos : left > 0
                · have d4 : decide (left > 0) = true := decide_eq_true hpos
                  clear hq
                  go_wp2
                  go_ret
                  exact ⟨rfl, HS.out.below⟩
                · have d4 : decide (left > 0) = false := decide_eq_false hpos
                  have hnil : act = [] := List.eq_nil_of_length_eq_zero (by have := HLL.out; omega)
                  have HML := Aside0.mk (show least (n + 1) act = n + 1 by rw [hnil]; rfl)
                  clear hnil hpos hq
                  go_wp2_with fail
                  refine (min_tells _ HS.out.clk hm1 HF.out.1.rising).mono ?_
                  rintro e w6 ⟨rfl, hb6⟩
                  have HS6 := Aside0.mk (HS.out.go hb6)
                  rw [HML.out]
                  clear hb6 HS
                  go_wp2
                  go_ret
                  exact ⟨rfl, HS6.out.below⟩
              | succ g =>
                have q0 : 0 ≤ q := hq.1
                have q1 : q < (act.length : Int) := by omega
                have d3 : decide (q < (act.length : Int)) = true := decide_eq_true q1
                have e5 : wrap64 (q + 1) = q + 1 := by have := HB9.out; unfold wrap64; omega
                have e6 : IntKind.i64.wrap (q - 1) = q - 1 := by have := HB9.out; rw [IntKind.wrap_i64]; omega
                have e7 : wrap64 (q - 1) = q - 1 := by have := HB9.out; unfold wrap64; omega
                obtain ⟨ad, e, hx⟩ := il_at HCC.out q q0 q1
                have hget : ∀ i : Int, 0 ≤ i → i < (act.length : Int) → act.getD i.toNat 0 ∈ act := by
                  intro i h0 h1
                  rw [List.getD_eq_getElem?_getD, List.getElem?_eq_getElem (show i.toNat < act.length by omega)]
                  exact List.getElem_mem _
                have hbd := HF.out.1.bd _ (hget q q0 q1)
                have hlt : 0 < q → act.getD (q - 1).toNat 0 < act.getD q.toNat 0 := by
                  intro h
                  have hr := HF.out.1.rising
                  unfold Rising at hr
                  rw [List.pairwise_iff_getElem] at hr
                  rw [List.getD_eq_getElem?_getD, List.getD_eq_getElem?_getD, List.getElem?_eq_getElem (show q.toNat < act.length by omega), List.getElem?_eq_getElem (show (q - 1).toNat < act.length by omega)]
                  exact hr _ _ _ _ (by omega)
                obtain ⟨v, hv⟩ : ∃ v, act.getD q.toNat 0 = v := ⟨_, rfl⟩
                rw [hv] at hx hbd hlt
                have d5 : decide (v < 1) = false := decide_eq_false (by omega)
                have d6 : decide (v > n) = false := decide_eq_false (by omega)
                by_cases hq0 : q > 0
                · have d7 : decide (q > 0) = true := decide_eq_true hq0
                  have p0 : 0 ≤ q - 1 := by omega
                  have p1 : q - 1 < (act.length : Int) := by omega
                  obtain ⟨ad2, e', hy⟩ := il_at HCC.out (q - 1) p0 p1
                  subst e
                  obtain rfl : ad = ad2 := by injection e'
                  clear e'
                  obtain ⟨u, hu⟩ : ∃ u, act.getD (q - 1).toNat 0 = u := ⟨_, rfl⟩
                  rw [hu] at hy hlt
                  have d8 : decide (v ≤ u) = false := decide_eq_false (by have := hlt hq0; omega)
                  have hy2 : wr.cell? (ad.add (q.toNat - 1)) = some (.int .i64 u) := by rw [show q.toNat - 1 = (q - 1).toNat by omega]; exact hy
                  have n1 : (1 : Int) ≤ q := by omega
                  have n2 : q ≤ (act.length : Int) := by omega
                  have n3 : q < (act.length : Int) + 1 := by omega
                  clear hq hget hbd hlt hv hu
                  go_wp2
                  go_quiet (fail)
                  go_wp2
                  go_roundg g
                  case measure => omega
                  case rel => exact ⟨q + 1, (by first | rfl | rw [e5]), ⟨by have := HQ.out; push_cast at this ⊢; omega⟩, ⟨HS.out.go (pw_below_drewN (Below.refl _ _) _)⟩, ⟨Kd.C_drewN HCC.out _⟩⟩
                · have d7 : decide (q > 0) = false := decide_eq_false hq0
                  subst e
                  clear hq hget hbd hlt hv
                  go_wp2
                  go_quiet (fail)
                  go_wp2
                  go_roundg g
                  case measure => omega
                  case rel => exact ⟨q + 1, (by first | rfl | rw [e5]), ⟨by have := HQ.out; push_cast at this ⊢; omega⟩, ⟨HS.out.go (pw_below_drewN (Below.refl _ _) _)⟩, ⟨Kd.C_drewN HCC.out _⟩⟩
          · have d1 : decide (i < (l.length : Int)) = false := decide_eq_false h1
            clear hi hnn
            go_wp2_with fail
            refine (active_tells _ HS.out.clk hm1 HF.out.1.rising).mono ?_
            rintro e w5 ⟨A, c, rfl, hac, hC, hb5⟩
            have HS5 := Aside0.mk (HS.out.go hb5)
            have HC5 := Aside0.mk hC
            clear hb5 hC HS
            go_wp2
            go_loopg [16] act.length (fun g v16 w' => ∃ q : Int, v16 = .int .i64 q ∧ Aside0 (0 ≤ q ∧ q + g = act.length) ∧ Aside0 (St w w' p b m (n + 1) act) ∧ Aside0 (Kd.C (Kd.int .i64) w' A act.length act))
            case atStart => exact ⟨0, rfl, ⟨by simp⟩, HS5, HC5⟩
            case round =>
              clear HS5 HC5
              obtain ⟨q, rfl, HQ, HS, HCC⟩ := hrel
              have hq := HQ.out
              cases gk with
              | zero =>
                have d3 : decide (q < (act.length : Int)) = false := decide_eq_false (by omega)
                have HLL := Aside0.mk HF.out.2
                have hll2 : ((act.length : Int) == left) = true := by simpa using HF.out.2
                by_cases hpos : left > 0
                · have d4 : decide (left > 0) = true := decide_eq_true hpos
                  clear hq
                  go_wp2
                  go_ret
                  exact ⟨rfl, HS.out.below⟩
                · have d4 : decide (left > 0) = false := decide_eq_false hpos
                  have hnil : act = [] := List.eq_nil_of_length_eq_zero (by have := HLL.out; omega)
                  have HML := Aside0.mk (show least (n + 1) act = n + 1 by rw [hnil]; rfl)
                  clear hnil hpos hq
                  go_wp2_with fail
                  refine (min_tells _ HS.out.clk hm1 HF.out.1.rising).mono ?_
                  rintro e w6 ⟨rfl, hb6⟩
                  have HS6 := Aside0.mk (HS.out.go hb6)
                  rw [HML.out]
                  clear hb6 HS
                  go_wp2
                  go_ret
                  exact ⟨rfl, HS6.out.below⟩
              | succ g =>
                have q0 : 0 ≤ q := hq.1
                have q1 : q < (act.length : Int) := by omega
                have d3 : decide (q < (act.length : Int)) = true := decide_eq_true q1
                have e5 : wrap64 (q + 1) = q + 1 := by have := HB9.out; unfold wrap64; omega
                have e6 : IntKind.i64.wrap (q - 1) = q - 1 := by have := HB9.out; rw [IntKind.wrap_i64]; omega
                have e7 : wrap64 (q - 1) = q - 1 := by have := HB9.out; unfold wrap64; omega
                obtain ⟨ad, e, hx⟩ := il_at HCC.out q q0 q1
                have hget : ∀ i : Int, 0 ≤ i → i < (act.length : Int) → act.getD i.toNat 0 ∈ act := by
                  intro i h0 h1
                  rw [List.getD_eq_getElem?_getD, List.getElem?_eq_getElem (show i.toNat < act.length by omega)]
                  exact List.getElem_mem _
                have hbd := HF.out.1.bd _ (hget q q0 q1)
                have hlt : 0 < q → act.getD (q - 1).toNat 0 < act.getD q.toNat 0 := by
                  intro h
                  have hr := HF.out.1.rising
                  unfold Rising at hr
                  rw [List.pairwise_iff_getElem] at hr
                  rw [List.getD_eq_getElem?_getD, List.getD_eq_getElem?_getD, List.getElem?_eq_getElem (show q.toNat < act.length by omega), List.getElem?_eq_getElem (show (q - 1).toNat < act.length by omega)]
                  exact hr _ _ _ _ (by omega)
                obtain ⟨v, hv⟩ : ∃ v, act.getD q.toNat 0 = v := ⟨_, rfl⟩
                rw [hv] at hx hbd hlt
                have d5 : decide (v < 1) = false := decide_eq_false (by omega)
                have d6 : decide (v > n) = false := decide_eq_false (by omega)
                by_cases hq0 : q > 0
                · have d7 : decide (q > 0) = true := decide_eq_true hq0
                  have p0 : 0 ≤ q - 1 := by omega
                  have p1 : q - 1 < (act.length : Int) := by omega
                  obtain ⟨ad2, e', hy⟩ := il_at HCC.out (q - 1) p0 p1
                  subst e
                  obtain rfl : ad = ad2 := by injection e'
                  clear e'
                  obtain ⟨u, hu⟩ : ∃ u, act.getD (q - 1).toNat 0 = u := ⟨_, rfl⟩
                  rw [hu] at hy hlt
                  have d8 : decide (v ≤ u) = false := decide_eq_false (by have := hlt hq0; omega)
                  have hy2 : wr.cell? (ad.add (q.toNat - 1)) = some (.int .i64 u) := by rw [show q.toNat - 1 = (q - 1).toNat by omega]; exact hy
                  have n1 : (1 : Int) ≤ q := by omega
                  have n2 : q ≤ (act.length : Int) := by omega
                  have n3 : q < (act.length : Int) + 1 := by omega
                  clear hq hget hbd hlt hv hu
                  go_wp2
                  go_quiet (fail)
                  go_wp2
                  go_roundg g
                  case measure => omega
                  case rel => exact ⟨q + 1, (by first | rfl | rw [e5]), ⟨by have := HQ.out; push_cast at this ⊢; omega⟩, ⟨HS.out.go (pw_below_drewN (Below.refl _ _) _)⟩, ⟨Kd.C_drewN HCC.out _⟩⟩
                · have d7 : decide (q > 0) = false := decide_eq_false hq0
                  subst e
                  clear hq hget hbd hlt hv
                  go_wp2
                  go_quiet (fail)
                  go_wp2
                  go_roundg g
                  case measure => omega
                  case rel => exact ⟨q + 1, (by first | rfl | rw [e5]), ⟨by have := HQ.out; push_cast at this ⊢; omega⟩, ⟨HS.out.go (pw_below_drewN (Below.refl _ _) _)⟩, ⟨Kd.C_drewN HCC.out _⟩⟩
        | succ g =>
          have h0 : 0 ≤ i := hi.1
          have h1 : i < (l.length : Int) := by omega
          have h2 : i < 60 := by omega
          have d1 : decide (i < (l.length : Int)) = true := decide_eq_true h1
          have d2 : decide (i < 60) = true := decide_eq_true h2
          have e4 : wrap64 (i + 1) = i + 1 := by unfold wrap64; omega
          obtain ⟨ad, e, hx⟩ := il8_at (Kd.C_below HR.out HS.out.below) i h0 h1
          subst e
          have hxb := HW.out i
          obtain ⟨x, hxx⟩ : ∃ x, l.getD i.toNat 0 = x := ⟨_, rfl⟩
          rw [hxx] at hx hxb
          obtain ⟨ts, hts⟩ : ∃ ts, Int.tmod x 60 = ts := ⟨_, rfl⟩
          have htb : 0 ≤ ts ∧ ts ≤ 59 := by rw [← hts, Int.tmod_eq_emod_of_nonneg hxb.1]; omega
          have e5 : wrap64 ts = ts := by unfold wrap64; omega
          have hwf : (Lit.int .i64 ts).wf = true := WalkArith.wf_i64 (by omega)
          have hle : left ≤ 1000 ∧ -1000 ≤ left := by have := HF.out.2; have := HB9.out; omega
          clear hxx hi hnn
          go_wp2_with fail
          refine (done_calls ts hwf _ HS.out.clk).mono ?_
          rintro e w3 ⟨rfl, hcl, hmv⟩
          have HS2 := Aside0.mk (HS.out.moved hcl hmv)
          clear hcl hmv
          by_cases hin : ts ∈ act
          · have hd : decide (ts ∈ act) = true := decide_eq_true hin
            rw [hd]
            have hb2 := HF.out.1.bd ts hin
            have t1 : decide (ts < 1) = false := decide_eq_false (by omega)
            have t2 : decide (ts > n) = false := decide_eq_false (by omega)
            have e6 : wrap64 (left - 1) = left - 1 := by unfold wrap64; omega
            have hfl := filter_len HF.out.1.rising hin
            have HFL := Aside0.mk hfl
            clear hb2 hd hfl
            go_wp2_with fail
            refine (done_calls ts hwf _ HS2.out.clk).mono ?_
            rintro e w4 ⟨rfl, hcl, hmv⟩
            rw [filter_none (filter_gone act ts)] at hcl
            have HS3 := Aside0.mk (HS2.out.moved hcl hmv)
            rw [show decide (ts ∈ act.filter fun t => t ≠ ts) = false from decide_eq_false (filter_gone act ts)]
            clear hcl hmv HS2 HS hx
            go_wp2
            go_roundg g
            case measure => omega
            case rel => exact ⟨i + 1, left - 1, act.filter (fun t => t ≠ ts), rfl, rfl, ⟨by have := HI.out; push_cast at this ⊢; omega⟩, ⟨⟨rising_filter HF.out.1.rising ts, fun t ht => HF.out.1.bd t (List.mem_filter.1 ht).1⟩, by have := HF.out.2; have := HFL.out; omega⟩, ⟨by have := HB9.out; have := HFL.out; omega⟩, HS3⟩
          · have hd : decide (ts ∈ act) = false := decide_eq_false hin
            rw [hd]
            have hs := HS2.out
            rw [filter_none hin] at hs
            have HS3 := Aside0.mk hs
            clear hs HS2
            go_wp2_with fail
            refine (done_calls ts hwf _ HS3.out.clk).mono ?_
            rintro e w4 ⟨rfl, hcl, hmv⟩
            rw [filter_none hin] at hcl
            have HS4 := Aside0.mk (HS3.out.moved hcl hmv)
            rw [hd]
            clear hcl hmv HS3 HS hx hd
            go_wp2
            go_roundg g
            case measure => omega
            case rel => exact ⟨i + 1, left, act, rfl, rfl, ⟨by have := HI.out; push_cast at this ⊢; omega⟩, HF, HB9, HS4⟩
end Go.Proofs.Ytoejaknfoniphaa
