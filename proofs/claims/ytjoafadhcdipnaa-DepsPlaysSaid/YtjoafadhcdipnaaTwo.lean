/- Two of them side by side; DepsSettle. -/
import Derived.Test.YtjoafadhcdipnaaRun
namespace Go.Proofs.Ytjoafadhcdipnaa
open Go.RowKit Go.Maps T Go.Proofs.YtjoafadhcdipnaaW.PrintWords Go.Proofs.YtjoafadhcdipnaaW.PrintLast Go.Proofs.YtjoafadhcdipnaaW.PrintMore
attribute [local go_sem] max2_int min2_int max_two min_two max_three min_three max_four min_four
set_option linter.unusedVariables false

theorem getI_mem2 (l : List Int) (i : Int) (h0 : 0 ≤ i) (h1 : i < (l.length : Int)) : l.getD i.toNat 0 ∈ l := getD_mem l i.toNat (by omega)

/-- Two that the call has made, the second one behind the first one. -/
structure D2 (w0 w : World) (p b : Nat) (K1 : List Int) (B1 : Int → Nat) (W1 : Int → List Int) (p2 b2 : Nat) (K2 : List Int) (B2 : Int → Nat) (W2 : Int → List Int) : Prop where
  one : DS w0 w p b 60 K1 B1 W1
  two : DS w0 w p2 b2 60 K2 B2 W2
  apart : ∀ g, Lies p2 b2 K2 B2 g → ¬ Lies p b K1 B1 g

variable {w0 w w' : World} {p b p2 b2 : Nat} {K1 K2 : List Int} {B1 B2 : Int → Nat} {W1 W2 : Int → List Int}

theorem D2.go (h : D2 w0 w p b K1 B1 W1 p2 b2 K2 B2 W2) (hb : Below w.heap.size w w') : D2 w0 w' p b K1 B1 W1 p2 b2 K2 B2 W2 := ⟨h.one.go hb, h.two.go hb, h.apart⟩
/-- The first one turns. -/
theorem D2.next {K1' : List Int} {W1' : Int → List Int} (h : D2 w0 w p b K1 B1 W1 p2 b2 K2 B2 W2) (hd : Dep w' w0.heap.size p b 60 K1' B1 W1') (hk : Kept w w' (Lies p b K1 B1)) (hq : Still w w') (hs : ∀ k ∈ K1', k ∈ K1) : D2 w0 w' p b K1' B1 W1' p2 b2 K2 B2 W2 :=
  ⟨h.one.next hd hk hq, ⟨h.two.dep.kept hk h.apart, h.two.below.trans (hq.to hk h.two.below.size (fun g hg => h.one.dep.old hg))⟩, fun g hg hl => h.apart g hg (by
    rcases hl with e | e | ⟨k, hk', e⟩
    · exact .inl e
    · exact .inr (.inl e)
    · exact .inr (.inr ⟨k, hs k hk', e⟩))⟩

/-- What two runs leave. -/
theorem two_runs {w1 w2 w3 : World} {n n2 : Nat} {K : List Int} {W : Int → List Int} {v v2 : Value} {x x2 : List S53} (h0 : Below w0.heap.size w0 w1) (h1 : PS w1 w2 p b n K B1 W v x) (h2 : PS w2 w3 p2 b2 n2 K B2 W v2 x2) (hn : n ≤ 60) (hn2 : n2 ≤ 60) : D2 w0 w3 p b K B1 W p2 b2 K B2 W :=
  ⟨⟨((h1.ds.dep.base_le h0.size).mono hn).below h2.ds.below, h0.trans (h1.ds.below.mono h0.size) |> fun h => h.trans (h2.ds.below.mono h.size)⟩,
   ⟨(h2.ds.dep.base_le (Nat.le_trans h0.size h1.ds.below.size)).mono hn2, h0.trans (h1.ds.below.mono h0.size) |> fun h => h.trans (h2.ds.below.mono h.size)⟩,
   fun g hg hl => by
    have a := h2.ds.dep.old hg
    have c := h1.ds.dep.lt hl
    omega⟩

/-- What the law wants of one. -/
def wanted (l : List Int) (a ts : Int) : List Int := l.filter fun y => decide (y ≠ ts ∧ a ≠ ts)
theorem wanted_all (W : Int → List Int) (a ts : Int) : wanted (W a) a ts = settled W ts a := by
  unfold wanted settled
  by_cases h : a = ts
  · rw [if_pos h]
    simp [h]
  · rw [if_neg h]
    refine List.filter_congr fun y _ => ?_
    simp [h]
theorem wanted_yes {l : List Int} {a ts y : Int} (h1 : y ≠ ts) (h2 : a ≠ ts) : wanted (l ++ [y]) a ts = wanted l a ts ++ [y] := by
  unfold wanted
  rw [List.filter_append]
  simp [h1, h2]
theorem wanted_no {l : List Int} {a ts y : Int} (h : y = ts ∨ a = ts) : wanted (l ++ [y]) a ts = wanted l a ts := by
  unfold wanted
  rw [List.filter_append]
  rcases h with h | h <;> simp [h]
theorem wanted_len (l : List Int) (a ts : Int) : (wanted l a ts).length ≤ l.length := List.length_filter_le _ _

set_option maxRecDepth 100000 in
set_option maxHeartbeats 8000000 in
theorem settle_law (A1 : Option Addr) (c1 : Nat) (l : List Dd) (ts : Int) (hg : ∀ d ∈ l, goodD d) (hts : (Lit.int .i64 ts).wf = true) (w : World) (hr : Kd.C kdeed w A1 l.length l) (hc : l.length ≤ c1) : Calls Try.prog 6 #[.slice A1 l.length c1, .int .i64 ts] w fun e w' => e = .returned (.bool true) ∧ Below w.heap.size w w' := by
  have HR := Aside0.mk hr
  have HG := Aside0.mk hg
  have HTS := Aside0.mk hts
  clear hr hg hts
  go_enter Try.func6, Try.ntmps6
  go_wp2_with fail
  refine (awake_calls _).mono ?_
  rintro e w1 ⟨rfl, hb1⟩
  have HB := Aside0.mk hb1
  clear hb1
  go_wp2_with fail
  refine (run_calls A1 c1 l HG.out _ (Kd.C_below HR.out HB.out) hc).mono ?_
  rintro e w2 ⟨p, b, n, B, v, x, rfl, hn, hp⟩
  have HP := Aside0.mk hp
  have HN := Aside0.mk hn
  clear hn hp
  go_wp2_with fail
  refine (run_calls A1 c1 l HG.out _ (Kd.C_below (Kd.C_below HR.out HB.out) HP.out.ds.below) hc).mono ?_
  rintro e w3 ⟨p2, b2, n2, B2, v2, x2, rfl, hn2, hp2⟩
  have HD := Aside0.mk (two_runs HB.out HP.out hp2 HN.out hn2)
  obtain ⟨K, hK⟩ : ∃ K, ranK l = K := ⟨_, rfl⟩
  obtain ⟨W, hW⟩ : ∃ W, ranW l = W := ⟨_, rfl⟩
  rw [hK, hW] at HD
  clear hn2 hp2 hK hW HB HP HN
  go_wp2_with fail
  refine (settle_calls HTS.out _ HD.out.one.dep).mono ?_
  rintro e w4 ⟨rfl, hd, hk, hq⟩
  have HD4 := Aside0.mk (HD.out.next hd hk hq (fun k hk => (List.mem_filter.1 hk).1))
  clear hd hk hq HD
  go_wp2_with fail
  refine (all_calls _ HD4.out.two.dep (by omega)).mono ?_
  rintro e w5 ⟨v5, rfl, hR, hb⟩
  obtain ⟨A5, c5, rfl⟩ := Kd.R_slice hR
  have HD5 := Aside0.mk (HD4.out.go hb)
  have HC5 := Aside0.mk (Kd.R_reads' hR).2.2
  have HLK := Aside0.mk (show K.length ≤ 60 by have h1 := HD4.out.two.dep.own.size_le; rwa [O_size] at h1)
  have hlk : (K.length : Int) ≤ 60 := by have := HLK.out; omega
  clear hR hb HD4
  go_wp2
  go_loopg [9] K.length (fun g v9 w' => ∃ (j : Int), v9 = .int .i64 j ∧ Aside0 (0 ≤ j ∧ j + g = K.length) ∧ Aside0 (D2 w w' p b (stay K W ts) B (settled W ts) p2 b2 K B2 W) ∧ Aside0 (Kd.C (Kd.int .i64) w' A5 K.length K))
  case atStart => exact ⟨0, rfl, ⟨by simp⟩, HD5, HC5⟩
  case round =>
    clear HD5 HC5
    obtain ⟨j, rfl, HJ, HD, HC⟩ := hrel
    have hj := HJ.out
    cases gk with
    | zero =>
      have d1 : decide (j < (K.length : Int)) = false := decide_eq_false (by omega)
      have HSE := Aside0.mk (show settled W ts ts = [] from if_pos rfl)
      clear hj
      go_wp2_with fail
      refine (waits_calls ts HTS.out _ HD.out.one.dep (by omega)).mono ?_
      rintro e w6 ⟨v6, rfl, hR, hb⟩
      rw [HSE.out] at hR
      obtain ⟨A6, c6, rfl⟩ := Kd.R_slice hR
      have HB6 := Aside0.mk (HD.out.one.go hb)
      clear hR hb
      go_wp2
      go_ret
      exact ⟨rfl, HB6.out.below⟩
    | succ g =>
      have h0 : 0 ≤ j := hj.1
      have h1 : j < (K.length : Int) := by omega
      have d1 : decide (j < (K.length : Int)) = true := decide_eq_true h1
      have e4 : wrap64 (j + 1) = j + 1 := by unfold wrap64; omega
      have HKM := Aside0.mk (getI_mem2 K j h0 h1)
      obtain ⟨ad, e, hx⟩ := il_at HC.out j h0 h1
      subst e
      obtain ⟨a, ha⟩ : ∃ a, K.getD j.toNat 0 = a := ⟨_, rfl⟩
      have HAE := Aside0.mk ha
      rw [ha] at hx HKM
      have HWF := Aside0.mk (HD.out.two.dep.wf a HKM.out)
      clear hj ha
      go_wp2_with fail
      refine (waits_calls a HWF.out _ HD.out.two.dep (by omega)).mono ?_
      rintro e w6 ⟨v6, rfl, hR, hb⟩
      obtain ⟨A6, c6, rfl⟩ := Kd.R_slice hR
      have HD6 := Aside0.mk (HD.out.go hb)
      have HC6 := Aside0.mk (Kd.C_below HC.out hb)
      have HCW := Aside0.mk (Kd.R_reads' hR).2.2
      have HLW := Aside0.mk (show (W a).length ≤ 60 by have h1 := (HD.out.two.dep.inner a HKM.out).size_le; rwa [D_size] at h1)
      have hlw : ((W a).length : Int) ≤ 60 := by have := HLW.out; omega
      clear hR hb hx HD HC
      go_wp2
      go_loopg [11, 12] (W a).length (fun g v11 v12 w' => ∃ (q : Int) (ww : List Int), v12 = .int .i64 q ∧ Aside0 (0 ≤ q ∧ q + g = (W a).length ∧ ww = wanted ((W a).take q.toNat) a ts) ∧ Aside0 (Below w6.heap.size w6 w') ∧ Aside0 (Kd.R (Kd.int .i64) 2 w' w6.heap.size (fun _ => True) v11 ww))
      case atStart => exact ⟨0, [], rfl, ⟨by simp [wanted]⟩, ⟨Below.refl _ _⟩, ⟨Kd.R_nil _ _ _ _ _⟩⟩
      case round =>
        obtain ⟨q, ww, rfl, HQ, HB, HO⟩ := hrel
        have hq := HQ.out
        cases gk with
        | zero =>
          have d2 : decide (q < ((W a).length : Int)) = false := decide_eq_false (by omega)
          have HWW := Aside0.mk (show ww = settled W ts a by rw [hq.2.2, show q.toNat = (W a).length by omega, List.take_length]; exact wanted_all W a ts)
          obtain ⟨A11, c11, e11⟩ := Kd.R_slice HO.out
          subst e11
          have HD7 := Aside0.mk (HD6.out.go HB.out)
          have HC7 := Aside0.mk (Kd.C_below HC6.out HB.out)
          obtain ⟨ad', e', hx⟩ := il_at HC7.out j h0 h1
          obtain rfl : ad = ad' := by injection e'
          rw [HAE.out] at hx
          have HLE := Aside0.mk (show ww.length ≤ 1000 by rw [hq.2.2]; have h1 := wanted_len ((W a).take q.toNat) a ts; have h2 := HLW.out; rw [List.length_take] at h1; omega)
          clear hq e'
          go_wp2_with fail
          refine (waits_calls a HWF.out _ HD7.out.one.dep (by omega)).mono ?_
          rintro e w8 ⟨v8, rfl, hR, hb⟩
          rw [← HWW.out] at hR
          obtain ⟨A8, c8, rfl⟩ := Kd.R_slice hR
          have HD8 := Aside0.mk (HD7.out.go hb)
          have HC8 := Aside0.mk (Kd.C_below HC7.out hb)
          have HR8 := Aside0.mk (Kd.R_reads' hR)
          have HR9 := Aside0.mk (Kd.R_reads' (Kd.R_below HO.out hb))
          clear hR hb hx
          go_wp2_with fail
          refine (same_calls HLE.out HR8.out.2.2 HR8.out.2.1 HR9.out.2.2 HR9.out.2.1).mono ?_
          rintro e w9 ⟨rfl, hb⟩
          have HD9 := Aside0.mk (HD8.out.go hb)
          have HC9 := Aside0.mk (Kd.C_below HC8.out hb)
          clear hb
          go_wp2
          go_roundg g
          case measure => omega
          case rel => exact ⟨j + 1, (by first | rfl | rw [e4]), ⟨by have h3 := HJ.out; push_cast at h3 ⊢; omega⟩, HD9, HC9⟩
        | succ g2 =>
          have q0 : 0 ≤ q := hq.1
          have q1 : q < ((W a).length : Int) := by omega
          have d2 : decide (q < ((W a).length : Int)) = true := decide_eq_true q1
          have e8 : wrap64 (q + 1) = q + 1 := by unfold wrap64; omega
          have HT := Aside0.mk (take_snoc (W a) q.toNat (by omega))
          obtain ⟨ad6, e, hy⟩ := il_at (Kd.C_below HCW.out HB.out) q q0 q1
          subst e
          obtain ⟨ad', e', hx⟩ := il_at (Kd.C_below HC6.out HB.out) j h0 h1
          obtain rfl : ad = ad' := by injection e'
          rw [HAE.out] at hx
          obtain ⟨y, hye⟩ : ∃ y, (W a).getD q.toNat 0 = y := ⟨_, rfl⟩
          rw [hye] at hy HT
          have HWQ := Aside0.mk hq.2.2
          have HLE := Aside0.mk (show ww.length ≤ 60 by rw [hq.2.2]; have h1 := wanted_len ((W a).take q.toNat) a ts; have h2 := HLW.out; rw [List.length_take] at h1; omega)
          clear hq e' hye
          by_cases hyt : y = ts
          · have t1 : (y != ts) = false := by simpa using hyt
            have HE := Aside0.mk (show ww = wanted ((W a).take (q.toNat + 1)) a ts by rw [HT.out, wanted_no (.inl hyt)]; exact HWQ.out)
            clear hyt
            go_wp2
            go_roundg g2
            case measure => omega
            case rel => exact ⟨q + 1, ww, (by first | rfl | rw [e8]), ⟨by have h3 := HQ.out; have h4 := HE.out; rw [show (q + 1).toNat = q.toNat + 1 by omega]; push_cast at h3 ⊢; exact ⟨by omega, by omega, h4⟩⟩, HB, HO⟩
          · have t1 : (y != ts) = true := by simpa using hyt
            by_cases hat : a = ts
            · have t2 : (a != ts) = false := by simpa using hat
              have HE := Aside0.mk (show ww = wanted ((W a).take (q.toNat + 1)) a ts by rw [HT.out, wanted_no (.inr hat)]; exact HWQ.out)
              clear hyt hat
              go_wp2
              go_roundg g2
              case measure => omega
              case rel => exact ⟨q + 1, ww, (by first | rfl | rw [e8]), ⟨by have h3 := HQ.out; have h4 := HE.out; rw [show (q + 1).toNat = q.toNat + 1 by omega]; push_cast at h3 ⊢; exact ⟨by omega, by omega, h4⟩⟩, HB, HO⟩
            · have t2 : (a != ts) = true := by simpa using hat
              have HE := Aside0.mk (show ww ++ [y] = wanted ((W a).take (q.toNat + 1)) a ts by rw [HT.out, wanted_yes hyt hat, ← HWQ.out])
              clear hyt hat
              go_wp2_with (at_builtin; refine HoldC.out ?_)
              constructor
              refine Kd.R_append (Kd.int .i64) (w0 := w6) w6.heap.size rfl (.tmp 55) (.tmp 60) 31 2 (.int .i64 0) 8 rfl Try.underlying31 info2 rfl (by decide) (by omega) _ ww y [.int .i64 y] (fun _ => True) (fun _ => False) rfl rfl rfl (fun _ hk => hk.elim) (fun _ _ => trivial) HO.out HB.out HB.out.size (by have := HLE.out; omega) ?_
              intro v14 w14 hR14 hB14 _ _
              have HB14 := Aside0.mk hB14
              have HR14 := Aside0.mk hR14
              clear hB14 hR14 hx hy
              go_wp2
              go_roundg g2
              case measure => omega
              case rel => exact ⟨q + 1, ww ++ [y], (by first | rfl | rw [e8]), ⟨by have h3 := HQ.out; have h4 := HE.out; rw [show (q + 1).toNat = q.toNat + 1 by omega]; push_cast at h3 ⊢; exact ⟨by omega, by omega, h4⟩⟩, HB14, HR14⟩
end Go.Proofs.Ytjoafadhcdipnaa
