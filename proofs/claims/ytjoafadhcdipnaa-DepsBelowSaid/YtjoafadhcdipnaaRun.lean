/- Behind deeds: what a list of deeds leaves. -/
import Derived.Test.YtjoafadhcdipnaaDo
namespace Go.Proofs.Ytjoafadhcdipnaa
open Go.RowKit Go.Maps T Go.Proofs.YtjoafadhcdipnaaW.PrintWords Go.Proofs.YtjoafadhcdipnaaW.PrintLast Go.Proofs.YtjoafadhcdipnaaW.PrintMore
attribute [local go_sem] max2_int min2_int max_two min_two max_three min_three max_four min_four
set_option linter.unusedVariables false

/-- A deed: what is done, and its two numbers. -/
abbrev Dd := Int × (Int × Int)
def kdeed : Kd Dd := Kd.pair (Kd.int .i64) (Kd.pair (Kd.int .i64) (Kd.int .i64))
def rdD (xs : List Dd) (i : Int) : Dd := xs.getD i.toNat (0, 0, 0)
def goodD (d : Dd) : Prop := (Lit.int .i64 d.2.1).wf = true ∧ (Lit.int .i64 d.2.2).wf = true
theorem dl_at {w : World} {A : Option Addr} {n : Nat} {xs : List Dd} (h : Kd.C kdeed w A n xs) (i : Int) (h0 : 0 ≤ i) (h1 : i < n) : ∃ ad, A = some ad ∧ w.cell? (ad.add (i.toNat * 3)) = some (.int .i64 (rdD xs i).1) ∧ w.cell? ⟨(ad.add (i.toNat * 3)).block, (ad.add (i.toNat * 3)).off + 1, none⟩ = some (.int .i64 (rdD xs i).2.1) ∧ w.cell? ⟨(ad.add (i.toNat * 3)).block, (ad.add (i.toNat * 3)).off + 2, none⟩ = some (.int .i64 (rdD xs i).2.2) := by
  obtain ⟨ad, c, e, _, hK, hc0⟩ := Kd.C_get h (0, 0, 0) i h0 h1
  have hc : ∀ j u, c[j]? = some u → w.cell? (ad.add (i.toNat * 3 + j)) = some u := hc0
  obtain ⟨_, _, rfl, rfl, ⟨_, _, rfl, rfl, rfl⟩⟩ := hK
  exact ⟨ad, e, hc 0 _ rfl, by rw [← add_field _ _ 1 (by omega)]; exact hc 1 _ rfl, by rw [← add_field _ _ 2 (by omega)]; exact hc 2 _ rfl⟩

/-- Who waits behind some deeds, and for whom. -/
def keysAt (l : List Dd) : List Int × (Int → List Int) := l.foldl (fun s d => (stepK d.1 d.2.1 d.2.2 s.1 s.2, stepW d.1 d.2.1 d.2.2 s.1 s.2)) ([], fun _ => [])
theorem keysAt_snoc (l : List Dd) (i : Nat) (h : i < l.length) : keysAt (l.take (i + 1)) = (stepK (rdD l i).1 (rdD l i).2.1 (rdD l i).2.2 (keysAt (l.take i)).1 (keysAt (l.take i)).2, stepW (rdD l i).1 (rdD l i).2.1 (rdD l i).2.2 (keysAt (l.take i)).1 (keysAt (l.take i)).2) := by
  unfold keysAt
  rw [List.take_succ_eq_append_getElem h, List.foldl_append]
  have : rdD l i = l[i] := by unfold rdD; rw [Int.toNat_natCast, List.getD_eq_getElem?_getD, List.getElem?_eq_getElem h]; rfl
  rw [this]
  rfl
/-- .. behind sixty at most. -/
def ranK (l : List Dd) : List Int := (keysAt (l.take (min l.length 60))).1
def ranW (l : List Dd) : Int → List Int := (keysAt (l.take (min l.length 60))).2

theorem good_at {l : List Dd} (hg : ∀ d ∈ l, goodD d) (i : Int) : goodD (rdD l i) := by
  unfold rdD
  rw [List.getD_eq_getElem?_getD]
  cases h : l[i.toNat]? with
  | none => exact ⟨by decide, by decide⟩
  | some x => exact hg x (List.mem_of_getElem? h)

/-- What 'run' leaves. -/
def Ran (w : World) (l : List Dd) (e : Ending) (w' : World) : Prop := ∃ p b n B v x, e = .returned (.pointer (some ⟨p, 0, none⟩)) ∧ n ≤ 60 ∧ PS w w' p b n (ranK l) B (ranW l) v x

set_option maxRecDepth 100000 in
set_option maxHeartbeats 4000000 in
theorem run_calls (A1 : Option Addr) (c1 : Nat) (l : List Dd) (hg : ∀ d ∈ l, goodD d) (w : World) (hr : Kd.C kdeed w A1 l.length l) (hc : l.length ≤ c1) : Calls Try.prog 17 #[.slice A1 l.length c1] w (Ran w l) := by
  have hu30 := Try.underlying30
  have hm : (l.length : Int) ≤ 9223372036854775807 := by have := hr.2.1; omega
  have HR := Aside0.mk hr
  have HG := Aside0.mk (good_at hg)
  obtain ⟨N, hN⟩ : ∃ N : Nat, N = min l.length 60 := ⟨_, rfl⟩
  have HN := Aside0.mk hN
  clear hr hg hN
  go_enter Try.func17, Try.ntmps17
  go_wp2_with fail
  refine (new_calls _).mono ?_
  rintro e w1 ⟨rfl, hd, hb⟩
  have HS := Aside0.mk (DS.made (Below.refl _ w) hd hb)
  obtain ⟨p, hp⟩ : ∃ p, w.heap.size + 1 = p := ⟨_, rfl⟩
  obtain ⟨b, hbb⟩ : ∃ b, w.heap.size = b := ⟨_, rfl⟩
  rw [hp, show DS w w1 p w.heap.size 0 [] (fun _ => 0) (fun _ => []) = DS w w1 p b 0 [] (fun _ => 0) (fun _ => []) by rw [hbb]] at HS
  rw [hp]
  clear hd hb hp hbb
  go_wp2
  go_loopg [4, 5] N (fun g v4 v5 w' => ∃ (j : Int) (n : Nat) (B : Int → Nat) (x : List S53), v5 = .int .i64 j ∧ Aside0 (0 ≤ j ∧ j + g = N ∧ n ≤ j.toNat) ∧ Aside0 (PS w w' p b n (keysAt (l.take j.toNat)).1 B (keysAt (l.take j.toNat)).2 v4 x))
  case atStart => exact ⟨0, 0, fun _ => 0, [], rfl, ⟨by simp⟩, ⟨⟨HS.out, Kd.V_nil _ _ _ _ _, rel_nil, by simp⟩⟩⟩
  case round =>
    clear HS
    obtain ⟨j, n, B, x, rfl, HJ, HS⟩ := hrel
    have hj := HJ.out
    have hn := HN.out
    cases gk with
    | zero =>
      have hjn : j.toNat = min l.length 60 := by omega
      have HS2 := Aside0.mk (show PS w wr p b n (ranK l) B (ranW l) _ x by unfold ranK ranW; rw [← hjn]; exact HS.out)
      have HN2 := Aside0.mk (show n ≤ 60 by omega)
      by_cases h1 : j < (l.length : Int)
      · have d1 : decide (j < (l.length : Int)) = true := decide_eq_true h1
        have d2 : decide (j < 60) = false := decide_eq_false (by omega)
        clear hj hn h1 hjn
        go_wp2
        go_ret
        exact ⟨p, b, n, B, _, x, rfl, HN2.out, HS2.out⟩
      · have d1 : decide (j < (l.length : Int)) = false := decide_eq_false h1
        clear hj hn hjn
        go_wp2
        go_ret
        exact ⟨p, b, n, B, _, x, rfl, HN2.out, HS2.out⟩
    | succ g =>
      have h0 : 0 ≤ j := hj.1
      have h1 : j < (l.length : Int) := by omega
      have h2 : j < 60 := by omega
      have d1 : decide (j < (l.length : Int)) = true := decide_eq_true h1
      have d2 : decide (j < 60) = true := decide_eq_true h2
      have e4 : wrap64 (j + 1) = j + 1 := by unfold wrap64; omega
      obtain ⟨ad, e, hx0, hx1, hx2⟩ := dl_at (Kd.C_below HR.out HS.out.ds.below) j h0 h1
      subst e
      have hgd := HG.out j
      have hks := keysAt_snoc l j.toNat (by omega)
      rw [show ((j.toNat : Nat) : Int) = j by omega] at hks
      obtain ⟨d, hd⟩ : ∃ d, rdD l j = d := ⟨_, rfl⟩
      rw [hd] at hx0 hx1 hx2 hgd hks
      have HGD := Aside0.mk hgd
      have HKS := Aside0.mk hks
      have HN1 := Aside0.mk (show n ≤ 90 by omega)
      clear hj hn hd hgd hks
      obtain ⟨K, hK⟩ : ∃ K, (keysAt (l.take j.toNat)).1 = K := ⟨_, rfl⟩
      obtain ⟨V, hV⟩ : ∃ V, (keysAt (l.take j.toNat)).2 = V := ⟨_, rfl⟩
      rw [hK, hV] at HS HKS
      clear hK hV
      go_wp2_with fail
      refine (do_calls d.1 d.2.1 d.2.2 HGD.out.1 HGD.out.2 _ HS.out HN1.out).mono ?_
      rintro e w2 ⟨v2, n2, x2, B2, rfl, hn2, hp2⟩
      have HN2 := Aside0.mk hn2
      have HP2 := Aside0.mk hp2
      clear hn2 hp2 hx0 hx1 hx2 HS
      go_wp2
      go_roundg g
      case measure => omega
      case rel => exact ⟨j + 1, n2, B2, x2, (by first | rfl | rw [e4]), ⟨by have h3 := HJ.out; have h4 := HN2.out; push_cast at h3 ⊢; omega⟩, ⟨by rw [show (j + 1).toNat = j.toNat + 1 by omega, HKS.out]; exact HP2.out⟩⟩
end Go.Proofs.Ytjoafadhcdipnaa
