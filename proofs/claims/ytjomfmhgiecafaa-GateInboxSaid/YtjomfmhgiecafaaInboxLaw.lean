/- GateInbox, walked by its facts. -/
import Derived.WalkSpells
import Derived.Test.YtjomfmhgiecafaaBox
import Derived.Test.YtjomfmhgiecafaaPx7
import Derived.Test.YtjomfmhgiecafaaPx10
namespace Go.Proofs.Ytjomfmhgiecafaa
open Go.Conc Go.RowKit P Go.Proofs.YtjomfmhgiecafaaW.PrintWords Go.Proofs.YtjomfmhgiecafaaW.PrintLast Go.Proofs.YtjomfmhgiecafaaW.PrintMore
set_option linter.unusedVariables false

theorem room_is (x : Int) : ogiveref18_Room.f x = some ((roomOf x : Nat) : Int) := by
  unfold ogiveref18_Room.f mn mx roomOf
  congr 1
  repeat' split
  all_goals omega

theorem il_at {w : World} {A : Option Addr} {n : Nat} {xs : List Int} (h : Kd.C (Kd.int .i64) w A n xs) (i : Int) (h0 : 0 ≤ i) (h1 : i < n) : ∃ ad, A = some ad ∧ w.cell? (ad.add i.toNat) = some (.int .i64 (xs.getD i.toNat 0)) := by
  obtain ⟨ad, c, e, _, hK, hc0⟩ := Kd.C_get h 0 i h0 h1
  have hc : ∀ j u, c[j]? = some u → w.cell? (ad.add (i.toNat * 1 + j)) = some u := hc0
  obtain rfl : c = [.int .i64 (xs.getD i.toNat 0)] := hK
  refine ⟨ad, e, ?_⟩
  have hq := hc 0 _ rfl
  rwa [Nat.mul_one, Nat.add_zero] at hq

theorem il_info : ∃ i, Try.prog.info? 3 = some i ∧ i.size = 1 := by
  have h : (Try.prog.info? 3).map (·.size) = some 1 := by kernel_rfl
  obtain ⟨i, hi, hb⟩ := Option.map_eq_some_iff.1 h
  exact ⟨i, hi, hb⟩

structure HoldI (p : Prop) : Prop where
  out : p
theorem il_info3 : (Try.prog.info? 3).map (fun i => (i.zero, i.size, i.bytes)) = some (some (.int .i64 0), 1, 8) := by kernel_rfl

/-- What the law holds in a round. -/
structure IS (w W : World) (b c cap : Nat) (v : Value) (xs : List Int) : Prop where
  box : Box W b c cap xs
  row : Kd.Q (Kd.int .i64) 3 W w.heap.size (fun k => k ≠ b ∧ k ≠ c) v xs
  below : Below w.heap.size w W

set_option maxHeartbeats 4000000 in
set_option maxRecDepth 100000 in
theorem inbox_calls (a0 : Int) (A1 : Option Addr) (c1 : Nat) (l : List Int) (w : World) (hr : Kd.C (Kd.int .i64) w A1 l.length l) (hc : l.length ≤ c1) :
    Calls Try.prog 5 #[.int .i64 a0, .slice A1 l.length c1] w fun e w' => e = .returned (.bool true) ∧ Below w.heap.size w w' := by
  have hm : (l.length : Int) ≤ 9223372036854775807 := by have := hr.2.1; omega
  have HR := Aside0.mk hr
  clear hr
  obtain ⟨N, hN⟩ : ∃ N : Nat, N = min l.length 100 := ⟨_, rfl⟩
  have HN := Aside0.mk hN
  clear hN
  go_enter Try.func5, Try.ntmps5
  go_wp2_with fail
  refine (ogivelaw18_awake.calls true _ rfl).mono ?_
  rintro e w1 ⟨rfl, b1⟩
  have HB1 := Aside0.mk b1
  clear b1
  go_wp2_with fail
  refine (box_new a0 _).mono ?_
  rintro e w2 ⟨rfl, hbox, b2, hs2⟩
  obtain ⟨b, hb⟩ : ∃ b, w1.heap.size + 1 = b := ⟨_, rfl⟩
  obtain ⟨c, hcc⟩ : ∃ c, w1.heap.size = c := ⟨_, rfl⟩
  obtain ⟨cap, hcap⟩ : ∃ cap, roomOf a0 = cap := ⟨_, rfl⟩
  have hbw : w.heap.size ≤ b := by have := HB1.out.size; omega
  have hcw : w.heap.size ≤ c := by have := HB1.out.size; omega
  have HBX := Aside0.mk (show Box w2 b c cap [] by rw [← hb, ← hcap]; rw [hcc] at hbox ⊢; exact hbox)
  have HB2 := Aside0.mk (HB1.out.trans (b2.mono HB1.out.size))
  have HBC := Aside0.mk (And.intro hbw hcw)
  have hroom := room_is a0
  rw [hcap] at hroom
  have HRM := Aside0.mk hroom
  rw [hb]
  clear hbox b2 hs2 hbw hcw HB1 hroom hb hcc hcap
  go_wp2_with fail
  refine (ogiveref18_Room.calls a0 (cap : Int) _ HRM.out).mono ?_
  rintro e w3 ⟨rfl, b3⟩
  have HI := Aside0.mk (show IS w w3 b c cap (.slice none 0 0) [] from ⟨HBX.out.below b3, Kd.Q_nil _ _ _ _ _, HB2.out.trans (b3.mono HB2.out.size)⟩)
  clear b3 HBX HB2
  go_wp2
  go_loopg [8, 9] N (fun g v8 v9 w' => ∃ (j : Int) (xs : List Int), v9 = .int .i64 j ∧ Aside0 (0 ≤ j ∧ j + g = N ∧ (xs.length : Int) ≤ j) ∧ Aside0 (IS w w' b c cap v8 xs))
  case atStart => exact ⟨0, [], rfl, ⟨by simp⟩, HI⟩
  case round =>
    clear HI
    obtain ⟨j, xs, rfl, HJ, HI⟩ := hrel
    obtain ⟨A8, c8, hv8, hc8⟩ := Kd.Q_slice HI.out.row
    subst hv8
    cases gk with
    | zero =>
      have hj := HJ.out
      have hn := HN.out
      have HB := Aside0.mk HI.out.below
      by_cases h1 : j < (l.length : Int)
      · have d1 : decide (j < (l.length : Int)) = true := decide_eq_true h1
        have d2 : decide (j < 100) = false := decide_eq_false (by omega)
        clear hj hn h1
        go_wp2_with fail
        refine (take_nil _).mono ?_
        rintro e w4 ⟨rfl, rfl⟩
        go_wp2_with fail
        refine (put_nil _ _).mono ?_
        rintro e w5 ⟨rfl, rfl⟩
        go_wp2_with fail
        refine (len_nil _).mono ?_
        rintro e w6 ⟨rfl, rfl⟩
        go_wp2
        go_ret
        exact ⟨rfl, HB.out⟩
      · have d1 : decide (j < (l.length : Int)) = false := decide_eq_false h1
        clear hj hn
        go_wp2_with fail
        refine (take_nil _).mono ?_
        rintro e w4 ⟨rfl, rfl⟩
        go_wp2_with fail
        refine (put_nil _ _).mono ?_
        rintro e w5 ⟨rfl, rfl⟩
        go_wp2_with fail
        refine (len_nil _).mono ?_
        rintro e w6 ⟨rfl, rfl⟩
        go_wp2
        go_ret
        exact ⟨rfl, HB.out⟩
    | succ g =>
      have hj := HJ.out
      have hn := HN.out
      have h0 : 0 ≤ j := hj.1
      have h1 : j < (l.length : Int) := by omega
      have h2 : j < 100 := by omega
      have d1 : decide (j < (l.length : Int)) = true := decide_eq_true h1
      have d2 : decide (j < 100) = true := decide_eq_true h2
      have e1 : wrap64 (j + 1) = j + 1 := by unfold wrap64; omega
      obtain ⟨ad, e, hx⟩ := il_at (Kd.C_below HR.out HI.out.below) j h0 h1
      subst e
      obtain ⟨x, hxx⟩ : ∃ x, l.getD j.toNat 0 = x := ⟨_, rfl⟩
      rw [hxx] at hx
      have HXX := Aside0.mk hxx
      clear hxx hj hn
      by_cases hneg : x < 0
      · have d3 : decide (x < 0) = true := decide_eq_true hneg
        cases xs with
        | nil =>
          go_wp2_with fail
          refine (box_take_none _ HI.out.box).mono ?_
          rintro e w4 ⟨rfl, hb4, g4⟩
          have HI4 := Aside0.mk (show IS w w4 b c cap (.slice A8 ([] : List Int).length c8) [] from ⟨hb4, Kd.Q_grown HI.out.row g4 (fun k hk he => by injection he with he; exact hk.2 he), HI.out.below.grown g4 HI.out.below.size (fun k hk => by injection hk with hk; rw [← hk]; exact HBC.out.2)⟩)
          clear hb4 g4 hx HI
          go_wp2_with fail
          refine (box_len _ HI4.out.box).mono ?_
          rintro e w5 ⟨rfl, rfl⟩
          go_wp2
          go_roundg g
          case measure => omega
          case rel => exact ⟨j + 1, [], rfl, ⟨by have := HJ.out; simp at this ⊢; omega⟩, HI4⟩
        | cons y ys =>
          obtain ⟨gq, oq, capq, hq, _⟩ := Kd.Q_form HI.out.row (by simp)
          injection hq with hA _ hcq
          subst hA; subst hcq
          go_wp2_with fail
          refine (box_take_some _ HI.out.box).mono ?_
          rintro e w4 ⟨rfl, hb4, g4⟩
          have hrow := Kd.Q_grown HI.out.row g4 (fun k hk he => by injection he with he; exact hk.2 he)
          have hbel := HI.out.below.grown g4 HI.out.below.size (fun k hk => by injection hk with hk; rw [← hk]; exact HBC.out.2)
          have hcell := (Kd.Q_cell (0 : Int) hrow 0 (by omega) (by simp)).1
          have hc0 : w4.cell? ⟨gq, oq, none⟩ = some (.int .i64 y) := by simpa [rdOf] using hcell
          have hdr := Kd.Q_drop (k := 1) hrow (by simp)
          have HB4 := Aside0.mk hbel
          have HX4 := Aside0.mk hb4
          have HL4 := Aside0.mk (show 1 ≤ c8 by simp at hc8; omega)
          have hlen : (0 : Int) < ((y :: ys).length : Int) := by simp
          clear hb4 g4 hx HI hrow hbel hcell hc8
          by_cases h8 : c8 = 1
          · subst h8
            rw [if_pos rfl] at hdr
            have HR5 := Aside0.mk (show Kd.Q (Kd.int .i64) 3 w4 w.heap.size (fun k => k ≠ b ∧ k ≠ c) (.slice (some ⟨gq, oq, none⟩) ys.length 0) ys from hdr)
            clear hdr
            go_wp2_with fail
            refine (box_len _ HX4.out).mono ?_
            rintro e w5 ⟨rfl, rfl⟩
            go_wp2
            go_roundg g
            case measure => omega
            case rel => exact ⟨j + 1, ys, rfl, ⟨by have := HJ.out; simp at this ⊢; omega⟩, ⟨⟨HX4.out, HR5.out, HB4.out⟩⟩⟩
          · rw [if_neg h8] at hdr
            have ha : (⟨gq, oq, none⟩ : Addr).add (1 * (Kd.int .i64).sz) = ⟨gq, oq + 1, none⟩ := by
              show (⟨gq, oq, none⟩ : Addr).add (1 * 1) = _
              simp [Addr.add]
            rw [show Option.map (fun x : Addr => x.add (1 * (Kd.int .i64).sz)) (some ⟨gq, oq, none⟩) = some ⟨gq, oq + 1, none⟩ from congrArg some ha] at hdr
            have HR5 := Aside0.mk (show Kd.Q (Kd.int .i64) 3 w4 w.heap.size (fun k => k ≠ b ∧ k ≠ c) (.slice (some ⟨gq, oq + 1, none⟩) ys.length (c8 - 1)) ys from hdr)
            clear hdr ha
            go_wp2_with fail
            refine (box_len _ HX4.out).mono ?_
            rintro e w5 ⟨rfl, rfl⟩
            go_wp2
            go_roundg g
            case measure => omega
            case rel => exact ⟨j + 1, ys, rfl, ⟨by have := HJ.out; simp at this ⊢; omega⟩, ⟨⟨HX4.out, HR5.out, HB4.out⟩⟩⟩
      · have d3 : decide (x < 0) = false := decide_eq_false hneg
        go_wp2_with fail
        refine (box_put x _ HI.out.box).mono ?_
        rintro e w4 ⟨rfl, hb4, g4⟩
        have hrow := Kd.Q_grown HI.out.row g4 (fun k hk he => by injection he with he; exact hk.2 he)
        have hbel := HI.out.below.grown g4 HI.out.below.size (fun k hk => by injection hk with hk; rw [← hk]; exact HBC.out.2)
        clear hx
        obtain ⟨ad', e', hx⟩ := il_at (Kd.C_below HR.out hbel) j h0 h1
        cases e'
        rw [HXX.out] at hx
        have HR4 := Aside0.mk hrow
        have HB4 := Aside0.mk hbel
        by_cases hroom : xs.length < cap
        · rw [if_pos hroom] at hb4
          have hfr : ∀ k, w4.heap.size ≤ k → k ≠ b ∧ k ≠ c := fun k hk => by have := hb4.lt; omega
          have HX4 := Aside0.mk hb4
          have HFR := Aside0.mk hfr
          have dr : decide (xs.length < cap) = true := decide_eq_true hroom
          have dr2 : decide ((xs.length : Int) < (cap : Int)) = true := decide_eq_true (by omega)
          have HLN := Aside0.mk (show (xs.length + 1) * 8 ≤ 140737488355328 by have := HJ.out; omega)
          obtain ⟨ys, hys⟩ : ∃ ys, xs ++ [x] = ys := ⟨_, rfl⟩
          have HYL := Aside0.mk (show ys.length = xs.length + 1 by rw [← hys]; simp)
          rw [hys] at hb4
          have HX5 := Aside0.mk hb4
          have HYS := Aside0.mk hys
          clear hb4 g4 HI hrow hbel hfr hc8 HX4 hys
          go_wp2_with (at_builtin; refine HoldI.out ?_)
          constructor
          refine Kd.Q_append (Kd.int .i64) (w0 := w) w.heap.size rfl (.tmp 80) (.tmp 85) 31 3 (.int .i64 0) 8 rfl Try.underlying31 il_info3 rfl (by decide) (by decide) (.slice A8 xs.length c8) xs x [.int .i64 x] (fun k => k ≠ b ∧ k ≠ c) (fun _ => False) rfl rfl rfl (fun _ h => h.elim) HFR.out HR4.out HB4.out HB4.out.size HLN.out ?_
          intro v1 w5 hR5 hB5 hg5 _
          rw [HYS.out] at hR5
          obtain ⟨A5, c5, hv5, hc5⟩ := Kd.Q_slice hR5
          subst hv5
          have hq := HR4.out.1
          have HX6 := Aside0.mk (HX5.out.kept hg5 (fun he => (hq b he).1 rfl) (fun he => (hq c he).2 rfl))
          have HR5 := Aside0.mk hR5
          have HB5 := Aside0.mk hB5
          clear hR5 hB5 hg5 hq hx hc5 HX5 HR4 HB4
          go_wp2_with fail
          refine (box_len _ HX6.out).mono ?_
          rintro e w6 ⟨rfl, rfl⟩
          go_wp2
          go_roundg g
          case measure => omega
          case rel => exact ⟨j + 1, ys, rfl, ⟨by have := HJ.out; have := HYL.out; push_cast at this ⊢; omega⟩, ⟨⟨HX6.out, HR5.out, HB5.out⟩⟩⟩
        · rw [if_neg hroom] at hb4
          have HX4 := Aside0.mk hb4
          have dr : decide (xs.length < cap) = false := decide_eq_false hroom
          have dr2 : decide ((xs.length : Int) < (cap : Int)) = false := decide_eq_false (by omega)
          clear hb4 g4 HI hrow hbel hc8 hx
          go_wp2_with fail
          refine (box_len _ HX4.out).mono ?_
          rintro e w6 ⟨rfl, rfl⟩
          go_wp2
          go_roundg g
          case measure => omega
          case rel => exact ⟨j + 1, xs, rfl, ⟨by have := HJ.out; push_cast at this ⊢; omega⟩, ⟨⟨HX4.out, HR4.out, HB4.out⟩⟩⟩
end Go.Proofs.Ytjomfmhgiecafaa
