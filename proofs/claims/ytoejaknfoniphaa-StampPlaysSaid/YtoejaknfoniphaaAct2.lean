/- The clock's Active and Min, told by the set's own list; the nil clock. -/
import Derived.Test.YtoejaknfoniphaaAct
namespace Go.Proofs.Ytoejaknfoniphaa
open Go.RowKit Go.Maps Go.Sort Go.Shelf Go.Proofs.YtoejaknfoniphaaW.PrintWords Go.Proofs.YtoejaknfoniphaaW.PrintLast Go.Proofs.YtoejaknfoniphaaW.PrintMore
set_option linter.unusedVariables false

def Rising (l : List Int) : Prop := l.Pairwise fun a b => a < b

theorem keys_D (act : List Int) : intKeys (D act) = act := by
  unfold D intKeys
  simp only [List.map_map]
  exact List.map_id'' (fun _ => rfl) act

theorem sorted_is {act ss : List Int} (hr : Rising act) (hp : ss.Perm act) : ss.mergeSort (fun x y => decide (x ≤ y)) = act := by
  refine List.Perm.eq_of_pairwise (le := fun a b => a ≤ b) (fun a b _ _ h1 h2 => Int.le_antisymm h1 h2) ?_ (hr.imp (fun h => Int.le_of_lt h)) ((List.mergeSort_perm _ _).trans hp)
  have := List.pairwise_mergeSort (le := fun x y : Int => decide (x ≤ y)) (fun a b c h1 h2 => by simp at *; omega) (fun a b => by simp; omega) ss
  exact this.imp (fun h => by simpa using h)

theorem reps_ints (w : World) (base : Nat) (ok : Nat → Prop) (l : List Int) : Reps ((Kd.int .i64).M w base ok) 1 l (l.map (Value.int .i64)) := by
  refine ⟨by simp, fun j p hj => ?_⟩
  obtain ⟨hjl, hp⟩ := List.getElem?_eq_some_iff.1 hj
  show ((l.map (Value.int .i64)).drop (j * 1)).take 1 = [Value.int .i64 p]
  rw [Nat.mul_one, List.drop_eq_getElem_cons (by simpa using hjl)]
  simp [hp]

theorem active_tells {p b n : Nat} {next : Int} {act : List Int} (w : World) (h : Clk w p b n next act) (hn : n ≤ 1000) (hr : Rising act) :
    Calls Try.prog 13 #[.pointer (some ⟨p, 0, none⟩)] w fun e w' => ∃ A c, e = .returned (.slice A act.length c) ∧ act.length ≤ c ∧ Kd.C (Kd.int .i64) w' A act.length act ∧ Below w.heap.size w w' := by
  refine (active_calls w h hn).mono ?_
  rintro e w' ⟨v, ss, rfl, hp, hrow, _, hb⟩
  rw [keys_D] at hp
  rw [sorted_is hr hp, hp.length_eq] at hrow
  have hR : Kd.R (Kd.int .i64) 2 w' w.heap.size (fun _ => True) v act := ⟨fun _ _ => trivial, act.map (Value.int .i64), hrow, reps_ints _ _ _ _⟩
  obtain ⟨A, c, rfl⟩ := Kd.R_slice hR
  obtain ⟨_, hc, hC⟩ := Kd.R_reads' hR
  exact ⟨A, c, rfl, hc, hC, hb⟩

theorem il_at {w : World} {A : Option Addr} {n : Nat} {xs : List Int} (h : Kd.C (Kd.int .i64) w A n xs) (i : Int) (h0 : 0 ≤ i) (h1 : i < n) : ∃ ad, A = some ad ∧ w.cell? (ad.add i.toNat) = some (.int .i64 (xs.getD i.toNat 0)) := by
  obtain ⟨ad, c, e, _, hK, hc0⟩ := Kd.C_get h 0 i h0 h1
  have hc : ∀ j u, c[j]? = some u → w.cell? (ad.add (i.toNat * 1 + j)) = some u := hc0
  obtain rfl : c = [.int .i64 (xs.getD i.toNat 0)] := hK
  refine ⟨ad, e, ?_⟩
  have hq := hc 0 _ rfl
  rwa [Nat.mul_one, Nat.add_zero] at hq

/-- The least one that is active, or the next one. -/
def least (next : Int) (act : List Int) : Int := match act with | [] => next | a :: _ => a

theorem min_tells {p b n : Nat} {next : Int} {act : List Int} (w : World) (h : Clk w p b n next act) (hn : n ≤ 1000) (hr : Rising act) :
    Calls Try.prog 14 #[.pointer (some ⟨p, 0, none⟩)] w fun e w' => e = .returned (.int .i64 (least next act)) ∧ Below w.heap.size w w' := by
  have HK := Aside0.mk h
  clear h
  cases act with
  | nil =>
    go_enter Try.func14, Try.ntmps14
    go_wp2_with fail
    refine (active_tells w HK.out hn hr).mono ?_
    rintro e w1 ⟨A, c, rfl, _, _, hb⟩
    have HB := Aside0.mk hb
    have HK1 := Aside0.mk (HK.out.below hb)
    clear hb
    go_wp2_with fail
    refine (next_calls _ HK1.out).mono ?_
    rintro e w2 ⟨rfl, rfl⟩
    go_wp2
    go_ret
    exact ⟨rfl, HB.out⟩
  | cons a r =>
    go_enter Try.func14, Try.ntmps14
    go_wp2_with fail
    refine (active_tells w HK.out hn hr).mono ?_
    rintro e w1 ⟨A, c, rfl, _, hC, hb⟩
    have HB := Aside0.mk hb
    obtain ⟨ad, rfl, hx⟩ := il_at hC 0 (by omega) (by simp)
    have hx0 : w1.cell? ad = some (.int .i64 a) := by simpa [Addr.add] using hx
    have hlen : (0 : Int) < ((a :: r).length : Int) := by simp
    clear hb hC hx
    go_wp2
    go_ret
    exact ⟨rfl, HB.out⟩

theorem issue_nil (w : World) : Calls Try.prog 11 #[.pointer none] w fun e w' => e = .returned (.tuple #[.int .i64 0, .int .i64 1]) ∧ w' = w := by
  go_enter Try.func11, Try.ntmps11
  go_wp2
  refine bodyPost_ret (results_tmp2 rfl _ _ _) rfl ?_
  exact ⟨rfl, rfl⟩
theorem done_nil (x : Int) (w : World) : Calls Try.prog 12 #[.pointer none, .int .i64 x] w fun e w' => e = .returned (.bool false) ∧ w' = w := by
  go_enter Try.func12, Try.ntmps12
  go_wp2
  go_ret
  exact ⟨rfl, rfl⟩
theorem raise_nil (x : Int) (w : World) : Calls Try.prog 19 #[.pointer none, .int .i64 x] w fun e w' => e = .returned (.tuple #[]) ∧ w' = w := by
  go_enter Try.func19, Try.ntmps19
  go_wp2
  go_end0
  exact ⟨rfl, rfl⟩
theorem next_nil (w : World) : Calls Try.prog 15 #[.pointer none] w fun e w' => e = .returned (.int .i64 0) ∧ w' = w := by
  go_enter Try.func15, Try.ntmps15
  go_wp2
  go_ret
  exact ⟨rfl, rfl⟩
theorem active_nil (w : World) : Calls Try.prog 13 #[.pointer none] w fun e w' => e = .returned (.slice none 0 0) ∧ w' = w := by
  go_enter Try.func13, Try.ntmps13
  go_wp2
  go_ret
  exact ⟨rfl, rfl⟩
theorem min_nil (w : World) : Calls Try.prog 14 #[.pointer none] w fun e w' => e = .returned (.int .i64 0) ∧ w' = w := by
  go_enter Try.func14, Try.ntmps14
  go_wp2_with fail
  refine (active_nil w).mono ?_
  rintro e w1 ⟨rfl, rfl⟩
  go_wp2_with fail
  refine (next_nil _).mono ?_
  rintro e w2 ⟨rfl, rfl⟩
  go_wp2
  go_ret
  exact ⟨rfl, rfl⟩
end Go.Proofs.Ytoejaknfoniphaa
