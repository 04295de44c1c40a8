/- The clock of layer 9: its state, and what New, Next, Raise, Issue and Done do to it. -/
import Derived.WalkSpells
import Derived.Maps.OwnSet
import Derived.Maps.OwnOps
import Derived.RegionTactic
import Derived.ChangeAlike
import Derived.Test.YtoejaknfoniphaaTx0
namespace Go.Proofs.Ytoejaknfoniphaa
open Go.RowKit Go.Maps Go.Proofs.YtoejaknfoniphaaW.PrintWords Go.Proofs.YtoejaknfoniphaaW.PrintLast Go.Proofs.YtoejaknfoniphaaW.PrintMore
set_option linter.unusedVariables false

structure HoldC (p : Prop) : Prop where
  out : p

/-- A set of timestamps, as the map's datum. -/
def D (l : List Int) : DataW Unit := .map (l.map fun t => (Lit.int .i64 t, .lit (.bool true)))

theorem D_filter (l : List Int) (ts : Int) : (l.map fun t => ((Lit.int .i64 t, .lit (.bool true)) : Lit × DataW Unit)).filter (fun p => !p.1.sameKey (.int .i64 ts)) = (l.filter (fun t => t ≠ ts)).map fun t => (Lit.int .i64 t, .lit (.bool true)) := by
  rw [List.filter_map]
  congr 1
  refine List.filter_congr fun t _ => ?_
  simp [Lit.sameKey]

theorem D_del (l : List Int) (ts : Int) : (D l).del (.int .i64 ts) = D (l.filter (fun t => t ≠ ts)) := by
  unfold D DataW.del
  simp only [D_filter]

theorem D_insert (l : List Int) (ts : Int) (h : ∀ t ∈ l, t < ts) : DataW.insert ((Lit.int .i64 ts, .lit (.bool true)) : Lit × DataW Unit) (l.map fun t => (Lit.int .i64 t, .lit (.bool true))) = (l ++ [ts]).map fun t => (Lit.int .i64 t, .lit (.bool true)) := by
  induction l with
  | nil => rfl
  | cons a r ih =>
    have ha := h a List.mem_cons_self
    simp only [List.map_cons, DataW.insert, List.cons_append]
    rw [if_neg (by simp [Lit.before]; omega), ih (fun t ht => h t (List.mem_cons_of_mem _ ht))]

theorem D_put (l : List Int) (ts : Int) (h : ∀ t ∈ l, t < ts) : (D l).put (.int .i64 ts) (.lit (.bool true)) = D (l ++ [ts]) := by
  unfold D DataW.put
  simp only [D_filter]
  rw [List.filter_eq_self.2 (fun t ht => by have := h t ht; simp; omega), D_insert l ts h]

theorem D_at (l : List Int) (ts : Int) : (D l).atKey (.int .i64 ts) (.lit (.bool false)) = .lit (.bool (decide (ts ∈ l))) := by
  unfold D DataW.atKey
  simp only
  induction l with
  | nil => rfl
  | cons a r ih =>
    simp only [List.map_cons, List.find?_cons]
    by_cases h : a = ts
    · subst h
      simp [Lit.sameKey]
    · have h1 : ((Lit.int .i64 a).sameKey (.int .i64 ts)) = false := by simp [Lit.sameKey, h]
      rw [h1]
      simp only
      rw [ih]
      have h2 : ¬ ts = a := fun e => h e.symm
      simp [h2]

theorem D_size (l : List Int) : Maps.size (D l) = l.length := by simp [D, Maps.size]

theorem plain_bool_inv {e : TypeId} (he : Try.prog.underlying e = some .bool) {v : Value} {z : DataW Unit × List MemPlace} (h : plainElem Try.prog e v = some z) : ∃ a, v = .bool a ∧ z = (.lit (.bool a), []) := by
  unfold plainElem at h
  rw [he] at h
  cases v <;> simp at h
  subst h
  exact ⟨_, rfl, rfl⟩

theorem zero4 (w : World) : (zeroValue 4).run Try.prog w = .ok (.bool false) w := by kernel_rfl

/-- The clock at block p, its map at block b: the next timestamp, those that are active; n bounds the map. -/
structure Clk (w : World) (p b n : Nat) (next : Int) (act : List Int) : Prop where
  box : w.heap[p]? = some (.cells #[.int .i64 next, .map (some b)] 54 (0, 0))
  own : w.ownsMap Try.prog 2 (plainElem (H := Unit) Try.prog 4) b n (D act)

theorem Clk.kept {w w' : World} {p b n : Nat} {next : Int} {act : List Int} (h : Clk w p b n next act) {row : Option Nat} (hg : w.grownBy w' row) (hp : some p ≠ row) (hb : some b ≠ row) : Clk w' p b n next act :=
  ⟨blk_grown h.box hg hp, h.own.kept hg hb⟩
theorem Clk.below {w w' : World} {p b n : Nat} {next : Int} {act : List Int} (h : Clk w p b n next act) (hb : Below w.heap.size w w') : Clk w' p b n next act :=
  h.kept (row := none) ⟨hb.os, hb.tape, hb.output, hb.size, fun k hk _ => hb.block k hk⟩ (by simp) (by simp)
theorem Clk.ne {w : World} {p b n : Nat} {next : Int} {act : List Int} (h : Clk w p b n next act) : p ≠ b := by
  rintro rfl
  obtain ⟨es, clock, hb, _⟩ := h.own
  have := h.box.symm.trans hb
  cases this

theorem Clk.cells {w : World} {p b n : Nat} {next : Int} {act : List Int} (h : Clk w p b n next act) : w.cell? ⟨p, 0, none⟩ = some (.int .i64 next) ∧ w.cell? ⟨p, 1, none⟩ = some (.map (some b)) ∧ w.frozen? ⟨p, 0, none⟩ = false :=
  ⟨blk_cell h.box 0, blk_cell h.box 1, blk_frozen h.box 0⟩

theorem next_calls {p b n : Nat} {next : Int} {act : List Int} (w : World) (h : Clk w p b n next act) : Calls Try.prog 15 #[.pointer (some ⟨p, 0, none⟩)] w fun e w' => e = .returned (.int .i64 next) ∧ w' = w := by
  obtain ⟨h0, h1, _⟩ := h.cells
  go_enter Try.func15, Try.ntmps15
  go_wp2
  go_ret
  exact ⟨rfl, rfl⟩

theorem grown_set (w : World) (p j : Nat) (u : Value) : w.grownBy (w.setCell ⟨p, j, none⟩ u) (some p) :=
  ⟨rfl, rfl, rfl, by simp, fun k _ hk => Below.heap_setCell w ⟨p, j, none⟩ u k (fun e => hk (by rw [e]))⟩

/-- The next timestamp behind a Raise. -/
def raised (next x : Int) : Int := if x > next ∧ x ≤ 1099511627777 then x else next

theorem raise_calls {p b n : Nat} {next : Int} {act : List Int} (x : Int) (w : World) (h : Clk w p b n next act) : Calls Try.prog 19 #[.pointer (some ⟨p, 0, none⟩), .int .i64 x] w fun e w' => e = .returned (.tuple #[]) ∧ Clk w' p b n (raised next x) act ∧ w.grownBy w' (some p) := by
  obtain ⟨h0, h1, hf⟩ := h.cells
  have hne := h.ne
  have HK := Aside0.mk h
  clear h
  by_cases c1 : x > next
  · have d1 : decide (x > next) = true := decide_eq_true c1
    by_cases c2 : x ≤ 1099511627777
    · have d2 : decide (x ≤ 1099511627777) = true := decide_eq_true c2
      have hr : raised next x = x := if_pos ⟨c1, c2⟩
      have HR := Aside0.mk hr
      clear hr
      go_enter Try.func19, Try.ntmps19
      go_wp2
      go_end0
      exact ⟨rfl, by rw [HR.out]; exact ⟨blk_set HK.out.box 0 _, HK.out.own.setCell (fun e => hne e.symm) _⟩, grown_set _ _ _ _⟩
    · have d2 : decide (x ≤ 1099511627777) = false := decide_eq_false c2
      have HR := Aside0.mk (show raised next x = next from if_neg (fun h => c2 h.2))
      go_enter Try.func19, Try.ntmps19
      go_wp2
      go_end0
      exact ⟨rfl, by rw [HR.out]; exact HK.out, World.grownBy.refl _ _⟩
  · have d1 : decide (x > next) = false := decide_eq_false c1
    have HR := Aside0.mk (show raised next x = next from if_neg (fun h => c1 h.1))
    go_enter Try.func19, Try.ntmps19
    go_wp2
    go_end0
    exact ⟨rfl, by rw [HR.out]; exact HK.out, World.grownBy.refl _ _⟩

theorem new_none (x : Int) (h : ¬ (1 ≤ x ∧ x ≤ 1099511627777)) (w : World) : Calls Try.prog 10 #[.int .i64 x] w fun e w' => e = .returned (.pointer none) ∧ w' = w := by
  by_cases c1 : x < 1
  · have d1 : decide (x < 1) = true := decide_eq_true c1
    go_enter Try.func10, Try.ntmps10
    go_wp2
    go_ret
    exact ⟨rfl, rfl⟩
  · have d1 : decide (x < 1) = false := decide_eq_false c1
    have d2 : decide (x > 1099511627777) = true := decide_eq_true (by omega)
    clear h
    go_enter Try.func10, Try.ntmps10
    go_wp2
    go_ret
    exact ⟨rfl, rfl⟩

theorem new_some (x : Int) (h1 : 1 ≤ x) (h2 : x ≤ 1099511627777) (w : World) : Calls Try.prog 10 #[.int .i64 x] w fun e w' => e = .returned (.pointer (some ⟨w.heap.size + 1, 0, none⟩)) ∧ Clk w' (w.heap.size + 1) w.heap.size 0 x [] ∧ Below w.heap.size w w' := by
  have hmm := @run_makeMap Try.prog
  have d1 : decide (x < 1) = false := decide_eq_false (by omega)
  have d2 : decide (x > 1099511627777) = false := decide_eq_false (by omega)
  clear h1 h2
  go_enter Try.func10, Try.ntmps10
  go_wp2
  go_ret
  exact ⟨rfl, ⟨heap_alloc2_new _ _ _, (World.ownsMap_made w _ _ _).alloc _⟩, ((Below.refl _ w).alloc (Nat.le_refl _) _).alloc (by simp) _⟩

/-- At most the clock's two blocks have turned. -/
structure Moved (w w' : World) (p b : Nat) : Prop where
  os : w'.os = w.os
  tape : w'.tape = w.tape
  output : w'.output = w.output
  size : w.heap.size ≤ w'.heap.size
  block : ∀ k, k < w.heap.size → k ≠ p → k ≠ b → w'.heap[k]? = w.heap[k]?
theorem Moved.refl (w : World) (p b : Nat) : Moved w w p b := ⟨rfl, rfl, rfl, Nat.le_refl _, fun _ _ _ _ => rfl⟩
theorem Moved.trans {w w1 w2 : World} {p b : Nat} (h : Moved w w1 p b) (h' : Moved w1 w2 p b) : Moved w w2 p b :=
  ⟨h'.os.trans h.os, h'.tape.trans h.tape, h'.output.trans h.output, Nat.le_trans h.size h'.size, fun k hk hp hb => (h'.block k (Nat.lt_of_lt_of_le hk h.size) hp hb).trans (h.block k hk hp hb)⟩
theorem Moved.of_p {w w' : World} {p b : Nat} (h : w.grownBy w' (some p)) : Moved w w' p b := ⟨h.os, h.tape, h.output, h.size, fun k hk hp _ => h.block k hk (fun e => hp (by injection e))⟩
theorem Moved.of_b {w w' : World} {p b : Nat} (h : w.grownBy w' (some b)) : Moved w w' p b := ⟨h.os, h.tape, h.output, h.size, fun k hk _ hb => h.block k hk (fun e => hb (by injection e))⟩
theorem Moved.below {B : Nat} {w0 w w' : World} {p b : Nat} (h : Moved w w' p b) (h0 : Below B w0 w) (hB : B ≤ w.heap.size) (hp : B ≤ p) (hb : B ≤ b) : Below B w0 w' :=
  h0.trans ⟨h.os, h.tape, h.output, h.size, fun k hk => h.block k (by omega) (by omega) (by omega)⟩

theorem law2 : Keyed Try.prog 2 := int_keyed Try.underlying2

theorem issue_over {p b n : Nat} {next : Int} {act : List Int} (w : World) (h : Clk w p b n next act) (ho : next > 1099511627776) : Calls Try.prog 11 #[.pointer (some ⟨p, 0, none⟩)] w fun e w' => e = .returned (.tuple #[.int .i64 0, .int .i64 10]) ∧ w' = w := by
  obtain ⟨h0, h1, hf⟩ := h.cells
  have d1 : decide (next > 1099511627776) = true := decide_eq_true ho
  clear h ho
  go_enter Try.func11, Try.ntmps11
  go_wp2
  refine bodyPost_ret (results_tmp2 rfl _ _ _) rfl ?_
  exact ⟨rfl, rfl⟩

theorem issue_calls {p b n : Nat} {next : Int} {act : List Int} (w : World) (h : Clk w p b n next act) (ho : next ≤ 1099511627776) (h0 : 0 ≤ next) (hlt : ∀ t ∈ act, t < next) (hn : n < 1000) :
    Calls Try.prog 11 #[.pointer (some ⟨p, 0, none⟩)] w fun e w' => e = .returned (.tuple #[.int .i64 next, .int .i64 0]) ∧ Clk w' p b (n + 1) (next + 1) (act ++ [next]) ∧ Moved w w' p b := by
  obtain ⟨z0, z1, zf⟩ := h.cells
  have hne := h.ne
  have d1 : decide (next > 1099511627776) = false := decide_eq_false (by omega)
  have hkey : keyOf Try.prog 2 (.int .i64 next) = some (.int .i64 next) := keyOf_int_mk Try.underlying2 (WalkArith.wf_i64 (by omega))
  have hput := D_put act next hlt
  have e1 : wrap64 (next + 1) = next + 1 := by unfold wrap64; omega
  have HK := Aside0.mk h
  have HP := Aside0.mk hput
  have HL := Aside0.mk hlt
  clear h ho hput hlt
  go_enter Try.func11, Try.ntmps11
  go_wp2_with (at_mapUpdate; refine HoldC.out ?_)
  constructor
  refine wpList_mapUpdate_own _ rfl _ _ _ 52 rfl 2 4 law2 Try.underlying52 _ b n (D act) rfl HK.out.own (by unfold maxLen; omega) _ _ _ rfl rfl hkey (.lit (.bool true)) [] (plainElem_bool Try.underlying4 true) ?_
  intro w1 hown1 hg1
  rw [HP.out] at hown1
  have hb1 := blk_grown HK.out.box hg1 (by simpa using hne)
  have HB1 := Aside0.mk hb1
  have HO1 := Aside0.mk hown1
  have HG1 := Aside0.mk hg1
  clear z0 z1 zf hown1 hg1
  have z0 := blk_cell hb1 0
  have z1 := blk_cell hb1 1
  have zf := blk_frozen hb1 0
  simp only [List.getElem?_toArray, List.getElem?_cons_zero, List.getElem?_cons_succ] at z0 z1
  clear hb1
  go_wp2
  refine bodyPost_ret (results_tmp2 rfl _ _ _) rfl ?_
  exact ⟨rfl, ⟨blk_set HB1.out 0 _, HO1.out.setCell (fun e => hne e.symm) _⟩, (Moved.of_b HG1.out).trans (Moved.of_p (grown_set _ _ _ _))⟩

theorem done_calls {p b n : Nat} {next : Int} {act : List Int} (ts : Int) (hw : (Lit.int .i64 ts).wf = true) (w : World) (h : Clk w p b n next act) :
    Calls Try.prog 12 #[.pointer (some ⟨p, 0, none⟩), .int .i64 ts] w fun e w' => e = .returned (.bool (decide (ts ∈ act))) ∧ Clk w' p b n next (act.filter (fun t => t ≠ ts)) ∧ Moved w w' p b := by
  obtain ⟨z0, z1, zf⟩ := h.cells
  have hne := h.ne
  have hkey : keyOf Try.prog 2 (.int .i64 ts) = some (.int .i64 ts) := keyOf_int_mk Try.underlying2 hw
  obtain ⟨v, ps, hrun, hv⟩ := h.own.lookup law2 Try.underlying52 (zero4 w) (plainElem_bool Try.underlying4 false) hkey
  rw [D_at] at hv
  obtain ⟨a, rfl, ha⟩ := plain_bool_inv Try.underlying4 hv
  obtain rfl : decide (ts ∈ act) = a := by simpa using congrArg Prod.fst ha
  have HK := Aside0.mk h
  clear h hv ha
  by_cases hin : ts ∈ act
  · have hd : decide (ts ∈ act) = true := decide_eq_true hin
    rw [hd] at hrun ⊢
    clear hd
    go_enter Try.func12, Try.ntmps12
    go_wp2_with (at_delete; refine HoldC.out ?_)
    constructor
    refine wpList_delete_own _ rfl _ _ 52 2 rfl 4 law2 Try.underlying52 _ b n (D act) rfl HK.out.own _ _ rfl hkey ?_
    intro w1 hown1 ht1
    rw [D_del] at hown1
    have HG1 := Aside0.mk ht1.grown
    have HO1 := Aside0.mk hown1
    clear hown1 ht1
    go_wp2
    go_ret
    exact ⟨rfl, ⟨blk_grown HK.out.box HG1.out (by simpa using hne), HO1.out⟩, Moved.of_b HG1.out⟩
  · have hd : decide (ts ∈ act) = false := decide_eq_false hin
    rw [hd] at hrun ⊢
    clear hd
    have hf : act.filter (fun t => t ≠ ts) = act := List.filter_eq_self.2 (fun t ht => by
      have : t ≠ ts := fun e => hin (e ▸ ht)
      simpa using this)
    rw [hf]
    clear hf
    go_enter Try.func12, Try.ntmps12
    go_wp2
    go_ret
    exact ⟨rfl, HK.out, Moved.refl _ _ _⟩
end Go.Proofs.Ytoejaknfoniphaa
