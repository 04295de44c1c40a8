/- What the document's functions of layer 9 tell, in plain lists. -/
import Derived.Test.YtoejaknfoniphaaRis
import Derived.Test.YtoejaknfoniphaaDoc
namespace Go.Proofs.Ytoejaknfoniphaa
open Go.RowKit Go.Maps T Go.Proofs.YtoejaknfoniphaaW.PrintWords Go.Proofs.YtoejaknfoniphaaW.PrintLast Go.Proofs.YtoejaknfoniphaaW.PrintMore
attribute [local go_sem] max2_int min2_int max_two min_two max_three min_three max_four min_four
set_option linter.unusedVariables false
/-- The document's clock lies in a box: its next timestamp, its row. -/
structure Doc (w0 w : World) (p b xb : Nat) (next : Int) (v : Value) (act : List Int) : Prop where
  box : w.heap[xb]? = some (.cells #[.int .i64 next, v] 37 (0, 0))
  row : Kd.R (Kd.int .i64) 2 w w0.heap.size (fun k => k ≠ p ∧ k ≠ b ∧ k ≠ xb) v act
  hp : xb ≠ p
  hb : xb ≠ b
  base : w0.heap.size ≤ xb
theorem Doc.moved {w0 w w' : World} {p b xb : Nat} {next : Int} {v : Value} {act : List Int} (h : Doc w0 w p b xb next v act) (hm : Moved w w' p b) : Doc w0 w' p b xb next v act :=
  ⟨(hm.block xb (blk_lt h.box) h.hp h.hb).trans h.box, Kd.R_step h.row (fun k hk hlt => hm.block k hlt hk.1 hk.2.1), h.hp, h.hb, h.base⟩
theorem Doc.go {w0 w w' : World} {p b xb : Nat} {next : Int} {v : Value} {act : List Int} (h : Doc w0 w p b xb next v act) (hb : Below w.heap.size w w') : Doc w0 w' p b xb next v act :=
  ⟨blk_below h.box hb, Kd.R_below h.row hb, h.hp, h.hb, h.base⟩

/-! What the document's functions tell. -/
theorem doc_issue_over {next : Int} {act : List Int} (h : next > 1099511627776) : ogiveref09_Issue.f next act = some (next, act, 0, 10) := if_pos h
theorem doc_issue {next : Int} {act : List Int} (h : next ≤ 1099511627776) (h0 : 0 ≤ next) (hl : act.length ≤ 1000) : ogiveref09_Issue.f next act = some (next + 1, act ++ [next], next, 0) := by
  unfold ogiveref09_Issue.f
  rw [if_neg (by omega)]
  simp only [Option.bind_some, List.length_nil, List.nil_append, Nat.zero_add]
  rw [if_pos (by omega), if_pos (by omega), show wrap64 (next + 1) = next + 1 by unfold wrap64; omega]
theorem doc_raise (next x : Int) (act : List Int) : ogiveref09_Raise.f next act x = some (raised next x, act) := by
  unfold ogiveref09_Raise.f raised
  by_cases h1 : x > next
  · by_cases h2 : x ≤ 1099511627777
    · rw [if_pos h1, if_pos h2, if_pos ⟨h1, h2⟩]
    · rw [if_pos h1, if_neg h2, if_neg (fun h => h2 h.2)]
  · rw [if_neg h1, if_neg (fun h => h1 h.1)]
theorem doc_min (next : Int) (act : List Int) : ogiveref09_Min.f next act = some (least next act) := by
  unfold ogiveref09_Min.f
  cases act with
  | nil => rfl
  | cons a r => rw [if_pos (by simp), if_pos (by simp)]; rfl
theorem doc_may (x : Int) : ogiveref09_May.f x = some (decide (1 ≤ x ∧ x ≤ 1099511627777)) := by
  unfold ogiveref09_May.f
  by_cases h : x ≥ 1
  · rw [if_pos h]
    congr 1
    by_cases h2 : x ≤ 1099511627777
    · rw [decide_eq_true h2, decide_eq_true ⟨h, h2⟩]
    · rw [decide_eq_false h2, decide_eq_false (fun h => h2 h.2)]
  · rw [if_neg h, decide_eq_false (fun h2 => h h2.1)]

theorem rd_get (l : List Int) (i : Nat) (h : i < l.length) : rd l (i : Int) = l[i] := by
  unfold rd
  rw [Int.toNat_natCast, List.getD_eq_getElem?_getD, List.getElem?_eq_getElem h, Option.getD_some]

theorem same_l0 (l : List Int) (hl : l.length ≤ 1000) : ∀ (k : Nat) (i : Nat), i ≤ l.length → l.length - i < k → ogiveref09_Same.l0 k l l (i : Int) = some true
  | 0, i, _, h => by omega
  | k + 1, i, hi, h => by
    unfold ogiveref09_Same.l0
    by_cases hlt : i < l.length
    · rw [if_pos (by omega), if_pos (by omega), if_pos (by omega), if_pos rfl, show wrap64 ((i : Int) + 1) = ((i + 1 : Nat) : Int) by unfold wrap64; omega]
      exact same_l0 l hl k (i + 1) hlt (by omega)
    · rw [if_neg (by omega)]
theorem same_tells (l : List Int) (hl : l.length ≤ 1000) (k : Nat) (hk : l.length < k) : ogiveref09_Same.f k l l = some true := by
  unfold ogiveref09_Same.f
  rw [if_pos rfl]
  exact same_l0 l hl k 0 (Nat.zero_le _) (by omega)

theorem done_l0 (next ts : Int) (l : List Int) (hl : l.length ≤ 1000) : ∀ (k : Nat) (i : Nat) (out : List Int) (is : Bool), i ≤ l.length → l.length - i < k → out.length ≤ i → ogiveref09_Done.l0 k ts out is (i : Int) next l = some (next, out ++ (l.drop i).filter (fun t => t ≠ ts), is || decide (ts ∈ l.drop i))
  | 0, i, _, _, _, h, _ => by omega
  | k + 1, i, out, is, hi, h, ho => by
    unfold ogiveref09_Done.l0
    by_cases hlt : i < l.length
    · rw [if_pos (by omega), if_pos (by omega), show wrap64 ((i : Int) + 1) = ((i + 1 : Nat) : Int) by unfold wrap64; omega, rd_get l i hlt, List.drop_eq_getElem_cons hlt]
      by_cases he : l[i] = ts
      · rw [if_pos he, done_l0 next ts l hl k (i + 1) _ _ hlt (by omega) (by omega), List.filter_cons_of_neg (by simpa using he)]
        simp [he]
      · rw [if_neg he, if_pos (by omega), done_l0 next ts l hl k (i + 1) _ _ hlt (by omega) (by rw [List.length_append]; simp; omega), List.filter_cons_of_pos (by simpa using he)]
        have hne : ¬ ts = l[i] := fun e => he e.symm
        generalize l.drop (i + 1) = r
        simp [hne]
    · rw [if_neg (by omega), List.drop_eq_nil_of_le (by omega)]
      simp
theorem doc_done (next ts : Int) (l : List Int) (hl : l.length ≤ 1000) (k : Nat) (hk : l.length < k) : ogiveref09_Done.f k next l ts = some (next, l.filter (fun t => t ≠ ts), decide (ts ∈ l)) := by
  unfold ogiveref09_Done.f
  have := done_l0 next ts l hl k 0 [] false (Nat.zero_le _) (by omega) (Nat.le_refl _)
  simpa using this
end Go.Proofs.Ytoejaknfoniphaa
