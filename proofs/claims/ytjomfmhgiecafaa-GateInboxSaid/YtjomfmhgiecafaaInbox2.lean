/- The inbox of layer 18, continued: NewInbox, Len, and the inbox of strings that is nil. -/
import Derived.Test.YtjomfmhgiecafaaInbox
import Derived.WalkKit
import Derived.WalkSpells
import Derived.WalkLawsBesides
namespace Go.Proofs.Ytjomfmhgiecafaa
open Go.Conc Go.RowKit

theorem bytes3 : ∃ i, Try.prog.info? 3 = some i ∧ i.bytes = 8 := by
  have h : (Try.prog.info? 3).map (·.bytes) = some 8 := by kernel_rfl
  obtain ⟨i, hi, hb⟩ := Option.map_eq_some_iff.1 h
  exact ⟨i, hi, hb⟩

theorem len_chan (b c cap s r : Nat) (buf : Array Value) (w : World) (hb : w.cell? ⟨b, 0, none⟩ = some (.chan (some c))) (hc : w.heap[c]? = some (.chan cap buf false s r false)) :
    Calls Try.prog 16 #[.pointer (some ⟨b, 0, none⟩)] w fun e w' => e = .returned (.int .i64 buf.size) ∧ w' = w := by
  have hlen := fun ty => run_len_chan (P := Try.prog) 50 ty Try.underlying50 hc
  go_enter Try.func16, Try.ntmps16
  go_wp2
  go_ret
  exact ⟨rfl, rfl⟩

theorem take_nil (w : World) : Calls Try.prog 17 #[.pointer none] w fun e w' => e = .returned (.tuple #[.string ⟨#[]⟩, .bool false]) ∧ w' = w := by
  go_enter Try.func17, Try.ntmps17
  go_wp2
  go_ret2
  exact ⟨rfl, rfl⟩

theorem put_nil (s : ByteArray) (w : World) : Calls Try.prog 18 #[.pointer none, .string s] w fun e w' => e = .returned (.bool false) ∧ w' = w := by
  go_enter Try.func18, Try.ntmps18
  go_wp2
  go_ret
  exact ⟨rfl, rfl⟩

theorem len_nil (w : World) : Calls Try.prog 19 #[.pointer none] w fun e w' => e = .returned (.int .i64 0) ∧ w' = w := by
  go_enter Try.func19, Try.ntmps19
  go_wp2
  go_ret
  exact ⟨rfl, rfl⟩

/-- How many an inbox has room for. -/
def roomOf (x : Int) : Nat := if x ≤ 1 then 1 else if x ≥ 64 then 64 else x.toNat
theorem roomOf_bd (x : Int) : 1 ≤ roomOf x ∧ roomOf x ≤ 64 := by unfold roomOf; constructor <;> (repeat' split) <;> omega

theorem make_chan (y : Int) (n : Nat) (h : y = (n : Int)) (hn : n ≤ 64) (w : World) : (Instr.makeChan 50 (.int .i64 y)).run Try.prog w = .ok (.chan (some w.heap.size)) (w.alloc (.chan n #[] false 0 0 false)) := by
  subst h
  obtain ⟨i, hi, hbb⟩ := bytes3
  exact run_makeChan (P := Try.prog) (w := w) Try.underlying50 hi .i64 n (by omega) (by rw [hbb]; omega)

theorem new_inbox (x : Int) (w : World) : Calls Try.prog 12 #[.int .i64 x] w fun e w' => e = .returned (.pointer (some ⟨w.heap.size + 1, 0, none⟩)) ∧ w' = (w.alloc (.chan (roomOf x) #[] false 0 0 false)).alloc (.cells #[.chan (some w.heap.size)] 52) := by
  by_cases h1 : x ≤ 1
  · have e : roomOf x = 1 := by unfold roomOf; rw [if_pos h1]
    rw [e]
    have hmc := make_chan 1 1 rfl (by omega)
    by_cases h3 : x = 1
    · subst h3
      go_enter Try.func12, Try.ntmps12
      go_wp2
      all_goals
        go_ret
        exact ⟨rfl, rfl⟩
    · have h4 : x < 1 := by omega
      clear h3 h1
      go_enter Try.func12, Try.ntmps12
      go_wp2
      all_goals
        go_ret
        exact ⟨rfl, rfl⟩
  · by_cases h2 : x ≥ 64
    · have e : roomOf x = 64 := by unfold roomOf; rw [if_neg h1, if_pos h2]
      rw [e]
      have hmc := make_chan 64 64 rfl (by omega)
      by_cases h3 : x = 64
      · subst h3
        go_enter Try.func12, Try.ntmps12
        go_wp2
        all_goals
          go_ret
          exact ⟨rfl, rfl⟩
      · have h4 : 64 < x := by omega
        clear h3 h2 h1
        go_enter Try.func12, Try.ntmps12
        go_wp2
        all_goals
          go_ret
          exact ⟨rfl, rfl⟩
    · have e : roomOf x = x.toNat := by unfold roomOf; rw [if_neg h1, if_neg h2]
      rw [e]
      have hmc := make_chan x x.toNat (by omega) (by omega)
      have h3 : 1 < x := by omega
      have h4 : x < 64 := by omega
      clear h1 h2
      go_enter Try.func12, Try.ntmps12
      go_wp2
      all_goals
        go_ret
        exact ⟨rfl, rfl⟩
end Go.Proofs.Ytjomfmhgiecafaa
