/- The inbox of layer 18 as a row of numbers: what Put, Take, Len and NewInbox do to it. -/
import Derived.Test.YtjomfmhgiecafaaInbox2
namespace Go.Proofs.Ytjomfmhgiecafaa
open Go.Conc Go.RowKit

/-- The box at block b, whose channel is block c, holds xs. -/
def Box (w : World) (b c cap : Nat) (xs : List Int) : Prop :=
  b ≠ c ∧ w.cell? ⟨b, 0, none⟩ = some (.chan (some c)) ∧ ∃ s r, w.heap[c]? = some (.chan cap (xs.map (Value.int .i64)).toArray false s r false)

theorem Box.lt {w : World} {b c cap : Nat} {xs : List Int} (h : Box w b c cap xs) : b < w.heap.size ∧ c < w.heap.size := by
  obtain ⟨_, h2, s, r, h3⟩ := h
  exact ⟨World.block_lt_of_cell? w _ h2, (Array.getElem?_eq_some_iff.1 h3).1⟩

theorem Box.kept {w w' : World} {b c cap : Nat} {xs : List Int} (h : Box w b c cap xs) {row : Option Nat} (hg : w.grownBy w' row) (hb : row ≠ some b) (hc : row ≠ some c) : Box w' b c cap xs := by
  have hl := h.lt
  obtain ⟨h1, h2, s, r, h3⟩ := h
  exact ⟨h1, hg.cell h2 (fun e => hb e.symm), s, r, (hg.block c hl.2 (fun e => hc e.symm)).trans h3⟩

theorem Box.below {w w' : World} {b c cap : Nat} {xs : List Int} (h : Box w b c cap xs) (hb : Below w.heap.size w w') : Box w' b c cap xs :=
  h.kept (row := none) ⟨hb.os, hb.tape, hb.output, hb.size, fun k hk _ => hb.block k hk⟩ (by simp) (by simp)

theorem grown_setChan (w : World) (c cap : Nat) (buf : Array Value) (cl : Bool) (s r : Nat) (tm : Bool) : w.grownBy (w.setChan c cap buf cl s r tm) (some c) :=
  ⟨rfl, rfl, rfl, by simp [World.setChan], fun k _ hk => by
    simp only [World.setChan]; rw [Array.getElem?_setIfInBounds_ne (fun e => hk (by rw [e]))]⟩

theorem Box.set {w : World} {b c cap : Nat} {xs : List Int} (h : Box w b c cap xs) (ys : List Int) (s r : Nat) : Box (w.setChan c cap (ys.map (Value.int .i64)).toArray false s r false) b c cap ys := by
  have hl := h.lt
  obtain ⟨h1, h2, s0, r0, h3⟩ := h
  exact ⟨h1, (grown_setChan w c cap _ false s r false).cell h2 (fun e => h1 (by simpa using e)), s, r, heap_setChan _ _ _ _ _ _ _ _ hl.2⟩

theorem box_put {b c cap : Nat} {xs : List Int} (x : Int) (w : World) (h : Box w b c cap xs) :
    Calls Try.prog 15 #[.pointer (some ⟨b, 0, none⟩), .int .i64 x] w fun e w' => e = .returned (.bool (decide (xs.length < cap))) ∧ Box w' b c cap (if xs.length < cap then xs ++ [x] else xs) ∧ w.grownBy w' (some c) := by
  have h0 := h
  obtain ⟨h1, h2, s, r, h3⟩ := h
  by_cases hl : xs.length < cap
  · refine (put_room b c cap s r _ x w h2 h3 (by simpa using hl)).mono ?_
    rintro e w' ⟨rfl, rfl⟩
    refine ⟨by simp [hl], ?_, grown_setChan _ _ _ _ _ _ _ _⟩
    rw [if_pos hl]
    have := h0.set (xs ++ [x]) (s + 1) r
    simpa using this
  · refine (put_full b c cap s r _ x w h2 h3 (by simpa using hl)).mono ?_
    rintro e w' ⟨rfl, rfl⟩
    refine ⟨by simp [hl], ?_, World.grownBy.refl _ _⟩
    rw [if_neg hl]
    exact h0

theorem box_take_some {b c cap : Nat} {x : Int} {xs : List Int} (w : World) (h : Box w b c cap (x :: xs)) :
    Calls Try.prog 14 #[.pointer (some ⟨b, 0, none⟩)] w fun e w' => e = .returned (.tuple #[.int .i64 x, .bool true]) ∧ Box w' b c cap xs ∧ w.grownBy w' (some c) := by
  have h0 := h
  obtain ⟨h1, h2, s, r, h3⟩ := h
  refine (take_some b c cap s r x _ w h2 h3 (by simp)).mono ?_
  rintro e w' ⟨rfl, rfl⟩
  refine ⟨rfl, ?_, grown_setChan _ _ _ _ _ _ _ _⟩
  have := h0.set xs s (r + 1)
  have e : (((x :: xs).map (Value.int .i64)).toArray.extract 1 ((x :: xs).map (Value.int .i64)).toArray.size) = (xs.map (Value.int .i64)).toArray := by
    apply Array.toList_inj.1
    simp only [Array.toList_extract, List.size_toArray, List.map_cons, List.length_cons, List.length_map, List.extract_eq_take_drop, List.drop_succ_cons, List.drop_zero, Nat.add_sub_cancel]
    exact List.take_of_length_le (by simp)
  rw [e]
  exact this

theorem box_take_none {b c cap : Nat} (w : World) (h : Box w b c cap []) :
    Calls Try.prog 14 #[.pointer (some ⟨b, 0, none⟩)] w fun e w' => e = .returned (.tuple #[.int .i64 0, .bool false]) ∧ Box w' b c cap [] ∧ w.grownBy w' (some c) := by
  have h0 := h
  obtain ⟨h1, h2, s, r, h3⟩ := h
  refine (take_none b c cap s r w h2 (by simpa using h3)).mono ?_
  rintro e w' ⟨rfl, rfl⟩
  exact ⟨rfl, h0, World.grownBy.refl _ _⟩

theorem box_len {b c cap : Nat} {xs : List Int} (w : World) (h : Box w b c cap xs) :
    Calls Try.prog 16 #[.pointer (some ⟨b, 0, none⟩)] w fun e w' => e = .returned (.int .i64 xs.length) ∧ w' = w := by
  obtain ⟨h1, h2, s, r, h3⟩ := h
  refine (len_chan b c cap s r _ w h2 h3).mono ?_
  rintro e w' ⟨rfl, rfl⟩
  exact ⟨by simp, rfl⟩

theorem box_new (x : Int) (w : World) : Calls Try.prog 12 #[.int .i64 x] w fun e w' => e = .returned (.pointer (some ⟨w.heap.size + 1, 0, none⟩)) ∧ Box w' (w.heap.size + 1) w.heap.size (roomOf x) [] ∧ Below w.heap.size w w' ∧ w'.heap.size = w.heap.size + 2 := by
  refine (new_inbox x w).mono ?_
  rintro e w' ⟨rfl, rfl⟩
  refine ⟨rfl, ⟨by omega, ?_, 0, 0, ?_⟩, ((Below.refl _ w).alloc (Nat.le_refl _) _).alloc (by simp) _, by simp⟩
  · have := heap_alloc_new (w.alloc (.chan (roomOf x) #[] false 0 0 false)) (.cells #[.chan (some w.heap.size)] 52)
    rw [World.size_alloc] at this
    rw [cell_of_row _ _ _ _ _ _ this]
    rfl
  · rw [Below.heap_alloc _ _ _ (by simp)]
    exact heap_alloc_new w _

end Go.Proofs.Ytjomfmhgiecafaa
