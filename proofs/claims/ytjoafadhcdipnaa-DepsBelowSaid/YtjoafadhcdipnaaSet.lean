/- Lists of integers that rise, and what they are as a map's datum. -/
import Derived.Maps.OwnSet
import Derived.Maps.OwnOps
import Derived.Maps.RangeWalk
namespace Go.Proofs.Ytjoafadhcdipnaa
open Go.Maps
set_option linter.unusedVariables false

def Rising (l : List Int) : Prop := l.Pairwise fun a b => a < b

/-- A list that rises, with a number. -/
def ins (k : Int) : List Int → List Int
  | [] => [k]
  | a :: r => if k < a then k :: a :: r else if k = a then a :: r else a :: ins k r

theorem mem_ins {k x : Int} {l : List Int} : x ∈ ins k l ↔ x = k ∨ x ∈ l := by
  induction l with
  | nil => simp [ins]
  | cons a r ih =>
    unfold ins
    by_cases h1 : k < a
    · rw [if_pos h1]; simp
    · rw [if_neg h1]
      by_cases h2 : k = a
      · rw [if_pos h2]; subst h2; simp
      · rw [if_neg h2, List.mem_cons, List.mem_cons, ih]
        constructor
        · rintro (h | h | h) <;> simp [h]
        · rintro (h | h | h) <;> simp [h]

theorem rising_ins {k : Int} {l : List Int} (h : Rising l) : Rising (ins k l) := by
  unfold Rising at *
  induction l with
  | nil => simp [ins]
  | cons a r ih =>
    rw [List.pairwise_cons] at h
    unfold ins
    by_cases h1 : k < a
    · rw [if_pos h1, List.pairwise_cons, List.pairwise_cons]
      refine ⟨fun x hx => ?_, h⟩
      rcases List.mem_cons.1 hx with rfl | hx
      · exact h1
      · have := h.1 x hx; omega
    · rw [if_neg h1]
      by_cases h2 : k = a
      · rw [if_pos h2, List.pairwise_cons]; exact h
      · rw [if_neg h2, List.pairwise_cons]
        refine ⟨fun x hx => ?_, ih h.2⟩
        rcases mem_ins.1 hx with rfl | hx
        · omega
        · exact h.1 x hx

theorem length_ins (k : Int) (l : List Int) : (ins k l).length ≤ l.length + 1 := by
  induction l with
  | nil => simp [ins]
  | cons a r ih =>
    unfold ins
    split
    · simp
    · split
      · simp
      · simp only [List.length_cons]; omega

theorem rising_nodup {l : List Int} (h : Rising l) : l.Nodup := h.imp (fun h => by omega)

theorem rising_ext {l l' : List Int} (h : Rising l) (h' : Rising l') (hm : ∀ x, x ∈ l ↔ x ∈ l') : l = l' := by
  refine List.Perm.eq_of_pairwise (le := fun a b => a < b) (fun a b _ _ h1 h2 => by omega) h h' ?_
  exact (List.perm_ext_iff_of_nodup (rising_nodup h) (rising_nodup h')).2 hm

theorem rising_filter {l : List Int} (h : Rising l) (p : Int → Bool) : Rising (l.filter p) := List.Pairwise.filter _ h

/-- Entries as a map's datum. -/
def M (l : List (Int × DataW Unit)) : DataW Unit := .map (l.map fun p => (Lit.int .i64 p.1, p.2))
def insP (k : Int) (d : DataW Unit) : List (Int × DataW Unit) → List (Int × DataW Unit)
  | [] => [(k, d)]
  | a :: r => if k < a.1 then (k, d) :: a :: r else a :: insP k d r

theorem M_filter (l : List (Int × DataW Unit)) (ts : Int) : (l.map fun p => ((Lit.int .i64 p.1, p.2) : Lit × DataW Unit)).filter (fun p => !p.1.sameKey (.int .i64 ts)) = (l.filter (fun p => p.1 ≠ ts)).map fun p => (Lit.int .i64 p.1, p.2) := by
  rw [List.filter_map]
  congr 1
  refine List.filter_congr fun t _ => ?_
  simp [Lit.sameKey]

theorem M_del (l : List (Int × DataW Unit)) (ts : Int) : (M l).del (.int .i64 ts) = M (l.filter (fun p => p.1 ≠ ts)) := by
  unfold M DataW.del
  simp only [M_filter]

theorem M_insert (l : List (Int × DataW Unit)) (k : Int) (d : DataW Unit) (h : ∀ p ∈ l, p.1 ≠ k) : DataW.insert ((Lit.int .i64 k, d) : Lit × DataW Unit) (l.map fun p => (Lit.int .i64 p.1, p.2)) = (insP k d l).map fun p => (Lit.int .i64 p.1, p.2) := by
  induction l with
  | nil => rfl
  | cons a r ih =>
    have ha := h a List.mem_cons_self
    have hr := ih (fun p hp => h p (List.mem_cons_of_mem _ hp))
    unfold insP
    simp only [List.map_cons, DataW.insert]
    by_cases h1 : k < a.1
    · rw [if_pos h1, if_pos (by simp [Lit.before]; omega)]; rfl
    · rw [if_neg h1, if_neg (by simp [Lit.before]; omega), hr]; rfl

theorem M_put (l : List (Int × DataW Unit)) (k : Int) (d : DataW Unit) : (M l).put (.int .i64 k) d = M (insP k d (l.filter (fun p => p.1 ≠ k))) := by
  unfold M DataW.put
  simp only [M_filter]
  rw [M_insert _ _ _ (fun p hp => by simpa using (List.mem_filter.1 hp).2)]

theorem M_at (l : List (Int × DataW Unit)) (k : Int) (z : DataW Unit) : (M l).atKey (.int .i64 k) z = match l.find? (fun p => p.1 = k) with | some p => p.2 | none => z := by
  unfold M DataW.atKey
  simp only
  induction l with
  | nil => rfl
  | cons a r ih =>
    simp only [List.map_cons, List.find?_cons]
    by_cases h : a.1 = k
    · subst h
      simp [Lit.sameKey]
    · have h1 : ((Lit.int .i64 a.1).sameKey (.int .i64 k)) = false := by simp [Lit.sameKey, h]
      rw [h1]
      simp only [h, decide_false]
      exact ih

theorem M_size (l : List (Int × DataW Unit)) : Maps.size (M l) = l.length := by simp [M, Maps.size]
theorem M_has (l : List (Int × DataW Unit)) (k : Int) : Maps.has (M l) (.int .i64 k) = decide (k ∈ l.map Prod.fst) := by
  show (l.map fun p => ((Lit.int .i64 p.1, p.2) : Lit × DataW Unit)).any (fun p => p.1.sameKey (.int .i64 k)) = _
  rw [List.any_map, Bool.eq_iff_iff]
  simp [Lit.sameKey]

/-- Keys, and what lies at each. -/
def E (keys : List Int) (f : Int → DataW Unit) : DataW Unit := M (keys.map fun k => (k, f k))

theorem E_filter (keys : List Int) (f : Int → DataW Unit) (k : Int) : (keys.map fun k => (k, f k)).filter (fun p => p.1 ≠ k) = (keys.filter (fun x => x ≠ k)).map fun k => (k, f k) := by
  rw [List.filter_map]; rfl
theorem E_del (keys : List Int) (f : Int → DataW Unit) (k : Int) : (E keys f).del (.int .i64 k) = E (keys.filter (fun x => x ≠ k)) f := by
  unfold E
  rw [M_del, E_filter]
theorem E_at (keys : List Int) (f : Int → DataW Unit) (k : Int) (z : DataW Unit) : (E keys f).atKey (.int .i64 k) z = if k ∈ keys then f k else z := by
  unfold E
  rw [M_at]
  induction keys with
  | nil => simp
  | cons a r ih =>
    simp only [List.map_cons, List.find?_cons]
    by_cases h : a = k
    · subst h; simp
    · have h' : ¬ k = a := fun e => h e.symm
      simp only [h, decide_false, List.mem_cons, h', false_or]
      exact ih
theorem E_size (keys : List Int) (f : Int → DataW Unit) : Maps.size (E keys f) = keys.length := by unfold E; rw [M_size, List.length_map]
theorem E_has (keys : List Int) (f : Int → DataW Unit) (k : Int) : Maps.has (E keys f) (.int .i64 k) = decide (k ∈ keys) := by
  unfold E
  rw [M_has]
  congr 1
  simp
theorem insP_keys (k : Int) (d : DataW Unit) (f : Int → DataW Unit) : ∀ {keys : List Int}, Rising keys → insP k d ((keys.filter (fun x => x ≠ k)).map fun k => (k, f k)) = (ins k keys).map fun x => (x, if x = k then d else f x)
  | [], _ => by simp [insP, ins]
  | a :: r, h => by
    have hh := h
    unfold Rising at hh
    rw [List.pairwise_cons] at hh
    have hmap : ∀ l : List Int, (∀ x ∈ l, x ≠ k) → (l.map fun x => (x, f x)) = l.map fun x => (x, if x = k then d else f x) := fun l hl => List.map_congr_left fun x hx => by rw [if_neg (hl x hx)]
    by_cases h1 : k < a
    · have hr : ∀ x ∈ a :: r, x ≠ k := fun x hx => by
        rcases List.mem_cons.1 hx with rfl | hx
        · omega
        · have := hh.1 x hx; omega
      rw [List.filter_eq_self.2 (fun x hx => by simpa using hr x hx)]
      unfold ins
      rw [if_pos h1, List.map_cons, List.map_cons, List.map_cons, if_pos rfl]
      unfold insP
      rw [if_pos h1, if_neg (by omega), hmap r (fun x hx => hr x (List.mem_cons_of_mem _ hx))]
    · by_cases h2 : k = a
      · subst h2
        have hr : ∀ x ∈ r, x ≠ k := fun x hx => by have := hh.1 x hx; omega
        rw [List.filter_cons_of_neg (by simp), List.filter_eq_self.2 (fun x hx => by simpa using hr x hx)]
        unfold ins
        rw [if_neg h1, if_pos rfl, List.map_cons, if_pos rfl, ← hmap r hr]
        cases r with
        | nil => rfl
        | cons b q =>
          have hb := hh.1 b List.mem_cons_self
          rw [List.map_cons]
          unfold insP
          rw [if_pos hb]
      · rw [List.filter_cons_of_pos (by simp; omega), List.map_cons]
        unfold insP ins
        rw [if_neg (by simpa using h1), if_neg h1, if_neg h2, List.map_cons, if_neg (by omega), insP_keys k d f hh.2]
theorem E_put {keys : List Int} (h : Rising keys) (f : Int → DataW Unit) (k : Int) (d : DataW Unit) : (E keys f).put (.int .i64 k) d = E (ins k keys) (fun x => if x = k then d else f x) := by
  unfold E
  rw [M_put, E_filter, insP_keys k d f h]
theorem E_congr {keys : List Int} {f g : Int → DataW Unit} (h : ∀ k ∈ keys, f k = g k) : E keys f = E keys g := by
  unfold E
  congr 1
  exact List.map_congr_left fun k hk => by rw [h k hk]

/-- A set of timestamps. -/
def D (l : List Int) : DataW Unit := E l fun _ => .lit (.bool true)
theorem D_del (l : List Int) (k : Int) : (D l).del (.int .i64 k) = D (l.filter (fun x => x ≠ k)) := E_del _ _ _
theorem D_at (l : List Int) (k : Int) : (D l).atKey (.int .i64 k) (.lit (.bool false)) = .lit (.bool (decide (k ∈ l))) := by
  unfold D
  rw [E_at]
  by_cases h : k ∈ l <;> simp [h]
theorem D_put {l : List Int} (h : Rising l) (k : Int) : (D l).put (.int .i64 k) (.lit (.bool true)) = D (ins k l) := by
  unfold D
  rw [E_put h]
  exact E_congr fun x _ => by split <;> rfl
theorem D_size (l : List Int) : Maps.size (D l) = l.length := E_size _ _

/-- Who waits, and in which block it lies for whom. -/
def O (keys : List Int) (B : Int → Nat) : DataW Unit := E keys fun k => .lit (.int .i64 (B k))
theorem O_del (keys : List Int) (B : Int → Nat) (k : Int) : (O keys B).del (.int .i64 k) = O (keys.filter (fun x => x ≠ k)) B := E_del _ _ _
theorem O_put {keys : List Int} (h : Rising keys) (B : Int → Nat) (k : Int) (b : Nat) : (O keys B).put (.int .i64 k) (.lit (.int .i64 b)) = O (ins k keys) (fun x => if x = k then b else B x) := by
  unfold O
  rw [E_put h]
  exact E_congr fun x _ => by
    by_cases e : x = k
    · simp [e]
    · simp [e]
theorem O_size (keys : List Int) (B : Int → Nat) : Maps.size (O keys B) = keys.length := E_size _ _
theorem O_has (keys : List Int) (B : Int → Nat) (k : Int) : Maps.has (O keys B) (.int .i64 k) = decide (k ∈ keys) := E_has _ _ _
theorem O_at (keys : List Int) (B : Int → Nat) (k : Int) (z : DataW Unit) : (O keys B).atKey (.int .i64 k) z = if k ∈ keys then .lit (.int .i64 (B k)) else z := E_at _ _ _ _

/-- A map as an element of a map: its block. -/
def elemO : Value → Option (DataW Unit × List MemPlace)
  | .map none => some (.lit (.int .i64 (-1)), [])
  | .map (some b) => some (.lit (.int .i64 b), [])
  | _ => none
theorem elemO_inv {v : Value} {y : DataW Unit × List MemPlace} (h : elemO v = some y) : ∃ mb, v = .map mb := by
  unfold elemO at h
  split at h
  · exact ⟨_, rfl⟩
  · exact ⟨_, rfl⟩
  · cases h
theorem elemO_block {mb : Option Nat} {b : Nat} {ps : List MemPlace} (h : elemO (.map mb) = some (.lit (.int .i64 b), ps)) : mb = some b := by
  cases mb with
  | none => simp [elemO] at h
  | some c => simp [elemO] at h; rw [show c = b by omega]
theorem elemO_none {mb : Option Nat} {ps : List MemPlace} (h : elemO (.map mb) = some (.lit (.int .i64 (-1)), ps)) : mb = none := by
  cases mb with
  | none => rfl
  | some c => simp [elemO] at h
end Go.Proofs.Ytjoafadhcdipnaa
