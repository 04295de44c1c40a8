/- A slice that came in, read as a list: of structs, of bools. -/
import Derived.Test.YtjoafadhcdipnaaRun
import Derived.WalkKit
import Derived.ProofKit
import Derived.OpenShut
import Derived.Deep.Slices
namespace Go.Proofs.Ytjoafadhcdipnaa
open Go.RowKit Go.ChangeShapes Go.WideShapes Go.ChangeAt Go.Deep Go.Proofs.YtjoafadhcdipnaaW.PrintWords

theorem list3 {α : Type} (l : List α) (h : l.length = 3) : ∃ a b c, l = [a, b, c] := by
  rcases l with _ | ⟨a, _ | ⟨b, _ | ⟨c, _ | ⟨d, l⟩⟩⟩⟩ <;> simp at h
  exact ⟨a, b, c, rfl⟩
theorem list4 {α : Type} (l : List α) (h : l.length = 4) : ∃ a b c d, l = [a, b, c, d] := by
  rcases l with _ | ⟨a, _ | ⟨b, _ | ⟨c, _ | ⟨d, _ | ⟨e, l⟩⟩⟩⟩⟩ <;> simp at h
  exact ⟨a, b, c, d, rfl⟩

section
variable {H : Type} {enc : TypeId × Value → H} {P : Program} {w : World}

/-- Whatever slice came in: its elements as a list. -/
theorem slice_in {α : Type} (d : Kd α) (Good : α → Prop) {t e : TypeId} {fuel : Nat} {A : Option Addr} {len cap : Nat} {x : DataW H × List MemPlace} (ht : P.underlying t = some (.slice e)) (hc : P.cellsOf e = d.sz)
    (hel : ∀ n cs y, DataW.trod enc P w 0 (fun _ => true) true n e cs = some y → cs.length = P.cellsOf e → ∃ a : α, d.K w a cs ∧ Good a)
    (h : DataW.trod enc P w 0 (fun _ => true) true fuel t [.slice A len cap] = some x) :
    ∃ xs : List α, len = xs.length ∧ d.C w A xs.length xs ∧ xs.length ≤ cap ∧ ∀ a ∈ xs, Good a := by
  rcases open_slice ht h with ⟨hcs, _⟩ | ⟨a, l, c, m, n, D, Pl, hcs, _, hl, hm, hmm, _, hD⟩
  · simp only [List.cons.injEq, Value.slice.injEq, and_true] at hcs
    obtain ⟨rfl, rfl, rfl⟩ := hcs
    exact ⟨[], rfl, Kd.C_nil d w, Nat.le_refl _, fun _ h => by cases h⟩
  · simp only [List.cons.injEq, Value.slice.injEq, and_true] at hcs
    obtain ⟨rfl, rfl, rfl⟩ := hcs
    have hlm : len ≤ m := by rw [hmm]; simpa using hl
    have each : ∀ i, i < len → ∃ p : α × List Value, d.K w p.1 p.2 ∧ Good p.1 ∧ p.2.length = d.sz ∧ ∀ j u, p.2[j]? = some u → w.cell? (a.add (i * d.sz + j)) = some u := by
      intro i hi
      obtain ⟨cs', h1, h2⟩ := hD i (by omega)
      obtain ⟨_, hlen, hce⟩ := World.cells?_some h1
      obtain ⟨y, hK, hG⟩ := hel n cs' _ h2 hlen
      refine ⟨(y, cs'), hK, hG, by rw [hlen, hc], fun j u hu => ?_⟩
      rw [← hc, ← Addr.add_add]
      have hj : j < cs'.length := (List.getElem?_eq_some_iff.1 hu).1
      rw [hlen] at hj
      exact (hce j hj).trans hu
    classical
    have ch : ∃ f : Fin len → α × List Value, ∀ i, d.K w (f i).1 (f i).2 ∧ Good (f i).1 ∧ (f i).2.length = d.sz ∧ ∀ j u, (f i).2[j]? = some u → w.cell? (a.add (i * d.sz + j)) = some u :=
      ⟨fun i => Classical.choose (each i i.2), fun i => Classical.choose_spec (each i i.2)⟩
    obtain ⟨f, hf⟩ := ch
    refine ⟨List.ofFn fun i => (f i).1, by simp, ⟨rfl, by simp only [List.length_ofFn, maxLen] at hm ⊢; omega, fun _ => ⟨a, rfl, fun j p hj => ?_⟩⟩, by simpa using hl, fun y hy => ?_⟩
    · obtain ⟨hjl, hp⟩ := List.getElem?_eq_some_iff.1 hj
      rw [List.length_ofFn] at hjl
      have hp' : (f ⟨j, hjl⟩).1 = p := by simpa using hp
      obtain ⟨k1, _, k3, k4⟩ := hf ⟨j, hjl⟩
      exact ⟨(f ⟨j, hjl⟩).2, k3, hp' ▸ k1, k4⟩
    · obtain ⟨i, hi⟩ := List.mem_ofFn.1 hy
      exact hi ▸ (hf i).2.1

theorem el_bool {t : TypeId} (ht : P.underlying t = some .bool) (n : Nat) (cs : List Value) (y : DataW H × List MemPlace) (h : DataW.trod enc P w 0 (fun _ => true) true n t cs = some y) (_ : cs.length = P.cellsOf t) : ∃ a : Bool, Kd.bool.K w a cs ∧ True := by
  obtain ⟨b, rfl, _⟩ := DataW.trod_bool ht h
  exact ⟨b, rfl, trivial⟩

theorem el_int {t : TypeId} {k : IntKind} (ht : P.underlying t = some (.int k)) (n : Nat) (cs : List Value) (y : DataW H × List MemPlace) (h : DataW.trod enc P w 0 (fun _ => true) true n t cs = some y) (_ : cs.length = P.cellsOf t) : ∃ a : Int, (Kd.int k).K w a cs ∧ (Lit.int k a).wf = true := by
  obtain ⟨b, rfl, _, hw⟩ := DataW.trod_int ht h
  exact ⟨b, rfl, hw⟩
end

section
variable {H : Type} {enc : TypeId × Value → H} {w : World}
theorem list2 {α : Type} (l : List α) (h : l.length = 2) : ∃ a b, l = [a, b] := by
  rcases l with _ | ⟨a, _ | ⟨b, _ | ⟨c, l⟩⟩⟩ <;> simp at h
  exact ⟨a, b, rfl⟩
theorem el30 (n : Nat) (cs : List Value) (y : DataW H × List MemPlace) (h : DataW.trod enc Try.prog w 0 (fun _ => true) true n 30 cs = some y) (hl : cs.length = Try.prog.cellsOf 30) : ∃ a : Dd, kdeed.K w a cs ∧ goodD a := by
  have h4 : Try.prog.cellsOf 30 = 3 := by kernel_rfl
  have h3 : Try.prog.cellsOf 3 = 1 := by kernel_rfl
  have h2 : Try.prog.cellsOf 2 = 1 := by kernel_rfl
  rw [h4] at hl
  obtain ⟨a, b, c, rfl⟩ := list3 cs hl
  obtain ⟨xs, m, _, rfl, _, hx, hf⟩ := DataW.trod_struct Try.underlying30 h
  obtain ⟨p0, p1, p2, rfl⟩ := list3 xs hx
  have f0 : DataW.trod enc Try.prog w 0 (fun _ => true) true m 3 (([a, b, c].drop 0).take (Try.prog.cellsOf 3)) = [p0, p1, p2][0]? := hf 0 _ rfl
  have f1 : DataW.trod enc Try.prog w 0 (fun _ => true) true m 2 (([a, b, c].drop 1).take (Try.prog.cellsOf 2)) = [p0, p1, p2][1]? := hf 1 _ rfl
  have f2 : DataW.trod enc Try.prog w 0 (fun _ => true) true m 2 (([a, b, c].drop 2).take (Try.prog.cellsOf 2)) = [p0, p1, p2][2]? := hf 2 _ rfl
  rw [h3] at f0
  rw [h2] at f1 f2
  obtain ⟨n0, e0, _, w0⟩ := DataW.trod_int Try.underlying3 f0
  obtain ⟨n1, e1, _, w1⟩ := DataW.trod_int Try.underlying2 f1
  obtain ⟨n2, e2, _, w2⟩ := DataW.trod_int Try.underlying2 f2
  simp at e0 e1 e2
  subst e0 e1 e2
  exact ⟨(n0, n1, n2), ⟨[.int .i64 n0], [.int .i64 n1, .int .i64 n2], rfl, rfl, ⟨[.int .i64 n1], [.int .i64 n2], rfl, rfl, rfl⟩⟩, w1, w2⟩
end
end Go.Proofs.Ytjoafadhcdipnaa
