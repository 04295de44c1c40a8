/- Settle: who is settled is waited for no more, and waits no more. -/
import Derived.Test.YtjoafadhcdipnaaAct
namespace Go.Proofs.Ytjoafadhcdipnaa
open Go.RowKit Go.Maps Go.Proofs.YtjoafadhcdipnaaW.PrintWords Go.Proofs.YtjoafadhcdipnaaW.PrintLast Go.Proofs.YtjoafadhcdipnaaW.PrintMore
set_option linter.unusedVariables false

/-- For whom each waits, behind a Settle. -/
def settled (W : Int → List Int) (on_ : Int) (k : Int) : List Int := if k = on_ then [] else (W k).filter (fun x => x ≠ on_)
/-- Who still waits, behind a Settle. -/
def stay (keys : List Int) (W : Int → List Int) (on_ : Int) : List Int := keys.filter fun k => decide (settled W on_ k ≠ [])

/-- On the way: those that haven't come, and those that still wait. -/
def keysL (keys : List Int) (W : Int → List Int) (on_ : Int) (left : Lit → Bool) : List Int := keys.filter fun k => decide (k ≠ on_) && (left (.int .i64 k) || decide (settled W on_ k ≠ []))
def still (W : Int → List Int) (on_ : Int) (left : Lit → Bool) (k : Int) : List Int := if left (.int .i64 k) = true then W k else settled W on_ k

variable {base p b n r cnt : Nat} {keys : List Int} {B : Int → Nat} {W : Int → List Int} {on_ : Int} {left : Lit → Bool} {w wr : World}

structure Ranging (w wr : World) (p b r n : Nat) (keys : List Int) (B : Int → Nat) (W : Int → List Int) (on_ : Int) (left : Lit → Bool) (cnt : Nat) : Prop where
  rg : wr.ranges Try.prog 2 elemO b r n (O (keysL keys W on_ left) B) left cnt
  box : wr.heap[p]? = some (.cells #[.map (some b)] 46 (0, 0))
  inner : ∀ k ∈ keysL keys W on_ left, Own wr (B k) n (still W on_ left k)
  kept : Kept w wr (Lies p b keys B)
  hr : w.heap.size ≤ r
  quiet : Still w wr

theorem mem_keysL {k : Int} : k ∈ keysL keys W on_ left ↔ k ∈ keys ∧ k ≠ on_ ∧ (left (.int .i64 k) = true ∨ settled W on_ k ≠ []) := by
  unfold keysL
  rw [List.mem_filter]
  simp

theorem keysL_start : keysL keys W on_ (Maps.has (O (keys.filter (fun x => x ≠ on_)) B)) = keys.filter (fun x => x ≠ on_) := by
  unfold keysL
  refine List.filter_congr fun k hk => ?_
  rw [O_has]
  by_cases e : k = on_
  · simp [e]
  · have : k ∈ keys.filter (fun x => x ≠ on_) := List.mem_filter.2 ⟨hk, by simpa using e⟩
    rw [decide_eq_true this]
    simp
theorem keysL_end (h : ∀ kl, left kl = false) : keysL keys W on_ left = stay keys W on_ := by
  unfold keysL stay
  refine List.filter_congr fun k hk => ?_
  rw [h]
  by_cases e : k = on_
  · subst e; simp [settled]
  · simp [e]

/-- One has come, and still waits for some. -/
theorem keysL_step {x : Int} (hx : settled W on_ x ≠ []) : keysL keys W on_ (fun z => left z && !z.sameKey (.int .i64 x)) = keysL keys W on_ left := by
  unfold keysL
  refine List.filter_congr fun k hk => ?_
  by_cases e : k = x
  · subst e; simp [hx]
  · simp [Lit.sameKey, e]
/-- One has come, and waits for none. -/
theorem keysL_gone {x : Int} (hx : settled W on_ x = []) : keysL keys W on_ (fun z => left z && !z.sameKey (.int .i64 x)) = (keysL keys W on_ left).filter (fun k => k ≠ x) := by
  unfold keysL
  rw [List.filter_filter]
  refine List.filter_congr fun k hk => ?_
  by_cases e : k = x
  · subst e; simp [hx, Lit.sameKey]
  · simp [Lit.sameKey, e]
theorem still_step {x k : Int} : still W on_ (fun z => left z && !z.sameKey (.int .i64 x)) k = if k = x then settled W on_ x else still W on_ left k := by
  unfold still
  by_cases e : k = x
  · subst e; simp [Lit.sameKey]
  · simp [Lit.sameKey, e]

theorem rising_settled (h : ∀ k, Rising (W k)) (k : Int) : Rising (settled W on_ k) := by
  unfold settled
  split
  · unfold Rising; simp
  · exact rising_filter (h k) _

set_option maxHeartbeats 4000000 in
theorem settle_calls (hw : (Lit.int .i64 on_).wf = true) (w : World) (h : Dep w base p b n keys B W) :
    Calls Try.prog 20 #[.pointer (some ⟨p, 0, none⟩), .int .i64 on_] w fun e w' => e = .returned (.tuple #[]) ∧ Dep w' base p b n (stay keys W on_) B (settled W on_) ∧ Kept w w' (Lies p b keys B) ∧ Still w w' := by
  have z0 : w.cell? ⟨p, 0, none⟩ = some (.map (some b)) := blk_cell h.box 0
  have hkey : keyOf Try.prog 2 (.int .i64 on_) = some (.int .i64 on_) := keyOf_int_mk Try.underlying2 hw
  have HK := Aside0.mk h
  have HKey := Aside0.mk hkey
  clear h
  go_enter Try.func20, Try.ntmps20
  go_wp2_with (at_delete; refine HoldC.out ?_)
  constructor
  refine wpList_delete_own _ rfl _ _ 44 2 rfl 58 law2 Try.underlying44 elemO b n (O keys B) rfl HK.out.own _ _ rfl hkey ?_
  intro w1 hown1 ht1
  rw [O_del] at hown1
  have HO1 := Aside0.mk hown1
  have HQ1 := Aside0.mk (Still.grown ht1.grown)
  have HK1 := Aside0.mk (show Kept w w1 (fun k => k = b) from grown_kept ht1.grown rfl)
  have z0 : w1.cell? ⟨p, 0, none⟩ = some (.map (some b)) := cell_kept z0 HK1.out (fun e => HK.out.ne e)
  clear hown1 ht1
  go_wp2_with (at_range; refine HoldC.out ?_)
  constructor
  refine wpList_range_own _ rfl _ 44 rfl 2 58 law2 Try.underlying44 elemO b n _ rfl HO1.out ?_
  intro w2 hrg hg hs
  have hk2 : Kept w w2 (Lies p b keys B) := (HK1.out.mono (fun k e => .inr (.inl e))).then_ (show Kept w1 w2 (fun _ => False) from ⟨hg.size, fun i hi _ => hg.block i hi (by simp)⟩) (fun k hk => hk.elim)
  have HS := Aside0.mk (show Ranging w w2 p b w1.heap.size n keys B W on_ _ _ from {
    rg := (by rw [keysL_start]; exact hrg)
    box := (by
      have h1 := blk_kept HK.out.box HK1.out (fun e => HK.out.ne e)
      exact (hg.block p (blk_lt h1) (by simp)).trans h1)
    inner := fun k hk => (by
      rw [keysL_start] at hk
      obtain ⟨hk1, hk2⟩ := List.mem_filter.1 hk
      unfold still
      rw [O_has, decide_eq_true hk, if_pos rfl]
      exact ((HK.out.inner k hk1).kept HK1.out (HK.out.apart k hk1).2.1).kept (show Kept w1 w2 (fun _ => False) from ⟨hg.size, fun i hi _ => hg.block i hi (by simp)⟩) (fun e => e))
    kept := hk2
    hr := HK1.out.1
    quiet := HQ1.out.trans (Still.grown hg) })
  obtain ⟨r, hr⟩ : ∃ r, w1.heap.size = r := ⟨_, rfl⟩
  rw [hr] at HS ⊢
  clear hrg hg hs hk2 z0 hr
  go_wp2
  go_frame
  go_loopg [5] (Maps.size (O (keys.filter (fun x => x ≠ on_)) B)) (fun g v5 wr => ∃ (left : Lit → Bool) (cnt : Nat), cnt ≤ g ∧ Aside0 (Ranging w wr p b r n keys B W on_ left cnt))
  case atStart => exact ⟨_, _, Nat.le_refl _, HS⟩
  case round =>
    clear HS
    obtain ⟨left, cnt, hcg, HS⟩ := hrel
    go_wp2_with (at_next; refine HoldC.out ?_)
    constructor
    refine wpList_next_ranges _ rfl _ rfl 2 law2 elemO (Value.int .i64) Value.map (fun key kl hk => by obtain ⟨x, rfl, _⟩ := Maps.keyOf_int_inv Try.underlying2 hk; exact ⟨x, rfl⟩) (fun v y hv => elemO_inv hv) b r n _ left cnt rfl HS.out.rg ?_ ?_
    · intro hc0 hl0
      have HL := Aside0.mk hl0
      clear hc0 hl0
      go_wp2
      go_end0
      have h := HK.out
      have hk := HS.out.kept
      have hrg := HS.out.rg.owns
      rw [keysL_end HL.out] at hrg
      refine ⟨rfl, ⟨HS.out.box, hrg, fun k hk' => ?_, fun k hk' => h.apart k (List.mem_filter.1 hk').1, fun k hk1 k' hk2 => h.inj k (List.mem_filter.1 hk1).1 k' (List.mem_filter.1 hk2).1, h.basep, h.baseb, rising_filter h.rise _, rising_settled h.rises, fun k => ?_, fun k hk' => h.wf k (List.mem_filter.1 hk').1, fun k x hx => h.wfs k x (by
        unfold settled at hx
        split at hx
        · cases hx
        · exact (List.mem_filter.1 hx).1)⟩, hk, HS.out.quiet⟩
      · have := HS.out.inner k (by rw [keysL_end HL.out]; exact hk')
        unfold still at this
        rw [HL.out, if_neg (by simp)] at this
        exact this
      · unfold stay
        rw [List.mem_filter]
        constructor
        · intro hh; simpa using hh.2
        · intro hh
          refine ⟨(h.some k).2 (fun e => hh ?_), by simpa using hh⟩
          unfold settled
          split
          · rfl
          · rw [e]; rfl
    · intro x c kl y w2 cnt2 hkx hlx hRy hat hrg2 hlt hg2 hs2 hen
      obtain ⟨x', ex, rfl, hwx⟩ := Maps.keyOf_int_inv Try.underlying2 hkx
      obtain rfl : x = x' := by injection ex
      have hxL : x ∈ keysL keys W on_ left := by
        refine Decidable.byContradiction fun e => ?_
        have h1 := hat (.lit (.bool true))
        have h2 := hat (.lit (.bool false))
        rw [O_at, if_neg e] at h1 h2
        rw [← h1] at h2
        simp at h2
      have hyB : c = some (B x) := by
        have h1 := hat (.lit (.bool true))
        rw [O_at, if_pos hxL] at h1
        obtain ⟨y1, y2⟩ := y
        simp only at h1
        subst h1
        exact elemO_block hRy
      subst hyB
      obtain ⟨hxk, hxn, _⟩ := mem_keysL.1 hxL
      have hap := HK.out.apart x hxk
      have hgl := (HK.out.inner x hxk).lt
      have hrg' : r ≠ B x := by have := HS.out.hr; omega
      have hrl := HS.out.rg.lt
      have hk2 : Kept wr w2 (fun k => k = r) := grown_kept hg2 rfl
      have hin : Own w2 (B x) n (W x) := by
        have := HS.out.inner x hxL
        unfold still at this
        rw [if_pos hlx] at this
        exact this.kept hk2 (fun e => hrg' e.symm)
      have HXL := Aside0.mk hxL
      have HXK := Aside0.mk hxk
      have HXN := Aside0.mk hxn
      have HAP := Aside0.mk hap
      have HRB := Aside0.mk hrg'
      have HRG2 := Aside0.mk hrg2
      have HIN := Aside0.mk hin
      have HKX := Aside0.mk (keyOf_int_mk (k := 2) Try.underlying2 hwx)
      have HLT := Aside0.mk hlt
      have hrp : p ≠ r := by have := HS.out.hr; have := blk_lt HK.out.box; omega
      have HK2 := Aside0.mk (HS.out.kept.then_ hk2 (fun k hk => .inr (by have := HS.out.hr; omega)))
      have HBX2 := Aside0.mk (blk_kept HS.out.box hk2 hrp)
      have HIN2 := Aside0.mk (show ∀ k ∈ keysL keys W on_ left, Own w2 (B k) n (still W on_ left k) from fun k hk => (HS.out.inner k hk).kept hk2 (by have h1 := HS.out.hr; have h2 := (HK.out.inner k (mem_keysL.1 hk).1).lt; omega))
      have HHR := Aside0.mk HS.out.hr
      have HQ2 := Aside0.mk (HS.out.quiet.trans (Still.grown hg2))
      obtain ⟨g', hg'⟩ : ∃ g', B x = g' := ⟨_, rfl⟩
      have HG := Aside0.mk hg'
      rw [hg'] at hen HIN HAP HRB
      rw [hg']
      clear hat hRy hlx hkx hap hgl hrg' hrl hk2 hin hxL hxk hxn hrg2 hg2 hs2 hlt HS hwx ex hg'
      go_wp2_with (at_delete; refine HoldC.out ?_)
      constructor
      refine wpList_delete_own _ rfl _ _ 58 2 rfl 4 law2 Try.underlying58 (plainElem Try.prog 4) g' n (D (W x)) rfl HIN.out _ _ rfl hkey ?_
      intro w3 hown3 ht3
      rw [D_del] at hown3
      have hse : (W x).filter (fun z => z ≠ on_) = settled W on_ x := by unfold settled; rw [if_neg HXN.out]
      rw [hse] at hown3
      have HO3 := Aside0.mk (show Own w3 g' n (settled W on_ x) from hown3)
      have HQ3 := Aside0.mk (HQ2.out.trans (Still.grown ht3.grown))
      have hk3 : Kept w2 w3 (fun k => k = g') := grown_kept ht3.grown rfl
      have HRG3 := Aside0.mk (HRG2.out.kept ht3.grown (by have := HAP.out; intro e; injection e with e; omega) (by have := HRB.out; intro e; injection e with e; omega))
      have HK3 := Aside0.mk (HK2.out.then_ hk3 (fun k hk => .inl (.inr (.inr ⟨x, HXK.out, by rw [HG.out]; exact hk⟩))))
      have HBX3 := Aside0.mk (blk_kept HBX2.out hk3 (by have := HAP.out; omega))
      have HIN3 := Aside0.mk (show ∀ k ∈ keysL keys W on_ left, Own w3 (B k) n (if k = x then settled W on_ x else still W on_ left k) from fun k hk => (by
        by_cases e : k = x
        · subst e
          rw [if_pos rfl, HG.out]
          exact HO3.out
        · rw [if_neg e]
          exact (HIN2.out k hk).kept hk3 (fun e' => e (HK.out.inj k (mem_keysL.1 hk).1 x HXK.out (e'.trans HG.out.symm)))))
      clear hown3 ht3 hk3 hse
      go_wp2_with (at_len; refine HoldC.out ?_)
      constructor
      refine wpList_len_own _ rfl _ 58 rfl 2 4 Try.underlying58 (plainElem Try.prog 4) g' n (D (settled W on_ x)) rfl HO3.out ?_
      rw [D_size]
      by_cases hz : settled W on_ x = []
      · have HZ := Aside0.mk hz
        have hz0 : (settled W on_ x).length = 0 := by rw [hz]; rfl
        rw [hz0]
        have z3 : w3.cell? ⟨p, 0, none⟩ = some (.map (some b)) := blk_cell HBX3.out 0
        have hkx := HKX.out
        clear hz hz0 z0
        go_wp2_with (at_delete; refine HoldC.out ?_)
        constructor
        refine wpList_delete_ranges _ rfl _ _ 44 2 rfl 58 law2 Try.underlying44 elemO b r n _ _ _ rfl HRG3.out _ _ rfl hkx ?_
        intro w4 cnt4 hrg4 hle4 ht4
        rw [Maps.strike_twice] at hrg4
        have hk4 : Kept w3 w4 (fun k => k = b) := grown_kept ht4.grown rfl
        have HLE := Aside0.mk hle4
        have HS4 := Aside0.mk (show Ranging w w4 p b r n keys B W on_ _ cnt4 from {
          rg := (by rw [keysL_gone HZ.out, ← O_del]; exact hrg4)
          box := blk_kept HBX3.out hk4 (fun e => HK.out.ne e)
          inner := fun k hk => (by
            rw [keysL_gone HZ.out] at hk
            have hk' := List.mem_filter.1 hk
            have hkx : k ≠ x := by simpa using hk'.2
            have := HIN3.out k hk'.1
            rw [if_neg hkx] at this
            rw [still_step, if_neg hkx]
            exact this.kept hk4 (HK.out.apart k (mem_keysL.1 hk'.1).1).2.1)
          kept := HK3.out.then_ hk4 (fun k hk => .inl (.inr (.inl hk)))
          hr := HHR.out
          quiet := HQ3.out.trans (Still.grown ht4.grown) })
        clear hrg4 hle4 ht4 hk4 z3 hkx
        go_wp2
        cases gk with
        | zero => exact absurd HLT.out (by omega)
        | succ g =>
          go_roundg g
          case measure => omega
          case rel => exact ⟨_, cnt4, by have := HLT.out; have := HLE.out; omega, HS4⟩
      · have HZ := Aside0.mk hz
        have hz0 : (settled W on_ x).length ≠ 0 := fun e => hz (List.eq_nil_of_length_eq_zero e)
        have hz1 : (((settled W on_ x).length : Int) == 0) = false := by simpa using hz
        have HS4 := Aside0.mk (show Ranging w w3 p b r n keys B W on_ _ cnt2 from {
          rg := (by rw [keysL_step HZ.out]; exact HRG3.out)
          box := HBX3.out
          inner := fun k hk => (by
            rw [keysL_step HZ.out] at hk
            have := HIN3.out k hk
            rw [still_step]
            exact this)
          kept := HK3.out
          hr := HHR.out
          quiet := HQ3.out })
        clear hz hz0 z0
        go_wp2
        cases gk with
        | zero => exact absurd HLT.out (by omega)
        | succ g =>
          go_roundg g
          case measure => omega
          case rel => exact ⟨_, cnt2, by have := HLT.out; omega, HS4⟩
end Go.Proofs.Ytjoafadhcdipnaa
