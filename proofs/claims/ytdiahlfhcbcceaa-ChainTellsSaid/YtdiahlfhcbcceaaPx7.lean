-- Written for this claim by a program of this seat's (wip/tools), by way of the kit's printing program; not one of its printed files. Lean checks it.
import Derived.Test.YtdiahlfhcbcceaaPx0
import Derived.Test.YtdiahlfhcbcceaaPx5
import Derived.Test.YtdiahlfhcbcceaaPx6
namespace Go.Proofs.Ytdiahlfhcbcceaa.P
open Go.RowKit Go.Proofs.YtdiahlfhcbcceaaW.PrintWords Go.Proofs.YtdiahlfhcbcceaaW.PrintLast Go.Proofs.YtdiahlfhcbcceaaW.PrintMore
attribute [local go_sem] max2_int min2_int max_two min_two max_three min_three max_four min_four   -- for this text's walks alone
set_option linter.unusedVariables false
set_option linter.unusedSimpArgs false

/-! ### chain_Read: function 11 -/
structure Hold (p : Prop) : Prop where
  out : p

theorem results_tmp_cell_row {P : Program} {fn : Func} {p u : Tmp} {ty : TypeId} (h : fn.results = #[.tmp u, .cell p ty]) (tmps : Array Value) (w : World) (g : Nat) (t : TypeId) (cs : Array Value) (fr : Nat × Nat) (d : TypeDesc)
    (hp : tmps.getD p undef = .pointer (some ⟨g, 0, none⟩)) (hg : w.heap[g]? = some (.cells cs t fr))
    (hu : P.underlying ty = some d) (hd : (match d with | .struct _ | .array _ _ => true | _ => false) = true) (hi : (P.info? ty).map (·.size) = some cs.size) :
    (results fn tmps).run P w = .ok (.tuple #[tmps.getD u undef, .agg cs]) w := by
  have hp' : tmps[p]?.getD undef = .pointer (some ⟨g, 0, none⟩) := by simpa using hp
  simp [results, h, hp', asAddr, run_loadVar_row w g t ty cs fr d hg hu hd hi]

/-- A version, read. -/
def readAt (x : S27) (ts : Int) : S27 := ⟨x.f0, if x.f1 < ts then ts else x.f1, x.f2, x.f3⟩

def chain_Read.f (k : Nat) (l0 : List S27) (a1 : Int) : Option (List S27 × Int × Int × ByteArray × Bool) :=
  (chain_Look.f k l0 a1).bind fun t => if t < 0 then some (l0, 0, 0, ⟨#[]⟩, false)
    else if t < (l0.length : Int) then (chain_Ver_28.f l0).bind fun c =>
      some (c.set t.toNat (readAt (rd_T27 l0 t) a1), (readAt (rd_T27 l0 t) a1).f0, (readAt (rd_T27 l0 t) a1).f1, (readAt (rd_T27 l0 t) a1).f2, (readAt (rd_T27 l0 t) a1).f3)
    else none

theorem chain_Read.mono : ∀ a0 a1 k, LeO (chain_Read.f k a0 a1) (chain_Read.f (k + 1) a0 a1) := by
  intro a0 a1 k
  unfold chain_Read.f
  exact LeO.bind (chain_Look.mono _ _ _) (fun _ => LeO.refl _)

theorem clone_is {l r : List S27} (h : chain_Ver_28.f l = some r) : r = l := by
  unfold chain_Ver_28.f at h
  by_cases hl : l.length < 3518437208883
  · rw [if_pos hl] at h; exact (Option.some.inj h).symm
  · rw [if_neg hl] at h; cases h

theorem R_at0 {α : Type} {d : Kd α} {e base : Nat} {ok : Nat → Prop} {w : World} {v : Value} {xs : List α} (h : d.R e w base ok v xs) (hn : 0 < xs.length) : ∃ (g c : Nat), v = .slice (some ⟨g, 0, none⟩) xs.length c := by
  obtain ⟨ad, c, hv⟩ := Kd.R_slice1 h hn
  obtain ⟨_, inner, hown, hr⟩ := h
  rcases hown.2 with ⟨hv', _⟩ | ⟨g', cap', cur, hv', _⟩
  · rw [hv] at hv'; cases hv'
  · rw [hv] at hv'
    injection hv' with ha hl hc
    exact ⟨g', c, by rw [hv, ha]⟩

theorem add_zero_addr (g n : Nat) : (⟨g, 0, none⟩ : Addr).add n = ⟨g, n, none⟩ := by
  unfold Addr.add
  by_cases hn : n = 0
  · subst hn; rfl
  · simp [hn]

theorem own_cells27 {w : World} {base : Nat} {ok : Nat → Prop} {g n c : Nat} {xs : List S27} (h : Kd.R k27 27 w base ok (.slice (some ⟨g, 0, none⟩) n c) xs) (i : Int) (h0 : 0 ≤ i) (h1 : i < (xs.length : Int)) :
    w.cell? ⟨g, i.toNat * 4, none⟩ = some (.int .i64 (rd_T27 xs i).f0) ∧ w.cell? ⟨g, i.toNat * 4 + 1, none⟩ = some (.int .i64 (rd_T27 xs i).f1) ∧ w.cell? ⟨g, i.toNat * 4 + 2, none⟩ = some (.string (rd_T27 xs i).f2) ∧ w.cell? ⟨g, i.toNat * 4 + 3, none⟩ = some (.bool (rd_T27 xs i).f3) := by
  obtain ⟨ad, he, a0, a1, a2, a3⟩ := at_T27 (Kd.R_reads' h).2.2 i h0 h1
  cases he
  rw [add_zero_addr] at a0 a1 a2 a3
  exact ⟨a0, a1, a2, a3⟩

theorem four_at {w : World} {g o : Nat} {a b c d : Value} (h0 : w.cell? ⟨g, o, none⟩ = some a) (h1 : w.cell? ⟨g, o + 1, none⟩ = some b) (h2 : w.cell? ⟨g, o + 2, none⟩ = some c) (h3 : w.cell? ⟨g, o + 3, none⟩ = some d) : ∀ (j : Nat) (u : Value), [a, b, c, d][j]? = some u → w.cell? ⟨g, o + j, none⟩ = some u := by
  intro j u hj
  match j, hj with
  | 0, hj => cases hj; exact h0
  | 1, hj => cases hj; exact h1
  | 2, hj => cases hj; exact h2
  | 3, hj => cases hj; exact h3
  | n + 4, hj => simp at hj

theorem rd_set27 (l : List S27) (i : Int) (x : S27) (h0 : 0 ≤ i) (h1 : i < (l.length : Int)) : rd_T27 (l.set i.toNat x) i = x := by
  have h : i.toNat < l.length := by omega
  unfold rd_T27
  simp [List.getD, h]

set_option maxHeartbeats 2000000 in
theorem chain_Read.calls (k : Nat) (P0_ : Nat → Prop) (A0 : Option Addr) (c0 : Nat) (l0 : List S27) (a1 : Int) (r1 : List S27) (r2 r3 : Int) (r4 : ByteArray) (r5 : Bool) (w : World) (hs0 : Kd.V k27 27 w w.heap.size (fun k_ => P0_ k_) (.slice A0 l0.length c0) l0) (h : chain_Read.f k l0 a1 = some (r1, r2, r3, r4, r5)) :
    Calls Try.prog 11 #[.slice A0 l0.length c0, .int .i64 a1] w fun e w' => ∃ v0_, e = .returned (.tuple #[v0_, .agg #[.int .i64 r2, .int .i64 r3, .string r4, .bool r5]]) ∧ Kd.V k27 27 w' w.heap.size (fun k_ => (P0_ k_ ∨ w.heap.size ≤ k_)) v0_ r1 ∧ Below w.heap.size w w' := by
  have hu27 := Try.underlying27
  obtain ⟨_, hc, hC⟩ := Kd.V_reads' hs0
  have hm : (l0.length : Int) ≤ 9223372036854775807 := by have := hC.2.1; omega
  have HS := Aside0.mk (Kd.V_bound hs0)
  have HC := Aside0.mk hC
  have HL := Aside0.mk hc
  clear hs0 hC hc
  obtain ⟨q, hq, h⟩ := Option.bind_eq_some_iff.1 h
  have HQ := Aside0.mk hq
  clear hq
  have HB := Aside0.mk (Below.refl w.heap.size w)
  by_cases hn : q < 0
  · rw [if_pos hn] at h
    simp only [Option.some.injEq, Prod.mk.injEq] at h
    obtain ⟨rfl, rfl, rfl, rfl, rfl⟩ := h
    go_enter Try.func11, Try.ntmps11
    go_wp2_with ((with_reducible refine gate_dst (N := 5) rfl ?_); refine box_event ?hg (N := 5) ?hd (cs := #[.int .i64 0, .int .i64 0, .string (⟨#[]⟩ : ByteArray), .bool false]) (t := 27) ?hr ?_; (case hd => rfl); (case hg => rfl); (case hr => first | (go_simp; done) | (go_simp; rfl)); intro gb hg w1 hbox hb; have HBK := Aside0.mk hbox; have HG := Aside0.mk (show w.heap.size ≤ gb by omega); have HB1 := Aside0.mk hb; have HC1 := Aside0.mk (Kd.C_below HC.out hb); have HS1 := Aside0.mk (Kd.V_below HS.out hb); clear hbox hg hb)
    refine (chain_Look.calls _ _ _ _ _ _ _ HC1.out HL.out HQ.out).mono ?_
    rintro e w2 ⟨rfl, b2⟩
    have HB2 := Aside0.mk (HB1.out.trans (b2.mono HB1.out.size))
    have HBK2 := Aside0.mk (blk_below HBK.out b2)
    have HS2 := Aside0.mk (Kd.V_below HS1.out b2)
    have HC2 := Aside0.mk (Kd.C_below HC1.out b2)
    clear HBK HS1 HC1 b2 HB HB1
    have z0 := blk_cell HBK2.out 0
    have z1 := blk_cell HBK2.out 1
    have z2 := blk_cell HBK2.out 2
    have z3 := blk_cell HBK2.out 3
    have y0 := blk_frozen HBK2.out 0
    have y1 := blk_frozen HBK2.out 1
    have y2 := blk_frozen HBK2.out 2
    have y3 := blk_frozen HBK2.out 3
    simp only [List.getElem?_toArray, List.getElem?_cons_zero, List.getElem?_cons_succ] at z0 z1 z2 z3
    clear h HC2
    go_wp2
    refine bodyPost_ret (results_tmp_cell_row rfl _ _ gb 27 #[.int .i64 0, .int .i64 0, .string (⟨#[]⟩ : ByteArray), .bool false] (0, 0) _ rfl (blk_set (blk_set (blk_set (blk_set HBK2.out 0 _) 1 _) 2 _) 3 _) Try.underlying27 rfl (by kernel_rfl)) rfl ?_
    have hf : ∀ k_, (P0_ k_ ∧ k_ < w.heap.size) → k_ ≠ gb := fun k_ hk_ => by have := HG.out; have := hk_.2; omega
    exact ⟨_, rfl, Kd.V_mono (Kd.V_far (Kd.V_far (Kd.V_far (Kd.V_far HS2.out hf _) hf _) hf _) hf _) (fun k_ hk_ => .inl hk_.1), below_set (below_set (below_set (below_set HB2.out HG.out) HG.out) HG.out) HG.out⟩
  · rw [if_neg hn] at h
    by_cases hq1 : q < (l0.length : Int)
    · rw [if_pos hq1] at h
      obtain ⟨c, hcl, h⟩ := Option.bind_eq_some_iff.1 h
      obtain rfl := clone_is hcl
      have HCL := Aside0.mk hcl
      clear hcl
      simp only [Option.some.injEq, Prod.mk.injEq] at h
      obtain ⟨rfl, rfl, rfl, rfl, rfl⟩ := h
      obtain ⟨m, hmv⟩ : ∃ m, (readAt (rd_T27 c q) a1).f1 = m := ⟨_, rfl⟩
      have hmx : (if (rd_T27 c q).f1 < a1 then a1 else (rd_T27 c q).f1) = m := by rw [← hmv]; rfl
      have HM := Aside0.mk hmv
      rw [hmv]
      clear hmv
      go_enter Try.func11, Try.ntmps11
      go_wp2_with ((with_reducible refine gate_dst (N := 5) rfl ?_); refine box_event ?hg (N := 5) ?hd (cs := #[.int .i64 0, .int .i64 0, .string (⟨#[]⟩ : ByteArray), .bool false]) (t := 27) ?hr ?_; (case hd => rfl); (case hg => rfl); (case hr => first | (go_simp; done) | (go_simp; rfl)); intro gb hg w1 hbox hb; have HBK := Aside0.mk hbox; have HG := Aside0.mk (show w.heap.size ≤ gb by omega); have HB1 := Aside0.mk hb; have HC1 := Aside0.mk (Kd.C_below HC.out hb); have HS1 := Aside0.mk (Kd.V_below HS.out hb); clear hbox hg hb)
      refine (chain_Look.calls _ _ _ _ _ _ _ HC1.out HL.out HQ.out).mono ?_
      rintro e w2 ⟨rfl, b2⟩
      have HB2 := Aside0.mk (HB1.out.trans (b2.mono HB1.out.size))
      have HBK2 := Aside0.mk (blk_below HBK.out b2)
      have HS2 := Aside0.mk (Kd.V_below HS1.out b2)
      have HC2 := Aside0.mk (Kd.C_below HC1.out b2)
      clear HBK HS1 HC1 b2 HB HB1
      go_wp2_with fail
      refine (chain_Ver_28.calls _ _ _ _ _ HC2.out HL.out HCL.out).mono ?_
      rintro e w3 ⟨v3, rfl, ho, b3⟩
      have hn0 : 0 ≤ q := by omega
      obtain ⟨g, c3, hv⟩ := R_at0 ho (by omega)
      subst hv
      have hgb : w2.heap.size ≤ g := Kd.R_base ho g rfl
      obtain ⟨hx0, hx1, hx2, hx3⟩ := own_cells27 ho q hn0 hq1
      have HO := Aside0.mk ho
      have HX := Aside0.mk (And.intro hx0 (And.intro hx1 (And.intro hx2 hx3)))
      have HB3 := Aside0.mk b3
      have HBK3 := Aside0.mk (blk_below HBK2.out b3)
      have hne : g ≠ gb := by have := blk_lt HBK2.out; omega
      have HNE := Aside0.mk hne
      have HGG := Aside0.mk hgb
      clear ho hgb hne h HS2 HC2 b3
      have HQ1 := Aside0.mk hq1
      have HQ0 := Aside0.mk hn0
      go_wp2_with ((with_reducible refine gate_ (.store 2 (.tmp 26) (.tmp 24)) rfl ?_); refine Hold.out ?_)
      constructor
      (refine Kd.R_store k27 (w0 := w2) w2.heap.size rfl rfl 2 (.tmp 26) (.tmp 24) rfl 27 (g := g) (n := c.length) (cap := c3) (o' := q.toNat * 4 + 1) q 1 c (readAt (rd_T27 c q) a1) (.int .i64 m) [.int .i64 m] [.int .i64 (rd_T27 c q).f0, .int .i64 (rd_T27 c q).f1, .string (rd_T27 c q).f2, .bool (rd_T27 c q).f3] (fun _ => True) (fun _ => False) rfl rfl rfl rfl (by kernel_rfl) (by simp [Value.oneCell']) HO.out HQ0.out HQ1.out rfl (four_at HX.out.1 HX.out.2.1 HX.out.2.2.1 HX.out.2.2.2) (show 1 + 1 ≤ 4 by decide) (by rw [← HM.out]; exact k27_mkM _ _ _ _) (fun _ h => h.elim) HB3.out ?_; intro w4 hR4 hB4 hG4; have HR4 := Aside0.mk hR4; have HB4 := Aside0.mk hB4; have HBK4 := Aside0.mk (blk_grown HBK3.out hG4 (by have := HNE.out; intro he; injection he with he; exact this he.symm)); clear hR4 hB4 hG4 HBK3)
      obtain ⟨hw0, hw1, hw2, hw3⟩ := own_cells27 HR4.out q HQ0.out (by rw [List.length_set]; exact HQ1.out)
      rw [rd_set27 c q _ HQ0.out HQ1.out] at hw0 hw1 hw2 hw3
      rw [HM.out] at hw1
      have z0 := blk_cell HBK4.out 0
      have z1 := blk_cell HBK4.out 1
      have z2 := blk_cell HBK4.out 2
      have z3 := blk_cell HBK4.out 3
      have y0 := blk_frozen HBK4.out 0
      have y1 := blk_frozen HBK4.out 1
      have y2 := blk_frozen HBK4.out 2
      have y3 := blk_frozen HBK4.out 3
      simp only [List.getElem?_toArray, List.getElem?_cons_zero, List.getElem?_cons_succ] at z0 z1 z2 z3
      have hq2 : q < (c.length : Int) := HQ1.out
      clear hx0 hx1 hx2 hx3 h hmx
      go_wp2
      go_region
      clear hw0 hw1 hw2 hw3 y0 y1 y2 y3 z0 z1 z2 z3
      go_wp2
      refine bodyPost_ret (results_tmp_cell_row rfl _ _ gb 27 #[.int .i64 (readAt (rd_T27 c q) a1).f0, .int .i64 m, .string (readAt (rd_T27 c q) a1).f2, .bool (readAt (rd_T27 c q) a1).f3] (0, 0) _ rfl (blk_drew (blk_set (blk_set (blk_set (blk_set HBK4.out 0 _) 1 _) 2 _) 3 _)) Try.underlying27 rfl (by kernel_rfl)) rfl ?_
      have hf : ∀ k_, (w2.heap.size ≤ k_) → k_ ≠ gb := fun k_ hk_ => by have := blk_lt HBK2.out; omega
      have hR : Kd.R k27 27 w4 w2.heap.size (fun k_ => w2.heap.size ≤ k_) (.slice (some ⟨g, 0, none⟩) (c.set q.toNat (readAt (rd_T27 c q) a1)).length c3) (c.set q.toNat (readAt (rd_T27 c q) a1)) := Kd.R_mono (Kd.R_bound (by rw [List.length_set]; exact HR4.out)) (fun k_ hk_ => hk_.2.1)
      have hV := Kd.V_mk (e := 27) (base := w.heap.size) (Kd.R_reads' hR).2.1 (Kd.R_F hR)
      rw [List.length_set] at hV
      have hsz : w.heap.size ≤ w2.heap.size := HB2.out.size
      exact ⟨_, rfl, Kd.V_drew (Kd.V_mono (Kd.V_far (Kd.V_far (Kd.V_far (Kd.V_far hV hf _) hf _) hf _) hf _) (fun k_ hk_ => .inr (Nat.le_trans hsz hk_))), below_drew (below_set (below_set (below_set (below_set (HB2.out.trans (HB4.out.mono hsz)) HG.out) HG.out) HG.out) HG.out)⟩
    · rw [if_neg hq1] at h
      cases h


end Go.Proofs.Ytdiahlfhcbcceaa.P
