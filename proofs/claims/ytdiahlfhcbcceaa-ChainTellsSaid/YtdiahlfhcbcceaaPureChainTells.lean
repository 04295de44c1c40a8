/- ChainTells: the document's answers are the program's. -/
import Derived.Test.YtdiahlfhcbcceaaChainF
import Derived.Test.YtdiahlfhcbcceaaPx24
namespace Go.Proofs.Ytdiahlfhcbcceaa.Pure
open Go.RowKit Go.Proofs.Ytdiahlfhcbcceaa.P Go.Proofs.YtdiahlfhcbcceaaW.PrintWords Go.Proofs.YtdiahlfhcbcceaaW.PrintLast Go.Proofs.YtdiahlfhcbcceaaW.PrintMore

theorem fwd (l : List S27) : (l.map to30).map to27 = l := by
  rw [List.map_map]
  exact List.map_id'' (fun _ => rfl) l

theorem ChainTells {p : Prop} (l0 : List S30) (a1 : Int) (a2 : ByteArray) (_ : ∀ x ∈ l0, True) (_ : (Lit.int .i64 a1).wf = true) (_ : p) : ∃ k, ogivelaw10_ChainTells.f k l0 a1 a2 = some true ∧ true = true := by
  refine ⟨1000, ?_, rfl⟩
  unfold ogivelaw10_ChainTells.f
  rw [awake_tells 1000 (by omega)]
  simp only [Option.bind_some]
  by_cases c : (l0.length : Int) > 100
  · rw [if_pos c]
  rw [if_neg c]
  obtain ⟨l, rfl⟩ : ∃ l : List S27, l0 = l.map to30 := ⟨l0.map to27, (back l0).symm⟩
  have hl : l.length ≤ 100 := by rw [List.length_map] at c; omega
  rw [made_tells _ (by rw [List.length_map]; omega) 1000 (by rw [List.length_map]; omega), fwd]
  simp only [Option.bind_some]
  obtain ⟨rr, ra, rb, rc, rd, hr1, hr2, hr3⟩ := rread_tells l hl a1 1000 (by omega)
  obtain ⟨wr, we, hw1, hw2, hw3⟩ := rwrite_tells l hl a1 a2 1000 (by omega)
  obtain ⟨b, hb, _⟩ := may_any l (by omega) 1000 (by omega)
  have hlook := rlook_tells l hl a1 1000 (by omega)
  obtain ⟨q, hq⟩ : ∃ q, chain_Look.f 1000 l a1 = some q := by
    rcases seen_or l a1 (by omega) with ⟨h, _⟩ | ⟨hg, pre, x, post, hp⟩
    · exact ⟨_, h 1000 (by omega)⟩
    · exact ⟨_, look_parts hp hg (by omega) 1000 (by omega)⟩
  rw [hr1, hr3, hw1, hw3, rmay_tells, hb, hlook, hq]
  simp only [Option.bind_some]
  rw [if_neg (by simp), if_pos trivial, if_neg (by simp)]
  have e : (we != we) = false := by simp
  rw [e]
  obtain ⟨cr, hc1, hc2, hc3⟩ := rcommit_tells l hl a1 999 (by omega)
  obtain ⟨ar, ha1, ha2, ha3⟩ := rabort_tells l hl a1 999 (by omega)
  have same : ∀ z : List S27, z.length ≤ 101 → ogivelaw10_real.f 999 z = some (z.map to30) ∧ ogiveref10_Same.f 999 (z.map to30) (z.map to30) = some true := fun z hz =>
    ⟨real_tells z (by omega) 999 (by omega), same_tells _ (by rw [List.length_map]; omega) 999 (by rw [List.length_map]; omega)⟩
  simp only [ogivelaw10_ChainTells.j0]
  rw [(same rr hr2).1, (same wr hw2).1, hc1, hc3, ha1, ha3, (same l (by omega)).1]
  simp only [Option.bind_some, (same rr hr2).2, (same wr hw2).2, (same cr hc2).1, (same cr hc2).2, (same ar ha2).1, (same ar ha2).2, (same l (by omega)).2]
  simp
end Go.Proofs.Ytdiahlfhcbcceaa.Pure
