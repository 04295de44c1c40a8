/- ChainUndone: what was written, and is aborted, is as if it hadn't been written. -/
import Derived.Test.YtdiahlfhcbcceaaChainD
import Derived.Test.YtdiahlfhcbcceaaPx29
namespace Go.Proofs.Ytdiahlfhcbcceaa.Pure
open Go.RowKit Go.Proofs.Ytdiahlfhcbcceaa.P

theorem undone_yes (l : List S27) (a b : Int) (v : ByteArray) (k : Nat) : ogivelaw10_ChainUndone.j0 (k + 1) true l true a b v = some true := by
  simp only [ogivelaw10_ChainUndone.j0]
  rfl

theorem ChainUndone (l0 : List S51) (a1 : S51) (_ : ∀ x ∈ l0, True) (_ : True) : ∃ k, ogivelaw10_ChainUndone.f k l0 a1.f0 a1.f1 a1.f2 = some true := by
  obtain ⟨a, b, v⟩ := a1
  refine ⟨1000, ?_⟩
  obtain ⟨l, h, hI, hl⟩ := run_tells l0
  unfold ogivelaw10_ChainUndone.f
  rw [awake_tells 1000 (by omega)]
  simp only [Option.bind_some]
  rw [h 1000 (by omega)]
  simp only [Option.bind_some]
  by_cases c0 : b < 0
  · rw [hI.look_neg c0 (by omega) 1000 (by omega)]
    simp only [Option.bind_some]
    rw [if_pos (by omega)]
    exact undone_yes ..
  obtain ⟨pre, x, post, hp⟩ := hI.parts (show 0 ≤ b by omega)
  have hat := hp.at_
  have hlen := len_mid pre x post
  rw [← hp.eq] at hlen
  rw [look_parts hp hI.good (by omega) 1000 (by omega)]
  simp only [Option.bind_some]
  by_cases c1 : b < 1
  · rw [if_pos c1]
    exact undone_yes ..
  rw [if_neg c1, if_neg (by omega), if_neg (by omega), if_pos (by omega), if_pos (by omega)]
  have er : rd_T27 l (pre.length : Int) = x := by rw [hp.eq]; exact rd_mid pre x post
  rw [er]
  by_cases c2 : x.f0 = b
  · have e2 : (x.f0 == b) = true := by simpa using c2
    rw [e2]
    exact undone_yes ..
  have e2 : (x.f0 == b) = false := by simpa using c2
  rw [e2]
  simp only [ogivelaw10_ChainUndone.j0]
  rw [write_tells hp hI.good (by omega) v 999 (by omega)]
  simp only [Option.bind_some]
  by_cases c3 : x.f1 > b
  · rw [if_pos c3]
    simp only
    have f1 : chain_Commit.f 999 l b = some l := by rw [commit_tells hp hI.good (by omega) 999 (by omega), if_neg c2]
    have f2 : chain_Abort.f 999 l b = some l := by rw [abort_tells hp hI.good (by omega) 999 (by omega), if_neg (fun h => c2 h.1)]
    rw [f1, f2]
    simp only [Option.bind_some, if_true]
    rw [real_tells l (by omega) 999 (by omega)]
    simp only [Option.bind_some]
    rw [same_tells _ (by rw [List.length_map]; omega) 999 (by rw [List.length_map]; omega)]
    rfl
  · rw [if_neg c3, if_pos (by omega : x.f0 < b)]
    simp only
    have hD : Did l 2 b v (pre ++ x :: ⟨b, b, v, false⟩ :: post) := .ins rfl hp (by omega) (by omega)
    have hI1 := hD.inv hI
    have hlen1 := hD.len
    have e3 : pre ++ x :: ⟨b, b, v, false⟩ :: post = (pre ++ [x]) ++ ⟨b, b, v, false⟩ :: post := by simp
    have hp1 : Parts (pre ++ x :: ⟨b, b, v, false⟩ :: post) b (pre ++ [x]) ⟨b, b, v, false⟩ post := ⟨e3, fun y hy => by
      rcases List.mem_append.1 hy with hy | hy
      · have := hp.pre y hy
        show y.f0 < b
        omega
      · obtain rfl : y = x := by simpa using hy
        show y.f0 < b
        omega, Int.le_refl _, hp.post⟩
    have hD2 : Did (pre ++ x :: ⟨b, b, v, false⟩ :: post) 3 b v ((pre ++ [x]) ++ doneAt ⟨b, b, v, false⟩ :: post) := .commit rfl hp1 rfl
    have hI2 := hD2.inv hI1
    have hlen2 : ((pre ++ [x]) ++ doneAt ⟨b, b, v, false⟩ :: post).length = l.length + 1 := by rw [len_mid, hlen]; simp; omega
    have hp2 : Parts ((pre ++ [x]) ++ doneAt ⟨b, b, v, false⟩ :: post) b (pre ++ [x]) (doneAt ⟨b, b, v, false⟩) post := ⟨rfl, hp1.pre, Int.le_refl _, hp.post⟩
    have e4 : (pre ++ [x]) ++ post = l := by rw [hp.eq]; simp
    have f1 : chain_Commit.f 999 (pre ++ x :: ⟨b, b, v, false⟩ :: post) b = some ((pre ++ [x]) ++ doneAt ⟨b, b, v, false⟩ :: post) := by rw [commit_tells hp1 hI1.good (by omega) 999 (by omega), if_pos rfl]
    have f2 : chain_Abort.f 999 (pre ++ x :: ⟨b, b, v, false⟩ :: post) b = some l := by rw [abort_tells hp1 hI1.good (by omega) 999 (by omega), if_pos ⟨rfl, rfl⟩, e4]
    have f3 : chain_Abort.f 999 ((pre ++ [x]) ++ doneAt ⟨b, b, v, false⟩ :: post) b = some ((pre ++ [x]) ++ doneAt ⟨b, b, v, false⟩ :: post) := by rw [abort_tells hp2 hI2.good (by omega) 999 (by omega), if_neg (fun h => by simp [doneAt] at h)]
    rw [f1, f2]
    simp only [Option.bind_some, if_true]
    rw [real_tells l (by omega) 999 (by omega)]
    simp only [Option.bind_some]
    rw [same_tells _ (by rw [List.length_map]; omega) 999 (by rw [List.length_map]; omega)]
    simp only [Option.bind_some, if_true]
    rw [f3]
    simp only [Option.bind_some]
    rw [real_tells _ (by omega) 999 (by omega)]
    simp only [Option.bind_some]
    rw [same_tells _ (by rw [List.length_map]; omega) 999 (by rw [List.length_map]; omega)]
    simp only [Option.bind_some, if_true]
    rw [hlen2]
    have e5 : wrap64 ((l.length : Int) + 1) = ((l.length + 1 : Nat) : Int) := by unfold wrap64; omega
    rw [e5]
    simp
end Go.Proofs.Ytdiahlfhcbcceaa.Pure
