/- Contracts of the law's moves; what the steps come to. Condition: moves that a machine holds. -/
import Derived.Test.YtjjgjflbhpoloaaOrdI
set_option linter.unusedVariables false
set_option linter.unusedSimpArgs false
namespace Go.Proofs.Ytjjgjflbhpoloaa
open Go Go.Abs Go.RowKit
theorem c_moves (l : List Mov) (hl : l.length * 48 ≤ 140737488355328) : ACallIs B.P 10 [roL 6 Mov.cells l] (roL 6 Mov.cells l) := by
 refine ACallIs.enter B _ _ Try.func10 rfl rfl Try.ntmps10 Try.results10 rfl fun hreal => ?_
 refine AWp.seq (AWp.region ?_)
 intro _
 refine AWp.seq (AWp.region ?_)
 refine And.intro (fun i hi => rfl) ?_
 refine And.intro (by simpa using hl) ?_
 intro _
 refine AWp.freeze 4 (fun i => Mov.cells (l.getD i default)) rfl (fun i hi => rfl) ?_
 refine AWp.ret ⟨Or.inl rfl, rfl, ?_⟩
 intro _
 rfl
section
variable {m : Mch} {fr n : Nat} {σ w : Nat → Int} {K : Plc → Int} {L : List Mov}
theorem lef_pos (L : List Mov) : 0 < lefF L := by
 unfold lefF
 cases L with
 | nil => decide
 | cons a l => simp only [List.length_cons]; omega
theorem doI_it (hm : machF m = 0) (I : DoI m fr n σ w K L []) : ∀ k, DoI m fr n σ w K (itF m fr K (L, []) k).1 (itF m fr K (L, []) k).2 ∧ ((itF m fr K (L, []) k).1.length = 0 ∨ lefF (itF m fr K (L, []) k).1 + k ≤ lefF L)
 | 0 => ⟨I, .inr (Nat.le_refl _)⟩
 | k + 1 => by
  obtain ⟨h1, h2⟩ := doI_it hm I k
  show DoI m fr n σ w K (stF m fr K (itF m fr K (L, []) k)).1 (stF m fr K (itF m fr K (L, []) k)).2 ∧ ((stF m fr K (itF m fr K (L, []) k)).1.length = 0 ∨ lefF (stF m fr K (itF m fr K (L, []) k)).1 + (k + 1) ≤ lefF L)
  by_cases h0 : (itF m fr K (L, []) k).1.length = 0
  ·rw [stF_nil h0]; exact ⟨h1, .inl h0⟩
  ·obtain ⟨h3, h4⟩ := DoI.step (s := itF m fr K (L, []) k) h1 hm (by omega)
   refine ⟨h3, .inr ?_⟩
   rcases h2 with h2 | h2
   ·exact absurd h2 h0
   ·omega
theorem doI_out (hm : machF m = 0) (I : DoI m fr n σ w K L []) : DoI m fr n σ w K [] (outF m fr K L) := by
 obtain ⟨h1, h2⟩ := doI_it hm I (lefF L)
 have h0 : (itF m fr K (L, []) (lefF L)).1.length = 0 := by
  rcases h2 with h2 | h2
  ·exact h2
  ·have := lef_pos (itF m fr K (L, []) (lefF L)).1
   omega
 have e := List.eq_nil_of_length_eq_zero h0
 rw [e] at h1
 exact h1
end
theorem mvF_zero {m : Mch} {l : List Mov} {cs : List Int} {fr : Int} (h : mvF m l cs fr = 0) : machF m = 0 ∧ (0 ≤ fr ∧ fr < 1000) ∧ l.length ≤ 5000 ∧ ∀ j, j < l.length → mvG m l cs fr j = 0 := by
 unfold mvF at h
 split at h
 ·rename_i h1; exact absurd h h1
 rename_i h1
 split at h
 ·cases h
 rename_i h2
 split at h
 ·cases h
 rename_i h3
 exact ⟨by simpa using h1, by omega, by omega, firstF_zero h⟩
end Go.Proofs.Ytjjgjflbhpoloaa
