/- slices.Delete at moves, one of them. Condition: a row that a machine holds. -/
import Derived.Test.YtjjgjflbhpoloaaOrdD
import Derived.WalkKit
import Derived.Deep.RegionLaw
import Derived.Laws.IdiomCopy
set_option linter.unusedVariables false
set_option linter.unusedSimpArgs false
namespace Go.Proofs.Ytjjgjflbhpoloaa
open Go Go.Abs Go.RowKit
set_option maxHeartbeats 4000000 in
set_option maxRecDepth 100000 in
theorem del_raw (blk c k i j : Nat) (news : List Value) (w W1 W2 : World) (hlt : i < j) (hjk : j ≤ k) (hkc : k ≤ c) (hm : c ≤ 9223372036854775807)
  (hnl : news.length = (k - j) * 6) (hone : ∀ u ∈ news, u.oneCell' = true) (A : Addr) (hA : (if c = j then some (⟨blk, 0, none⟩ : Addr) else some ⟨blk, 0 + j * 6, none⟩) = some A)
  (hsrc : ∀ t u, news[t]? = some u → w.drew.cell? (A.add t) = some u)
  (hsp : ∀ t, t < news.length → (w.drew.cell? ⟨blk, 0 + i * 6 + t, none⟩).isSome = true ∧ w.drew.frozen? ⟨blk, 0 + i * 6 + t, none⟩ = false)
  (hW1 : Hid (W1 = w.drew.setCells blk (0 + i * 6) news))
  (hcl : ∀ ty, (Builtin.clear_ #[25] ty #[.slice (some ⟨blk, (i + (k - j)) * 6, none⟩) (k - (i + (k - j))) (c - (i + (k - j)))]).run Try.prog W1 = .ok (.tuple #[]) W2) :
  Calls Try.prog 72 #[.slice (some ⟨blk, 0, none⟩) k c, .int .i64 i, .int .i64 j] w fun e w' => e = .returned (.slice (some ⟨blk, 0, none⟩) (i + (k - j)) c) ∧ w' = W2 := by
 have hic : i ≤ c := by omega
 have hjc : j ≤ c := by omega
 have hij : i ≤ j := by omega
 have heq : ¬ i = j := by omega
 obtain ⟨i0, hu0, hi0, hz0, _, _⟩ := ok_slice (show (TI.slice 36 6 48).okB Try.prog 25 = true by kernel_rfl)
 go_enter Try.func72, Try.ntmps72
 go_wp2_with fail
 go_region_law (refine step_append_room rfl (.tmp 22) (.tmp 25) 25 rfl 36 i0 6 hu0 hi0 hz0 blk 0 i c (by simp [Act.eval, Act.put]) A (k - j) (c - j) news (by simp [Act.eval, Act.put]; simpa using hA) hnl hsrc hone (by omega) hsp ?_; rw [← hW1.out])
 go_wp2
 all_goals go_ret
 all_goals exact ⟨rfl, rfl⟩
theorem zero6 {z : Value} (h : z.cells.toList = [.int .i64 0, .int .i64 0, .int .i64 0, .int .i64 0, .int .i64 0, .int .i64 0]) : (Builtin.zeroCells z.cells (0 + 1)).toList = [.int .i64 0, .int .i64 0, .int .i64 0, .int .i64 0, .int .i64 0, .int .i64 0] := by
 have e : z.cells = #[.int .i64 0, .int .i64 0, .int .i64 0, .int .i64 0, .int .i64 0, .int .i64 0] := by rw [← Array.toArray_toList (xs := z.cells), h]
 rw [e]; simp [Builtin.zeroCells, List.range_succ, Array.range]
theorem res_inj {w w' : World} (h : Result.ok () w = Result.ok () w') : w = w' := by cases h; rfl
theorem getD_erase {L : List Mov} {i t : Nat} (hi : i < L.length) : (L.eraseIdx i).getD t default = if t < i then L.getD t default else L.getD (t + 1) default := by
 rw [List.getD_eq_getElem?_getD, List.getElem?_eraseIdx]
 split
 ·rw [List.getD_eq_getElem?_getD]
 ·rw [List.getD_eq_getElem?_getD]
set_option maxHeartbeats 4000000 in
theorem m_Delete (N : Nat) (L : List Mov) (i : Nat) (hi : i < L.length) (hN : L.length ≤ N) : ACallM B.P 72 ⟨[.sl 1001 L.length, .i64 i, .i64 ((i + 1 : Nat) : Int)], [(1001, rwM N L)], .sl 1001 (L.eraseIdx i).length, [(1001, rwM N (L.eraseIdx i))]⟩ := by
 have hel : (L.eraseIdx i).length = L.length - 1 := List.length_eraseIdx_of_lt hi
 have hfn : fnB B.P 72 = true := by kernel_rfl
 unfold ACallM
 refine ⟨hfn, ⟨⟨trivial, trivial⟩, ⟨rfl, trivial, trivial, trivial⟩, ⟨trivial, trivial⟩⟩, ?_⟩
 intro F τ w vs hr hlen hargs
 obtain ⟨v0, v1, v2, rfl⟩ : ∃ v0 v1 v2, vs = [v0, v1, v2] := by
  match vs, hlen with
  | [a, b, c], _ => exact ⟨a, b, c, rfl⟩
 have a0 := hargs 0 _ rfl
 have a1 := hargs 1 _ rfl
 have a2 := hargs 2 _ rfl
 simp only [List.getD_cons_zero, List.getD_cons_succ] at a0 a1 a2
 cases a1
 cases a2
 obtain ⟨u0, q1, q2⟩ := hr.obj ⟨1001, []⟩ _ (Has.of_look rfl rfl)
 have q2' := q2
 obtain ⟨xs, hown, r3, r4⟩ := q2'
 cases a0 with
 | sl _ _ _ A m c hτ hnm hmc hA =>
  have hτ : τ ⟨1001, []⟩ = some (.slice A m c) := hτ
  rw [hτ] at q1; injection q1 with q1; subst q1
  have hm := own_form hown
  subst hm
  rcases hown.2 with ⟨h', h0'⟩ | ⟨g, cap, cur, hv, _, hg, hnc, hcm, hcs, htk⟩
  ·omega
  simp only [Value.slice.injEq] at hv
  obtain ⟨rfl, _, rfl⟩ := hv
  -- the cells
  have hcell : ∀ t, t < m * 6 → cur[t]? = xs[t]? := fun t ht => by
   rw [← Array.getElem?_toList, ← htk, List.getElem?_take, if_pos ht]
  have hxv : ∀ t, t < m * 6 → ∃ n : Int, xs[t]? = some (.int .i64 n) := fun t ht => by
   have h1 : t / 6 < m := by omega
   have h2 : t % 6 < 6 := Nat.mod_lt _ (by decide)
   have h3 : t / 6 * 6 + t % 6 = t := by omega
   obtain ⟨x, hx⟩ : ∃ x, (Mov.cells (L.getD (t / 6) default))[t % 6]? = some x := ⟨_, List.getElem?_eq_getElem (by simpa using h2)⟩
   have h4 := r4 (t / 6) (t % 6) x h1 hx
   rw [h3] at h4
   have hlx : t < xs.length := by rw [hown.1]; exact ht
   rw [List.getD_eq_getElem?_getD, List.getElem?_eq_getElem hlx, Option.getD_some] at h4
   have h5 : ∃ n : Int, x = .i64 n := by
    match t % 6, h2, hx with
    | 0, _, hx => injection hx with hx; exact ⟨_, hx.symm⟩
    | 1, _, hx => injection hx with hx; exact ⟨_, hx.symm⟩
    | 2, _, hx => injection hx with hx; exact ⟨_, hx.symm⟩
    | 3, _, hx => injection hx with hx; exact ⟨_, hx.symm⟩
    | 4, _, hx => injection hx with hx; exact ⟨_, hx.symm⟩
    | 5, _, hx => injection hx with hx; exact ⟨_, hx.symm⟩
   obtain ⟨n, rfl⟩ := h5
   refine ⟨n, ?_⟩
   rw [List.getElem?_eq_getElem hlx]
   generalize xs[t] = y at h4
   cases h4; rfl
  obtain ⟨news, hnews⟩ : ∃ news, news = (xs.drop ((i + 1) * 6)).take ((L.length - (i + 1)) * 6) := ⟨_, rfl⟩
  have hxl : xs.length = m * 6 := hown.1
  have hnl : news.length = (L.length - (i + 1)) * 6 := by rw [hnews]; simp only [List.length_take, List.length_drop]; omega
  have hng : ∀ t, t < (L.length - (i + 1)) * 6 → news[t]? = xs[(i + 1) * 6 + t]? := fun t ht => by rw [hnews, List.getElem?_take, if_pos ht, List.getElem?_drop]
  have hone : ∀ u ∈ news, u.oneCell' = true := fun u hu => by
   obtain ⟨t, ht, e⟩ := List.mem_iff_getElem.1 hu
   have h1 := hng t (by omega)
   obtain ⟨n, h2⟩ := hxv ((i + 1) * 6 + t) (by omega)
   rw [List.getElem?_eq_getElem ht, e, h2] at h1
   have h3 : u = .int .i64 n := Option.some.inj h1
   rw [h3]; rfl
  have hcw : ∀ o, w.drew.cell? ⟨g, o, none⟩ = cur[o]? := fun o => by
   have h : w.drew.heap[g]? = some (.cells cur 36 (0, 0)) := hg
   exact (cell_of_row (w.drew) g o cur 36 (0, 0) h)
  have hfz : ∀ o, w.drew.frozen? ⟨g, o, none⟩ = false := fun o => by
   have h : w.drew.heap[g]? = some (.cells cur 36 (0, 0)) := hg
   unfold World.frozen?
   simp [h]
  obtain ⟨W1, hW1⟩ : ∃ W1, W1 = w.drew.setCells g (0 + i * 6) news := ⟨_, rfl⟩
  obtain ⟨zs, hzs⟩ : ∃ zs : List Value, zs = [.int .i64 0, .int .i64 0, .int .i64 0, .int .i64 0, .int .i64 0, .int .i64 0] := ⟨_, rfl⟩
  -- what holds on the way
  have R0 : RelA (cxM B.P 0 F τ w) τ F ⟨[], [(1001, rwM m L)]⟩ ⟨#[], []⟩ w := ⟨hr, rfl, rfl, fun t x h => by cases h⟩
  have R1 := R0.later (w' := w.drew) ⟨rfl, rfl, rfl, Nat.le_refl _, fun _ _ => rfl⟩
  obtain ⟨V1, s1, R2⟩ := R1.writeSpan (id := ⟨1001, []⟩) (off := i) (q := L.length - (i + 1)) (src := fun r => Mov.cells (L.getD (i + 1 + r) default)) (news := news) (Has.of_look rfl rfl) hτ (by omega) hnl hone (fun r hr => rfl) (fun r j x h1 h2 => by
   have h3 := r4 (i + 1 + r) j x (by omega) h2
   have hj : j < 6 := by have := (List.getElem?_eq_some_iff.1 h2).1; simpa using this
   have h4 := hng (r * 6 + j) (by omega)
   rw [List.getD_eq_getElem?_getD, h4, show (i + 1) * 6 + (r * 6 + j) = (i + 1 + r) * 6 + j by omega, ← List.getD_eq_getElem?_getD]
   exact h3.mono (fun _ h => h) (fun _ _ => rfl) (fun _ _ h => h))
  have hcz : cur.size = c * 6 := hcs
  have hci : ∀ o, o < c * 6 → (w.drew.cell? ⟨g, o, none⟩).isSome = true := fun o ho => by
   rw [hcw, Array.getElem?_eq_getElem (by omega)]; rfl
  have e1 : V1 = W1 := by
   have h := run_storeCells_cells (P := Try.prog) g (i * 6) news 0 w.drew (fun t ht => hci _ (by omega)) (fun t ht => hfz _) hone
   rw [res_inj (s1.symm.trans h), hW1, Nat.add_zero, Nat.zero_add]
  rw [e1] at R2
  have hz : zeroCells Try.prog 36 = some zs := by rw [hzs]; kernel_rfl
  have hzo : ∀ u ∈ zs, u.oneCell' = true := fun u hu => by rw [hzs] at hu; simp at hu; rw [hu]; rfl
  obtain ⟨W2, s2, R3⟩ := R2.writeSpan (id := ⟨1001, []⟩) (off := i + (L.length - (i + 1))) (q := 1) (src := fun r => Mov.cells default) (news := zs) (Has.of_look rfl rfl) hτ (by omega) (by rw [hzs]; rfl) hzo (fun r hr => rfl) (fun r j x h1 h2 => by
   have hr : r = 0 := by omega
   subst hr
   rw [hzs, Nat.zero_mul, Nat.zero_add]
   have hj : j < 6 := by have := (List.getElem?_eq_some_iff.1 h2).1; simpa using this
   match j, hj, h2 with
   | 0, _, h2 => injection h2 with h2; subst h2; exact .val _ _
   | 1, _, h2 => injection h2 with h2; subst h2; exact .val _ _
   | 2, _, h2 => injection h2 with h2; subst h2; exact .val _ _
   | 3, _, h2 => injection h2 with h2; subst h2; exact .val _ _
   | 4, _, h2 => injection h2 with h2; subst h2; exact .val _ _
   | 5, _, h2 => injection h2 with h2; subst h2; exact .val _ _)
  have hok : (TI.slice 36 6 48).okB Try.prog 25 = true := by kernel_rfl
  have ek : L.length - (i + (L.length - (i + 1))) = 0 + 1 := by omega
  have hcl : ∀ ty, (Builtin.clear_ #[25] ty #[.slice (some ⟨g, (i + (L.length - (i + 1))) * 6, none⟩) (L.length - (i + (L.length - (i + 1)))) (c - (i + (L.length - (i + 1))))]).run Try.prog W1 = .ok (.tuple #[]) W2 := fun ty =>
   clear_run hok hz (.inr ⟨_, 0, ek, rfl, fun z hzc => by rw [zero6 (by rw [hzc, hzs])]; rw [hzs] at s2; exact s2⟩)
  obtain ⟨A, hA, hA2⟩ : ∃ A : Addr, (if c = i + 1 then some (⟨g, 0, none⟩ : Addr) else some ⟨g, 0 + (i + 1) * 6, none⟩) = some A ∧ ∀ t u, news[t]? = some u → w.drew.cell? (A.add t) = some u := by
   by_cases h : c = i + 1
   ·refine ⟨_, by rw [if_pos h], fun t u hu => ?_⟩
    have := (List.getElem?_eq_some_iff.1 hu).1
    omega
   ·refine ⟨_, by rw [if_neg h], fun t u hu => ?_⟩
    have ht := (List.getElem?_eq_some_iff.1 hu).1
    rw [add_none, hcw, Nat.zero_add, hcell _ (by omega), ← hng t (by omega)]
    exact hu
  refine (del_raw g c L.length i (i + 1) news w W1 W2 (by omega) (by omega) (by omega) (by unfold maxLen at hcm; omega) hnl hone A hA hA2 (fun t ht => ⟨hci _ (by omega), hfz _⟩) hW1 hcl).mono ?_
  rintro e' w' ⟨rfl, rfl⟩
  refine ⟨_, F, _, rfl, RelA.subW R3.wr (And.intro trivial (And.intro ⟨_, _, rfl, rfl, fun j hj => ?_⟩ (And.intro trivial trivial))), ?_⟩
  ·show Mov.cells ((L.eraseIdx i).getD j default) = if i + (L.length - (i + 1)) ≤ j ∧ j < i + (L.length - (i + 1)) + 1 then Mov.cells default else if i ≤ j ∧ j < i + (L.length - (i + 1)) then Mov.cells (L.getD (i + 1 + (j - i)) default) else Mov.cells (L.getD j default)
   rw [getD_erase hi]
   by_cases c1 : j < i
   ·rw [if_pos c1, if_neg (by omega), if_neg (by omega)]
   ·rw [if_neg c1]
    by_cases c2 : j < L.length - 1
    ·rw [if_neg (by omega), if_pos (by omega), show i + 1 + (j - i) = j + 1 by omega]
    ·rw [List.getD_eq_getElem?_getD, List.getElem?_eq_none (by omega)]
     by_cases c3 : j = L.length - 1
     ·rw [if_pos (by omega)]; rfl
     ·rw [if_neg (by omega), if_neg (by omega), List.getD_eq_getElem?_getD, List.getElem?_eq_none (by omega)]
  ·have hd : domP [(1001, rwM m (L.eraseIdx i))] ⟨1001, []⟩ := rfl
   show Rep F _ _ (.sl 1001 (L.eraseIdx i).length) (.slice _ (i + (L.length - (i + 1))) c)
   rw [show i + (L.length - (i + 1)) = (L.eraseIdx i).length by omega]
   exact Rep.sl _ _ _ _ m c ((if_pos hd).trans hτ) (by omega) hmc (fun _ => ⟨g, rfl⟩)
end Go.Proofs.Ytjjgjflbhpoloaa
