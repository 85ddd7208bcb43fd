/- Text's words: strings.Builder and strconv.Itoa as callees, text.Show and the document's ScriptText: their contracts. Condition: a script that may be. -/
import Derived.Test.YtgkdmdfjfepcdaaDoorTab
import Derived.Shelf.Strings.BuilderK
import Derived.Shelf.Strconv.Itoa3
import Derived.Test.YtgkdmdfjfepcdaaDoorWir
import Derived.Lib.ItoaLen
set_option linter.unusedVariables false
set_option linter.unusedSimpArgs false
/- A strings.Builder's copyCheck, and strconv.Itoa, by their contracts over raw worlds. Condition: none. -/
namespace Go.Proofs.YtgkdmdfjfepcdaaDoor
open Go Go.Abs Go.RowKit Go.Shelf Go.Proofs

theorem lies_row {P : Program} {e c d : Nat} (hd : P.depth = d + 1) (hs : P.cellsOf e ≠ 0) (hc : 1 ≤ c) : liesAt P P.depth e c 0 e 1 = true := by
  rw [hd]
  have h1 : sameLayout P P.depth e e = true := by rw [hd]; unfold sameLayout; simp
  unfold liesAt
  rw [hd] at *
  unfold rowAt
  simp [hs, hc, h1]
set_option maxRecDepth 100000 in
theorem cc_fresh (b c : Nat) (w : World) (h0 : w.cell? ⟨b, 0, none⟩ = some (.pointer none)) (hsh : w.shape? b = some (39, c)) (hc : 0 < c) (hl : liesAt Tryd.prog Tryd.prog.depth 39 (c / Tryd.prog.cellsOf 39) 0 39 1 = true) (hfz : w.frozen? ⟨b, 0, none⟩ = false) :
    Calls Tryd.prog 18 #[.pointer (some ⟨b, 0, none⟩)] w fun e w' => e = .returned (.tuple #[]) ∧ w' = w.setCell ⟨b, 0, none⟩ (.pointer (some ⟨b, 0, none⟩)) := by
  obtain ⟨j, hj, hjs⟩ := Option.map_eq_some_iff.1 (show (Tryd.prog.info? 39).map (·.size) = some 2 by kernel_rfl)
  go_enter Tryd.func18, Tryd.ntmps18
  go_wp2
  rw [Lib.run_to_unsafe w ⟨b, 0, none⟩ Tryd.underlying36 Tryd.underlying76 hj (by rw [hjs]; decide) hsh hc]
  simp only [Result.andThen]
  rw [Oper.upon_value]
  go_wp2
  rw [run_callFunc_extern Tryd.func29 (by kernel_rfl) (by kernel_rfl) (by kernel_rfl) (e := Extern.AbiNoEscape.same) (by kernel_rfl)]
  rw [Lib.run_noEscape]
  simp only [Result.andThen]
  rw [Oper.upon_value]
  go_wp2
  rw [Lib.run_from_unsafe w ⟨b, 0, none⟩ Tryd.underlying76 Tryd.underlying36 hj hsh hl]
  simp only [Result.andThen]
  rw [Oper.upon_value]
  go_wp2
  go_end0
  exact ⟨rfl, rfl⟩
set_option maxRecDepth 100000 in
theorem cc_used (b : Nat) (w : World) (h0 : w.cell? ⟨b, 0, none⟩ = some (.pointer (some ⟨b, 0, none⟩))) :
    Calls Tryd.prog 18 #[.pointer (some ⟨b, 0, none⟩)] w fun e w' => e = .returned (.tuple #[]) ∧ w' = w := by
  obtain ⟨j, hj, hjs⟩ := Option.map_eq_some_iff.1 (show (Tryd.prog.info? 39).map (·.size) = some 2 by kernel_rfl)
  go_enter Tryd.func18, Tryd.ntmps18
  go_wp2
  rw [Lib.run_neq_ptr_same w ⟨b, 0, none⟩ Tryd.underlying36 hj]
  simp only [Result.andThen]
  rw [Oper.upon_value]
  go_wp2
  go_end0
  exact ⟨rfl, rfl⟩
@[reducible] def byU (n : UInt8) : List AV := [.val (.int .u8 (n.toNat : Int))]
@[reducible] def rowT (L : List UInt8) : HO := .row 5 1 L.length (fun i => byU (L.getD i 0))
@[reducible] def bld (b e n : Nat) : HO := .rows 39 2 1 (fun _ => [.rp ⟨b, []⟩ 2 0 0, .sl ⟨e, []⟩ n])
@[reducible] def bld0 : HO := .row 39 2 1 (fun _ => [.val (.pointer none), .val (.slice none 0 0)])
@[reducible] def bld1 (b : Nat) : HO := .rows 39 2 1 (fun _ => [.rp ⟨b, []⟩ 2 0 0, .val (.slice none 0 0)])
def strOf (l : List UInt8) : ByteArray := ⟨l.toArray⟩
@[reducible] def strV (l : List UInt8) : AV := .val (.string (strOf l))
theorem row_cell {w : World} {e esz n b m c : Nat} {xs : List Value} (h : w.ownsRow 0 e esz (.slice (some ⟨b, 0, none⟩) m c) n xs) {j : Nat} {v : Value} (hv : xs[j]? = some v) : w.cell? ⟨b, j, none⟩ = some v := by
  have := h.cells (g := b) rfl j v hv
  rw [add_none] at this; simpa using this
theorem m_ccU (n : Nat) (L : List UInt8) : ACallM B.P 18 ⟨[.rp 1001 2 0 0], [(1001, bld 1001 1002 n), (1002, rowT L)], .tup [], [(1001, bld 1001 1002 n), (1002, rowT L)]⟩ := by
  unfold ACallM
  refine ⟨by kernel_rfl, ?_, ?_⟩
  · refine ⟨⟨fun i hi => ⟨rfl, rfl, trivial⟩, trivial, trivial⟩, ⟨rfl, trivial⟩, ⟨trivial, trivial, trivial⟩⟩
  intro F τ w vs hr hlen hargs
  obtain ⟨v0, rfl⟩ : ∃ v0, vs = [v0] := by
    match vs, hlen with
    | [a], _ => exact ⟨a, rfl⟩
  have a0 := hargs 0 _ rfl
  simp only [List.getD_cons_zero] at a0
  obtain ⟨u0, q1, xs, hown, r3, r4⟩ := hr.obj ⟨1001, []⟩ _ (Has.of_look rfl rfl)
  cases a0 with
  | rp _ _ _ _ _ b m c hτ =>
    have hq := Option.some.inj (Eq.trans (Eq.symm q1) hτ)
    subst hq
    have e0 := r4 0 0 (.rp 1001 2 0 0) (by decide) rfl
    have hl : xs.length = 2 := by simpa using hown.1
    obtain ⟨x, y, rfl⟩ : ∃ x y, xs = [x, y] := by
      match xs, hl with
      | [a, b], _ => exact ⟨a, b, rfl⟩
    simp only [Nat.zero_mul, Nat.zero_add, List.getD_cons_zero] at e0
    cases e0 with
    | rp _ _ _ _ _ b' m' c' hτ' =>
      cases Option.some.inj (Eq.trans (Eq.symm hτ) hτ')
      have hc := row_cell hown (j := 0) rfl
      simp only [Nat.zero_mul, Nat.zero_add] at hc ⊢
      refine (cc_used b w hc).mono ?_
      rintro e w' ⟨rfl, rfl⟩
      exact ⟨_, F, τ, rfl, hr, .tup _ [] #[] rfl (fun j c h => by cases h)⟩
theorem m_ccF : ACallM B.P 18 ⟨[.rp 1001 2 0 0], [(1001, bld0)], .tup [], [(1001, bld1 1001)]⟩ := by
  unfold ACallM
  refine ⟨by kernel_rfl, ?_, ?_⟩
  · refine ⟨⟨trivial, trivial⟩, ⟨rfl, trivial⟩, ⟨trivial, trivial⟩⟩
  intro F τ w vs hr hlen hargs
  obtain ⟨v0, rfl⟩ : ∃ v0, vs = [v0] := by
    match vs, hlen with
    | [a], _ => exact ⟨a, rfl⟩
  have a0 := hargs 0 _ rfl
  simp only [List.getD_cons_zero] at a0
  obtain ⟨u0, q1, xs, hown, r3, r4⟩ := hr.obj ⟨1001, []⟩ _ (Has.of_look rfl rfl)
  cases a0 with
  | rp _ _ _ _ _ b m c hτ =>
    have hq := Option.some.inj (Eq.trans (Eq.symm q1) hτ)
    subst hq
    have e0 := r4 0 0 (.val (.pointer none)) (by decide) rfl
    have e1 := r4 0 1 (.val (.slice none 0 0)) (by decide) rfl
    have hl : xs.length = 2 := by simpa using hown.1
    obtain ⟨x, y, rfl⟩ : ∃ x y, xs = [x, y] := by
      match xs, hl with
      | [a, b], _ => exact ⟨a, b, rfl⟩
    simp only [Nat.zero_mul, Nat.zero_add, List.getD_cons_zero, List.getD_cons_succ] at e0 e1
    cases e0
    cases e1
    have hc := row_cell hown (j := 0) rfl
    obtain ⟨g, cap, cur, hv, _, hg, hnc, hcm, hcs, htk⟩ : ∃ g cap cur, Value.slice (some ⟨b, 0, none⟩) m c = .slice (some ⟨g, 0, none⟩) 1 cap ∧ 0 ≤ g ∧ w.heap[g]? = some (.cells cur 39 (0, 0)) ∧ 1 ≤ cap ∧ cap ≤ maxLen ∧ cur.size = cap * 2 ∧ cur.toList.take (1 * 2) = [.pointer none, .slice none 0 0] := by
      rcases hown.2 with ⟨_, h⟩ | h
      · cases h
      · exact h
    cases hv
    have hsh : w.shape? b = some (39, c * 2) := by simp [World.shape?, hg, hcs]
    have hfz : w.frozen? ⟨b, 0, none⟩ = false := by simp [World.frozen?, hg]
    have hco : B.P.cellsOf 39 = 2 := by kernel_rfl
    have hlies : liesAt Tryd.prog Tryd.prog.depth 39 (c * 2 / Tryd.prog.cellsOf 39) 0 39 1 = true := by
      have hco : Tryd.prog.cellsOf 39 = 2 := hco
      rw [hco, Nat.mul_div_cancel _ (by decide : 0 < 2)]
      exact lies_row (d := 2 * (Tryd.prog.types.size + Made.depth) + 1) rfl (by rw [hco]; decide) hnc
    simp only [Nat.zero_mul, Nat.zero_add] at hc ⊢
    refine (cc_fresh b (c * 2) w hc hsh (by omega) hlies hfz).mono ?_
    rintro e w' ⟨rfl, rfl⟩
    have hoth : ∀ k, k ≠ b → (w.setCell ⟨b, 0, none⟩ (.pointer (some ⟨b, 0, none⟩))).heap[k]? = w.heap[k]? := fun k hk => Below.heap_setCell w ⟨b, 0, none⟩ _ k (fun e => hk e)
    have hat : (w.setCell ⟨b, 0, none⟩ (.pointer (some ⟨b, 0, none⟩))).heap[b]? = some (.cells (cur.setIfInBounds 0 (.pointer (some ⟨b, 0, none⟩))) 39 (0, 0)) := by
      simp [World.setCell, Array.getElem?_modify, hg]
    have hsz : (w.setCell ⟨b, 0, none⟩ (.pointer (some ⟨b, 0, none⟩))).heap.size = w.heap.size := by simp [World.setCell]
    have htk2 : (cur.setIfInBounds 0 (.pointer (some ⟨b, 0, none⟩))).toList.take (1 * 2) = [.pointer (some ⟨b, 0, none⟩), .slice none 0 0] := by
      rw [Array.toList_setIfInBounds]
      generalize cur.toList = l at htk
      match l, htk with
      | x :: y :: r, h => simp at h; simp [h]
    have hdom : ∀ {o : HO} {nm : Nm}, o.flat = true → ((∃ y, Has [(1001, o)] nm y) ↔ nm = ⟨1001, []⟩) := fun {o nm} ho => by
      rw [has_cons_ex ho]
      constructor
      · rintro (h | ⟨_, y, hy⟩)
        · exact h
        · obtain ⟨z, hz, _⟩ := hy; cases hz
      · exact fun h => .inl h
    have hget : ∀ {o y : HO} {nm : Nm}, o.flat = true → Has [(1001, o)] nm y → nm = ⟨1001, []⟩ ∧ y = o := fun {o y nm} ho h => by
      rcases (has_cons ho).1 h with h | ⟨_, h⟩
      · exact h
      · obtain ⟨z, hz, _⟩ := h; cases hz
    refine ⟨_, F, τ, rfl, ⟨⟨rfl, rfl, rfl, by rw [hsz]; exact Nat.le_refl _, fun k hk hx => hoth k (fun e => hx (by subst e; exact ⟨_, _, hτ, rfl⟩))⟩, fun k hk => by rw [hsz]; exact hr.fz k hk, hr.fne, hr.fsub, hr.fsup, fun nm v b' h1 h2 => ⟨(hr.tlt nm v b' h1 h2).1, by rw [hsz]; exact (hr.tlt nm v b' h1 h2).2⟩, hr.inj, fun nm o ho => ?_, fun nm v hv => ?_, hr.old, hr.cxn⟩, .tup _ [] #[] rfl (fun j c h => by cases h)⟩
    · obtain ⟨rfl, rfl⟩ := hget rfl ho
      refine ⟨_, hτ, [.pointer (some ⟨b, 0, none⟩), .slice none 0 0], ⟨rfl, .inr ⟨b, c, _, rfl, Nat.zero_le _, hat, hnc, hcm, by simpa using hcs, htk2⟩⟩, fun i hi => rfl, fun i j x hi hx => ?_⟩
      obtain rfl : i = 0 := by omega
      match j, hx with
      | 0, hx =>
        injection hx with hx; subst hx
        have := Rep.rp (F := F) (w := w.setCell ⟨b, 0, none⟩ (.pointer (some ⟨b, 0, none⟩))) τ ⟨1001, []⟩ 2 0 0 b 1 c hτ
        simpa using this
      | 1, hx => injection hx with hx; subst hx; exact .val _ _
    · obtain ⟨o, ho⟩ := hr.dom nm v hv
      obtain ⟨rfl, _⟩ := hget rfl ho
      exact ⟨_, Has.of_look rfl rfl⟩
end Go.Proofs.YtgkdmdfjfepcdaaDoor

/- A strings.Builder's String, WriteString, WriteByte, and strconv.Itoa, as callees. Condition: texts that are not too long. -/
namespace Go.Proofs.YtgkdmdfjfepcdaaDoor
open Go Go.Abs Go.RowKit Go.Shelf Go.Proofs

set_option maxHeartbeats 1000000 in
set_option maxRecDepth 100000 in
theorem str_raw (b g cap : Nat) (cur : Array Value) (l : List UInt8) (w : World) (hb : w.cell? ⟨b, 1, none⟩ = some (.slice (some ⟨g, 0, none⟩) l.length cap)) (hg : w.heap[g]? = some (.cells cur 5 (0, 0))) (h0 : l ≠ []) (hcs : cur.size = cap) (hn : l.length ≤ cap) (hcm : cap ≤ maxLen)
    (hcell : ∀ j x, l[j]? = some x → w.cell? ⟨g, j, none⟩ = some (.int .u8 x.toNat)) :
    Calls Tryd.prog 12 #[.pointer (some ⟨b, 0, none⟩)] w fun e w' => e = .returned (.string ⟨l.toArray⟩) ∧ w' = w.drew.freeze ⟨g, 0, none⟩ l.length := by
  have hl0 : l.length ≠ 0 := by simpa using h0
  have c1 : w.drew.cell? ⟨b, 1, none⟩ = some (.slice (some ⟨g, 0, none⟩) l.length cap) := hb
  have hSD : (Builtin.unsafeSliceData_ #[37] 67 #[.slice (some ⟨g, 0, none⟩) l.length cap]).run Tryd.prog w.drew = .ok (.pointer (some ⟨g, 0, none⟩)) w.drew :=
    Lib.run_unsafeSliceData_row _ _ _ _ _ _ (by omega)
  have hUS : (Builtin.unsafeString_ #[67, 3] 9 #[.pointer (some ⟨g, 0, none⟩), .int .i64 l.length]).run Tryd.prog w.drew = .ok (.string ⟨l.toArray⟩) (w.drew.freeze ⟨g, 0, none⟩ l.length) := by
    refine Lib.run_unsafeString_row w.drew 67 3 9 5 Tryd.underlying67 (by kernel_rfl) g cur.size (by have hg' : w.drew.heap[g]? = some (.cells cur 5 (0, 0)) := hg; simp [World.shape?, hg']) l h0 (by omega) (by unfold maxLen at hcm; omega) ?_
    intro j x hx
    rw [add_none]
    have := hcell j x hx
    simpa using this
  have mixed : Tryd.prog.follows .mixedOrders = true := by kernel_rfl
  go_enter Tryd.func12, Tryd.ntmps12
  go_wp2
  go_region_o
  all_goals (go_wp2; go_ret; exact ⟨rfl, rfl⟩)
theorem m_String (L : List UInt8) (h0 : L ≠ []) : ACallM B.P 12 ⟨[.rp 1001 2 0 0], [(1001, bld 1001 1002 L.length), (1002, rowT L)], strV L, []⟩ := by
  unfold ACallM
  refine ⟨by kernel_rfl, ?_, ?_⟩
  · refine ⟨⟨fun i hi => ⟨rfl, rfl, trivial⟩, trivial, trivial⟩, ⟨rfl, trivial⟩, ⟨trivial, trivial, trivial⟩⟩
  intro F τ w vs hr hlen hargs
  obtain ⟨v0, rfl⟩ : ∃ v0, vs = [v0] := by
    match vs, hlen with
    | [a], _ => exact ⟨a, rfl⟩
  have a0 := hargs 0 _ rfl
  simp only [List.getD_cons_zero] at a0
  have hH : Has [(1001, bld 1001 1002 L.length), (1002, rowT L)] ⟨1001, []⟩ (bld 1001 1002 L.length) := Has.of_look rfl rfl
  have hH2 : Has [(1001, bld 1001 1002 L.length), (1002, rowT L)] ⟨1002, []⟩ (rowT L) := Has.of_look rfl rfl
  obtain ⟨u0, q1, xs, hown, r3, r4⟩ := hr.obj _ _ hH
  obtain ⟨u1, q2, ys, hown2, s3, s4⟩ := hr.obj _ _ hH2
  cases a0 with
  | rp _ _ _ _ _ b m c hτ =>
    have hq := Option.some.inj (Eq.trans (Eq.symm q1) hτ)
    subst hq
    have e1 := r4 0 1 (.sl 1002 L.length) (by decide) rfl
    have hl : xs.length = 2 := by simpa using hown.1
    obtain ⟨x, y, rfl⟩ : ∃ x y, xs = [x, y] := by
      match xs, hl with
      | [a, b], _ => exact ⟨a, b, rfl⟩
    simp only [Nat.zero_mul, Nat.zero_add, List.getD_cons_zero, List.getD_cons_succ] at e1
    cases e1 with
    | sl _ _ _ A m' cap hτ2 hnm hmc hA =>
      have hq := Option.some.inj (Eq.trans (Eq.symm q2) hτ2)
      subst hq
      have hm := own_form hown2
      subst hm
      have hb1 := row_cell hown (j := 1) rfl
      have hn0 : 0 < L.length := List.length_pos_iff.2 h0
      obtain ⟨g, cap', cur, hv, _, hg, hnc, hcm, hcs, htk⟩ : ∃ g cap' cur, Value.slice A L.length cap = .slice (some ⟨g, 0, none⟩) L.length cap' ∧ 0 ≤ g ∧ w.heap[g]? = some (.cells cur 5 (0, 0)) ∧ L.length ≤ cap' ∧ cap' ≤ maxLen ∧ cur.size = cap' * 1 ∧ cur.toList.take (L.length * 1) = ys := by
        rcases hown2.2 with ⟨_, h⟩ | h
        · omega
        · exact h
      cases hv
      have hcell : ∀ j x, L[j]? = some x → w.cell? ⟨g, j, none⟩ = some (.int .u8 x.toNat) := fun j x hx => by
        have hj : j < L.length := (List.getElem?_eq_some_iff.1 hx).1
        have e2 := s4 j 0 (.val (.int .u8 ((L.getD j 0).toNat : Int))) hj rfl
        have hyl : ys.length = L.length := by simpa using hown2.1
        simp only [Nat.mul_one, Nat.add_zero] at e2
        have e3 : ys[j]? = some (.int .u8 ((L.getD j 0).toNat : Int)) := by
          have hj2 : j < ys.length := by omega
          have e5 : ys.getD j undef = ys[j] := by rw [List.getD_eq_getElem?_getD, List.getElem?_eq_getElem hj2, Option.getD_some]
          rw [e5] at e2
          rw [List.getElem?_eq_getElem hj2]
          generalize ys[j] = z at e2
          cases e2; rfl
        have e4 : L.getD j 0 = x := by rw [List.getD_eq_getElem?_getD, hx]; rfl
        rw [e4] at e3
        exact row_cell hown2 e3
      simp only [Nat.zero_mul, Nat.zero_add] at hb1 ⊢
      refine (str_raw b g cap cur L w hb1 hg h0 (by simpa using hcs) hnc hcm hcell).mono ?_
      rintro e w' ⟨rfl, rfl⟩
      have hsz : (w.drew.freeze ⟨g, 0, none⟩ L.length).heap.size = w.heap.size := by
        unfold World.freeze; split; · rfl
        · show (w.heap.modify g _).size = _; simp
      have hoth : ∀ k, k ≠ g → (w.drew.freeze ⟨g, 0, none⟩ L.length).heap[k]? = w.heap[k]? := fun k hk => by
        unfold World.freeze
        split
        · rfl
        · show (w.heap.modify g _)[k]? = _
          rw [Array.getElem?_modify, if_neg (fun e => hk e.symm)]
      have hmeta : (w.drew.freeze ⟨g, 0, none⟩ L.length).os = w.os ∧ (w.drew.freeze ⟨g, 0, none⟩ L.length).tape = w.tape ∧ (w.drew.freeze ⟨g, 0, none⟩ L.length).output = w.output := by
        unfold World.freeze; split <;> exact ⟨rfl, rfl, rfl⟩
      refine ⟨_, F, fun _ => none, rfl, ⟨⟨hmeta.1, hmeta.2.1, hmeta.2.2, by rw [hsz]; exact Nat.le_refl _, fun k hk hx => hoth k (fun e => hx (by subst e; exact ⟨_, _, hτ2, rfl⟩))⟩, fun k hk => by rw [hsz]; exact hr.fz k hk, (fun _ _ _ _ h => by cases h), hr.fsub, hr.fsup, (fun _ _ _ h => by cases h), (fun _ _ _ _ _ h => by cases h), (fun nm o ho => ?_), (fun _ _ h => by cases h), (fun _ _ _ h => by cases h), hr.cxn⟩, .val _ _⟩
      obtain ⟨z, hz, _⟩ := ho; cases hz
open Go.Sort in
theorem grow_below (w : World) (k : Nat) (os : Array Obj) : Below w.heap.size w (grow (w.drewN k) os) :=
  ⟨rfl, rfl, rfl, by show w.heap.size ≤ (w.heap ++ os).size; simp, fun i hi => by show (w.heap ++ os)[i]? = _; exact Array.getElem?_append_left hi⟩
def itoaLay_ren : Go.Shelf.Ren := ⟨fun | 171 => 9 | 243 => 19 | 246 => 30 | 283 => 46 | 284 => 47 | 285 => 48 | 286 => 49 | 129 => 69 | 317 => 68 | 318 => 70 | 319 => 71 | 320 => 72 | 337 => 84 | 338 => 85 | n => n, fun | 3 => 3 | 9 => 9 | 2 => 2 | 4 => 4 | 171 => 98 | 0 => 0 | 53 => 99 | 37 => 37 | 5 => 5 | 173 => 102 | 212 => 120 | 51 => 121 | 20 => 20 | 213 => 122 | 46 => 115 | 232 => 138 | 233 => 139 | n => n, fun | 17 => 2 | 18 => 3 | 19 => 4 | n => n⟩
theorem itoaLay : LaysM.n171 Tryd.prog itoaLay_ren where
  mixed := by kernel_rfl
  f129 := Tryd.func69.trans (congrArg some (by kernel_rfl))
  f171 := Tryd.func9.trans (congrArg some (by kernel_rfl))
  f243 := Tryd.func19.trans (congrArg some (by kernel_rfl))
  f246 := Tryd.func30.trans (congrArg some (by kernel_rfl))
  f283 := Tryd.func46.trans (congrArg some (by kernel_rfl))
  f284 := Tryd.func47.trans (congrArg some (by kernel_rfl))
  f285 := Tryd.func48.trans (congrArg some (by kernel_rfl))
  f286 := Tryd.func49.trans (congrArg some (by kernel_rfl))
  f317 := Tryd.func68.trans (congrArg some (by kernel_rfl))
  f318 := Tryd.func70.trans (congrArg some (by kernel_rfl))
  f319 := Tryd.func71.trans (congrArg some (by kernel_rfl))
  f320 := Tryd.func72.trans (congrArg some (by kernel_rfl))
  f337 := Tryd.func84.trans (congrArg some (by kernel_rfl))
  f338 := Tryd.func85.trans (congrArg some (by kernel_rfl))
  t0 := Tryd.underlying0
  a0 := Tryd.isAgg0
  z0 := Tryd.sizeOf0
  v0 := Tryd.zeroValue0
  t2 := Tryd.underlying2
  a2 := Tryd.isAgg2
  z2 := Tryd.sizeOf2
  v2 := Tryd.zeroValue2
  t3 := Tryd.underlying3
  a3 := Tryd.isAgg3
  z3 := Tryd.sizeOf3
  v3 := Tryd.zeroValue3
  t4 := Tryd.underlying4
  a4 := Tryd.isAgg4
  z4 := Tryd.sizeOf4
  v4 := Tryd.zeroValue4
  t5 := Tryd.underlying5
  a5 := Tryd.isAgg5
  z5 := Tryd.sizeOf5
  v5 := Tryd.zeroValue5
  t9 := Tryd.underlying9
  a9 := Tryd.isAgg9
  z9 := Tryd.sizeOf9
  v9 := Tryd.zeroValue9
  t20 := Tryd.underlying20
  a20 := Tryd.isAgg20
  z20 := Tryd.sizeOf20
  v20 := Tryd.zeroValue20
  t37 := Tryd.underlying37
  a37 := Tryd.isAgg37
  z37 := Tryd.sizeOf37
  v37 := Tryd.zeroValue37
  t46 := Tryd.underlying115
  a46 := Tryd.isAgg115
  z46 := Tryd.sizeOf115
  v46 := Tryd.zeroValue115
  t51 := Tryd.underlying121
  a51 := Tryd.isAgg121
  z51 := Tryd.sizeOf121
  v51 := Tryd.zeroValue121
  t53 := Tryd.underlying99
  a53 := Tryd.isAgg99
  z53 := Tryd.sizeOf99
  v53 := Tryd.zeroValue99
  t171 := Tryd.underlying98
  a171 := Tryd.isAgg98
  z171 := Tryd.sizeOf98
  v171 := Tryd.zeroValue98
  t173 := Tryd.underlying102
  a173 := Tryd.isAgg102
  z173 := Tryd.sizeOf102
  v173 := Tryd.zeroValue102
  t212 := Tryd.underlying120
  a212 := Tryd.isAgg120
  z212 := Tryd.sizeOf120
  v212 := Tryd.zeroValue120
  t213 := Tryd.underlying122
  a213 := Tryd.isAgg122
  z213 := Tryd.sizeOf122
  t232 := Tryd.underlying138
  a232 := Tryd.isAgg138
  z232 := Tryd.sizeOf138
  v232 := Tryd.zeroValue138
  t233 := Tryd.underlying139
  a233 := Tryd.isAgg139
  z233 := Tryd.sizeOf139
  v233 := Tryd.zeroValue139
  g17 := by kernel_rfl
  g18 := by kernel_rfl
  g19 := by kernel_rfl
  i0 := by kernel_rfl
  i2 := by kernel_rfl
  i3 := by kernel_rfl
  i4 := by kernel_rfl
  i5 := by kernel_rfl
  i9 := by kernel_rfl
  i20 := by kernel_rfl
  i37 := by kernel_rfl
  i46 := by kernel_rfl
  i51 := by kernel_rfl
  i53 := by kernel_rfl
  i171 := by kernel_rfl
  i173 := by kernel_rfl
  i212 := by kernel_rfl
  i232 := by kernel_rfl
  i233 := by kernel_rfl
  m17 := by kernel_rfl
  m18 := by kernel_rfl
  m19 := by kernel_rfl

theorem c_Itoa (n : Int) (hn : In64 n) : ACallIs B.P 9 [.i64 n] (strV (Lib.itoa n)) := by
  unfold ACallIs
  refine ⟨by kernel_rfl, fun F w vs hF hgv hlen hrep => ?_⟩
  obtain ⟨v0, rfl⟩ : ∃ v0, vs = [v0] := by
    match vs, hlen with
    | [a], _ => exact ⟨a, rfl⟩
  have a0 := hrep 0 _ rfl
  simp only [List.getD_cons_zero] at a0
  cases a0
  refine (Any.strconv_Itoa itoaLay n hn.1 hn.2 w ?_).mono ?_
  · obtain ⟨_, _, t, fz, h3⟩ := hgv 2 _ rfl
    unfold Lib.TabIs World.var?
    rw [itoaLay.m17]
    show (match w.heap[2]? with | some (.cells cs _ _) => some cs | _ => none) = _
    rw [h3]
    rfl
  rintro e w' ⟨rfl, k, os, rfl⟩
  have hb := grow_below w k os
  exact ⟨_, F, rfl, hb, fun _ h => h, fun _ h => .inl h, fun i hi => Nat.lt_of_lt_of_le (hF i hi) hb.size, .val _ _⟩
end Go.Proofs.YtgkdmdfjfepcdaaDoor

/- A strings.Builder's WriteString and WriteByte. Condition: texts that are not too long. -/
namespace Go.Proofs.YtgkdmdfjfepcdaaDoor
open Go Go.Abs Go.RowKit

theorem str_row {L l : List UInt8} {i : Nat} (hi : i < L.length + l.length) : byU ((L ++ l).getD i 0) = if i < L.length then byU (L.getD i 0) else [AV.val (.int .u8 (((strOf l).data.toList.getD (i - L.length) 0).toNat : Int))] := by
  by_cases h : i < L.length
  · rw [if_pos h, List.getD_eq_getElem?_getD, List.getD_eq_getElem?_getD, List.getElem?_append_left h]
  · rw [if_neg h, List.getD_eq_getElem?_getD, List.getElem?_append_right (by omega)]
    rfl
set_option maxHeartbeats 1000000 in
theorem m_WS (L l : List UInt8) (hL : L.length + l.length ≤ 100000000) : ACallM B.P 7 ⟨[.rp 1001 2 0 0, strV l], [(1001, bld 1001 1002 L.length), (1002, rowT L)], .tup [.i64 l.length, .val .nilIface], [(1001, bld 1001 101 (L ++ l).length), (101, rowT (L ++ l))]⟩ := by
  refine ACallM.enter B _ _ Tryd.func7 rfl rfl Tryd.ntmps7 Tryd.results7 rfl ?_ fun hreal => ?_
  · refine And.intro (And.intro (fun i hi => And.intro rfl (And.intro rfl trivial)) (And.intro trivial trivial)) (And.intro ?_ ?_)
    all_goals repeat' (first | exact rfl | exact trivial | refine And.intro ?_ ?_)
  clear hreal
  repeat (first | refine AWp.seq ?_ | refine AWp.block ?_ | refine AWp.skip ?_)
  refine AWp.region ?_
  intro _
  repeat (first | refine AWp.seq ?_ | refine AWp.block ?_ | refine AWp.skip ?_)
  refine AWp.region ?_
  refine CallX.lend (m_ccU L.length L) [(1001, 1001), (1002, 1002)] rfl (And.intro rfl (And.intro rfl trivial)) rfl ?_
  intro _
  repeat (first | refine AWp.seq ?_ | refine AWp.block ?_ | refine AWp.skip ?_)
  refine AWp.region ?_
  refine And.intro (fun _ => Nat.zero_lt_one) (And.intro rfl (And.intro (by show L.length + l.length ≤ _; omega) (And.intro Nat.zero_lt_one ?_)))
  intro _
  refine AWp.rename 14 101 rfl rfl ?_
  repeat (first | refine AWp.seq ?_ | refine AWp.block ?_ | refine AWp.skip ?_)
  refine AWp.region ?_
  intro _
  refine AWp.ret ⟨Or.inl rfl, ?_⟩
  intro _
  have e : L.length + l.length = (L ++ l).length := List.length_append.symm
  refine And.intro rfl (And.intro (And.intro trivial (And.intro trivial trivial)) (And.intro ⟨_, _, rfl, rfl, fun i hi => ?_⟩ (And.intro (fun i hi => And.intro rfl (And.intro rfl trivial)) (And.intro ⟨_, _, rfl, e, fun i hi => ?_⟩ (And.intro trivial trivial)))))
  · obtain rfl : i = 0 := by omega
    exact congrArg (fun q => [AV.rp 1001 2 0 0, AV.sl 101 q]) e.symm
  · rw [← e] at hi
    exact str_row hi
set_option maxHeartbeats 1000000 in
theorem m_WSF (l : List UInt8) (hL : l.length ≤ 100000000) : ACallM B.P 7 ⟨[.rp 1001 2 0 0, strV l], [(1001, bld0)], .tup [.i64 l.length, .val .nilIface], [(1001, bld 1001 101 l.length), (101, rowT l)]⟩ := by
  refine ACallM.enter B _ _ Tryd.func7 rfl rfl Tryd.ntmps7 Tryd.results7 rfl ?_ fun hreal => ?_
  · refine And.intro (And.intro trivial trivial) (And.intro ?_ ?_)
    all_goals repeat' (first | exact rfl | exact trivial | refine And.intro ?_ ?_)
  clear hreal
  repeat (first | refine AWp.seq ?_ | refine AWp.block ?_ | refine AWp.skip ?_)
  refine AWp.region ?_
  intro _
  repeat (first | refine AWp.seq ?_ | refine AWp.block ?_ | refine AWp.skip ?_)
  refine AWp.region ?_
  refine CallX.lend m_ccF [(1001, 1001)] rfl (And.intro rfl trivial) rfl ?_
  intro _
  repeat (first | refine AWp.seq ?_ | refine AWp.block ?_ | refine AWp.skip ?_)
  refine AWp.region ?_
  refine And.intro (fun _ => Nat.zero_lt_one) (And.intro (by show l.length ≤ _; omega) (And.intro Nat.zero_lt_one ?_))
  intro _
  refine AWp.rename 14 101 rfl rfl ?_
  repeat (first | refine AWp.seq ?_ | refine AWp.block ?_ | refine AWp.skip ?_)
  refine AWp.region ?_
  intro _
  refine AWp.ret ⟨Or.inl rfl, ?_⟩
  intro _
  refine And.intro rfl (And.intro (And.intro trivial (And.intro trivial trivial)) (And.intro ⟨_, _, rfl, rfl, fun i hi => ?_⟩ (And.intro (fun i hi => And.intro rfl (And.intro rfl trivial)) (And.intro ⟨_, _, rfl, rfl, fun i hi => rfl⟩ (And.intro trivial trivial)))))
  obtain rfl : i = 0 := by omega
  rfl
set_option maxHeartbeats 1000000 in
theorem m_WB (L : List UInt8) (n : UInt8) (hL : L.length + 1 ≤ 100000000) : ACallM B.P 10 ⟨[.rp 1001 2 0 0, .val (.int .u8 (n.toNat : Int))], [(1001, bld 1001 1002 L.length), (1002, rowT L)], .val .nilIface, [(1001, bld 1001 101 (L ++ [n]).length), (101, rowT (L ++ [n]))]⟩ := by
  refine ACallM.enter B _ _ Tryd.func10 rfl rfl Tryd.ntmps10 Tryd.results10 rfl ?_ fun hreal => ?_
  · refine And.intro (And.intro (fun i hi => And.intro rfl (And.intro rfl trivial)) (And.intro trivial trivial)) (And.intro ?_ ?_)
    all_goals repeat' (first | exact rfl | exact trivial | refine And.intro ?_ ?_)
  clear hreal
  repeat (first | refine AWp.seq ?_ | refine AWp.block ?_ | refine AWp.skip ?_)
  refine AWp.region ?_
  intro _
  repeat (first | refine AWp.seq ?_ | refine AWp.block ?_ | refine AWp.skip ?_)
  refine AWp.region ?_
  refine CallX.lend (m_ccU L.length L) [(1001, 1001), (1002, 1002)] rfl (And.intro rfl (And.intro rfl trivial)) rfl ?_
  intro _
  repeat (first | refine AWp.seq ?_ | refine AWp.block ?_ | refine AWp.skip ?_)
  refine AWp.region ?_
  refine And.intro (fun _ => Nat.zero_lt_one) (And.intro (Nat.le_refl _) (And.intro (fun i hi => ?_) (And.intro rfl (And.intro (by omega) (And.intro Nat.zero_lt_one ?_)))))
  · obtain rfl : i = 0 := by omega
    rfl
  intro _
  refine AWp.rename 14 101 rfl rfl ?_
  repeat (first | refine AWp.seq ?_ | refine AWp.block ?_ | refine AWp.skip ?_)
  refine AWp.region ?_
  intro _
  refine AWp.ret ⟨Or.inl rfl, ?_⟩
  intro _
  have e : L.length + 1 = (L ++ [n]).length := by rw [List.length_append]; rfl
  refine And.intro rfl (And.intro trivial (And.intro ⟨_, _, rfl, rfl, fun i hi => ?_⟩ (And.intro (fun i hi => And.intro rfl (And.intro rfl trivial)) (And.intro ⟨_, _, rfl, e, fun i hi => ?_⟩ (And.intro trivial trivial)))))
  · obtain rfl : i = 0 := by omega
    exact congrArg (fun q => [AV.rp 1001 2 0 0, AV.sl 101 q]) e.symm
  · rw [← e] at hi
    by_cases h : i < L.length
    · refine Eq.trans ?_ (if_pos h).symm
      show byU ((L ++ [n]).getD i 0) = byU (L.getD i 0)
      rw [List.getD_eq_getElem?_getD, List.getD_eq_getElem?_getD, List.getElem?_append_left h]
    · refine Eq.trans ?_ (if_neg h).symm
      obtain rfl : i = L.length := by omega
      show byU ((L ++ [n]).getD L.length 0) = [[AV.val (Value.int IntKind.u8 (n.toNat : Int))]].getD (L.length - L.length) []
      rw [Nat.sub_self, List.getD_eq_getElem?_getD, List.getElem?_append_right (Nat.le_refl _), Nat.sub_self]
      rfl
end Go.Proofs.YtgkdmdfjfepcdaaDoor

/- Plain: a script's text. Contracts of text's numbers, operand, instr. Condition: sizes that may be. -/
namespace Go.Proofs.YtgkdmdfjfepcdaaDoor
open Go Go.Abs Go.RowKit

theorem str_app (a b : List UInt8) : strOf a ++ strOf b = strOf (a ++ b) := by
  unfold strOf
  apply ByteArray.ext
  rw [ByteArray.data_append]
  simp
theorem flat_takeT {α β : Type} [Inhabited α] {f : α → List β} {l : List α} {j : Nat} (hj : j < l.length) : (l.take (j + 1)).flatMap f = (l.take j).flatMap f ++ f (l.getD j default) := by
  rw [take_succ_getD hj]; simp
theorem flat_lenT {α β : Type} {f : α → List β} {c : Nat} : ∀ {l : List α}, (∀ a ∈ l, (f a).length ≤ c) → (l.flatMap f).length ≤ c * l.length
  | [], _ => by simp
  | a :: l, h => by
    have h1 := h a (List.mem_cons_self ..)
    have h2 := flat_lenT (f := f) (c := c) (l := l) fun b hb => h b (List.mem_cons_of_mem _ hb)
    rw [List.flatMap_cons, List.length_append, List.length_cons, Nat.mul_add]; omega
theorem flat_len_takeT {α β : Type} {f : α → List β} {c : Nat} {l : List α} (h : ∀ a ∈ l, (f a).length ≤ c) (j : Nat) : ((l.take j).flatMap f).length ≤ c * l.length := by
  refine Nat.le_trans (flat_lenT (c := c) fun a ha => h a (List.mem_of_mem_take ha)) ?_
  exact Nat.mul_le_mul_left _ (by rw [List.length_take]; exact Nat.min_le_right _ _)
/-- A number as it is written. -/
def itB (n : Int) : List UInt8 := Lib.itoa n
/-- A number that a script holds. -/
def Nn (n : Int) : Prop := 0 ≤ n ∧ n ≤ 4611686018427387904
theorem Nn.i {n : Int} (h : Nn n) : In64 n := by unfold Nn at h; unfold In64; omega
theorem itB_len {n : Int} (h : Nn n) : (itB n).length ≤ 21 := Lib.itoa_length_le n h.i.1 h.i.2
def numB (l : List Int) : List UInt8 := l.flatMap fun n => 32 :: itB n
theorem numB_len {l : List Int} (h : ∀ n ∈ l, Nn n) (j : Nat) : (numB (l.take j)).length ≤ 22 * l.length := by
  unfold numB
  exact flat_len_takeT (fun n hn => by rw [List.length_cons]; have := itB_len (h n hn); omega) j
set_option maxHeartbeats 1000000 in
theorem m_num (l : List Int) (r : Nat → List AV) (hr : ∀ i, i < l.length → r i = intC (l.getD i default)) (hn : ∀ n ∈ l, Nn n) (L : List UInt8) (hL : L.length + 22 * l.length + 22 ≤ 100000000) :
    ACallM B.P 8 ⟨[.rp 1001 2 0 0, .ro 1 l.length r], [(1001, bld 1001 1002 L.length), (1002, rowT L)], .tup [], [(1001, bld 1001 101 (L ++ numB l).length), (101, rowT (L ++ numB l))]⟩ := by
  have hlm : l.length ≤ maxLen := by unfold maxLen; omega
  refine ACallM.enter B _ _ Tryd.func8 rfl rfl Tryd.ntmps8 Tryd.results8 rfl ?_ fun hreal => ?_
  · refine And.intro (And.intro (fun i hi => And.intro rfl (And.intro rfl trivial)) (And.intro trivial trivial)) (And.intro ?_ ?_)
    all_goals repeat' (first | exact rfl | exact trivial | refine And.intro ?_ ?_)
  clear hreal
  refine AWp.reread 1 (ints l) rfl (fun F τ w v h => rep_row hr h) ?_
  refine AWp.rename 1002 101 rfl rfl ?_
  repeat (first | refine AWp.seq ?_ | refine AWp.block ?_ | refine AWp.skip ?_)
  refine AWp.region ?_
  intro _
  repeat (first | refine AWp.seq ?_ | refine AWp.block ?_ | refine AWp.skip ?_)
  refine AWp.loop (fun j : Nat => ⟨[(0, .rp 1001 2 0 0), (6, ints l), (7, .i64 l.length), (8, .i64 j)], [(1001, bld 1001 101 (L ++ numB (l.take j)).length), (101, rowT (L ++ numB (l.take j)))]⟩) (fun j => j ≤ l.length) (fun j => l.length - j) 0 (Nat.zero_le _) ?_ ?_
  · have e : L = L ++ numB (l.take 0) := by simp [numB]
    refine And.intro ?_ (And.intro ⟨_, _, rfl, rfl, fun i hi => congrArg (fun M : List UInt8 => [AV.rp 1001 2 0 0, AV.sl 101 M.length]) e.symm⟩ (And.intro (fun i hi => And.intro rfl (And.intro rfl trivial)) (And.intro ⟨_, _, rfl, congrArg List.length e, fun i hi => congrArg (fun M : List UInt8 => byU (M.getD i 0)) e.symm⟩ (And.intro trivial trivial))))
    all_goals repeat' (first | exact rfl | exact trivial | refine And.intro ?_ ?_)
  intro j hj
  repeat (first | refine AWp.seq ?_ | refine AWp.block ?_ | refine AWp.skip ?_)
  refine AWp.region ?_
  intro _
  repeat (first | refine AWp.seq ?_ | refine AWp.block ?_ | refine AWp.skip ?_)
  refine AWp.cond (And.intro (fun h1 => ?_) (fun h1 => ?_))
  · have hj' : j < l.length := Int.ofNat_lt.1 (of_decide_eq_true h1)
    have hmem : l.getD j default ∈ l := by rw [List.getD_eq_getElem?_getD, List.getElem?_eq_getElem hj']; exact List.getElem_mem hj'
    have hI := hn _ hmem
    have hIl := itB_len hI
    have hS : L ++ numB (l.take (j + 1)) = (L ++ numB (l.take j)) ++ (32 :: itB (l.getD j default)) := by
      unfold numB; rw [flat_takeT hj', List.append_assoc]
    have hlen := numB_len hn j
    have hlen2 : (L ++ numB (l.take j)).length = L.length + (numB (l.take j)).length := List.length_append
    repeat (first | refine AWp.seq ?_ | refine AWp.block ?_ | refine AWp.skip ?_)
    refine AWp.region ?_
    refine And.intro (fun _ => And.intro (Int.natCast_nonneg _) (Int.ofNat_lt.2 hj')) ?_
    intro _
    repeat (first | refine AWp.seq ?_ | refine AWp.block ?_ | refine AWp.skip ?_)
    refine AWp.region ?_
    refine CallX.pure (c_Itoa _ hI.i) rfl rfl rfl ?_
    refine And.intro ?_ ?_
    · show 1 + (itB (l.getD j default)).length ≤ _; omega
    refine CallX.lend (m_WS (L ++ numB (l.take j)) (32 :: itB (l.getD j default)) (by rw [List.length_cons]; omega)) [(1001, 1001), (1002, 101), (101, 102)] (congrArg (fun q => [AV.rp 1001 2 0 0, AV.val (.string q)]) (str_app [32] (itB (l.getD j default)))) (And.intro rfl (And.intro rfl trivial)) rfl ?_
    intro _
    refine AWp.rename 102 101 rfl rfl ?_
    repeat (first | refine AWp.seq ?_ | refine AWp.block ?_ | refine AWp.skip ?_)
    refine AWp.region ?_
    intro _
    refine round_end (j + 1) hj' ?_ (by omega)
    refine And.intro ?_ (And.intro ⟨_, _, rfl, rfl, fun i hi => congrArg (fun M : List UInt8 => [AV.rp 1001 2 0 0, AV.sl 101 M.length]) hS⟩ (And.intro (fun i hi => And.intro rfl (And.intro rfl trivial)) (And.intro ⟨_, _, rfl, congrArg List.length hS.symm, fun i hi => congrArg (fun M : List UInt8 => byU (M.getD i 0)) hS⟩ (And.intro trivial trivial))))
    all_goals repeat' (first | exact rfl | exact trivial | exact congrArg (fun z => some (AV.i64 z)) (wrap_succ hj' hlm) | refine And.intro ?_ ?_)
  have hj3 : ¬ (j : Int) < l.length := of_decide_eq_false h1
  have hjl : j = l.length := by omega
  subst hjl
  have e : L ++ numB (l.take l.length) = L ++ numB l := by rw [List.take_length]
  refine AWp.exit ?_
  refine ⟨Or.inr rfl, ?_⟩
  intro _
  refine And.intro rfl (And.intro trivial (And.intro ⟨_, _, rfl, rfl, fun i hi => congrArg (fun M : List UInt8 => [AV.rp 1001 2 0 0, AV.sl 101 M.length]) e.symm⟩ (And.intro (fun i hi => And.intro rfl (And.intro rfl trivial)) (And.intro ⟨_, _, rfl, congrArg List.length e, fun i hi => congrArg (fun M : List UInt8 => byU (M.getD i 0)) e.symm⟩ (And.intro trivial trivial)))))
end Go.Proofs.YtgkdmdfjfepcdaaDoor

/- Plain: an instruction's text. Contracts of text's operand, instr. Condition: sizes that may be. -/
namespace Go.Proofs.YtgkdmdfjfepcdaaDoor
open Go Go.Abs Go.RowKit Go.Abs.Gra


def kndB (k : Int) : List UInt8 := if k = 1 then [117, 115, 101] else if k = 2 then [100, 101, 102] else []
def limB (k : Int) : List UInt8 := if k = 1 then [97, 110, 121] else if k = 2 then [114, 101, 103] else if k = 3 then [115, 116, 97, 99, 107] else if k = 4 then [102, 105, 120, 101, 100] else if k = 5 then [114, 101, 117, 115, 101] else []
theorem knd_len (k : Int) : (kndB k).length ≤ 3 := by unfold kndB; repeat' (first | decide | split)
theorem lim_len (k : Int) : (limB k).length ≤ 5 := by unfold limB; repeat' (first | decide | split)
def latB (b : Bool) : List UInt8 := bif b then [32, 108, 97, 116, 101] else []
def nB (o : Opd) : List UInt8 := if 4 ≤ o.Limit then 32 :: itB o.N else []
def opdT (o : Opd) : List UInt8 := (32 :: kndB o.Kind) ++ latB o.Late ++ (32 :: itB o.Value ++ [32] ++ limB o.Limit) ++ nB o
def oL1 (L : List UInt8) (o : Opd) : List UInt8 := L ++ (32 :: kndB o.Kind)
def oL2 (L : List UInt8) (o : Opd) : List UInt8 := oL1 L o ++ latB o.Late
def oL3 (L : List UInt8) (o : Opd) : List UInt8 := oL2 L o ++ (32 :: itB o.Value ++ [32] ++ limB o.Limit)
theorem oL4 (L : List UInt8) (o : Opd) : oL3 L o ++ nB o = L ++ opdT o := by unfold oL3 oL2 oL1 opdT; simp
/-- What an operand may be. -/
structure OpdP (o : Opd) : Prop where
  knd : o.Kind = 1 ∨ o.Kind = 2
  lim : o.Limit = 1 ∨ o.Limit = 2 ∨ o.Limit = 3 ∨ o.Limit = 4 ∨ o.Limit = 5
  val : Nn o.Value
  num : 4 ≤ o.Limit → Nn o.N
theorem nB_len {o : Opd} (h : OpdP o) : (nB o).length ≤ 22 := by
  unfold nB; split
  · rename_i hl; rw [List.length_cons]; have := itB_len (h.num hl); omega
  · exact Nat.zero_le _
theorem latB_len (b : Bool) : (latB b).length ≤ 5 := by cases b <;> decide
theorem opdT_len {o : Opd} (h : OpdP o) : (opdT o).length ≤ 70 := by
  have h1 := nB_len h; have h2 := knd_len o.Kind; have h3 := lim_len o.Limit; have h4 := itB_len h.val; have h5 := latB_len o.Late
  unfold opdT; simp only [List.length_append, List.length_cons, List.length_nil]; omega
theorem str_app3 (a b c : List UInt8) : strOf a ++ strOf b ++ strOf c = strOf (a ++ b ++ c) := by rw [str_app, str_app]
theorem str_app4 (a b c d : List UInt8) : strOf a ++ strOf b ++ strOf c ++ strOf d = strOf (a ++ b ++ c ++ d) := by rw [str_app3, str_app]
set_option maxHeartbeats 2000000 in
theorem m_opd (o : Opd) (h : OpdP o) (L : List UInt8) (hL : L.length + 100 ≤ 100000000) :
    ACallM B.P 20 ⟨[.rp 1001 2 0 0, o.av], [(1001, bld 1001 1002 L.length), (1002, rowT L)], .tup [], [(1001, bld 1001 101 (L ++ opdT o).length), (101, rowT (L ++ opdT o))]⟩ := by
  have hv := itB_len h.val
  have l1 := knd_len o.Kind
  have l2 := lim_len o.Limit
  have l3 := latB_len o.Late
  have n1 : (oL1 L o).length = L.length + 1 + (kndB o.Kind).length := by unfold oL1; simp; omega
  have n2 : (oL2 L o).length = (oL1 L o).length + (latB o.Late).length := by unfold oL2; simp
  have n3 : (oL3 L o).length ≤ (oL2 L o).length + 28 := by unfold oL3; simp; omega
  refine ACallM.enter B _ _ Tryd.func20 rfl rfl Tryd.ntmps20 Tryd.results20 rfl ?_ fun hreal => ?_
  · refine And.intro (And.intro (fun i hi => And.intro rfl (And.intro rfl trivial)) (And.intro trivial trivial)) (And.intro ?_ ?_)
    all_goals repeat' (first | exact rfl | exact trivial | refine And.intro ?_ ?_)
  clear hreal
  refine AWp.rename 1002 101 rfl rfl ?_
  repeat (first | refine AWp.seq ?_ | refine AWp.block ?_ | refine AWp.skip ?_)
  refine AWp.region ?_
  intro _
  refine AWp.freezeObj 3 rfl rfl ?_
  repeat (first | refine AWp.seq ?_ | refine AWp.block ?_ | refine AWp.skip ?_)
  refine AWp.mono (Q := fun e s => e = .normal ∧ Sub ⟨[(0, .rp 1001 2 0 0), (3, .ptr o.cells)], [(1001, bld 1001 102 (oL1 L o).length), (102, rowT (oL1 L o))]⟩ s) ?_ ?_
  · obtain ⟨K, V, La, Li, N⟩ := o
    have hk : K = 1 ∨ K = 2 := h.knd
    rcases hk with rfl | rfl
    · refine AWp.region ?_
      refine And.intro (fun _ => by show (0 : Int) ≤ 1 ∧ (1 : Int) < 3; decide) (And.intro (by decide) ?_)
      refine CallX.lend (m_WS L (32 :: [117, 115, 101]) (by show L.length + 4 ≤ _; omega)) [(1001, 1001), (1002, 101), (101, 102)] (congrArg (fun q => [AV.rp 1001 2 0 0, AV.val (.string q)]) (str_app [32] [117, 115, 101])) (And.intro rfl (And.intro rfl trivial)) rfl ?_
      intro _
      refine And.intro rfl ?_
      refine And.intro ?_ (And.intro ⟨_, _, rfl, rfl, fun i hi => rfl⟩ (And.intro (fun i hi => And.intro rfl (And.intro rfl trivial)) (And.intro ⟨_, _, rfl, rfl, fun i hi => rfl⟩ (And.intro trivial trivial))))
      all_goals repeat' (first | exact rfl | exact trivial | refine And.intro ?_ ?_)
    · refine AWp.region ?_
      refine And.intro (fun _ => by show (0 : Int) ≤ 2 ∧ (2 : Int) < 3; decide) (And.intro (by decide) ?_)
      refine CallX.lend (m_WS L (32 :: [100, 101, 102]) (by show L.length + 4 ≤ _; omega)) [(1001, 1001), (1002, 101), (101, 102)] (congrArg (fun q => [AV.rp 1001 2 0 0, AV.val (.string q)]) (str_app [32] [100, 101, 102])) (And.intro rfl (And.intro rfl trivial)) rfl ?_
      intro _
      refine And.intro rfl ?_
      refine And.intro ?_ (And.intro ⟨_, _, rfl, rfl, fun i hi => rfl⟩ (And.intro (fun i hi => And.intro rfl (And.intro rfl trivial)) (And.intro ⟨_, _, rfl, rfl, fun i hi => rfl⟩ (And.intro trivial trivial))))
      all_goals repeat' (first | exact rfl | exact trivial | refine And.intro ?_ ?_)
  rintro _ _ ⟨rfl, hs⟩
  refine AWp.weaken hs ?_
  refine AWp.rename 102 101 rfl rfl ?_
  repeat (first | refine AWp.seq ?_ | refine AWp.block ?_ | refine AWp.skip ?_)
  refine AWp.region ?_
  intro _
  repeat (first | refine AWp.seq ?_ | refine AWp.block ?_ | refine AWp.skip ?_)
  refine AWp.mono (Q := fun e s => e = .normal ∧ Sub ⟨[(0, .rp 1001 2 0 0), (3, .ptr o.cells)], [(1001, bld 1001 102 (oL2 L o).length), (102, rowT (oL2 L o))]⟩ s) ?_ ?_
  · repeat (first | refine AWp.seq ?_ | refine AWp.block ?_ | refine AWp.skip ?_)
    refine AWp.cond (And.intro (fun h4 => ?_) (fun h4 => ?_))
    · have h4 : o.Late = true := h4
      have e : oL1 L o ++ [32, 108, 97, 116, 101] = oL2 L o := by unfold oL2; rw [h4]; rfl
      repeat (first | refine AWp.seq ?_ | refine AWp.block ?_ | refine AWp.skip ?_)
      refine AWp.region ?_
      refine CallX.lend (m_WS (oL1 L o) [32, 108, 97, 116, 101] (by show _ + 5 ≤ _; omega)) [(1001, 1001), (1002, 101), (101, 102)] rfl (And.intro rfl (And.intro rfl trivial)) rfl ?_
      intro _
      refine And.intro rfl ?_
      refine And.intro ?_ (And.intro ⟨_, _, rfl, rfl, fun i hi => congrArg (fun M : List UInt8 => [AV.rp 1001 2 0 0, AV.sl 102 M.length]) (e).symm⟩ (And.intro (fun i hi => And.intro rfl (And.intro rfl trivial)) (And.intro ⟨_, _, rfl, congrArg List.length (e), fun i hi => congrArg (fun M : List UInt8 => byU (M.getD i 0)) (e).symm⟩ (And.intro trivial trivial))))
      all_goals repeat' (first | exact rfl | exact trivial | refine And.intro ?_ ?_)
    · have h4 : o.Late = false := h4
      have e : oL1 L o = oL2 L o := by unfold oL2; rw [h4]; simp [latB]
      refine AWp.rename 101 102 rfl rfl ?_
      refine AWp.skip ?_
      refine And.intro rfl ?_
      refine And.intro ?_ (And.intro ⟨_, _, rfl, rfl, fun i hi => congrArg (fun M : List UInt8 => [AV.rp 1001 2 0 0, AV.sl 102 M.length]) (e).symm⟩ (And.intro (fun i hi => And.intro rfl (And.intro rfl trivial)) (And.intro ⟨_, _, rfl, congrArg List.length (e), fun i hi => congrArg (fun M : List UInt8 => byU (M.getD i 0)) (e).symm⟩ (And.intro trivial trivial))))
      all_goals repeat' (first | exact rfl | exact trivial | refine And.intro ?_ ?_)
  rintro _ _ ⟨rfl, hs⟩
  refine AWp.weaken hs ?_
  refine AWp.rename 102 101 rfl rfl ?_
  repeat (first | refine AWp.seq ?_ | refine AWp.block ?_ | refine AWp.skip ?_)
  refine AWp.mono (Q := fun e s => e = .normal ∧ Sub ⟨[(0, .rp 1001 2 0 0), (3, .ptr o.cells)], [(1001, bld 1001 102 (oL3 L o).length), (102, rowT (oL3 L o))]⟩ s) ?_ ?_
  · obtain ⟨K, V, La, Li, N⟩ := o
    have hl : Li = 1 ∨ Li = 2 ∨ Li = 3 ∨ Li = 4 ∨ Li = 5 := h.lim
    have hvv : (itB V).length ≤ 21 := hv
    rcases hl with rfl | rfl | rfl | rfl | rfl
    · refine AWp.quietFirst (.q 1 (.q 2 (.q 6 (.q 7 (.q 8 (.q 9 (.c 0 false (.c 3 false (.q 4 (.q 5 (.q 10 (.c 11 true .fin .no)))) .no) (.c 3 false (.q 4 (.q 5 (.q 10 (.c 0 false (.c 11 true .fin .no) .no)))) .no)))))))) [1, 2, 4, 5, 6, 7, 8, 9, 10] [] mixed (by kernel_rfl) ?_
      repeat' (first | exact trivial | refine And.intro ?_ ?_ | refine CallK.intro (fun _ => c_Itoa _ h.val.i) ?_ | refine CallX.pure (c_Itoa _ h.val.i) rfl rfl rfl ?_ | fail)
      all_goals first | exact (fun _ => by show (0 : Int) ≤ 1 ∧ (1 : Int) < 6; decide) | (show 1 + (itB V).length ≤ _; omega) | (rw [ByteArray.size_append]; show 1 + (itB V).length + 1 ≤ _; omega) | (rw [ByteArray.size_append, ByteArray.size_append]; show 1 + (itB V).length + 1 + 3 ≤ _; omega) | skip
      all_goals refine CallX.lend (m_WS _ (32 :: itB V ++ [32] ++ [97, 110, 121]) (by simp only [List.length_append, List.length_cons, List.length_nil]; omega)) [(1001, 1001), (1002, 101), (101, 102)] (congrArg (fun q => [AV.rp 1001 2 0 0, AV.val (.string q)]) (str_app4 [32] (itB V) [32] [97, 110, 121])) (And.intro rfl (And.intro rfl trivial)) rfl ?_
      all_goals intro _
      all_goals refine And.intro rfl ?_
      all_goals refine And.intro ?_ (And.intro ⟨_, _, rfl, rfl, fun i hi => rfl⟩ (And.intro (fun i hi => And.intro rfl (And.intro rfl trivial)) (And.intro ⟨_, _, rfl, rfl, fun i hi => rfl⟩ (And.intro trivial trivial))))
      all_goals repeat' (first | exact rfl | exact trivial | refine And.intro ?_ ?_)
    · refine AWp.quietFirst (.q 1 (.q 2 (.q 6 (.q 7 (.q 8 (.q 9 (.c 0 false (.c 3 false (.q 4 (.q 5 (.q 10 (.c 11 true .fin .no)))) .no) (.c 3 false (.q 4 (.q 5 (.q 10 (.c 0 false (.c 11 true .fin .no) .no)))) .no)))))))) [1, 2, 4, 5, 6, 7, 8, 9, 10] [] mixed (by kernel_rfl) ?_
      repeat' (first | exact trivial | refine And.intro ?_ ?_ | refine CallK.intro (fun _ => c_Itoa _ h.val.i) ?_ | refine CallX.pure (c_Itoa _ h.val.i) rfl rfl rfl ?_ | fail)
      all_goals first | exact (fun _ => by show (0 : Int) ≤ 2 ∧ (2 : Int) < 6; decide) | (show 1 + (itB V).length ≤ _; omega) | (rw [ByteArray.size_append]; show 1 + (itB V).length + 1 ≤ _; omega) | (rw [ByteArray.size_append, ByteArray.size_append]; show 1 + (itB V).length + 1 + 3 ≤ _; omega) | skip
      all_goals refine CallX.lend (m_WS _ (32 :: itB V ++ [32] ++ [114, 101, 103]) (by simp only [List.length_append, List.length_cons, List.length_nil]; omega)) [(1001, 1001), (1002, 101), (101, 102)] (congrArg (fun q => [AV.rp 1001 2 0 0, AV.val (.string q)]) (str_app4 [32] (itB V) [32] [114, 101, 103])) (And.intro rfl (And.intro rfl trivial)) rfl ?_
      all_goals intro _
      all_goals refine And.intro rfl ?_
      all_goals refine And.intro ?_ (And.intro ⟨_, _, rfl, rfl, fun i hi => rfl⟩ (And.intro (fun i hi => And.intro rfl (And.intro rfl trivial)) (And.intro ⟨_, _, rfl, rfl, fun i hi => rfl⟩ (And.intro trivial trivial))))
      all_goals repeat' (first | exact rfl | exact trivial | refine And.intro ?_ ?_)
    · refine AWp.quietFirst (.q 1 (.q 2 (.q 6 (.q 7 (.q 8 (.q 9 (.c 0 false (.c 3 false (.q 4 (.q 5 (.q 10 (.c 11 true .fin .no)))) .no) (.c 3 false (.q 4 (.q 5 (.q 10 (.c 0 false (.c 11 true .fin .no) .no)))) .no)))))))) [1, 2, 4, 5, 6, 7, 8, 9, 10] [] mixed (by kernel_rfl) ?_
      repeat' (first | exact trivial | refine And.intro ?_ ?_ | refine CallK.intro (fun _ => c_Itoa _ h.val.i) ?_ | refine CallX.pure (c_Itoa _ h.val.i) rfl rfl rfl ?_ | fail)
      all_goals first | exact (fun _ => by show (0 : Int) ≤ 3 ∧ (3 : Int) < 6; decide) | (show 1 + (itB V).length ≤ _; omega) | (rw [ByteArray.size_append]; show 1 + (itB V).length + 1 ≤ _; omega) | (rw [ByteArray.size_append, ByteArray.size_append]; show 1 + (itB V).length + 1 + 5 ≤ _; omega) | skip
      all_goals refine CallX.lend (m_WS _ (32 :: itB V ++ [32] ++ [115, 116, 97, 99, 107]) (by simp only [List.length_append, List.length_cons, List.length_nil]; omega)) [(1001, 1001), (1002, 101), (101, 102)] (congrArg (fun q => [AV.rp 1001 2 0 0, AV.val (.string q)]) (str_app4 [32] (itB V) [32] [115, 116, 97, 99, 107])) (And.intro rfl (And.intro rfl trivial)) rfl ?_
      all_goals intro _
      all_goals refine And.intro rfl ?_
      all_goals refine And.intro ?_ (And.intro ⟨_, _, rfl, rfl, fun i hi => rfl⟩ (And.intro (fun i hi => And.intro rfl (And.intro rfl trivial)) (And.intro ⟨_, _, rfl, rfl, fun i hi => rfl⟩ (And.intro trivial trivial))))
      all_goals repeat' (first | exact rfl | exact trivial | refine And.intro ?_ ?_)
    · refine AWp.quietFirst (.q 1 (.q 2 (.q 6 (.q 7 (.q 8 (.q 9 (.c 0 false (.c 3 false (.q 4 (.q 5 (.q 10 (.c 11 true .fin .no)))) .no) (.c 3 false (.q 4 (.q 5 (.q 10 (.c 0 false (.c 11 true .fin .no) .no)))) .no)))))))) [1, 2, 4, 5, 6, 7, 8, 9, 10] [] mixed (by kernel_rfl) ?_
      repeat' (first | exact trivial | refine And.intro ?_ ?_ | refine CallK.intro (fun _ => c_Itoa _ h.val.i) ?_ | refine CallX.pure (c_Itoa _ h.val.i) rfl rfl rfl ?_ | fail)
      all_goals first | exact (fun _ => by show (0 : Int) ≤ 4 ∧ (4 : Int) < 6; decide) | (show 1 + (itB V).length ≤ _; omega) | (rw [ByteArray.size_append]; show 1 + (itB V).length + 1 ≤ _; omega) | (rw [ByteArray.size_append, ByteArray.size_append]; show 1 + (itB V).length + 1 + 5 ≤ _; omega) | skip
      all_goals refine CallX.lend (m_WS _ (32 :: itB V ++ [32] ++ [102, 105, 120, 101, 100]) (by simp only [List.length_append, List.length_cons, List.length_nil]; omega)) [(1001, 1001), (1002, 101), (101, 102)] (congrArg (fun q => [AV.rp 1001 2 0 0, AV.val (.string q)]) (str_app4 [32] (itB V) [32] [102, 105, 120, 101, 100])) (And.intro rfl (And.intro rfl trivial)) rfl ?_
      all_goals intro _
      all_goals refine And.intro rfl ?_
      all_goals refine And.intro ?_ (And.intro ⟨_, _, rfl, rfl, fun i hi => rfl⟩ (And.intro (fun i hi => And.intro rfl (And.intro rfl trivial)) (And.intro ⟨_, _, rfl, rfl, fun i hi => rfl⟩ (And.intro trivial trivial))))
      all_goals repeat' (first | exact rfl | exact trivial | refine And.intro ?_ ?_)
    · refine AWp.quietFirst (.q 1 (.q 2 (.q 6 (.q 7 (.q 8 (.q 9 (.c 0 false (.c 3 false (.q 4 (.q 5 (.q 10 (.c 11 true .fin .no)))) .no) (.c 3 false (.q 4 (.q 5 (.q 10 (.c 0 false (.c 11 true .fin .no) .no)))) .no)))))))) [1, 2, 4, 5, 6, 7, 8, 9, 10] [] mixed (by kernel_rfl) ?_
      repeat' (first | exact trivial | refine And.intro ?_ ?_ | refine CallK.intro (fun _ => c_Itoa _ h.val.i) ?_ | refine CallX.pure (c_Itoa _ h.val.i) rfl rfl rfl ?_ | fail)
      all_goals first | exact (fun _ => by show (0 : Int) ≤ 5 ∧ (5 : Int) < 6; decide) | (show 1 + (itB V).length ≤ _; omega) | (rw [ByteArray.size_append]; show 1 + (itB V).length + 1 ≤ _; omega) | (rw [ByteArray.size_append, ByteArray.size_append]; show 1 + (itB V).length + 1 + 5 ≤ _; omega) | skip
      all_goals refine CallX.lend (m_WS _ (32 :: itB V ++ [32] ++ [114, 101, 117, 115, 101]) (by simp only [List.length_append, List.length_cons, List.length_nil]; omega)) [(1001, 1001), (1002, 101), (101, 102)] (congrArg (fun q => [AV.rp 1001 2 0 0, AV.val (.string q)]) (str_app4 [32] (itB V) [32] [114, 101, 117, 115, 101])) (And.intro rfl (And.intro rfl trivial)) rfl ?_
      all_goals intro _
      all_goals refine And.intro rfl ?_
      all_goals refine And.intro ?_ (And.intro ⟨_, _, rfl, rfl, fun i hi => rfl⟩ (And.intro (fun i hi => And.intro rfl (And.intro rfl trivial)) (And.intro ⟨_, _, rfl, rfl, fun i hi => rfl⟩ (And.intro trivial trivial))))
      all_goals repeat' (first | exact rfl | exact trivial | refine And.intro ?_ ?_)
  rintro _ _ ⟨rfl, hs⟩
  refine AWp.weaken hs ?_
  refine AWp.rename 102 101 rfl rfl ?_
  repeat (first | refine AWp.seq ?_ | refine AWp.block ?_ | refine AWp.skip ?_)
  refine AWp.region ?_
  intro _
  repeat (first | refine AWp.seq ?_ | refine AWp.block ?_ | refine AWp.skip ?_)
  refine AWp.cond (And.intro (fun h5 => ?_) (fun h5 => ?_))
  · have h5 : 4 ≤ o.Limit := of_decide_eq_true h5
    have hn := itB_len (h.num h5)
    have e : oL3 L o ++ (32 :: itB o.N) = L ++ opdT o := by rw [← oL4, nB, if_pos h5]
    refine AWp.rename 101 102 rfl rfl ?_
    repeat (first | refine AWp.seq ?_ | refine AWp.block ?_ | refine AWp.skip ?_)
    refine AWp.region ?_
    refine CallX.pure (c_Itoa _ (h.num h5).i) rfl rfl rfl ?_
    refine And.intro (by show 1 + (itB o.N).length ≤ _; omega) ?_
    refine CallX.lend (m_WS (oL3 L o) (32 :: itB o.N) (by rw [List.length_cons]; omega)) [(1001, 1001), (1002, 102), (101, 101)] (congrArg (fun q => [AV.rp 1001 2 0 0, AV.val (.string q)]) (str_app [32] (itB o.N))) (And.intro rfl (And.intro rfl trivial)) rfl ?_
    intro _
    refine ⟨Or.inr rfl, ?_⟩
    intro _
    refine And.intro rfl (And.intro trivial (And.intro ⟨_, _, rfl, rfl, fun i hi => congrArg (fun M : List UInt8 => [AV.rp 1001 2 0 0, AV.sl 101 M.length]) (e).symm⟩ (And.intro (fun i hi => And.intro rfl (And.intro rfl trivial)) (And.intro ⟨_, _, rfl, congrArg List.length (e), fun i hi => congrArg (fun M : List UInt8 => byU (M.getD i 0)) (e).symm⟩ (And.intro trivial trivial)))))
  · have h5 : ¬ 4 ≤ o.Limit := of_decide_eq_false h5
    have e : oL3 L o = L ++ opdT o := by rw [← oL4, nB, if_neg h5, List.append_nil]
    refine AWp.skip ?_
    refine ⟨Or.inr rfl, ?_⟩
    intro _
    refine And.intro rfl (And.intro trivial (And.intro ⟨_, _, rfl, rfl, fun i hi => congrArg (fun M : List UInt8 => [AV.rp 1001 2 0 0, AV.sl 101 M.length]) (e).symm⟩ (And.intro (fun i hi => And.intro rfl (And.intro rfl trivial)) (And.intro ⟨_, _, rfl, congrArg List.length (e), fun i hi => congrArg (fun M : List UInt8 => byU (M.getD i 0)) (e).symm⟩ (And.intro trivial trivial)))))
def rgT (r : Rg) : List UInt8 := [32, 115, 112, 111, 105, 108, 115, 32] ++ itB r.Class ++ [32] ++ itB r.N
def insT (x : Ins) : List UInt8 := ([111, 112, 32] ++ itB x.Op) ++ x.Operands.flatMap opdT ++ x.Spoils.flatMap rgT ++ [10]
def iL1 (L : List UInt8) (x : Ins) : List UInt8 := L ++ ([111, 112, 32] ++ itB x.Op)
def iL2 (L : List UInt8) (x : Ins) (k : Nat) : List UInt8 := iL1 L x ++ (x.Operands.take k).flatMap opdT
def iL3 (L : List UInt8) (x : Ins) (k : Nat) : List UInt8 := iL2 L x x.Operands.length ++ (x.Spoils.take k).flatMap rgT
theorem iL2_zero (L : List UInt8) (x : Ins) : iL1 L x = iL2 L x 0 := by unfold iL2; simp
theorem iL3_zero (L : List UInt8) (x : Ins) : iL2 L x x.Operands.length = iL3 L x 0 := by unfold iL3; simp
theorem iL2_succ {L : List UInt8} {x : Ins} {k : Nat} (hk : k < x.Operands.length) : iL2 L x k ++ opdT (x.Operands.getD k default) = iL2 L x (k + 1) := by unfold iL2; rw [flat_takeT hk, List.append_assoc]
theorem iL3_succ {L : List UInt8} {x : Ins} {k : Nat} (hk : k < x.Spoils.length) : iL3 L x k ++ rgT (x.Spoils.getD k default) = iL3 L x (k + 1) := by unfold iL3; rw [flat_takeT hk, List.append_assoc]
theorem iL3_all (L : List UInt8) (x : Ins) : iL3 L x x.Spoils.length ++ [10] = L ++ insT x := by unfold iL3 iL2 iL1 insT; rw [List.take_length, List.take_length]; simp
/-- What an instruction may be. -/
structure InsP (x : Ins) : Prop where
  op : Nn x.Op
  opl : x.Operands.length ≤ 6
  opd : ∀ o ∈ x.Operands, OpdP o
  spl : x.Spoils.length ≤ 20
  spo : ∀ r ∈ x.Spoils, Nn r.Class ∧ Nn r.N
theorem rgT_len {r : Rg} (h : Nn r.Class ∧ Nn r.N) : (rgT r).length ≤ 60 := by
  have h1 := itB_len h.1; have h2 := itB_len h.2
  unfold rgT; simp only [List.length_append, List.length_cons, List.length_nil]; omega
theorem getD_memT {α : Type} [Inhabited α] {l : List α} {k : Nat} (h : k < l.length) : l.getD k default ∈ l := by rw [List.getD_eq_getElem?_getD, List.getElem?_eq_getElem h]; exact List.getElem_mem h
theorem iL2_len {L : List UInt8} {x : Ins} (h : InsP x) (k : Nat) : (iL2 L x k).length ≤ L.length + 500 := by
  have h1 := flat_len_takeT (f := opdT) (c := 70) (fun o ho => opdT_len (h.opd o ho)) k
  have h2 := itB_len h.op; have h3 := h.opl
  unfold iL2 iL1; simp only [List.length_append, List.length_cons, List.length_nil]; omega
theorem iL3_len {L : List UInt8} {x : Ins} (h : InsP x) (k : Nat) : (iL3 L x k).length ≤ L.length + 2000 := by
  have h1 := flat_len_takeT (f := rgT) (c := 60) (fun r hr => rgT_len (h.spo r hr)) k
  have h2 := iL2_len (L := L) h x.Operands.length; have h3 := h.spl
  unfold iL3; simp only [List.length_append]; omega
theorem insT_len {x : Ins} (h : InsP x) : (insT x).length ≤ 2001 := by
  have h1 := iL3_len (L := []) h x.Spoils.length
  have h2 := congrArg List.length (iL3_all [] x)
  simp only [List.length_append, List.length_cons, List.length_nil] at h1 h2; omega
set_option maxHeartbeats 2000000 in
theorem m_ins (x : Ins) (h : InsP x) (L : List UInt8) (hL : L.length + 4000 ≤ 100000000) :
    ACallM B.P 11 ⟨[.rp 1001 2 0 0, x.av], [(1001, bld 1001 1002 L.length), (1002, rowT L)], .tup [], [(1001, bld 1001 101 (L ++ insT x).length), (101, rowT (L ++ insT x))]⟩ := by
  have hol : x.Operands.length ≤ maxLen := by have := h.opl; unfold maxLen; omega
  have hsl : x.Spoils.length ≤ maxLen := by have := h.spl; unfold maxLen; omega
  have h2 := fun k => iL2_len (L := L) h k
  have h3 := fun k => iL3_len (L := L) h k
  have hop := itB_len h.op
  refine ACallM.enter B _ _ Tryd.func11 rfl rfl Tryd.ntmps11 Tryd.results11 rfl ?_ fun hreal => ?_
  · refine And.intro (And.intro (fun i hi => And.intro rfl (And.intro rfl trivial)) (And.intro trivial trivial)) (And.intro ?_ ?_)
    all_goals repeat' (first | exact rfl | exact trivial | refine And.intro ?_ ?_)
  clear hreal
  refine AWp.rename 1002 101 rfl rfl ?_
  repeat (first | refine AWp.seq ?_ | refine AWp.block ?_ | refine AWp.skip ?_)
  refine AWp.region ?_
  intro _
  refine AWp.freezeObj 3 rfl rfl ?_
  repeat (first | refine AWp.seq ?_ | refine AWp.block ?_ | refine AWp.skip ?_)
  refine AWp.region ?_
  refine CallX.pure (c_Itoa _ h.op.i) rfl rfl rfl ?_
  refine And.intro (by show 3 + (itB x.Op).length ≤ _; omega) ?_
  refine CallX.lend (m_WS L ([111, 112, 32] ++ itB x.Op) (by simp only [List.length_append, List.length_cons, List.length_nil]; omega)) [(1001, 1001), (1002, 101), (101, 102)] (congrArg (fun q => [AV.rp 1001 2 0 0, AV.val (.string q)]) (str_app [111, 112, 32] (itB x.Op))) (And.intro rfl (And.intro rfl trivial)) rfl ?_
  intro _
  refine AWp.rename 102 101 rfl rfl ?_
  repeat (first | refine AWp.seq ?_ | refine AWp.block ?_ | refine AWp.skip ?_)
  refine AWp.region ?_
  intro _
  repeat (first | refine AWp.seq ?_ | refine AWp.block ?_ | refine AWp.skip ?_)
  refine AWp.loop (fun k : Nat => ⟨[(0, .rp 1001 2 0 0), (3, .ptr x.cells), (15, roL 5 Opd.cells x.Operands), (16, .i64 x.Operands.length), (17, .i64 k)], [(1001, bld 1001 101 (iL2 L x k).length), (101, rowT (iL2 L x k))]⟩) (fun k => k ≤ x.Operands.length) (fun k => x.Operands.length - k) 0 (Nat.zero_le _) ?_ ?_
  · refine And.intro ?_ (And.intro ⟨_, _, rfl, rfl, fun i hi => congrArg (fun M : List UInt8 => [AV.rp 1001 2 0 0, AV.sl 101 M.length]) (iL2_zero L x).symm⟩ (And.intro (fun i hi => And.intro rfl (And.intro rfl trivial)) (And.intro ⟨_, _, rfl, congrArg List.length (iL2_zero L x), fun i hi => congrArg (fun M : List UInt8 => byU (M.getD i 0)) (iL2_zero L x).symm⟩ (And.intro trivial trivial))))
    all_goals repeat' (first | exact rfl | exact trivial | refine And.intro ?_ ?_)
  intro k hk
  repeat (first | refine AWp.seq ?_ | refine AWp.block ?_ | refine AWp.skip ?_)
  refine AWp.region ?_
  intro _
  repeat (first | refine AWp.seq ?_ | refine AWp.block ?_ | refine AWp.skip ?_)
  refine AWp.cond (And.intro (fun qk => ?_) (fun qk => ?_))
  · have hk' : k < x.Operands.length := Int.ofNat_lt.1 (of_decide_eq_true qk)
    have h2k := h2 k
    repeat (first | refine AWp.seq ?_ | refine AWp.block ?_ | refine AWp.skip ?_)
    refine AWp.region ?_
    refine And.intro (fun _ => And.intro (Int.natCast_nonneg _) (Int.ofNat_lt.2 hk')) ?_
    intro _
    refine AWp.freezeObj 5 rfl rfl ?_
    repeat (first | refine AWp.seq ?_ | refine AWp.block ?_ | refine AWp.skip ?_)
    refine AWp.region ?_
    refine CallX.lend (m_opd (x.Operands.getD k default) (h.opd _ (getD_memT hk')) (iL2 L x k) (by omega)) [(1001, 1001), (1002, 101), (101, 102)] rfl (And.intro rfl (And.intro rfl trivial)) rfl ?_
    intro _
    refine AWp.rename 102 101 rfl rfl ?_
    repeat (first | refine AWp.seq ?_ | refine AWp.block ?_ | refine AWp.skip ?_)
    refine AWp.region ?_
    intro _
    refine round_end (k + 1) hk' ?_ (by omega)
    refine And.intro ?_ (And.intro ⟨_, _, rfl, rfl, fun i hi => congrArg (fun M : List UInt8 => [AV.rp 1001 2 0 0, AV.sl 101 M.length]) (iL2_succ hk').symm⟩ (And.intro (fun i hi => And.intro rfl (And.intro rfl trivial)) (And.intro ⟨_, _, rfl, congrArg List.length (iL2_succ hk'), fun i hi => congrArg (fun M : List UInt8 => byU (M.getD i 0)) (iL2_succ hk').symm⟩ (And.intro trivial trivial))))
    all_goals repeat' (first | exact rfl | exact trivial | exact congrArg (fun z => some (AV.i64 z)) (wrap_succ hk' hol) | refine And.intro ?_ ?_)
  have hk3 : ¬ (k : Int) < x.Operands.length := of_decide_eq_false qk
  obtain rfl : k = x.Operands.length := by omega
  refine AWp.exit ?_
  repeat (first | refine AWp.seq ?_ | refine AWp.block ?_ | refine AWp.skip ?_)
  refine AWp.region ?_
  intro _
  repeat (first | refine AWp.seq ?_ | refine AWp.block ?_ | refine AWp.skip ?_)
  refine AWp.loop (fun i : Nat => ⟨[(0, .rp 1001 2 0 0), (3, .ptr x.cells), (26, roL 2 Rg.cells x.Spoils), (27, .i64 x.Spoils.length), (28, .i64 i)], [(1001, bld 1001 101 (iL3 L x i).length), (101, rowT (iL3 L x i))]⟩) (fun i => i ≤ x.Spoils.length) (fun i => x.Spoils.length - i) 0 (Nat.zero_le _) ?_ ?_
  · refine And.intro ?_ (And.intro ⟨_, _, rfl, rfl, fun i hi => congrArg (fun M : List UInt8 => [AV.rp 1001 2 0 0, AV.sl 101 M.length]) (iL3_zero L x).symm⟩ (And.intro (fun i hi => And.intro rfl (And.intro rfl trivial)) (And.intro ⟨_, _, rfl, congrArg List.length (iL3_zero L x), fun i hi => congrArg (fun M : List UInt8 => byU (M.getD i 0)) (iL3_zero L x).symm⟩ (And.intro trivial trivial))))
    all_goals repeat' (first | exact rfl | exact trivial | refine And.intro ?_ ?_)
  intro i hi
  repeat (first | refine AWp.seq ?_ | refine AWp.block ?_ | refine AWp.skip ?_)
  refine AWp.region ?_
  intro _
  repeat (first | refine AWp.seq ?_ | refine AWp.block ?_ | refine AWp.skip ?_)
  refine AWp.cond (And.intro (fun qi => ?_) (fun qi => ?_))
  · have hi' : i < x.Spoils.length := Int.ofNat_lt.1 (of_decide_eq_true qi)
    have h3i := h3 i
    have hr := h.spo _ (getD_memT hi')
    have r1 := itB_len hr.1
    have r2 := itB_len hr.2
    repeat (first | refine AWp.seq ?_ | refine AWp.block ?_ | refine AWp.skip ?_)
    refine AWp.region ?_
    refine And.intro (fun _ => And.intro (Int.natCast_nonneg _) (Int.ofNat_lt.2 hi')) ?_
    intro _
    refine AWp.freezeObj 7 rfl rfl ?_
    repeat (first | refine AWp.seq ?_ | refine AWp.block ?_ | refine AWp.skip ?_)
    have hS := iL3_succ (L := L) hi'
    refine AWp.mono (Q := fun e s => e = .normal ∧ Sub ⟨[(0, .rp 1001 2 0 0), (3, .ptr x.cells), (26, roL 2 Rg.cells x.Spoils), (27, .i64 x.Spoils.length), (28, .i64 i)], [(1001, bld 1001 102 (iL3 L x i ++ rgT (x.Spoils.getD i default)).length), (102, rowT (iL3 L x i ++ rgT (x.Spoils.getD i default)))]⟩ s) ?_ ?_
    · refine AWp.quietFirst (.q 1 (.q 2 (.q 6 (.q 7 (.c 0 false (.c 3 false (.q 4 (.q 5 (.c 8 false (.q 9 (.c 10 true .fin .no)) .no))) .no) (.c 3 false (.q 4 (.q 5 (.c 0 false (.c 8 false (.q 9 (.c 10 true .fin .no)) .no) (.c 8 false (.q 9 (.c 0 false (.c 10 true .fin .no) .no)) .no)))) .no)))))) [1, 2, 4, 5, 6, 7, 9] [] mixed (by kernel_rfl) ?_
      repeat' (first | exact trivial | refine And.intro ?_ ?_ | refine CallX.pure (c_Itoa _ hr.1.i) rfl rfl rfl ?_ | refine CallX.pure (c_Itoa _ hr.2.i) rfl rfl rfl ?_ | fail)
      all_goals first | (show 8 + (itB (x.Spoils.getD i default).Class).length ≤ _; omega) | (rw [ByteArray.size_append]; show 8 + (itB (x.Spoils.getD i default).Class).length + 1 ≤ _; omega) | (rw [ByteArray.size_append, ByteArray.size_append]; show 8 + (itB (x.Spoils.getD i default).Class).length + 1 + (itB (x.Spoils.getD i default).N).length ≤ _; omega) | skip
      all_goals refine CallX.lend (m_WS (iL3 L x i) (rgT (x.Spoils.getD i default)) (by have := rgT_len hr; omega)) [(1001, 1001), (1002, 101), (101, 102)] (congrArg (fun q => [AV.rp 1001 2 0 0, AV.val (.string q)]) (str_app4 [32, 115, 112, 111, 105, 108, 115, 32] (itB (x.Spoils.getD i default).Class) [32] (itB (x.Spoils.getD i default).N))) (And.intro rfl (And.intro rfl trivial)) rfl ?_
      all_goals intro _
      all_goals refine And.intro rfl ?_
      all_goals refine And.intro ?_ (And.intro ⟨_, _, rfl, rfl, fun i hi => rfl⟩ (And.intro (fun i hi => And.intro rfl (And.intro rfl trivial)) (And.intro ⟨_, _, rfl, rfl, fun i hi => rfl⟩ (And.intro trivial trivial))))
      all_goals repeat' (first | exact rfl | exact trivial | refine And.intro ?_ ?_)
    rintro _ _ ⟨rfl, hs⟩
    refine AWp.weaken hs ?_
    refine AWp.rename 102 101 rfl rfl ?_
    repeat (first | refine AWp.seq ?_ | refine AWp.block ?_ | refine AWp.skip ?_)
    refine AWp.region ?_
    intro _
    refine round_end (i + 1) hi' ?_ (by omega)
    refine And.intro ?_ (And.intro ⟨_, _, rfl, rfl, fun i hi => congrArg (fun M : List UInt8 => [AV.rp 1001 2 0 0, AV.sl 101 M.length]) (hS).symm⟩ (And.intro (fun i hi => And.intro rfl (And.intro rfl trivial)) (And.intro ⟨_, _, rfl, congrArg List.length (hS), fun i hi => congrArg (fun M : List UInt8 => byU (M.getD i 0)) (hS).symm⟩ (And.intro trivial trivial))))
    all_goals repeat' (first | exact rfl | exact trivial | exact congrArg (fun z => some (AV.i64 z)) (wrap_succ hi' hsl) | refine And.intro ?_ ?_)
  have hi3 : ¬ (i : Int) < x.Spoils.length := of_decide_eq_false qi
  obtain rfl : i = x.Spoils.length := by omega
  refine AWp.exit ?_
  refine AWp.rename 101 102 rfl rfl ?_
  repeat (first | refine AWp.seq ?_ | refine AWp.block ?_ | refine AWp.skip ?_)
  refine AWp.region ?_
  refine CallX.lend (m_WB (iL3 L x x.Spoils.length) 10 (by have := h3 x.Spoils.length; omega)) [(1001, 1001), (1002, 102), (101, 101)] rfl (And.intro rfl (And.intro rfl trivial)) rfl ?_
  intro _
  refine ⟨Or.inr rfl, ?_⟩
  intro _
  refine And.intro rfl (And.intro trivial (And.intro ⟨_, _, rfl, rfl, fun i hi => congrArg (fun M : List UInt8 => [AV.rp 1001 2 0 0, AV.sl 101 M.length]) (iL3_all L x).symm⟩ (And.intro (fun i hi => And.intro rfl (And.intro rfl trivial)) (And.intro ⟨_, _, rfl, congrArg List.length (iL3_all L x), fun i hi => congrArg (fun M : List UInt8 => byU (M.getD i 0)) (iL3_all L x).symm⟩ (And.intro trivial trivial)))))
end Go.Proofs.YtgkdmdfjfepcdaaDoor

/- Plain: a script's text. Contract of text.Show. Condition: a script that may be. -/
namespace Go.Proofs.YtgkdmdfjfepcdaaDoor
open Go Go.Abs Go.RowKit Go.Abs.Gra


/-- The text so far. -/
def tA (s : Scr) : List UInt8 := [109, 97, 99, 104, 105, 110, 101]
def tB (s : Scr) : List UInt8 := tA s ++ numB [s.Machine.r0, s.Machine.r1]
def tC (s : Scr) : List UInt8 := tB s ++ ([10, 114, 117, 110, 32] ++ itB s.Seed ++ [32] ++ itB s.Steps)
def tD (s : Scr) : List UInt8 := tC s ++ numB s.Junk
def tE (s : Scr) : List UInt8 := tD s ++ [10, 118, 97, 108, 117, 101, 115]
def tF (s : Scr) : List UInt8 := tE s ++ numB s.Func.Values
def tG (s : Scr) : List UInt8 := tF s ++ [10]
def edgT (e : Edg) : List UInt8 := ([101, 100, 103, 101, 32] ++ itB e.Block) ++ numB e.Args ++ [10]
def blkT (b : Blk) : List UInt8 := [98, 108, 111, 99, 107] ++ numB b.Params ++ [10] ++ b.Instrs.flatMap insT ++ b.Edges.flatMap edgT
def tH (s : Scr) (k : Nat) : List UInt8 := tG s ++ (s.Func.Blocks.take k).flatMap blkT
def tI (s : Scr) (k : Nat) : List UInt8 := tH s k ++ [98, 108, 111, 99, 107]
def tJ (s : Scr) (k : Nat) : List UInt8 := tI s k ++ numB (s.Func.Blocks.getD k default).Params
def tK (s : Scr) (k : Nat) : List UInt8 := tJ s k ++ [10]
def tL (s : Scr) (k i : Nat) : List UInt8 := tK s k ++ ((s.Func.Blocks.getD k default).Instrs.take i).flatMap insT
def tM (s : Scr) (k j : Nat) : List UInt8 := tL s k (s.Func.Blocks.getD k default).Instrs.length ++ ((s.Func.Blocks.getD k default).Edges.take j).flatMap edgT
def tN (s : Scr) (k j : Nat) : List UInt8 := tM s k j ++ ([101, 100, 103, 101, 32] ++ itB ((s.Func.Blocks.getD k default).Edges.getD j default).Block)
def tO (s : Scr) (k j : Nat) : List UInt8 := tN s k j ++ numB ((s.Func.Blocks.getD k default).Edges.getD j default).Args
/-- A script's text. -/
def scrT (s : Scr) : List UInt8 := tH s s.Func.Blocks.length
theorem tH_zero (s : Scr) : tG s = tH s 0 := by unfold tH; simp
theorem tL_zero (s : Scr) (k : Nat) : tK s k = tL s k 0 := by unfold tL; simp
theorem tM_zero (s : Scr) (k : Nat) : tL s k (s.Func.Blocks.getD k default).Instrs.length = tM s k 0 := by unfold tM; simp
theorem tL_succ {s : Scr} {k i : Nat} (hi : i < (s.Func.Blocks.getD k default).Instrs.length) : tL s k i ++ insT ((s.Func.Blocks.getD k default).Instrs.getD i default) = tL s k (i + 1) := by unfold tL; rw [flat_takeT hi, List.append_assoc]
theorem tM_succ {s : Scr} {k j : Nat} (hj : j < (s.Func.Blocks.getD k default).Edges.length) : tO s k j ++ [10] = tM s k (j + 1) := by
  unfold tO tN; conv => rhs; unfold tM
  rw [flat_takeT hj]; unfold tM; simp [edgT]
theorem tH_succ {s : Scr} {k : Nat} (hk : k < s.Func.Blocks.length) : tM s k (s.Func.Blocks.getD k default).Edges.length = tH s (k + 1) := by
  unfold tM tL tK tJ tI
  rw [List.take_length, List.take_length]
  conv => rhs; unfold tH
  rw [flat_takeT hk]; unfold tH blkT; simp
/-- What a script that may be is. -/
structure ScrP (s : Scr) : Prop where
  z : SizOk s.Func
  regs : Nn s.Machine.r0 ∧ Nn s.Machine.r1
  seed : Nn s.Seed
  steps : Nn s.Steps
  junk : s.Junk.length ≤ 64 ∧ ∀ n ∈ s.Junk, Nn n
  vals : ∀ n ∈ s.Func.Values, Nn n
  pars : ∀ k, k < s.Func.Blocks.length → ∀ n ∈ (s.Func.Blocks.getD k default).Params, Nn n
  ins : ∀ k, k < s.Func.Blocks.length → ∀ x ∈ (s.Func.Blocks.getD k default).Instrs, InsP x
  edg : ∀ k, k < s.Func.Blocks.length → ∀ e ∈ (s.Func.Blocks.getD k default).Edges, Nn e.Block ∧ e.Args.length ≤ 5 ∧ ∀ n ∈ e.Args, Nn n
theorem numB_all {l : List Int} (h : ∀ n ∈ l, Nn n) : (numB l).length ≤ 22 * l.length := by have := numB_len h l.length; rwa [List.take_length] at this
theorem edgT_len {e : Edg} (h : Nn e.Block ∧ e.Args.length ≤ 5 ∧ ∀ n ∈ e.Args, Nn n) : (edgT e).length ≤ 150 := by
  have h1 := itB_len h.1; have h2 := numB_all h.2.2; have h3 := h.2.1
  unfold edgT; simp only [List.length_append, List.length_cons, List.length_nil]; omega
theorem blkT_len {s : Scr} (h : ScrP s) : ∀ b ∈ s.Func.Blocks, (blkT b).length ≤ 90000 := by
  intro b hb
  obtain ⟨k, hk, rfl⟩ := getD_of_mem hb
  have h1 := numB_all (h.pars k hk)
  have h2 := flat_lenT (f := insT) (c := 2001) fun x hx => insT_len (h.ins k hk x hx)
  have h3 := flat_lenT (f := edgT) (c := 150) fun x hx => edgT_len (h.edg k hk x hx)
  have h4 := h.z.instrs k hk; have h5 := h.z.edges k hk; have h6 := h.z.params k hk
  unfold blkT; simp only [List.length_append, List.length_cons, List.length_nil]; omega
theorem tG_len {s : Scr} (h : ScrP s) : (tB s).length ≤ 60 ∧ (tC s).length ≤ 120 ∧ (tD s).length ≤ 1600 ∧ (tE s).length ≤ 1700 ∧ (tG s).length ≤ 6000 := by
  have h1 := numB_all (l := [s.Machine.r0, s.Machine.r1]) (fun n hn => by rcases List.mem_cons.1 hn with rfl | hn; exact h.regs.1; rcases List.mem_cons.1 hn with rfl | hn; exact h.regs.2; cases hn)
  have h2 := numB_all h.junk.2; have h3 := numB_all h.vals; have h4 := itB_len h.seed; have h5 := itB_len h.steps; have h6 := h.junk.1; have h7 := h.z.values
  unfold tG tF tE tD tC tB tA; simp only [List.length_append, List.length_cons, List.length_nil] at h1 ⊢; omega
theorem tH_len {s : Scr} (h : ScrP s) (k : Nat) : (tH s k).length ≤ 1500000 := by
  have h1 := flat_len_takeT (blkT_len h) k; have h2 := (tG_len h).2.2.2.2; have h3 := h.z.blocks.2
  unfold tH; simp only [List.length_append]; omega
theorem tL_len {s : Scr} (h : ScrP s) {k : Nat} (hk : k < s.Func.Blocks.length) (i : Nat) : (tL s k i).length ≤ 1600000 := by
  have h1 := flat_len_takeT (f := insT) (c := 2001) (fun x hx => insT_len (h.ins k hk x hx)) i
  have h2 := tH_len h k; have h3 := numB_all (h.pars k hk); have h4 := h.z.instrs k hk; have h6 := h.z.params k hk
  unfold tL tK tJ tI; simp only [List.length_append, List.length_cons, List.length_nil]; omega
theorem tM_len {s : Scr} (h : ScrP s) {k : Nat} (hk : k < s.Func.Blocks.length) (j : Nat) : (tM s k j).length ≤ 1700000 := by
  have h1 := flat_len_takeT (f := edgT) (c := 150) (fun x hx => edgT_len (h.edg k hk x hx)) j
  have h2 := tL_len h hk (s.Func.Blocks.getD k default).Instrs.length; have h5 := h.z.edges k hk
  unfold tM; simp only [List.length_append]; omega
set_option maxHeartbeats 8000000 in
theorem c_Show (s : Scr) (hok : Scr.ok s) (h0 : scrF s = 0) (h : ScrP s) : ACallIs B.P 4 [s.av] (.tup [strV (scrT s), .i64 0]) := by
  have hc := c_WireCheck s hok
  rw [h0] at hc
  obtain ⟨hB, hC, hD, hE, hG⟩ := tG_len h
  have hH := tH_len h
  have hbm : s.Func.Blocks.length ≤ maxLen := by have := h.z.blocks; unfold maxLen; omega
  have hjl := h.junk.1
  have hvl := h.z.values
  have hsd := itB_len h.seed
  have hst := itB_len h.steps
  refine ACallIs.enter B _ _ Tryd.func4 rfl rfl Tryd.ntmps4 Tryd.results4 rfl fun hreal => ?_
  clear hreal
  repeat (first | refine AWp.seq ?_ | refine AWp.block ?_ | refine AWp.skip ?_)
  refine AWp.region ?_
  intro _
  refine AWp.freezeObj 1 rfl rfl ?_
  repeat (first | refine AWp.seq ?_ | refine AWp.block ?_ | refine AWp.skip ?_)
  refine AWp.region ?_
  refine CallX.pure hc rfl rfl rfl ?_
  intro _
  repeat (first | refine AWp.seq ?_ | refine AWp.block ?_ | refine AWp.skip ?_)
  refine AWp.region ?_
  intro _
  repeat (first | refine AWp.seq ?_ | refine AWp.block ?_ | refine AWp.skip ?_)
  refine AWp.cond (And.intro (fun h1 => ?_) (fun h1 => ?_))
  · cases h1
  repeat (first | refine AWp.seq ?_ | refine AWp.block ?_ | refine AWp.skip ?_)
  refine AWp.region ?_
  refine Exists.intro [.pointer none, .slice none 0 0] (And.intro (by kernel_rfl) ?_)
  intro _
  repeat (first | refine AWp.seq ?_ | refine AWp.block ?_ | refine AWp.skip ?_)
  refine AWp.region ?_
  refine CallX.lend (m_WSF (tA s) (by show 7 ≤ 100000000; decide)) [(1001, 5), (101, 101)] rfl (And.intro rfl trivial) rfl ?_
  intro _
  repeat (first | refine AWp.seq ?_ | refine AWp.block ?_ | refine AWp.skip ?_)
  refine AWp.region ?_
  refine CallX.lend (m_num [s.Machine.r0, s.Machine.r1] (fun i => (s.cells.drop (i * 1)).take 1) (fun i hi => match i, hi with | 0, _ => rfl | 1, _ => rfl) (fun n hn => by rcases List.mem_cons.1 hn with rfl | hn; exact h.regs.1; rcases List.mem_cons.1 hn with rfl | hn; exact h.regs.2; cases hn) (tA s) (by show 7 + 22 * 2 + 22 ≤ 100000000; decide)) [(1001, 5), (1002, 101), (101, 102)] rfl (And.intro rfl (And.intro rfl trivial)) rfl ?_
  intro _
  refine AWp.rename 102 101 rfl rfl ?_
  repeat (first | refine AWp.seq ?_ | refine AWp.block ?_ | refine AWp.skip ?_)
  refine AWp.mono (Q := fun e q => e = .normal ∧ Sub ⟨[(1, .ptr s.cells), (5, .rp 5 2 0 0)], [(5, bld 5 102 (tC s).length), (102, rowT (tC s))]⟩ q) ?_ ?_
  · refine AWp.quietFirst (.q 0 (.q 1 (.q 5 (.q 6 (.c 2 false (.q 3 (.q 4 (.c 7 false (.q 8 (.c 9 true .fin .no)) .no))) .no))))) [0, 1, 3, 4, 5, 6, 8] [] mixed (by kernel_rfl) ?_
    repeat' (first | exact trivial | refine And.intro ?_ ?_ | refine CallX.pure (c_Itoa _ h.seed.i) rfl rfl rfl ?_ | refine CallX.pure (c_Itoa _ h.steps.i) rfl rfl rfl ?_ | fail)
    all_goals first | (show 5 + (itB s.Seed).length ≤ _; omega) | (rw [ByteArray.size_append]; show 5 + (itB s.Seed).length + 1 ≤ _; omega) | (rw [ByteArray.size_append, ByteArray.size_append]; show 5 + (itB s.Seed).length + 1 + (itB s.Steps).length ≤ _; omega) | skip
    all_goals refine CallX.lend (m_WS (tB s) ([10, 114, 117, 110, 32] ++ itB s.Seed ++ [32] ++ itB s.Steps) (by simp only [List.length_append, List.length_cons, List.length_nil]; omega)) [(1001, 5), (1002, 101), (101, 102)] (congrArg (fun q => [AV.rp 5 2 0 0, AV.val (.string q)]) (str_app4 [10, 114, 117, 110, 32] (itB s.Seed) [32] (itB s.Steps))) (And.intro rfl (And.intro rfl trivial)) rfl ?_
    all_goals intro _
    all_goals refine And.intro rfl ?_
    all_goals refine And.intro ?_ (And.intro ⟨_, _, rfl, rfl, fun i hi => rfl⟩ (And.intro (fun i hi => And.intro rfl (And.intro rfl trivial)) (And.intro ⟨_, _, rfl, rfl, fun i hi => rfl⟩ (And.intro trivial trivial))))
    all_goals repeat' (first | exact rfl | exact trivial | refine And.intro ?_ ?_)
  rintro _ _ ⟨rfl, hs⟩
  refine AWp.weaken hs ?_
  refine AWp.rename 102 101 rfl rfl ?_
  repeat (first | refine AWp.seq ?_ | refine AWp.block ?_ | refine AWp.skip ?_)
  refine AWp.region ?_
  refine CallX.lend (m_num (s.Junk) (fun i => intC ((s.Junk).getD i default)) (fun i hi => rfl) (h.junk.2) (tC s) (by omega)) [(1001, 5), (1002, 101), (101, 102)] rfl (And.intro rfl (And.intro rfl trivial)) rfl ?_
  intro _
  refine AWp.rename 102 101 rfl rfl ?_
  repeat (first | refine AWp.seq ?_ | refine AWp.block ?_ | refine AWp.skip ?_)
  refine AWp.region ?_
  refine CallX.lend (m_WS (tD s) [10, 118, 97, 108, 117, 101, 115] (by show _ + 7 ≤ _; omega)) [(1001, 5), (1002, 101), (101, 102)] rfl (And.intro rfl (And.intro rfl trivial)) rfl ?_
  intro _
  refine AWp.rename 102 101 rfl rfl ?_
  repeat (first | refine AWp.seq ?_ | refine AWp.block ?_ | refine AWp.skip ?_)
  refine AWp.region ?_
  refine CallX.lend (m_num (s.Func.Values) (fun i => intC ((s.Func.Values).getD i default)) (fun i hi => rfl) (h.vals) (tE s) (by omega)) [(1001, 5), (1002, 101), (101, 102)] rfl (And.intro rfl (And.intro rfl trivial)) rfl ?_
  intro _
  refine AWp.rename 102 101 rfl rfl ?_
  have hF : (tF s).length + 1 = (tG s).length := by unfold tG; rw [List.length_append]; rfl
  repeat (first | refine AWp.seq ?_ | refine AWp.block ?_ | refine AWp.skip ?_)
  refine AWp.region ?_
  refine CallX.lend (m_WB (tF s) 10 (by omega)) [(1001, 5), (1002, 101), (101, 102)] rfl (And.intro rfl (And.intro rfl trivial)) rfl ?_
  intro _
  refine AWp.rename 102 101 rfl rfl ?_
  repeat (first | refine AWp.seq ?_ | refine AWp.block ?_ | refine AWp.skip ?_)
  refine AWp.region ?_
  intro _
  repeat (first | refine AWp.seq ?_ | refine AWp.block ?_ | refine AWp.skip ?_)
  refine AWp.loop (fun k : Nat => ⟨[(1, .ptr s.cells), (5, .rp 5 2 0 0), (43, roL 3 Blk.cells s.Func.Blocks), (44, .i64 s.Func.Blocks.length), (45, .i64 k)], [(5, bld 5 101 (tH s k).length), (101, rowT (tH s k))]⟩) (fun k => k ≤ s.Func.Blocks.length) (fun k => s.Func.Blocks.length - k) 0 (Nat.zero_le _) ?_ ?_
  · refine And.intro ?_ (And.intro ⟨_, _, rfl, rfl, fun i hi => congrArg (fun M : List UInt8 => [AV.rp 5 2 0 0, AV.sl 101 M.length]) (tH_zero s).symm⟩ (And.intro (fun i hi => And.intro rfl (And.intro rfl trivial)) (And.intro ⟨_, _, rfl, congrArg List.length (tH_zero s), fun i hi => congrArg (fun M : List UInt8 => byU (M.getD i 0)) (tH_zero s).symm⟩ (And.intro trivial trivial))))
    all_goals repeat' (first | exact rfl | exact trivial | refine And.intro ?_ ?_)
  intro k hk
  repeat (first | refine AWp.seq ?_ | refine AWp.block ?_ | refine AWp.skip ?_)
  refine AWp.region ?_
  intro _
  repeat (first | refine AWp.seq ?_ | refine AWp.block ?_ | refine AWp.skip ?_)
  refine AWp.cond (And.intro (fun qk => ?_) (fun qk => ?_))
  · have hk' : k < s.Func.Blocks.length := Int.ofNat_lt.1 (of_decide_eq_true qk)
    have hHk := hH k
    have hLk := tL_len h hk'
    have hMk := tM_len h hk'
    have hpa := h.z.params k hk'
    have him : (s.Func.Blocks.getD k default).Instrs.length ≤ maxLen := by have := h.z.instrs k hk'; unfold maxLen; omega
    have hem : (s.Func.Blocks.getD k default).Edges.length ≤ maxLen := by have := h.z.edges k hk'; unfold maxLen; omega
    have hK0 : (tK s k).length ≤ 1600000 := by have := hLk 0; rwa [← tL_zero] at this
    have hJ0 : (tJ s k).length + 1 = (tK s k).length := by unfold tK; rw [List.length_append]; rfl
    have hI0 : (tI s k).length ≤ 1500005 := by unfold tI; rw [List.length_append]; show _ + 5 ≤ _; omega
    repeat (first | refine AWp.seq ?_ | refine AWp.block ?_ | refine AWp.skip ?_)
    refine AWp.region ?_
    refine And.intro (fun _ => And.intro (Int.natCast_nonneg _) (Int.ofNat_lt.2 hk')) ?_
    intro _
    refine AWp.freezeObj 7 rfl rfl ?_
    repeat (first | refine AWp.seq ?_ | refine AWp.block ?_ | refine AWp.skip ?_)
    refine AWp.region ?_
    refine CallX.lend (m_WS (tH s k) [98, 108, 111, 99, 107] (by show _ + 5 ≤ _; omega)) [(1001, 5), (1002, 101), (101, 102)] rfl (And.intro rfl (And.intro rfl trivial)) rfl ?_
    intro _
    refine AWp.rename 102 101 rfl rfl ?_
    repeat (first | refine AWp.seq ?_ | refine AWp.block ?_ | refine AWp.skip ?_)
    refine AWp.region ?_
    refine CallX.lend (m_num ((s.Func.Blocks.getD k default).Params) (fun i => intC (((s.Func.Blocks.getD k default).Params).getD i default)) (fun i hi => rfl) (h.pars k hk') (tI s k) (by omega)) [(1001, 5), (1002, 101), (101, 102)] rfl (And.intro rfl (And.intro rfl trivial)) rfl ?_
    intro _
    refine AWp.rename 102 101 rfl rfl ?_
    repeat (first | refine AWp.seq ?_ | refine AWp.block ?_ | refine AWp.skip ?_)
    refine AWp.region ?_
    refine CallX.lend (m_WB (tJ s k) 10 (by omega)) [(1001, 5), (1002, 101), (101, 102)] rfl (And.intro rfl (And.intro rfl trivial)) rfl ?_
    intro _
    refine AWp.rename 102 101 rfl rfl ?_
    repeat (first | refine AWp.seq ?_ | refine AWp.block ?_ | refine AWp.skip ?_)
    refine AWp.region ?_
    intro _
    repeat (first | refine AWp.seq ?_ | refine AWp.block ?_ | refine AWp.skip ?_)
    refine AWp.loop (fun i : Nat => ⟨[(1, .ptr s.cells), (5, .rp 5 2 0 0), (43, roL 3 Blk.cells s.Func.Blocks), (44, .i64 s.Func.Blocks.length), (45, .i64 k), (7, .ptr (s.Func.Blocks.getD k default).cells), (55, roL 3 Ins.cells (s.Func.Blocks.getD k default).Instrs), (56, .i64 (s.Func.Blocks.getD k default).Instrs.length), (57, .i64 i)], [(5, bld 5 101 (tL s k i).length), (101, rowT (tL s k i))]⟩) (fun i => i ≤ (s.Func.Blocks.getD k default).Instrs.length) (fun i => (s.Func.Blocks.getD k default).Instrs.length - i) 0 (Nat.zero_le _) ?_ ?_
    · refine And.intro ?_ (And.intro ⟨_, _, rfl, rfl, fun i hi => congrArg (fun M : List UInt8 => [AV.rp 5 2 0 0, AV.sl 101 M.length]) (tL_zero s k).symm⟩ (And.intro (fun i hi => And.intro rfl (And.intro rfl trivial)) (And.intro ⟨_, _, rfl, congrArg List.length (tL_zero s k), fun i hi => congrArg (fun M : List UInt8 => byU (M.getD i 0)) (tL_zero s k).symm⟩ (And.intro trivial trivial))))
      all_goals repeat' (first | exact rfl | exact trivial | refine And.intro ?_ ?_)
    intro i hi
    repeat (first | refine AWp.seq ?_ | refine AWp.block ?_ | refine AWp.skip ?_)
    refine AWp.region ?_
    intro _
    repeat (first | refine AWp.seq ?_ | refine AWp.block ?_ | refine AWp.skip ?_)
    refine AWp.cond (And.intro (fun qi => ?_) (fun qi => ?_))
    · have hi' : i < (s.Func.Blocks.getD k default).Instrs.length := Int.ofNat_lt.1 (of_decide_eq_true qi)
      have hLi := hLk i
      repeat (first | refine AWp.seq ?_ | refine AWp.block ?_ | refine AWp.skip ?_)
      refine AWp.region ?_
      refine And.intro (fun _ => And.intro (Int.natCast_nonneg _) (Int.ofNat_lt.2 hi')) ?_
      intro _
      refine AWp.freezeObj 9 rfl rfl ?_
      repeat (first | refine AWp.seq ?_ | refine AWp.block ?_ | refine AWp.skip ?_)
      refine AWp.region ?_
      refine CallX.lend (m_ins ((s.Func.Blocks.getD k default).Instrs.getD i default) (h.ins k hk' _ (getD_memT hi')) (tL s k i) (by omega)) [(1001, 5), (1002, 101), (101, 102)] rfl (And.intro rfl (And.intro rfl trivial)) rfl ?_
      intro _
      refine AWp.rename 102 101 rfl rfl ?_
      repeat (first | refine AWp.seq ?_ | refine AWp.block ?_ | refine AWp.skip ?_)
      refine AWp.region ?_
      intro _
      refine round_end (i + 1) hi' ?_ (by omega)
      refine And.intro ?_ (And.intro ⟨_, _, rfl, rfl, fun i hi => congrArg (fun M : List UInt8 => [AV.rp 5 2 0 0, AV.sl 101 M.length]) (tL_succ hi').symm⟩ (And.intro (fun i hi => And.intro rfl (And.intro rfl trivial)) (And.intro ⟨_, _, rfl, congrArg List.length (tL_succ hi'), fun i hi => congrArg (fun M : List UInt8 => byU (M.getD i 0)) (tL_succ hi').symm⟩ (And.intro trivial trivial))))
      all_goals repeat' (first | exact rfl | exact trivial | exact congrArg (fun z => some (AV.i64 z)) (wrap_succ hi' him) | refine And.intro ?_ ?_)
    have hi3 : ¬ (i : Int) < (s.Func.Blocks.getD k default).Instrs.length := of_decide_eq_false qi
    obtain rfl : i = (s.Func.Blocks.getD k default).Instrs.length := by omega
    refine AWp.exit ?_
    repeat (first | refine AWp.seq ?_ | refine AWp.block ?_ | refine AWp.skip ?_)
    refine AWp.region ?_
    intro _
    repeat (first | refine AWp.seq ?_ | refine AWp.block ?_ | refine AWp.skip ?_)
    refine AWp.loop (fun j : Nat => ⟨[(1, .ptr s.cells), (5, .rp 5 2 0 0), (43, roL 3 Blk.cells s.Func.Blocks), (44, .i64 s.Func.Blocks.length), (45, .i64 k), (7, .ptr (s.Func.Blocks.getD k default).cells), (65, roL 2 Edg.cells (s.Func.Blocks.getD k default).Edges), (66, .i64 (s.Func.Blocks.getD k default).Edges.length), (67, .i64 j)], [(5, bld 5 101 (tM s k j).length), (101, rowT (tM s k j))]⟩) (fun j => j ≤ (s.Func.Blocks.getD k default).Edges.length) (fun j => (s.Func.Blocks.getD k default).Edges.length - j) 0 (Nat.zero_le _) ?_ ?_
    · refine And.intro ?_ (And.intro ⟨_, _, rfl, rfl, fun i hi => congrArg (fun M : List UInt8 => [AV.rp 5 2 0 0, AV.sl 101 M.length]) (tM_zero s k).symm⟩ (And.intro (fun i hi => And.intro rfl (And.intro rfl trivial)) (And.intro ⟨_, _, rfl, congrArg List.length (tM_zero s k), fun i hi => congrArg (fun M : List UInt8 => byU (M.getD i 0)) (tM_zero s k).symm⟩ (And.intro trivial trivial))))
      all_goals repeat' (first | exact rfl | exact trivial | refine And.intro ?_ ?_)
    intro j hj
    repeat (first | refine AWp.seq ?_ | refine AWp.block ?_ | refine AWp.skip ?_)
    refine AWp.region ?_
    intro _
    repeat (first | refine AWp.seq ?_ | refine AWp.block ?_ | refine AWp.skip ?_)
    refine AWp.cond (And.intro (fun qj => ?_) (fun qj => ?_))
    · have hj' : j < (s.Func.Blocks.getD k default).Edges.length := Int.ofNat_lt.1 (of_decide_eq_true qj)
      have hMj := hMk j
      have hE := h.edg k hk' _ (getD_memT hj')
      have he1 := itB_len hE.1
      have he2 := hE.2.1
      have hN : (tN s k j).length = (tM s k j).length + (5 + (itB ((s.Func.Blocks.getD k default).Edges.getD j default).Block).length) := by unfold tN; simp only [List.length_append, List.length_cons, List.length_nil]
      have hO : (tO s k j).length + 1 = (tM s k (j + 1)).length := by rw [← tM_succ hj', List.length_append]; rfl
      have hM1 := hMk (j + 1)
      repeat (first | refine AWp.seq ?_ | refine AWp.block ?_ | refine AWp.skip ?_)
      refine AWp.region ?_
      refine And.intro (fun _ => And.intro (Int.natCast_nonneg _) (Int.ofNat_lt.2 hj')) ?_
      intro _
      refine AWp.freezeObj 11 rfl rfl ?_
      repeat (first | refine AWp.seq ?_ | refine AWp.block ?_ | refine AWp.skip ?_)
      refine AWp.region ?_
      refine CallX.pure (c_Itoa _ hE.1.i) rfl rfl rfl ?_
      refine And.intro (by show 5 + (itB ((s.Func.Blocks.getD k default).Edges.getD j default).Block).length ≤ _; omega) ?_
      refine CallX.lend (m_WS (tM s k j) ([101, 100, 103, 101, 32] ++ itB ((s.Func.Blocks.getD k default).Edges.getD j default).Block) (by simp only [List.length_append, List.length_cons, List.length_nil]; omega)) [(1001, 5), (1002, 101), (101, 102)] (congrArg (fun q => [AV.rp 5 2 0 0, AV.val (.string q)]) (str_app [101, 100, 103, 101, 32] (itB ((s.Func.Blocks.getD k default).Edges.getD j default).Block))) (And.intro rfl (And.intro rfl trivial)) rfl ?_
      intro _
      refine AWp.rename 102 101 rfl rfl ?_
      repeat (first | refine AWp.seq ?_ | refine AWp.block ?_ | refine AWp.skip ?_)
      refine AWp.region ?_
      refine CallX.lend (m_num (((s.Func.Blocks.getD k default).Edges.getD j default).Args) (fun i => intC ((((s.Func.Blocks.getD k default).Edges.getD j default).Args).getD i default)) (fun i hi => rfl) (hE.2.2) (tN s k j) (by omega)) [(1001, 5), (1002, 101), (101, 102)] rfl (And.intro rfl (And.intro rfl trivial)) rfl ?_
      intro _
      refine AWp.rename 102 101 rfl rfl ?_
      repeat (first | refine AWp.seq ?_ | refine AWp.block ?_ | refine AWp.skip ?_)
      refine AWp.region ?_
      refine CallX.lend (m_WB (tO s k j) 10 (by omega)) [(1001, 5), (1002, 101), (101, 102)] rfl (And.intro rfl (And.intro rfl trivial)) rfl ?_
      intro _
      refine AWp.rename 102 101 rfl rfl ?_
      repeat (first | refine AWp.seq ?_ | refine AWp.block ?_ | refine AWp.skip ?_)
      refine AWp.region ?_
      intro _
      refine round_end (j + 1) hj' ?_ (by omega)
      refine And.intro ?_ (And.intro ⟨_, _, rfl, rfl, fun i hi => congrArg (fun M : List UInt8 => [AV.rp 5 2 0 0, AV.sl 101 M.length]) (tM_succ hj').symm⟩ (And.intro (fun i hi => And.intro rfl (And.intro rfl trivial)) (And.intro ⟨_, _, rfl, congrArg List.length (tM_succ hj'), fun i hi => congrArg (fun M : List UInt8 => byU (M.getD i 0)) (tM_succ hj').symm⟩ (And.intro trivial trivial))))
      all_goals repeat' (first | exact rfl | exact trivial | exact congrArg (fun z => some (AV.i64 z)) (wrap_succ hj' hem) | refine And.intro ?_ ?_)
    have hj3 : ¬ (j : Int) < (s.Func.Blocks.getD k default).Edges.length := of_decide_eq_false qj
    obtain rfl : j = (s.Func.Blocks.getD k default).Edges.length := by omega
    refine AWp.exit ?_
    repeat (first | refine AWp.seq ?_ | refine AWp.block ?_ | refine AWp.skip ?_)
    refine AWp.region ?_
    intro _
    refine round_end (k + 1) hk' ?_ (by omega)
    refine And.intro ?_ (And.intro ⟨_, _, rfl, rfl, fun i hi => congrArg (fun M : List UInt8 => [AV.rp 5 2 0 0, AV.sl 101 M.length]) (tH_succ hk').symm⟩ (And.intro (fun i hi => And.intro rfl (And.intro rfl trivial)) (And.intro ⟨_, _, rfl, congrArg List.length (tH_succ hk'), fun i hi => congrArg (fun M : List UInt8 => byU (M.getD i 0)) (tH_succ hk').symm⟩ (And.intro trivial trivial))))
    all_goals repeat' (first | exact rfl | exact trivial | exact congrArg (fun z => some (AV.i64 z)) (wrap_succ hk' hbm) | refine And.intro ?_ ?_)
  have hk3 : ¬ (k : Int) < s.Func.Blocks.length := of_decide_eq_false qk
  obtain rfl : k = s.Func.Blocks.length := by omega
  refine AWp.exit ?_
  repeat (first | refine AWp.seq ?_ | refine AWp.block ?_ | refine AWp.skip ?_)
  refine AWp.region ?_
  refine CallX.lend (m_String (scrT s) (by unfold scrT tH tG tF tE tD tC tB tA; simp)) [(1001, 5), (1002, 101)] rfl (And.intro rfl (And.intro rfl trivial)) rfl ?_
  intro _
  refine AWp.ret ⟨Or.inl rfl, rfl, ?_⟩
  intro _
  rfl
end Go.Proofs.YtgkdmdfjfepcdaaDoor

/- Contracts of the document's Dec, spoken, limitWords, instrLine. Condition: sizes that may be. -/
namespace Go.Proofs.YtgkdmdfjfepcdaaDoor
open Go Go.Abs Go.RowKit Go.Abs.Gra

theorem itB_nat (k : Nat) : itB (k : Int) = Lib.decDigits k := by unfold itB Lib.itoa; rw [if_neg (by omega), Int.toNat_natCast]
theorem u8w {k : Nat} (h : k < 10) : IntKind.u8.wrap (IntKind.i64.wrap (48 + (k : Int))) = ((48 + k : Nat) : Int) := by
  rw [show (48 + (k : Int)) = ((48 + k : Nat) : Int) by omega, wrap_in (by omega) (by omega)]
  have e1 : (2 : Int) ^ IntKind.u8.bits = 256 := rfl
  have e3 : IntKind.u8.signed = false := rfl
  simp only [IntKind.wrap, e1, e3, Bool.false_and, decide_eq_true_eq]
  simp; omega
theorem one_str (k : Nat) : bytesOf ((List.range 1).map fun _ => ((k : Nat) : Int)) = strOf [UInt8.ofNat k] := rfl
theorem c_DecN (k : Nat) (hk : k ≤ 4611686018427387904) : ACallIs B.P 14 [.i64 (k : Int)] (strV (Lib.decDigits k)) := by
  by_cases h10 : k < 10
  · have e1 : Lib.decDigits k = [UInt8.ofNat (48 + k)] := by rw [Lib.decDigits, dif_pos h10]
    refine ACallIs.enter B _ _ Tryd.func14 rfl rfl Tryd.ntmps14 Tryd.results14 rfl fun hreal => ?_
    clear hreal
    repeat (first | refine AWp.seq ?_ | refine AWp.block ?_ | refine AWp.skip ?_)
    refine AWp.region ?_
    intro _
    repeat (first | refine AWp.seq ?_ | refine AWp.block ?_ | refine AWp.skip ?_)
    refine AWp.region ?_
    intro _
    repeat (first | refine AWp.seq ?_ | refine AWp.block ?_ | refine AWp.skip ?_)
    refine AWp.cond (And.intro (fun h1 => ?_) (fun h1 => ?_))
    · have h1 : (k : Int) < 0 := of_decide_eq_true h1
      omega
    repeat (first | refine AWp.seq ?_ | refine AWp.block ?_ | refine AWp.skip ?_)
    refine AWp.region ?_
    intro _
    repeat (first | refine AWp.seq ?_ | refine AWp.block ?_ | refine AWp.skip ?_)
    refine AWp.cond (And.intro (fun h2 => ?_) (fun h2 => ?_))
    · repeat (first | refine AWp.seq ?_ | refine AWp.block ?_ | refine AWp.skip ?_)
      refine AWp.regionFrz 4 14 (fun _ => [AV.val (.int .u8 ((48 + k : Nat) : Int))]) ?_
      refine ⟨_, _, _, _, rfl, fun j hj => ?_, ?_⟩
      · obtain rfl : j = 0 := by omega
        show [AV.val (.int .u8 ((48 + k : Nat) : Int))] = [AV.val (.int .u8 (IntKind.u8.wrap (IntKind.i64.wrap (48 + (k : Int)))))]
        rw [u8w h10]
      refine Exists.intro (fun _ => ((48 + k : Nat) : Int)) (And.intro (fun _ i hi => rfl) ?_)
      intro _
      refine AWp.ret ⟨Or.inl rfl, rfl, ?_⟩
      intro _
      rw [e1]
      exact congrArg (fun q => AV.val (.string q)) (one_str (48 + k))
    · have h2 : ¬ (k : Int) < 10 := of_decide_eq_false h2
      omega
  · have ih := c_DecN (k / 10) (by omega)
    have e1 : Lib.decDigits k = Lib.decDigits (k / 10) ++ [UInt8.ofNat (48 + k % 10)] := by rw [Lib.decDigits, dif_neg h10]
    refine ACallIs.enter B _ _ Tryd.func14 rfl rfl Tryd.ntmps14 Tryd.results14 rfl fun hreal => ?_
    clear hreal
    repeat (first | refine AWp.seq ?_ | refine AWp.block ?_ | refine AWp.skip ?_)
    refine AWp.region ?_
    intro _
    repeat (first | refine AWp.seq ?_ | refine AWp.block ?_ | refine AWp.skip ?_)
    refine AWp.region ?_
    intro _
    repeat (first | refine AWp.seq ?_ | refine AWp.block ?_ | refine AWp.skip ?_)
    refine AWp.cond (And.intro (fun h1 => ?_) (fun h1 => ?_))
    · have h1 : (k : Int) < 0 := of_decide_eq_true h1
      omega
    repeat (first | refine AWp.seq ?_ | refine AWp.block ?_ | refine AWp.skip ?_)
    refine AWp.region ?_
    intro _
    repeat (first | refine AWp.seq ?_ | refine AWp.block ?_ | refine AWp.skip ?_)
    refine AWp.cond (And.intro (fun h2 => ?_) (fun h2 => ?_))
    · have h2 : (k : Int) < 10 := of_decide_eq_true h2
      omega
    have eq : AV.i64 ((k / 10 : Nat) : Int) = AV.i64 (IntKind.i64.wrap (Int.tdiv (k : Int) 10)) := by
      rw [show Int.tdiv (k : Int) 10 = ((k / 10 : Nat) : Int) from (Int.ofNat_tdiv k 10).symm, wrap_in (by omega) (by omega)]
    rw [eq] at ih
    have er : Int.tmod (k : Int) 10 = ((k % 10 : Nat) : Int) := (Int.ofNat_tmod k 10).symm
    have hl : (Lib.decDigits (k / 10)).length ≤ 21 := by rw [← itB_nat]; exact itB_len ⟨by omega, by omega⟩
    repeat (first | refine AWp.seq ?_ | refine AWp.block ?_ | refine AWp.skip ?_)
    refine AWp.quietFirst (.q 0 (.q 1 (.q 3 (.q 4 (.q 5 (.q 6 (.c 2 false (.c 7 false (.z 23 (.c 8 false (.q 9 (.q 10 .fin)) .no)) .no) (.c 7 false (.z 23 (.c 2 false (.c 8 false (.q 9 (.q 10 .fin)) .no) (.c 8 false (.c 2 false (.q 9 (.q 10 .fin)) .no) .no))) .no)))))))) [0, 1, 3, 4, 5, 6, 9, 10] [] mixed (by kernel_rfl) ?_
    refine And.intro (by decide) (And.intro (by decide) (And.intro ?_ (And.intro ?_ trivial)))
    · refine CallX.pure ih rfl rfl rfl (And.intro ?_ trivial)
      refine Exists.intro (HO.row 5 1 1 (fun _ => [AV.val (.int .u8 ((48 + k % 10 : Nat) : Int))])) ?_
      refine And.intro (Exists.intro _ (Exists.intro _ (And.intro rfl (And.intro rfl fun i hi => ?_)))) (And.intro trivial (And.intro trivial (And.intro ?_ trivial)))
      · obtain rfl : i = 0 := by omega
        show [AV.val (.int .u8 ((48 + k % 10 : Nat) : Int))] = [AV.val (.int .u8 (IntKind.u8.wrap (IntKind.i64.wrap (48 + (k : Int).tmod 10))))]
        rw [er, u8w (by omega)]
      refine Exists.intro (fun _ => ((48 + k % 10 : Nat) : Int)) (And.intro (fun _ i hi => rfl) ?_)
      refine And.intro (by show (Lib.decDigits (k / 10)).length + 1 ≤ _; omega) ?_
      intro _
      refine AWp.ret ⟨Or.inl rfl, rfl, ?_⟩
      intro _
      rw [e1]
      exact congrArg (fun q => AV.val (.string q)) (str_app _ _)
    · refine Exists.intro (HO.row 5 1 1 (fun _ => [AV.val (.int .u8 ((48 + k % 10 : Nat) : Int))])) ?_
      refine And.intro (Exists.intro _ (Exists.intro _ (And.intro rfl (And.intro rfl fun i hi => ?_)))) (And.intro trivial (And.intro trivial (And.intro ?_ (And.intro ?_ trivial))))
      · obtain rfl : i = 0 := by omega
        show [AV.val (.int .u8 ((48 + k % 10 : Nat) : Int))] = [AV.val (.int .u8 (IntKind.u8.wrap (IntKind.i64.wrap (48 + (k : Int).tmod 10))))]
        rw [er, u8w (by omega)]
      · refine CallX.pure ih rfl rfl rfl (And.intro ?_ trivial)
        refine Exists.intro (fun _ => ((48 + k % 10 : Nat) : Int)) (And.intro (fun _ i hi => rfl) ?_)
        refine And.intro (by show (Lib.decDigits (k / 10)).length + 1 ≤ _; omega) ?_
        intro _
        refine AWp.ret ⟨Or.inl rfl, rfl, ?_⟩
        intro _
        rw [e1]
        exact congrArg (fun q => AV.val (.string q)) (str_app _ _)
      · refine Exists.intro (fun _ => ((48 + k % 10 : Nat) : Int)) (And.intro (fun _ i hi => rfl) (And.intro ?_ trivial))
        refine CallX.pure ih rfl rfl rfl ?_
        refine And.intro (by show (Lib.decDigits (k / 10)).length + 1 ≤ _; omega) ?_
        intro _
        refine AWp.ret ⟨Or.inl rfl, rfl, ?_⟩
        intro _
        rw [e1]
        exact congrArg (fun q => AV.val (.string q)) (str_app _ _)
termination_by k
decreasing_by omega
theorem c_Dec (n : Int) (h : Nn n) : ACallIs B.P 14 [.i64 n] (strV (itB n)) := by
  obtain ⟨k, rfl⟩ : ∃ k : Nat, n = k := ⟨n.toNat, by have := h.1; omega⟩
  rw [itB_nat]
  exact c_DecN k (by have := h.2; omega)
end Go.Proofs.YtgkdmdfjfepcdaaDoor

/- Contracts of the document's spoken, limitWords, instrLine. Condition: sizes that may be. -/
namespace Go.Proofs.YtgkdmdfjfepcdaaDoor
open Go Go.Abs Go.RowKit Go.Abs.Gra


theorem szS (l : List UInt8) : (strOf l).size = l.length := rfl
theorem sz32 (a : Array UInt8) : (ByteArray.mk a).size = a.size := rfl
theorem strB_len {l : List UInt8} {n : Nat} (h : l.length ≤ n) (hn : n ≤ 4611686018427387000) (k : Nat) (hk : k ≤ 900) : (strOf l).size + k ≤ 4611686018427387904 := by show l.length + k ≤ _; omega
set_option maxHeartbeats 1000000 in
theorem c_spoken (l : List Int) (hn : ∀ n ∈ l, Nn n) (hl : l.length ≤ 1000) : ACallIs B.P 15 [ints l] (strV (numB l)) := by
  have hlm : l.length ≤ maxLen := by unfold maxLen; omega
  refine ACallIs.enter B _ _ Tryd.func15 rfl rfl Tryd.ntmps15 Tryd.results15 rfl fun hreal => ?_
  clear hreal
  repeat (first | refine AWp.seq ?_ | refine AWp.block ?_ | refine AWp.skip ?_)
  refine AWp.region ?_
  intro _
  repeat (first | refine AWp.seq ?_ | refine AWp.block ?_ | refine AWp.skip ?_)
  refine AWp.region ?_
  intro _
  repeat (first | refine AWp.seq ?_ | refine AWp.block ?_ | refine AWp.skip ?_)
  refine AWp.region ?_
  intro _
  repeat (first | refine AWp.seq ?_ | refine AWp.block ?_ | refine AWp.skip ?_)
  refine AWp.loop (fun j : Nat => ⟨[(0, ints l), (3, strV (numB (l.take j))), (4, .i64 j)], []⟩) (fun j => j ≤ l.length) (fun j => l.length - j) 0 (Nat.zero_le _) ?_ ?_
  · refine And.intro ?_ trivial
    all_goals repeat' (first | exact rfl | exact trivial | refine And.intro ?_ ?_)
  intro j hj
  repeat (first | refine AWp.seq ?_ | refine AWp.block ?_ | refine AWp.skip ?_)
  refine AWp.region ?_
  intro _
  repeat (first | refine AWp.seq ?_ | refine AWp.block ?_ | refine AWp.skip ?_)
  refine AWp.cond (And.intro (fun q => ?_) (fun q => ?_))
  · have hj' : j < l.length := Int.ofNat_lt.1 (of_decide_eq_true q)
    have hI := hn _ (getD_memT hj')
    have hIl := itB_len hI
    have hlen := numB_len hn j
    have hS : strOf (numB (l.take j)) ++ strOf [32] ++ strOf (itB (l.getD j default)) = strOf (numB (l.take (j + 1))) := by
      rw [str_app3]; unfold numB; rw [flat_takeT hj', List.append_assoc]; rfl
    repeat (first | refine AWp.seq ?_ | refine AWp.block ?_ | refine AWp.skip ?_)
    refine AWp.region ?_
    refine And.intro (strB_len hlen (by omega) 1 (by decide)) (And.intro (fun _ => And.intro (Int.natCast_nonneg _) (Int.ofNat_lt.2 hj')) ?_)
    refine CallX.pure (c_Dec _ hI) rfl rfl rfl ?_
    refine And.intro (by rw [ByteArray.size_append]; show (numB (l.take j)).length + 1 + (itB (l.getD j default)).length ≤ _; omega) ?_
    intro _
    repeat (first | refine AWp.seq ?_ | refine AWp.block ?_ | refine AWp.skip ?_)
    refine AWp.region ?_
    intro _
    refine round_end (j + 1) hj' ?_ (by omega)
    refine And.intro ?_ trivial
    all_goals repeat' (first | exact rfl | exact trivial | exact congrArg (fun q => some (AV.val (.string q))) (hS) | exact congrArg (fun z => some (AV.i64 z)) (wrap_succ hj' hlm) | refine And.intro ?_ ?_)
  have hj3 : ¬ (j : Int) < l.length := of_decide_eq_false q
  obtain rfl : j = l.length := by omega
  refine AWp.exit ?_
  repeat (first | refine AWp.seq ?_ | refine AWp.block ?_ | refine AWp.skip ?_)
  refine AWp.region ?_
  intro _
  refine AWp.ret ⟨Or.inl rfl, rfl, ?_⟩
  intro _
  exact congrArg (fun q => strV (numB q)) List.take_length
def lwV : List AV := [strV [], strV (limB 1), strV (limB 2), strV (limB 3), strV (limB 4), strV (limB 5)]
theorem c_limitWords : ACallIs B.P 23 [] (.ro 1 6 (fun i => [lwV.getD i .any])) := by
  refine ACallIs.enter B _ _ Tryd.func23 rfl rfl Tryd.ntmps23 Tryd.results23 rfl fun hreal => ?_
  clear hreal
  repeat (first | refine AWp.seq ?_ | refine AWp.block ?_ | refine AWp.skip ?_)
  refine AWp.region ?_
  intro _
  repeat (first | refine AWp.seq ?_ | refine AWp.block ?_ | refine AWp.skip ?_)
  refine AWp.region ?_
  intro _
  refine AWp.freeze 1 (fun i => [lwV.getD i .any]) rfl (fun i hi => match i, hi with | 0, _ => rfl | 1, _ => rfl | 2, _ => rfl | 3, _ => rfl | 4, _ => rfl | 5, _ => rfl) ?_
  refine AWp.ret ⟨Or.inl rfl, rfl, ?_⟩
  intro _
  rfl
set_option maxHeartbeats 4000000 in
theorem c_instrLine (x : Ins) (h : InsP x) : ACallIs B.P 16 [x.av] (strV (insT x)) := by
  have hol : x.Operands.length ≤ maxLen := by have := h.opl; unfold maxLen; omega
  have hsl : x.Spoils.length ≤ maxLen := by have := h.spl; unfold maxLen; omega
  have h2 := fun k => iL2_len (L := []) h k
  have h3 := fun k => iL3_len (L := []) h k
  have hop := itB_len h.op
  simp only [List.length_nil, Nat.zero_add] at h2 h3
  refine ACallIs.enter B _ _ Tryd.func16 rfl rfl Tryd.ntmps16 Tryd.results16 rfl fun hreal => ?_
  clear hreal
  repeat (first | refine AWp.seq ?_ | refine AWp.block ?_ | refine AWp.skip ?_)
  refine AWp.region ?_
  intro _
  refine AWp.freezeObj 1 rfl rfl ?_
  repeat (first | refine AWp.seq ?_ | refine AWp.block ?_ | refine AWp.skip ?_)
  refine AWp.region ?_
  refine CallX.pure (c_Dec _ h.op) rfl rfl rfl ?_
  refine And.intro (by show 3 + (itB x.Op).length ≤ _; omega) ?_
  intro _
  repeat (first | refine AWp.seq ?_ | refine AWp.block ?_ | refine AWp.skip ?_)
  refine AWp.region ?_
  intro _
  repeat (first | refine AWp.seq ?_ | refine AWp.block ?_ | refine AWp.skip ?_)
  refine AWp.loop (fun k : Nat => ⟨[(1, .ptr x.cells), (3, strV (iL2 [] x k)), (4, .i64 k)], []⟩) (fun k => k ≤ x.Operands.length) (fun k => x.Operands.length - k) 0 (Nat.zero_le _) ?_ ?_
  · have e : strOf [111, 112, 32] ++ strOf (itB x.Op) = strOf (iL2 [] x 0) := by rw [str_app, ← iL2_zero]; rfl
    refine And.intro ?_ trivial
    all_goals repeat' (first | exact rfl | exact trivial | exact congrArg (fun q => some (AV.val (.string q))) (e) | refine And.intro ?_ ?_)
  intro k hk
  repeat (first | refine AWp.seq ?_ | refine AWp.block ?_ | refine AWp.skip ?_)
  refine AWp.region ?_
  intro _
  repeat (first | refine AWp.seq ?_ | refine AWp.block ?_ | refine AWp.skip ?_)
  refine AWp.cond (And.intro (fun qk => ?_) (fun qk => ?_))
  · have hk' : k < x.Operands.length := Int.ofNat_lt.1 (of_decide_eq_true qk)
    have hA := h2 k
    have hO := h.opd _ (getD_memT hk')
    have hS := iL2_succ (L := []) hk'
    have hv := itB_len hO.val
    have l1 := knd_len (x.Operands.getD k default).Kind
    have l2 := lim_len (x.Operands.getD k default).Limit
    have l3 := latB_len (x.Operands.getD k default).Late
    repeat (first | refine AWp.seq ?_ | refine AWp.block ?_ | refine AWp.skip ?_)
    refine AWp.region ?_
    refine And.intro (fun _ => And.intro (Int.natCast_nonneg _) (Int.ofNat_lt.2 hk')) ?_
    intro _
    refine AWp.freezeObj 5 rfl rfl ?_
    refine AWp.weaken (s' := ⟨[(1, .ptr x.cells), (3, strV (iL2 [] x k)), (4, .i64 k), (5, .ptr (x.Operands.getD k default).cells)], []⟩) ?_ ?_
    · refine And.intro ?_ trivial
      all_goals repeat' (first | exact rfl | exact trivial | refine And.intro ?_ ?_)
    generalize (x.Operands.getD k default) = o at *
    generalize iL2 [] x k = A at *
    have n1 : (oL1 A o).length ≤ 600 := by unfold oL1; simp only [List.length_append, List.length_cons]; omega
    have n2 : (oL2 A o).length ≤ 610 := by unfold oL2; simp only [List.length_append]; omega
    have n3 : (oL3 A o).length ≤ 650 := by unfold oL3; simp only [List.length_append, List.length_cons, List.length_nil]; omega
    repeat (first | refine AWp.seq ?_ | refine AWp.block ?_ | refine AWp.skip ?_)
    refine AWp.mono (Q := fun e s => e = .normal ∧ Sub ⟨[(1, .ptr x.cells), (3, strV (oL1 A o)), (4, .i64 k), (5, .ptr o.cells)], []⟩ s) ?_ ?_
    · obtain ⟨K, V, La, Li, N⟩ := o
      have hk : K = 1 ∨ K = 2 := hO.knd
      rcases hk with rfl | rfl
      · have e : strOf A ++ strOf [32, 117, 115, 101] = strOf (oL1 A ⟨1, V, La, Li, N⟩) := str_app A [32, 117, 115, 101]
        refine AWp.region ?_
        refine And.intro (fun _ => by show (0 : Int) ≤ 1 ∧ (1 : Int) < 3; decide) (And.intro (fun _ => by show 1 < 3; decide) ?_)
        refine And.intro (strB_len hA (by omega) 4 (by decide)) ?_
        intro _
        refine And.intro rfl ?_
        refine And.intro ?_ trivial
        all_goals repeat' (first | exact rfl | exact trivial | exact congrArg (fun q => some (AV.val (.string q))) (e) | refine And.intro ?_ ?_)
      · have e : strOf A ++ strOf [32, 100, 101, 102] = strOf (oL1 A ⟨2, V, La, Li, N⟩) := str_app A [32, 100, 101, 102]
        refine AWp.region ?_
        refine And.intro (fun _ => by show (0 : Int) ≤ 2 ∧ (2 : Int) < 3; decide) (And.intro (fun _ => by show 2 < 3; decide) ?_)
        refine And.intro (strB_len hA (by omega) 4 (by decide)) ?_
        intro _
        refine And.intro rfl ?_
        refine And.intro ?_ trivial
        all_goals repeat' (first | exact rfl | exact trivial | exact congrArg (fun q => some (AV.val (.string q))) (e) | refine And.intro ?_ ?_)
    rintro _ _ ⟨rfl, hs⟩
    refine AWp.weaken hs ?_
    repeat (first | refine AWp.seq ?_ | refine AWp.block ?_ | refine AWp.skip ?_)
    refine AWp.region ?_
    intro _
    repeat (first | refine AWp.seq ?_ | refine AWp.block ?_ | refine AWp.skip ?_)
    refine AWp.mono (Q := fun e s => e = .normal ∧ Sub ⟨[(1, .ptr x.cells), (3, strV (oL2 A o)), (4, .i64 k), (5, .ptr o.cells)], []⟩ s) ?_ ?_
    · repeat (first | refine AWp.seq ?_ | refine AWp.block ?_ | refine AWp.skip ?_)
      refine AWp.cond (And.intro (fun h4 => ?_) (fun h4 => ?_))
      · have h4 : o.Late = true := h4
        have e : strOf (oL1 A o) ++ strOf [32, 108, 97, 116, 101] = strOf (oL2 A o) := by rw [str_app]; unfold oL2; rw [h4]; rfl
        repeat (first | refine AWp.seq ?_ | refine AWp.block ?_ | refine AWp.skip ?_)
        refine AWp.region ?_
        refine And.intro (strB_len n1 (by omega) 5 (by decide)) ?_
        intro _
        refine And.intro rfl ?_
        refine And.intro ?_ trivial
        all_goals repeat' (first | exact rfl | exact trivial | exact congrArg (fun q => some (AV.val (.string q))) (e) | refine And.intro ?_ ?_)
      · have h4 : o.Late = false := h4
        have e : strOf (oL1 A o) = strOf (oL2 A o) := by unfold oL2; rw [h4]; simp [latB]
        refine AWp.skip ?_
        refine And.intro rfl ?_
        refine And.intro ?_ trivial
        all_goals repeat' (first | exact rfl | exact trivial | exact congrArg (fun q => some (AV.val (.string q))) (e) | refine And.intro ?_ ?_)
    rintro _ _ ⟨rfl, hs⟩
    refine AWp.weaken hs ?_
    repeat (first | refine AWp.seq ?_ | refine AWp.block ?_ | refine AWp.skip ?_)
    refine AWp.mono (Q := fun e s => e = .normal ∧ Sub ⟨[(1, .ptr x.cells), (3, strV (oL3 A o)), (4, .i64 k), (5, .ptr o.cells)], []⟩ s) ?_ ?_
    · obtain ⟨K, V, La, Li, N⟩ := o
      have hvv : (itB V).length ≤ 21 := hv
      have hl : Li = 1 ∨ Li = 2 ∨ Li = 3 ∨ Li = 4 ∨ Li = 5 := hO.lim
      rcases hl with rfl | rfl | rfl | rfl | rfl
      · have e : strOf (oL2 A ⟨K, V, La, 1, N⟩) ++ strOf [32] ++ strOf (itB V) ++ strOf [32] ++ strOf (limB 1) = strOf (oL3 A ⟨K, V, La, 1, N⟩) := by rw [str_app4, str_app]; unfold oL3; simp
        have lk := lim_len 1
        refine AWp.quietFirst (.q 0 (.q 1 (.q 2 (.q 3 (.q 8 (.q 9 (.c 4 false (.q 5 (.q 6 (.c 7 false (.q 10 (.q 11 (.q 12 (.q 13 .fin)))) .no))) .no))))))) [0, 1, 2, 3, 5, 6, 8, 9, 10, 11, 12, 13] [] mixed (by kernel_rfl) ?_
        repeat' (first | exact trivial | refine And.intro ?_ ?_ | refine CallX.pure (c_Dec _ hO.val) rfl rfl rfl ?_ | refine CallX.pure c_limitWords rfl rfl rfl ?_ | fail)
        all_goals first | exact (fun _ => by show (0 : Int) ≤ 1 ∧ (1 : Int) < 6; decide) | (simp only [ByteArray.size_append, szS, sz32, List.size_toArray, List.length_cons, List.length_nil]; omega) | skip
        all_goals intro _
        all_goals refine And.intro rfl ?_
        all_goals refine And.intro ?_ trivial
        all_goals repeat' (first | exact rfl | exact trivial | exact congrArg (fun q => some (AV.val (.string q))) (e) | refine And.intro ?_ ?_)
      · have e : strOf (oL2 A ⟨K, V, La, 2, N⟩) ++ strOf [32] ++ strOf (itB V) ++ strOf [32] ++ strOf (limB 2) = strOf (oL3 A ⟨K, V, La, 2, N⟩) := by rw [str_app4, str_app]; unfold oL3; simp
        have lk := lim_len 2
        refine AWp.quietFirst (.q 0 (.q 1 (.q 2 (.q 3 (.q 8 (.q 9 (.c 4 false (.q 5 (.q 6 (.c 7 false (.q 10 (.q 11 (.q 12 (.q 13 .fin)))) .no))) .no))))))) [0, 1, 2, 3, 5, 6, 8, 9, 10, 11, 12, 13] [] mixed (by kernel_rfl) ?_
        repeat' (first | exact trivial | refine And.intro ?_ ?_ | refine CallX.pure (c_Dec _ hO.val) rfl rfl rfl ?_ | refine CallX.pure c_limitWords rfl rfl rfl ?_ | fail)
        all_goals first | exact (fun _ => by show (0 : Int) ≤ 2 ∧ (2 : Int) < 6; decide) | (simp only [ByteArray.size_append, szS, sz32, List.size_toArray, List.length_cons, List.length_nil]; omega) | skip
        all_goals intro _
        all_goals refine And.intro rfl ?_
        all_goals refine And.intro ?_ trivial
        all_goals repeat' (first | exact rfl | exact trivial | exact congrArg (fun q => some (AV.val (.string q))) (e) | refine And.intro ?_ ?_)
      · have e : strOf (oL2 A ⟨K, V, La, 3, N⟩) ++ strOf [32] ++ strOf (itB V) ++ strOf [32] ++ strOf (limB 3) = strOf (oL3 A ⟨K, V, La, 3, N⟩) := by rw [str_app4, str_app]; unfold oL3; simp
        have lk := lim_len 3
        refine AWp.quietFirst (.q 0 (.q 1 (.q 2 (.q 3 (.q 8 (.q 9 (.c 4 false (.q 5 (.q 6 (.c 7 false (.q 10 (.q 11 (.q 12 (.q 13 .fin)))) .no))) .no))))))) [0, 1, 2, 3, 5, 6, 8, 9, 10, 11, 12, 13] [] mixed (by kernel_rfl) ?_
        repeat' (first | exact trivial | refine And.intro ?_ ?_ | refine CallX.pure (c_Dec _ hO.val) rfl rfl rfl ?_ | refine CallX.pure c_limitWords rfl rfl rfl ?_ | fail)
        all_goals first | exact (fun _ => by show (0 : Int) ≤ 3 ∧ (3 : Int) < 6; decide) | (simp only [ByteArray.size_append, szS, sz32, List.size_toArray, List.length_cons, List.length_nil]; omega) | skip
        all_goals intro _
        all_goals refine And.intro rfl ?_
        all_goals refine And.intro ?_ trivial
        all_goals repeat' (first | exact rfl | exact trivial | exact congrArg (fun q => some (AV.val (.string q))) (e) | refine And.intro ?_ ?_)
      · have e : strOf (oL2 A ⟨K, V, La, 4, N⟩) ++ strOf [32] ++ strOf (itB V) ++ strOf [32] ++ strOf (limB 4) = strOf (oL3 A ⟨K, V, La, 4, N⟩) := by rw [str_app4, str_app]; unfold oL3; simp
        have lk := lim_len 4
        refine AWp.quietFirst (.q 0 (.q 1 (.q 2 (.q 3 (.q 8 (.q 9 (.c 4 false (.q 5 (.q 6 (.c 7 false (.q 10 (.q 11 (.q 12 (.q 13 .fin)))) .no))) .no))))))) [0, 1, 2, 3, 5, 6, 8, 9, 10, 11, 12, 13] [] mixed (by kernel_rfl) ?_
        repeat' (first | exact trivial | refine And.intro ?_ ?_ | refine CallX.pure (c_Dec _ hO.val) rfl rfl rfl ?_ | refine CallX.pure c_limitWords rfl rfl rfl ?_ | fail)
        all_goals first | exact (fun _ => by show (0 : Int) ≤ 4 ∧ (4 : Int) < 6; decide) | (simp only [ByteArray.size_append, szS, sz32, List.size_toArray, List.length_cons, List.length_nil]; omega) | skip
        all_goals intro _
        all_goals refine And.intro rfl ?_
        all_goals refine And.intro ?_ trivial
        all_goals repeat' (first | exact rfl | exact trivial | exact congrArg (fun q => some (AV.val (.string q))) (e) | refine And.intro ?_ ?_)
      · have e : strOf (oL2 A ⟨K, V, La, 5, N⟩) ++ strOf [32] ++ strOf (itB V) ++ strOf [32] ++ strOf (limB 5) = strOf (oL3 A ⟨K, V, La, 5, N⟩) := by rw [str_app4, str_app]; unfold oL3; simp
        have lk := lim_len 5
        refine AWp.quietFirst (.q 0 (.q 1 (.q 2 (.q 3 (.q 8 (.q 9 (.c 4 false (.q 5 (.q 6 (.c 7 false (.q 10 (.q 11 (.q 12 (.q 13 .fin)))) .no))) .no))))))) [0, 1, 2, 3, 5, 6, 8, 9, 10, 11, 12, 13] [] mixed (by kernel_rfl) ?_
        repeat' (first | exact trivial | refine And.intro ?_ ?_ | refine CallX.pure (c_Dec _ hO.val) rfl rfl rfl ?_ | refine CallX.pure c_limitWords rfl rfl rfl ?_ | fail)
        all_goals first | exact (fun _ => by show (0 : Int) ≤ 5 ∧ (5 : Int) < 6; decide) | (simp only [ByteArray.size_append, szS, sz32, List.size_toArray, List.length_cons, List.length_nil]; omega) | skip
        all_goals intro _
        all_goals refine And.intro rfl ?_
        all_goals refine And.intro ?_ trivial
        all_goals repeat' (first | exact rfl | exact trivial | exact congrArg (fun q => some (AV.val (.string q))) (e) | refine And.intro ?_ ?_)
    rintro _ _ ⟨rfl, hs⟩
    refine AWp.weaken hs ?_
    have hL := hO.lim
    repeat (first | refine AWp.seq ?_ | refine AWp.block ?_ | refine AWp.skip ?_)
    refine AWp.region ?_
    refine And.intro (fun h => h) (And.intro (fun h => h) (And.intro gF ?_))
    intro _
    repeat (first | refine AWp.seq ?_ | refine AWp.block ?_ | refine AWp.skip ?_)
    refine AWp.cond (And.intro (fun h5 => ?_) (fun h5 => ?_))
    · have h5 : 4 ≤ o.Limit := by
        have h5 : (bif o.Limit == 4 then true else o.Limit == 5) = true := h5
        cases e4 : o.Limit == 4 <;> rw [e4] at h5 <;> simp at e4 h5 <;> omega
      have hN := hO.num h5
      have hn := itB_len hN
      have e : strOf (oL3 A o) ++ strOf [32] ++ strOf (itB o.N) = strOf (iL2 [] x (k + 1)) := by rw [← hS, ← oL4, nB, if_pos h5, str_app3]; simp
      repeat (first | refine AWp.seq ?_ | refine AWp.block ?_ | refine AWp.skip ?_)
      refine AWp.region ?_
      refine And.intro (strB_len n3 (by omega) 1 (by decide)) ?_
      refine CallX.pure (c_Dec _ hN) rfl rfl rfl ?_
      refine And.intro (by simp only [ByteArray.size_append, szS, sz32, List.size_toArray, List.length_cons, List.length_nil]; omega) ?_
      intro _
      repeat (first | refine AWp.seq ?_ | refine AWp.block ?_ | refine AWp.skip ?_)
      refine AWp.region ?_
      intro _
      refine round_end (k + 1) hk' ?_ (by omega)
      refine And.intro ?_ trivial
      all_goals repeat' (first | exact rfl | exact trivial | exact congrArg (fun q => some (AV.val (.string q))) (e) | exact congrArg (fun z => some (AV.i64 z)) (wrap_succ hk' hol) | refine And.intro ?_ ?_)
    · have h5 : ¬ 4 ≤ o.Limit := by
        have h5 : (bif o.Limit == 4 then true else o.Limit == 5) = false := h5
        cases e4 : o.Limit == 4 <;> rw [e4] at h5 <;> simp at e4 h5 <;> omega
      have e : strOf (oL3 A o) = strOf (iL2 [] x (k + 1)) := by rw [← hS, ← oL4, nB, if_neg h5, List.append_nil]
      refine AWp.skip ?_
      repeat (first | refine AWp.seq ?_ | refine AWp.block ?_ | refine AWp.skip ?_)
      refine AWp.region ?_
      intro _
      refine round_end (k + 1) hk' ?_ (by omega)
      refine And.intro ?_ trivial
      all_goals repeat' (first | exact rfl | exact trivial | exact congrArg (fun q => some (AV.val (.string q))) (e) | exact congrArg (fun z => some (AV.i64 z)) (wrap_succ hk' hol) | refine And.intro ?_ ?_)
  have hk3 : ¬ (k : Int) < x.Operands.length := of_decide_eq_false qk
  obtain rfl : k = x.Operands.length := by omega
  refine AWp.exit ?_
  repeat (first | refine AWp.seq ?_ | refine AWp.block ?_ | refine AWp.skip ?_)
  refine AWp.region ?_
  intro _
  repeat (first | refine AWp.seq ?_ | refine AWp.block ?_ | refine AWp.skip ?_)
  refine AWp.loop (fun i : Nat => ⟨[(1, .ptr x.cells), (3, strV (iL3 [] x i)), (6, .i64 i)], []⟩) (fun i => i ≤ x.Spoils.length) (fun i => x.Spoils.length - i) 0 (Nat.zero_le _) ?_ ?_
  · refine And.intro ?_ trivial
    all_goals repeat' (first | exact rfl | exact trivial | exact congrArg (fun q => some (AV.val (.string q))) (congrArg strOf (iL3_zero [] x)) | refine And.intro ?_ ?_)
  intro i hi
  repeat (first | refine AWp.seq ?_ | refine AWp.block ?_ | refine AWp.skip ?_)
  refine AWp.region ?_
  intro _
  repeat (first | refine AWp.seq ?_ | refine AWp.block ?_ | refine AWp.skip ?_)
  refine AWp.cond (And.intro (fun qi => ?_) (fun qi => ?_))
  · have hi' : i < x.Spoils.length := Int.ofNat_lt.1 (of_decide_eq_true qi)
    have hA := h3 i
    have hr := h.spo _ (getD_memT hi')
    have r1 := itB_len hr.1
    have r2 := itB_len hr.2
    have e : strOf (iL3 [] x i) ++ strOf [32, 115, 112, 111, 105, 108, 115, 32] ++ strOf (itB (x.Spoils.getD i default).Class) ++ strOf [32] ++ strOf (itB (x.Spoils.getD i default).N) = strOf (iL3 [] x (i + 1)) := by rw [str_app4, str_app, ← iL3_succ hi']; simp [rgT]
    repeat (first | refine AWp.seq ?_ | refine AWp.block ?_ | refine AWp.skip ?_)
    refine AWp.mono (Q := fun e s => e = .normal ∧ Sub ⟨[(1, .ptr x.cells), (3, strV (iL3 [] x (i + 1))), (6, .i64 i)], []⟩ s) ?_ ?_
    · refine AWp.quietFirst (.q 0 (.q 1 (.q 2 (.q 3 (.q 4 (.q 5 (.q 6 (.q 7 (.q 11 (.q 12 (.q 13 (.q 14 (.q 15 (.q 16 (.c 8 false (.q 9 (.q 10 (.c 17 false (.q 18 (.q 19 .fin)) .no))) .no))))))))))))))) [0, 1, 2, 3, 4, 5, 6, 7, 9, 10, 11, 12, 13, 14, 15, 16, 18, 19] [] mixed (by kernel_rfl) ?_
      repeat' (first | exact trivial | refine And.intro ?_ ?_ | refine CallX.pure (c_Dec _ hr.1) rfl rfl rfl ?_ | refine CallX.pure (c_Dec _ hr.2) rfl rfl rfl ?_ | fail)
      all_goals first | exact (fun _ => And.intro (Int.natCast_nonneg _) (Int.ofNat_lt.2 hi')) | (simp only [ByteArray.size_append, szS, sz32, List.size_toArray, List.length_cons, List.length_nil]; omega) | skip
      all_goals intro _
      all_goals refine And.intro rfl ?_
      all_goals refine And.intro ?_ trivial
      all_goals repeat' (first | exact rfl | exact trivial | exact congrArg (fun q => some (AV.val (.string q))) (e) | refine And.intro ?_ ?_)
    rintro _ _ ⟨rfl, hs⟩
    refine AWp.weaken hs ?_
    repeat (first | refine AWp.seq ?_ | refine AWp.block ?_ | refine AWp.skip ?_)
    refine AWp.region ?_
    intro _
    refine round_end (i + 1) hi' ?_ (by omega)
    refine And.intro ?_ trivial
    all_goals repeat' (first | exact rfl | exact trivial | exact congrArg (fun z => some (AV.i64 z)) (wrap_succ hi' hsl) | refine And.intro ?_ ?_)
  have hi3 : ¬ (i : Int) < x.Spoils.length := of_decide_eq_false qi
  obtain rfl : i = x.Spoils.length := by omega
  refine AWp.exit ?_
  repeat (first | refine AWp.seq ?_ | refine AWp.block ?_ | refine AWp.skip ?_)
  refine AWp.region ?_
  refine And.intro (by simp only [szS, sz32, List.size_toArray, List.length_cons, List.length_nil]; have := h3 x.Spoils.length; omega) ?_
  intro _
  refine AWp.ret ⟨Or.inl rfl, rfl, ?_⟩
  intro _
  exact congrArg (fun q => AV.val (.string q)) ((str_app (iL3 [] x x.Spoils.length) [10]).trans (congrArg strOf (iL3_all [] x)))
end Go.Proofs.YtgkdmdfjfepcdaaDoor

/- Contract of the document's ScriptText. Condition: a script that may be. -/
namespace Go.Proofs.YtgkdmdfjfepcdaaDoor
open Go Go.Abs Go.RowKit Go.Abs.Gra


set_option maxHeartbeats 8000000 in
theorem c_ScriptText (s : Scr) (hok : Scr.ok s) (h0 : scrF s = 0) (h : ScrP s) : ACallIs B.P 5 [s.av] (.tup [strV (scrT s), .i64 0]) := by
  have hc := c_ScriptFault s hok
  rw [h0] at hc
  obtain ⟨hB, hC, hD, hE, hG⟩ := tG_len h
  have hH := tH_len h
  have hbm : s.Func.Blocks.length ≤ maxLen := by have := h.z.blocks; unfold maxLen; omega
  have hjl := h.junk.1
  have hvl := h.z.values
  have hsd := itB_len h.seed
  have hst := itB_len h.steps
  have hr0 := itB_len h.regs.1
  have hr1 := itB_len h.regs.2
  have hjk := numB_all h.junk.2
  have hvk := numB_all h.vals
  have cJ := c_spoken s.Junk h.junk.2 (by omega)
  have cV := c_spoken s.Func.Values h.vals (by omega)
  have eB : strOf [109, 97, 99, 104, 105, 110, 101, 32] ++ strOf (itB s.Machine.r0) ++ strOf [32] ++ strOf (itB s.Machine.r1) ++ strOf [10] = strOf (tB s ++ [10]) := by
    rw [str_app4, str_app]; unfold tB tA numB; simp
  have eD : strOf (tB s ++ [10]) ++ strOf [114, 117, 110, 32] ++ strOf (itB s.Seed) ++ strOf [32] ++ strOf (itB s.Steps) ++ strOf (numB s.Junk) ++ strOf [10] = strOf (tD s ++ [10]) := by
    rw [str_app4, str_app3, str_app]; unfold tD tC; simp
  have eG : strOf (tD s ++ [10]) ++ strOf [118, 97, 108, 117, 101, 115] ++ strOf (numB s.Func.Values) ++ strOf [10] = strOf (tH s 0) := by
    rw [str_app4, ← tH_zero]; unfold tG tF tE; simp
  have lB : (tB s ++ [10]).length ≤ 61 := by simp only [List.length_append, List.length_cons, List.length_nil]; omega
  have lD : (tD s ++ [10]).length ≤ 1601 := by simp only [List.length_append, List.length_cons, List.length_nil]; omega
  refine ACallIs.enter B _ _ Tryd.func5 rfl rfl Tryd.ntmps5 Tryd.results5 rfl fun hreal => ?_
  clear hreal
  repeat (first | refine AWp.seq ?_ | refine AWp.block ?_ | refine AWp.skip ?_)
  refine AWp.region ?_
  intro _
  refine AWp.freezeObj 1 rfl rfl ?_
  repeat (first | refine AWp.seq ?_ | refine AWp.block ?_ | refine AWp.skip ?_)
  refine AWp.region ?_
  refine CallX.pure hc rfl rfl rfl ?_
  intro _
  repeat (first | refine AWp.seq ?_ | refine AWp.block ?_ | refine AWp.skip ?_)
  refine AWp.region ?_
  intro _
  repeat (first | refine AWp.seq ?_ | refine AWp.block ?_ | refine AWp.skip ?_)
  refine AWp.cond (And.intro (fun h1 => ?_) (fun h1 => ?_))
  · cases h1
  repeat (first | refine AWp.seq ?_ | refine AWp.block ?_ | refine AWp.skip ?_)
  refine AWp.mono (Q := fun e q => e = .normal ∧ Sub ⟨[(1, .ptr s.cells), (5, strV (tB s ++ [10]))], []⟩ q) ?_ ?_
  · refine AWp.quietFirst (.q 0 (.q 1 (.q 2 (.q 3 (.q 7 (.q 8 (.q 9 (.q 10 (.c 4 false (.q 5 (.q 6 (.c 11 false (.q 12 (.q 13 (.q 14 .fin))) .no))) .no))))))))) [0, 1, 2, 3, 5, 6, 7, 8, 9, 10, 12, 13, 14] [] mixed (by kernel_rfl) ?_
    repeat' (first | exact trivial | refine And.intro ?_ ?_ | refine CallX.pure (c_Dec _ h.regs.1) rfl rfl rfl ?_ | refine CallX.pure (c_Dec _ h.regs.2) rfl rfl rfl ?_ | fail)
    all_goals first | exact (fun _ => And.intro (by decide) (by decide)) | (simp only [ByteArray.size_append, szS, sz32, List.size_toArray, List.length_cons, List.length_nil]; omega) | skip
    all_goals intro _
    all_goals refine And.intro rfl ?_
    all_goals refine And.intro ?_ trivial
    all_goals repeat' (first | exact rfl | exact trivial | exact congrArg (fun q => some (AV.val (.string q))) (eB) | refine And.intro ?_ ?_)
  rintro _ _ ⟨rfl, hs⟩
  refine AWp.weaken hs ?_
  repeat (first | refine AWp.seq ?_ | refine AWp.block ?_ | refine AWp.skip ?_)
  refine AWp.mono (Q := fun e q => e = .normal ∧ Sub ⟨[(1, .ptr s.cells), (5, strV (tD s ++ [10]))], []⟩ q) ?_ ?_
  · refine AWp.quietFirst (.q 0 (.q 1 (.q 2 (.q 3 (.q 7 (.q 8 (.q 11 (.q 12 (.c 4 false (.q 5 (.q 6 (.c 9 false (.q 10 (.c 13 false (.q 14 (.q 15 (.q 16 .fin))) .no)) .no))) .no))))))))) [0, 1, 2, 3, 5, 6, 7, 8, 10, 11, 12, 14, 15, 16] [] mixed (by kernel_rfl) ?_
    repeat' (first | exact trivial | refine And.intro ?_ ?_ | refine CallX.pure (c_Dec _ h.seed) rfl rfl rfl ?_ | refine CallX.pure (c_Dec _ h.steps) rfl rfl rfl ?_ | refine CallX.pure (cJ) rfl rfl rfl ?_ | fail)
    all_goals first | (simp only [ByteArray.size_append, szS, sz32, List.size_toArray, List.length_cons, List.length_nil]; omega) | skip
    all_goals intro _
    all_goals refine And.intro rfl ?_
    all_goals refine And.intro ?_ trivial
    all_goals repeat' (first | exact rfl | exact trivial | exact congrArg (fun q => some (AV.val (.string q))) (eD) | refine And.intro ?_ ?_)
  rintro _ _ ⟨rfl, hs⟩
  refine AWp.weaken hs ?_
  repeat (first | refine AWp.seq ?_ | refine AWp.block ?_ | refine AWp.skip ?_)
  refine AWp.region ?_
  refine And.intro (strB_len lD (by omega) 6 (by decide)) ?_
  refine CallX.pure cV rfl rfl rfl ?_
  refine And.intro (by simp only [ByteArray.size_append, szS, sz32, List.size_toArray, List.length_cons, List.length_nil]; omega) (And.intro (by simp only [ByteArray.size_append, szS, sz32, List.size_toArray, List.length_cons, List.length_nil]; omega) ?_)
  intro _
  repeat (first | refine AWp.seq ?_ | refine AWp.block ?_ | refine AWp.skip ?_)
  refine AWp.region ?_
  intro _
  repeat (first | refine AWp.seq ?_ | refine AWp.block ?_ | refine AWp.skip ?_)
  refine AWp.loop (fun k : Nat => ⟨[(1, .ptr s.cells), (5, strV (tH s k)), (6, .i64 k)], []⟩) (fun k => k ≤ s.Func.Blocks.length) (fun k => s.Func.Blocks.length - k) 0 (Nat.zero_le _) ?_ ?_
  · refine And.intro ?_ trivial
    all_goals repeat' (first | exact rfl | exact trivial | exact congrArg (fun q => some (AV.val (.string q))) (eG) | refine And.intro ?_ ?_)
  intro k hk
  repeat (first | refine AWp.seq ?_ | refine AWp.block ?_ | refine AWp.skip ?_)
  refine AWp.region ?_
  intro _
  repeat (first | refine AWp.seq ?_ | refine AWp.block ?_ | refine AWp.skip ?_)
  refine AWp.cond (And.intro (fun qk => ?_) (fun qk => ?_))
  · have hk' : k < s.Func.Blocks.length := Int.ofNat_lt.1 (of_decide_eq_true qk)
    have hHk := hH k
    have hLk := tL_len h hk'
    have hMk := tM_len h hk'
    have hpa := h.z.params k hk'
    have hpk := numB_all (h.pars k hk')
    have cP := c_spoken (s.Func.Blocks.getD k default).Params (h.pars k hk') (by omega)
    have him : (s.Func.Blocks.getD k default).Instrs.length ≤ maxLen := by have := h.z.instrs k hk'; unfold maxLen; omega
    have hem : (s.Func.Blocks.getD k default).Edges.length ≤ maxLen := by have := h.z.edges k hk'; unfold maxLen; omega
    have eK : strOf (tH s k) ++ strOf [98, 108, 111, 99, 107] ++ strOf (numB (s.Func.Blocks.getD k default).Params) ++ strOf [10] = strOf (tL s k 0) := by rw [str_app4, ← tL_zero]; rfl
    repeat (first | refine AWp.seq ?_ | refine AWp.block ?_ | refine AWp.skip ?_)
    refine AWp.region ?_
    refine And.intro (fun _ => And.intro (Int.natCast_nonneg _) (Int.ofNat_lt.2 hk')) ?_
    intro _
    refine AWp.freezeObj 7 rfl rfl ?_
    repeat (first | refine AWp.seq ?_ | refine AWp.block ?_ | refine AWp.skip ?_)
    refine AWp.region ?_
    refine And.intro (strB_len hHk (by omega) 5 (by decide)) ?_
    refine CallX.pure cP rfl rfl rfl ?_
    refine And.intro (by simp only [ByteArray.size_append, szS, sz32, List.size_toArray, List.length_cons, List.length_nil]; omega) (And.intro (by simp only [ByteArray.size_append, szS, sz32, List.size_toArray, List.length_cons, List.length_nil]; omega) ?_)
    intro _
    repeat (first | refine AWp.seq ?_ | refine AWp.block ?_ | refine AWp.skip ?_)
    refine AWp.region ?_
    intro _
    repeat (first | refine AWp.seq ?_ | refine AWp.block ?_ | refine AWp.skip ?_)
    refine AWp.loop (fun i : Nat => ⟨[(1, .ptr s.cells), (6, .i64 k), (7, .ptr (s.Func.Blocks.getD k default).cells), (5, strV (tL s k i)), (8, .i64 i)], []⟩) (fun i => i ≤ (s.Func.Blocks.getD k default).Instrs.length) (fun i => (s.Func.Blocks.getD k default).Instrs.length - i) 0 (Nat.zero_le _) ?_ ?_
    · refine And.intro ?_ trivial
      all_goals repeat' (first | exact rfl | exact trivial | exact congrArg (fun q => some (AV.val (.string q))) (eK) | refine And.intro ?_ ?_)
    intro i hi
    repeat (first | refine AWp.seq ?_ | refine AWp.block ?_ | refine AWp.skip ?_)
    refine AWp.region ?_
    intro _
    repeat (first | refine AWp.seq ?_ | refine AWp.block ?_ | refine AWp.skip ?_)
    refine AWp.cond (And.intro (fun qi => ?_) (fun qi => ?_))
    · have hi' : i < (s.Func.Blocks.getD k default).Instrs.length := Int.ofNat_lt.1 (of_decide_eq_true qi)
      have hX := h.ins k hk' _ (getD_memT hi')
      have hXl := insT_len hX
      have hLi := hLk i
      have e : strOf (tL s k i) ++ strOf (insT ((s.Func.Blocks.getD k default).Instrs.getD i default)) = strOf (tL s k (i + 1)) := by rw [str_app, tL_succ hi']
      repeat (first | refine AWp.seq ?_ | refine AWp.block ?_ | refine AWp.skip ?_)
      refine AWp.region ?_
      refine And.intro (fun _ => And.intro (Int.natCast_nonneg _) (Int.ofNat_lt.2 hi')) ?_
      refine CallX.pure (c_instrLine _ hX) rfl rfl rfl ?_
      refine And.intro (by simp only [szS]; omega) ?_
      intro _
      repeat (first | refine AWp.seq ?_ | refine AWp.block ?_ | refine AWp.skip ?_)
      refine AWp.region ?_
      intro _
      refine round_end (i + 1) hi' ?_ (by omega)
      refine And.intro ?_ trivial
      all_goals repeat' (first | exact rfl | exact trivial | exact congrArg (fun q => some (AV.val (.string q))) (e) | exact congrArg (fun z => some (AV.i64 z)) (wrap_succ hi' him) | refine And.intro ?_ ?_)
    have hi3 : ¬ (i : Int) < (s.Func.Blocks.getD k default).Instrs.length := of_decide_eq_false qi
    obtain rfl : i = (s.Func.Blocks.getD k default).Instrs.length := by omega
    refine AWp.exit ?_
    repeat (first | refine AWp.seq ?_ | refine AWp.block ?_ | refine AWp.skip ?_)
    refine AWp.region ?_
    intro _
    repeat (first | refine AWp.seq ?_ | refine AWp.block ?_ | refine AWp.skip ?_)
    refine AWp.loop (fun j : Nat => ⟨[(1, .ptr s.cells), (6, .i64 k), (7, .ptr (s.Func.Blocks.getD k default).cells), (5, strV (tM s k j)), (9, .i64 j)], []⟩) (fun j => j ≤ (s.Func.Blocks.getD k default).Edges.length) (fun j => (s.Func.Blocks.getD k default).Edges.length - j) 0 (Nat.zero_le _) ?_ ?_
    · refine And.intro ?_ trivial
      all_goals repeat' (first | exact rfl | exact trivial | exact congrArg (fun q => some (AV.val (.string q))) (congrArg strOf (tM_zero s k)) | refine And.intro ?_ ?_)
    intro j hj
    repeat (first | refine AWp.seq ?_ | refine AWp.block ?_ | refine AWp.skip ?_)
    refine AWp.region ?_
    intro _
    repeat (first | refine AWp.seq ?_ | refine AWp.block ?_ | refine AWp.skip ?_)
    refine AWp.cond (And.intro (fun qj => ?_) (fun qj => ?_))
    · have hj' : j < (s.Func.Blocks.getD k default).Edges.length := Int.ofNat_lt.1 (of_decide_eq_true qj)
      have hE := h.edg k hk' _ (getD_memT hj')
      have he1 := itB_len hE.1
      have he2 := hE.2.1
      have he3 := numB_all hE.2.2
      have hMj := hMk j
      have cA := c_spoken ((s.Func.Blocks.getD k default).Edges.getD j default).Args hE.2.2 (by omega)
      have e : strOf (tM s k j) ++ strOf [101, 100, 103, 101, 32] ++ strOf (itB ((s.Func.Blocks.getD k default).Edges.getD j default).Block) ++ strOf (numB ((s.Func.Blocks.getD k default).Edges.getD j default).Args) ++ strOf [10] = strOf (tM s k (j + 1)) := by rw [str_app4, str_app, ← tM_succ hj']; unfold tO tN; simp
      repeat (first | refine AWp.seq ?_ | refine AWp.block ?_ | refine AWp.skip ?_)
      refine AWp.mono (Q := fun e q => e = .normal ∧ Sub ⟨[(1, .ptr s.cells), (6, .i64 k), (7, .ptr (s.Func.Blocks.getD k default).cells), (5, strV (tM s k (j + 1))), (9, .i64 j)], []⟩ q) ?_ ?_
      · refine AWp.quietFirst (.q 0 (.q 1 (.q 2 (.q 3 (.q 4 (.q 5 (.q 6 (.q 7 (.q 10 (.q 11 (.q 12 (.q 13 (.q 14 (.q 15 (.c 8 false (.q 9 (.c 16 false (.q 17 (.q 18 (.q 19 .fin))) .no)) .no))))))))))))))) [0, 1, 2, 3, 4, 5, 6, 7, 9, 10, 11, 12, 13, 14, 15, 17, 18, 19] [] mixed (by kernel_rfl) ?_
        repeat' (first | exact trivial | refine And.intro ?_ ?_ | refine CallX.pure (c_Dec _ hE.1) rfl rfl rfl ?_ | refine CallX.pure (cA) rfl rfl rfl ?_ | fail)
        all_goals first | exact (fun _ => And.intro (Int.natCast_nonneg _) (Int.ofNat_lt.2 hj')) | (simp only [ByteArray.size_append, szS, sz32, List.size_toArray, List.length_cons, List.length_nil]; omega) | skip
        all_goals intro _
        all_goals refine And.intro rfl ?_
        all_goals refine And.intro ?_ trivial
        all_goals repeat' (first | exact rfl | exact trivial | exact congrArg (fun q => some (AV.val (.string q))) (e) | refine And.intro ?_ ?_)
      rintro _ _ ⟨rfl, hs⟩
      refine AWp.weaken hs ?_
      repeat (first | refine AWp.seq ?_ | refine AWp.block ?_ | refine AWp.skip ?_)
      refine AWp.region ?_
      intro _
      refine round_end (j + 1) hj' ?_ (by omega)
      refine And.intro ?_ trivial
      all_goals repeat' (first | exact rfl | exact trivial | exact congrArg (fun z => some (AV.i64 z)) (wrap_succ hj' hem) | refine And.intro ?_ ?_)
    have hj3 : ¬ (j : Int) < (s.Func.Blocks.getD k default).Edges.length := of_decide_eq_false qj
    obtain rfl : j = (s.Func.Blocks.getD k default).Edges.length := by omega
    refine AWp.exit ?_
    repeat (first | refine AWp.seq ?_ | refine AWp.block ?_ | refine AWp.skip ?_)
    refine AWp.region ?_
    intro _
    refine round_end (k + 1) hk' ?_ (by omega)
    refine And.intro ?_ trivial
    all_goals repeat' (first | exact rfl | exact trivial | exact congrArg (fun q => some (AV.val (.string q))) (congrArg strOf (tH_succ hk')) | exact congrArg (fun z => some (AV.i64 z)) (wrap_succ hk' hbm) | refine And.intro ?_ ?_)
  have hk3 : ¬ (k : Int) < s.Func.Blocks.length := of_decide_eq_false qk
  obtain rfl : k = s.Func.Blocks.length := by omega
  refine AWp.exit ?_
  repeat (first | refine AWp.seq ?_ | refine AWp.block ?_ | refine AWp.skip ?_)
  refine AWp.region ?_
  intro _
  refine AWp.ret ⟨Or.inl rfl, rfl, ?_⟩
  intro _
  rfl
end Go.Proofs.YtgkdmdfjfepcdaaDoor
