/- The law Names returns true: the numbers of package api are the document's. No condition. -/
import Derived.Test.YtdilfbdfefppbaaRows
import Derived.WalkKit
import Derived.ProofKit
import Derived.OpenShut
import Derived.ChangeOld
import Derived.Below
import Derived.BigQuiet
import Derived.Deep.QuietTactic
import Derived.Laws.Rows
import Derived.Lib.Hide
namespace Go.Proofs.Ytdilfbdfefppbaa.names
open Go.ChangeShapes Go.WideShapes Go.ChangeAt Go.RowKit
set_option linter.unusedVariables false

theorem own : ownKnob Try.prog.godebug = none := by kernel_rfl
theorem laidOut : laidOutB Try.prog = true := by kernel_rfl

def nums : List Int := [2, 10, 16, 40, 160, 160, 6, 5, 3, 255, 1000, 20000, 5000, 20000, 1073741824, 60000, 64, 1, 2, 1, 2, 3, 4, 5, 1, 2]

theorem errs_cells (w : World) (k : Nat) (hk : k < 18) : (w.alloc (Obj.cells #[Value.int IntKind.i64 0, Value.int IntKind.i64 1, Value.int IntKind.i64 2, Value.int IntKind.i64 3, Value.int IntKind.i64 4, Value.int IntKind.i64 5, Value.int IntKind.i64 6, Value.int IntKind.i64 7, Value.int IntKind.i64 8, Value.int IntKind.i64 9, Value.int IntKind.i64 10, Value.int IntKind.i64 11, Value.int IntKind.i64 12, Value.int IntKind.i64 13, Value.int IntKind.i64 14, Value.int IntKind.i64 15, Value.int IntKind.i64 16, Value.int IntKind.i64 17] 22)).cell? ⟨w.heap.size, k, none⟩ = some (.int .i64 k) := by
  rw [cell_of_row _ _ _ _ 22 (0, 0) (heap_alloc_new w _)]
  rw [show (#[Value.int IntKind.i64 0, Value.int IntKind.i64 1, Value.int IntKind.i64 2, Value.int IntKind.i64 3, Value.int IntKind.i64 4, Value.int IntKind.i64 5, Value.int IntKind.i64 6, Value.int IntKind.i64 7, Value.int IntKind.i64 8, Value.int IntKind.i64 9, Value.int IntKind.i64 10, Value.int IntKind.i64 11, Value.int IntKind.i64 12, Value.int IntKind.i64 13, Value.int IntKind.i64 14, Value.int IntKind.i64 15, Value.int IntKind.i64 16, Value.int IntKind.i64 17] : Array Value) = ((List.range 18).map fun j : Nat => Value.int .i64 (j : Int)).toArray from rfl]
  simp [hk]

theorem nums_cells (w : World) (k : Nat) (hk : k < 26) : (w.alloc (Obj.cells #[Value.int IntKind.i64 2, Value.int IntKind.i64 10, Value.int IntKind.i64 16, Value.int IntKind.i64 40, Value.int IntKind.i64 160, Value.int IntKind.i64 160, Value.int IntKind.i64 6, Value.int IntKind.i64 5, Value.int IntKind.i64 3, Value.int IntKind.i64 255, Value.int IntKind.i64 1000, Value.int IntKind.i64 20000, Value.int IntKind.i64 5000, Value.int IntKind.i64 20000, Value.int IntKind.i64 1073741824, Value.int IntKind.i64 60000, Value.int IntKind.i64 64, Value.int IntKind.i64 1, Value.int IntKind.i64 2, Value.int IntKind.i64 1, Value.int IntKind.i64 2, Value.int IntKind.i64 3, Value.int IntKind.i64 4, Value.int IntKind.i64 5, Value.int IntKind.i64 1, Value.int IntKind.i64 2] 3)).cell? ⟨w.heap.size, k, none⟩ = some (.int .i64 (nums.getD k 0)) := by
  rw [cell_of_row _ _ _ _ 3 (0, 0) (heap_alloc_new w _)]
  rw [show (#[Value.int IntKind.i64 2, Value.int IntKind.i64 10, Value.int IntKind.i64 16, Value.int IntKind.i64 40, Value.int IntKind.i64 160, Value.int IntKind.i64 160, Value.int IntKind.i64 6, Value.int IntKind.i64 5, Value.int IntKind.i64 3, Value.int IntKind.i64 255, Value.int IntKind.i64 1000, Value.int IntKind.i64 20000, Value.int IntKind.i64 5000, Value.int IntKind.i64 20000, Value.int IntKind.i64 1073741824, Value.int IntKind.i64 60000, Value.int IntKind.i64 64, Value.int IntKind.i64 1, Value.int IntKind.i64 2, Value.int IntKind.i64 1, Value.int IntKind.i64 2, Value.int IntKind.i64 3, Value.int IntKind.i64 4, Value.int IntKind.i64 5, Value.int IntKind.i64 1, Value.int IntKind.i64 2] : Array Value) = (nums.map (Value.int .i64)).toArray from rfl]
  have hl : k < nums.length := hk
  simp [hl]

set_option maxHeartbeats 1000000 in
theorem walk (w : World) : Calls Try.prog 3 #[] w fun e w' => e = .returned (.bool true) ∧ Below w.heap.size w w' := by
  have hc := errs_cells w
  have hb : Below w.heap.size w (w.alloc (Obj.cells #[Value.int IntKind.i64 0, Value.int IntKind.i64 1, Value.int IntKind.i64 2, Value.int IntKind.i64 3, Value.int IntKind.i64 4, Value.int IntKind.i64 5, Value.int IntKind.i64 6, Value.int IntKind.i64 7, Value.int IntKind.i64 8, Value.int IntKind.i64 9, Value.int IntKind.i64 10, Value.int IntKind.i64 11, Value.int IntKind.i64 12, Value.int IntKind.i64 13, Value.int IntKind.i64 14, Value.int IntKind.i64 15, Value.int IntKind.i64 16, Value.int IntKind.i64 17] 22)) := (Below.refl _ _).alloc (Nat.le_refl _) _
  have hn := nums_cells
  go_enter Try.func3, Try.ntmps3
  clear hc hb hn
  go_wp2
  have hc := errs_cells w
  have hb : Below w.heap.size w (w.alloc (Obj.cells #[Value.int IntKind.i64 0, Value.int IntKind.i64 1, Value.int IntKind.i64 2, Value.int IntKind.i64 3, Value.int IntKind.i64 4, Value.int IntKind.i64 5, Value.int IntKind.i64 6, Value.int IntKind.i64 7, Value.int IntKind.i64 8, Value.int IntKind.i64 9, Value.int IntKind.i64 10, Value.int IntKind.i64 11, Value.int IntKind.i64 12, Value.int IntKind.i64 13, Value.int IntKind.i64 14, Value.int IntKind.i64 15, Value.int IntKind.i64 16, Value.int IntKind.i64 17] 22)) := (Below.refl _ _).alloc (Nat.le_refl _) _
  have hz : w.heap.size < (w.alloc (Obj.cells #[Value.int IntKind.i64 0, Value.int IntKind.i64 1, Value.int IntKind.i64 2, Value.int IntKind.i64 3, Value.int IntKind.i64 4, Value.int IntKind.i64 5, Value.int IntKind.i64 6, Value.int IntKind.i64 7, Value.int IntKind.i64 8, Value.int IntKind.i64 9, Value.int IntKind.i64 10, Value.int IntKind.i64 11, Value.int IntKind.i64 12, Value.int IntKind.i64 13, Value.int IntKind.i64 14, Value.int IntKind.i64 15, Value.int IntKind.i64 16, Value.int IntKind.i64 17] 22)).heap.size := by simp
  generalize (w.alloc (Obj.cells #[Value.int IntKind.i64 0, Value.int IntKind.i64 1, Value.int IntKind.i64 2, Value.int IntKind.i64 3, Value.int IntKind.i64 4, Value.int IntKind.i64 5, Value.int IntKind.i64 6, Value.int IntKind.i64 7, Value.int IntKind.i64 8, Value.int IntKind.i64 9, Value.int IntKind.i64 10, Value.int IntKind.i64 11, Value.int IntKind.i64 12, Value.int IntKind.i64 13, Value.int IntKind.i64 14, Value.int IntKind.i64 15, Value.int IntKind.i64 16, Value.int IntKind.i64 17] 22)) = w1 at *
  generalize hgg : w.heap.size = g at *
  have HG := Lib.hid hgg
  clear hgg
  go_loop [2] (fun i => ∃ k : Nat, k ≤ 18 ∧ i = .int .i64 k) (fun i => 18 - (intOf i).toNat)
  case atStart => exact ⟨0, by omega, rfl⟩
  case round =>
    obtain ⟨k, hk, rfl⟩ := hrel
    by_cases hlt : k < 18
    · have hck := hc k hlt
      clear hc
      go_wp2
      go_round
      case rel => exact ⟨k + 1, by omega, by go_num⟩
      case measure => simp [intOf]; omega
    · clear hc
      go_wp2
      have h1 := nums_cells w1
      have h2 := nums_cells (w1.alloc (Obj.cells #[Value.int IntKind.i64 2, Value.int IntKind.i64 10, Value.int IntKind.i64 16, Value.int IntKind.i64 40, Value.int IntKind.i64 160, Value.int IntKind.i64 160, Value.int IntKind.i64 6, Value.int IntKind.i64 5, Value.int IntKind.i64 3, Value.int IntKind.i64 255, Value.int IntKind.i64 1000, Value.int IntKind.i64 20000, Value.int IntKind.i64 5000, Value.int IntKind.i64 20000, Value.int IntKind.i64 1073741824, Value.int IntKind.i64 60000, Value.int IntKind.i64 64, Value.int IntKind.i64 1, Value.int IntKind.i64 2, Value.int IntKind.i64 1, Value.int IntKind.i64 2, Value.int IntKind.i64 3, Value.int IntKind.i64 4, Value.int IntKind.i64 5, Value.int IntKind.i64 1, Value.int IntKind.i64 2] 3))
      have h3 : ∀ k : Nat, k < 26 → ((w1.alloc (Obj.cells #[Value.int IntKind.i64 2, Value.int IntKind.i64 10, Value.int IntKind.i64 16, Value.int IntKind.i64 40, Value.int IntKind.i64 160, Value.int IntKind.i64 160, Value.int IntKind.i64 6, Value.int IntKind.i64 5, Value.int IntKind.i64 3, Value.int IntKind.i64 255, Value.int IntKind.i64 1000, Value.int IntKind.i64 20000, Value.int IntKind.i64 5000, Value.int IntKind.i64 20000, Value.int IntKind.i64 1073741824, Value.int IntKind.i64 60000, Value.int IntKind.i64 64, Value.int IntKind.i64 1, Value.int IntKind.i64 2, Value.int IntKind.i64 1, Value.int IntKind.i64 2, Value.int IntKind.i64 3, Value.int IntKind.i64 4, Value.int IntKind.i64 5, Value.int IntKind.i64 1, Value.int IntKind.i64 2] 3)).alloc (Obj.cells #[Value.int IntKind.i64 2, Value.int IntKind.i64 10, Value.int IntKind.i64 16, Value.int IntKind.i64 40, Value.int IntKind.i64 160, Value.int IntKind.i64 160, Value.int IntKind.i64 6, Value.int IntKind.i64 5, Value.int IntKind.i64 3, Value.int IntKind.i64 255, Value.int IntKind.i64 1000, Value.int IntKind.i64 20000, Value.int IntKind.i64 5000, Value.int IntKind.i64 20000, Value.int IntKind.i64 1073741824, Value.int IntKind.i64 60000, Value.int IntKind.i64 64, Value.int IntKind.i64 1, Value.int IntKind.i64 2, Value.int IntKind.i64 1, Value.int IntKind.i64 2, Value.int IntKind.i64 3, Value.int IntKind.i64 4, Value.int IntKind.i64 5, Value.int IntKind.i64 1, Value.int IntKind.i64 2] 3)).cell? ⟨w1.heap.size, k, none⟩ = some (.int .i64 (nums.getD k 0)) := fun k hk => by
        rw [World.cell?_alloc_lt _ _ _ (by simp)]; exact h1 k hk
      have hb2 : Below g w ((w1.alloc (Obj.cells #[Value.int IntKind.i64 2, Value.int IntKind.i64 10, Value.int IntKind.i64 16, Value.int IntKind.i64 40, Value.int IntKind.i64 160, Value.int IntKind.i64 160, Value.int IntKind.i64 6, Value.int IntKind.i64 5, Value.int IntKind.i64 3, Value.int IntKind.i64 255, Value.int IntKind.i64 1000, Value.int IntKind.i64 20000, Value.int IntKind.i64 5000, Value.int IntKind.i64 20000, Value.int IntKind.i64 1073741824, Value.int IntKind.i64 60000, Value.int IntKind.i64 64, Value.int IntKind.i64 1, Value.int IntKind.i64 2, Value.int IntKind.i64 1, Value.int IntKind.i64 2, Value.int IntKind.i64 3, Value.int IntKind.i64 4, Value.int IntKind.i64 5, Value.int IntKind.i64 1, Value.int IntKind.i64 2] 3)).alloc (Obj.cells #[Value.int IntKind.i64 2, Value.int IntKind.i64 10, Value.int IntKind.i64 16, Value.int IntKind.i64 40, Value.int IntKind.i64 160, Value.int IntKind.i64 160, Value.int IntKind.i64 6, Value.int IntKind.i64 5, Value.int IntKind.i64 3, Value.int IntKind.i64 255, Value.int IntKind.i64 1000, Value.int IntKind.i64 20000, Value.int IntKind.i64 5000, Value.int IntKind.i64 20000, Value.int IntKind.i64 1073741824, Value.int IntKind.i64 60000, Value.int IntKind.i64 64, Value.int IntKind.i64 1, Value.int IntKind.i64 2, Value.int IntKind.i64 1, Value.int IntKind.i64 2, Value.int IntKind.i64 3, Value.int IntKind.i64 4, Value.int IntKind.i64 5, Value.int IntKind.i64 1, Value.int IntKind.i64 2] 3)) := (hb.alloc (by omega) _).alloc (by simp; omega) _
      have hz2 : (w1.alloc (Obj.cells #[Value.int IntKind.i64 2, Value.int IntKind.i64 10, Value.int IntKind.i64 16, Value.int IntKind.i64 40, Value.int IntKind.i64 160, Value.int IntKind.i64 160, Value.int IntKind.i64 6, Value.int IntKind.i64 5, Value.int IntKind.i64 3, Value.int IntKind.i64 255, Value.int IntKind.i64 1000, Value.int IntKind.i64 20000, Value.int IntKind.i64 5000, Value.int IntKind.i64 20000, Value.int IntKind.i64 1073741824, Value.int IntKind.i64 60000, Value.int IntKind.i64 64, Value.int IntKind.i64 1, Value.int IntKind.i64 2, Value.int IntKind.i64 1, Value.int IntKind.i64 2, Value.int IntKind.i64 3, Value.int IntKind.i64 4, Value.int IntKind.i64 5, Value.int IntKind.i64 1, Value.int IntKind.i64 2] 3)).heap.size = w1.heap.size + 1 := by simp
      rw [hz2] at h2
      clear h1 hb hz2
      generalize (w1.alloc (Obj.cells #[Value.int IntKind.i64 2, Value.int IntKind.i64 10, Value.int IntKind.i64 16, Value.int IntKind.i64 40, Value.int IntKind.i64 160, Value.int IntKind.i64 160, Value.int IntKind.i64 6, Value.int IntKind.i64 5, Value.int IntKind.i64 3, Value.int IntKind.i64 255, Value.int IntKind.i64 1000, Value.int IntKind.i64 20000, Value.int IntKind.i64 5000, Value.int IntKind.i64 20000, Value.int IntKind.i64 1073741824, Value.int IntKind.i64 60000, Value.int IntKind.i64 64, Value.int IntKind.i64 1, Value.int IntKind.i64 2, Value.int IntKind.i64 1, Value.int IntKind.i64 2, Value.int IntKind.i64 3, Value.int IntKind.i64 4, Value.int IntKind.i64 5, Value.int IntKind.i64 1, Value.int IntKind.i64 2] 3)).alloc (Obj.cells #[Value.int IntKind.i64 2, Value.int IntKind.i64 10, Value.int IntKind.i64 16, Value.int IntKind.i64 40, Value.int IntKind.i64 160, Value.int IntKind.i64 160, Value.int IntKind.i64 6, Value.int IntKind.i64 5, Value.int IntKind.i64 3, Value.int IntKind.i64 255, Value.int IntKind.i64 1000, Value.int IntKind.i64 20000, Value.int IntKind.i64 5000, Value.int IntKind.i64 20000, Value.int IntKind.i64 1073741824, Value.int IntKind.i64 60000, Value.int IntKind.i64 64, Value.int IntKind.i64 1, Value.int IntKind.i64 2, Value.int IntKind.i64 1, Value.int IntKind.i64 2, Value.int IntKind.i64 3, Value.int IntKind.i64 4, Value.int IntKind.i64 5, Value.int IntKind.i64 1, Value.int IntKind.i64 2] 3) = w2 at *
      generalize w1.heap.size = g1 at *
      go_loopw [5] (fun i wr => ∃ k : Nat, k ≤ 26 ∧ i = .int .i64 k ∧ ∃ n, wr = w2.drewN n) (fun i _ => 26 - (intOf i).toNat)
      case atStart => exact ⟨0, by omega, rfl, 0, rfl⟩
      case round =>
        obtain ⟨q, hq, rfl, n, rfl⟩ := hrel
        by_cases hlq : q < 26
        · have hq1 := h2 q hlq
          have hq2 := h3 q hlq
          clear h2 h3 hb2
          go_wp2
          go_quiet (fail)
          go_wp2
          go_roundw
          case rel => exact ⟨q + 1, by omega, by go_num, _, rfl⟩
          case measure => simp [intOf]; omega
        · clear h2 h3
          go_wp2
          go_ret
          exact ⟨rfl, by rw [HG.out]; exact ⟨hb2.os, hb2.tape, hb2.output, hb2.size, hb2.block⟩⟩
theorem calls (w : World) : Calls Try.prog 3 #[] w fun e w' => e = .returned (.bool true) ∧ Below w.heap.size w w' := walk w

set_option maxRecDepth 100000 in
theorem lifted (os : Os) (started : os.Started) (H : Type) (enc : TypeId × Value → H) :
    ReturnsInHanded {} Try.checked os 3 .any (Rows.namesSpec.pre6 enc Try.prog Try.f3 Rows.namesRow.domain false) (Rows.namesSpec.post enc Try.prog Try.f3 false true false false) := by
  refine returnsInHanded_of_change (C := Try.checked) own started (by kernel_rfl) Try.func3
    (ChangeSpec.witness6 (enc := enc) (C := Try.checked) false ⟨#[], #[], []⟩ 8 (by kernel_rfl) (by kernel_rfl) (by kernel_rfl) (by kernel_rfl)) ?_
  intro W base args ds gs before hval0 hW hcnd hsz0
  have hval : ∀ (j : Nat) t v, Try.f3.params[j]? = some t → args[j]? = some v → Value.okWide Try.prog W .any base t v := hval0
  have hW' := hW
  obtain ⟨p, q, hA0, hV, rfl, hfz, hnd⟩ := hW
  have hA : DataW.TrodAll enc Try.prog W 0 (fun _ => true) true Try.f3.params.toList args.toList ds p := hA0
  rw [Try.params3] at hA hval
  obtain ⟨rfl, rfl, rfl⟩ := trodAll_none hA
  obtain ⟨rfl, rfl⟩ := trodVars_none hV
  clear hA0 hval0
  refine (calls W ).mono fun e W' ⟨he, bel⟩ => ?_
  subst he
  exact ⟨_, rfl, _, _, _, [], [], [], hW', trodAll_mk1 (shut_bool Try.underlying4 _), trodAll_mk0, rfl, bel.frame _, fun h => by cases h⟩

theorem over : Rows.namesRow.holds Try.pinned (OpenSpec.ofChange Rows.namesSpec) :=
  OpenClaim.holds_of_wide 3 Try.f3 rfl rfl rfl rfl rfl rfl rfl ⟨rfl, rfl, rfl, rfl, rfl⟩ rfl rfl rfl rfl rfl (by kernel_rfl) Try.func3 (by kernel_rfl)
    (of_decide_eq_true (by kernel_rfl)) (by unfold Func.isWrapper; first | (rw [if_pos (by decide +kernel)]; kernel_rfl) | (rw [if_neg (by decide +kernel)]; exact ⟨rfl, rfl⟩))
    (fun os started H enc _ => lifted os started H enc)

theorem proved : Rows.NamesSaid := over
#print axioms proved
end Go.Proofs.Ytdilfbdfefppbaa.names
