/- What a reading's weight says of a slice's length. No condition. -/
import Derived.Test.YtdilfbdfefppbaaTab
import Derived.SizedLaws
import Derived.Deep.Slices
import Derived.WideShapes
set_option linter.unusedVariables false
namespace Go.Abs
open Go Go.RowKit Go.Deep Go.WideShapes
theorem row_size_sharp {P : Program} {t e : TypeId} {H : Type} {enc : TypeId × Value → H} {w : World} {spare : Nat → Bool} {held : Bool} {v : Value} {d : DataW H} {ps : List MemPlace} {sz n by_ : Nat} {row : Nat → List AV}
    (ht : P.underlying t = some (.slice e)) (hb : P.bytesOf e = by_) (hd : DataW.Trod enc P w 0 spare held t v d ps) (hm : CellsRep w v.cells.toList [.ro sz n row]) {ts : List TypeId} {ds : List (DataW H)}
    (hs : (DataW.weightsEach P ts ds).all (· ≤ reachBytes) = true) (j : Nat) (h1 : ts[j]? = some t) (h2 : ds[j]? = some d) : n * by_ ≤ 140737488351232 := by
  obtain ⟨fuel, hf⟩ := hd
  have hr := hm.2 0 _ rfl
  rcases open_slice ht hf with ⟨e1, _⟩ | ⟨a, len, cap, m, k, D, Pl, e1, _, hl, hc, hmm, hx, _⟩
  · rw [e1] at hr
    cases hr
    simp
  · rw [e1] at hr
    obtain ⟨rfl, _⟩ := Prod.mk.inj hx
    have h3 := sized_slice hs h1 h2 ht
    simp only [List.length_map, List.length_range] at h3
    have h4 : reachBytes = 140737488351232 := rfl
    rw [hb] at h3
    cases hr
    have h5 : n * by_ ≤ (n + (m - n)) * by_ := Nat.mul_le_mul_right _ (by omega)
    omega
theorem row_size {P : Program} {t e : TypeId} {H : Type} {enc : TypeId × Value → H} {w : World} {spare : Nat → Bool} {held : Bool} {v : Value} {d : DataW H} {ps : List MemPlace} {sz n by_ : Nat} {row : Nat → List AV}
    (ht : P.underlying t = some (.slice e)) (hb : P.bytesOf e = by_) (hd : DataW.Trod enc P w 0 spare held t v d ps) (hm : CellsRep w v.cells.toList [.ro sz n row]) {ts : List TypeId} {ds : List (DataW H)}
    (hs : (DataW.weightsEach P ts ds).all (· ≤ reachBytes) = true) (j : Nat) (h1 : ts[j]? = some t) (h2 : ds[j]? = some d) : n * by_ ≤ 140737488355328 := by
  have := row_size_sharp ht hb hd hm hs j h1 h2
  omega
theorem one_slice {P : Program} {t e : TypeId} {w : World} {r : Reach} {b : Nat} {v : Value} (ht : P.underlying t = some (.slice e)) (h : Value.okWide P w r b t v) : v.cells = #[v] := by
  obtain ⟨_, _, _, rfl⟩ := okWide_slice ht h
  rfl
theorem one_int {P : Program} {t : TypeId} {k : IntKind} {w : World} {r : Reach} {b : Nat} {v : Value} (ht : P.underlying t = some (.int k)) (h : Value.okWide P w r b t v) : v.cells = #[v] := by
  obtain ⟨_, rfl⟩ := okWide_int ht h
  rfl
end Go.Abs
