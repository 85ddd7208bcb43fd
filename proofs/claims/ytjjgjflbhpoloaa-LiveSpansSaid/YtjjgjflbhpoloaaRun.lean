/- What a function does by its values: run's step, follow and instr, the plain machine. Condition: a checked function. -/
import Derived.Test.YtjjgjflbhpoloaaDom
set_option linter.unusedVariables false
set_option linter.unusedSimpArgs false
/- Contract of run's step. Condition: none. -/
namespace Go.Proofs.Ytjjgjflbhpoloaa
open Go Go.Abs Go.RowKit Go.Abs.Gra
structure Evt where
 b : Nat
 at_ : Nat
 read : List Int
 edge : Int
instance : Inhabited Evt := ⟨⟨0, 0, [], 0⟩⟩
end Go.Proofs.Ytjjgjflbhpoloaa
/- Contract of run's instr. Condition: a checked function. -/
namespace Go.Proofs.Ytjjgjflbhpoloaa
open Go Go.Abs Go.RowKit Go.Abs.Gra
@[reducible] def insAt (f : Fun) (b a : Nat) : Ins := (f.Blocks.getD b default).Instrs.getD a default
end Go.Proofs.Ytjjgjflbhpoloaa
/- Plain: what a function does, step by step. Condition: none. -/
namespace Go.Proofs.Ytjjgjflbhpoloaa
open Go Go.Abs Go.RowKit Go.Abs.Gra
end Go.Proofs.Ytjjgjflbhpoloaa
/- Contract of the law's sameEvents at equal arguments. Condition: lengths. -/
namespace Go.Proofs.Ytjjgjflbhpoloaa
open Go Go.Abs Go.RowKit Go.Abs.Gra
end Go.Proofs.Ytjjgjflbhpoloaa
