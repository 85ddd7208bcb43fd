/- What a function does by its values: run's step, follow and instr, the plain machine. Condition: a checked function. -/
import Derived.Test.YtbmccmbgnkbmiaaGreatDom
set_option linter.unusedVariables false
set_option linter.unusedSimpArgs false
namespace Go.Proofs.YtbmccmbgnkbmiaaGreat
open Go Go.Abs Go.RowKit Go.Abs.Gra
structure Evt where
 b:Nat
 at_:Nat
 read:List Int
 edge:Int
instance:Inhabited Evt:=⟨⟨0,0,[],0⟩⟩
@[reducible] def insAt (f:Fun) (b a:Nat):Ins:=(f.Blocks.getD b default).Instrs.getD a default
end Go.Proofs.YtbmccmbgnkbmiaaGreat
