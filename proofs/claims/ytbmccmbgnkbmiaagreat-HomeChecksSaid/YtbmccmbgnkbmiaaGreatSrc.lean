/- run.Source and the document's SourceRun. Condition: none for what is refused; else a checked function. -/
import Derived.Test.YtbmccmbgnkbmiaaGreatRun
set_option linter.unusedVariables false
set_option linter.unusedSimpArgs false
namespace Go.Proofs.YtbmccmbgnkbmiaaGreat
open Go Go.Abs Go.RowKit Go.Abs.Gra
end Go.Proofs.YtbmccmbgnkbmiaaGreat
