/- run.Source and the document's SourceRun. Condition: none for what is refused; else a checked function. -/
import Derived.Test.YtjjgjflbhpoloaaGreatRun
set_option linter.unusedVariables false
set_option linter.unusedSimpArgs false
namespace Go.Proofs.YtjjgjflbhpoloaaGreat
open Go Go.Abs Go.RowKit Go.Abs.Gra
end Go.Proofs.YtjjgjflbhpoloaaGreat
