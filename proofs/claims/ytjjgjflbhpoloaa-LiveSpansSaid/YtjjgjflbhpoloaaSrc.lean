/- run.Source and the document's SourceRun. Condition: none for what is refused; else a checked function. -/
import Derived.Test.YtjjgjflbhpoloaaRun
set_option linter.unusedVariables false
set_option linter.unusedSimpArgs false
/- Contract of run.Source. Condition: a checked function; steps within bounds. -/
namespace Go.Proofs.Ytjjgjflbhpoloaa
open Go Go.Abs Go.RowKit Go.Abs.Gra
end Go.Proofs.Ytjjgjflbhpoloaa
/- Contract of the document's SourceRun. Condition: a checked function; steps within bounds. -/
namespace Go.Proofs.Ytjjgjflbhpoloaa
open Go Go.Abs Go.RowKit Go.Abs.Gra
end Go.Proofs.Ytjjgjflbhpoloaa
/- What run.Source and SourceRun refuse. Condition: none. -/
namespace Go.Proofs.Ytjjgjflbhpoloaa
open Go Go.Abs Go.RowKit Go.Abs.Gra
end Go.Proofs.Ytjjgjflbhpoloaa
