import Derived.Test.YtpinfihfbjkijaaDoorRfF1
/- Own work: DetAnswers. -/
set_option linter.unusedVariables false
set_option linter.unusedSimpArgs false
namespace Go.Rf
open Go.RowKit

theorem sameD_refl (a : Det) : sameD a a = true := by simp [sameD]
end Go.Rf

