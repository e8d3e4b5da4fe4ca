/- Nothing is left to be proved of ChecksTell behind its walk. No condition. -/
import Derived.Test.YtafnlnmhjgnddaaHandChecksTell
namespace Go.Proofs.Ytafnlnmhjgnddaa.Pure
theorem ChecksTell : GChecksTell.law.Pure := trivial
end Go.Proofs.Ytafnlnmhjgnddaa.Pure
