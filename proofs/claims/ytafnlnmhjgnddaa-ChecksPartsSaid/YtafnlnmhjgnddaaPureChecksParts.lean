/- Nothing is left to be proved of ChecksParts behind its walk. No condition. -/
import Derived.Test.YtafnlnmhjgnddaaHandChecksParts
namespace Go.Proofs.Ytafnlnmhjgnddaa.Pure
theorem ChecksParts : GChecksParts.law.Pure := trivial
end Go.Proofs.Ytafnlnmhjgnddaa.Pure
