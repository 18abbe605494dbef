/- ScopeHides has its proof in the walk's text. -/
import Derived.Test.YtlpjhpdgjeiioaaScopeHides0
namespace Go.Proofs.Ytlpjhpdgjeiioaa.Pure
open Go.Proofs.Ytlpjhpdgjeiioaa.P
theorem ScopeHides : bellowslaw10_ScopeHides.Pure := trivial
end Go.Proofs.Ytlpjhpdgjeiioaa.Pure
