/- ScopeLong has its proof in the walk's text. -/
import Derived.Test.YtlpjhpdgjeiioaaScopeLong0
namespace Go.Proofs.Ytlpjhpdgjeiioaa.Pure
open Go.Proofs.Ytlpjhpdgjeiioaa.P
theorem ScopeLong : bellowslaw10_ScopeLong.Pure := trivial
end Go.Proofs.Ytlpjhpdgjeiioaa.Pure
