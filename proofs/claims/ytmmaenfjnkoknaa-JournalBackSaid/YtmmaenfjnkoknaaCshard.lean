/- What the shards' functions do: the literal, and Within. -/
import Derived.Test.YtmmaenfjnkoknaaLshard
import Derived.Test.YtmmaenfjnkoknaaPB
namespace Go.Proofs.Ytmmaenfjnkoknaa.VA
end Go.Proofs.Ytmmaenfjnkoknaa.VA
