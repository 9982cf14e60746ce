/- What the shards' functions do: the literal, and Within. -/
import Derived.Test.YtmmaenfjnkoknaaGreatLshard
import Derived.Test.YtmmaenfjnkoknaaGreatPB
namespace Go.Proofs.YtmmaenfjnkoknaaGreat.VA
end Go.Proofs.YtmmaenfjnkoknaaGreat.VA
