import Derived.Test.YtbmmnpggadakdaaDoorW6
import Derived.Test.YtbmmnpggadakdaaDoorW8
namespace Go.Proofs.YtbmmnpggadakdaaDoor
namespace Big
open Go.RowKit
end Big
end Go.Proofs.YtbmmnpggadakdaaDoor
