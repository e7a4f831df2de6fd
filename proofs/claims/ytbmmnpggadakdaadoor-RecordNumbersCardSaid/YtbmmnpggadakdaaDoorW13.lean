import Derived.Test.YtbmmnpggadakdaaDoorW12
namespace Go.Proofs.YtbmmnpggadakdaaDoor
namespace Big
open Go.RowKit
end Big
end Go.Proofs.YtbmmnpggadakdaaDoor
