import Derived.Test.YtbmmnpggadakdaaDoorW5
namespace Go.Proofs.YtbmmnpggadakdaaDoor
namespace Big
open Go.RowKit
end Big
end Go.Proofs.YtbmmnpggadakdaaDoor
