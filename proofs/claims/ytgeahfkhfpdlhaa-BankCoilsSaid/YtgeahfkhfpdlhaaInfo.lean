
/- Rows of the table of types. -/
import Derived.Test.YtgeahfkhfpdlhaaRows
import Derived.Test.YtgeahfkhfpdlhaaWords
import Derived.Deep.RegionWith
import Derived.Lib.Bytealg
import Derived.Shelf.Strings.Search1
import Derived.Shelf.Small.Strs
namespace Go.Proofs.Ytgeahfkhfpdlhaa
open Go.RowKit
theorem info_u8 : (Try.prog.info? 5).map (fun i => (i.zero, i.size, i.bytes)) = some (some (.int .u8 0), 1, 1) := by kernel_rfl
theorem info_u16 : (Try.prog.info? 34).map (fun i => (i.zero, i.size, i.bytes)) = some (some (.int .u16 0), 1, 2) := by kernel_rfl
end Go.Proofs.Ytgeahfkhfpdlhaa
