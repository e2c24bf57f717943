/- Part of the proof of the statement TopAlone, as a card; what is proved, and on which condition, stands at the head of YtmgmdiekpmffbaaGreatDoorPT20 (texts TopShow, TopSq, TopPut, TopMid, TopLast, TopLast2, TopZ, TopDisk0) -/
import Derived.Deep.RegionHeld3
import Derived.OrdersHeld
import Derived.Lib.Hide
import Derived.Deep.MidRow
import Derived.Test.YtmgmdiekpmffbaaGreatDoorPT0
import Derived.Test.YtmgmdiekpmffbaaGreatDoorPT8
set_option maxHeartbeats 64000000
set_option maxRecDepth 100000
set_option linter.unusedVariables false
set_option linter.unusedSimpArgs false
namespace Go.Proofs.YtmgmdiekpmffbaaGreatDoor.Top
open Go Go.RowKit Go.Proofs.YtmgmdiekpmffbaaGreatDoorW.PrintWords
theorem hid_mv {w:World}{b:Nat}{o:Obj}(h:w.heap[b]? =some o):Hid (w.heap[b]? =some o)∧b<w.heap.size∧b≠w.heap.size∧w.heap.size≠b:=
 ⟨Lib.hid h,blk_lt h,Nat.ne_of_lt (blk_lt h),(Nat.ne_of_lt (blk_lt h)).symm⟩
theorem cells1 {w:World}{b:Nat}{t:TypeId}{v0:Value}(h:w.heap[b]? =some (.cells #[v0] t (0,0))):w.cell? ⟨b,0,none⟩=some v0∧w.frozen? ⟨b,0,none⟩=false:=
 ⟨blk_cell h 0,blk_frozen h 0⟩
theorem cells2 {w:World}{b:Nat}{t:TypeId}{v0 v1:Value}(h:w.heap[b]? =some (.cells #[v0,v1] t (0,0))):w.cell? ⟨b,0,none⟩=some v0∧w.frozen? ⟨b,0,none⟩=false∧w.cell? ⟨b,1,none⟩=some v1∧w.frozen? ⟨b,1,none⟩=false:=
 ⟨blk_cell h 0,blk_frozen h 0,blk_cell h 1,blk_frozen h 1⟩
theorem cells3 {w:World}{b:Nat}{t:TypeId}{v0 v1 v2:Value}(h:w.heap[b]? =some (.cells #[v0,v1,v2] t (0,0))):w.cell? ⟨b,0,none⟩=some v0∧w.frozen? ⟨b,0,none⟩=false∧w.cell? ⟨b,1,none⟩=some v1∧w.frozen? ⟨b,1,none⟩=false∧w.cell? ⟨b,2,none⟩=some v2∧w.frozen? ⟨b,2,none⟩=false:=
 ⟨blk_cell h 0,blk_frozen h 0,blk_cell h 1,blk_frozen h 1,blk_cell h 2,blk_frozen h 2⟩
theorem cells4 {w:World}{b:Nat}{t:TypeId}{v0 v1 v2 v3:Value}(h:w.heap[b]? =some (.cells #[v0,v1,v2,v3] t (0,0))):w.cell? ⟨b,0,none⟩=some v0∧w.frozen? ⟨b,0,none⟩=false∧w.cell? ⟨b,1,none⟩=some v1∧w.frozen? ⟨b,1,none⟩=false∧w.cell? ⟨b,2,none⟩=some v2∧w.frozen? ⟨b,2,none⟩=false∧w.cell? ⟨b,3,none⟩=some v3∧w.frozen? ⟨b,3,none⟩=false:=
 ⟨blk_cell h 0,blk_frozen h 0,blk_cell h 1,blk_frozen h 1,blk_cell h 2,blk_frozen h 2,blk_cell h 3,blk_frozen h 3⟩
theorem cells5 {w:World}{b:Nat}{t:TypeId}{v0 v1 v2 v3 v4:Value}(h:w.heap[b]? =some (.cells #[v0,v1,v2,v3,v4] t (0,0))):w.cell? ⟨b,0,none⟩=some v0∧w.frozen? ⟨b,0,none⟩=false∧w.cell? ⟨b,1,none⟩=some v1∧w.frozen? ⟨b,1,none⟩=false∧w.cell? ⟨b,2,none⟩=some v2∧w.frozen? ⟨b,2,none⟩=false∧w.cell? ⟨b,3,none⟩=some v3∧w.frozen? ⟨b,3,none⟩=false∧w.cell? ⟨b,4,none⟩=some v4∧w.frozen? ⟨b,4,none⟩=false:=
 ⟨blk_cell h 0,blk_frozen h 0,blk_cell h 1,blk_frozen h 1,blk_cell h 2,blk_frozen h 2,blk_cell h 3,blk_frozen h 3,blk_cell h 4,blk_frozen h 4⟩
theorem cells6 {w:World}{b:Nat}{t:TypeId}{v0 v1 v2 v3 v4 v5:Value}(h:w.heap[b]? =some (.cells #[v0,v1,v2,v3,v4,v5] t (0,0))):w.cell? ⟨b,0,none⟩=some v0∧w.frozen? ⟨b,0,none⟩=false∧w.cell? ⟨b,1,none⟩=some v1∧w.frozen? ⟨b,1,none⟩=false∧w.cell? ⟨b,2,none⟩=some v2∧w.frozen? ⟨b,2,none⟩=false∧w.cell? ⟨b,3,none⟩=some v3∧w.frozen? ⟨b,3,none⟩=false∧w.cell? ⟨b,4,none⟩=some v4∧w.frozen? ⟨b,4,none⟩=false∧w.cell? ⟨b,5,none⟩=some v5∧w.frozen? ⟨b,5,none⟩=false:=
 ⟨blk_cell h 0,blk_frozen h 0,blk_cell h 1,blk_frozen h 1,blk_cell h 2,blk_frozen h 2,blk_cell h 3,blk_frozen h 3,blk_cell h 4,blk_frozen h 4,blk_cell h 5,blk_frozen h 5⟩
theorem cells8 {w:World}{b:Nat}{t:TypeId}{v0 v1 v2 v3 v4 v5 v6 v7:Value}(h:w.heap[b]? =some (.cells #[v0,v1,v2,v3,v4,v5,v6,v7] t (0,0))):w.cell? ⟨b,0,none⟩=some v0∧w.frozen? ⟨b,0,none⟩=false∧w.cell? ⟨b,1,none⟩=some v1∧w.frozen? ⟨b,1,none⟩=false∧w.cell? ⟨b,2,none⟩=some v2∧w.frozen? ⟨b,2,none⟩=false∧w.cell? ⟨b,3,none⟩=some v3∧w.frozen? ⟨b,3,none⟩=false∧w.cell? ⟨b,4,none⟩=some v4∧w.frozen? ⟨b,4,none⟩=false∧w.cell? ⟨b,5,none⟩=some v5∧w.frozen? ⟨b,5,none⟩=false∧w.cell? ⟨b,6,none⟩=some v6∧w.frozen? ⟨b,6,none⟩=false∧w.cell? ⟨b,7,none⟩=some v7∧w.frozen? ⟨b,7,none⟩=false:=
 ⟨blk_cell h 0,blk_frozen h 0,blk_cell h 1,blk_frozen h 1,blk_cell h 2,blk_frozen h 2,blk_cell h 3,blk_frozen h 3,blk_cell h 4,blk_frozen h 4,blk_cell h 5,blk_frozen h 5,blk_cell h 6,blk_frozen h 6,blk_cell h 7,blk_frozen h 7⟩
theorem cells10 {w:World}{b:Nat}{t:TypeId}{v0 v1 v2 v3 v4 v5 v6 v7 v8 v9:Value}(h:w.heap[b]? =some (.cells #[v0,v1,v2,v3,v4,v5,v6,v7,v8,v9] t (0,0))):w.cell? ⟨b,0,none⟩=some v0∧w.frozen? ⟨b,0,none⟩=false∧w.cell? ⟨b,1,none⟩=some v1∧w.frozen? ⟨b,1,none⟩=false∧w.cell? ⟨b,2,none⟩=some v2∧w.frozen? ⟨b,2,none⟩=false∧w.cell? ⟨b,3,none⟩=some v3∧w.frozen? ⟨b,3,none⟩=false∧w.cell? ⟨b,4,none⟩=some v4∧w.frozen? ⟨b,4,none⟩=false∧w.cell? ⟨b,5,none⟩=some v5∧w.frozen? ⟨b,5,none⟩=false∧w.cell? ⟨b,6,none⟩=some v6∧w.frozen? ⟨b,6,none⟩=false∧w.cell? ⟨b,7,none⟩=some v7∧w.frozen? ⟨b,7,none⟩=false∧w.cell? ⟨b,8,none⟩=some v8∧w.frozen? ⟨b,8,none⟩=false∧w.cell? ⟨b,9,none⟩=some v9∧w.frozen? ⟨b,9,none⟩=false:=
 ⟨blk_cell h 0,blk_frozen h 0,blk_cell h 1,blk_frozen h 1,blk_cell h 2,blk_frozen h 2,blk_cell h 3,blk_frozen h 3,blk_cell h 4,blk_frozen h 4,blk_cell h 5,blk_frozen h 5,blk_cell h 6,blk_frozen h 6,blk_cell h 7,blk_frozen h 7,blk_cell h 8,blk_frozen h 8,blk_cell h 9,blk_frozen h 9⟩
theorem cells11 {w:World}{b:Nat}{t:TypeId}{v0 v1 v2 v3 v4 v5 v6 v7 v8 v9 v10:Value}(h:w.heap[b]? =some (.cells #[v0,v1,v2,v3,v4,v5,v6,v7,v8,v9,v10] t (0,0))):w.cell? ⟨b,0,none⟩=some v0∧w.frozen? ⟨b,0,none⟩=false∧w.cell? ⟨b,1,none⟩=some v1∧w.frozen? ⟨b,1,none⟩=false∧w.cell? ⟨b,2,none⟩=some v2∧w.frozen? ⟨b,2,none⟩=false∧w.cell? ⟨b,3,none⟩=some v3∧w.frozen? ⟨b,3,none⟩=false∧w.cell? ⟨b,4,none⟩=some v4∧w.frozen? ⟨b,4,none⟩=false∧w.cell? ⟨b,5,none⟩=some v5∧w.frozen? ⟨b,5,none⟩=false∧w.cell? ⟨b,6,none⟩=some v6∧w.frozen? ⟨b,6,none⟩=false∧w.cell? ⟨b,7,none⟩=some v7∧w.frozen? ⟨b,7,none⟩=false∧w.cell? ⟨b,8,none⟩=some v8∧w.frozen? ⟨b,8,none⟩=false∧w.cell? ⟨b,9,none⟩=some v9∧w.frozen? ⟨b,9,none⟩=false∧w.cell? ⟨b,10,none⟩=some v10∧w.frozen? ⟨b,10,none⟩=false:=
 ⟨blk_cell h 0,blk_frozen h 0,blk_cell h 1,blk_frozen h 1,blk_cell h 2,blk_frozen h 2,blk_cell h 3,blk_frozen h 3,blk_cell h 4,blk_frozen h 4,blk_cell h 5,blk_frozen h 5,blk_cell h 6,blk_frozen h 6,blk_cell h 7,blk_frozen h 7,blk_cell h 8,blk_frozen h 8,blk_cell h 9,blk_frozen h 9,blk_cell h 10,blk_frozen h 10⟩
theorem cells15 {w:World}{b:Nat}{t:TypeId}{v0 v1 v2 v3 v4 v5 v6 v7 v8 v9 v10 v11 v12 v13 v14:Value}(h:w.heap[b]? =some (.cells #[v0,v1,v2,v3,v4,v5,v6,v7,v8,v9,v10,v11,v12,v13,v14] t (0,0))):w.cell? ⟨b,0,none⟩=some v0∧w.frozen? ⟨b,0,none⟩=false∧w.cell? ⟨b,1,none⟩=some v1∧w.frozen? ⟨b,1,none⟩=false∧w.cell? ⟨b,2,none⟩=some v2∧w.frozen? ⟨b,2,none⟩=false∧w.cell? ⟨b,3,none⟩=some v3∧w.frozen? ⟨b,3,none⟩=false∧w.cell? ⟨b,4,none⟩=some v4∧w.frozen? ⟨b,4,none⟩=false∧w.cell? ⟨b,5,none⟩=some v5∧w.frozen? ⟨b,5,none⟩=false∧w.cell? ⟨b,6,none⟩=some v6∧w.frozen? ⟨b,6,none⟩=false∧w.cell? ⟨b,7,none⟩=some v7∧w.frozen? ⟨b,7,none⟩=false∧w.cell? ⟨b,8,none⟩=some v8∧w.frozen? ⟨b,8,none⟩=false∧w.cell? ⟨b,9,none⟩=some v9∧w.frozen? ⟨b,9,none⟩=false∧w.cell? ⟨b,10,none⟩=some v10∧w.frozen? ⟨b,10,none⟩=false∧w.cell? ⟨b,11,none⟩=some v11∧w.frozen? ⟨b,11,none⟩=false∧w.cell? ⟨b,12,none⟩=some v12∧w.frozen? ⟨b,12,none⟩=false∧w.cell? ⟨b,13,none⟩=some v13∧w.frozen? ⟨b,13,none⟩=false∧w.cell? ⟨b,14,none⟩=some v14∧w.frozen? ⟨b,14,none⟩=false:=
 ⟨blk_cell h 0,blk_frozen h 0,blk_cell h 1,blk_frozen h 1,blk_cell h 2,blk_frozen h 2,blk_cell h 3,blk_frozen h 3,blk_cell h 4,blk_frozen h 4,blk_cell h 5,blk_frozen h 5,blk_cell h 6,blk_frozen h 6,blk_cell h 7,blk_frozen h 7,blk_cell h 8,blk_frozen h 8,blk_cell h 9,blk_frozen h 9,blk_cell h 10,blk_frozen h 10,blk_cell h 11,blk_frozen h 11,blk_cell h 12,blk_frozen h 12,blk_cell h 13,blk_frozen h 13,blk_cell h 14,blk_frozen h 14⟩
theorem cells16 {w:World}{b:Nat}{t:TypeId}{v0 v1 v2 v3 v4 v5 v6 v7 v8 v9 v10 v11 v12 v13 v14 v15:Value}(h:w.heap[b]? =some (.cells #[v0,v1,v2,v3,v4,v5,v6,v7,v8,v9,v10,v11,v12,v13,v14,v15] t (0,0))):w.cell? ⟨b,0,none⟩=some v0∧w.frozen? ⟨b,0,none⟩=false∧w.cell? ⟨b,1,none⟩=some v1∧w.frozen? ⟨b,1,none⟩=false∧w.cell? ⟨b,2,none⟩=some v2∧w.frozen? ⟨b,2,none⟩=false∧w.cell? ⟨b,3,none⟩=some v3∧w.frozen? ⟨b,3,none⟩=false∧w.cell? ⟨b,4,none⟩=some v4∧w.frozen? ⟨b,4,none⟩=false∧w.cell? ⟨b,5,none⟩=some v5∧w.frozen? ⟨b,5,none⟩=false∧w.cell? ⟨b,6,none⟩=some v6∧w.frozen? ⟨b,6,none⟩=false∧w.cell? ⟨b,7,none⟩=some v7∧w.frozen? ⟨b,7,none⟩=false∧w.cell? ⟨b,8,none⟩=some v8∧w.frozen? ⟨b,8,none⟩=false∧w.cell? ⟨b,9,none⟩=some v9∧w.frozen? ⟨b,9,none⟩=false∧w.cell? ⟨b,10,none⟩=some v10∧w.frozen? ⟨b,10,none⟩=false∧w.cell? ⟨b,11,none⟩=some v11∧w.frozen? ⟨b,11,none⟩=false∧w.cell? ⟨b,12,none⟩=some v12∧w.frozen? ⟨b,12,none⟩=false∧w.cell? ⟨b,13,none⟩=some v13∧w.frozen? ⟨b,13,none⟩=false∧w.cell? ⟨b,14,none⟩=some v14∧w.frozen? ⟨b,14,none⟩=false∧w.cell? ⟨b,15,none⟩=some v15∧w.frozen? ⟨b,15,none⟩=false:=
 ⟨blk_cell h 0,blk_frozen h 0,blk_cell h 1,blk_frozen h 1,blk_cell h 2,blk_frozen h 2,blk_cell h 3,blk_frozen h 3,blk_cell h 4,blk_frozen h 4,blk_cell h 5,blk_frozen h 5,blk_cell h 6,blk_frozen h 6,blk_cell h 7,blk_frozen h 7,blk_cell h 8,blk_frozen h 8,blk_cell h 9,blk_frozen h 9,blk_cell h 10,blk_frozen h 10,blk_cell h 11,blk_frozen h 11,blk_cell h 12,blk_frozen h 12,blk_cell h 13,blk_frozen h 13,blk_cell h 14,blk_frozen h 14,blk_cell h 15,blk_frozen h 15⟩
theorem cells21 {w:World}{b:Nat}{t:TypeId}{v0 v1 v2 v3 v4 v5 v6 v7 v8 v9 v10 v11 v12 v13 v14 v15 v16 v17 v18 v19 v20:Value}(h:w.heap[b]? =some (.cells #[v0,v1,v2,v3,v4,v5,v6,v7,v8,v9,v10,v11,v12,v13,v14,v15,v16,v17,v18,v19,v20] t (0,0))):w.cell? ⟨b,0,none⟩=some v0∧w.frozen? ⟨b,0,none⟩=false∧w.cell? ⟨b,1,none⟩=some v1∧w.frozen? ⟨b,1,none⟩=false∧w.cell? ⟨b,2,none⟩=some v2∧w.frozen? ⟨b,2,none⟩=false∧w.cell? ⟨b,3,none⟩=some v3∧w.frozen? ⟨b,3,none⟩=false∧w.cell? ⟨b,4,none⟩=some v4∧w.frozen? ⟨b,4,none⟩=false∧w.cell? ⟨b,5,none⟩=some v5∧w.frozen? ⟨b,5,none⟩=false∧w.cell? ⟨b,6,none⟩=some v6∧w.frozen? ⟨b,6,none⟩=false∧w.cell? ⟨b,7,none⟩=some v7∧w.frozen? ⟨b,7,none⟩=false∧w.cell? ⟨b,8,none⟩=some v8∧w.frozen? ⟨b,8,none⟩=false∧w.cell? ⟨b,9,none⟩=some v9∧w.frozen? ⟨b,9,none⟩=false∧w.cell? ⟨b,10,none⟩=some v10∧w.frozen? ⟨b,10,none⟩=false∧w.cell? ⟨b,11,none⟩=some v11∧w.frozen? ⟨b,11,none⟩=false∧w.cell? ⟨b,12,none⟩=some v12∧w.frozen? ⟨b,12,none⟩=false∧w.cell? ⟨b,13,none⟩=some v13∧w.frozen? ⟨b,13,none⟩=false∧w.cell? ⟨b,14,none⟩=some v14∧w.frozen? ⟨b,14,none⟩=false∧w.cell? ⟨b,15,none⟩=some v15∧w.frozen? ⟨b,15,none⟩=false∧w.cell? ⟨b,16,none⟩=some v16∧w.frozen? ⟨b,16,none⟩=false∧w.cell? ⟨b,17,none⟩=some v17∧w.frozen? ⟨b,17,none⟩=false∧w.cell? ⟨b,18,none⟩=some v18∧w.frozen? ⟨b,18,none⟩=false∧w.cell? ⟨b,19,none⟩=some v19∧w.frozen? ⟨b,19,none⟩=false∧w.cell? ⟨b,20,none⟩=some v20∧w.frozen? ⟨b,20,none⟩=false:=
 ⟨blk_cell h 0,blk_frozen h 0,blk_cell h 1,blk_frozen h 1,blk_cell h 2,blk_frozen h 2,blk_cell h 3,blk_frozen h 3,blk_cell h 4,blk_frozen h 4,blk_cell h 5,blk_frozen h 5,blk_cell h 6,blk_frozen h 6,blk_cell h 7,blk_frozen h 7,blk_cell h 8,blk_frozen h 8,blk_cell h 9,blk_frozen h 9,blk_cell h 10,blk_frozen h 10,blk_cell h 11,blk_frozen h 11,blk_cell h 12,blk_frozen h 12,blk_cell h 13,blk_frozen h 13,blk_cell h 14,blk_frozen h 14,blk_cell h 15,blk_frozen h 15,blk_cell h 16,blk_frozen h 16,blk_cell h 17,blk_frozen h 17,blk_cell h 18,blk_frozen h 18,blk_cell h 19,blk_frozen h 19,blk_cell h 20,blk_frozen h 20⟩
theorem cells22 {w:World}{b:Nat}{t:TypeId}{v0 v1 v2 v3 v4 v5 v6 v7 v8 v9 v10 v11 v12 v13 v14 v15 v16 v17 v18 v19 v20 v21:Value}(h:w.heap[b]? =some (.cells #[v0,v1,v2,v3,v4,v5,v6,v7,v8,v9,v10,v11,v12,v13,v14,v15,v16,v17,v18,v19,v20,v21] t (0,0))):w.cell? ⟨b,0,none⟩=some v0∧w.frozen? ⟨b,0,none⟩=false∧w.cell? ⟨b,1,none⟩=some v1∧w.frozen? ⟨b,1,none⟩=false∧w.cell? ⟨b,2,none⟩=some v2∧w.frozen? ⟨b,2,none⟩=false∧w.cell? ⟨b,3,none⟩=some v3∧w.frozen? ⟨b,3,none⟩=false∧w.cell? ⟨b,4,none⟩=some v4∧w.frozen? ⟨b,4,none⟩=false∧w.cell? ⟨b,5,none⟩=some v5∧w.frozen? ⟨b,5,none⟩=false∧w.cell? ⟨b,6,none⟩=some v6∧w.frozen? ⟨b,6,none⟩=false∧w.cell? ⟨b,7,none⟩=some v7∧w.frozen? ⟨b,7,none⟩=false∧w.cell? ⟨b,8,none⟩=some v8∧w.frozen? ⟨b,8,none⟩=false∧w.cell? ⟨b,9,none⟩=some v9∧w.frozen? ⟨b,9,none⟩=false∧w.cell? ⟨b,10,none⟩=some v10∧w.frozen? ⟨b,10,none⟩=false∧w.cell? ⟨b,11,none⟩=some v11∧w.frozen? ⟨b,11,none⟩=false∧w.cell? ⟨b,12,none⟩=some v12∧w.frozen? ⟨b,12,none⟩=false∧w.cell? ⟨b,13,none⟩=some v13∧w.frozen? ⟨b,13,none⟩=false∧w.cell? ⟨b,14,none⟩=some v14∧w.frozen? ⟨b,14,none⟩=false∧w.cell? ⟨b,15,none⟩=some v15∧w.frozen? ⟨b,15,none⟩=false∧w.cell? ⟨b,16,none⟩=some v16∧w.frozen? ⟨b,16,none⟩=false∧w.cell? ⟨b,17,none⟩=some v17∧w.frozen? ⟨b,17,none⟩=false∧w.cell? ⟨b,18,none⟩=some v18∧w.frozen? ⟨b,18,none⟩=false∧w.cell? ⟨b,19,none⟩=some v19∧w.frozen? ⟨b,19,none⟩=false∧w.cell? ⟨b,20,none⟩=some v20∧w.frozen? ⟨b,20,none⟩=false∧w.cell? ⟨b,21,none⟩=some v21∧w.frozen? ⟨b,21,none⟩=false:=
 ⟨blk_cell h 0,blk_frozen h 0,blk_cell h 1,blk_frozen h 1,blk_cell h 2,blk_frozen h 2,blk_cell h 3,blk_frozen h 3,blk_cell h 4,blk_frozen h 4,blk_cell h 5,blk_frozen h 5,blk_cell h 6,blk_frozen h 6,blk_cell h 7,blk_frozen h 7,blk_cell h 8,blk_frozen h 8,blk_cell h 9,blk_frozen h 9,blk_cell h 10,blk_frozen h 10,blk_cell h 11,blk_frozen h 11,blk_cell h 12,blk_frozen h 12,blk_cell h 13,blk_frozen h 13,blk_cell h 14,blk_frozen h 14,blk_cell h 15,blk_frozen h 15,blk_cell h 16,blk_frozen h 16,blk_cell h 17,blk_frozen h 17,blk_cell h 18,blk_frozen h 18,blk_cell h 19,blk_frozen h 19,blk_cell h 20,blk_frozen h 20,blk_cell h 21,blk_frozen h 21⟩
theorem h_ {p:Prop}(h:p):Hid p:=h
abbrev bb:=@blk_below
abbrev bq:=@blk_cell
abbrev bz:=@blk_frozen
theorem rdy {P:Program}{md:Region.Mode}{ops:Array Oper}{Q:Exit→Act→World→Prop}{S:World→Prop}(i:Nat){oi:Oper}{fuel:Nat}{listed:Array Bool}{a:Act}{w:World}(hr:Region.ready md ops listed= [i])(hi:ops[i]? =some oi)
  (h:∀K:Act→World→Prop,Shut (∀a' w',S w'→(S w'→wpAnyH P md ops Q S fuel (listed.setIfInBounds i true) a' w')→K a' w')→if Region.wanted oi (yielded ops a.tmps)=true then Oper.wp P oi a w K Q else K (a.put oi.dst undef) w):wpAnyH P md ops Q S (fuel+1) listed a w:=
 wpAnyH_ready hr (by simp) (AllReadyH.cons hi h AllReadyH.nil)
def RsV {α:Type}(T:Ty α)(e:TypeId)(l:List α)(w:World)(en:Ending)(w':World):Prop:=∃v,en= .returned v∧Rs T e w' v l∧Below w.heap.size w w'
def putAt (w:World)(g:Nat):Nat→List Value→World
 |_,[]=>w
 |off,u :: us=>putAt (w.setCell ⟨g,off,none⟩ u) g (off+1) us
theorem putAt_only (g:Nat):∀(us:List Value) (w:World) (off:Nat),Only g w (putAt w g off us)
 | [],w,_=>Only.refl g w
 |u :: us,w,off=>((Only.refl g w).set off u).trans (putAt_only g us _ (off+1))
theorem putAt_blk (g:Nat)(t:TypeId):∀(us:List Value) (w:World) (off:Nat) (cur:Array Value),w.heap[g]? =some (.cells cur t (0,0))→off+us.length≤cur.size→
  ∃cur',(putAt w g off us).heap[g]? =some (.cells cur' t (0,0))∧cur'.size=cur.size∧∀j,cur'[j]? =if off≤j∧j<off+us.length then us[j - off]? else cur[j]?
 | [],w,off,cur,h,_=>⟨cur,h,rfl,fun j=>by rw[if_neg (by simp)]⟩
 |u :: us,w,off,cur,h,hl=>by
  rw[List.length_cons] at hl
  obtain⟨cur',h1,h2,h3⟩:=putAt_blk g t us (w.setCell ⟨g,off,none⟩ u) (off+1) (cur.setIfInBounds off u) (blk_set h off u) (by rw[Array.size_setIfInBounds];omega)
  refine⟨cur',h1,by rw[h2,Array.size_setIfInBounds],fun j=>?_⟩
  rw[h3 j,List.length_cons]
  by_cases hj:j=off
  ·subst hj
   rw[if_neg (by omega),if_pos (by omega),Nat.sub_self]
   rw[Array.getElem?_setIfInBounds]
   simp
   omega
  ·by_cases hj2:off+1≤j∧j<off+1+us.length
   ·rw [if_pos hj2,if_pos (by omega)]
    rw[show j - off=(j - (off+1))+1 by omega]
    rfl
   ·rw [if_neg hj2,if_neg (by omega),Array.getElem?_setIfInBounds_ne (Ne.symm hj)]
section
variable {α:Type} {T:Ty α} {e:TypeId} {w w':World} {v:Value} {l:List α} {base:Nat}
theorem Ty.all_set (T:Ty α):∀(l:List α) (i:Nat) (x:α) (j:Nat),i<l.length→(T.all (l.set i x))[j]? =if i*T.sz≤j∧j<i*T.sz+T.sz then(T.enc x)[j - i*T.sz]? else(T.all l)[j]?
 | [],i,x,j,h=>by simp at h
 |y :: l,0,x,j,_=>by
  rw[List.set_cons_zero,T.all_cons,T.all_cons,Nat.zero_mul,Nat.zero_add,Nat.sub_zero]
  by_cases hj:j<T.sz
  ·rw [if_pos ⟨Nat.zero_le _,hj⟩,List.getElem?_append_left (by rw[T.len];exact hj)]
  ·rw [if_neg (by omega),List.getElem?_append_right (by rw[T.len];omega),List.getElem?_append_right (by rw[T.len];omega)]
   simp only[T.len]
 |y :: l,i+1,x,j,h=>by
  have ih:=Ty.all_set T l i x (j - T.sz) (by simpa using h)
  rw[List.set_cons_succ,T.all_cons,T.all_cons]
  have hm:(i+1)*T.sz=i*T.sz+T.sz:=Nat.succ_mul ..
  by_cases hj:j<T.sz
  ·rw [if_neg (by omega),List.getElem?_append_left (by rw[T.len];exact hj),List.getElem?_append_left (by rw[T.len];exact hj)]
  ·rw [List.getElem?_append_right (by rw[T.len];omega),List.getElem?_append_right (by rw[T.len];omega)]
   simp only[T.len]
   rw[ih,hm]
   by_cases hj2:i*T.sz≤j - T.sz∧j - T.sz<i*T.sz+T.sz
   ·rw [if_pos hj2,if_pos (by omega)]
    congr 1
    omega
   ·rw [if_neg hj2,if_neg (by omega)]
theorem own_form {sz n:Nat}{xs:List Value}(h:w.ownsRow base e sz v n xs)(hn:0<n):∃g cap cur,v= .slice (some ⟨g,0,none⟩) n cap∧n≤cap∧base≤g∧w.heap[g]? =some (.cells cur e (0,0))∧cur.size=cap*sz∧∀(j:Nat) (u:Value),xs[j]? =some u→cur[j]? =some u:=by
 rcases h.2 with⟨_,h0⟩|⟨g,cap,cur,rfl,hb,h1,h2,_,h4,h3⟩
 ·omega
 ·refine⟨g,cap,cur,rfl,h2,hb,h1,h4,fun j u hj=>?_⟩
  rw[←h3,List.getElem?_take] at hj
  split at hj
  ·rw [←hj,Array.getElem?_toList]
  ·cases hj
theorem own_put {g cap:Nat}{cur:Array Value}(i:Nat)(x:α)(hi:i<l.length)(hc:l.length≤cap)(hg:w.heap[g]? =some (.cells cur e (0,0)))(hs:cur.size=cap*T.sz)(hj:∀(j:Nat) (u:Value),(T.all l)[j]? =some u→cur[j]? =some u):
  Rs T e (putAt w g (i*T.sz) (T.enc x)) (.slice (some ⟨g,0,none⟩) l.length cap) (l.set i x):=by
 have hm:i*T.sz+T.sz≤cap*T.sz:=by rw[←Nat.succ_mul];exact Nat.mul_le_mul_right _ (by omega)
 obtain⟨cur',h1,h2,h3⟩:=putAt_blk g e (T.enc x) w (i*T.sz) cur hg (by rw[T.len,hs];exact hm)
 refine .inr ⟨g,cap,cur',(0,0),by rw[List.length_set],by rw[List.length_set];exact hc,h1,fun j u hu=>?_⟩
 rw[T.all_set l i x j hi] at hu
 rw[h3 j,T.len]
 split
 ·rw [if_pos (by assumption)] at hu
  exact hu
 ·rw [if_neg (by assumption)] at hu
  exact hj j u hu
theorem own_set' {D sz n:Nat}{xs:List Value}(h:w.ownsRow D e sz v n xs)(b o:Nat)(hb:b<D)(x:Value):(w.setCell ⟨b,o,none⟩ x).ownsRow D e sz v n xs:=
 own_move h (fun k hk=>Below.heap_setCell w ⟨b,o,none⟩ x k (by have:=own_base h k hk;show k≠b;omega))
theorem own_at' {D g n c:Nat}(h:w.ownsRow D e T.sz (.slice (some ⟨g,0,none⟩) n c) l.length (T.all l))(i j:Nat)(hi:i<l.length)(hjs:j<T.sz):w.cell? ⟨g,i*T.sz+j,none⟩=(T.enc l[i])[j]? :=by
 have h1:=T.all_at l i j hi hjs
 have hu:(T.enc l[i])[j]? =some ((T.enc l[i])[j]'(by rw[T.len];exact hjs)):=List.getElem?_eq_getElem _
 rw[hu] at h1⊢
 have h2:=h.cells (g:=g) rfl _ _ h1
 rw[add0] at h2
 exact h2
theorem own_cell {g:Nat}{cur:Array Value}(i j:Nat)(hi:i<l.length)(hg:w.heap[g]? =some (.cells cur e (0,0)))(hj:∀(j:Nat) (u:Value),(T.all l)[j]? =some u→cur[j]? =some u)(hjs:j<T.sz):w.cell? ⟨g,i*T.sz+j,none⟩=(T.enc l[i])[j]? :=by
 rw[bq hg]
 have h:=T.all_at l i j hi hjs
 have hs:∃u,(T.enc l[i])[j]? =some u:=⟨_,List.getElem?_eq_getElem (by rw[T.len];exact hjs)⟩
 obtain⟨u,hu⟩:=hs
 rw[hu] at h⊢
 exact hj _ _ h
theorem blk_put {g:Nat}{t:TypeId}{cs:Array Value}(h:w.heap[g]? =some (.cells cs t (0,0)))(off:Nat)(vs:List Value)(hl:off+vs.length≤cs.size):
  (putAt w g off vs).heap[g]? =some (.cells (cs.toList.take off++vs++cs.toList.drop (off+vs.length)).toArray t (0,0)):=by
 obtain⟨cur',h1,h2,h3⟩:=putAt_blk g t vs w off cs h hl
 rw[h1]
 congr 2
 apply Array.ext_getElem?
 intro j
 rw[h3 j]
 have e1:(cs.toList.take off).length=off:=by rw[List.length_take,Array.length_toList];omega
 simp only[List.getElem?_toArray]
 by_cases hj:off≤j∧j<off+vs.length
 ·rw [if_pos hj,List.getElem?_append_left (by rw[List.length_append,e1];omega),List.getElem?_append_right (by rw[e1];omega),e1]
 ·rw [if_neg hj]
  by_cases hj2:j<off
  ·rw [List.getElem?_append_left (by rw[List.length_append,e1];omega),List.getElem?_append_left (by rw[e1];exact hj2),List.getElem?_take,if_pos hj2,Array.getElem?_toList]
  ·rw [List.getElem?_append_right (by rw[List.length_append,e1];omega),List.length_append,e1,List.getElem?_drop,Array.getElem?_toList]
   congr 1
   omega
theorem below_puts {w0 W:World}(h:Below w0.heap.size w0 W)(b:Nat)(hb:w0.heap.size≤b)(off:Nat)(vs:List Value):Below w0.heap.size w0 (putAt W b off vs):=Below.later h (putAt_only b vs W off) hb h.size
theorem only_puts {g:Nat}{w0 W:World}(h:Only g w0 W)(off:Nat)(vs:List Value):Only g w0 (putAt W g off vs):=h.trans (putAt_only g vs W off)
theorem only_puts_new {g:Nat}{w0 W:World}(h:Only g w0 W)(b:Nat)(hb:w0.heap.size≤b)(off:Nat)(vs:List Value):Only g w0 (putAt W b off vs):=h.fresh (putAt_only b vs W off) hb
theorem blk_puts_far {g:Nat}{o:Obj}(h:w.heap[g]? =some o)(b:Nat)(hne:g≠b)(off:Nat)(vs:List Value):(putAt w b off vs).heap[g]? =some o:=((putAt_only b vs w off).block g (blk_lt h) hne).trans h
theorem Rs.puts (h:Rs T e w v l){b:Nat}{cs:Array Value}{t:TypeId}{fr:Nat×Nat}(k:w.heap[b]? =some (.cells cs t fr))(hne:e≠t)(off:Nat)(vs:List Value):Rs T e (putAt w b off vs) v l:=h.only (putAt_only b vs w off) k hne
theorem one (w:World)(a:Obj):Below w.heap.size w (w.alloc a):=(Below.refl _ _).alloc (Nat.le_refl _) _
theorem two (w:World)(a b:Obj):Below w.heap.size w ((w.alloc a).alloc b):=((Below.refl _ _).alloc (Nat.le_refl _) _).alloc (by simp) _
theorem blk_new' (w:World)(o:Obj)(b:Nat)(hb:b=w.heap.size):(w.alloc o).heap[b]? =some o:=by
 subst hb
 exact blk_new w o
theorem drew_below (w:World):Below w.heap.size w w.drew:=below_drew (Below.refl _ _)
theorem blk_far' {g:Nat}{t:TypeId}{cs:Array Value}{fr:Nat×Nat}(h:w.heap[g]? =some (.cells cs t fr))(b o:Nat)(hp:g≠b)(u:Value):(w.setCell ⟨b,o,none⟩ u).heap[g]? =some (.cells cs t fr):=(Below.heap_setCell w ⟨b,o,none⟩ u g hp).trans h
theorem blk_only {g b:Nat}{o:Obj}(h:w.heap[b]? =some o)(k:Only g w w')(hne:b≠g):w'.heap[b]? =some o:=(k.block b (blk_lt h) hne).trans h
theorem below_set {w0 W:World}(h:Below w0.heap.size w0 W)(b o:Nat)(hb:w0.heap.size≤b)(u:Value):Below w0.heap.size w0 (W.setCell ⟨b,o,none⟩ u):=h.setCell hb u
theorem below_call {w0 W w1:World}(h:Below w0.heap.size w0 W)(k:Below W.heap.size W w1):Below w0.heap.size w0 w1:=h.trans (k.mono h.size)
theorem below_only {w0 W w1:World}{g:Nat}(h:Below w0.heap.size w0 W)(k:Only g W w1)(hg:w0.heap.size≤g):Below w0.heap.size w0 w1:=Below.later h k hg h.size
theorem only_alloc {g:Nat}{w0 W:World}(h:Only g w0 W)(o:Obj):Only g w0 (W.alloc o):=h.alloc o
theorem only_set {g:Nat}{w0 W:World}(h:Only g w0 W)(o:Nat)(u:Value):Only g w0 (W.setCell ⟨g,o,none⟩ u):=h.set o u
theorem only_call {g:Nat}{w0 W w1:World}(h:Only g w0 W)(k:Below W.heap.size W w1):Only g w0 w1:=h.then k
structure Only35 (D:Nat)(w w':World):Prop where
 os:w'.os=w.os
 tape:w'.tape=w.tape
 output:w'.output=w.output
 size:w.heap.size≤w'.heap.size
 block:∀k,k<D→k<w.heap.size→w'.heap[k]? =w.heap[k]?
theorem own_grow {D sz n:Nat}{xs:List Value}(h:w.ownsRow D e sz v n xs)(hg:w.grownBy w' v.ownBlock):Only35 D w w':=
 ⟨hg.os,hg.tape,hg.output,hg.size,fun k hk hlt=>hg.block k hlt (fun e=>by have:=own_base h k e.symm;omega)⟩
theorem keep35 {D g:Nat}{o:Obj}(h:w.heap[g]? =some o)(k:Only35 D w w')(hg:g<D):w'.heap[g]? =some o:=(k.block g hg (blk_lt h)).trans h
theorem below35 {w0:World}{D:Nat}(h:Below w0.heap.size w0 w)(k:Only35 D w w')(hD:w0.heap.size≤D):Below w0.heap.size w0 w':=
 h.trans ⟨k.os,k.tape,k.output,k.size,fun i hi=>k.block i (by omega) (by have:=h.size;omega)⟩
theorem Rs.set (h:Rs T e w v l){b:Nat}{cs:Array Value}{t:TypeId}{fr:Nat×Nat}(k:w.heap[b]? =some (.cells cs t fr))(hne:e≠t)(o:Nat)(u:Value):Rs T e (w.setCell ⟨b,o,none⟩ u) v l:=h.only ((Only.refl b w).set o u) k hne
theorem Rs.set_ne {b n c:Nat}(h:Rs T e w (.slice (some ⟨b,0,none⟩) n c) l)(g o:Nat)(hne:b≠g)(u:Value):Rs T e (w.setCell ⟨g,o,none⟩ u) (.slice (some ⟨b,0,none⟩) n c) l:=by
 rcases h with⟨_,h⟩|⟨b',c',cur,fr,h0,h1,h2,h3⟩
 ·cases h
 ·cases h0
  exact .inr ⟨b,c,cur,fr,rfl,h1,(Below.heap_setCell w ⟨g,o,none⟩ u b hne).trans h2,h3⟩
theorem Rs.len {A:Option Addr}{n c:Nat}(h:Rs T e w (.slice A n c) l):n=l.length:=by
 obtain⟨A',c',e1,_⟩:=h.slice
 cases e1
 rfl
section
variable {P:Program} {fn:Func} {tmps:Array Value} {t u u':Tmp} {ty ty':TypeId} {b:Nat} {cs:Array Value} {fr:Nat×Nat} {d:TypeDesc}
theorem res_cell (h:fn.results= #[.cell t ty])(ha:tmps.getD t undef= .pointer (some ⟨b,0,none⟩))(hg:w.heap[b]? =some (.cells cs ty' fr))(hu:P.underlying ty=some d)
  (hd:(match d with| .struct _| .array _ _=>true|_=>false)=true) (hi:(P.info? ty).map (·.size)=some cs.size):(results fn tmps).run P w= .ok (.agg cs) w:=by
 have ha':tmps[t]?.getD undef= .pointer (some ⟨b,0,none⟩):=by simpa using ha
 simp[results,h,ha',asAddr,run_loadVar_row w b ty' ty cs fr d hg hu hd hi,Result.andThen]
theorem res_cell_tmp (h:fn.results= #[.cell t ty,.tmp u])(ha:tmps.getD t undef= .pointer (some ⟨b,0,none⟩))(hg:w.heap[b]? =some (.cells cs ty' fr))(hu:P.underlying ty=some d)
  (hd:(match d with| .struct _| .array _ _=>true|_=>false)=true) (hi:(P.info? ty).map (·.size)=some cs.size):(results fn tmps).run P w= .ok (.tuple #[.agg cs,tmps.getD u undef]) w:=by
 have ha':tmps[t]?.getD undef= .pointer (some ⟨b,0,none⟩):=by simpa using ha
 simp[results,h,ha',asAddr,run_loadVar_row w b ty' ty cs fr d hg hu hd hi,Result.andThen]
theorem res_cell_tmp2 (h:fn.results= #[.cell t ty,.tmp u,.tmp u'])(ha:tmps.getD t undef= .pointer (some ⟨b,0,none⟩))(hg:w.heap[b]? =some (.cells cs ty' fr))(hu:P.underlying ty=some d)
  (hd:(match d with| .struct _| .array _ _=>true|_=>false)=true) (hi:(P.info? ty).map (·.size)=some cs.size):(results fn tmps).run P w= .ok (.tuple #[.agg cs,tmps.getD u undef,tmps.getD u' undef]) w:=by
 have ha':tmps[t]?.getD undef= .pointer (some ⟨b,0,none⟩):=by simpa using ha
 simp[results,h,ha',asAddr,run_loadVar_row w b ty' ty cs fr d hg hu hd hi,Result.andThen]
end
theorem wp_world {P:Program}{c:Code}{Q:Exit→Act→World→Prop}{a:Act}{w:World}(h:∀W,W=w→Code.wp P c Q a W):Code.wp P c Q a w:=h w rfl
theorem below_of_eq {w W:World}(h:W=w):Below w.heap.size w W:=by
 subst h
 exact Below.refl _ _
end
theorem put_cells (g:Nat):∀(vs:List Value) (off:Nat) (w:World),w.setCells g off vs=putAt w g off vs
 | [],_,_=>rfl
 |v :: r,off,w=>by rw[World.setCells,putAt,put_cells g r (off+1)]
theorem there_blk {w:World}{g:Nat}{t:TypeId}{cs:Array Value}(h:w.heap[g]? =some (.cells cs t (0,0)))(n:Nat)(hn:n≤cs.size):w.there g 0 n:=fun j hj=>by
 rw[Nat.zero_add]
 have hc:w.cell? ⟨g,j,none⟩=cs[j]? :=by unfold World.cell?;simp[h]
 refine⟨?_,bz h j⟩
 rw[hc,Array.getElem?_eq_getElem (by omega)]
 rfl
theorem range_blk {w:World}{g:Nat}{t:TypeId}{cs:Array Value}{fr:Nat×Nat}(h:w.heap[g]? =some (.cells cs t fr)):w.rangeAt g 0 cs.toList:=fun j v hv=>by
 rw[Nat.zero_add]
 unfold World.cell?
 simp[h]
 simpa using hv
section
variable {P:Program} {ops:Array Oper} {Q:Exit→Act→World→Prop} {md:Region.Mode} {S:World→Prop} {z:Nat}
def waits (md:Region.Mode)(ops:Array Oper)(z i:Nat):Bool:=
 match ops[z]? with
 |none=>false
 |some o=>o.after.any (fun e=>Region.binds md e&&e.on==i)
theorem waits_spec {i:Nat}(h:waits md ops z i=true){listed:Array Bool}(hz:z∈Region.ready md ops listed)(hi:i∈Region.ready md ops listed):False:=by
 obtain⟨_,o,ho,hall⟩:=mem_ready.1 hz
 obtain⟨k0,_,_,_⟩:=mem_ready.1 hi
 unfold waits at h
 rw[ho] at h
 rw[Array.any_eq_true'] at h
 obtain⟨e,he,hb⟩:=h
 rw[Bool.and_eq_true] at hb
 have h2:=hall e he hb.1
 have h3:e.on=i:=by simpa using hb.2
 rw[h3] at h2
 rcases Nat.lt_or_ge i listed.size with h'|h'
 ·simp [h'] at h2 k0
  rw[k0] at h2
  cases h2
 ·simp [Array.getElem?_eq_none h'] at h2
def wpAnyL (P:Program)(md:Region.Mode)(ops:Array Oper)(Q:Exit→Act→World→Prop)(S:World→Prop)(z:Nat):Nat→Array Bool→Act→World→Prop
 |0,listed,a,w=>Region.ready md ops listed= []∧Q .normal a w
 |fuel+1,listed,a,w=>
  (Region.ready md ops listed= []→Q .normal a w)∧
  ∀i∈Region.ready md ops listed,wpOp P ops Q i (fun a' w'=>((listed.setIfInBounds i true).getD z false=true∨S w')∧wpAnyL P md ops Q S z fuel (listed.setIfInBounds i true) a' w') a w
theorem wpAny_of_L:∀(fuel:Nat) (listed:Array Bool) (a:Act) (w:World),wpAnyL P md ops Q S z fuel listed a w→wpAny P md ops Q fuel listed a w
 |0,_,_,_,h=>h
 |fuel+1,_,_,_,h=>⟨h.1,fun i hi=>wpOp_mono (fun a' w' h'=>wpAny_of_L fuel _ a' w' h'.2) (h.2 i hi)⟩
theorem wpAnyL_first {T:World→Prop}{W:Array Bool→World→Prop}{i:Nat}{oi:Oper}{v:Value}(hi:ops[i]? =some oi)(hiz:i≠z)(hsel:∀(j:Nat) (o:Oper) cs b,ops[j]? =some o→o.op≠ .select cs b)
  (hQ:∀c a w,Q (.panic c) (a.put oi.dst v) w→Q (.panic c) a w) (hWT:∀l w,W l w→T w) (hWS:∀l w,W l w→l.getD z false=true∨S w)
  (hstep:∀(l:Array Bool) (w w':World) (j:Nat),W l w→i∈Region.ready md ops l→j∈Region.ready md ops l→(l.setIfInBounds j true).getD z false=true∨S w'→W (l.setIfInBounds j true) w'):
  ∀(fuel:Nat) (listed:Array Bool) (a:Act) (w:World),
   (∀j oj,ops[j]? =some oj→j≠i→listed.getD j true=false→(∀e∈oj.after,Region.binds md e=true→e.on≠i)→oi.apart ops oj=true)→
   i∈Region.ready md ops listed→YieldsIf P ops T oi v a→W listed w→
   wpAnyL P md ops Q S z fuel (listed.setIfInBounds i true) (a.put oi.dst v) w→wpAnyL P md ops Q S z (fuel+1) listed a w:=by
 have hkeep:∀(l:Array Bool) (w:World),W l w→(l.setIfInBounds i true).getD z false=true∨S w:=fun l w h=>(hWS l w h).imp getD_set_true id
 intro fuel
 induction fuel with
 |zero=>
  intro listed a w _ hr hy hW H
  refine⟨fun h=>absurd (h▸hr) (by simp),fun j hj=>?_⟩
  by_cases e:j=i
  ·subst e
   exact hy.wpOp hi (hWT _ _ hW) ⟨hkeep _ _ hW,H⟩
  ·have h:=ready_mono hj e
   rw[H.1] at h
   cases h
 |succ fuel ih=>
  intro listed a w hfree hr hy hW H
  refine⟨fun h=>absurd (h▸hr) (by simp),fun j hj=>?_⟩
  by_cases e:j=i
  ·subst e
   exact hy.wpOp hi (hWT _ _ hW) ⟨hkeep _ _ hW,H⟩
  ·have h1:=H.2 j (ready_mono hj e)
   obtain⟨hun,oj,hoj,hall⟩:=mem_ready.1 hj
   have hno:∀x∈oj.after,Region.binds md x=true→x.on≠i:=fun x hx hb q=>by
    have a1:=hall x hx hb
    have a2:=(mem_ready.1 hr).1
    rw[q] at a1
    rcases Nat.lt_or_ge i listed.size with h'|h'
    ·simp [h'] at a1 a2
     rw[a2] at a1
     cases a1
    ·simp [Array.getElem?_eq_none h'] at a1
   have h2:=wpOp_putIf hoj (hfree j oj hoj e hun hno) (fun cs b=>hsel i oi cs b hi) (fun cs b=>hsel j oj cs b hoj) hQ hy h1
   refine wpOp_mono (fun a' w' h3=>?_) h2
   have hc:(listed.setIfInBounds j true).getD z false=true∨S w':=by
    rcases h3.2.1 with h|h
    ·rw [Array.setIfInBounds_comm _ _ (Ne.symm e),getD_set_ne false hiz] at h
     exact .inl h
    ·exact .inr h
   refine⟨hc,ih (listed.setIfInBounds j true) a' w' (fun k ok hk hki hu hn=>?_) (ready_mono hr (Ne.symm e)) h3.1 (hstep listed w w' j hW hr hj hc) ?_⟩
   ·refine hfree k ok hk hki ?_ hn
    by_cases q:j=k
    ·subst q
     exact hun
    ·rw [getD_set_ne true q] at hu
     exact hu
   ·rw [Array.setIfInBounds_comm _ _ e]
    exact h3.2.2
theorem last_take {i:Nat}{oi:Oper}{v:Value}{fuel:Nat}{listed:Array Bool}{a:Act}{w:World}(hi:ops[i]? =some oi)(hz:(i != z&&waits md ops z i&& !listed.getD z false)=true)
  (hs:Region.noSelect ops=true) (hf:Region.free md ops listed i=true) (hr:(Region.ready md ops listed).contains i=true)
  (hQ:∀c a w,Q (.panic c) (a.put oi.dst v) w→Q (.panic c) a w) (hy:YieldsIf P ops S oi v a) (hS:S w)
  (h:wpAnyL P md ops Q S z fuel (listed.setIfInBounds i true) (a.put oi.dst v) w):wpAnyL P md ops Q S z (fuel+1) listed a w:=by
 rw[Bool.and_eq_true,Bool.and_eq_true] at hz
 obtain⟨⟨h1,h2⟩,h3⟩:=hz
 refine wpAnyL_first (T:=S) (W:=fun l w=>S w∧l.getD z false=false) hi (by simpa using h1) (Region.noSelect_spec hs) hQ (fun _ _ h=>h.1) (fun _ _ h=> .inr h.1) ?_ fuel listed a w (Region.free_spec hi hf) (by simpa using hr) hy ⟨hS,by simpa using h3⟩ h
 intro l w w' j hW hi' hj hc
 have hjz:j≠z:=fun e=>waits_spec h2 (e▸hj) hi'
 rw[getD_set_ne false hjz] at hc⊢
 rw[hW.2] at hc
 exact⟨hc.resolve_left (by decide),hW.2⟩
theorem last_pure {i:Nat}{oi:Oper}{v:Value}{fuel:Nat}{listed:Array Bool}{a:Act}{w:World}(hi:ops[i]? =some oi)(hz:(i != z)=true)
  (hs:Region.noSelect ops=true) (hf:Region.free md ops listed i=true) (hr:(Region.ready md ops listed).contains i=true)
  (hQ:∀c a w,Q (.panic c) (a.put oi.dst v) w→Q (.panic c) a w) (hy:YieldsIf P ops (fun _=>True) oi v a) (hS:listed.getD z false=true∨S w)
  (h:wpAnyL P md ops Q S z fuel (listed.setIfInBounds i true) (a.put oi.dst v) w):wpAnyL P md ops Q S z (fuel+1) listed a w:=
 wpAnyL_first (T:=fun _=>True) (W:=fun l w=>l.getD z false=true∨S w) hi (by simpa using hz) (Region.noSelect_spec hs) hQ (fun _ _ _=>trivial) (fun _ _ h=>h) (fun _ _ _ _ _ _ _ hc=>hc) fuel listed a w (Region.free_spec hi hf) (by simpa using hr) hy hS h
def AllL (P:Program)(md:Region.Mode)(ops:Array Oper)(Q:Exit→Act→World→Prop)(S:World→Prop)(z:Nat)(fuel:Nat)(listed:Array Bool)(a:Act)(w:World)(rs:List Nat):Prop:=
 ∀i∈rs,wpOp P ops Q i (fun a' w'=>((listed.setIfInBounds i true).getD z false=true∨S w')∧wpAnyL P md ops Q S z fuel (listed.setIfInBounds i true) a' w') a w
theorem AllL.nil {fuel:Nat}{listed:Array Bool}{a:Act}{w:World} :AllL P md ops Q S z fuel listed a w []:=fun _ h=>by cases h
theorem AllL.cons {fuel:Nat}{listed:Array Bool}{a:Act}{w:World}{i:Nat}{o:Oper}{rs:List Nat}(ho:ops[i]? =some o)
  (h:∀K':Act→World→Prop,Shut (∀a w,((listed.setIfInBounds i true).getD z false=true∨S w)→wpAnyL P md ops Q S z fuel (listed.setIfInBounds i true) a w→K' a w)→if Region.wanted o (yielded ops a.tmps)=true then Oper.wp P o a w K' Q else K' (a.put o.dst undef) w)
  (hs:AllL P md ops Q S z fuel listed a w rs):AllL P md ops Q S z fuel listed a w (i :: rs):=fun j hj=>by
 rcases List.mem_cons.1 hj with rfl|hj
 ·exact wpOp_step ho (fun K' hK=>h K' (fun a w hS hW=>hK a w ⟨hS,hW⟩))
 ·exact hs j hj
theorem last_ready {rs:List Nat}{fuel:Nat}{listed:Array Bool}{a:Act}{w:World}(hr:Region.ready md ops listed=rs)(hne:rs≠ [])
  (h:AllL P md ops Q S z fuel listed a w rs):wpAnyL P md ops Q S z (fuel+1) listed a w:=
 ⟨fun h0=>absurd (hr▸h0) hne,hr▸h⟩
theorem last_done {listed:Array Bool}{a:Act}{w:World}(hr:Region.ready md ops listed= [])(h:Q .normal a w):∀fuel,wpAnyL P md ops Q S z fuel listed a w
 |0=>⟨hr,h⟩
 |_+1=>⟨fun _=>h,by rw[hr];simp⟩
theorem wp_region_last {id:Nat}{a:Act}{w:World}(hm:P.follows .mixedOrders=true)(S:World→Prop)(z:Nat)(h:wpAnyL P .any ops Q S z ops.size (Array.replicate ops.size false) a w.drew):(Code.region id ops true).wp P Q a w:=
 wp_region_any hm (wpAny_of_L _ _ _ _ h)
end
section
variable {P:Program} {ops:Array Oper} {Q:Exit→Act→World→Prop} {md:Region.Mode} {S:World→Prop} {z fuel:Nat} {listed:Array Bool} {a:Act} {w:World}
end
theorem lay:(∀(l:List Value) (i:Nat) (v:Value),l.toArray.setIfInBounds i v=(l.set i v).toArray)∧(∀(x v:Value) (l:List Value),(x :: l).set 0 v=v :: l)∧(∀(x v:Value) (l:List Value) (i:Nat),(x :: l).set (i+1) v=x :: l.set i v)∧
  (∀(l:List Oper) (i:Nat) (h:i<l.toArray.size),l.toArray[i]=l[i]'(by simpa using h))∧(∀(x:Oper) (l:List Oper) (h:0<(x :: l).length),(x :: l)[0]=x)∧(∀(x:Oper) (l:List Oper) (i:Nat) (h:i+1<(x :: l).length),(x :: l)[i+1]=l[i]'(by simpa using h)):=
 ⟨fun _ _ _=>List.setIfInBounds_toArray ..,fun _ _ _=>rfl,fun _ _ _ _=>rfl,fun _ _ _=>rfl,fun _ _ _=>rfl,fun _ _ _ _=>rfl⟩
theorem Rs.head1 {α:Type}{T:Ty α}{e:TypeId}{w:World}{A:Option Addr}{n c:Nat}{x:α}(h:Rs T e w (.slice A n c) [x]):n=1∧∃b,A=some ⟨b,0,none⟩∧b<w.heap.size:=by
 rcases h with⟨h,_⟩|⟨b,c',cur,fr,hv,_,h2,_⟩
 ·cases h
 ·injection hv with h3 h4 _
  exact⟨h4,b,h3,blk_lt h2⟩
theorem below_grown {a b:World}(h:a.grownBy b none):Below a.heap.size a b:=⟨h.os,h.tape,h.output,h.size,fun k hk=>h.block k hk (by simp)⟩
theorem own_keep {w w':World}{D sz n:Nat}{e:TypeId}{v:Value}{xs:List Value}(h:w.ownsRow D e sz v n xs)(hb:Below w.heap.size w w'):w'.ownsRow D e sz v n xs:=
 own_move h (fun k hk=>by obtain⟨cs,hc⟩:=own_typed h k hk;exact hb.block k (blk_lt hc))
theorem below_of_drew {w u:World}(h:u=w.drew):Below w.heap.size w u:=by
 subst h
 exact⟨rfl,rfl,rfl,Nat.le_refl _,fun _ _=>rfl⟩
theorem range_at {w:World}{g:Nat}{t:TypeId}{cs:Array Value}{fr:Nat×Nat}(h:w.heap[g]? =some (.cells cs t fr))(off:Nat)(vs:List Value)(hv:(cs.toList.drop off).take vs.length=vs):w.rangeAt g off vs:=fun j v hj=>by
 have hl:j<vs.length:=(List.getElem?_eq_some_iff.1 hj).1
 rw[←hv,List.getElem?_take,if_pos hl,List.getElem?_drop] at hj
 unfold World.cell?
 simp[h]
 simpa using hj
theorem there_at {w:World}{g:Nat}{t:TypeId}{cs:Array Value}(h:w.heap[g]? =some (.cells cs t (0,0)))(off n:Nat)(hn:off+n≤cs.size):w.there g off n:=fun j hj=>by
 have hc:w.cell? ⟨g,off+j,none⟩=cs[off+j]? :=by unfold World.cell?;simp[h]
 refine⟨?_,bz h _⟩
 rw[hc,Array.getElem?_eq_getElem (by omega)]
 rfl
section
variable {P:Program} {ops:Array Oper} {Q:Exit→Act→World→Prop} {md:Region.Mode} {S:World→Prop} {z fuel:Nat} {listed:Array Bool} {a:Act} {w:World}
theorem ready_unlisted {l:Array Bool}{i:Nat}(h:i∈Region.ready md ops l):l.getD i false=false:=by
 obtain⟨k0,_,_,_⟩:=mem_ready.1 h
 rcases Nat.lt_or_ge i l.size with h'|h'
 ·simp [h'] at k0⊢
  exact k0
 ·simp [Array.getElem?_eq_none h']
theorem waits_ready {l:Array Bool}{k p:Nat}(h:waits md ops k p=true)(hp:l.getD p false=false)(hk:k∈Region.ready md ops l):False:=by
 obtain⟨_,o,ho,hall⟩:=mem_ready.1 hk
 unfold waits at h
 rw[ho,Array.any_eq_true'] at h
 obtain⟨e,he,hb⟩:=h
 rw[Bool.and_eq_true] at hb
 have h2:=hall e he hb.1
 have h3:e.on=p:=by simpa using hb.2
 rw[h3] at h2
 rw[hp] at h2
 cases h2
theorem last_takeC (ks:List Nat){i:Nat}{oi:Oper}{v:Value}(hi:ops[i]? =some oi)(hz:(i != z&&ks.contains z&&ks.all (fun k=>(i :: ks).any (waits md ops k))&&ks.all (fun k=> !listed.getD k false))=true)
  (hs:Region.noSelect ops=true) (hf:Region.free md ops listed i=true) (hr:(Region.ready md ops listed).contains i=true)
  (hQ:∀c a w,Q (.panic c) (a.put oi.dst v) w→Q (.panic c) a w) (hy:YieldsIf P ops S oi v a) (hS:S w)
  (h:wpAnyL P md ops Q S z fuel (listed.setIfInBounds i true) (a.put oi.dst v) w):wpAnyL P md ops Q S z (fuel+1) listed a w:=by
 rw[Bool.and_eq_true,Bool.and_eq_true,Bool.and_eq_true,List.all_eq_true,List.all_eq_true] at hz
 obtain⟨⟨⟨h1,h2⟩,h3⟩,h4⟩:=hz
 have hzk:z∈ks:=by simpa using h2
 refine wpAnyL_first (T:=S) (W:=fun l w=>S w∧∀k∈ks,l.getD k false=false) hi (by simpa using h1) (Region.noSelect_spec hs) hQ (fun _ _ h=>h.1) (fun _ _ h=> .inr h.1) ?_ fuel listed a w (Region.free_spec hi hf) (by simpa using hr) hy ⟨hS,fun k hk=>by simpa using h4 k hk⟩ h
 intro l w w' j hW hi' hj hc
 have hne:∀k∈ks,j≠k:=fun k hk e=>by
  subst e
  obtain⟨p,hp,hw⟩:=List.any_eq_true.1 (h3 j hk)
  rcases List.mem_cons.1 hp with rfl|hp
  ·exact waits_ready hw (ready_unlisted hi') hj
  ·exact waits_ready hw (hW.2 p hp) hj
 rw[getD_set_ne false (hne z hzk),hW.2 z hzk] at hc
 exact⟨hc.resolve_left (by decide),fun k hk=>by rw[getD_set_ne false (hne k hk)];exact hW.2 k hk⟩
end
theorem nl {w:World}{b:Nat}{o:Obj}(h:Hid (w.heap[b]? =some o)):b<w.heap.size∧b≠w.heap.size∧w.heap.size≠b:=(hid_mv h.out).2
def Mv (w w':World)(p q:Prop):Prop:=Below w.heap.size w w'→p→q
section
variable {w w':World}
theorem mvB {b:Nat}{o:Obj} :Mv w w' (Hid (w.heap[b]? =some o)) (Hid (w'.heap[b]? =some o)):=fun hb h=>h_ (bb h.out hb)
theorem mvR {α:Type}{T:Ty α}{e:TypeId}{v:Value}{l:List α} :Mv w w' (Hid (Rs T e w v l)) (Hid (Rs T e w' v l)):=fun hb h=>h_ (Rs.below h.out hb)
theorem mvO {g:Nat}{w0:World} :Mv w w' (Hid (Only g w0 w)) (Hid (Only g w0 w')):=fun hb h=>h_ (only_call h.out hb)
theorem mvW {w0:World} :Mv w w' (Hid (Below w0.heap.size w0 w)) (Hid (Below w0.heap.size w0 w')):=fun hb h=>h_ (below_call h.out hb)
theorem mvK {D sz n:Nat}{e:TypeId}{v:Value}{xs:List Value} :Mv w w' (Hid (w.ownsRow D e sz v n xs)) (Hid (w'.ownsRow D e sz v n xs)):=fun hb h=>h_ (own_keep h.out hb)
theorem mvA {p q p' q':Prop}(h:Mv w w' p q)(h':Mv w w' p' q'):Mv w w' (p∧p') (q∧q'):=fun hb k=>⟨h hb k.1,h' hb k.2⟩
end
section
variable {w w':World} {p1 p2 p3 p4 p5 p6 p7 p8 p9 p10 p11 p12 p13 p14 q:Prop}
theorem m1 (hb:Below w.heap.size w w')(k1:p1)(e:Mv w w' (p1) q:=by repeat' first|exact mvB|exact mvR|exact mvO|exact mvW|exact mvK|exact mvH|apply mvA):w.heap.size≤w'.heap.size∧q:=⟨hb.size,e hb k1⟩
theorem m2 (hb:Below w.heap.size w w')(k1:p1)(k2:p2)(e:Mv w w' (p1∧p2) q:=by repeat' first|exact mvB|exact mvR|exact mvO|exact mvW|exact mvK|exact mvH|apply mvA):w.heap.size≤w'.heap.size∧q:=⟨hb.size,e hb ⟨k1,k2⟩⟩
theorem m3 (hb:Below w.heap.size w w')(k1:p1)(k2:p2)(k3:p3)(e:Mv w w' (p1∧p2∧p3) q:=by repeat' first|exact mvB|exact mvR|exact mvO|exact mvW|exact mvK|exact mvH|apply mvA):w.heap.size≤w'.heap.size∧q:=⟨hb.size,e hb ⟨k1,k2,k3⟩⟩
theorem m4 (hb:Below w.heap.size w w')(k1:p1)(k2:p2)(k3:p3)(k4:p4)(e:Mv w w' (p1∧p2∧p3∧p4) q:=by repeat' first|exact mvB|exact mvR|exact mvO|exact mvW|exact mvK|exact mvH|apply mvA):w.heap.size≤w'.heap.size∧q:=⟨hb.size,e hb ⟨k1,k2,k3,k4⟩⟩
theorem m5 (hb:Below w.heap.size w w')(k1:p1)(k2:p2)(k3:p3)(k4:p4)(k5:p5)(e:Mv w w' (p1∧p2∧p3∧p4∧p5) q:=by repeat' first|exact mvB|exact mvR|exact mvO|exact mvW|exact mvK|exact mvH|apply mvA):w.heap.size≤w'.heap.size∧q:=⟨hb.size,e hb ⟨k1,k2,k3,k4,k5⟩⟩
theorem m6 (hb:Below w.heap.size w w')(k1:p1)(k2:p2)(k3:p3)(k4:p4)(k5:p5)(k6:p6)(e:Mv w w' (p1∧p2∧p3∧p4∧p5∧p6) q:=by repeat' first|exact mvB|exact mvR|exact mvO|exact mvW|exact mvK|exact mvH|apply mvA):w.heap.size≤w'.heap.size∧q:=⟨hb.size,e hb ⟨k1,k2,k3,k4,k5,k6⟩⟩
theorem m7 (hb:Below w.heap.size w w')(k1:p1)(k2:p2)(k3:p3)(k4:p4)(k5:p5)(k6:p6)(k7:p7)(e:Mv w w' (p1∧p2∧p3∧p4∧p5∧p6∧p7) q:=by repeat' first|exact mvB|exact mvR|exact mvO|exact mvW|exact mvK|exact mvH|apply mvA):w.heap.size≤w'.heap.size∧q:=⟨hb.size,e hb ⟨k1,k2,k3,k4,k5,k6,k7⟩⟩
theorem m8 (hb:Below w.heap.size w w')(k1:p1)(k2:p2)(k3:p3)(k4:p4)(k5:p5)(k6:p6)(k7:p7)(k8:p8)(e:Mv w w' (p1∧p2∧p3∧p4∧p5∧p6∧p7∧p8) q:=by repeat' first|exact mvB|exact mvR|exact mvO|exact mvW|exact mvK|exact mvH|apply mvA):w.heap.size≤w'.heap.size∧q:=⟨hb.size,e hb ⟨k1,k2,k3,k4,k5,k6,k7,k8⟩⟩
theorem m9 (hb:Below w.heap.size w w')(k1:p1)(k2:p2)(k3:p3)(k4:p4)(k5:p5)(k6:p6)(k7:p7)(k8:p8)(k9:p9)(e:Mv w w' (p1∧p2∧p3∧p4∧p5∧p6∧p7∧p8∧p9) q:=by repeat' first|exact mvB|exact mvR|exact mvO|exact mvW|exact mvK|exact mvH|apply mvA):w.heap.size≤w'.heap.size∧q:=⟨hb.size,e hb ⟨k1,k2,k3,k4,k5,k6,k7,k8,k9⟩⟩
theorem m10 (hb:Below w.heap.size w w')(k1:p1)(k2:p2)(k3:p3)(k4:p4)(k5:p5)(k6:p6)(k7:p7)(k8:p8)(k9:p9)(k10:p10)(e:Mv w w' (p1∧p2∧p3∧p4∧p5∧p6∧p7∧p8∧p9∧p10) q:=by repeat' first|exact mvB|exact mvR|exact mvO|exact mvW|exact mvK|exact mvH|apply mvA):w.heap.size≤w'.heap.size∧q:=⟨hb.size,e hb ⟨k1,k2,k3,k4,k5,k6,k7,k8,k9,k10⟩⟩
theorem m12 (hb:Below w.heap.size w w')(k1:p1)(k2:p2)(k3:p3)(k4:p4)(k5:p5)(k6:p6)(k7:p7)(k8:p8)(k9:p9)(k10:p10)(k11:p11)(k12:p12)(e:Mv w w' (p1∧p2∧p3∧p4∧p5∧p6∧p7∧p8∧p9∧p10∧p11∧p12) q:=by repeat' first|exact mvB|exact mvR|exact mvO|exact mvW|exact mvK|exact mvH|apply mvA):w.heap.size≤w'.heap.size∧q:=⟨hb.size,e hb ⟨k1,k2,k3,k4,k5,k6,k7,k8,k9,k10,k11,k12⟩⟩
theorem m13 (hb:Below w.heap.size w w')(k1:p1)(k2:p2)(k3:p3)(k4:p4)(k5:p5)(k6:p6)(k7:p7)(k8:p8)(k9:p9)(k10:p10)(k11:p11)(k12:p12)(k13:p13)(e:Mv w w' (p1∧p2∧p3∧p4∧p5∧p6∧p7∧p8∧p9∧p10∧p11∧p12∧p13) q:=by repeat' first|exact mvB|exact mvR|exact mvO|exact mvW|exact mvK|exact mvH|apply mvA):w.heap.size≤w'.heap.size∧q:=⟨hb.size,e hb ⟨k1,k2,k3,k4,k5,k6,k7,k8,k9,k10,k11,k12,k13⟩⟩
end
def Mo (g:Nat)(w w':World)(p q:Prop):Prop:=Only g w w'→p→q
section
variable {w w':World} {g:Nat}
theorem moB {b:Nat}{o:Obj}(hne:b≠g):Mo g w w' (Hid (w.heap[b]? =some o)) (Hid (w'.heap[b]? =some o)):=fun ho h=>h_ (blk_only h.out ho hne)
theorem moR {α:Type}{T:Ty α}{e t:TypeId}{v:Value}{l:List α}{cs:Array Value}{fr:Nat×Nat}(k:Hid (w.heap[g]? =some (.cells cs t fr)))(hne:e≠t):Mo g w w' (Hid (Rs T e w v l)) (Hid (Rs T e w' v l)):=fun ho h=>h_ (Rs.only h.out ho k.out hne)
theorem moS {α:Type}{T:Ty α}{e:TypeId}{b n c:Nat}{l:List α}(hne:b≠g):Mo g w w' (Hid (Rs T e w (.slice (some ⟨b,0,none⟩) n c) l)) (Hid (Rs T e w' (.slice (some ⟨b,0,none⟩) n c) l)):=fun ho h=>by
 rcases h.out with⟨_,h⟩|⟨b',c',cur,fr,h0,h1,h2,h3⟩
 ·cases h
 ·cases h0
  exact .inr ⟨b,c,cur,fr,rfl,h1,blk_only h2 ho hne,h3⟩
theorem moO {w0:World} :Mo g w w' (Hid (Only g w0 w)) (Hid (Only g w0 w')):=fun ho h=>h_ (Only.trans h.out ho)
theorem moN {g0:Nat}{w0:World}(hg:w0.heap.size≤g):Mo g w w' (Hid (Only g0 w0 w)) (Hid (Only g0 w0 w')):=fun ho h=>h_ (h.out.fresh ho hg)
theorem moW {w0:World}(hg:w0.heap.size≤g):Mo g w w' (Hid (Below w0.heap.size w0 w)) (Hid (Below w0.heap.size w0 w')):=fun ho h=>h_ (below_only h.out ho hg)
theorem moA {p q p' q':Prop}(h:Mo g w w' p q)(h':Mo g w w' p' q'):Mo g w w' (p∧p') (q∧q'):=fun hb k=>⟨h hb k.1,h' hb k.2⟩
end
section
variable {w w':World} {g:Nat} {p1 p2 p3 p4 p5 p6 p7 p8 p9 p10 p11 p12 p13 p14 q:Prop}
theorem o1 (hb:Only g w w')(k1:p1)(e:Mo g w w' (p1) q:=by repeat' first|exact moB (by omega)|exact moR (by assumption) (by decide)|exact moS (by omega)|exact moO|exact moN (by omega)|exact moW (by omega)|exact moH (by assumption) (by decide)|apply moA):w.heap.size≤w'.heap.size∧q:=⟨hb.size,e hb k1⟩
theorem o2 (hb:Only g w w')(k1:p1)(k2:p2)(e:Mo g w w' (p1∧p2) q:=by repeat' first|exact moB (by omega)|exact moR (by assumption) (by decide)|exact moS (by omega)|exact moO|exact moN (by omega)|exact moW (by omega)|exact moH (by assumption) (by decide)|apply moA):w.heap.size≤w'.heap.size∧q:=⟨hb.size,e hb ⟨k1,k2⟩⟩
theorem o3 (hb:Only g w w')(k1:p1)(k2:p2)(k3:p3)(e:Mo g w w' (p1∧p2∧p3) q:=by repeat' first|exact moB (by omega)|exact moR (by assumption) (by decide)|exact moS (by omega)|exact moO|exact moN (by omega)|exact moW (by omega)|exact moH (by assumption) (by decide)|apply moA):w.heap.size≤w'.heap.size∧q:=⟨hb.size,e hb ⟨k1,k2,k3⟩⟩
theorem o4 (hb:Only g w w')(k1:p1)(k2:p2)(k3:p3)(k4:p4)(e:Mo g w w' (p1∧p2∧p3∧p4) q:=by repeat' first|exact moB (by omega)|exact moR (by assumption) (by decide)|exact moS (by omega)|exact moO|exact moN (by omega)|exact moW (by omega)|exact moH (by assumption) (by decide)|apply moA):w.heap.size≤w'.heap.size∧q:=⟨hb.size,e hb ⟨k1,k2,k3,k4⟩⟩
theorem o5 (hb:Only g w w')(k1:p1)(k2:p2)(k3:p3)(k4:p4)(k5:p5)(e:Mo g w w' (p1∧p2∧p3∧p4∧p5) q:=by repeat' first|exact moB (by omega)|exact moR (by assumption) (by decide)|exact moS (by omega)|exact moO|exact moN (by omega)|exact moW (by omega)|exact moH (by assumption) (by decide)|apply moA):w.heap.size≤w'.heap.size∧q:=⟨hb.size,e hb ⟨k1,k2,k3,k4,k5⟩⟩
theorem o6 (hb:Only g w w')(k1:p1)(k2:p2)(k3:p3)(k4:p4)(k5:p5)(k6:p6)(e:Mo g w w' (p1∧p2∧p3∧p4∧p5∧p6) q:=by repeat' first|exact moB (by omega)|exact moR (by assumption) (by decide)|exact moS (by omega)|exact moO|exact moN (by omega)|exact moW (by omega)|exact moH (by assumption) (by decide)|apply moA):w.heap.size≤w'.heap.size∧q:=⟨hb.size,e hb ⟨k1,k2,k3,k4,k5,k6⟩⟩
theorem o7 (hb:Only g w w')(k1:p1)(k2:p2)(k3:p3)(k4:p4)(k5:p5)(k6:p6)(k7:p7)(e:Mo g w w' (p1∧p2∧p3∧p4∧p5∧p6∧p7) q:=by repeat' first|exact moB (by omega)|exact moR (by assumption) (by decide)|exact moS (by omega)|exact moO|exact moN (by omega)|exact moW (by omega)|exact moH (by assumption) (by decide)|apply moA):w.heap.size≤w'.heap.size∧q:=⟨hb.size,e hb ⟨k1,k2,k3,k4,k5,k6,k7⟩⟩
theorem o8 (hb:Only g w w')(k1:p1)(k2:p2)(k3:p3)(k4:p4)(k5:p5)(k6:p6)(k7:p7)(k8:p8)(e:Mo g w w' (p1∧p2∧p3∧p4∧p5∧p6∧p7∧p8) q:=by repeat' first|exact moB (by omega)|exact moR (by assumption) (by decide)|exact moS (by omega)|exact moO|exact moN (by omega)|exact moW (by omega)|exact moH (by assumption) (by decide)|apply moA):w.heap.size≤w'.heap.size∧q:=⟨hb.size,e hb ⟨k1,k2,k3,k4,k5,k6,k7,k8⟩⟩
theorem o9 (hb:Only g w w')(k1:p1)(k2:p2)(k3:p3)(k4:p4)(k5:p5)(k6:p6)(k7:p7)(k8:p8)(k9:p9)(e:Mo g w w' (p1∧p2∧p3∧p4∧p5∧p6∧p7∧p8∧p9) q:=by repeat' first|exact moB (by omega)|exact moR (by assumption) (by decide)|exact moS (by omega)|exact moO|exact moN (by omega)|exact moW (by omega)|exact moH (by assumption) (by decide)|apply moA):w.heap.size≤w'.heap.size∧q:=⟨hb.size,e hb ⟨k1,k2,k3,k4,k5,k6,k7,k8,k9⟩⟩
theorem o11 (hb:Only g w w')(k1:p1)(k2:p2)(k3:p3)(k4:p4)(k5:p5)(k6:p6)(k7:p7)(k8:p8)(k9:p9)(k10:p10)(k11:p11)(e:Mo g w w' (p1∧p2∧p3∧p4∧p5∧p6∧p7∧p8∧p9∧p10∧p11) q:=by repeat' first|exact moB (by omega)|exact moR (by assumption) (by decide)|exact moS (by omega)|exact moO|exact moN (by omega)|exact moW (by omega)|exact moH (by assumption) (by decide)|apply moA):w.heap.size≤w'.heap.size∧q:=⟨hb.size,e hb ⟨k1,k2,k3,k4,k5,k6,k7,k8,k9,k10,k11⟩⟩
theorem o12 (hb:Only g w w')(k1:p1)(k2:p2)(k3:p3)(k4:p4)(k5:p5)(k6:p6)(k7:p7)(k8:p8)(k9:p9)(k10:p10)(k11:p11)(k12:p12)(e:Mo g w w' (p1∧p2∧p3∧p4∧p5∧p6∧p7∧p8∧p9∧p10∧p11∧p12) q:=by repeat' first|exact moB (by omega)|exact moR (by assumption) (by decide)|exact moS (by omega)|exact moO|exact moN (by omega)|exact moW (by omega)|exact moH (by assumption) (by decide)|apply moA):w.heap.size≤w'.heap.size∧q:=⟨hb.size,e hb ⟨k1,k2,k3,k4,k5,k6,k7,k8,k9,k10,k11,k12⟩⟩
end
def putL:List Value→Nat→List Value→List Value
 |l,_,[]=>l
 | [],_,_ :: _=> []
 |_ :: l,0,u :: us=>u :: putL l 0 us
 |x :: l,n+1,u :: us=>x :: putL l n (u :: us)
theorem putL_spec:∀(l:List Value) (n:Nat) (us:List Value),n+us.length≤l.length→l.take n++us++l.drop (n+us.length)=putL l n us
 |l,n,[],h=>by cases l <;> simp[putL]
 | [],n,_ :: _,h=>by simp at h
 |x :: l,0,u :: us,h=>by
  have h2:=putL_spec l 0 us (by simpa using h)
  simp[putL] at h2⊢
  exact h2
 |x :: l,n+1,u :: us,h=>by
  have h2:=putL_spec l n (u :: us) (by simp at h⊢;omega)
  rw[show n+1+(u :: us).length=(n+(u :: us).length)+1 by omega]
  simp[putL] at h2⊢
  exact h2
theorem blk_putL {w:World}{g:Nat}{t:TypeId}{l:List Value}(h:w.heap[g]? =some (.cells l.toArray t (0,0)))(off:Nat)(us:List Value)(hl:off+us.length≤l.length):(putAt w g off us).heap[g]? =some (.cells (putL l off us).toArray t (0,0)):=by
 rw[blk_put h off us (by simpa using hl),←putL_spec l off us hl]
theorem nw {w w':World}{cs:Array Value}{t:TypeId}(hb:Below (w.alloc (.cells cs t (0,0))).heap.size (w.alloc (.cells cs t (0,0))) w'):Hid (w'.heap[w.heap.size]? =some (.cells cs t (0,0))):=h_ (bb (blk_new _ _) hb)
theorem na1 {w w':World}{c1:Array Value}{t1:TypeId}(hb:Below (w.alloc (.cells c1 t1 (0,0))).heap.size (w.alloc (.cells c1 t1 (0,0))) w'):w.heap.size+1≤w'.heap.size∧(w.heap.size<w'.heap.size∧w.heap.size≠w'.heap.size∧w'.heap.size≠w.heap.size)∧Below w.heap.size w w'∧Hid (w'.heap[w.heap.size]? =some (.cells c1 t1 (0,0))):=⟨by have h:=hb.size;simpa using h,by have h:=hb.size;simp at h;omega,below_call (one _ _) hb,nw hb⟩
theorem na2 {w w':World}{c1 c2:Array Value}{t1 t2:TypeId}(hb:Below ((w.alloc (.cells c1 t1 (0,0))).alloc (.cells c2 t2 (0,0))).heap.size ((w.alloc (.cells c1 t1 (0,0))).alloc (.cells c2 t2 (0,0))) w'):w.heap.size+2≤w'.heap.size∧(w.heap.size<w'.heap.size∧w.heap.size≠w'.heap.size∧w'.heap.size≠w.heap.size∧w.heap.size+1<w'.heap.size∧w.heap.size+1≠w'.heap.size∧w'.heap.size≠w.heap.size+1)∧Below w.heap.size w w'∧Hid (w'.heap[w.heap.size]? =some (.cells c1 t1 (0,0)))∧Hid (w'.heap[w.heap.size+1]? =some (.cells c2 t2 (0,0))):=
 have h:=na1 (below_call (one _ _) hb)
 ⟨by have h:=hb.size;simpa using h,by have h:=hb.size;simp at h;omega,h.2.2.1,h.2.2.2,by have k:=nw hb;simpa using k⟩
theorem pw {w w':World}{g:Nat}{t:TypeId}{l l':List Value}(off:Nat)(us:List Value)(h:Hid (w.heap[g]? =some (.cells l.toArray t (0,0))))(hb:Below (putAt w g off us).heap.size (putAt w g off us) w')(hl:off+us.length≤l.length:=by exact Nat.le_of_ble_eq_true rfl)(e:putL l off us=l':=by((simp only[putL]);exact rfl)):Only g w w'∧Hid (w'.heap[g]? =some (.cells l'.toArray t (0,0))):=
 ⟨only_call (putAt_only g us w off) hb,h_ (e▸bb (blk_putL h.out off us hl) hb)⟩
theorem ps {w w':World}{g o:Nat}{t:TypeId}{l l':List Value}{u:Value}(h:Hid (w.heap[g]? =some (.cells l.toArray t (0,0))))(hb:Below (w.setCell ⟨g,o,none⟩ u).heap.size (w.setCell ⟨g,o,none⟩ u) w')(e:l.set o u=l':=by((simp only[List.set_cons_succ,List.set_cons_zero]);exact rfl)):Only g w w'∧Hid (w'.heap[g]? =some (.cells l'.toArray t (0,0))):=
 ⟨only_call ((Only.refl g w).set o u) hb,h_ (by have k:=bb (blk_set h.out o u) hb;rw[←e];simpa using k)⟩
section
variable {P:Program} {ops:Array Oper} {op:Oper} {a:Act} {w:World} {K:Act→World→Prop} {Q:Exit→Act→World→Prop} {g:Nat} {t:TypeId} {l l':List Value}
theorem na {c1:Array Value}{t1:TypeId}(h:∀u,Below w.heap.size w u→Hid (u.heap[w.heap.size]? =some (.cells c1 t1 (0,0)))→K a u):K a (w.alloc (.cells c1 t1 (0,0))):=h _ (one _ _) (h_ (blk_new _ _))
theorem ns {o:Nat}{v:Value}(k:Hid (w.heap[g]? =some (.cells l.toArray t (0,0))))(h:∀u,Only g w u→Hid (u.heap[g]? =some (.cells l'.toArray t (0,0)))→K a u)(e:l.set o v=l':=by((simp only[List.set_cons_succ,List.set_cons_zero]);exact rfl)):K a (w.setCell ⟨g,o,none⟩ v):=
 h _ (ps k (Below.refl _ _) e).1 (ps k (Below.refl _ _) e).2
theorem sm (o:Nat)(vs:List Value)(k:Hid (w.heap[g]? =some (.cells l.toArray t (0,0))))(h:∀u,Only g w u→Hid (u.heap[g]? =some (.cells l'.toArray t (0,0)))→K (a.put op.dst undef) u){ty:TypeId}{x y:Operand}(hw:Region.wanted op (yielded ops a.tmps)=true:=by rfl)(ho:op.op= .store ty x y:=by rfl)(hx:a.eval x= .pointer (some ⟨g,o,none⟩):=by rfl)(hy:a.eval y= .agg vs.toArray:=by rfl)
  (hl:o+vs.length≤l.length:=by exact Nat.le_of_ble_eq_true rfl) (hi:(P.info? ty).map (·.size)=some vs.length:=by kernel_rfl) (h1:vs.toArray.all (·.oneCell')=true:=by first|kernel_rfl|simp[Value.oneCell']) (e:putL l o vs=l':=by((simp only[putL]);exact rfl)):if Region.wanted op (yielded ops a.tmps)=true then Oper.wp P op a w K Q else K (a.put op.dst undef) w:=by
 rw[if_pos hw]
 refine wp_store_mid ty x y ho g o vs.toArray hx hy (there_at k.out o _ (by simpa using hl)) (by rw[hi,List.size_toArray]) h1 ?_
 rw[put_cells]
 exact h _ (pw o vs k (Below.refl _ _) hl e).1 (pw o vs k (Below.refl _ _) hl e).2
end
section
variable {P:Program} {c:Code} {Q:Exit→Act→World→Prop} {a:Act} {w:World}
theorem nm (h:∀u,Below w.heap.size w u→Code.wp P c Q a u):Code.wp P c Q a w:=h w (Below.refl _ _)
end
section
variable {P:Program} {ops:Array Oper} {Q:Exit→Act→World→Prop} {md:Region.Mode} {S:World→Prop} {z fuel:Nat} {listed l':Array Bool} {a a':Act} {w:World} {id:Nat} {g1 g2 g3 g4:Nat} {o1 o2 o3 o4:Obj}
theorem rg (S:World→Prop)(hS:S w)(hd:∀u,Below w.heap.size w u→S w→S u)(h:∀u,Below w.heap.size w u→Hid (S u)→wpAnyH P .any ops Q S ops.size (Array.replicate ops.size false) a u)(hm:P.follows .mixedOrders=true:=by kernel_rfl):(Code.region id ops true).wp P Q a w:=
 wp_region_held_drew hm (hd _ (below_of_drew rfl) hS) fun hs=>h _ (below_of_drew rfl) (h_ hs)
theorem rg1 (k1:Hid (w.heap[g1]? =some o1))(h:∀u,Below w.heap.size w u→Hid (u.heap[g1]? =some o1)→wpAnyH P .any ops Q (fun u=>u.heap[g1]? =some o1) ops.size (Array.replicate ops.size false) a u)(hm:P.follows .mixedOrders=true:=by kernel_rfl):(Code.region id ops true).wp P Q a w:=
 rg (fun u=>u.heap[g1]? =some o1) k1.out (fun _ hb k=>bb k hb) h hm
theorem rg2 (k1:Hid (w.heap[g1]? =some o1))(k2:Hid (w.heap[g2]? =some o2))(h:∀u,Below w.heap.size w u→Hid (u.heap[g1]? =some o1∧u.heap[g2]? =some o2)→wpAnyH P .any ops Q (fun u=>u.heap[g1]? =some o1∧u.heap[g2]? =some o2) ops.size (Array.replicate ops.size false) a u)(hm:P.follows .mixedOrders=true:=by kernel_rfl):(Code.region id ops true).wp P Q a w:=
 rg (fun u=>u.heap[g1]? =some o1∧u.heap[g2]? =some o2) ⟨k1.out,k2.out⟩ (fun _ hb k=>⟨bb k.1 hb,bb k.2 hb⟩) h hm
theorem rg3 (k1:Hid (w.heap[g1]? =some o1))(k2:Hid (w.heap[g2]? =some o2))(k3:Hid (w.heap[g3]? =some o3))(h:∀u,Below w.heap.size w u→Hid (u.heap[g1]? =some o1∧u.heap[g2]? =some o2∧u.heap[g3]? =some o3)→wpAnyH P .any ops Q (fun u=>u.heap[g1]? =some o1∧u.heap[g2]? =some o2∧u.heap[g3]? =some o3) ops.size (Array.replicate ops.size false) a u)(hm:P.follows .mixedOrders=true:=by kernel_rfl):(Code.region id ops true).wp P Q a w:=
 rg (fun u=>u.heap[g1]? =some o1∧u.heap[g2]? =some o2∧u.heap[g3]? =some o3) ⟨k1.out,k2.out,k3.out⟩ (fun _ hb k=>⟨bb k.1 hb,bb k.2.1 hb,bb k.2.2 hb⟩) h hm
theorem rl (S:World→Prop)(z:Nat)(h:∀u,Below w.heap.size w u→wpAnyL P .any ops Q S z ops.size (Array.replicate ops.size false) a u)(hm:P.follows .mixedOrders=true:=by kernel_rfl):(Code.region id ops true).wp P Q a w:=
 wp_region_last hm S z (h _ (below_of_drew rfl))
theorem rl1 (z:Nat)(_:Hid (w.heap[g1]? =some o1))(h:∀u,Below w.heap.size w u→wpAnyL P .any ops Q (fun u=>u.heap[g1]? =some o1) z ops.size (Array.replicate ops.size false) a u)(hm:P.follows .mixedOrders=true:=by kernel_rfl):(Code.region id ops true).wp P Q a w:=rl _ z h hm
theorem rl2 (z:Nat)(_:Hid (w.heap[g1]? =some o1))(_:Hid (w.heap[g2]? =some o2))(h:∀u,Below w.heap.size w u→wpAnyL P .any ops Q (fun u=>u.heap[g1]? =some o1∧u.heap[g2]? =some o2) z ops.size (Array.replicate ops.size false) a u)(hm:P.follows .mixedOrders=true:=by kernel_rfl):(Code.region id ops true).wp P Q a w:=rl _ z h hm
theorem rl3 (z:Nat)(_:Hid (w.heap[g1]? =some o1))(_:Hid (w.heap[g2]? =some o2))(_:Hid (w.heap[g3]? =some o3))(h:∀u,Below w.heap.size w u→wpAnyL P .any ops Q (fun u=>u.heap[g1]? =some o1∧u.heap[g2]? =some o2∧u.heap[g3]? =some o3) z ops.size (Array.replicate ops.size false) a u)(hm:P.follows .mixedOrders=true:=by kernel_rfl):(Code.region id ops true).wp P Q a w:=rl _ z h hm
theorem t_ (i:Nat){oi:Oper}{v:Value}(h:wpAnyH P md ops Q S fuel (listed.setIfInBounds i true) a' w)(hS:Hid (S w):=by assumption)(hi:ops[i]? =some oi:=by rfl)
  (hs:Region.noSelect ops=true:=by kernel_rfl) (hf:Region.free md ops listed i=true:=by kernel_rfl) (hr:(Region.ready md ops listed).contains i=true:=by kernel_rfl)
  (hw:Region.wanted oi (yielded ops a.tmps)=true:=by rfl)
  (hy:∀w,S w→(execOp a.eval oi).run P w= .ok (.value v) w:=by(intro w hw;clear hw;go_simp;try with_reducible rfl))
  (hQ:∀c a w,Q (.panic c) (a.put oi.dst v) w→Q (.panic c) a w:=by exact fun _ _ _ h=>h) (ha:a.put oi.dst v=a':=by((try simp only[Act.put,lay]);exact rfl)):wpAnyH P md ops Q S (fuel+1) listed a w:=
 wpAnyH_take hi hs hf hr hQ (Or.inl ⟨hw,hy⟩) hS.out (ha▸h)
theorem tq (i:Nat){oi:Oper}{v:Value}{g o:Nat}{u:Value}(hc:∀w,S w→w.cell? ⟨g,o,none⟩=some u)(h:wpAnyH P md ops Q S fuel (listed.setIfInBounds i true) a' w)(hS:Hid (S w):=by assumption)(hi:ops[i]? =some oi:=by rfl)
  (hs:Region.noSelect ops=true:=by kernel_rfl) (hf:Region.free md ops listed i=true:=by kernel_rfl) (hr:(Region.ready md ops listed).contains i=true:=by kernel_rfl)
  (hw:Region.wanted oi (yielded ops a.tmps)=true:=by rfl)
  (hy:∀w,w.cell? ⟨g,o,none⟩=some u→(execOp a.eval oi).run P w= .ok (.value v) w:=by(intro w c0;go_simp;try with_reducible rfl))
  (hQ:∀c a w,Q (.panic c) (a.put oi.dst v) w→Q (.panic c) a w:=by exact fun _ _ _ h=>h) (ha:a.put oi.dst v=a':=by((try simp only[Act.put,lay]);exact rfl)):wpAnyH P md ops Q S (fuel+1) listed a w:=
 wpAnyH_take hi hs hf hr hQ (Or.inl ⟨hw,fun w k=>hy w (hc w k)⟩) hS.out (ha▸h)
theorem tl (i o n:Nat){b:Nat}{l cs:List Value}{t:TypeId}{fr:Nat×Nat}(hc:∀w,S w→w.heap[b]? =some (.cells l.toArray t fr)){ty:TypeId}{d:TypeDesc}(hu:P.underlying ty=some d){oi:Oper}{x:Operand}(h:wpAnyH P md ops Q S fuel (listed.setIfInBounds i true) a' w)(hS:Hid (S w):=by assumption)(hl:(l.drop o).take n=cs:=by((simp only[List.drop_succ_cons,List.drop_zero,List.take_succ_cons,List.take_zero]);exact rfl))(hcs:n=cs.length:=by rfl)(hi:ops[i]? =some oi:=by rfl)
  (hs:Region.noSelect ops=true:=by kernel_rfl) (hf:Region.free md ops listed i=true:=by kernel_rfl) (hr:(Region.ready md ops listed).contains i=true:=by kernel_rfl)
  (hw:Region.wanted oi (yielded ops a.tmps)=true:=by rfl)
  (ho:oi.op= .load ty x:=by rfl) (hx:a.eval x= .pointer (some ⟨b,o,none⟩):=by rfl) (hd:d.isRow=true:=by rfl) (hn:(P.info? ty).map (·.size)=some cs.length:=by kernel_rfl)
  (hQ:∀c a w,Q (.panic c) (a.put oi.dst (.agg cs.toArray)) w→Q (.panic c) a w:=by exact fun _ _ _ h=>h) (ha:a.put oi.dst (.agg cs.toArray)=a':=by((try simp only[Act.put,lay]);exact rfl)):wpAnyH P md ops Q S (fuel+1) listed a w:=
 wpAnyH_take hi hs hf hr hQ (yieldsIf_load_mid hw ty x ho b o hx cs d (fun w k=>range_at (hc w k) o cs (by subst hcs;rw[hl])) hu hd hn) hS.out (ha▸h)
theorem rd (i:Nat){oi:Oper}(h:∀K:Act→World→Prop,Shut (∀a' w',S w'→(S w'→wpAnyH P md ops Q S fuel (listed.setIfInBounds i true) a' w')→K a' w')→if Region.wanted oi (yielded ops a.tmps)=true then Oper.wp P oi a w K Q else K (a.put oi.dst undef) w)(hr:Region.ready md ops listed= [i]:=by kernel_rfl)(hi:ops[i]? =some oi:=by rfl):wpAnyH P md ops Q S (fuel+1) listed a w:=
 wpAnyH_ready hr (by simp) (AllReadyH.cons hi h AllReadyH.nil)
theorem bk {K:Act→World→Prop}(hK:Shut (∀a w,S w→(S w→wpAnyH P md ops Q S fuel listed a w)→K a w))(hs:S w)(h:Hid (S w)→wpAnyH P md ops Q S fuel listed a' w)(ha:a=a':=by((try simp only[Act.put,lay]);exact rfl)):K a w:=
 hK.out _ _ hs fun k=>ha▸h (h_ k)
theorem d_ (h:Q .normal a w)(hr:Region.ready md ops listed= []:=by kernel_rfl):wpAnyH P md ops Q S fuel listed a w:=wpAnyH_done hr h _
theorem l_ (i:Nat){oi:Oper}{v:Value}(hS:listed.getD z false=true∨S w)(h:wpAnyL P md ops Q S z fuel (listed.setIfInBounds i true) a' w)(hi:ops[i]? =some oi:=by rfl)(hz:(i != z)=true:=by kernel_rfl)
  (hs:Region.noSelect ops=true:=by kernel_rfl) (hf:Region.free md ops listed i=true:=by kernel_rfl) (hr:(Region.ready md ops listed).contains i=true:=by kernel_rfl)
  (hw:Region.wanted oi (yielded ops a.tmps)=true:=by rfl)
  (hy:∀w,True→(execOp a.eval oi).run P w= .ok (.value v) w:=by(intro w hw;clear hw;go_simp;try with_reducible rfl))
  (hQ:∀c a w,Q (.panic c) (a.put oi.dst v) w→Q (.panic c) a w:=by exact fun _ _ _ h=>h) (ha:a.put oi.dst v=a':=by((try simp only[Act.put,lay]);exact rfl)):wpAnyL P md ops Q S z (fuel+1) listed a w:=
 last_pure hi hz hs hf hr hQ (Or.inl ⟨hw,hy⟩) hS (ha▸h)
theorem lq (i:Nat){oi:Oper}{v:Value}{g o:Nat}{u:Value}(hc:∀w,S w→w.cell? ⟨g,o,none⟩=some u)(hS:S w)(h:wpAnyL P md ops Q S z fuel (listed.setIfInBounds i true) a' w)(hi:ops[i]? =some oi:=by rfl)(hz:(i != z&&waits md ops z i&& !listed.getD z false)=true:=by kernel_rfl)
  (hs:Region.noSelect ops=true:=by kernel_rfl) (hf:Region.free md ops listed i=true:=by kernel_rfl) (hr:(Region.ready md ops listed).contains i=true:=by kernel_rfl)
  (hw:Region.wanted oi (yielded ops a.tmps)=true:=by rfl)
  (hy:∀w,w.cell? ⟨g,o,none⟩=some u→(execOp a.eval oi).run P w= .ok (.value v) w:=by(intro w c0;go_simp;try with_reducible rfl))
  (hQ:∀c a w,Q (.panic c) (a.put oi.dst v) w→Q (.panic c) a w:=by exact fun _ _ _ h=>h) (ha:a.put oi.dst v=a':=by((try simp only[Act.put,lay]);exact rfl)):wpAnyL P md ops Q S z (fuel+1) listed a w:=
 last_take hi hz hs hf hr hQ (Or.inl ⟨hw,fun w k=>hy w (hc w k)⟩) hS (ha▸h)
theorem lqC (i:Nat)(ks:List Nat){oi:Oper}{v:Value}{g o:Nat}{u:Value}(hc:∀w,S w→w.cell? ⟨g,o,none⟩=some u)(hS:S w)(h:wpAnyL P md ops Q S z fuel (listed.setIfInBounds i true) a' w)(hi:ops[i]? =some oi:=by rfl)(hz:(i != z&&ks.contains z&&ks.all (fun k=>(i :: ks).any (waits md ops k))&&ks.all (fun k=> !listed.getD k false))=true:=by kernel_rfl)
  (hs:Region.noSelect ops=true:=by kernel_rfl) (hf:Region.free md ops listed i=true:=by kernel_rfl) (hr:(Region.ready md ops listed).contains i=true:=by kernel_rfl)
  (hw:Region.wanted oi (yielded ops a.tmps)=true:=by rfl)
  (hy:∀w,w.cell? ⟨g,o,none⟩=some u→(execOp a.eval oi).run P w= .ok (.value v) w:=by(intro w c0;go_simp;try with_reducible rfl))
  (hQ:∀c a w,Q (.panic c) (a.put oi.dst v) w→Q (.panic c) a w:=by exact fun _ _ _ h=>h) (ha:a.put oi.dst v=a':=by((try simp only[Act.put,lay]);exact rfl)):wpAnyL P md ops Q S z (fuel+1) listed a w:=
 last_takeC ks hi hz hs hf hr hQ (Or.inl ⟨hw,fun w k=>hy w (hc w k)⟩) hS (ha▸h)
theorem ll (i o n:Nat){b:Nat}{l cs:List Value}{t:TypeId}{fr:Nat×Nat}(hc:∀w,S w→w.heap[b]? =some (.cells l.toArray t fr))(hS:S w){ty:TypeId}{d:TypeDesc}(hu:P.underlying ty=some d){oi:Oper}{x:Operand}(h:wpAnyL P md ops Q S z fuel (listed.setIfInBounds i true) a' w)(hl:(l.drop o).take n=cs:=by((simp only[List.drop_succ_cons,List.drop_zero,List.take_succ_cons,List.take_zero]);exact rfl))(hcs:n=cs.length:=by rfl)(hi:ops[i]? =some oi:=by rfl)(hz:(i != z&&waits md ops z i&& !listed.getD z false)=true:=by kernel_rfl)
  (hs:Region.noSelect ops=true:=by kernel_rfl) (hf:Region.free md ops listed i=true:=by kernel_rfl) (hr:(Region.ready md ops listed).contains i=true:=by kernel_rfl)
  (hw:Region.wanted oi (yielded ops a.tmps)=true:=by rfl)
  (ho:oi.op= .load ty x:=by rfl) (hx:a.eval x= .pointer (some ⟨b,o,none⟩):=by rfl) (hd:d.isRow=true:=by rfl) (hn:(P.info? ty).map (·.size)=some cs.length:=by kernel_rfl)
  (hQ:∀c a w,Q (.panic c) (a.put oi.dst (.agg cs.toArray)) w→Q (.panic c) a w:=by exact fun _ _ _ h=>h) (ha:a.put oi.dst (.agg cs.toArray)=a':=by((try simp only[Act.put,lay]);exact rfl)):wpAnyL P md ops Q S z (fuel+1) listed a w:=
 last_take hi hz hs hf hr hQ (yieldsIf_load_mid hw ty x ho b o hx cs d (fun w k=>range_at (hc w k) o cs (by subst hcs;rw[hl])) hu hd hn) hS (ha▸h)
theorem ld (i:Nat){oi:Oper}(h:∀K:Act→World→Prop,Shut (∀a' w',((listed.setIfInBounds i true).getD z false=true∨S w')→wpAnyL P md ops Q S z fuel (listed.setIfInBounds i true) a' w'→K a' w')→if Region.wanted oi (yielded ops a.tmps)=true then Oper.wp P oi a w K Q else K (a.put oi.dst undef) w)(hr:Region.ready md ops listed= [i]:=by kernel_rfl)(hi:ops[i]? =some oi:=by rfl):wpAnyL P md ops Q S z (fuel+1) listed a w:=
 last_ready hr (by simp) (AllL.cons hi h AllL.nil)
theorem b_ {K:Act→World→Prop}(hK:Shut (∀a w,(listed.getD z false=true∨S w)→wpAnyL P md ops Q S z fuel listed a w→K a w))(hs:listed.getD z false=true∨S w)(h:wpAnyL P md ops Q S z fuel listed a' w)(ha:a=a':=by((try simp only[Act.put,lay]);exact rfl)):K a w:=hK.out _ _ hs (ha▸h)
theorem dl (h:Q .normal a w)(hr:Region.ready md ops listed= []:=by kernel_rfl):wpAnyL P md ops Q S z fuel listed a w:=last_done hr h _
end
def sq (a b:ByteArray):Bool:=a.toList==b.toList
theorem cell_new' (w:World)(cs:Array Value)(t:TypeId)(b j:Nat)(u:Value)(hb:b=w.heap.size)(h:cs[j]? =some u):(w.alloc (.cells cs t)).cell? ⟨b,j,none⟩=some u:=by
 subst hb
 rw[World.cell?_alloc_new]
 exact h
theorem bcell {W w1:World}(hb:Below W.heap.size W w1):(∀b o,b<W.heap.size→w1.cell? ⟨b,o,none⟩=W.cell? ⟨b,o,none⟩)∧(∀b o,b<W.heap.size→w1.frozen? ⟨b,o,none⟩=W.frozen? ⟨b,o,none⟩):=
 ⟨fun b o h=>hb.cell (p:=⟨b,o,none⟩) h,fun b o h=>hb.frozen (p:=⟨b,o,none⟩) h⟩
theorem disk_at1 (a b c name:ByteArray)(B:Nat)(w:World)(h:w.cell? ⟨B,0,none⟩=some (.string name)):
  Calls Tryz.prog 147 #[.agg #[.string a,.string b,.string c],.pointer (some ⟨B,0,none⟩)] w fun e w'=>e= .returned (.bool (sq a name))∧Below w.heap.size w w':=by
 have lB:B<w.heap.size:=World.block_lt_of_cell? w ⟨B,0,none⟩ h
 have nB:B≠w.heap.size:=Nat.ne_of_lt lB
 go_enter Tryz.func147,Tryz.ntmps147
 go_wp2
 go_ret
 exact⟨rfl,one _ _⟩
theorem disk_at (v:Value)(l:List Fl)(room:Int)(name:ByteArray)(w:World)(h:Rs tyFl 129 w v l)(hl:l.length≤100000):
  Calls Tryz.prog 90 #[.agg #[v,.int .i64 room,.int .i64 (-1),.bool false],.string name] w fun e w'=>e= .returned (.int .i64 (idx (fun x=>sq x.name name) l 0))∧Below w.heap.size w w':=by
 have HR:=h_ h
 have HL:=h_ hl
 clear h hl
 go_enter Tryz.func90,Tryz.ntmps90
 go_wp2_with fail
 refine(index_disk_at1 v l (fun x=>sq x.name name) (w.heap.size+1) _ (HR.out.below (two _ _ _)) HL.out (fun x W _ hb=>disk_at1 x.name x.safe x.wait name _ W (pw_cell_below hb (cell_new' _ _ _ _ _ _ (by simp) rfl)))).mono ?_
 rintro e w1 ⟨rfl,hb1⟩
 have HB1:=h_ hb1
 clear hb1
 go_wp2
 go_ret
 exact⟨rfl,(two _ _ _).trans (HB1.out.mono (by simp;omega))⟩
theorem disk_find_miss (v:Value)(l:List Fl)(room:Int)(name:ByteArray)(w:World)(h:Rs tyFl 129 w v l)(hl:l.length≤100000)(hx:idx (fun x=>sq x.name name) l 0= -1):
  Calls Tryz.prog 49 #[.agg #[v,.int .i64 room,.int .i64 (-1),.bool false],.string name] w fun e w'=>e= .returned (.tuple #[.agg #[.string ⟨#[]⟩,.string ⟨#[]⟩,.string ⟨#[]⟩],.bool false])∧Below w.heap.size w w':=by
 have HR:=h_ h
 have HL:=h_ hl
 have HX:=h_ hx
 clear h hl hx
 go_enter Tryz.func49,Tryz.ntmps49
 go_wp2_with fail
 refine(disk_at v l room name _ (HR.out.below (two _ _ _)) HL.out).mono ?_
 rintro e w1 ⟨rfl,hb1⟩
 rw[HX.out]
 have HB1:=h_ hb1
 obtain⟨hc,hf⟩:=bcell hb1
 clear hb1
 go_wp2
 refine bodyPost_ret (v:= .tuple #[.agg #[.string ⟨#[]⟩,.string ⟨#[]⟩,.string ⟨#[]⟩],.bool false]) (by simp[results,Tryz.results49,go_sem,hc]) rfl ⟨rfl,?_⟩
 repeat refine Below.setCell ?_ (by simp) _
 exact(two _ _ _).trans (HB1.out.mono (by simp;omega))
theorem disk_find_hit (v:Value)(l:List Fl)(room:Int)(name:ByteArray)(i:Nat)(x:Fl)(w:World)(h:Rs tyFl 129 w v l)(hl:l.length≤100000)(hi:l[i]? =some x)(hx:idx (fun x=>sq x.name name) l 0=i):
  Calls Tryz.prog 49 #[.agg #[v,.int .i64 room,.int .i64 (-1),.bool false],.string name] w fun e w'=>e= .returned (.tuple #[.agg #[.string x.name,.string x.safe,.string x.wait],.bool true])∧Below w.heap.size w w':=by
 obtain⟨hi,hxe⟩:=List.getElem?_eq_some_iff.1 hi
 have HE:=h_ hxe
 clear hxe
 obtain⟨A,c,rfl,hc,-⟩:=at_Fl h
 have HR:=h_ h
 have HL:=h_ hl
 have HX:=h_ hx
 have HI:=h_ hi
 clear h hl hx
 go_enter Tryz.func49,Tryz.ntmps49
 go_wp2_with fail
 refine(disk_at _ l room name _ (HR.out.below (two _ _ _)) HL.out).mono ?_
 rintro e w1 ⟨rfl,hb1⟩
 rw[HX.out]
 have HB1:=h_ hb1
 have HB2:=h_ ((two w _ _).trans (hb1.mono (by simp;omega)))
 obtain⟨A',c',e1,_,hat⟩:=at_Fl (HR.out.below HB2.out)
 cases e1
 obtain⟨ad,e2,hx0,hx1,hx2⟩:=hat i HI.out
 subst e2
 clear hat
 have hp:((0:Int)≤(i:Int))=True:=eq_true (by omega)
 have hq:((i:Int)<(l.length:Int))=True:=eq_true (by have:=HI.out;omega)
 have hi40:(i:Int)≤100000:=by have:=HL.out;have:=HI.out;omega
 rw[HE.out] at hx0 hx1 hx2
 obtain⟨hc,hf⟩:=bcell hb1
 clear hb1
 go_wp2
 refine bodyPost_ret (v:= .tuple #[.agg #[.string x.name,.string x.safe,.string x.wait],.bool true]) (by simp[results,Tryz.results49,go_sem,hc]) rfl ⟨rfl,?_⟩
 repeat refine Below.setCell ?_ (by simp) _
 exact HB2.out
end Go.Proofs.YtmgmdiekpmffbaaGreatDoor.Top
