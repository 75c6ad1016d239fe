/- Facts about the program of this claim that its symbolic execution reckons with; printed by a program of ours. -/
import Derived.Test.YtmjgfoeonnbkpaaDxW
import Derived.Test.YtmjgfoeonnbkpaaProg
namespace Go.Proofs.Try
open Go.Dx Go.RowKit

/-- int -/
@[go_sem] theorem ty3 : ty Try.prog 3 = some ⟨1, false, .int .i64⟩ := by kernel_rfl
/-- bool -/
@[go_sem] theorem ty4 : ty Try.prog 4 = some ⟨1, false, .bool⟩ := by kernel_rfl
/-- uint8 -/
@[go_sem] theorem ty5 : ty Try.prog 5 = some ⟨1, false, .int .u8⟩ := by kernel_rfl
/-- abi.BoundsErrorCode -/
@[go_sem] theorem ty6 : ty Try.prog 6 = some ⟨1, false, .int .u8⟩ := by kernel_rfl
/-- struct { x int64; y int; signed bool; code abi.BoundsErrorCode } -/
@[go_sem] theorem ty7 : ty Try.prog 7 = some ⟨4, true, .st [(0, 1, false), (1, 1, false), (2, 1, false), (3, 1, false)]⟩ := by kernel_rfl
/-- string -/
@[go_sem] theorem ty9 : ty Try.prog 9 = some ⟨1, false, .str⟩ := by kernel_rfl
/-- runtime.errorString -/
@[go_sem] theorem ty10 : ty Try.prog 10 = some ⟨1, false, .str⟩ := by kernel_rfl
/-- *abi.Type -/
@[go_sem] theorem ty17 : ty Try.prog 17 = some ⟨1, false, .ptr 147⟩ := by kernel_rfl
/-- interface {} -/
@[go_sem] theorem ty20 : ty Try.prog 20 = some ⟨1, false, .iface 0⟩ := by kernel_rfl
/-- []dioptraref07.Place -/
@[go_sem] theorem ty22 : ty Try.prog 22 = some ⟨1, false, .slice 36 9 48⟩ := by kernel_rfl
/-- uint32 -/
@[go_sem] theorem ty23 : ty Try.prog 23 = some ⟨1, false, .int .u32⟩ := by kernel_rfl
/-- func() bool -/
@[go_sem] theorem ty24 : ty Try.prog 24 = some ⟨1, false, .fn⟩ := by kernel_rfl
/-- [4]uint32 -/
@[go_sem] theorem ty25 : ty Try.prog 25 = some ⟨4, true, .arr 4 23 1 false⟩ := by kernel_rfl
/-- page.Page -/
@[go_sem] theorem ty27 : ty Try.prog 27 = some ⟨7, true, .st [(0, 1, false), (1, 1, false), (2, 1, false), (3, 4, true)]⟩ := by kernel_rfl
/-- latest.Place -/
@[go_sem] theorem ty29 : ty Try.prog 29 = some ⟨9, true, .st [(0, 1, false), (1, 1, false), (2, 7, true)]⟩ := by kernel_rfl
-- type 30: (latest.Place, bool): none
/-- []latest.Place -/
@[go_sem] theorem ty32 : ty Try.prog 32 = some ⟨1, false, .slice 29 9 48⟩ := by kernel_rfl
/-- dioptraref04.Page -/
@[go_sem] theorem ty34 : ty Try.prog 34 = some ⟨7, true, .st [(0, 1, false), (1, 1, false), (2, 1, false), (3, 4, true)]⟩ := by kernel_rfl
/-- dioptraref07.Place -/
@[go_sem] theorem ty36 : ty Try.prog 36 = some ⟨9, true, .st [(0, 1, false), (1, 1, false), (2, 7, true)]⟩ := by kernel_rfl
-- type 37: (dioptraref07.Place, bool): none
/-- []dioptraref06.Block -/
@[go_sem] theorem ty41 : ty Try.prog 41 = some ⟨1, false, .slice 48 66 304⟩ := by kernel_rfl
/-- []scan.Block -/
@[go_sem] theorem ty43 : ty Try.prog 43 = some ⟨1, false, .slice 55 66 304⟩ := by kernel_rfl
/-- [8]int -/
@[go_sem] theorem ty45 : ty Try.prog 45 = some ⟨8, true, .arr 8 3 1 false⟩ := by kernel_rfl
/-- [8]dioptraref04.Page -/
@[go_sem] theorem ty46 : ty Try.prog 46 = some ⟨56, true, .arr 8 34 7 true⟩ := by kernel_rfl
/-- dioptraref06.Block -/
@[go_sem] theorem ty48 : ty Try.prog 48 = some ⟨66, true, .st [(0, 1, false), (1, 1, false), (2, 8, true), (10, 56, true)]⟩ := by kernel_rfl
/-- map[uint32]int -/
@[go_sem] theorem ty51 : ty Try.prog 51 = some ⟨1, false, .map 23 3⟩ := by kernel_rfl
/-- [8]page.Page -/
@[go_sem] theorem ty53 : ty Try.prog 53 = some ⟨56, true, .arr 8 27 7 true⟩ := by kernel_rfl
/-- scan.Block -/
@[go_sem] theorem ty55 : ty Try.prog 55 = some ⟨66, true, .st [(0, 1, false), (1, 1, false), (2, 8, true), (10, 56, true)]⟩ := by kernel_rfl
/-- api.Errno -/
@[go_sem] theorem ty59 : ty Try.prog 59 = some ⟨1, false, .int .i64⟩ := by kernel_rfl
-- type 60: ([]scan.Block, api.Errno): none
/-- []uint32 -/
@[go_sem] theorem ty62 : ty Try.prog 62 = some ⟨1, false, .slice 23 1 4⟩ := by kernel_rfl
/-- []dioptraref04.Page -/
@[go_sem] theorem ty64 : ty Try.prog 64 = some ⟨1, false, .slice 34 7 28⟩ := by kernel_rfl
/-- [][]dioptraref04.Page -/
@[go_sem] theorem ty65 : ty Try.prog 65 = some ⟨1, false, .slice 64 1 24⟩ := by kernel_rfl
/-- func(latest.Place) bool -/
@[go_sem] theorem ty67 : ty Try.prog 67 = some ⟨1, false, .fn⟩ := by kernel_rfl
/-- func(func(latest.Place) bool) -/
@[go_sem] theorem ty69 : ty Try.prog 69 = some ⟨1, false, .fn⟩ := by kernel_rfl
/-- iter.Seq[dioptra/latest.Place] -/
@[go_sem] theorem ty70 : ty Try.prog 70 = some ⟨1, false, .fn⟩ := by kernel_rfl
/-- func(latest.Place, latest.Place) int -/
@[go_sem] theorem ty72 : ty Try.prog 72 = some ⟨1, false, .fn⟩ := by kernel_rfl
/-- func(latest.Place, latest.Place) bool -/
@[go_sem] theorem ty75 : ty Try.prog 75 = some ⟨1, false, .fn⟩ := by kernel_rfl
/-- func(func([]uint32) bool) -/
@[go_sem] theorem ty76 : ty Try.prog 76 = some ⟨1, false, .fn⟩ := by kernel_rfl
/-- iter.Seq[[]uint32] -/
@[go_sem] theorem ty77 : ty Try.prog 77 = some ⟨1, false, .fn⟩ := by kernel_rfl
/-- func([]uint32) bool -/
@[go_sem] theorem ty88 : ty Try.prog 88 = some ⟨1, false, .fn⟩ := by kernel_rfl
-- type 89: (uint32, int): none
/-- func(func(int, []uint32) bool) -/
@[go_sem] theorem ty91 : ty Try.prog 91 = some ⟨1, false, .fn⟩ := by kernel_rfl
/-- iter.Seq2[int,[]uint32] -/
@[go_sem] theorem ty92 : ty Try.prog 92 = some ⟨1, false, .fn⟩ := by kernel_rfl
-- type 94: (page.Page, int): none
/-- uint -/
@[go_sem] theorem ty99 : ty Try.prog 99 = some ⟨1, false, .int .u64⟩ := by kernel_rfl
/-- []int -/
@[go_sem] theorem ty100 : ty Try.prog 100 = some ⟨1, false, .slice 3 1 8⟩ := by kernel_rfl
/-- func(uint32) bool -/
@[go_sem] theorem ty101 : ty Try.prog 101 = some ⟨1, false, .fn⟩ := by kernel_rfl
/-- func(int, []uint32) bool -/
@[go_sem] theorem ty104 : ty Try.prog 104 = some ⟨1, false, .fn⟩ := by kernel_rfl
/-- slices.sortedHint -/
@[go_sem] theorem ty107 : ty Try.prog 107 = some ⟨1, false, .int .i64⟩ := by kernel_rfl
-- type 108: (int, slices.sortedHint): none
-- type 112: (int, bool): none
/-- uint64 -/
@[go_sem] theorem ty116 : ty Try.prog 116 = some ⟨1, false, .int .u64⟩ := by kernel_rfl
/-- slices.xorshift -/
@[go_sem] theorem ty121 : ty Try.prog 121 = some ⟨1, false, .int .u64⟩ := by kernel_rfl
/-- *int -/
@[go_sem] theorem ty125 : ty Try.prog 125 = some ⟨1, false, .ptr 3⟩ := by kernel_rfl
/-- [][]uint32 -/
@[go_sem] theorem ty128 : ty Try.prog 128 = some ⟨1, false, .slice 62 1 24⟩ := by kernel_rfl
/-- *slices.xorshift -/
@[go_sem] theorem ty130 : ty Try.prog 130 = some ⟨1, false, .ptr 121⟩ := by kernel_rfl
-- type 131: (int, int): none
@[go_sem] theorem zv3 : zv Try.prog 3 = some [.v (.int .i64 0)] := by kernel_rfl
@[go_sem] theorem zv23 : zv Try.prog 23 = some [.v (.int .u32 0)] := by kernel_rfl
@[go_sem] theorem zv25 : zv Try.prog 25 = some [.v (.int .u32 0), .v (.int .u32 0), .v (.int .u32 0), .v (.int .u32 0)] := by kernel_rfl
@[go_sem] theorem zv27 : zv Try.prog 27 = some [.v (.int .u32 0), .v (.int .u32 0), .v (.bool false), .v (.int .u32 0), .v (.int .u32 0), .v (.int .u32 0), .v (.int .u32 0)] := by kernel_rfl
@[go_sem] theorem zv29 : zv Try.prog 29 = some [.v (.int .i64 0), .v (.int .i64 0), .v (.int .u32 0), .v (.int .u32 0), .v (.bool false), .v (.int .u32 0), .v (.int .u32 0), .v (.int .u32 0), .v (.int .u32 0)] := by kernel_rfl
@[go_sem] theorem zv32 : zv Try.prog 32 = some [.v (.slice none 0 0)] := by kernel_rfl
@[go_sem] theorem zv34 : zv Try.prog 34 = some [.v (.int .u32 0), .v (.int .u32 0), .v (.bool false), .v (.int .u32 0), .v (.int .u32 0), .v (.int .u32 0), .v (.int .u32 0)] := by kernel_rfl
@[go_sem] theorem zv36 : zv Try.prog 36 = some [.v (.int .i64 0), .v (.int .i64 0), .v (.int .u32 0), .v (.int .u32 0), .v (.bool false), .v (.int .u32 0), .v (.int .u32 0), .v (.int .u32 0), .v (.int .u32 0)] := by kernel_rfl
@[go_sem] theorem zv43 : zv Try.prog 43 = some [.v (.slice none 0 0)] := by kernel_rfl
@[go_sem] theorem zv48 : zv Try.prog 48 = some [.v (.int .i64 0), .v (.int .u32 0), .v (.int .i64 0), .v (.int .i64 0), .v (.int .i64 0), .v (.int .i64 0), .v (.int .i64 0), .v (.int .i64 0), .v (.int .i64 0), .v (.int .i64 0), .v (.int .u32 0), .v (.int .u32 0), .v (.bool false), .v (.int .u32 0), .v (.int .u32 0), .v (.int .u32 0), .v (.int .u32 0), .v (.int .u32 0), .v (.int .u32 0), .v (.bool false), .v (.int .u32 0), .v (.int .u32 0), .v (.int .u32 0), .v (.int .u32 0), .v (.int .u32 0), .v (.int .u32 0), .v (.bool false), .v (.int .u32 0), .v (.int .u32 0), .v (.int .u32 0), .v (.int .u32 0), .v (.int .u32 0), .v (.int .u32 0), .v (.bool false), .v (.int .u32 0), .v (.int .u32 0), .v (.int .u32 0), .v (.int .u32 0), .v (.int .u32 0), .v (.int .u32 0), .v (.bool false), .v (.int .u32 0), .v (.int .u32 0), .v (.int .u32 0), .v (.int .u32 0), .v (.int .u32 0), .v (.int .u32 0), .v (.bool false), .v (.int .u32 0), .v (.int .u32 0), .v (.int .u32 0), .v (.int .u32 0), .v (.int .u32 0), .v (.int .u32 0), .v (.bool false), .v (.int .u32 0), .v (.int .u32 0), .v (.int .u32 0), .v (.int .u32 0), .v (.int .u32 0), .v (.int .u32 0), .v (.bool false), .v (.int .u32 0), .v (.int .u32 0), .v (.int .u32 0), .v (.int .u32 0)] := by kernel_rfl
@[go_sem] theorem zv55 : zv Try.prog 55 = some [.v (.int .i64 0), .v (.int .u32 0), .v (.int .i64 0), .v (.int .i64 0), .v (.int .i64 0), .v (.int .i64 0), .v (.int .i64 0), .v (.int .i64 0), .v (.int .i64 0), .v (.int .i64 0), .v (.int .u32 0), .v (.int .u32 0), .v (.bool false), .v (.int .u32 0), .v (.int .u32 0), .v (.int .u32 0), .v (.int .u32 0), .v (.int .u32 0), .v (.int .u32 0), .v (.bool false), .v (.int .u32 0), .v (.int .u32 0), .v (.int .u32 0), .v (.int .u32 0), .v (.int .u32 0), .v (.int .u32 0), .v (.bool false), .v (.int .u32 0), .v (.int .u32 0), .v (.int .u32 0), .v (.int .u32 0), .v (.int .u32 0), .v (.int .u32 0), .v (.bool false), .v (.int .u32 0), .v (.int .u32 0), .v (.int .u32 0), .v (.int .u32 0), .v (.int .u32 0), .v (.int .u32 0), .v (.bool false), .v (.int .u32 0), .v (.int .u32 0), .v (.int .u32 0), .v (.int .u32 0), .v (.int .u32 0), .v (.int .u32 0), .v (.bool false), .v (.int .u32 0), .v (.int .u32 0), .v (.int .u32 0), .v (.int .u32 0), .v (.int .u32 0), .v (.int .u32 0), .v (.bool false), .v (.int .u32 0), .v (.int .u32 0), .v (.int .u32 0), .v (.int .u32 0), .v (.int .u32 0), .v (.int .u32 0), .v (.bool false), .v (.int .u32 0), .v (.int .u32 0), .v (.int .u32 0), .v (.int .u32 0)] := by kernel_rfl
@[go_sem] theorem zv62 : zv Try.prog 62 = some [.v (.slice none 0 0)] := by kernel_rfl
@[go_sem] theorem zv64 : zv Try.prog 64 = some [.v (.slice none 0 0)] := by kernel_rfl
@[go_sem] theorem zv121 : zv Try.prog 121 = some [.v (.int .u64 0)] := by kernel_rfl
theorem fl25 : flat Try.prog 20 25 = some [.i .u32, .i .u32, .i .u32, .i .u32] := by kernel_rfl
theorem so25 : szOf Try.prog 25 = some (4, 16, true) := by kernel_rfl
@[go_sem] theorem eg25 : Try.prog.eqGuardType Try.prog.depth 25 = false := by kernel_rfl
theorem fl29 : flat Try.prog 20 29 = some [.i .i64, .i .i64, .i .u32, .i .u32, .b, .i .u32, .i .u32, .i .u32, .i .u32] := by kernel_rfl
theorem so29 : szOf Try.prog 29 = some (9, 48, true) := by kernel_rfl
@[go_sem] theorem eg29 : Try.prog.eqGuardType Try.prog.depth 29 = false := by kernel_rfl
theorem fl34 : flat Try.prog 20 34 = some [.i .u32, .i .u32, .b, .i .u32, .i .u32, .i .u32, .i .u32] := by kernel_rfl
theorem so34 : szOf Try.prog 34 = some (7, 28, true) := by kernel_rfl
@[go_sem] theorem eg34 : Try.prog.eqGuardType Try.prog.depth 34 = false := by kernel_rfl
theorem fl36 : flat Try.prog 20 36 = some [.i .i64, .i .i64, .i .u32, .i .u32, .b, .i .u32, .i .u32, .i .u32, .i .u32] := by kernel_rfl
theorem so36 : szOf Try.prog 36 = some (9, 48, true) := by kernel_rfl
@[go_sem] theorem eg36 : Try.prog.eqGuardType Try.prog.depth 36 = false := by kernel_rfl
/-- gosem.cut.init -/
@[go_sem] theorem ent2 : ent Try.prog 2 = true := by kernel_rfl
/-- dioptra/dioptralaw07.LatestFinds -/
@[go_sem] theorem ent3 : ent Try.prog 3 = true := by kernel_rfl
/-- dioptra/dioptralaw07.LatestGreatest -/
@[go_sem] theorem ent4 : ent Try.prog 4 = true := by kernel_rfl
/-- dioptra/dioptralaw07.LatestLost -/
@[go_sem] theorem ent5 : ent Try.prog 5 = true := by kernel_rfl
/-- dioptra/dioptralaw07.LatestNone -/
@[go_sem] theorem ent6 : ent Try.prog 6 = true := by kernel_rfl
/-- dioptra/dioptralaw07.LatestAdds -/
@[go_sem] theorem ent7 : ent Try.prog 7 = true := by kernel_rfl
/-- dioptra/dioptralaw07.alive -/
@[go_sem] theorem ent8 : ent Try.prog 8 = true := by kernel_rfl
/-- dioptra/latest.Find -/
@[go_sem] theorem ent9 : ent Try.prog 9 = true := by kernel_rfl
/-- dioptra/dioptralaw07.theirs -/
@[go_sem] theorem ent10 : ent Try.prog 10 = true := by kernel_rfl
/-- dioptra/dioptraref07.Find -/
@[go_sem] theorem ent11 : ent Try.prog 11 = true := by kernel_rfl
/-- dioptra/dioptralaw07.ours -/
@[go_sem] theorem ent12 : ent Try.prog 12 = true := by kernel_rfl
/-- dioptra/latest.Of -/
@[go_sem] theorem ent13 : ent Try.prog 13 = true := by kernel_rfl
/-- dioptra/dioptralaw06.Theirs -/
@[go_sem] theorem ent14 : ent Try.prog 14 = true := by kernel_rfl
/-- dioptra/latest.Top -/
@[go_sem] theorem ent15 : ent Try.prog 15 = true := by kernel_rfl
/-- dioptra/latest.Needed -/
@[go_sem] theorem ent16 : ent Try.prog 16 = true := by kernel_rfl
/-- dioptra/scan.Words -/
@[go_sem] theorem ent17 : ent Try.prog 17 = true := by kernel_rfl
/-- dioptra/dioptralaw06.Built -/
@[go_sem] theorem ent18 : ent Try.prog 18 = true := by kernel_rfl
/-- slices.IndexFunc[[]dioptra/latest.Place,dioptra/latest.Place] -/
@[go_sem] theorem ent19 : ent Try.prog 19 = true := by kernel_rfl
/-- dioptra/latest.Find$1 -/
@[go_sem] theorem ent20 : ent Try.prog 20 = true := by kernel_rfl
/-- slices.SortedFunc[dioptra/latest.Place] -/
@[go_sem] theorem ent21 : ent Try.prog 21 = true := by kernel_rfl
/-- dioptra/latest.all -/
@[go_sem] theorem ent22 : ent Try.prog 22 = true := by kernel_rfl
/-- (dioptra/latest.Place).compare -/
@[go_sem] theorem ent23 : ent Try.prog 23 = true := by kernel_rfl
/-- slices.CompactFunc[[]dioptra/latest.Place,dioptra/latest.Place] -/
@[go_sem] theorem ent24 : ent Try.prog 24 = true := by kernel_rfl
/-- dioptra/latest.Of$1 -/
@[go_sem] theorem ent25 : ent Try.prog 25 = true := by kernel_rfl
/-- (dioptra/latest.Place).stands -/
@[go_sem] theorem ent26 : ent Try.prog 26 = true := by kernel_rfl
/-- slices.Chunk[[]uint32,uint32] -/
@[go_sem] theorem ent27 : ent Try.prog 27 = true := by kernel_rfl
/-- dioptra/scan.found -/
@[go_sem] theorem ent28 : ent Try.prog 28 = true := by kernel_rfl
/-- dioptra/dioptraref04.Header -/
@[go_sem] theorem ent29 : ent Try.prog 29 = true := by kernel_rfl
/-- dioptra/dioptraref04.Right -/
@[go_sem] theorem ent30 : ent Try.prog 30 = true := by kernel_rfl
/-- dioptra/dioptraref04.Words -/
@[go_sem] theorem ent31 : ent Try.prog 31 = true := by kernel_rfl
/-- slices.Collect[dioptra/latest.Place] -/
@[go_sem] theorem ent32 : ent Try.prog 32 = true := by kernel_rfl
/-- slices.SortFunc[[]dioptra/latest.Place,dioptra/latest.Place] -/
@[go_sem] theorem ent33 : ent Try.prog 33 = true := by kernel_rfl
/-- dioptra/latest.all$1 -/
@[go_sem] theorem ent34 : ent Try.prog 34 = true := by kernel_rfl
/-- cmp.Or[int] -/
@[go_sem] theorem ent35 : ent Try.prog 35 = true := by kernel_rfl
/-- cmp.Compare[uint32] -/
@[go_sem] theorem ent36 : ent Try.prog 36 = true := by kernel_rfl
/-- cmp.Compare[int] -/
@[go_sem] theorem ent37 : ent Try.prog 37 = true := by kernel_rfl
/-- slices.Chunk[[]uint32,uint32]$1 -/
@[go_sem] theorem ent38 : ent Try.prog 38 = true := by kernel_rfl
/-- dioptra/page.Count -/
@[go_sem] theorem ent39 : ent Try.prog 39 = true := by kernel_rfl
/-- dioptra/scan.pages -/
@[go_sem] theorem ent40 : ent Try.prog 40 = true := by kernel_rfl
/-- dioptra/page.Read -/
@[go_sem] theorem ent41 : ent Try.prog 41 = true := by kernel_rfl
/-- slices.AppendSeq[[]dioptra/latest.Place,dioptra/latest.Place] -/
@[go_sem] theorem ent42 : ent Try.prog 42 = true := by kernel_rfl
/-- slices.pdqsortCmpFunc[dioptra/latest.Place] -/
@[go_sem] theorem ent43 : ent Try.prog 43 = true := by kernel_rfl
/-- math/bits.Len -/
@[go_sem] theorem ent44 : ent Try.prog 44 = true := by kernel_rfl
/-- cmp.isNaN[uint32] -/
@[go_sem] theorem ent45 : ent Try.prog 45 = true := by kernel_rfl
/-- cmp.isNaN[int] -/
@[go_sem] theorem ent46 : ent Try.prog 46 = true := by kernel_rfl
/-- dioptra/page.kind -/
@[go_sem] theorem ent47 : ent Try.prog 47 = true := by kernel_rfl
/-- dioptra/page.Header -/
@[go_sem] theorem ent48 : ent Try.prog 48 = true := by kernel_rfl
/-- dioptra/scan.pages$1 -/
@[go_sem] theorem ent49 : ent Try.prog 49 = true := by kernel_rfl
/-- dioptra/page.At -/
@[go_sem] theorem ent50 : ent Try.prog 50 = true := by kernel_rfl
/-- dioptra/page.Words -/
@[go_sem] theorem ent51 : ent Try.prog 51 = true := by kernel_rfl
/-- slices.insertionSortCmpFunc[dioptra/latest.Place] -/
@[go_sem] theorem ent52 : ent Try.prog 52 = true := by kernel_rfl
/-- slices.heapSortCmpFunc[dioptra/latest.Place] -/
@[go_sem] theorem ent53 : ent Try.prog 53 = true := by kernel_rfl
/-- slices.breakPatternsCmpFunc[dioptra/latest.Place] -/
@[go_sem] theorem ent54 : ent Try.prog 54 = true := by kernel_rfl
/-- slices.choosePivotCmpFunc[dioptra/latest.Place] -/
@[go_sem] theorem ent55 : ent Try.prog 55 = true := by kernel_rfl
/-- slices.reverseRangeCmpFunc[dioptra/latest.Place] -/
@[go_sem] theorem ent56 : ent Try.prog 56 = true := by kernel_rfl
/-- slices.partialInsertionSortCmpFunc[dioptra/latest.Place] -/
@[go_sem] theorem ent57 : ent Try.prog 57 = true := by kernel_rfl
/-- slices.partitionEqualCmpFunc[dioptra/latest.Place] -/
@[go_sem] theorem ent58 : ent Try.prog 58 = true := by kernel_rfl
/-- slices.partitionCmpFunc[dioptra/latest.Place] -/
@[go_sem] theorem ent59 : ent Try.prog 59 = true := by kernel_rfl
/-- math/bits.Len32 -/
@[go_sem] theorem ent60 : ent Try.prog 60 = true := by kernel_rfl
/-- math/bits.Len64 -/
@[go_sem] theorem ent61 : ent Try.prog 61 = true := by kernel_rfl
/-- dioptra/page.kind$1 -/
@[go_sem] theorem ent62 : ent Try.prog 62 = true := by kernel_rfl
/-- slices.ContainsFunc[[]uint32,uint32] -/
@[go_sem] theorem ent63 : ent Try.prog 63 = true := by kernel_rfl
/-- slices.Equal[[]uint32,uint32] -/
@[go_sem] theorem ent64 : ent Try.prog 64 = true := by kernel_rfl
/-- dioptra/page.Right -/
@[go_sem] theorem ent65 : ent Try.prog 65 = true := by kernel_rfl
/-- slices.Concat[[]uint32,uint32] -/
@[go_sem] theorem ent66 : ent Try.prog 66 = true := by kernel_rfl
/-- slices.siftDownCmpFunc[dioptra/latest.Place] -/
@[go_sem] theorem ent67 : ent Try.prog 67 = true := by kernel_rfl
/-- slices.nextPowerOfTwo -/
@[go_sem] theorem ent68 : ent Try.prog 68 = true := by kernel_rfl
/-- (*slices.xorshift).Next -/
@[go_sem] theorem ent69 : ent Try.prog 69 = true := by kernel_rfl
/-- slices.medianAdjacentCmpFunc[dioptra/latest.Place] -/
@[go_sem] theorem ent70 : ent Try.prog 70 = true := by kernel_rfl
/-- slices.medianCmpFunc[dioptra/latest.Place] -/
@[go_sem] theorem ent71 : ent Try.prog 71 = true := by kernel_rfl
/-- slices.IndexFunc[[]uint32,uint32] -/
@[go_sem] theorem ent72 : ent Try.prog 72 = true := by kernel_rfl
/-- slices.Grow[[]uint32,uint32] -/
@[go_sem] theorem ent73 : ent Try.prog 73 = true := by kernel_rfl
/-- slices.order2CmpFunc[dioptra/latest.Place] -/
@[go_sem] theorem ent74 : ent Try.prog 74 = true := by kernel_rfl
@[go_sem] theorem mth29_dioptra_latest_compare : mth Try.prog 29 "dioptra/latest.compare" = some 23 := by kernel_rfl
@[go_sem] theorem mth29_dioptra_latest_stands : mth Try.prog 29 "dioptra/latest.stands" = some 26 := by kernel_rfl
@[go_sem] theorem mth130_Next : mth Try.prog 130 "Next" = some 69 := by kernel_rfl

theorem follows_mixed : Try.prog.follows .mixedOrders = true := by kernel_rfl

end Go.Proofs.Try
