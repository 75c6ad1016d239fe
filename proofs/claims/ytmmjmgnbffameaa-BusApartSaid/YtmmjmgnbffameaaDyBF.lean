/- Facts about the program of this claim that its symbolic execution reckons with; printed by a program of ours. -/
import Derived.Test.YtmmjmgnbffameaaDxP
import Derived.Test.YtmmjmgnbffameaaProg
namespace Go.Proofs.Try
open Go.Dx Go.RowKit

/-- int -/
@[go_sem] theorem ty3 : ty Try.prog 3 = some ⟨1, false, .int .i64⟩ := by kernel_rfl
/-- bool -/
@[go_sem] theorem ty4 : ty Try.prog 4 = some ⟨1, false, .bool⟩ := by kernel_rfl
/-- uint8 -/
@[go_sem] theorem ty5 : ty Try.prog 5 = some ⟨1, false, .int .u8⟩ := by kernel_rfl
/-- uint32 -/
@[go_sem] theorem ty22 : ty Try.prog 22 = some ⟨1, false, .int .u32⟩ := by kernel_rfl
/-- []uint32 -/
@[go_sem] theorem ty23 : ty Try.prog 23 = some ⟨1, false, .slice 22 1 4⟩ := by kernel_rfl
/-- dioptraref15.Ram -/
@[go_sem] theorem ty25 : ty Try.prog 25 = some ⟨2, true, .st [(0, 1, false), (1, 1, false)]⟩ := by kernel_rfl
/-- []dioptralaw16.Act -/
@[go_sem] theorem ty26 : ty Try.prog 26 = some ⟨1, false, .slice 33 4 24⟩ := by kernel_rfl
/-- *walk.Ram -/
@[go_sem] theorem ty28 : ty Try.prog 28 = some ⟨1, false, .ptr 29⟩ := by kernel_rfl
/-- walk.Ram -/
@[go_sem] theorem ty29 : ty Try.prog 29 = some ⟨2, true, .st [(0, 1, false), (1, 1, false)]⟩ := by kernel_rfl
/-- *bus.Bus -/
@[go_sem] theorem ty30 : ty Try.prog 30 = some ⟨1, false, .ptr 55⟩ := by kernel_rfl
/-- dioptralaw16.Act -/
@[go_sem] theorem ty33 : ty Try.prog 33 = some ⟨4, true, .st [(0, 1, false), (1, 1, false), (2, 1, false), (3, 1, false)]⟩ := by kernel_rfl
-- type 34: (uint32, int): none
-- type 38: (dioptraref15.Ram, int): none
/-- [4]uint8 -/
@[go_sem] theorem ty42 : ty Try.prog 42 = some ⟨4, true, .arr 4 5 1 false⟩ := by kernel_rfl
/-- uint -/
@[go_sem] theorem ty43 : ty Try.prog 43 = some ⟨1, false, .int .u64⟩ := by kernel_rfl
-- type 46: (uint32, bool): none
/-- *dioptralaw16.Log -/
@[go_sem] theorem ty50 : ty Try.prog 50 = some ⟨1, false, .ptr 52⟩ := by kernel_rfl
/-- dioptralaw16.Log -/
@[go_sem] theorem ty52 : ty Try.prog 52 = some ⟨2, true, .st [(0, 1, false), (1, 1, false)]⟩ := by kernel_rfl
/-- []bus.region -/
@[go_sem] theorem ty53 : ty Try.prog 53 = some ⟨1, false, .slice 68 3 32⟩ := by kernel_rfl
/-- bus.Bus -/
@[go_sem] theorem ty55 : ty Try.prog 55 = some ⟨2, true, .st [(0, 1, false), (1, 1, false)]⟩ := by kernel_rfl
/-- bus.Device -/
@[go_sem] theorem ty59 : ty Try.prog 59 = some ⟨1, false, .iface 2⟩ := by kernel_rfl
-- type 60: (bus.Device, uint32): none
/-- uint64 -/
@[go_sem] theorem ty65 : ty Try.prog 65 = some ⟨1, false, .int .u64⟩ := by kernel_rfl
/-- bus.region -/
@[go_sem] theorem ty68 : ty Try.prog 68 = some ⟨3, true, .st [(0, 1, false), (1, 1, false), (2, 1, false)]⟩ := by kernel_rfl
/-- *uint32 -/
@[go_sem] theorem ty69 : ty Try.prog 69 = some ⟨1, false, .ptr 22⟩ := by kernel_rfl
-- type 70: (*uint32, bool): none
@[go_sem] theorem zv22 : zv Try.prog 22 = some [.v (.int .u32 0)] := by kernel_rfl
@[go_sem] theorem zv25 : zv Try.prog 25 = some [.v (.int .u32 0), .v (.slice none 0 0)] := by kernel_rfl
@[go_sem] theorem zv29 : zv Try.prog 29 = some [.v (.int .u32 0), .v (.slice none 0 0)] := by kernel_rfl
@[go_sem] theorem zv33 : zv Try.prog 33 = some [.v (.int .u8 0), .v (.int .u32 0), .v (.int .i64 0), .v (.int .u32 0)] := by kernel_rfl
@[go_sem] theorem zv42 : zv Try.prog 42 = some [.v (.int .u8 0), .v (.int .u8 0), .v (.int .u8 0), .v (.int .u8 0)] := by kernel_rfl
@[go_sem] theorem zv52 : zv Try.prog 52 = some [.v (.slice none 0 0), .v (.int .u32 0)] := by kernel_rfl
@[go_sem] theorem zv55 : zv Try.prog 55 = some [.v (.pointer none), .v (.slice none 0 0)] := by kernel_rfl
@[go_sem] theorem zv68 : zv Try.prog 68 = some [.v .nilIface, .v (.int .u64 0), .v (.int .u64 0)] := by kernel_rfl
/-- gosem.cut.init -/
@[go_sem] theorem ent2 : ent Try.prog 2 = true := by kernel_rfl
/-- dioptra/dioptralaw16.BusMemory -/
@[go_sem] theorem ent3 : ent Try.prog 3 = true := by kernel_rfl
/-- dioptra/dioptralaw16.BusBytes -/
@[go_sem] theorem ent4 : ent Try.prog 4 = true := by kernel_rfl
/-- dioptra/dioptralaw16.BusApart -/
@[go_sem] theorem ent5 : ent Try.prog 5 = true := by kernel_rfl
/-- dioptra/dioptralaw16.alive -/
@[go_sem] theorem ent6 : ent Try.prog 6 = true := by kernel_rfl
/-- dioptra/bus.New -/
@[go_sem] theorem ent7 : ent Try.prog 7 = true := by kernel_rfl
/-- (*dioptra/bus.Bus).Load -/
@[go_sem] theorem ent8 : ent Try.prog 8 = true := by kernel_rfl
/-- dioptra/dioptraref16.Load -/
@[go_sem] theorem ent9 : ent Try.prog 9 = true := by kernel_rfl
/-- (*dioptra/bus.Bus).Store -/
@[go_sem] theorem ent10 : ent Try.prog 10 = true := by kernel_rfl
/-- dioptra/dioptraref16.Store -/
@[go_sem] theorem ent11 : ent Try.prog 11 = true := by kernel_rfl
/-- dioptra/dioptraref01.Words -/
@[go_sem] theorem ent12 : ent Try.prog 12 = true := by kernel_rfl
/-- (*dioptra/bus.Bus).Word -/
@[go_sem] theorem ent13 : ent Try.prog 13 = true := by kernel_rfl
/-- (*dioptra/bus.Bus).Put -/
@[go_sem] theorem ent14 : ent Try.prog 14 = true := by kernel_rfl
/-- (*dioptra/bus.Bus).Add -/
@[go_sem] theorem ent15 : ent Try.prog 15 = true := by kernel_rfl
/-- (*dioptra/bus.Bus).check -/
@[go_sem] theorem ent16 : ent Try.prog 16 = true := by kernel_rfl
/-- (*dioptra/walk.Ram).Word -/
@[go_sem] theorem ent17 : ent Try.prog 17 = true := by kernel_rfl
/-- dioptra/bits.Field -/
@[go_sem] theorem ent18 : ent Try.prog 18 = true := by kernel_rfl
/-- (*dioptra/bus.Bus).find -/
@[go_sem] theorem ent19 : ent Try.prog 19 = true := by kernel_rfl
/-- dioptra/dioptraref16.wrong -/
@[go_sem] theorem ent20 : ent Try.prog 20 = true := by kernel_rfl
/-- dioptra/dioptraref15.Word -/
@[go_sem] theorem ent21 : ent Try.prog 21 = true := by kernel_rfl
/-- dioptra/dioptraref01.Field -/
@[go_sem] theorem ent22 : ent Try.prog 22 = true := by kernel_rfl
/-- (*dioptra/walk.Ram).Put -/
@[go_sem] theorem ent23 : ent Try.prog 23 = true := by kernel_rfl
/-- dioptra/bits.Put -/
@[go_sem] theorem ent24 : ent Try.prog 24 = true := by kernel_rfl
/-- dioptra/dioptraref01.Put -/
@[go_sem] theorem ent25 : ent Try.prog 25 = true := by kernel_rfl
/-- (*dioptra/bus.Bus).good -/
@[go_sem] theorem ent26 : ent Try.prog 26 = true := by kernel_rfl
/-- dioptra/bus.apart -/
@[go_sem] theorem ent27 : ent Try.prog 27 = true := by kernel_rfl
/-- (*dioptra/walk.Ram).place -/
@[go_sem] theorem ent28 : ent Try.prog 28 = true := by kernel_rfl
/-- dioptra/bits.mask -/
@[go_sem] theorem ent29 : ent Try.prog 29 = true := by kernel_rfl
/-- dioptra/dioptraref15.place -/
@[go_sem] theorem ent30 : ent Try.prog 30 = true := by kernel_rfl
/-- dioptra/dioptraref01.set -/
@[go_sem] theorem ent31 : ent Try.prog 31 = true := by kernel_rfl
/-- dioptra/dioptraref01.bit -/
@[go_sem] theorem ent32 : ent Try.prog 32 = true := by kernel_rfl
/-- dioptra/dioptraref01.power -/
@[go_sem] theorem ent33 : ent Try.prog 33 = true := by kernel_rfl
/-- (*dioptra/dioptralaw16.Log).Get -/
@[go_sem] theorem ent49 : ent Try.prog 49 = true := by kernel_rfl
/-- (*dioptra/dioptralaw16.Log).Set -/
@[go_sem] theorem ent50 : ent Try.prog 50 = true := by kernel_rfl
@[go_sem] theorem mth28_Put : mth Try.prog 28 "Put" = some 23 := by kernel_rfl
@[go_sem] theorem mth28_Word : mth Try.prog 28 "Word" = some 17 := by kernel_rfl
@[go_sem] theorem mth28_dioptra_walk_place : mth Try.prog 28 "dioptra/walk.place" = some 28 := by kernel_rfl
@[go_sem] theorem mth30_Add : mth Try.prog 30 "Add" = some 15 := by kernel_rfl
@[go_sem] theorem mth30_Load : mth Try.prog 30 "Load" = some 8 := by kernel_rfl
@[go_sem] theorem mth30_Put : mth Try.prog 30 "Put" = some 14 := by kernel_rfl
@[go_sem] theorem mth30_Store : mth Try.prog 30 "Store" = some 10 := by kernel_rfl
@[go_sem] theorem mth30_Word : mth Try.prog 30 "Word" = some 13 := by kernel_rfl
@[go_sem] theorem mth30_dioptra_bus_check : mth Try.prog 30 "dioptra/bus.check" = some 16 := by kernel_rfl
@[go_sem] theorem mth30_dioptra_bus_find : mth Try.prog 30 "dioptra/bus.find" = some 19 := by kernel_rfl
@[go_sem] theorem mth30_dioptra_bus_good : mth Try.prog 30 "dioptra/bus.good" = some 26 := by kernel_rfl
@[go_sem] theorem mth50_Get : mth Try.prog 50 "Get" = some 49 := by kernel_rfl
@[go_sem] theorem mth50_Set : mth Try.prog 50 "Set" = some 50 := by kernel_rfl

theorem follows_mixed : Try.prog.follows .mixedOrders = true := by kernel_rfl

end Go.Proofs.Try
