/- Facts about the program of this claim that its symbolic execution reckons with; printed by a program of ours. -/
import Derived.Test.YtjljcinpmakhmaaDxS
import Derived.Test.YtjljcinpmakhmaaProg
namespace Go.Proofs.Try
open Go.Dx Go.RowKit

/-- int -/
@[go_sem] theorem ty3 : ty Try.prog 3 = some ⟨1, false, .int .i64⟩ := by kernel_rfl
/-- bool -/
@[go_sem] theorem ty4 : ty Try.prog 4 = some ⟨1, false, .bool⟩ := by kernel_rfl
/-- uint8 -/
@[go_sem] theorem ty5 : ty Try.prog 5 = some ⟨1, false, .int .u8⟩ := by kernel_rfl
/-- []dioptralaw10.Act -/
@[go_sem] theorem ty22 : ty Try.prog 22 = some ⟨1, false, .slice 49 3 24⟩ := by kernel_rfl
/-- *dioptralaw10.Memory -/
@[go_sem] theorem ty24 : ty Try.prog 24 = some ⟨1, false, .ptr 28⟩ := by kernel_rfl
/-- [][4]uint32 -/
@[go_sem] theorem ty25 : ty Try.prog 25 = some ⟨1, false, .slice 44 4 16⟩ := by kernel_rfl
/-- api.Errno -/
@[go_sem] theorem ty26 : ty Try.prog 26 = some ⟨1, false, .int .i64⟩ := by kernel_rfl
/-- dioptralaw10.Memory -/
@[go_sem] theorem ty28 : ty Try.prog 28 = some ⟨3, true, .st [(0, 1, false), (1, 1, false), (2, 1, false)]⟩ := by kernel_rfl
/-- *sector.Device -/
@[go_sem] theorem ty29 : ty Try.prog 29 = some ⟨1, false, .ptr 47⟩ := by kernel_rfl
/-- uint32 -/
@[go_sem] theorem ty31 : ty Try.prog 31 = some ⟨1, false, .int .u32⟩ := by kernel_rfl
/-- [16]uint32 -/
@[go_sem] theorem ty32 : ty Try.prog 32 = some ⟨16, true, .arr 16 31 1 false⟩ := by kernel_rfl
/-- dioptraref10.Device -/
@[go_sem] theorem ty34 : ty Try.prog 34 = some ⟨22, true, .st [(0, 1, false), (1, 1, false), (2, 1, false), (3, 1, false), (4, 16, true), (20, 1, false), (21, 1, false)]⟩ := by kernel_rfl
-- type 35: (dioptraref10.Device, bool): none
-- type 40: (uint32, api.Errno): none
/-- sector.Disk -/
@[go_sem] theorem ty43 : ty Try.prog 43 = some ⟨1, false, .iface 4⟩ := by kernel_rfl
/-- [4]uint32 -/
@[go_sem] theorem ty44 : ty Try.prog 44 = some ⟨4, true, .arr 4 31 1 false⟩ := by kernel_rfl
/-- [4][4]uint32 -/
@[go_sem] theorem ty45 : ty Try.prog 45 = some ⟨16, true, .arr 4 44 4 true⟩ := by kernel_rfl
/-- sector.Device -/
@[go_sem] theorem ty47 : ty Try.prog 47 = some ⟨22, true, .st [(0, 1, false), (1, 1, false), (2, 1, false), (3, 1, false), (4, 1, false), (5, 16, true), (21, 1, false)]⟩ := by kernel_rfl
/-- dioptralaw10.Act -/
@[go_sem] theorem ty49 : ty Try.prog 49 = some ⟨3, true, .st [(0, 1, false), (1, 1, false), (2, 1, false)]⟩ := by kernel_rfl
-- type 50: (dioptraref10.Device, uint32, int): none
-- type 52: (dioptraref10.Device, int): none
/-- *uint32 -/
@[go_sem] theorem ty55 : ty Try.prog 55 = some ⟨1, false, .ptr 31⟩ := by kernel_rfl
/-- uint -/
@[go_sem] theorem ty58 : ty Try.prog 58 = some ⟨1, false, .int .u64⟩ := by kernel_rfl
/-- *[4]uint32 -/
@[go_sem] theorem ty62 : ty Try.prog 62 = some ⟨1, false, .ptr 44⟩ := by kernel_rfl
/-- uint64 -/
@[go_sem] theorem ty63 : ty Try.prog 63 = some ⟨1, false, .int .u64⟩ := by kernel_rfl
-- type 67: ([4]uint32, api.Errno): none
@[go_sem] theorem zv28 : zv Try.prog 28 = some [.v (.slice none 0 0), .v (.int .i64 0), .v (.int .i64 0)] := by kernel_rfl
@[go_sem] theorem zv34 : zv Try.prog 34 = some [.v (.int .u32 0), .v (.int .u32 0), .v (.int .u32 0), .v (.int .u32 0), .v (.int .u32 0), .v (.int .u32 0), .v (.int .u32 0), .v (.int .u32 0), .v (.int .u32 0), .v (.int .u32 0), .v (.int .u32 0), .v (.int .u32 0), .v (.int .u32 0), .v (.int .u32 0), .v (.int .u32 0), .v (.int .u32 0), .v (.int .u32 0), .v (.int .u32 0), .v (.int .u32 0), .v (.int .u32 0), .v (.int .i64 0), .v (.slice none 0 0)] := by kernel_rfl
@[go_sem] theorem zv44 : zv Try.prog 44 = some [.v (.int .u32 0), .v (.int .u32 0), .v (.int .u32 0), .v (.int .u32 0)] := by kernel_rfl
@[go_sem] theorem zv47 : zv Try.prog 47 = some [.v .nilIface, .v (.int .u32 0), .v (.int .u32 0), .v (.int .u32 0), .v (.bool false), .v (.int .u32 0), .v (.int .u32 0), .v (.int .u32 0), .v (.int .u32 0), .v (.int .u32 0), .v (.int .u32 0), .v (.int .u32 0), .v (.int .u32 0), .v (.int .u32 0), .v (.int .u32 0), .v (.int .u32 0), .v (.int .u32 0), .v (.int .u32 0), .v (.int .u32 0), .v (.int .u32 0), .v (.int .u32 0), .v (.int .i64 0)] := by kernel_rfl
@[go_sem] theorem zv49 : zv Try.prog 49 = some [.v (.int .u8 0), .v (.int .i64 0), .v (.int .u32 0)] := by kernel_rfl
@[go_sem] theorem eg44 : Try.prog.eqGuardType Try.prog.depth 44 = false := by kernel_rfl
/-- gosem.cut.init -/
@[go_sem] theorem ent2 : ent Try.prog 2 = true := by kernel_rfl
/-- dioptra/dioptralaw10.SectorActs -/
@[go_sem] theorem ent3 : ent Try.prog 3 = true := by kernel_rfl
/-- dioptra/dioptralaw10.alive -/
@[go_sem] theorem ent4 : ent Try.prog 4 = true := by kernel_rfl
/-- dioptra/sector.New -/
@[go_sem] theorem ent5 : ent Try.prog 5 = true := by kernel_rfl
/-- dioptra/dioptralaw10.run -/
@[go_sem] theorem ent6 : ent Try.prog 6 = true := by kernel_rfl
/-- dioptra/dioptraref10.Same -/
@[go_sem] theorem ent7 : ent Try.prog 7 = true := by kernel_rfl
/-- (*dioptra/sector.Device).Set -/
@[go_sem] theorem ent8 : ent Try.prog 8 = true := by kernel_rfl
/-- (*dioptra/sector.Device).Up -/
@[go_sem] theorem ent9 : ent Try.prog 9 = true := by kernel_rfl
/-- (*dioptra/sector.Device).Get -/
@[go_sem] theorem ent10 : ent Try.prog 10 = true := by kernel_rfl
/-- dioptra/dioptraref10.Get -/
@[go_sem] theorem ent11 : ent Try.prog 11 = true := by kernel_rfl
/-- dioptra/dioptraref10.Set -/
@[go_sem] theorem ent12 : ent Try.prog 12 = true := by kernel_rfl
/-- (*dioptra/sector.Device).good -/
@[go_sem] theorem ent13 : ent Try.prog 13 = true := by kernel_rfl
/-- (*dioptra/sector.Device).command -/
@[go_sem] theorem ent14 : ent Try.prog 14 = true := by kernel_rfl
/-- (*dioptra/sector.Device).window -/
@[go_sem] theorem ent15 : ent Try.prog 15 = true := by kernel_rfl
/-- dioptra/sector.bit -/
@[go_sem] theorem ent16 : ent Try.prog 16 = true := by kernel_rfl
/-- dioptra/dioptraref10.command -/
@[go_sem] theorem ent17 : ent Try.prog 17 = true := by kernel_rfl
/-- (*dioptra/sector.Device).in -/
@[go_sem] theorem ent18 : ent Try.prog 18 = true := by kernel_rfl
/-- (*dioptra/sector.Device).one -/
@[go_sem] theorem ent19 : ent Try.prog 19 = true := by kernel_rfl
/-- dioptra/dioptraref10.put -/
@[go_sem] theorem ent20 : ent Try.prog 20 = true := by kernel_rfl
/-- (*dioptra/dioptralaw10.Memory).Read -/
@[go_sem] theorem ent36 : ent Try.prog 36 = true := by kernel_rfl
/-- (*dioptra/dioptralaw10.Memory).Sectors -/
@[go_sem] theorem ent37 : ent Try.prog 37 = true := by kernel_rfl
/-- (*dioptra/dioptralaw10.Memory).Trim -/
@[go_sem] theorem ent38 : ent Try.prog 38 = true := by kernel_rfl
/-- (*dioptra/dioptralaw10.Memory).Write -/
@[go_sem] theorem ent39 : ent Try.prog 39 = true := by kernel_rfl
/-- (*dioptra/dioptralaw10.Memory).fails -/
@[go_sem] theorem ent40 : ent Try.prog 40 = true := by kernel_rfl
@[go_sem] theorem mth24_Read : mth Try.prog 24 "Read" = some 36 := by kernel_rfl
@[go_sem] theorem mth24_Sectors : mth Try.prog 24 "Sectors" = some 37 := by kernel_rfl
@[go_sem] theorem mth24_Trim : mth Try.prog 24 "Trim" = some 38 := by kernel_rfl
@[go_sem] theorem mth24_Write : mth Try.prog 24 "Write" = some 39 := by kernel_rfl
@[go_sem] theorem mth24_dioptra_dioptralaw10_fails : mth Try.prog 24 "dioptra/dioptralaw10.fails" = some 40 := by kernel_rfl
@[go_sem] theorem mth29_Get : mth Try.prog 29 "Get" = some 10 := by kernel_rfl
@[go_sem] theorem mth29_Set : mth Try.prog 29 "Set" = some 8 := by kernel_rfl
@[go_sem] theorem mth29_Up : mth Try.prog 29 "Up" = some 9 := by kernel_rfl
@[go_sem] theorem mth29_dioptra_sector_command : mth Try.prog 29 "dioptra/sector.command" = some 14 := by kernel_rfl
@[go_sem] theorem mth29_dioptra_sector_good : mth Try.prog 29 "dioptra/sector.good" = some 13 := by kernel_rfl
@[go_sem] theorem mth29_dioptra_sector_in : mth Try.prog 29 "dioptra/sector.in" = some 18 := by kernel_rfl
@[go_sem] theorem mth29_dioptra_sector_one : mth Try.prog 29 "dioptra/sector.one" = some 19 := by kernel_rfl
@[go_sem] theorem mth29_dioptra_sector_window : mth Try.prog 29 "dioptra/sector.window" = some 15 := by kernel_rfl

theorem follows_mixed : Try.prog.follows .mixedOrders = true := by kernel_rfl

end Go.Proofs.Try
