/-
  The machine at the script seat: closed facts on types, the functions that it answers by itself.
-/
import Derived.Test.YtkoccbggjfbgaaaGreatDoorK06
import Derived.Test.YtkoccbggjfbgaaaGreatDoorK07
set_option linter.all false
open Go.Eng
set_option maxRecDepth 100000
namespace Go.Proofs.YtkoccbggjfbgaaaGreatDoor
noncomputable def EX (X : Tr Nat) : Env := envOf Tryz.prog X (tabOf sS) 72
theorem btX (X : Tr Nat) : (EX X).bt = 72 := rfl
theorem und3 (X : Tr Nat) : (EX X).und 3 = some (.int .i64) := by kernel_rfl
theorem size3 (X : Tr Nat) : (EX X).size 3 = some 1 := by kernel_rfl
theorem zero3 (X : Tr Nat) : (EX X).zero 3 = some (.int .i64 0) := by kernel_rfl
theorem agg3 (X : Tr Nat) : (EX X).agg 3 = some false := by kernel_rfl
theorem und4 (X : Tr Nat) : (EX X).und 4 = some .bool := by kernel_rfl
theorem size4 (X : Tr Nat) : (EX X).size 4 = some 1 := by kernel_rfl
theorem zero4 (X : Tr Nat) : (EX X).zero 4 = some (.bool false) := by kernel_rfl
theorem agg4 (X : Tr Nat) : (EX X).agg 4 = some false := by kernel_rfl
theorem und5 (X : Tr Nat) : (EX X).und 5 = some (.int .u8) := by kernel_rfl
theorem size5 (X : Tr Nat) : (EX X).size 5 = some 1 := by kernel_rfl
theorem zero5 (X : Tr Nat) : (EX X).zero 5 = some (.int .u8 0) := by kernel_rfl
theorem agg5 (X : Tr Nat) : (EX X).agg 5 = some false := by kernel_rfl
theorem und9 (X : Tr Nat) : (EX X).und 9 = some .string := by kernel_rfl
theorem size9 (X : Tr Nat) : (EX X).size 9 = some 1 := by kernel_rfl
theorem zero9 (X : Tr Nat) : (EX X).zero 9 = some (.string ⟨#[]⟩) := by kernel_rfl
theorem agg9 (X : Tr Nat) : (EX X).agg 9 = some false := by kernel_rfl
theorem und12 (X : Tr Nat) : (EX X).und 12 = some (.int .u64) := by kernel_rfl
theorem size12 (X : Tr Nat) : (EX X).size 12 = some 1 := by kernel_rfl
theorem zero12 (X : Tr Nat) : (EX X).zero 12 = some (.int .u64 0) := by kernel_rfl
theorem agg12 (X : Tr Nat) : (EX X).agg 12 = some false := by kernel_rfl
theorem und21 (X : Tr Nat) : (EX X).und 21 = some (.int .i32) := by kernel_rfl
theorem size21 (X : Tr Nat) : (EX X).size 21 = some 1 := by kernel_rfl
theorem zero21 (X : Tr Nat) : (EX X).zero 21 = some (.int .i32 0) := by kernel_rfl
theorem agg21 (X : Tr Nat) : (EX X).agg 21 = some false := by kernel_rfl
theorem und23 (X : Tr Nat) : (EX X).und 23 = some (.int .u64) := by kernel_rfl
theorem size23 (X : Tr Nat) : (EX X).size 23 = some 1 := by kernel_rfl
theorem zero23 (X : Tr Nat) : (EX X).zero 23 = some (.int .u64 0) := by kernel_rfl
theorem agg23 (X : Tr Nat) : (EX X).agg 23 = some false := by kernel_rfl
theorem und24 (X : Tr Nat) : (EX X).und 24 = some (.struct #[{ name := "Cores", type := 3, offset := 0, embedded := false, tag := "", pkgPath := "", byteOffset := 0 }, { name := "Tasks", type := 3, offset := 1, embedded := false, tag := "", pkgPath := "", byteOffset := 8 }, { name := "Tick", type := 23, offset := 2, embedded := false, tag := "", pkgPath := "", byteOffset := 16 }, { name := "Slice", type := 23, offset := 3, embedded := false, tag := "", pkgPath := "", byteOffset := 24 }, { name := "Origin", type := 23, offset := 4, embedded := false, tag := "", pkgPath := "", byteOffset := 32 }]) := by kernel_rfl
theorem size24 (X : Tr Nat) : (EX X).size 24 = some 5 := by kernel_rfl
theorem zero24 (X : Tr Nat) : (EX X).zero 24 = some (.agg #[(.int .i64 0), (.int .i64 0), (.int .u64 0), (.int .u64 0), (.int .u64 0)]) := by kernel_rfl
theorem agg24 (X : Tr Nat) : (EX X).agg 24 = some true := by kernel_rfl
theorem und25 (X : Tr Nat) : (EX X).und 25 = some (.struct #[{ name := "Cores", type := 3, offset := 0, embedded := false, tag := "", pkgPath := "", byteOffset := 0 }, { name := "Tasks", type := 3, offset := 1, embedded := false, tag := "", pkgPath := "", byteOffset := 8 }, { name := "Tick", type := 23, offset := 2, embedded := false, tag := "", pkgPath := "", byteOffset := 16 }, { name := "Slice", type := 23, offset := 3, embedded := false, tag := "", pkgPath := "", byteOffset := 24 }, { name := "Origin", type := 23, offset := 4, embedded := false, tag := "", pkgPath := "", byteOffset := 32 }]) := by kernel_rfl
theorem size25 (X : Tr Nat) : (EX X).size 25 = some 5 := by kernel_rfl
theorem zero25 (X : Tr Nat) : (EX X).zero 25 = some (.agg #[(.int .i64 0), (.int .i64 0), (.int .u64 0), (.int .u64 0), (.int .u64 0)]) := by kernel_rfl
theorem agg25 (X : Tr Nat) : (EX X).agg 25 = some true := by kernel_rfl
theorem und26 (X : Tr Nat) : (EX X).und 26 = some (.slice 50) := by kernel_rfl
theorem size26 (X : Tr Nat) : (EX X).size 26 = some 1 := by kernel_rfl
theorem zero26 (X : Tr Nat) : (EX X).zero 26 = some (.slice none 0 0) := by kernel_rfl
theorem agg26 (X : Tr Nat) : (EX X).agg 26 = some false := by kernel_rfl
theorem sl26 (X : Tr Nat) : sliceT (EX X) 26 50 6 96 = true := by kernel_rfl
theorem und27 (X : Tr Nat) : (EX X).und 27 = some (.int .i64) := by kernel_rfl
theorem size27 (X : Tr Nat) : (EX X).size 27 = some 1 := by kernel_rfl
theorem zero27 (X : Tr Nat) : (EX X).zero 27 = some (.int .i64 0) := by kernel_rfl
theorem agg27 (X : Tr Nat) : (EX X).agg 27 = some false := by kernel_rfl
theorem und30 (X : Tr Nat) : (EX X).und 30 = some (.struct #[{ name := "Cores", type := 3, offset := 0, embedded := false, tag := "", pkgPath := "", byteOffset := 0 }, { name := "Tasks", type := 3, offset := 1, embedded := false, tag := "", pkgPath := "", byteOffset := 8 }, { name := "Tick", type := 23, offset := 2, embedded := false, tag := "", pkgPath := "", byteOffset := 16 }, { name := "Slice", type := 23, offset := 3, embedded := false, tag := "", pkgPath := "", byteOffset := 24 }, { name := "Origin", type := 23, offset := 4, embedded := false, tag := "", pkgPath := "", byteOffset := 32 }]) := by kernel_rfl
theorem size30 (X : Tr Nat) : (EX X).size 30 = some 5 := by kernel_rfl
theorem zero30 (X : Tr Nat) : (EX X).zero 30 = some (.agg #[(.int .i64 0), (.int .i64 0), (.int .u64 0), (.int .u64 0), (.int .u64 0)]) := by kernel_rfl
theorem agg30 (X : Tr Nat) : (EX X).agg 30 = some true := by kernel_rfl
theorem und31 (X : Tr Nat) : (EX X).und 31 = some (.slice 61) := by kernel_rfl
theorem size31 (X : Tr Nat) : (EX X).size 31 = some 1 := by kernel_rfl
theorem zero31 (X : Tr Nat) : (EX X).zero 31 = some (.slice none 0 0) := by kernel_rfl
theorem agg31 (X : Tr Nat) : (EX X).agg 31 = some false := by kernel_rfl
theorem sl31 (X : Tr Nat) : sliceT (EX X) 31 61 6 96 = true := by kernel_rfl
theorem und47 (X : Tr Nat) : (EX X).und 47 = some (.slice 23) := by kernel_rfl
theorem size47 (X : Tr Nat) : (EX X).size 47 = some 1 := by kernel_rfl
theorem zero47 (X : Tr Nat) : (EX X).zero 47 = some (.slice none 0 0) := by kernel_rfl
theorem agg47 (X : Tr Nat) : (EX X).agg 47 = some false := by kernel_rfl
theorem sl47 (X : Tr Nat) : sliceT (EX X) 47 23 1 8 = true := by kernel_rfl
theorem und48 (X : Tr Nat) : (EX X).und 48 = some (.slice 5) := by kernel_rfl
theorem size48 (X : Tr Nat) : (EX X).size 48 = some 1 := by kernel_rfl
theorem zero48 (X : Tr Nat) : (EX X).zero 48 = some (.slice none 0 0) := by kernel_rfl
theorem agg48 (X : Tr Nat) : (EX X).agg 48 = some false := by kernel_rfl
theorem sl48 (X : Tr Nat) : sliceT (EX X) 48 5 1 1 = true := by kernel_rfl
theorem und49 (X : Tr Nat) : (EX X).und 49 = some (.struct #[{ name := "Line", type := 3, offset := 0, embedded := false, tag := "", pkgPath := "", byteOffset := 0 }, { name := "Op", type := 5, offset := 1, embedded := false, tag := "", pkgPath := "", byteOffset := 8 }, { name := "Label", type := 9, offset := 2, embedded := false, tag := "", pkgPath := "", byteOffset := 16 }, { name := "On", type := 9, offset := 3, embedded := false, tag := "", pkgPath := "", byteOffset := 32 }, { name := "N", type := 47, offset := 4, embedded := false, tag := "", pkgPath := "", byteOffset := 48 }, { name := "States", type := 48, offset := 5, embedded := false, tag := "", pkgPath := "", byteOffset := 72 }]) := by kernel_rfl
theorem size49 (X : Tr Nat) : (EX X).size 49 = some 6 := by kernel_rfl
theorem zero49 (X : Tr Nat) : (EX X).zero 49 = some (.agg #[(.int .i64 0), (.int .u8 0), (.string ⟨#[]⟩), (.string ⟨#[]⟩), (.slice none 0 0), (.slice none 0 0)]) := by kernel_rfl
theorem agg49 (X : Tr Nat) : (EX X).agg 49 = some true := by kernel_rfl
theorem und50 (X : Tr Nat) : (EX X).und 50 = some (.struct #[{ name := "Line", type := 3, offset := 0, embedded := false, tag := "", pkgPath := "", byteOffset := 0 }, { name := "Op", type := 5, offset := 1, embedded := false, tag := "", pkgPath := "", byteOffset := 8 }, { name := "Label", type := 9, offset := 2, embedded := false, tag := "", pkgPath := "", byteOffset := 16 }, { name := "On", type := 9, offset := 3, embedded := false, tag := "", pkgPath := "", byteOffset := 32 }, { name := "N", type := 47, offset := 4, embedded := false, tag := "", pkgPath := "", byteOffset := 48 }, { name := "States", type := 48, offset := 5, embedded := false, tag := "", pkgPath := "", byteOffset := 72 }]) := by kernel_rfl
theorem size50 (X : Tr Nat) : (EX X).size 50 = some 6 := by kernel_rfl
theorem zero50 (X : Tr Nat) : (EX X).zero 50 = some (.agg #[(.int .i64 0), (.int .u8 0), (.string ⟨#[]⟩), (.string ⟨#[]⟩), (.slice none 0 0), (.slice none 0 0)]) := by kernel_rfl
theorem agg50 (X : Tr Nat) : (EX X).agg 50 = some true := by kernel_rfl
theorem und52 (X : Tr Nat) : (EX X).und 52 = some (.slice 9) := by kernel_rfl
theorem size52 (X : Tr Nat) : (EX X).size 52 = some 1 := by kernel_rfl
theorem zero52 (X : Tr Nat) : (EX X).zero 52 = some (.slice none 0 0) := by kernel_rfl
theorem agg52 (X : Tr Nat) : (EX X).agg 52 = some false := by kernel_rfl
theorem sl52 (X : Tr Nat) : sliceT (EX X) 52 9 1 16 = true := by kernel_rfl
theorem und61 (X : Tr Nat) : (EX X).und 61 = some (.struct #[{ name := "Line", type := 3, offset := 0, embedded := false, tag := "", pkgPath := "", byteOffset := 0 }, { name := "Op", type := 5, offset := 1, embedded := false, tag := "", pkgPath := "", byteOffset := 8 }, { name := "Label", type := 9, offset := 2, embedded := false, tag := "", pkgPath := "", byteOffset := 16 }, { name := "On", type := 9, offset := 3, embedded := false, tag := "", pkgPath := "", byteOffset := 32 }, { name := "N", type := 47, offset := 4, embedded := false, tag := "", pkgPath := "", byteOffset := 48 }, { name := "States", type := 48, offset := 5, embedded := false, tag := "", pkgPath := "", byteOffset := 72 }]) := by kernel_rfl
theorem size61 (X : Tr Nat) : (EX X).size 61 = some 6 := by kernel_rfl
theorem zero61 (X : Tr Nat) : (EX X).zero 61 = some (.agg #[(.int .i64 0), (.int .u8 0), (.string ⟨#[]⟩), (.string ⟨#[]⟩), (.slice none 0 0), (.slice none 0 0)]) := by kernel_rfl
theorem agg61 (X : Tr Nat) : (EX X).agg 61 = some true := by kernel_rfl
theorem und66 (X : Tr Nat) : (EX X).und 66 = some (.int .u64) := by kernel_rfl
theorem size66 (X : Tr Nat) : (EX X).size 66 = some 1 := by kernel_rfl
theorem zero66 (X : Tr Nat) : (EX X).zero 66 = some (.int .u64 0) := by kernel_rfl
theorem agg66 (X : Tr Nat) : (EX X).agg 66 = some false := by kernel_rfl
theorem und94 (X : Tr Nat) : (EX X).und 94 = some (.slice 96) := by kernel_rfl
theorem size94 (X : Tr Nat) : (EX X).size 94 = some 1 := by kernel_rfl
theorem zero94 (X : Tr Nat) : (EX X).zero 94 = some (.slice none 0 0) := by kernel_rfl
theorem agg94 (X : Tr Nat) : (EX X).agg 94 = some false := by kernel_rfl
theorem sl94 (X : Tr Nat) : sliceT (EX X) 94 96 2 32 = true := by kernel_rfl
theorem und95 (X : Tr Nat) : (EX X).und 95 = some (.struct #[{ name := "word", type := 9, offset := 0, embedded := false, tag := "", pkgPath := "turnstone/script", byteOffset := 0 }, { name := "rest", type := 9, offset := 1, embedded := false, tag := "", pkgPath := "turnstone/script", byteOffset := 16 }]) := by kernel_rfl
theorem size95 (X : Tr Nat) : (EX X).size 95 = some 2 := by kernel_rfl
theorem zero95 (X : Tr Nat) : (EX X).zero 95 = some (.agg #[(.string ⟨#[]⟩), (.string ⟨#[]⟩)]) := by kernel_rfl
theorem agg95 (X : Tr Nat) : (EX X).agg 95 = some true := by kernel_rfl
theorem und96 (X : Tr Nat) : (EX X).und 96 = some (.struct #[{ name := "word", type := 9, offset := 0, embedded := false, tag := "", pkgPath := "turnstone/script", byteOffset := 0 }, { name := "rest", type := 9, offset := 1, embedded := false, tag := "", pkgPath := "turnstone/script", byteOffset := 16 }]) := by kernel_rfl
theorem size96 (X : Tr Nat) : (EX X).size 96 = some 2 := by kernel_rfl
theorem zero96 (X : Tr Nat) : (EX X).zero 96 = some (.agg #[(.string ⟨#[]⟩), (.string ⟨#[]⟩)]) := by kernel_rfl
theorem agg96 (X : Tr Nat) : (EX X).agg 96 = some true := by kernel_rfl
theorem und108 (X : Tr Nat) : (EX X).und 108 = some (.int .u32) := by kernel_rfl
theorem size108 (X : Tr Nat) : (EX X).size 108 = some 1 := by kernel_rfl
theorem zero108 (X : Tr Nat) : (EX X).zero 108 = some (.int .u32 0) := by kernel_rfl
theorem agg108 (X : Tr Nat) : (EX X).agg 108 = some false := by kernel_rfl
theorem und75 (X : Tr Nat) : (EX X).und 75 = some (.interface #[("Error", 79)]) := by kernel_rfl
theorem size75 (X : Tr Nat) : (EX X).size 75 = some 1 := by kernel_rfl
theorem zero75 (X : Tr Nat) : (EX X).zero 75 = some .nilIface := by kernel_rfl
theorem agg75 (X : Tr Nat) : (EX X).agg 75 = some false := by kernel_rfl
theorem und135 (X : Tr Nat) : (EX X).und 135 = some (.struct #[{ name := "Neg", type := 4, offset := 0, embedded := false, tag := "", pkgPath := "", byteOffset := 0 }, { name := "D", type := 133, offset := 1, embedded := false, tag := "", pkgPath := "", byteOffset := 8 }]) := by kernel_rfl
theorem size135 (X : Tr Nat) : (EX X).size 135 = some 2 := by kernel_rfl
theorem zero135 (X : Tr Nat) : (EX X).zero 135 = some (.agg #[(.bool false), (.slice none 0 0)]) := by kernel_rfl
theorem agg135 (X : Tr Nat) : (EX X).agg 135 = some true := by kernel_rfl
theorem gf8 (X : Tr Nat) : (EX X).F.get 8 = some Tryz.f8 := by kernel_rfl
theorem gf9 (X : Tr Nat) : (EX X).F.get 9 = some Tryz.f9 := by kernel_rfl
theorem gf10 (X : Tr Nat) : (EX X).F.get 10 = some Tryz.f10 := by kernel_rfl
theorem gf12 (X : Tr Nat) : (EX X).F.get 12 = some Tryz.f12 := by kernel_rfl
theorem gf20 (X : Tr Nat) : (EX X).F.get 20 = some Tryz.f20 := by kernel_rfl
theorem gf21 (X : Tr Nat) : (EX X).F.get 21 = some Tryz.f21 := by kernel_rfl
theorem gf22 (X : Tr Nat) : (EX X).F.get 22 = some Tryz.f22 := by kernel_rfl
theorem gf23 (X : Tr Nat) : (EX X).F.get 23 = some Tryz.f23 := by kernel_rfl
theorem gf24 (X : Tr Nat) : (EX X).F.get 24 = some Tryz.f24 := by kernel_rfl
theorem gf25 (X : Tr Nat) : (EX X).F.get 25 = some Tryz.f25 := by kernel_rfl
theorem gf26 (X : Tr Nat) : (EX X).F.get 26 = some Tryz.f26 := by kernel_rfl
theorem gf27 (X : Tr Nat) : (EX X).F.get 27 = some Tryz.f27 := by kernel_rfl
theorem gf45 (X : Tr Nat) : (EX X).F.get 45 = some Tryz.f45 := by kernel_rfl
theorem gf46 (X : Tr Nat) : (EX X).F.get 46 = some Tryz.f46 := by kernel_rfl
theorem gf47 (X : Tr Nat) : (EX X).F.get 47 = some Tryz.f47 := by kernel_rfl
theorem gf48 (X : Tr Nat) : (EX X).F.get 48 = some Tryz.f48 := by kernel_rfl
theorem gf49 (X : Tr Nat) : (EX X).F.get 49 = some Tryz.f49 := by kernel_rfl
theorem gf50 (X : Tr Nat) : (EX X).F.get 50 = some Tryz.f50 := by kernel_rfl
theorem gf51 (X : Tr Nat) : (EX X).F.get 51 = some Tryz.f51 := by kernel_rfl
theorem gf52 (X : Tr Nat) : (EX X).F.get 52 = some Tryz.f52 := by kernel_rfl
theorem gf53 (X : Tr Nat) : (EX X).F.get 53 = some Tryz.f53 := by kernel_rfl
theorem gf63 (X : Tr Nat) : (EX X).F.get 63 = some Tryz.f63 := by kernel_rfl
theorem gf69 (X : Tr Nat) : (EX X).F.get 69 = some Tryz.f69 := by kernel_rfl
theorem gf70 (X : Tr Nat) : (EX X).F.get 70 = some Tryz.f70 := by kernel_rfl
theorem gf71 (X : Tr Nat) : (EX X).F.get 71 = some Tryz.f71 := by kernel_rfl
theorem gf79 (X : Tr Nat) : (EX X).F.get 79 = some Tryz.f79 := by kernel_rfl
theorem gf80 (X : Tr Nat) : (EX X).F.get 80 = some Tryz.f80 := by kernel_rfl
theorem gf87 (X : Tr Nat) : (EX X).F.get 87 = some Tryz.f87 := by kernel_rfl
theorem gf18 (X : Tr Nat) : (EX X).F.get 18 = some Tryz.f18 := by kernel_rfl
theorem gf81 (X : Tr Nat) : (EX X).F.get 81 = some Tryz.f81 := by kernel_rfl
theorem gf82 (X : Tr Nat) : (EX X).F.get 82 = some Tryz.f82 := by kernel_rfl
theorem gf83 (X : Tr Nat) : (EX X).F.get 83 = some Tryz.f83 := by kernel_rfl
theorem gf84 (X : Tr Nat) : (EX X).F.get 84 = some Tryz.f84 := by kernel_rfl
theorem gf85 (X : Tr Nat) : (EX X).F.get 85 = some Tryz.f85 := by kernel_rfl
theorem gf86 (X : Tr Nat) : (EX X).F.get 86 = some Tryz.f86 := by kernel_rfl
theorem gf109 (X : Tr Nat) : (EX X).F.get 109 = some Tryz.f109 := by kernel_rfl
theorem gf110 (X : Tr Nat) : (EX X).F.get 110 = some Tryz.f110 := by kernel_rfl
theorem gf111 (X : Tr Nat) : (EX X).F.get 111 = some Tryz.f111 := by kernel_rfl
theorem gf112 (X : Tr Nat) : (EX X).F.get 112 = some Tryz.f112 := by kernel_rfl
theorem gf113 (X : Tr Nat) : (EX X).F.get 113 = some Tryz.f113 := by kernel_rfl
theorem gf114 (X : Tr Nat) : (EX X).F.get 114 = some Tryz.f114 := by kernel_rfl
theorem gf115 (X : Tr Nat) : (EX X).F.get 115 = some Tryz.f115 := by kernel_rfl
theorem gf116 (X : Tr Nat) : (EX X).F.get 116 = some Tryz.f116 := by kernel_rfl
theorem gf147 (X : Tr Nat) : (EX X).F.get 147 = some Tryz.f147 := by kernel_rfl
theorem gf3 (X : Tr Nat) : (EX X).F.get 3 = some Tryz.f3 := by kernel_rfl
/-- which functions the machine answers by itself -/
structure PX (X : Tr Nat) : Prop where
  split : X.get 19 = some 156
  fields : X.get 43 = some 46137501
  parse : X.get 108 = some 151063056
  n8 : X.get 8 = none
  n9 : X.get 9 = none
  n10 : X.get 10 = none
  n12 : X.get 12 = none
  n20 : X.get 20 = none
  n21 : X.get 21 = none
  n22 : X.get 22 = none
  n23 : X.get 23 = none
  n24 : X.get 24 = none
  n25 : X.get 25 = none
  n26 : X.get 26 = none
  n27 : X.get 27 = none
  n45 : X.get 45 = none
  n46 : X.get 46 = none
  n47 : X.get 47 = none
  n48 : X.get 48 = none
  n49 : X.get 49 = none
  n50 : X.get 50 = none
  n51 : X.get 51 = none
  n52 : X.get 52 = none
  n53 : X.get 53 = none
  n63 : X.get 63 = none
  n69 : X.get 69 = none
  n70 : X.get 70 = none
  n71 : X.get 71 = none
  n79 : X.get 79 = none
  n80 : X.get 80 = none
  n87 : X.get 87 = none
  n18 : X.get 18 = none
  n81 : X.get 81 = none
  n82 : X.get 82 = none
  n83 : X.get 83 = none
  n84 : X.get 84 = none
  n85 : X.get 85 = none
  n86 : X.get 86 = none
  n109 : X.get 109 = none
  n110 : X.get 110 = none
  n111 : X.get 111 = none
  n112 : X.get 112 = none
  n113 : X.get 113 = none
  n114 : X.get 114 = none
  n115 : X.get 115 = none
  n116 : X.get 116 = none
  n147 : X.get 147 = none
  n3 : X.get 3 = none
end Go.Proofs.YtkoccbggjfbgaaaGreatDoor
