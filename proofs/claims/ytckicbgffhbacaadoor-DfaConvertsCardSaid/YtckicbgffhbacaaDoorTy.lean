import Derived.Test.YtckicbgffhbacaaDoorProg
import Derived.Test.YtckicbgffhbacaaDoorS2
import Derived.KernelRfl
namespace Go.Proofs.YtckicbgffhbacaaDoor
open Go.Sx
theorem el0 : ElT Tryd.prog 0 (.tuple #[]) 1 0 := by unfold ElT; kernel_rfl
theorem sz0 : (Tryd.prog.info? 0).map (·.size) = some 1 := by kernel_rfl
theorem el1 : ElT Tryd.prog 1 .nilFunc 1 8 := by unfold ElT; kernel_rfl
theorem sz1 : (Tryd.prog.info? 1).map (·.size) = some 1 := by kernel_rfl
theorem el2 : ElT Tryd.prog 2 (.int .i64 0) 1 8 := by unfold ElT; kernel_rfl
theorem sz2 : (Tryd.prog.info? 2).map (·.size) = some 1 := by kernel_rfl
theorem on2 : OneT Tryd.prog 2 := by unfold OneT; kernel_rfl
theorem un2 : Tryd.prog.underlying 2 = some (.int .i64) := by kernel_rfl
theorem el3 : ElT Tryd.prog 3 (.int .i64 0) 1 8 := by unfold ElT; kernel_rfl
theorem sz3 : (Tryd.prog.info? 3).map (·.size) = some 1 := by kernel_rfl
theorem on3 : OneT Tryd.prog 3 := by unfold OneT; kernel_rfl
theorem un3 : Tryd.prog.underlying 3 = some (.int .i64) := by kernel_rfl
theorem el4 : ElT Tryd.prog 4 (.bool false) 1 1 := by unfold ElT; kernel_rfl
theorem sz4 : (Tryd.prog.info? 4).map (·.size) = some 1 := by kernel_rfl
theorem on4 : OneT Tryd.prog 4 := by unfold OneT; kernel_rfl
theorem bo4 : Tryd.prog.underlying 4 = some .bool := by kernel_rfl
theorem el5 : ElT Tryd.prog 5 (.int .u8 0) 1 1 := by unfold ElT; kernel_rfl
theorem sz5 : (Tryd.prog.info? 5).map (·.size) = some 1 := by kernel_rfl
theorem on5 : OneT Tryd.prog 5 := by unfold OneT; kernel_rfl
theorem un5 : Tryd.prog.underlying 5 = some (.int .u8) := by kernel_rfl
theorem el6 : ElT Tryd.prog 6 (.int .u8 0) 1 1 := by unfold ElT; kernel_rfl
theorem sz6 : (Tryd.prog.info? 6).map (·.size) = some 1 := by kernel_rfl
theorem on6 : OneT Tryd.prog 6 := by unfold OneT; kernel_rfl
theorem un6 : Tryd.prog.underlying 6 = some (.int .u8) := by kernel_rfl
theorem el7 : ElT Tryd.prog 7 (.agg #[(.int .i64 0), (.int .i64 0), (.bool false), (.int .u8 0)]) 4 24 := by unfold ElT; kernel_rfl
theorem sz7 : (Tryd.prog.info? 7).map (·.size) = some 4 := by kernel_rfl
theorem ag7 : AggT Tryd.prog 7 4 := ⟨by kernel_rfl, by kernel_rfl⟩
theorem fd7_0 : FldT Tryd.prog 7 0 0 := FldT.of (by kernel_rfl)
theorem fd7_1 : FldT Tryd.prog 7 1 1 := FldT.of (by kernel_rfl)
theorem fd7_2 : FldT Tryd.prog 7 2 2 := FldT.of (by kernel_rfl)
theorem fd7_3 : FldT Tryd.prog 7 3 3 := FldT.of (by kernel_rfl)
theorem el8 : ElT Tryd.prog 8 (.agg #[(.int .i64 0), (.int .i64 0), (.bool false), (.int .u8 0)]) 4 24 := by unfold ElT; kernel_rfl
theorem sz8 : (Tryd.prog.info? 8).map (·.size) = some 4 := by kernel_rfl
theorem ag8 : AggT Tryd.prog 8 4 := ⟨by kernel_rfl, by kernel_rfl⟩
theorem fd8_0 : FldT Tryd.prog 8 0 0 := FldT.of (by kernel_rfl)
theorem fd8_1 : FldT Tryd.prog 8 1 1 := FldT.of (by kernel_rfl)
theorem fd8_2 : FldT Tryd.prog 8 2 2 := FldT.of (by kernel_rfl)
theorem fd8_3 : FldT Tryd.prog 8 3 3 := FldT.of (by kernel_rfl)
theorem el9 : ElT Tryd.prog 9 (.string ByteArray.empty) 1 16 := by unfold ElT; kernel_rfl
theorem sz9 : (Tryd.prog.info? 9).map (·.size) = some 1 := by kernel_rfl
theorem on9 : OneT Tryd.prog 9 := by unfold OneT; kernel_rfl
theorem un9 : Tryd.prog.underlying 9 = some .string := by kernel_rfl
theorem el10 : ElT Tryd.prog 10 (.string ByteArray.empty) 1 16 := by unfold ElT; kernel_rfl
theorem sz10 : (Tryd.prog.info? 10).map (·.size) = some 1 := by kernel_rfl
theorem on10 : OneT Tryd.prog 10 := by unfold OneT; kernel_rfl
theorem un10 : Tryd.prog.underlying 10 = some .string := by kernel_rfl
theorem el11 : ElT Tryd.prog 11 (.string ByteArray.empty) 1 16 := by unfold ElT; kernel_rfl
theorem sz11 : (Tryd.prog.info? 11).map (·.size) = some 1 := by kernel_rfl
theorem on11 : OneT Tryd.prog 11 := by unfold OneT; kernel_rfl
theorem un11 : Tryd.prog.underlying 11 = some .string := by kernel_rfl
theorem el12 : ElT Tryd.prog 12 (.int .u64 0) 1 8 := by unfold ElT; kernel_rfl
theorem sz12 : (Tryd.prog.info? 12).map (·.size) = some 1 := by kernel_rfl
theorem on12 : OneT Tryd.prog 12 := by unfold OneT; kernel_rfl
theorem un12 : Tryd.prog.underlying 12 = some (.int .u64) := by kernel_rfl
theorem el13 : ElT Tryd.prog 13 (.agg #[(.string ByteArray.empty), (.int .u64 0)]) 2 24 := by unfold ElT; kernel_rfl
theorem sz13 : (Tryd.prog.info? 13).map (·.size) = some 2 := by kernel_rfl
theorem ag13 : AggT Tryd.prog 13 2 := ⟨by kernel_rfl, by kernel_rfl⟩
theorem fd13_0 : FldT Tryd.prog 13 0 0 := FldT.of (by kernel_rfl)
theorem fd13_1 : FldT Tryd.prog 13 1 1 := FldT.of (by kernel_rfl)
theorem el14 : ElT Tryd.prog 14 (.agg #[(.string ByteArray.empty), (.int .u64 0)]) 2 24 := by unfold ElT; kernel_rfl
theorem sz14 : (Tryd.prog.info? 14).map (·.size) = some 2 := by kernel_rfl
theorem ag14 : AggT Tryd.prog 14 2 := ⟨by kernel_rfl, by kernel_rfl⟩
theorem fd14_0 : FldT Tryd.prog 14 0 0 := FldT.of (by kernel_rfl)
theorem fd14_1 : FldT Tryd.prog 14 1 1 := FldT.of (by kernel_rfl)
theorem el15 : ElT Tryd.prog 15 (.pointer none) 1 8 := by unfold ElT; kernel_rfl
theorem sz15 : (Tryd.prog.info? 15).map (·.size) = some 1 := by kernel_rfl
theorem on15 : OneT Tryd.prog 15 := by unfold OneT; kernel_rfl
theorem el16 : ElT Tryd.prog 16 (.pointer none) 1 8 := by unfold ElT; kernel_rfl
theorem sz16 : (Tryd.prog.info? 16).map (·.size) = some 1 := by kernel_rfl
theorem on16 : OneT Tryd.prog 16 := by unfold OneT; kernel_rfl
theorem el17 : ElT Tryd.prog 17 (.pointer none) 1 8 := by unfold ElT; kernel_rfl
theorem sz17 : (Tryd.prog.info? 17).map (·.size) = some 1 := by kernel_rfl
theorem on17 : OneT Tryd.prog 17 := by unfold OneT; kernel_rfl
theorem el18 : ElT Tryd.prog 18 (.agg #[(.pointer none)]) 1 8 := by unfold ElT; kernel_rfl
theorem sz18 : (Tryd.prog.info? 18).map (·.size) = some 1 := by kernel_rfl
theorem ag18 : AggT Tryd.prog 18 1 := ⟨by kernel_rfl, by kernel_rfl⟩
theorem fd18_0 : FldT Tryd.prog 18 0 0 := FldT.of (by kernel_rfl)
theorem el19 : ElT Tryd.prog 19 (.agg #[(.pointer none)]) 1 8 := by unfold ElT; kernel_rfl
theorem sz19 : (Tryd.prog.info? 19).map (·.size) = some 1 := by kernel_rfl
theorem ag19 : AggT Tryd.prog 19 1 := ⟨by kernel_rfl, by kernel_rfl⟩
theorem fd19_0 : FldT Tryd.prog 19 0 0 := FldT.of (by kernel_rfl)
theorem el20 : ElT Tryd.prog 20 .nilIface 1 16 := by unfold ElT; kernel_rfl
theorem sz20 : (Tryd.prog.info? 20).map (·.size) = some 1 := by kernel_rfl
theorem on20 : OneT Tryd.prog 20 := by unfold OneT; kernel_rfl
theorem el21 : ElT Tryd.prog 21 (.int .i32 0) 1 4 := by unfold ElT; kernel_rfl
theorem sz21 : (Tryd.prog.info? 21).map (·.size) = some 1 := by kernel_rfl
theorem on21 : OneT Tryd.prog 21 := by unfold OneT; kernel_rfl
theorem un21 : Tryd.prog.underlying 21 = some (.int .i32) := by kernel_rfl
theorem el22 : ElT Tryd.prog 22 (.int .u64 0) 1 8 := by unfold ElT; kernel_rfl
theorem sz22 : (Tryd.prog.info? 22).map (·.size) = some 1 := by kernel_rfl
theorem on22 : OneT Tryd.prog 22 := by unfold OneT; kernel_rfl
theorem un22 : Tryd.prog.underlying 22 = some (.int .u64) := by kernel_rfl
theorem sl23 : SlT Tryd.prog 23 51 3 := ⟨by kernel_rfl, by kernel_rfl⟩
theorem el23 : ElT Tryd.prog 23 (.slice none 0 0) 1 24 := by unfold ElT; kernel_rfl
theorem sz23 : (Tryd.prog.info? 23).map (·.size) = some 1 := by kernel_rfl
theorem on23 : OneT Tryd.prog 23 := by unfold OneT; kernel_rfl
theorem el24 : ElT Tryd.prog 24 (.agg #[(.int .i64 0), (.int .i64 0), (.int .u64 0), (.int .u64 0), (.slice none 0 0)]) 5 56 := by unfold ElT; kernel_rfl
theorem sz24 : (Tryd.prog.info? 24).map (·.size) = some 5 := by kernel_rfl
theorem ag24 : AggT Tryd.prog 24 5 := ⟨by kernel_rfl, by kernel_rfl⟩
theorem fd24_0 : FldT Tryd.prog 24 0 0 := FldT.of (by kernel_rfl)
theorem fd24_1 : FldT Tryd.prog 24 1 1 := FldT.of (by kernel_rfl)
theorem fd24_2 : FldT Tryd.prog 24 2 2 := FldT.of (by kernel_rfl)
theorem fd24_3 : FldT Tryd.prog 24 3 3 := FldT.of (by kernel_rfl)
theorem fd24_4 : FldT Tryd.prog 24 4 4 := FldT.of (by kernel_rfl)
theorem el25 : ElT Tryd.prog 25 (.agg #[(.int .i64 0), (.int .i64 0), (.int .u64 0), (.int .u64 0), (.slice none 0 0)]) 5 56 := by unfold ElT; kernel_rfl
theorem sz25 : (Tryd.prog.info? 25).map (·.size) = some 5 := by kernel_rfl
theorem ag25 : AggT Tryd.prog 25 5 := ⟨by kernel_rfl, by kernel_rfl⟩
theorem fd25_0 : FldT Tryd.prog 25 0 0 := FldT.of (by kernel_rfl)
theorem fd25_1 : FldT Tryd.prog 25 1 1 := FldT.of (by kernel_rfl)
theorem fd25_2 : FldT Tryd.prog 25 2 2 := FldT.of (by kernel_rfl)
theorem fd25_3 : FldT Tryd.prog 25 3 3 := FldT.of (by kernel_rfl)
theorem fd25_4 : FldT Tryd.prog 25 4 4 := FldT.of (by kernel_rfl)
theorem el26 : ElT Tryd.prog 26 (.int .i64 0) 1 8 := by unfold ElT; kernel_rfl
theorem sz26 : (Tryd.prog.info? 26).map (·.size) = some 1 := by kernel_rfl
theorem on26 : OneT Tryd.prog 26 := by unfold OneT; kernel_rfl
theorem un26 : Tryd.prog.underlying 26 = some (.int .i64) := by kernel_rfl
theorem el27 : ElT Tryd.prog 27 .nilFunc 1 8 := by unfold ElT; kernel_rfl
theorem sz27 : (Tryd.prog.info? 27).map (·.size) = some 1 := by kernel_rfl
theorem el28 : ElT Tryd.prog 28 .nilFunc 1 8 := by unfold ElT; kernel_rfl
theorem sz28 : (Tryd.prog.info? 28).map (·.size) = some 1 := by kernel_rfl
theorem sl29 : SlT Tryd.prog 29 4 1 := ⟨by kernel_rfl, by kernel_rfl⟩
theorem el29 : ElT Tryd.prog 29 (.slice none 0 0) 1 24 := by unfold ElT; kernel_rfl
theorem sz29 : (Tryd.prog.info? 29).map (·.size) = some 1 := by kernel_rfl
theorem on29 : OneT Tryd.prog 29 := by unfold OneT; kernel_rfl
theorem sl30 : SlT Tryd.prog 30 41 1 := ⟨by kernel_rfl, by kernel_rfl⟩
theorem el30 : ElT Tryd.prog 30 (.slice none 0 0) 1 24 := by unfold ElT; kernel_rfl
theorem sz30 : (Tryd.prog.info? 30).map (·.size) = some 1 := by kernel_rfl
theorem on30 : OneT Tryd.prog 30 := by unfold OneT; kernel_rfl
theorem el31 : ElT Tryd.prog 31 (.agg #[(.int .i64 0), (.int .i64 0), (.slice none 0 0), (.slice none 0 0)]) 4 64 := by unfold ElT; kernel_rfl
theorem sz31 : (Tryd.prog.info? 31).map (·.size) = some 4 := by kernel_rfl
theorem ag31 : AggT Tryd.prog 31 4 := ⟨by kernel_rfl, by kernel_rfl⟩
theorem fd31_0 : FldT Tryd.prog 31 0 0 := FldT.of (by kernel_rfl)
theorem fd31_1 : FldT Tryd.prog 31 1 1 := FldT.of (by kernel_rfl)
theorem fd31_2 : FldT Tryd.prog 31 2 2 := FldT.of (by kernel_rfl)
theorem fd31_3 : FldT Tryd.prog 31 3 3 := FldT.of (by kernel_rfl)
theorem el32 : ElT Tryd.prog 32 (.agg #[(.int .i64 0), (.int .i64 0), (.slice none 0 0), (.slice none 0 0)]) 4 64 := by unfold ElT; kernel_rfl
theorem sz32 : (Tryd.prog.info? 32).map (·.size) = some 4 := by kernel_rfl
theorem ag32 : AggT Tryd.prog 32 4 := ⟨by kernel_rfl, by kernel_rfl⟩
theorem fd32_0 : FldT Tryd.prog 32 0 0 := FldT.of (by kernel_rfl)
theorem fd32_1 : FldT Tryd.prog 32 1 1 := FldT.of (by kernel_rfl)
theorem fd32_2 : FldT Tryd.prog 32 2 2 := FldT.of (by kernel_rfl)
theorem fd32_3 : FldT Tryd.prog 32 3 3 := FldT.of (by kernel_rfl)
theorem sl33 : SlT Tryd.prog 33 22 1 := ⟨by kernel_rfl, by kernel_rfl⟩
theorem el33 : ElT Tryd.prog 33 (.slice none 0 0) 1 24 := by unfold ElT; kernel_rfl
theorem sz33 : (Tryd.prog.info? 33).map (·.size) = some 1 := by kernel_rfl
theorem on33 : OneT Tryd.prog 33 := by unfold OneT; kernel_rfl
theorem el34 : ElT Tryd.prog 34 (.tuple #[(.agg #[(.int .i64 0), (.int .i64 0), (.slice none 0 0), (.slice none 0 0)]), (.slice none 0 0), (.int .i64 0)]) 1 0 := by unfold ElT; kernel_rfl
theorem sz34 : (Tryd.prog.info? 34).map (·.size) = some 1 := by kernel_rfl
theorem el35 : ElT Tryd.prog 35 .nilFunc 1 8 := by unfold ElT; kernel_rfl
theorem sz35 : (Tryd.prog.info? 35).map (·.size) = some 1 := by kernel_rfl
theorem el36 : ElT Tryd.prog 36 .nilFunc 1 8 := by unfold ElT; kernel_rfl
theorem sz36 : (Tryd.prog.info? 36).map (·.size) = some 1 := by kernel_rfl
theorem el37 : ElT Tryd.prog 37 .nilFunc 1 8 := by unfold ElT; kernel_rfl
theorem sz37 : (Tryd.prog.info? 37).map (·.size) = some 1 := by kernel_rfl
theorem el38 : ElT Tryd.prog 38 (.tuple #[(.agg #[(.int .i64 0), (.int .i64 0), (.int .u64 0), (.int .u64 0), (.slice none 0 0)]), (.int .i64 0)]) 1 0 := by unfold ElT; kernel_rfl
theorem sz38 : (Tryd.prog.info? 38).map (·.size) = some 1 := by kernel_rfl
theorem el39 : ElT Tryd.prog 39 .nilFunc 1 8 := by unfold ElT; kernel_rfl
theorem sz39 : (Tryd.prog.info? 39).map (·.size) = some 1 := by kernel_rfl
theorem el40 : ElT Tryd.prog 40 .nilFunc 1 8 := by unfold ElT; kernel_rfl
theorem sz40 : (Tryd.prog.info? 40).map (·.size) = some 1 := by kernel_rfl
theorem sl41 : SlT Tryd.prog 41 3 1 := ⟨by kernel_rfl, by kernel_rfl⟩
theorem el41 : ElT Tryd.prog 41 (.slice none 0 0) 1 24 := by unfold ElT; kernel_rfl
theorem sz41 : (Tryd.prog.info? 41).map (·.size) = some 1 := by kernel_rfl
theorem on41 : OneT Tryd.prog 41 := by unfold OneT; kernel_rfl
theorem el42 : ElT Tryd.prog 42 (.tuple #[(.agg #[(.int .i64 0), (.int .i64 0), (.slice none 0 0), (.slice none 0 0)]), (.slice none 0 0)]) 1 0 := by unfold ElT; kernel_rfl
theorem sz42 : (Tryd.prog.info? 42).map (·.size) = some 1 := by kernel_rfl
theorem el43 : ElT Tryd.prog 43 .nilFunc 1 8 := by unfold ElT; kernel_rfl
theorem sz43 : (Tryd.prog.info? 43).map (·.size) = some 1 := by kernel_rfl
theorem el44 : ElT Tryd.prog 44 .nilFunc 1 8 := by unfold ElT; kernel_rfl
theorem sz44 : (Tryd.prog.info? 44).map (·.size) = some 1 := by kernel_rfl
theorem el45 : ElT Tryd.prog 45 .nilFunc 1 8 := by unfold ElT; kernel_rfl
theorem sz45 : (Tryd.prog.info? 45).map (·.size) = some 1 := by kernel_rfl
theorem el46 : ElT Tryd.prog 46 .nilFunc 1 8 := by unfold ElT; kernel_rfl
theorem sz46 : (Tryd.prog.info? 46).map (·.size) = some 1 := by kernel_rfl
theorem el47 : ElT Tryd.prog 47 .nilFunc 1 8 := by unfold ElT; kernel_rfl
theorem sz47 : (Tryd.prog.info? 47).map (·.size) = some 1 := by kernel_rfl
theorem el48 : ElT Tryd.prog 48 .nilFunc 1 8 := by unfold ElT; kernel_rfl
theorem sz48 : (Tryd.prog.info? 48).map (·.size) = some 1 := by kernel_rfl
theorem el49 : ElT Tryd.prog 49 .nilFunc 1 8 := by unfold ElT; kernel_rfl
theorem sz49 : (Tryd.prog.info? 49).map (·.size) = some 1 := by kernel_rfl
theorem el50 : ElT Tryd.prog 50 (.agg #[(.int .i64 0), (.int .i64 0), (.int .i64 0)]) 3 24 := by unfold ElT; kernel_rfl
theorem sz50 : (Tryd.prog.info? 50).map (·.size) = some 3 := by kernel_rfl
theorem ag50 : AggT Tryd.prog 50 3 := ⟨by kernel_rfl, by kernel_rfl⟩
theorem fd50_0 : FldT Tryd.prog 50 0 0 := FldT.of (by kernel_rfl)
theorem fd50_1 : FldT Tryd.prog 50 1 1 := FldT.of (by kernel_rfl)
theorem fd50_2 : FldT Tryd.prog 50 2 2 := FldT.of (by kernel_rfl)
theorem el51 : ElT Tryd.prog 51 (.agg #[(.int .i64 0), (.int .i64 0), (.int .i64 0)]) 3 24 := by unfold ElT; kernel_rfl
theorem sz51 : (Tryd.prog.info? 51).map (·.size) = some 3 := by kernel_rfl
theorem ag51 : AggT Tryd.prog 51 3 := ⟨by kernel_rfl, by kernel_rfl⟩
theorem fd51_0 : FldT Tryd.prog 51 0 0 := FldT.of (by kernel_rfl)
theorem fd51_1 : FldT Tryd.prog 51 1 1 := FldT.of (by kernel_rfl)
theorem fd51_2 : FldT Tryd.prog 51 2 2 := FldT.of (by kernel_rfl)
theorem el52 : ElT Tryd.prog 52 .nilFunc 1 8 := by unfold ElT; kernel_rfl
theorem sz52 : (Tryd.prog.info? 52).map (·.size) = some 1 := by kernel_rfl
theorem el53 : ElT Tryd.prog 53 .nilFunc 1 8 := by unfold ElT; kernel_rfl
theorem sz53 : (Tryd.prog.info? 53).map (·.size) = some 1 := by kernel_rfl
theorem sl54 : SlT Tryd.prog 54 9 1 := ⟨by kernel_rfl, by kernel_rfl⟩
theorem el54 : ElT Tryd.prog 54 (.slice none 0 0) 1 24 := by unfold ElT; kernel_rfl
theorem sz54 : (Tryd.prog.info? 54).map (·.size) = some 1 := by kernel_rfl
theorem on54 : OneT Tryd.prog 54 := by unfold OneT; kernel_rfl
theorem el55 : ElT Tryd.prog 55 .nilFunc 1 8 := by unfold ElT; kernel_rfl
theorem sz55 : (Tryd.prog.info? 55).map (·.size) = some 1 := by kernel_rfl
theorem el56 : ElT Tryd.prog 56 .nilFunc 1 8 := by unfold ElT; kernel_rfl
theorem sz56 : (Tryd.prog.info? 56).map (·.size) = some 1 := by kernel_rfl
theorem el57 : ElT Tryd.prog 57 .nilFunc 1 8 := by unfold ElT; kernel_rfl
theorem sz57 : (Tryd.prog.info? 57).map (·.size) = some 1 := by kernel_rfl
theorem el58 : ElT Tryd.prog 58 .nilFunc 1 8 := by unfold ElT; kernel_rfl
theorem sz58 : (Tryd.prog.info? 58).map (·.size) = some 1 := by kernel_rfl
theorem el59 : ElT Tryd.prog 59 .nilFunc 1 8 := by unfold ElT; kernel_rfl
theorem sz59 : (Tryd.prog.info? 59).map (·.size) = some 1 := by kernel_rfl
theorem el60 : ElT Tryd.prog 60 .nilFunc 1 8 := by unfold ElT; kernel_rfl
theorem sz60 : (Tryd.prog.info? 60).map (·.size) = some 1 := by kernel_rfl
theorem el61 : ElT Tryd.prog 61 (.map none) 1 8 := by unfold ElT; kernel_rfl
theorem sz61 : (Tryd.prog.info? 61).map (·.size) = some 1 := by kernel_rfl
theorem on61 : OneT Tryd.prog 61 := by unfold OneT; kernel_rfl
theorem mp61 : Tryd.prog.underlying 61 = some (.map 22 3) := by kernel_rfl
theorem el62 : ElT Tryd.prog 62 .nilFunc 1 8 := by unfold ElT; kernel_rfl
theorem sz62 : (Tryd.prog.info? 62).map (·.size) = some 1 := by kernel_rfl
theorem el63 : ElT Tryd.prog 63 (.tuple #[(.int .i64 0), (.bool false)]) 1 0 := by unfold ElT; kernel_rfl
theorem sz63 : (Tryd.prog.info? 63).map (·.size) = some 1 := by kernel_rfl
theorem el64 : ElT Tryd.prog 64 (.tuple #[(.agg #[(.int .i64 0), (.int .i64 0), (.slice none 0 0), (.slice none 0 0)]), (.slice none 0 0), (.int .i64 0)]) 1 0 := by unfold ElT; kernel_rfl
theorem sz64 : (Tryd.prog.info? 64).map (·.size) = some 1 := by kernel_rfl
theorem el65 : ElT Tryd.prog 65 .nilFunc 1 8 := by unfold ElT; kernel_rfl
theorem sz65 : (Tryd.prog.info? 65).map (·.size) = some 1 := by kernel_rfl
theorem el66 : ElT Tryd.prog 66 .nilFunc 1 8 := by unfold ElT; kernel_rfl
theorem sz66 : (Tryd.prog.info? 66).map (·.size) = some 1 := by kernel_rfl
theorem el67 : ElT Tryd.prog 67 .nilFunc 1 8 := by unfold ElT; kernel_rfl
theorem sz67 : (Tryd.prog.info? 67).map (·.size) = some 1 := by kernel_rfl
theorem el68 : ElT Tryd.prog 68 .nilFunc 1 8 := by unfold ElT; kernel_rfl
theorem sz68 : (Tryd.prog.info? 68).map (·.size) = some 1 := by kernel_rfl
theorem sl69 : SlT Tryd.prog 69 33 1 := ⟨by kernel_rfl, by kernel_rfl⟩
theorem el69 : ElT Tryd.prog 69 (.slice none 0 0) 1 24 := by unfold ElT; kernel_rfl
theorem sz69 : (Tryd.prog.info? 69).map (·.size) = some 1 := by kernel_rfl
theorem on69 : OneT Tryd.prog 69 := by unfold OneT; kernel_rfl
theorem el70 : ElT Tryd.prog 70 .nilFunc 1 8 := by unfold ElT; kernel_rfl
theorem sz70 : (Tryd.prog.info? 70).map (·.size) = some 1 := by kernel_rfl
theorem el71 : ElT Tryd.prog 71 .nilFunc 1 8 := by unfold ElT; kernel_rfl
theorem sz71 : (Tryd.prog.info? 71).map (·.size) = some 1 := by kernel_rfl
theorem el72 : ElT Tryd.prog 72 (.int .u64 0) 1 8 := by unfold ElT; kernel_rfl
theorem sz72 : (Tryd.prog.info? 72).map (·.size) = some 1 := by kernel_rfl
theorem on72 : OneT Tryd.prog 72 := by unfold OneT; kernel_rfl
theorem un72 : Tryd.prog.underlying 72 = some (.int .u64) := by kernel_rfl
theorem sl73 : SlT Tryd.prog 73 29 1 := ⟨by kernel_rfl, by kernel_rfl⟩
theorem el73 : ElT Tryd.prog 73 (.slice none 0 0) 1 24 := by unfold ElT; kernel_rfl
theorem sz73 : (Tryd.prog.info? 73).map (·.size) = some 1 := by kernel_rfl
theorem on73 : OneT Tryd.prog 73 := by unfold OneT; kernel_rfl
theorem sl74 : SlT Tryd.prog 74 5 1 := ⟨by kernel_rfl, by kernel_rfl⟩
theorem el74 : ElT Tryd.prog 74 (.slice none 0 0) 1 24 := by unfold ElT; kernel_rfl
theorem sz74 : (Tryd.prog.info? 74).map (·.size) = some 1 := by kernel_rfl
theorem on74 : OneT Tryd.prog 74 := by unfold OneT; kernel_rfl
theorem el75 : ElT Tryd.prog 75 (.agg #[(.int .i64 0), (.int .i64 0), (.slice none 0 0), (.slice none 0 0), (.int .i64 0), (.slice none 0 0), (.slice none 0 0), (.slice none 0 0)]) 8 144 := by unfold ElT; kernel_rfl
theorem sz75 : (Tryd.prog.info? 75).map (·.size) = some 8 := by kernel_rfl
theorem ag75 : AggT Tryd.prog 75 8 := ⟨by kernel_rfl, by kernel_rfl⟩
theorem fd75_0 : FldT Tryd.prog 75 0 0 := FldT.of (by kernel_rfl)
theorem fd75_1 : FldT Tryd.prog 75 1 4 := FldT.of (by kernel_rfl)
theorem fd75_2 : FldT Tryd.prog 75 2 5 := FldT.of (by kernel_rfl)
theorem fd75_3 : FldT Tryd.prog 75 3 6 := FldT.of (by kernel_rfl)
theorem fd75_4 : FldT Tryd.prog 75 4 7 := FldT.of (by kernel_rfl)
theorem el76 : ElT Tryd.prog 76 (.agg #[(.int .i64 0), (.int .i64 0), (.slice none 0 0), (.slice none 0 0), (.int .i64 0), (.slice none 0 0), (.slice none 0 0), (.slice none 0 0)]) 8 144 := by unfold ElT; kernel_rfl
theorem sz76 : (Tryd.prog.info? 76).map (·.size) = some 8 := by kernel_rfl
theorem ag76 : AggT Tryd.prog 76 8 := ⟨by kernel_rfl, by kernel_rfl⟩
theorem fd76_0 : FldT Tryd.prog 76 0 0 := FldT.of (by kernel_rfl)
theorem fd76_1 : FldT Tryd.prog 76 1 4 := FldT.of (by kernel_rfl)
theorem fd76_2 : FldT Tryd.prog 76 2 5 := FldT.of (by kernel_rfl)
theorem fd76_3 : FldT Tryd.prog 76 3 6 := FldT.of (by kernel_rfl)
theorem fd76_4 : FldT Tryd.prog 76 4 7 := FldT.of (by kernel_rfl)
theorem el77 : ElT Tryd.prog 77 .nilFunc 1 8 := by unfold ElT; kernel_rfl
theorem sz77 : (Tryd.prog.info? 77).map (·.size) = some 1 := by kernel_rfl
theorem el78 : ElT Tryd.prog 78 .nilFunc 1 8 := by unfold ElT; kernel_rfl
theorem sz78 : (Tryd.prog.info? 78).map (·.size) = some 1 := by kernel_rfl
theorem el79 : ElT Tryd.prog 79 (.agg #[(.slice none 0 0), (.map none)]) 2 32 := by unfold ElT; kernel_rfl
theorem sz79 : (Tryd.prog.info? 79).map (·.size) = some 2 := by kernel_rfl
theorem ag79 : AggT Tryd.prog 79 2 := ⟨by kernel_rfl, by kernel_rfl⟩
theorem fd79_0 : FldT Tryd.prog 79 0 0 := FldT.of (by kernel_rfl)
theorem fd79_1 : FldT Tryd.prog 79 1 1 := FldT.of (by kernel_rfl)
theorem el80 : ElT Tryd.prog 80 (.agg #[(.slice none 0 0), (.map none)]) 2 32 := by unfold ElT; kernel_rfl
theorem sz80 : (Tryd.prog.info? 80).map (·.size) = some 2 := by kernel_rfl
theorem ag80 : AggT Tryd.prog 80 2 := ⟨by kernel_rfl, by kernel_rfl⟩
theorem fd80_0 : FldT Tryd.prog 80 0 0 := FldT.of (by kernel_rfl)
theorem fd80_1 : FldT Tryd.prog 80 1 1 := FldT.of (by kernel_rfl)
theorem el81 : ElT Tryd.prog 81 .nilFunc 1 8 := by unfold ElT; kernel_rfl
theorem sz81 : (Tryd.prog.info? 81).map (·.size) = some 1 := by kernel_rfl
theorem el82 : ElT Tryd.prog 82 .nilFunc 1 8 := by unfold ElT; kernel_rfl
theorem sz82 : (Tryd.prog.info? 82).map (·.size) = some 1 := by kernel_rfl
theorem el83 : ElT Tryd.prog 83 (.map none) 1 8 := by unfold ElT; kernel_rfl
theorem sz83 : (Tryd.prog.info? 83).map (·.size) = some 1 := by kernel_rfl
theorem on83 : OneT Tryd.prog 83 := by unfold OneT; kernel_rfl
theorem mp83 : Tryd.prog.underlying 83 = some (.map 3 3) := by kernel_rfl
theorem el84 : ElT Tryd.prog 84 (.agg #[(.slice none 0 0), (.map none)]) 2 32 := by unfold ElT; kernel_rfl
theorem sz84 : (Tryd.prog.info? 84).map (·.size) = some 2 := by kernel_rfl
theorem ag84 : AggT Tryd.prog 84 2 := ⟨by kernel_rfl, by kernel_rfl⟩
theorem fd84_0 : FldT Tryd.prog 84 0 0 := FldT.of (by kernel_rfl)
theorem fd84_1 : FldT Tryd.prog 84 1 1 := FldT.of (by kernel_rfl)
theorem el85 : ElT Tryd.prog 85 (.agg #[(.slice none 0 0), (.map none)]) 2 32 := by unfold ElT; kernel_rfl
theorem sz85 : (Tryd.prog.info? 85).map (·.size) = some 2 := by kernel_rfl
theorem ag85 : AggT Tryd.prog 85 2 := ⟨by kernel_rfl, by kernel_rfl⟩
theorem fd85_0 : FldT Tryd.prog 85 0 0 := FldT.of (by kernel_rfl)
theorem fd85_1 : FldT Tryd.prog 85 1 1 := FldT.of (by kernel_rfl)
theorem el86 : ElT Tryd.prog 86 .nilFunc 1 8 := by unfold ElT; kernel_rfl
theorem sz86 : (Tryd.prog.info? 86).map (·.size) = some 1 := by kernel_rfl
theorem el87 : ElT Tryd.prog 87 .nilFunc 1 8 := by unfold ElT; kernel_rfl
theorem sz87 : (Tryd.prog.info? 87).map (·.size) = some 1 := by kernel_rfl
theorem el88 : ElT Tryd.prog 88 .nilFunc 1 8 := by unfold ElT; kernel_rfl
theorem sz88 : (Tryd.prog.info? 88).map (·.size) = some 1 := by kernel_rfl
theorem el89 : ElT Tryd.prog 89 (.pointer none) 1 8 := by unfold ElT; kernel_rfl
theorem sz89 : (Tryd.prog.info? 89).map (·.size) = some 1 := by kernel_rfl
theorem on89 : OneT Tryd.prog 89 := by unfold OneT; kernel_rfl
theorem el90 : ElT Tryd.prog 90 .nilFunc 1 8 := by unfold ElT; kernel_rfl
theorem sz90 : (Tryd.prog.info? 90).map (·.size) = some 1 := by kernel_rfl
theorem el91 : ElT Tryd.prog 91 (.pointer none) 1 8 := by unfold ElT; kernel_rfl
theorem sz91 : (Tryd.prog.info? 91).map (·.size) = some 1 := by kernel_rfl
theorem on91 : OneT Tryd.prog 91 := by unfold OneT; kernel_rfl
theorem el92 : ElT Tryd.prog 92 (.pointer none) 1 8 := by unfold ElT; kernel_rfl
theorem sz92 : (Tryd.prog.info? 92).map (·.size) = some 1 := by kernel_rfl
theorem on92 : OneT Tryd.prog 92 := by unfold OneT; kernel_rfl
theorem el93 : ElT Tryd.prog 93 (.agg #[(.int .u8 0), (.int .u8 0), (.int .u8 0), (.int .u8 0), (.int .u8 0), (.int .u8 0), (.int .u8 0), (.int .u8 0), (.int .u8 0), (.int .u8 0), (.int .u8 0), (.int .u8 0), (.int .u8 0), (.int .u8 0), (.int .u8 0), (.int .u8 0), (.int .u8 0), (.int .u8 0), (.int .u8 0), (.int .u8 0), (.int .u8 0), (.int .u8 0), (.int .u8 0), (.int .u8 0), (.int .u8 0), (.int .u8 0), (.int .u8 0), (.int .u8 0), (.int .u8 0), (.int .u8 0), (.int .u8 0), (.int .u8 0), (.int .u8 0), (.int .u8 0), (.int .u8 0), (.int .u8 0), (.int .u8 0), (.int .u8 0), (.int .u8 0), (.int .u8 0), (.int .u8 0), (.int .u8 0), (.int .u8 0), (.int .u8 0), (.int .u8 0), (.int .u8 0), (.int .u8 0), (.int .u8 0), (.int .u8 0), (.int .u8 0), (.int .u8 0), (.int .u8 0), (.int .u8 0), (.int .u8 0), (.int .u8 0), (.int .u8 0), (.int .u8 0), (.int .u8 0), (.int .u8 0), (.int .u8 0), (.int .u8 0), (.int .u8 0), (.int .u8 0), (.int .u8 0)]) 64 64 := by unfold ElT; kernel_rfl
theorem sz93 : (Tryd.prog.info? 93).map (·.size) = some 64 := by kernel_rfl
theorem ag93 : AggT Tryd.prog 93 64 := ⟨by kernel_rfl, by kernel_rfl⟩
theorem ar93 : ArrT Tryd.prog 93 5 64 1 := ⟨by kernel_rfl, by kernel_rfl⟩
theorem el94 : ElT Tryd.prog 94 .nilFunc 1 8 := by unfold ElT; kernel_rfl
theorem sz94 : (Tryd.prog.info? 94).map (·.size) = some 1 := by kernel_rfl
theorem el95 : ElT Tryd.prog 95 (.agg #[(.pointer none), (.pointer none), (.pointer none), (.string ByteArray.empty)]) 4 40 := by unfold ElT; kernel_rfl
theorem sz95 : (Tryd.prog.info? 95).map (·.size) = some 4 := by kernel_rfl
theorem ag95 : AggT Tryd.prog 95 4 := ⟨by kernel_rfl, by kernel_rfl⟩
theorem fd95_0 : FldT Tryd.prog 95 0 0 := FldT.of (by kernel_rfl)
theorem fd95_1 : FldT Tryd.prog 95 1 1 := FldT.of (by kernel_rfl)
theorem fd95_2 : FldT Tryd.prog 95 2 2 := FldT.of (by kernel_rfl)
theorem fd95_3 : FldT Tryd.prog 95 3 3 := FldT.of (by kernel_rfl)
theorem el96 : ElT Tryd.prog 96 (.agg #[(.pointer none), (.pointer none), (.pointer none), (.string ByteArray.empty)]) 4 40 := by unfold ElT; kernel_rfl
theorem sz96 : (Tryd.prog.info? 96).map (·.size) = some 4 := by kernel_rfl
theorem ag96 : AggT Tryd.prog 96 4 := ⟨by kernel_rfl, by kernel_rfl⟩
theorem fd96_0 : FldT Tryd.prog 96 0 0 := FldT.of (by kernel_rfl)
theorem fd96_1 : FldT Tryd.prog 96 1 1 := FldT.of (by kernel_rfl)
theorem fd96_2 : FldT Tryd.prog 96 2 2 := FldT.of (by kernel_rfl)
theorem fd96_3 : FldT Tryd.prog 96 3 3 := FldT.of (by kernel_rfl)
theorem ag97 : AggT Tryd.prog 97 0 := ⟨by kernel_rfl, by kernel_rfl⟩
theorem ar97 : ArrT Tryd.prog 97 16 0 1 := ⟨by kernel_rfl, by kernel_rfl⟩
theorem ag98 : AggT Tryd.prog 98 0 := ⟨by kernel_rfl, by kernel_rfl⟩
theorem ag99 : AggT Tryd.prog 99 0 := ⟨by kernel_rfl, by kernel_rfl⟩
theorem el100 : ElT Tryd.prog 100 .nilFunc 1 8 := by unfold ElT; kernel_rfl
theorem sz100 : (Tryd.prog.info? 100).map (·.size) = some 1 := by kernel_rfl
theorem el101 : ElT Tryd.prog 101 (.int .u32 0) 1 4 := by unfold ElT; kernel_rfl
theorem sz101 : (Tryd.prog.info? 101).map (·.size) = some 1 := by kernel_rfl
theorem on101 : OneT Tryd.prog 101 := by unfold OneT; kernel_rfl
theorem un101 : Tryd.prog.underlying 101 = some (.int .u32) := by kernel_rfl
theorem el102 : ElT Tryd.prog 102 (.int .u8 0) 1 1 := by unfold ElT; kernel_rfl
theorem sz102 : (Tryd.prog.info? 102).map (·.size) = some 1 := by kernel_rfl
theorem on102 : OneT Tryd.prog 102 := by unfold OneT; kernel_rfl
theorem un102 : Tryd.prog.underlying 102 = some (.int .u8) := by kernel_rfl
theorem el103 : ElT Tryd.prog 103 (.int .u8 0) 1 1 := by unfold ElT; kernel_rfl
theorem sz103 : (Tryd.prog.info? 103).map (·.size) = some 1 := by kernel_rfl
theorem on103 : OneT Tryd.prog 103 := by unfold OneT; kernel_rfl
theorem un103 : Tryd.prog.underlying 103 = some (.int .u8) := by kernel_rfl
theorem el104 : ElT Tryd.prog 104 .nilFunc 1 8 := by unfold ElT; kernel_rfl
theorem sz104 : (Tryd.prog.info? 104).map (·.size) = some 1 := by kernel_rfl
theorem el105 : ElT Tryd.prog 105 (.pointer none) 1 8 := by unfold ElT; kernel_rfl
theorem sz105 : (Tryd.prog.info? 105).map (·.size) = some 1 := by kernel_rfl
theorem on105 : OneT Tryd.prog 105 := by unfold OneT; kernel_rfl
theorem el106 : ElT Tryd.prog 106 (.int .i32 0) 1 4 := by unfold ElT; kernel_rfl
theorem sz106 : (Tryd.prog.info? 106).map (·.size) = some 1 := by kernel_rfl
theorem on106 : OneT Tryd.prog 106 := by unfold OneT; kernel_rfl
theorem un106 : Tryd.prog.underlying 106 = some (.int .i32) := by kernel_rfl
theorem el107 : ElT Tryd.prog 107 (.int .i32 0) 1 4 := by unfold ElT; kernel_rfl
theorem sz107 : (Tryd.prog.info? 107).map (·.size) = some 1 := by kernel_rfl
theorem on107 : OneT Tryd.prog 107 := by unfold OneT; kernel_rfl
theorem un107 : Tryd.prog.underlying 107 = some (.int .i32) := by kernel_rfl
theorem el108 : ElT Tryd.prog 108 (.agg #[(.int .u64 0), (.int .u64 0), (.int .u32 0), (.int .u8 0), (.int .u8 0), (.int .u8 0), (.int .u8 0), .nilFunc, (.pointer none), (.int .i32 0), (.int .i32 0)]) 11 48 := by unfold ElT; kernel_rfl
theorem sz108 : (Tryd.prog.info? 108).map (·.size) = some 11 := by kernel_rfl
theorem ag108 : AggT Tryd.prog 108 11 := ⟨by kernel_rfl, by kernel_rfl⟩
theorem fd108_0 : FldT Tryd.prog 108 0 0 := FldT.of (by kernel_rfl)
theorem fd108_1 : FldT Tryd.prog 108 1 1 := FldT.of (by kernel_rfl)
theorem fd108_2 : FldT Tryd.prog 108 2 2 := FldT.of (by kernel_rfl)
theorem fd108_3 : FldT Tryd.prog 108 3 3 := FldT.of (by kernel_rfl)
theorem fd108_4 : FldT Tryd.prog 108 4 4 := FldT.of (by kernel_rfl)
theorem fd108_5 : FldT Tryd.prog 108 5 5 := FldT.of (by kernel_rfl)
theorem fd108_6 : FldT Tryd.prog 108 6 6 := FldT.of (by kernel_rfl)
theorem fd108_7 : FldT Tryd.prog 108 7 7 := FldT.of (by kernel_rfl)
theorem fd108_8 : FldT Tryd.prog 108 8 8 := FldT.of (by kernel_rfl)
theorem fd108_9 : FldT Tryd.prog 108 9 9 := FldT.of (by kernel_rfl)
theorem fd108_10 : FldT Tryd.prog 108 10 10 := FldT.of (by kernel_rfl)
theorem el109 : ElT Tryd.prog 109 (.agg #[(.int .u64 0), (.int .u64 0), (.int .u32 0), (.int .u8 0), (.int .u8 0), (.int .u8 0), (.int .u8 0), .nilFunc, (.pointer none), (.int .i32 0), (.int .i32 0)]) 11 48 := by unfold ElT; kernel_rfl
theorem sz109 : (Tryd.prog.info? 109).map (·.size) = some 11 := by kernel_rfl
theorem ag109 : AggT Tryd.prog 109 11 := ⟨by kernel_rfl, by kernel_rfl⟩
theorem fd109_0 : FldT Tryd.prog 109 0 0 := FldT.of (by kernel_rfl)
theorem fd109_1 : FldT Tryd.prog 109 1 1 := FldT.of (by kernel_rfl)
theorem fd109_2 : FldT Tryd.prog 109 2 2 := FldT.of (by kernel_rfl)
theorem fd109_3 : FldT Tryd.prog 109 3 3 := FldT.of (by kernel_rfl)
theorem fd109_4 : FldT Tryd.prog 109 4 4 := FldT.of (by kernel_rfl)
theorem fd109_5 : FldT Tryd.prog 109 5 5 := FldT.of (by kernel_rfl)
theorem fd109_6 : FldT Tryd.prog 109 6 6 := FldT.of (by kernel_rfl)
theorem fd109_7 : FldT Tryd.prog 109 7 7 := FldT.of (by kernel_rfl)
theorem fd109_8 : FldT Tryd.prog 109 8 8 := FldT.of (by kernel_rfl)
theorem fd109_9 : FldT Tryd.prog 109 9 9 := FldT.of (by kernel_rfl)
theorem fd109_10 : FldT Tryd.prog 109 10 10 := FldT.of (by kernel_rfl)
theorem el110 : ElT Tryd.prog 110 (.pointer none) 1 8 := by unfold ElT; kernel_rfl
theorem sz110 : (Tryd.prog.info? 110).map (·.size) = some 1 := by kernel_rfl
theorem on110 : OneT Tryd.prog 110 := by unfold OneT; kernel_rfl
theorem co2 : CallOk Tryd.prog 2 := by unfold CallOk; kernel_rfl
theorem co3 : CallOk Tryd.prog 3 := by unfold CallOk; kernel_rfl
theorem co4 : CallOk Tryd.prog 4 := by unfold CallOk; kernel_rfl
theorem co5 : CallOk Tryd.prog 5 := by unfold CallOk; kernel_rfl
theorem co6 : CallOk Tryd.prog 6 := by unfold CallOk; kernel_rfl
theorem co7 : CallOk Tryd.prog 7 := by unfold CallOk; kernel_rfl
theorem co8 : CallOk Tryd.prog 8 := by unfold CallOk; kernel_rfl
theorem co9 : CallOk Tryd.prog 9 := by unfold CallOk; kernel_rfl
theorem co10 : CallOk Tryd.prog 10 := by unfold CallOk; kernel_rfl
theorem co11 : CallOk Tryd.prog 11 := by unfold CallOk; kernel_rfl
theorem co12 : CallOk Tryd.prog 12 := by unfold CallOk; kernel_rfl
theorem co13 : CallOk Tryd.prog 13 := by unfold CallOk; kernel_rfl
theorem co14 : CallOk Tryd.prog 14 := by unfold CallOk; kernel_rfl
theorem co15 : CallOk Tryd.prog 15 := by unfold CallOk; kernel_rfl
theorem co16 : CallOk Tryd.prog 16 := by unfold CallOk; kernel_rfl
theorem co17 : CallOk Tryd.prog 17 := by unfold CallOk; kernel_rfl
theorem co18 : CallOk Tryd.prog 18 := by unfold CallOk; kernel_rfl
theorem co19 : CallOk Tryd.prog 19 := by unfold CallOk; kernel_rfl
theorem co20 : CallOk Tryd.prog 20 := by unfold CallOk; kernel_rfl
theorem co21 : CallOk Tryd.prog 21 := by unfold CallOk; kernel_rfl
theorem co22 : CallOk Tryd.prog 22 := by unfold CallOk; kernel_rfl
theorem co23 : CallOk Tryd.prog 23 := by unfold CallOk; kernel_rfl
theorem co24 : CallOk Tryd.prog 24 := by unfold CallOk; kernel_rfl
theorem co25 : CallOk Tryd.prog 25 := by unfold CallOk; kernel_rfl
theorem co26 : CallOk Tryd.prog 26 := by unfold CallOk; kernel_rfl
theorem co27 : CallOk Tryd.prog 27 := by unfold CallOk; kernel_rfl
theorem co28 : CallOk Tryd.prog 28 := by unfold CallOk; kernel_rfl
theorem co29 : CallOk Tryd.prog 29 := by unfold CallOk; kernel_rfl
theorem co30 : CallOk Tryd.prog 30 := by unfold CallOk; kernel_rfl
theorem co31 : CallOk Tryd.prog 31 := by unfold CallOk; kernel_rfl
theorem co32 : CallOk Tryd.prog 32 := by unfold CallOk; kernel_rfl
theorem co33 : CallOk Tryd.prog 33 := by unfold CallOk; kernel_rfl
theorem co34 : CallOk Tryd.prog 34 := by unfold CallOk; kernel_rfl
theorem co35 : CallOk Tryd.prog 35 := by unfold CallOk; kernel_rfl
theorem co36 : CallOk Tryd.prog 36 := by unfold CallOk; kernel_rfl
theorem co37 : CallOk Tryd.prog 37 := by unfold CallOk; kernel_rfl
theorem co38 : CallOk Tryd.prog 38 := by unfold CallOk; kernel_rfl
theorem co39 : CallOk Tryd.prog 39 := by unfold CallOk; kernel_rfl
theorem co40 : CallOk Tryd.prog 40 := by unfold CallOk; kernel_rfl
theorem co41 : CallOk Tryd.prog 41 := by unfold CallOk; kernel_rfl
theorem co42 : CallOk Tryd.prog 42 := by unfold CallOk; kernel_rfl
theorem co43 : CallOk Tryd.prog 43 := by unfold CallOk; kernel_rfl
theorem co44 : CallOk Tryd.prog 44 := by unfold CallOk; kernel_rfl
theorem co45 : CallOk Tryd.prog 45 := by unfold CallOk; kernel_rfl
theorem co46 : CallOk Tryd.prog 46 := by unfold CallOk; kernel_rfl
theorem co47 : CallOk Tryd.prog 47 := by unfold CallOk; kernel_rfl
theorem co48 : CallOk Tryd.prog 48 := by unfold CallOk; kernel_rfl
theorem co49 : CallOk Tryd.prog 49 := by unfold CallOk; kernel_rfl
theorem co50 : CallOk Tryd.prog 50 := by unfold CallOk; kernel_rfl
theorem co51 : CallOk Tryd.prog 51 := by unfold CallOk; kernel_rfl
theorem co52 : CallOk Tryd.prog 52 := by unfold CallOk; kernel_rfl
theorem co72 : CallOk Tryd.prog 72 := by unfold CallOk; kernel_rfl
theorem mixed : Tryd.prog.follows .mixedOrders = true := by kernel_rfl
end Go.Proofs.YtckicbgffhbacaaDoor
