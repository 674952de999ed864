import Derived.Test.YtaeojcaidcjnaaaProg
import Derived.Test.YtaeojcaidcjnaaaS2
import Derived.KernelRfl
namespace Go.Proofs.Ytaeojcaidcjnaaa
open Go.Sx
theorem el0 : ElT Try.prog 0 (.tuple #[]) 1 0 := by unfold ElT; kernel_rfl
theorem sz0 : (Try.prog.info? 0).map (·.size) = some 1 := by kernel_rfl
theorem el1 : ElT Try.prog 1 .nilFunc 1 8 := by unfold ElT; kernel_rfl
theorem sz1 : (Try.prog.info? 1).map (·.size) = some 1 := by kernel_rfl
theorem el2 : ElT Try.prog 2 (.int .i64 0) 1 8 := by unfold ElT; kernel_rfl
theorem sz2 : (Try.prog.info? 2).map (·.size) = some 1 := by kernel_rfl
theorem on2 : OneT Try.prog 2 := by unfold OneT; kernel_rfl
theorem un2 : Try.prog.underlying 2 = some (.int .i64) := by kernel_rfl
theorem el3 : ElT Try.prog 3 (.int .i64 0) 1 8 := by unfold ElT; kernel_rfl
theorem sz3 : (Try.prog.info? 3).map (·.size) = some 1 := by kernel_rfl
theorem on3 : OneT Try.prog 3 := by unfold OneT; kernel_rfl
theorem un3 : Try.prog.underlying 3 = some (.int .i64) := by kernel_rfl
theorem el4 : ElT Try.prog 4 (.bool false) 1 1 := by unfold ElT; kernel_rfl
theorem sz4 : (Try.prog.info? 4).map (·.size) = some 1 := by kernel_rfl
theorem on4 : OneT Try.prog 4 := by unfold OneT; kernel_rfl
theorem bo4 : Try.prog.underlying 4 = some .bool := by kernel_rfl
theorem el5 : ElT Try.prog 5 (.int .u8 0) 1 1 := by unfold ElT; kernel_rfl
theorem sz5 : (Try.prog.info? 5).map (·.size) = some 1 := by kernel_rfl
theorem on5 : OneT Try.prog 5 := by unfold OneT; kernel_rfl
theorem un5 : Try.prog.underlying 5 = some (.int .u8) := by kernel_rfl
theorem el6 : ElT Try.prog 6 (.int .u8 0) 1 1 := by unfold ElT; kernel_rfl
theorem sz6 : (Try.prog.info? 6).map (·.size) = some 1 := by kernel_rfl
theorem on6 : OneT Try.prog 6 := by unfold OneT; kernel_rfl
theorem un6 : Try.prog.underlying 6 = some (.int .u8) := by kernel_rfl
theorem el7 : ElT Try.prog 7 (.agg #[(.int .i64 0), (.int .i64 0), (.bool false), (.int .u8 0)]) 4 24 := by unfold ElT; kernel_rfl
theorem sz7 : (Try.prog.info? 7).map (·.size) = some 4 := by kernel_rfl
theorem ag7 : AggT Try.prog 7 4 := ⟨by kernel_rfl, by kernel_rfl⟩
theorem fd7_0 : FldT Try.prog 7 0 0 := FldT.of (by kernel_rfl)
theorem fd7_1 : FldT Try.prog 7 1 1 := FldT.of (by kernel_rfl)
theorem fd7_2 : FldT Try.prog 7 2 2 := FldT.of (by kernel_rfl)
theorem fd7_3 : FldT Try.prog 7 3 3 := FldT.of (by kernel_rfl)
theorem el8 : ElT Try.prog 8 (.agg #[(.int .i64 0), (.int .i64 0), (.bool false), (.int .u8 0)]) 4 24 := by unfold ElT; kernel_rfl
theorem sz8 : (Try.prog.info? 8).map (·.size) = some 4 := by kernel_rfl
theorem ag8 : AggT Try.prog 8 4 := ⟨by kernel_rfl, by kernel_rfl⟩
theorem fd8_0 : FldT Try.prog 8 0 0 := FldT.of (by kernel_rfl)
theorem fd8_1 : FldT Try.prog 8 1 1 := FldT.of (by kernel_rfl)
theorem fd8_2 : FldT Try.prog 8 2 2 := FldT.of (by kernel_rfl)
theorem fd8_3 : FldT Try.prog 8 3 3 := FldT.of (by kernel_rfl)
theorem el9 : ElT Try.prog 9 (.string ByteArray.empty) 1 16 := by unfold ElT; kernel_rfl
theorem sz9 : (Try.prog.info? 9).map (·.size) = some 1 := by kernel_rfl
theorem on9 : OneT Try.prog 9 := by unfold OneT; kernel_rfl
theorem un9 : Try.prog.underlying 9 = some .string := by kernel_rfl
theorem el10 : ElT Try.prog 10 (.string ByteArray.empty) 1 16 := by unfold ElT; kernel_rfl
theorem sz10 : (Try.prog.info? 10).map (·.size) = some 1 := by kernel_rfl
theorem on10 : OneT Try.prog 10 := by unfold OneT; kernel_rfl
theorem un10 : Try.prog.underlying 10 = some .string := by kernel_rfl
theorem el11 : ElT Try.prog 11 (.string ByteArray.empty) 1 16 := by unfold ElT; kernel_rfl
theorem sz11 : (Try.prog.info? 11).map (·.size) = some 1 := by kernel_rfl
theorem on11 : OneT Try.prog 11 := by unfold OneT; kernel_rfl
theorem un11 : Try.prog.underlying 11 = some .string := by kernel_rfl
theorem el12 : ElT Try.prog 12 (.int .u64 0) 1 8 := by unfold ElT; kernel_rfl
theorem sz12 : (Try.prog.info? 12).map (·.size) = some 1 := by kernel_rfl
theorem on12 : OneT Try.prog 12 := by unfold OneT; kernel_rfl
theorem un12 : Try.prog.underlying 12 = some (.int .u64) := by kernel_rfl
theorem el13 : ElT Try.prog 13 (.agg #[(.string ByteArray.empty), (.int .u64 0)]) 2 24 := by unfold ElT; kernel_rfl
theorem sz13 : (Try.prog.info? 13).map (·.size) = some 2 := by kernel_rfl
theorem ag13 : AggT Try.prog 13 2 := ⟨by kernel_rfl, by kernel_rfl⟩
theorem fd13_0 : FldT Try.prog 13 0 0 := FldT.of (by kernel_rfl)
theorem fd13_1 : FldT Try.prog 13 1 1 := FldT.of (by kernel_rfl)
theorem el14 : ElT Try.prog 14 (.agg #[(.string ByteArray.empty), (.int .u64 0)]) 2 24 := by unfold ElT; kernel_rfl
theorem sz14 : (Try.prog.info? 14).map (·.size) = some 2 := by kernel_rfl
theorem ag14 : AggT Try.prog 14 2 := ⟨by kernel_rfl, by kernel_rfl⟩
theorem fd14_0 : FldT Try.prog 14 0 0 := FldT.of (by kernel_rfl)
theorem fd14_1 : FldT Try.prog 14 1 1 := FldT.of (by kernel_rfl)
theorem el15 : ElT Try.prog 15 (.pointer none) 1 8 := by unfold ElT; kernel_rfl
theorem sz15 : (Try.prog.info? 15).map (·.size) = some 1 := by kernel_rfl
theorem on15 : OneT Try.prog 15 := by unfold OneT; kernel_rfl
theorem el16 : ElT Try.prog 16 (.pointer none) 1 8 := by unfold ElT; kernel_rfl
theorem sz16 : (Try.prog.info? 16).map (·.size) = some 1 := by kernel_rfl
theorem on16 : OneT Try.prog 16 := by unfold OneT; kernel_rfl
theorem el17 : ElT Try.prog 17 (.pointer none) 1 8 := by unfold ElT; kernel_rfl
theorem sz17 : (Try.prog.info? 17).map (·.size) = some 1 := by kernel_rfl
theorem on17 : OneT Try.prog 17 := by unfold OneT; kernel_rfl
theorem el18 : ElT Try.prog 18 (.agg #[(.pointer none)]) 1 8 := by unfold ElT; kernel_rfl
theorem sz18 : (Try.prog.info? 18).map (·.size) = some 1 := by kernel_rfl
theorem ag18 : AggT Try.prog 18 1 := ⟨by kernel_rfl, by kernel_rfl⟩
theorem fd18_0 : FldT Try.prog 18 0 0 := FldT.of (by kernel_rfl)
theorem el19 : ElT Try.prog 19 (.agg #[(.pointer none)]) 1 8 := by unfold ElT; kernel_rfl
theorem sz19 : (Try.prog.info? 19).map (·.size) = some 1 := by kernel_rfl
theorem ag19 : AggT Try.prog 19 1 := ⟨by kernel_rfl, by kernel_rfl⟩
theorem fd19_0 : FldT Try.prog 19 0 0 := FldT.of (by kernel_rfl)
theorem el20 : ElT Try.prog 20 .nilIface 1 16 := by unfold ElT; kernel_rfl
theorem sz20 : (Try.prog.info? 20).map (·.size) = some 1 := by kernel_rfl
theorem on20 : OneT Try.prog 20 := by unfold OneT; kernel_rfl
theorem el21 : ElT Try.prog 21 (.int .i32 0) 1 4 := by unfold ElT; kernel_rfl
theorem sz21 : (Try.prog.info? 21).map (·.size) = some 1 := by kernel_rfl
theorem on21 : OneT Try.prog 21 := by unfold OneT; kernel_rfl
theorem un21 : Try.prog.underlying 21 = some (.int .i32) := by kernel_rfl
theorem sl22 : SlT Try.prog 22 41 2 := ⟨by kernel_rfl, by kernel_rfl⟩
theorem el22 : ElT Try.prog 22 (.slice none 0 0) 1 24 := by unfold ElT; kernel_rfl
theorem sz22 : (Try.prog.info? 22).map (·.size) = some 1 := by kernel_rfl
theorem on22 : OneT Try.prog 22 := by unfold OneT; kernel_rfl
theorem el23 : ElT Try.prog 23 (.int .i64 0) 1 8 := by unfold ElT; kernel_rfl
theorem sz23 : (Try.prog.info? 23).map (·.size) = some 1 := by kernel_rfl
theorem on23 : OneT Try.prog 23 := by unfold OneT; kernel_rfl
theorem un23 : Try.prog.underlying 23 = some (.int .i64) := by kernel_rfl
theorem el24 : ElT Try.prog 24 .nilFunc 1 8 := by unfold ElT; kernel_rfl
theorem sz24 : (Try.prog.info? 24).map (·.size) = some 1 := by kernel_rfl
theorem el25 : ElT Try.prog 25 .nilFunc 1 8 := by unfold ElT; kernel_rfl
theorem sz25 : (Try.prog.info? 25).map (·.size) = some 1 := by kernel_rfl
theorem el26 : ElT Try.prog 26 .nilFunc 1 8 := by unfold ElT; kernel_rfl
theorem sz26 : (Try.prog.info? 26).map (·.size) = some 1 := by kernel_rfl
theorem el27 : ElT Try.prog 27 (.tuple #[(.string ByteArray.empty), (.int .i64 0)]) 1 0 := by unfold ElT; kernel_rfl
theorem sz27 : (Try.prog.info? 27).map (·.size) = some 1 := by kernel_rfl
theorem el28 : ElT Try.prog 28 .nilFunc 1 8 := by unfold ElT; kernel_rfl
theorem sz28 : (Try.prog.info? 28).map (·.size) = some 1 := by kernel_rfl
theorem el29 : ElT Try.prog 29 .nilFunc 1 8 := by unfold ElT; kernel_rfl
theorem sz29 : (Try.prog.info? 29).map (·.size) = some 1 := by kernel_rfl
theorem el30 : ElT Try.prog 30 .nilFunc 1 8 := by unfold ElT; kernel_rfl
theorem sz30 : (Try.prog.info? 30).map (·.size) = some 1 := by kernel_rfl
theorem el31 : ElT Try.prog 31 .nilFunc 1 8 := by unfold ElT; kernel_rfl
theorem sz31 : (Try.prog.info? 31).map (·.size) = some 1 := by kernel_rfl
theorem el32 : ElT Try.prog 32 .nilFunc 1 8 := by unfold ElT; kernel_rfl
theorem sz32 : (Try.prog.info? 32).map (·.size) = some 1 := by kernel_rfl
theorem sl33 : SlT Try.prog 33 4 1 := ⟨by kernel_rfl, by kernel_rfl⟩
theorem el33 : ElT Try.prog 33 (.slice none 0 0) 1 24 := by unfold ElT; kernel_rfl
theorem sz33 : (Try.prog.info? 33).map (·.size) = some 1 := by kernel_rfl
theorem on33 : OneT Try.prog 33 := by unfold OneT; kernel_rfl
theorem sl34 : SlT Try.prog 34 74 1 := ⟨by kernel_rfl, by kernel_rfl⟩
theorem el34 : ElT Try.prog 34 (.slice none 0 0) 1 24 := by unfold ElT; kernel_rfl
theorem sz34 : (Try.prog.info? 34).map (·.size) = some 1 := by kernel_rfl
theorem on34 : OneT Try.prog 34 := by unfold OneT; kernel_rfl
theorem el35 : ElT Try.prog 35 (.agg #[(.int .i64 0), (.int .i64 0), (.slice none 0 0), (.slice none 0 0)]) 4 64 := by unfold ElT; kernel_rfl
theorem sz35 : (Try.prog.info? 35).map (·.size) = some 4 := by kernel_rfl
theorem ag35 : AggT Try.prog 35 4 := ⟨by kernel_rfl, by kernel_rfl⟩
theorem fd35_0 : FldT Try.prog 35 0 0 := FldT.of (by kernel_rfl)
theorem fd35_1 : FldT Try.prog 35 1 1 := FldT.of (by kernel_rfl)
theorem fd35_2 : FldT Try.prog 35 2 2 := FldT.of (by kernel_rfl)
theorem fd35_3 : FldT Try.prog 35 3 3 := FldT.of (by kernel_rfl)
theorem el36 : ElT Try.prog 36 (.agg #[(.int .i64 0), (.int .i64 0), (.slice none 0 0), (.slice none 0 0)]) 4 64 := by unfold ElT; kernel_rfl
theorem sz36 : (Try.prog.info? 36).map (·.size) = some 4 := by kernel_rfl
theorem ag36 : AggT Try.prog 36 4 := ⟨by kernel_rfl, by kernel_rfl⟩
theorem fd36_0 : FldT Try.prog 36 0 0 := FldT.of (by kernel_rfl)
theorem fd36_1 : FldT Try.prog 36 1 1 := FldT.of (by kernel_rfl)
theorem fd36_2 : FldT Try.prog 36 2 2 := FldT.of (by kernel_rfl)
theorem fd36_3 : FldT Try.prog 36 3 3 := FldT.of (by kernel_rfl)
theorem el37 : ElT Try.prog 37 (.tuple #[(.agg #[(.int .i64 0), (.int .i64 0), (.slice none 0 0), (.slice none 0 0)]), (.int .i64 0)]) 1 0 := by unfold ElT; kernel_rfl
theorem sz37 : (Try.prog.info? 37).map (·.size) = some 1 := by kernel_rfl
theorem el38 : ElT Try.prog 38 .nilFunc 1 8 := by unfold ElT; kernel_rfl
theorem sz38 : (Try.prog.info? 38).map (·.size) = some 1 := by kernel_rfl
theorem el39 : ElT Try.prog 39 .nilFunc 1 8 := by unfold ElT; kernel_rfl
theorem sz39 : (Try.prog.info? 39).map (·.size) = some 1 := by kernel_rfl
theorem el40 : ElT Try.prog 40 (.agg #[(.string ByteArray.empty), (.string ByteArray.empty)]) 2 32 := by unfold ElT; kernel_rfl
theorem sz40 : (Try.prog.info? 40).map (·.size) = some 2 := by kernel_rfl
theorem ag40 : AggT Try.prog 40 2 := ⟨by kernel_rfl, by kernel_rfl⟩
theorem fd40_0 : FldT Try.prog 40 0 0 := FldT.of (by kernel_rfl)
theorem fd40_1 : FldT Try.prog 40 1 1 := FldT.of (by kernel_rfl)
theorem el41 : ElT Try.prog 41 (.agg #[(.string ByteArray.empty), (.string ByteArray.empty)]) 2 32 := by unfold ElT; kernel_rfl
theorem sz41 : (Try.prog.info? 41).map (·.size) = some 2 := by kernel_rfl
theorem ag41 : AggT Try.prog 41 2 := ⟨by kernel_rfl, by kernel_rfl⟩
theorem fd41_0 : FldT Try.prog 41 0 0 := FldT.of (by kernel_rfl)
theorem fd41_1 : FldT Try.prog 41 1 1 := FldT.of (by kernel_rfl)
theorem sl42 : SlT Try.prog 42 45 3 := ⟨by kernel_rfl, by kernel_rfl⟩
theorem el42 : ElT Try.prog 42 (.slice none 0 0) 1 24 := by unfold ElT; kernel_rfl
theorem sz42 : (Try.prog.info? 42).map (·.size) = some 1 := by kernel_rfl
theorem on42 : OneT Try.prog 42 := by unfold OneT; kernel_rfl
theorem el43 : ElT Try.prog 43 .nilFunc 1 8 := by unfold ElT; kernel_rfl
theorem sz43 : (Try.prog.info? 43).map (·.size) = some 1 := by kernel_rfl
theorem el44 : ElT Try.prog 44 (.agg #[(.string ByteArray.empty), (.string ByteArray.empty), (.string ByteArray.empty)]) 3 48 := by unfold ElT; kernel_rfl
theorem sz44 : (Try.prog.info? 44).map (·.size) = some 3 := by kernel_rfl
theorem ag44 : AggT Try.prog 44 3 := ⟨by kernel_rfl, by kernel_rfl⟩
theorem fd44_0 : FldT Try.prog 44 0 0 := FldT.of (by kernel_rfl)
theorem fd44_1 : FldT Try.prog 44 1 1 := FldT.of (by kernel_rfl)
theorem fd44_2 : FldT Try.prog 44 2 2 := FldT.of (by kernel_rfl)
theorem el45 : ElT Try.prog 45 (.agg #[(.string ByteArray.empty), (.string ByteArray.empty), (.string ByteArray.empty)]) 3 48 := by unfold ElT; kernel_rfl
theorem sz45 : (Try.prog.info? 45).map (·.size) = some 3 := by kernel_rfl
theorem ag45 : AggT Try.prog 45 3 := ⟨by kernel_rfl, by kernel_rfl⟩
theorem fd45_0 : FldT Try.prog 45 0 0 := FldT.of (by kernel_rfl)
theorem fd45_1 : FldT Try.prog 45 1 1 := FldT.of (by kernel_rfl)
theorem fd45_2 : FldT Try.prog 45 2 2 := FldT.of (by kernel_rfl)
theorem el46 : ElT Try.prog 46 .nilFunc 1 8 := by unfold ElT; kernel_rfl
theorem sz46 : (Try.prog.info? 46).map (·.size) = some 1 := by kernel_rfl
theorem el47 : ElT Try.prog 47 (.tuple #[(.agg #[(.string ByteArray.empty), (.string ByteArray.empty), (.string ByteArray.empty)]), (.bool false), (.int .i64 0)]) 1 0 := by unfold ElT; kernel_rfl
theorem sz47 : (Try.prog.info? 47).map (·.size) = some 1 := by kernel_rfl
theorem el48 : ElT Try.prog 48 .nilFunc 1 8 := by unfold ElT; kernel_rfl
theorem sz48 : (Try.prog.info? 48).map (·.size) = some 1 := by kernel_rfl
theorem el49 : ElT Try.prog 49 .nilFunc 1 8 := by unfold ElT; kernel_rfl
theorem sz49 : (Try.prog.info? 49).map (·.size) = some 1 := by kernel_rfl
theorem el50 : ElT Try.prog 50 .nilFunc 1 8 := by unfold ElT; kernel_rfl
theorem sz50 : (Try.prog.info? 50).map (·.size) = some 1 := by kernel_rfl
theorem el51 : ElT Try.prog 51 .nilFunc 1 8 := by unfold ElT; kernel_rfl
theorem sz51 : (Try.prog.info? 51).map (·.size) = some 1 := by kernel_rfl
theorem el52 : ElT Try.prog 52 .nilFunc 1 8 := by unfold ElT; kernel_rfl
theorem sz52 : (Try.prog.info? 52).map (·.size) = some 1 := by kernel_rfl
theorem sl53 : SlT Try.prog 53 9 1 := ⟨by kernel_rfl, by kernel_rfl⟩
theorem el53 : ElT Try.prog 53 (.slice none 0 0) 1 24 := by unfold ElT; kernel_rfl
theorem sz53 : (Try.prog.info? 53).map (·.size) = some 1 := by kernel_rfl
theorem on53 : OneT Try.prog 53 := by unfold OneT; kernel_rfl
theorem el54 : ElT Try.prog 54 (.tuple #[(.slice none 0 0), (.slice none 0 0), (.int .i64 0)]) 1 0 := by unfold ElT; kernel_rfl
theorem sz54 : (Try.prog.info? 54).map (·.size) = some 1 := by kernel_rfl
theorem el55 : ElT Try.prog 55 .nilFunc 1 8 := by unfold ElT; kernel_rfl
theorem sz55 : (Try.prog.info? 55).map (·.size) = some 1 := by kernel_rfl
theorem el56 : ElT Try.prog 56 .nilFunc 1 8 := by unfold ElT; kernel_rfl
theorem sz56 : (Try.prog.info? 56).map (·.size) = some 1 := by kernel_rfl
theorem el57 : ElT Try.prog 57 .nilFunc 1 8 := by unfold ElT; kernel_rfl
theorem sz57 : (Try.prog.info? 57).map (·.size) = some 1 := by kernel_rfl
theorem el58 : ElT Try.prog 58 .nilFunc 1 8 := by unfold ElT; kernel_rfl
theorem sz58 : (Try.prog.info? 58).map (·.size) = some 1 := by kernel_rfl
theorem el59 : ElT Try.prog 59 .nilFunc 1 8 := by unfold ElT; kernel_rfl
theorem sz59 : (Try.prog.info? 59).map (·.size) = some 1 := by kernel_rfl
theorem el60 : ElT Try.prog 60 (.pointer none) 1 8 := by unfold ElT; kernel_rfl
theorem sz60 : (Try.prog.info? 60).map (·.size) = some 1 := by kernel_rfl
theorem on60 : OneT Try.prog 60 := by unfold OneT; kernel_rfl
theorem el61 : ElT Try.prog 61 (.agg #[(.slice none 0 0), (.pointer none)]) 2 32 := by unfold ElT; kernel_rfl
theorem sz61 : (Try.prog.info? 61).map (·.size) = some 2 := by kernel_rfl
theorem ag61 : AggT Try.prog 61 2 := ⟨by kernel_rfl, by kernel_rfl⟩
theorem fd61_0 : FldT Try.prog 61 0 0 := FldT.of (by kernel_rfl)
theorem fd61_1 : FldT Try.prog 61 1 1 := FldT.of (by kernel_rfl)
theorem el62 : ElT Try.prog 62 (.agg #[(.slice none 0 0), (.pointer none)]) 2 32 := by unfold ElT; kernel_rfl
theorem sz62 : (Try.prog.info? 62).map (·.size) = some 2 := by kernel_rfl
theorem ag62 : AggT Try.prog 62 2 := ⟨by kernel_rfl, by kernel_rfl⟩
theorem fd62_0 : FldT Try.prog 62 0 0 := FldT.of (by kernel_rfl)
theorem fd62_1 : FldT Try.prog 62 1 1 := FldT.of (by kernel_rfl)
theorem el63 : ElT Try.prog 63 .nilFunc 1 8 := by unfold ElT; kernel_rfl
theorem sz63 : (Try.prog.info? 63).map (·.size) = some 1 := by kernel_rfl
theorem el64 : ElT Try.prog 64 .nilFunc 1 8 := by unfold ElT; kernel_rfl
theorem sz64 : (Try.prog.info? 64).map (·.size) = some 1 := by kernel_rfl
theorem el65 : ElT Try.prog 65 .nilFunc 1 8 := by unfold ElT; kernel_rfl
theorem sz65 : (Try.prog.info? 65).map (·.size) = some 1 := by kernel_rfl
theorem el66 : ElT Try.prog 66 (.tuple #[(.string ByteArray.empty), (.bool false)]) 1 0 := by unfold ElT; kernel_rfl
theorem sz66 : (Try.prog.info? 66).map (·.size) = some 1 := by kernel_rfl
theorem el67 : ElT Try.prog 67 .nilFunc 1 8 := by unfold ElT; kernel_rfl
theorem sz67 : (Try.prog.info? 67).map (·.size) = some 1 := by kernel_rfl
theorem el68 : ElT Try.prog 68 .nilFunc 1 8 := by unfold ElT; kernel_rfl
theorem sz68 : (Try.prog.info? 68).map (·.size) = some 1 := by kernel_rfl
theorem sl69 : SlT Try.prog 69 73 6 := ⟨by kernel_rfl, by kernel_rfl⟩
theorem el69 : ElT Try.prog 69 (.slice none 0 0) 1 24 := by unfold ElT; kernel_rfl
theorem sz69 : (Try.prog.info? 69).map (·.size) = some 1 := by kernel_rfl
theorem on69 : OneT Try.prog 69 := by unfold OneT; kernel_rfl
theorem sl70 : SlT Try.prog 70 21 1 := ⟨by kernel_rfl, by kernel_rfl⟩
theorem el70 : ElT Try.prog 70 (.slice none 0 0) 1 24 := by unfold ElT; kernel_rfl
theorem sz70 : (Try.prog.info? 70).map (·.size) = some 1 := by kernel_rfl
theorem on70 : OneT Try.prog 70 := by unfold OneT; kernel_rfl
theorem el71 : ElT Try.prog 71 (.agg #[(.slice none 0 0), (.slice none 0 0)]) 2 48 := by unfold ElT; kernel_rfl
theorem sz71 : (Try.prog.info? 71).map (·.size) = some 2 := by kernel_rfl
theorem ag71 : AggT Try.prog 71 2 := ⟨by kernel_rfl, by kernel_rfl⟩
theorem fd71_0 : FldT Try.prog 71 0 0 := FldT.of (by kernel_rfl)
theorem fd71_1 : FldT Try.prog 71 1 1 := FldT.of (by kernel_rfl)
theorem el72 : ElT Try.prog 72 (.agg #[(.slice none 0 0), (.slice none 0 0)]) 2 48 := by unfold ElT; kernel_rfl
theorem sz72 : (Try.prog.info? 72).map (·.size) = some 2 := by kernel_rfl
theorem ag72 : AggT Try.prog 72 2 := ⟨by kernel_rfl, by kernel_rfl⟩
theorem fd72_0 : FldT Try.prog 72 0 0 := FldT.of (by kernel_rfl)
theorem fd72_1 : FldT Try.prog 72 1 1 := FldT.of (by kernel_rfl)
theorem el73 : ElT Try.prog 73 (.agg #[(.int .i32 0), (.int .i32 0), (.int .i32 0), (.int .i32 0), (.int .i32 0), (.int .i32 0)]) 6 24 := by unfold ElT; kernel_rfl
theorem sz73 : (Try.prog.info? 73).map (·.size) = some 6 := by kernel_rfl
theorem ag73 : AggT Try.prog 73 6 := ⟨by kernel_rfl, by kernel_rfl⟩
theorem ar73 : ArrT Try.prog 73 21 6 1 := ⟨by kernel_rfl, by kernel_rfl⟩
theorem sl74 : SlT Try.prog 74 3 1 := ⟨by kernel_rfl, by kernel_rfl⟩
theorem el74 : ElT Try.prog 74 (.slice none 0 0) 1 24 := by unfold ElT; kernel_rfl
theorem sz74 : (Try.prog.info? 74).map (·.size) = some 1 := by kernel_rfl
theorem on74 : OneT Try.prog 74 := by unfold OneT; kernel_rfl
theorem el75 : ElT Try.prog 75 .nilFunc 1 8 := by unfold ElT; kernel_rfl
theorem sz75 : (Try.prog.info? 75).map (·.size) = some 1 := by kernel_rfl
theorem el76 : ElT Try.prog 76 (.map none) 1 8 := by unfold ElT; kernel_rfl
theorem sz76 : (Try.prog.info? 76).map (·.size) = some 1 := by kernel_rfl
theorem on76 : OneT Try.prog 76 := by unfold OneT; kernel_rfl
theorem mp76 : Try.prog.underlying 76 = some (.map 9 3) := by kernel_rfl
theorem el77 : ElT Try.prog 77 (.tuple #[(.int .i64 0), (.bool false)]) 1 0 := by unfold ElT; kernel_rfl
theorem sz77 : (Try.prog.info? 77).map (·.size) = some 1 := by kernel_rfl
theorem sl78 : SlT Try.prog 78 5 1 := ⟨by kernel_rfl, by kernel_rfl⟩
theorem el78 : ElT Try.prog 78 (.slice none 0 0) 1 24 := by unfold ElT; kernel_rfl
theorem sz78 : (Try.prog.info? 78).map (·.size) = some 1 := by kernel_rfl
theorem on78 : OneT Try.prog 78 := by unfold OneT; kernel_rfl
theorem el79 : ElT Try.prog 79 .nilFunc 1 8 := by unfold ElT; kernel_rfl
theorem sz79 : (Try.prog.info? 79).map (·.size) = some 1 := by kernel_rfl
theorem el80 : ElT Try.prog 80 .nilFunc 1 8 := by unfold ElT; kernel_rfl
theorem sz80 : (Try.prog.info? 80).map (·.size) = some 1 := by kernel_rfl
theorem el81 : ElT Try.prog 81 .nilFunc 1 8 := by unfold ElT; kernel_rfl
theorem sz81 : (Try.prog.info? 81).map (·.size) = some 1 := by kernel_rfl
theorem el82 : ElT Try.prog 82 .nilFunc 1 8 := by unfold ElT; kernel_rfl
theorem sz82 : (Try.prog.info? 82).map (·.size) = some 1 := by kernel_rfl
theorem el83 : ElT Try.prog 83 (.tuple #[(.slice none 0 0), (.bool false)]) 1 0 := by unfold ElT; kernel_rfl
theorem sz83 : (Try.prog.info? 83).map (·.size) = some 1 := by kernel_rfl
theorem el84 : ElT Try.prog 84 .nilFunc 1 8 := by unfold ElT; kernel_rfl
theorem sz84 : (Try.prog.info? 84).map (·.size) = some 1 := by kernel_rfl
theorem el85 : ElT Try.prog 85 .nilFunc 1 8 := by unfold ElT; kernel_rfl
theorem sz85 : (Try.prog.info? 85).map (·.size) = some 1 := by kernel_rfl
theorem el86 : ElT Try.prog 86 .nilFunc 1 8 := by unfold ElT; kernel_rfl
theorem sz86 : (Try.prog.info? 86).map (·.size) = some 1 := by kernel_rfl
theorem el87 : ElT Try.prog 87 .nilFunc 1 8 := by unfold ElT; kernel_rfl
theorem sz87 : (Try.prog.info? 87).map (·.size) = some 1 := by kernel_rfl
theorem el88 : ElT Try.prog 88 .nilFunc 1 8 := by unfold ElT; kernel_rfl
theorem sz88 : (Try.prog.info? 88).map (·.size) = some 1 := by kernel_rfl
theorem el89 : ElT Try.prog 89 .nilFunc 1 8 := by unfold ElT; kernel_rfl
theorem sz89 : (Try.prog.info? 89).map (·.size) = some 1 := by kernel_rfl
theorem el90 : ElT Try.prog 90 (.agg #[(.slice none 0 0), (.slice none 0 0)]) 2 48 := by unfold ElT; kernel_rfl
theorem sz90 : (Try.prog.info? 90).map (·.size) = some 2 := by kernel_rfl
theorem ag90 : AggT Try.prog 90 2 := ⟨by kernel_rfl, by kernel_rfl⟩
theorem fd90_0 : FldT Try.prog 90 0 0 := FldT.of (by kernel_rfl)
theorem fd90_1 : FldT Try.prog 90 1 1 := FldT.of (by kernel_rfl)
theorem el91 : ElT Try.prog 91 (.agg #[(.slice none 0 0), (.slice none 0 0)]) 2 48 := by unfold ElT; kernel_rfl
theorem sz91 : (Try.prog.info? 91).map (·.size) = some 2 := by kernel_rfl
theorem ag91 : AggT Try.prog 91 2 := ⟨by kernel_rfl, by kernel_rfl⟩
theorem fd91_0 : FldT Try.prog 91 0 0 := FldT.of (by kernel_rfl)
theorem fd91_1 : FldT Try.prog 91 1 1 := FldT.of (by kernel_rfl)
theorem el92 : ElT Try.prog 92 .nilFunc 1 8 := by unfold ElT; kernel_rfl
theorem sz92 : (Try.prog.info? 92).map (·.size) = some 1 := by kernel_rfl
theorem el93 : ElT Try.prog 93 (.pointer none) 1 8 := by unfold ElT; kernel_rfl
theorem sz93 : (Try.prog.info? 93).map (·.size) = some 1 := by kernel_rfl
theorem on93 : OneT Try.prog 93 := by unfold OneT; kernel_rfl
theorem el94 : ElT Try.prog 94 .nilFunc 1 8 := by unfold ElT; kernel_rfl
theorem sz94 : (Try.prog.info? 94).map (·.size) = some 1 := by kernel_rfl
theorem el95 : ElT Try.prog 95 .nilFunc 1 8 := by unfold ElT; kernel_rfl
theorem sz95 : (Try.prog.info? 95).map (·.size) = some 1 := by kernel_rfl
theorem el96 : ElT Try.prog 96 (.tuple #[(.agg #[(.int .i64 0), (.int .i64 0), (.slice none 0 0), (.slice none 0 0)]), (.slice none 0 0)]) 1 0 := by unfold ElT; kernel_rfl
theorem sz96 : (Try.prog.info? 96).map (·.size) = some 1 := by kernel_rfl
theorem el97 : ElT Try.prog 97 .nilFunc 1 8 := by unfold ElT; kernel_rfl
theorem sz97 : (Try.prog.info? 97).map (·.size) = some 1 := by kernel_rfl
theorem el98 : ElT Try.prog 98 .nilFunc 1 8 := by unfold ElT; kernel_rfl
theorem sz98 : (Try.prog.info? 98).map (·.size) = some 1 := by kernel_rfl
theorem el99 : ElT Try.prog 99 .nilFunc 1 8 := by unfold ElT; kernel_rfl
theorem sz99 : (Try.prog.info? 99).map (·.size) = some 1 := by kernel_rfl
theorem el100 : ElT Try.prog 100 .nilFunc 1 8 := by unfold ElT; kernel_rfl
theorem sz100 : (Try.prog.info? 100).map (·.size) = some 1 := by kernel_rfl
theorem el101 : ElT Try.prog 101 .nilFunc 1 8 := by unfold ElT; kernel_rfl
theorem sz101 : (Try.prog.info? 101).map (·.size) = some 1 := by kernel_rfl
theorem el102 : ElT Try.prog 102 (.tuple #[(.slice none 0 0), (.slice none 0 0)]) 1 0 := by unfold ElT; kernel_rfl
theorem sz102 : (Try.prog.info? 102).map (·.size) = some 1 := by kernel_rfl
theorem el103 : ElT Try.prog 103 .nilFunc 1 8 := by unfold ElT; kernel_rfl
theorem sz103 : (Try.prog.info? 103).map (·.size) = some 1 := by kernel_rfl
theorem el104 : ElT Try.prog 104 .nilFunc 1 8 := by unfold ElT; kernel_rfl
theorem sz104 : (Try.prog.info? 104).map (·.size) = some 1 := by kernel_rfl
theorem el105 : ElT Try.prog 105 .nilFunc 1 8 := by unfold ElT; kernel_rfl
theorem sz105 : (Try.prog.info? 105).map (·.size) = some 1 := by kernel_rfl
theorem el106 : ElT Try.prog 106 .nilFunc 1 8 := by unfold ElT; kernel_rfl
theorem sz106 : (Try.prog.info? 106).map (·.size) = some 1 := by kernel_rfl
theorem el107 : ElT Try.prog 107 .nilFunc 1 8 := by unfold ElT; kernel_rfl
theorem sz107 : (Try.prog.info? 107).map (·.size) = some 1 := by kernel_rfl
theorem el108 : ElT Try.prog 108 .nilFunc 1 8 := by unfold ElT; kernel_rfl
theorem sz108 : (Try.prog.info? 108).map (·.size) = some 1 := by kernel_rfl
theorem el109 : ElT Try.prog 109 (.int .u64 0) 1 8 := by unfold ElT; kernel_rfl
theorem sz109 : (Try.prog.info? 109).map (·.size) = some 1 := by kernel_rfl
theorem on109 : OneT Try.prog 109 := by unfold OneT; kernel_rfl
theorem un109 : Try.prog.underlying 109 = some (.int .u64) := by kernel_rfl
theorem el110 : ElT Try.prog 110 (.tuple #[(.agg #[(.int .i64 0), (.int .i64 0), (.slice none 0 0), (.slice none 0 0)]), (.slice none 0 0), (.int .i64 0)]) 1 0 := by unfold ElT; kernel_rfl
theorem sz110 : (Try.prog.info? 110).map (·.size) = some 1 := by kernel_rfl
theorem el111 : ElT Try.prog 111 .nilFunc 1 8 := by unfold ElT; kernel_rfl
theorem sz111 : (Try.prog.info? 111).map (·.size) = some 1 := by kernel_rfl
theorem el112 : ElT Try.prog 112 (.map none) 1 8 := by unfold ElT; kernel_rfl
theorem sz112 : (Try.prog.info? 112).map (·.size) = some 1 := by kernel_rfl
theorem on112 : OneT Try.prog 112 := by unfold OneT; kernel_rfl
theorem mp112 : Try.prog.underlying 112 = some (.map 114 3) := by kernel_rfl
theorem el113 : ElT Try.prog 113 (.agg #[(.int .i64 0), (.int .i64 0), (.int .i64 0), (.int .i64 0), (.int .i64 0), (.int .i64 0), (.int .i64 0)]) 7 56 := by unfold ElT; kernel_rfl
theorem sz113 : (Try.prog.info? 113).map (·.size) = some 7 := by kernel_rfl
theorem ag113 : AggT Try.prog 113 7 := ⟨by kernel_rfl, by kernel_rfl⟩
theorem ar113 : ArrT Try.prog 113 3 7 1 := ⟨by kernel_rfl, by kernel_rfl⟩
theorem el114 : ElT Try.prog 114 (.agg #[(.int .i64 0), (.int .i64 0), (.int .i64 0), (.int .i64 0), (.int .i64 0), (.int .i64 0), (.int .i64 0)]) 7 56 := by unfold ElT; kernel_rfl
theorem sz114 : (Try.prog.info? 114).map (·.size) = some 7 := by kernel_rfl
theorem ag114 : AggT Try.prog 114 7 := ⟨by kernel_rfl, by kernel_rfl⟩
theorem ar114 : ArrT Try.prog 114 3 7 1 := ⟨by kernel_rfl, by kernel_rfl⟩
theorem el115 : ElT Try.prog 115 (.map none) 1 8 := by unfold ElT; kernel_rfl
theorem sz115 : (Try.prog.info? 115).map (·.size) = some 1 := by kernel_rfl
theorem on115 : OneT Try.prog 115 := by unfold OneT; kernel_rfl
theorem mp115 : Try.prog.underlying 115 = some (.map 3 3) := by kernel_rfl
theorem el116 : ElT Try.prog 116 (.int .u32 0) 1 4 := by unfold ElT; kernel_rfl
theorem sz116 : (Try.prog.info? 116).map (·.size) = some 1 := by kernel_rfl
theorem on116 : OneT Try.prog 116 := by unfold OneT; kernel_rfl
theorem un116 : Try.prog.underlying 116 = some (.int .u32) := by kernel_rfl
theorem el117 : ElT Try.prog 117 (.tuple #[(.int .u32 0), (.int .u32 0)]) 1 0 := by unfold ElT; kernel_rfl
theorem sz117 : (Try.prog.info? 117).map (·.size) = some 1 := by kernel_rfl
theorem el118 : ElT Try.prog 118 .nilFunc 1 8 := by unfold ElT; kernel_rfl
theorem sz118 : (Try.prog.info? 118).map (·.size) = some 1 := by kernel_rfl
theorem el119 : ElT Try.prog 119 (.agg #[(.slice none 0 0), (.map none)]) 2 32 := by unfold ElT; kernel_rfl
theorem sz119 : (Try.prog.info? 119).map (·.size) = some 2 := by kernel_rfl
theorem ag119 : AggT Try.prog 119 2 := ⟨by kernel_rfl, by kernel_rfl⟩
theorem fd119_0 : FldT Try.prog 119 0 0 := FldT.of (by kernel_rfl)
theorem fd119_1 : FldT Try.prog 119 1 1 := FldT.of (by kernel_rfl)
theorem el120 : ElT Try.prog 120 (.agg #[(.slice none 0 0), (.map none)]) 2 32 := by unfold ElT; kernel_rfl
theorem sz120 : (Try.prog.info? 120).map (·.size) = some 2 := by kernel_rfl
theorem ag120 : AggT Try.prog 120 2 := ⟨by kernel_rfl, by kernel_rfl⟩
theorem fd120_0 : FldT Try.prog 120 0 0 := FldT.of (by kernel_rfl)
theorem fd120_1 : FldT Try.prog 120 1 1 := FldT.of (by kernel_rfl)
theorem el121 : ElT Try.prog 121 (.pointer none) 1 8 := by unfold ElT; kernel_rfl
theorem sz121 : (Try.prog.info? 121).map (·.size) = some 1 := by kernel_rfl
theorem on121 : OneT Try.prog 121 := by unfold OneT; kernel_rfl
theorem el122 : ElT Try.prog 122 .nilFunc 1 8 := by unfold ElT; kernel_rfl
theorem sz122 : (Try.prog.info? 122).map (·.size) = some 1 := by kernel_rfl
theorem el123 : ElT Try.prog 123 (.agg #[(.pointer none), (.pointer none), (.pointer none), (.string ByteArray.empty)]) 4 40 := by unfold ElT; kernel_rfl
theorem sz123 : (Try.prog.info? 123).map (·.size) = some 4 := by kernel_rfl
theorem ag123 : AggT Try.prog 123 4 := ⟨by kernel_rfl, by kernel_rfl⟩
theorem fd123_0 : FldT Try.prog 123 0 0 := FldT.of (by kernel_rfl)
theorem fd123_1 : FldT Try.prog 123 1 1 := FldT.of (by kernel_rfl)
theorem fd123_2 : FldT Try.prog 123 2 2 := FldT.of (by kernel_rfl)
theorem fd123_3 : FldT Try.prog 123 3 3 := FldT.of (by kernel_rfl)
theorem el124 : ElT Try.prog 124 (.agg #[(.pointer none), (.pointer none), (.pointer none), (.string ByteArray.empty)]) 4 40 := by unfold ElT; kernel_rfl
theorem sz124 : (Try.prog.info? 124).map (·.size) = some 4 := by kernel_rfl
theorem ag124 : AggT Try.prog 124 4 := ⟨by kernel_rfl, by kernel_rfl⟩
theorem fd124_0 : FldT Try.prog 124 0 0 := FldT.of (by kernel_rfl)
theorem fd124_1 : FldT Try.prog 124 1 1 := FldT.of (by kernel_rfl)
theorem fd124_2 : FldT Try.prog 124 2 2 := FldT.of (by kernel_rfl)
theorem fd124_3 : FldT Try.prog 124 3 3 := FldT.of (by kernel_rfl)
theorem ag125 : AggT Try.prog 125 0 := ⟨by kernel_rfl, by kernel_rfl⟩
theorem ar125 : ArrT Try.prog 125 16 0 1 := ⟨by kernel_rfl, by kernel_rfl⟩
theorem ag126 : AggT Try.prog 126 0 := ⟨by kernel_rfl, by kernel_rfl⟩
theorem ag127 : AggT Try.prog 127 0 := ⟨by kernel_rfl, by kernel_rfl⟩
theorem el128 : ElT Try.prog 128 .nilFunc 1 8 := by unfold ElT; kernel_rfl
theorem sz128 : (Try.prog.info? 128).map (·.size) = some 1 := by kernel_rfl
theorem el129 : ElT Try.prog 129 (.int .u8 0) 1 1 := by unfold ElT; kernel_rfl
theorem sz129 : (Try.prog.info? 129).map (·.size) = some 1 := by kernel_rfl
theorem on129 : OneT Try.prog 129 := by unfold OneT; kernel_rfl
theorem un129 : Try.prog.underlying 129 = some (.int .u8) := by kernel_rfl
theorem el130 : ElT Try.prog 130 (.int .u8 0) 1 1 := by unfold ElT; kernel_rfl
theorem sz130 : (Try.prog.info? 130).map (·.size) = some 1 := by kernel_rfl
theorem on130 : OneT Try.prog 130 := by unfold OneT; kernel_rfl
theorem un130 : Try.prog.underlying 130 = some (.int .u8) := by kernel_rfl
theorem el131 : ElT Try.prog 131 .nilFunc 1 8 := by unfold ElT; kernel_rfl
theorem sz131 : (Try.prog.info? 131).map (·.size) = some 1 := by kernel_rfl
theorem el132 : ElT Try.prog 132 (.pointer none) 1 8 := by unfold ElT; kernel_rfl
theorem sz132 : (Try.prog.info? 132).map (·.size) = some 1 := by kernel_rfl
theorem on132 : OneT Try.prog 132 := by unfold OneT; kernel_rfl
theorem el133 : ElT Try.prog 133 (.int .i32 0) 1 4 := by unfold ElT; kernel_rfl
theorem sz133 : (Try.prog.info? 133).map (·.size) = some 1 := by kernel_rfl
theorem on133 : OneT Try.prog 133 := by unfold OneT; kernel_rfl
theorem un133 : Try.prog.underlying 133 = some (.int .i32) := by kernel_rfl
theorem el134 : ElT Try.prog 134 (.int .i32 0) 1 4 := by unfold ElT; kernel_rfl
theorem sz134 : (Try.prog.info? 134).map (·.size) = some 1 := by kernel_rfl
theorem on134 : OneT Try.prog 134 := by unfold OneT; kernel_rfl
theorem un134 : Try.prog.underlying 134 = some (.int .i32) := by kernel_rfl
theorem el135 : ElT Try.prog 135 (.agg #[(.int .u64 0), (.int .u64 0), (.int .u32 0), (.int .u8 0), (.int .u8 0), (.int .u8 0), (.int .u8 0), .nilFunc, (.pointer none), (.int .i32 0), (.int .i32 0)]) 11 48 := by unfold ElT; kernel_rfl
theorem sz135 : (Try.prog.info? 135).map (·.size) = some 11 := by kernel_rfl
theorem ag135 : AggT Try.prog 135 11 := ⟨by kernel_rfl, by kernel_rfl⟩
theorem fd135_0 : FldT Try.prog 135 0 0 := FldT.of (by kernel_rfl)
theorem fd135_1 : FldT Try.prog 135 1 1 := FldT.of (by kernel_rfl)
theorem fd135_2 : FldT Try.prog 135 2 2 := FldT.of (by kernel_rfl)
theorem fd135_3 : FldT Try.prog 135 3 3 := FldT.of (by kernel_rfl)
theorem fd135_4 : FldT Try.prog 135 4 4 := FldT.of (by kernel_rfl)
theorem fd135_5 : FldT Try.prog 135 5 5 := FldT.of (by kernel_rfl)
theorem fd135_6 : FldT Try.prog 135 6 6 := FldT.of (by kernel_rfl)
theorem fd135_7 : FldT Try.prog 135 7 7 := FldT.of (by kernel_rfl)
theorem fd135_8 : FldT Try.prog 135 8 8 := FldT.of (by kernel_rfl)
theorem fd135_9 : FldT Try.prog 135 9 9 := FldT.of (by kernel_rfl)
theorem fd135_10 : FldT Try.prog 135 10 10 := FldT.of (by kernel_rfl)
theorem el136 : ElT Try.prog 136 (.agg #[(.int .u64 0), (.int .u64 0), (.int .u32 0), (.int .u8 0), (.int .u8 0), (.int .u8 0), (.int .u8 0), .nilFunc, (.pointer none), (.int .i32 0), (.int .i32 0)]) 11 48 := by unfold ElT; kernel_rfl
theorem sz136 : (Try.prog.info? 136).map (·.size) = some 11 := by kernel_rfl
theorem ag136 : AggT Try.prog 136 11 := ⟨by kernel_rfl, by kernel_rfl⟩
theorem fd136_0 : FldT Try.prog 136 0 0 := FldT.of (by kernel_rfl)
theorem fd136_1 : FldT Try.prog 136 1 1 := FldT.of (by kernel_rfl)
theorem fd136_2 : FldT Try.prog 136 2 2 := FldT.of (by kernel_rfl)
theorem fd136_3 : FldT Try.prog 136 3 3 := FldT.of (by kernel_rfl)
theorem fd136_4 : FldT Try.prog 136 4 4 := FldT.of (by kernel_rfl)
theorem fd136_5 : FldT Try.prog 136 5 5 := FldT.of (by kernel_rfl)
theorem fd136_6 : FldT Try.prog 136 6 6 := FldT.of (by kernel_rfl)
theorem fd136_7 : FldT Try.prog 136 7 7 := FldT.of (by kernel_rfl)
theorem fd136_8 : FldT Try.prog 136 8 8 := FldT.of (by kernel_rfl)
theorem fd136_9 : FldT Try.prog 136 9 9 := FldT.of (by kernel_rfl)
theorem fd136_10 : FldT Try.prog 136 10 10 := FldT.of (by kernel_rfl)
theorem el137 : ElT Try.prog 137 (.pointer none) 1 8 := by unfold ElT; kernel_rfl
theorem sz137 : (Try.prog.info? 137).map (·.size) = some 1 := by kernel_rfl
theorem on137 : OneT Try.prog 137 := by unfold OneT; kernel_rfl
theorem co2 : CallOk Try.prog 2 := by unfold CallOk; kernel_rfl
theorem co3 : CallOk Try.prog 3 := by unfold CallOk; kernel_rfl
theorem co4 : CallOk Try.prog 4 := by unfold CallOk; kernel_rfl
theorem co5 : CallOk Try.prog 5 := by unfold CallOk; kernel_rfl
theorem co6 : CallOk Try.prog 6 := by unfold CallOk; kernel_rfl
theorem co7 : CallOk Try.prog 7 := by unfold CallOk; kernel_rfl
theorem co8 : CallOk Try.prog 8 := by unfold CallOk; kernel_rfl
theorem co9 : CallOk Try.prog 9 := by unfold CallOk; kernel_rfl
theorem co10 : CallOk Try.prog 10 := by unfold CallOk; kernel_rfl
theorem co11 : CallOk Try.prog 11 := by unfold CallOk; kernel_rfl
theorem co12 : CallOk Try.prog 12 := by unfold CallOk; kernel_rfl
theorem co13 : CallOk Try.prog 13 := by unfold CallOk; kernel_rfl
theorem co14 : CallOk Try.prog 14 := by unfold CallOk; kernel_rfl
theorem co15 : CallOk Try.prog 15 := by unfold CallOk; kernel_rfl
theorem co16 : CallOk Try.prog 16 := by unfold CallOk; kernel_rfl
theorem co17 : CallOk Try.prog 17 := by unfold CallOk; kernel_rfl
theorem co18 : CallOk Try.prog 18 := by unfold CallOk; kernel_rfl
theorem co19 : CallOk Try.prog 19 := by unfold CallOk; kernel_rfl
theorem co20 : CallOk Try.prog 20 := by unfold CallOk; kernel_rfl
theorem co21 : CallOk Try.prog 21 := by unfold CallOk; kernel_rfl
theorem co22 : CallOk Try.prog 22 := by unfold CallOk; kernel_rfl
theorem co23 : CallOk Try.prog 23 := by unfold CallOk; kernel_rfl
theorem co24 : CallOk Try.prog 24 := by unfold CallOk; kernel_rfl
theorem co25 : CallOk Try.prog 25 := by unfold CallOk; kernel_rfl
theorem co26 : CallOk Try.prog 26 := by unfold CallOk; kernel_rfl
theorem co27 : CallOk Try.prog 27 := by unfold CallOk; kernel_rfl
theorem co28 : CallOk Try.prog 28 := by unfold CallOk; kernel_rfl
theorem co29 : CallOk Try.prog 29 := by unfold CallOk; kernel_rfl
theorem co30 : CallOk Try.prog 30 := by unfold CallOk; kernel_rfl
theorem co31 : CallOk Try.prog 31 := by unfold CallOk; kernel_rfl
theorem co32 : CallOk Try.prog 32 := by unfold CallOk; kernel_rfl
theorem co33 : CallOk Try.prog 33 := by unfold CallOk; kernel_rfl
theorem co34 : CallOk Try.prog 34 := by unfold CallOk; kernel_rfl
theorem co35 : CallOk Try.prog 35 := by unfold CallOk; kernel_rfl
theorem co36 : CallOk Try.prog 36 := by unfold CallOk; kernel_rfl
theorem co37 : CallOk Try.prog 37 := by unfold CallOk; kernel_rfl
theorem co38 : CallOk Try.prog 38 := by unfold CallOk; kernel_rfl
theorem co39 : CallOk Try.prog 39 := by unfold CallOk; kernel_rfl
theorem co40 : CallOk Try.prog 40 := by unfold CallOk; kernel_rfl
theorem co41 : CallOk Try.prog 41 := by unfold CallOk; kernel_rfl
theorem co42 : CallOk Try.prog 42 := by unfold CallOk; kernel_rfl
theorem co43 : CallOk Try.prog 43 := by unfold CallOk; kernel_rfl
theorem co44 : CallOk Try.prog 44 := by unfold CallOk; kernel_rfl
theorem co45 : CallOk Try.prog 45 := by unfold CallOk; kernel_rfl
theorem co46 : CallOk Try.prog 46 := by unfold CallOk; kernel_rfl
theorem co47 : CallOk Try.prog 47 := by unfold CallOk; kernel_rfl
theorem co48 : CallOk Try.prog 48 := by unfold CallOk; kernel_rfl
theorem co49 : CallOk Try.prog 49 := by unfold CallOk; kernel_rfl
theorem co50 : CallOk Try.prog 50 := by unfold CallOk; kernel_rfl
theorem co51 : CallOk Try.prog 51 := by unfold CallOk; kernel_rfl
theorem co52 : CallOk Try.prog 52 := by unfold CallOk; kernel_rfl
theorem co53 : CallOk Try.prog 53 := by unfold CallOk; kernel_rfl
theorem co54 : CallOk Try.prog 54 := by unfold CallOk; kernel_rfl
theorem co55 : CallOk Try.prog 55 := by unfold CallOk; kernel_rfl
theorem co56 : CallOk Try.prog 56 := by unfold CallOk; kernel_rfl
theorem co57 : CallOk Try.prog 57 := by unfold CallOk; kernel_rfl
theorem co58 : CallOk Try.prog 58 := by unfold CallOk; kernel_rfl
theorem co59 : CallOk Try.prog 59 := by unfold CallOk; kernel_rfl
theorem co60 : CallOk Try.prog 60 := by unfold CallOk; kernel_rfl
theorem co61 : CallOk Try.prog 61 := by unfold CallOk; kernel_rfl
theorem co62 : CallOk Try.prog 62 := by unfold CallOk; kernel_rfl
theorem co63 : CallOk Try.prog 63 := by unfold CallOk; kernel_rfl
theorem co64 : CallOk Try.prog 64 := by unfold CallOk; kernel_rfl
theorem co65 : CallOk Try.prog 65 := by unfold CallOk; kernel_rfl
theorem co66 : CallOk Try.prog 66 := by unfold CallOk; kernel_rfl
theorem co67 : CallOk Try.prog 67 := by unfold CallOk; kernel_rfl
theorem co68 : CallOk Try.prog 68 := by unfold CallOk; kernel_rfl
theorem co69 : CallOk Try.prog 69 := by unfold CallOk; kernel_rfl
theorem co70 : CallOk Try.prog 70 := by unfold CallOk; kernel_rfl
theorem co71 : CallOk Try.prog 71 := by unfold CallOk; kernel_rfl
theorem co72 : CallOk Try.prog 72 := by unfold CallOk; kernel_rfl
theorem co73 : CallOk Try.prog 73 := by unfold CallOk; kernel_rfl
theorem co74 : CallOk Try.prog 74 := by unfold CallOk; kernel_rfl
theorem co75 : CallOk Try.prog 75 := by unfold CallOk; kernel_rfl
theorem co77 : CallOk Try.prog 77 := by unfold CallOk; kernel_rfl
theorem co79 : CallOk Try.prog 79 := by unfold CallOk; kernel_rfl
theorem co80 : CallOk Try.prog 80 := by unfold CallOk; kernel_rfl
theorem co81 : CallOk Try.prog 81 := by unfold CallOk; kernel_rfl
theorem co82 : CallOk Try.prog 82 := by unfold CallOk; kernel_rfl
theorem co83 : CallOk Try.prog 83 := by unfold CallOk; kernel_rfl
theorem co84 : CallOk Try.prog 84 := by unfold CallOk; kernel_rfl
theorem co86 : CallOk Try.prog 86 := by unfold CallOk; kernel_rfl
theorem co87 : CallOk Try.prog 87 := by unfold CallOk; kernel_rfl
theorem mixed : Try.prog.follows .mixedOrders = true := by kernel_rfl
end Go.Proofs.Ytaeojcaidcjnaaa
