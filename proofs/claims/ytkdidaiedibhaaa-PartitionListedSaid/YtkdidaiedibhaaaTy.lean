import Derived.Test.YtkdidaiedibhaaaProg
import Derived.Test.YtkdidaiedibhaaaSv
import Derived.KernelRfl
namespace Go.Proofs.Ytkdidaiedibhaaa
open Go.Sx
theorem el0 : ElT Try.prog 0 (.tuple #[]) 1 0 := by unfold ElT; kernel_rfl
theorem sz0 : (Try.prog.info? 0).map (·.size) = some 1 := by kernel_rfl
theorem el1 : ElT Try.prog 1 .nilFunc 1 8 := by unfold ElT; kernel_rfl
theorem sz1 : (Try.prog.info? 1).map (·.size) = some 1 := by kernel_rfl
theorem el2 : ElT Try.prog 2 (.int .i64 0) 1 8 := by unfold ElT; kernel_rfl
theorem sz2 : (Try.prog.info? 2).map (·.size) = some 1 := by kernel_rfl
theorem on2 : OneT Try.prog 2 := by unfold OneT; kernel_rfl
theorem un2 : Try.prog.underlying 2 = some (.int .i64) := by kernel_rfl
theorem el3 : ElT Try.prog 3 (.int .i64 0) 1 8 := by unfold ElT; kernel_rfl
theorem sz3 : (Try.prog.info? 3).map (·.size) = some 1 := by kernel_rfl
theorem on3 : OneT Try.prog 3 := by unfold OneT; kernel_rfl
theorem un3 : Try.prog.underlying 3 = some (.int .i64) := by kernel_rfl
theorem el4 : ElT Try.prog 4 (.bool false) 1 1 := by unfold ElT; kernel_rfl
theorem sz4 : (Try.prog.info? 4).map (·.size) = some 1 := by kernel_rfl
theorem on4 : OneT Try.prog 4 := by unfold OneT; kernel_rfl
theorem bo4 : Try.prog.underlying 4 = some .bool := by kernel_rfl
theorem el5 : ElT Try.prog 5 (.int .u8 0) 1 1 := by unfold ElT; kernel_rfl
theorem sz5 : (Try.prog.info? 5).map (·.size) = some 1 := by kernel_rfl
theorem on5 : OneT Try.prog 5 := by unfold OneT; kernel_rfl
theorem un5 : Try.prog.underlying 5 = some (.int .u8) := by kernel_rfl
theorem el6 : ElT Try.prog 6 (.int .u8 0) 1 1 := by unfold ElT; kernel_rfl
theorem sz6 : (Try.prog.info? 6).map (·.size) = some 1 := by kernel_rfl
theorem on6 : OneT Try.prog 6 := by unfold OneT; kernel_rfl
theorem un6 : Try.prog.underlying 6 = some (.int .u8) := by kernel_rfl
theorem el7 : ElT Try.prog 7 (.agg #[(.int .i64 0), (.int .i64 0), (.bool false), (.int .u8 0)]) 4 24 := by unfold ElT; kernel_rfl
theorem sz7 : (Try.prog.info? 7).map (·.size) = some 4 := by kernel_rfl
theorem ag7 : AggT Try.prog 7 4 := ⟨by kernel_rfl, by kernel_rfl⟩
theorem el8 : ElT Try.prog 8 (.agg #[(.int .i64 0), (.int .i64 0), (.bool false), (.int .u8 0)]) 4 24 := by unfold ElT; kernel_rfl
theorem sz8 : (Try.prog.info? 8).map (·.size) = some 4 := by kernel_rfl
theorem ag8 : AggT Try.prog 8 4 := ⟨by kernel_rfl, by kernel_rfl⟩
theorem el9 : ElT Try.prog 9 (.string ByteArray.empty) 1 16 := by unfold ElT; kernel_rfl
theorem sz9 : (Try.prog.info? 9).map (·.size) = some 1 := by kernel_rfl
theorem on9 : OneT Try.prog 9 := by unfold OneT; kernel_rfl
theorem un9 : Try.prog.underlying 9 = some .string := by kernel_rfl
theorem el10 : ElT Try.prog 10 (.string ByteArray.empty) 1 16 := by unfold ElT; kernel_rfl
theorem sz10 : (Try.prog.info? 10).map (·.size) = some 1 := by kernel_rfl
theorem on10 : OneT Try.prog 10 := by unfold OneT; kernel_rfl
theorem un10 : Try.prog.underlying 10 = some .string := by kernel_rfl
theorem el11 : ElT Try.prog 11 (.string ByteArray.empty) 1 16 := by unfold ElT; kernel_rfl
theorem sz11 : (Try.prog.info? 11).map (·.size) = some 1 := by kernel_rfl
theorem on11 : OneT Try.prog 11 := by unfold OneT; kernel_rfl
theorem un11 : Try.prog.underlying 11 = some .string := by kernel_rfl
theorem el12 : ElT Try.prog 12 (.int .u64 0) 1 8 := by unfold ElT; kernel_rfl
theorem sz12 : (Try.prog.info? 12).map (·.size) = some 1 := by kernel_rfl
theorem on12 : OneT Try.prog 12 := by unfold OneT; kernel_rfl
theorem un12 : Try.prog.underlying 12 = some (.int .u64) := by kernel_rfl
theorem el13 : ElT Try.prog 13 (.agg #[(.string ByteArray.empty), (.int .u64 0)]) 2 24 := by unfold ElT; kernel_rfl
theorem sz13 : (Try.prog.info? 13).map (·.size) = some 2 := by kernel_rfl
theorem ag13 : AggT Try.prog 13 2 := ⟨by kernel_rfl, by kernel_rfl⟩
theorem el14 : ElT Try.prog 14 (.agg #[(.string ByteArray.empty), (.int .u64 0)]) 2 24 := by unfold ElT; kernel_rfl
theorem sz14 : (Try.prog.info? 14).map (·.size) = some 2 := by kernel_rfl
theorem ag14 : AggT Try.prog 14 2 := ⟨by kernel_rfl, by kernel_rfl⟩
theorem el15 : ElT Try.prog 15 (.pointer none) 1 8 := by unfold ElT; kernel_rfl
theorem sz15 : (Try.prog.info? 15).map (·.size) = some 1 := by kernel_rfl
theorem on15 : OneT Try.prog 15 := by unfold OneT; kernel_rfl
theorem el16 : ElT Try.prog 16 (.pointer none) 1 8 := by unfold ElT; kernel_rfl
theorem sz16 : (Try.prog.info? 16).map (·.size) = some 1 := by kernel_rfl
theorem on16 : OneT Try.prog 16 := by unfold OneT; kernel_rfl
theorem el17 : ElT Try.prog 17 (.pointer none) 1 8 := by unfold ElT; kernel_rfl
theorem sz17 : (Try.prog.info? 17).map (·.size) = some 1 := by kernel_rfl
theorem on17 : OneT Try.prog 17 := by unfold OneT; kernel_rfl
theorem el18 : ElT Try.prog 18 (.agg #[(.pointer none)]) 1 8 := by unfold ElT; kernel_rfl
theorem sz18 : (Try.prog.info? 18).map (·.size) = some 1 := by kernel_rfl
theorem ag18 : AggT Try.prog 18 1 := ⟨by kernel_rfl, by kernel_rfl⟩
theorem el19 : ElT Try.prog 19 (.agg #[(.pointer none)]) 1 8 := by unfold ElT; kernel_rfl
theorem sz19 : (Try.prog.info? 19).map (·.size) = some 1 := by kernel_rfl
theorem ag19 : AggT Try.prog 19 1 := ⟨by kernel_rfl, by kernel_rfl⟩
theorem el20 : ElT Try.prog 20 .nilIface 1 16 := by unfold ElT; kernel_rfl
theorem sz20 : (Try.prog.info? 20).map (·.size) = some 1 := by kernel_rfl
theorem on20 : OneT Try.prog 20 := by unfold OneT; kernel_rfl
theorem el21 : ElT Try.prog 21 (.int .i32 0) 1 4 := by unfold ElT; kernel_rfl
theorem sz21 : (Try.prog.info? 21).map (·.size) = some 1 := by kernel_rfl
theorem on21 : OneT Try.prog 21 := by unfold OneT; kernel_rfl
theorem un21 : Try.prog.underlying 21 = some (.int .i32) := by kernel_rfl
theorem sl22 : SlT Try.prog 22 3 1 := ⟨by kernel_rfl, by kernel_rfl⟩
theorem el22 : ElT Try.prog 22 (.slice none 0 0) 1 24 := by unfold ElT; kernel_rfl
theorem sz22 : (Try.prog.info? 22).map (·.size) = some 1 := by kernel_rfl
theorem on22 : OneT Try.prog 22 := by unfold OneT; kernel_rfl
theorem el23 : ElT Try.prog 23 .nilFunc 1 8 := by unfold ElT; kernel_rfl
theorem sz23 : (Try.prog.info? 23).map (·.size) = some 1 := by kernel_rfl
theorem el24 : ElT Try.prog 24 .nilFunc 1 8 := by unfold ElT; kernel_rfl
theorem sz24 : (Try.prog.info? 24).map (·.size) = some 1 := by kernel_rfl
theorem el25 : ElT Try.prog 25 .nilFunc 1 8 := by unfold ElT; kernel_rfl
theorem sz25 : (Try.prog.info? 25).map (·.size) = some 1 := by kernel_rfl
theorem el26 : ElT Try.prog 26 .nilFunc 1 8 := by unfold ElT; kernel_rfl
theorem sz26 : (Try.prog.info? 26).map (·.size) = some 1 := by kernel_rfl
theorem el27 : ElT Try.prog 27 .nilFunc 1 8 := by unfold ElT; kernel_rfl
theorem sz27 : (Try.prog.info? 27).map (·.size) = some 1 := by kernel_rfl
theorem sl28 : SlT Try.prog 28 22 1 := ⟨by kernel_rfl, by kernel_rfl⟩
theorem el28 : ElT Try.prog 28 (.slice none 0 0) 1 24 := by unfold ElT; kernel_rfl
theorem sz28 : (Try.prog.info? 28).map (·.size) = some 1 := by kernel_rfl
theorem on28 : OneT Try.prog 28 := by unfold OneT; kernel_rfl
theorem el29 : ElT Try.prog 29 .nilFunc 1 8 := by unfold ElT; kernel_rfl
theorem sz29 : (Try.prog.info? 29).map (·.size) = some 1 := by kernel_rfl
theorem el30 : ElT Try.prog 30 .nilFunc 1 8 := by unfold ElT; kernel_rfl
theorem sz30 : (Try.prog.info? 30).map (·.size) = some 1 := by kernel_rfl
theorem sl31 : SlT Try.prog 31 42 2 := ⟨by kernel_rfl, by kernel_rfl⟩
theorem el31 : ElT Try.prog 31 (.slice none 0 0) 1 24 := by unfold ElT; kernel_rfl
theorem sz31 : (Try.prog.info? 31).map (·.size) = some 1 := by kernel_rfl
theorem on31 : OneT Try.prog 31 := by unfold OneT; kernel_rfl
theorem el32 : ElT Try.prog 32 .nilFunc 1 8 := by unfold ElT; kernel_rfl
theorem sz32 : (Try.prog.info? 32).map (·.size) = some 1 := by kernel_rfl
theorem el33 : ElT Try.prog 33 .nilFunc 1 8 := by unfold ElT; kernel_rfl
theorem sz33 : (Try.prog.info? 33).map (·.size) = some 1 := by kernel_rfl
theorem el34 : ElT Try.prog 34 .nilFunc 1 8 := by unfold ElT; kernel_rfl
theorem sz34 : (Try.prog.info? 34).map (·.size) = some 1 := by kernel_rfl
theorem el35 : ElT Try.prog 35 .nilFunc 1 8 := by unfold ElT; kernel_rfl
theorem sz35 : (Try.prog.info? 35).map (·.size) = some 1 := by kernel_rfl
theorem sl36 : SlT Try.prog 36 4 1 := ⟨by kernel_rfl, by kernel_rfl⟩
theorem el36 : ElT Try.prog 36 (.slice none 0 0) 1 24 := by unfold ElT; kernel_rfl
theorem sz36 : (Try.prog.info? 36).map (·.size) = some 1 := by kernel_rfl
theorem on36 : OneT Try.prog 36 := by unfold OneT; kernel_rfl
theorem el37 : ElT Try.prog 37 .nilFunc 1 8 := by unfold ElT; kernel_rfl
theorem sz37 : (Try.prog.info? 37).map (·.size) = some 1 := by kernel_rfl
theorem el38 : ElT Try.prog 38 .nilFunc 1 8 := by unfold ElT; kernel_rfl
theorem sz38 : (Try.prog.info? 38).map (·.size) = some 1 := by kernel_rfl
theorem el39 : ElT Try.prog 39 .nilFunc 1 8 := by unfold ElT; kernel_rfl
theorem sz39 : (Try.prog.info? 39).map (·.size) = some 1 := by kernel_rfl
theorem el40 : ElT Try.prog 40 .nilFunc 1 8 := by unfold ElT; kernel_rfl
theorem sz40 : (Try.prog.info? 40).map (·.size) = some 1 := by kernel_rfl
theorem el41 : ElT Try.prog 41 .nilFunc 1 8 := by unfold ElT; kernel_rfl
theorem sz41 : (Try.prog.info? 41).map (·.size) = some 1 := by kernel_rfl
theorem el42 : ElT Try.prog 42 (.agg #[(.int .i64 0), (.int .i64 0)]) 2 16 := by unfold ElT; kernel_rfl
theorem sz42 : (Try.prog.info? 42).map (·.size) = some 2 := by kernel_rfl
theorem ag42 : AggT Try.prog 42 2 := ⟨by kernel_rfl, by kernel_rfl⟩
theorem ar42 : ArrT Try.prog 42 3 2 1 := ⟨by kernel_rfl, by kernel_rfl⟩
theorem el43 : ElT Try.prog 43 .nilFunc 1 8 := by unfold ElT; kernel_rfl
theorem sz43 : (Try.prog.info? 43).map (·.size) = some 1 := by kernel_rfl
theorem el44 : ElT Try.prog 44 (.map none) 1 8 := by unfold ElT; kernel_rfl
theorem sz44 : (Try.prog.info? 44).map (·.size) = some 1 := by kernel_rfl
theorem on44 : OneT Try.prog 44 := by unfold OneT; kernel_rfl
theorem mp44 : Try.prog.underlying 44 = some (.map 3 3) := by kernel_rfl
theorem el45 : ElT Try.prog 45 (.tuple #[(.int .i64 0), (.bool false)]) 1 0 := by unfold ElT; kernel_rfl
theorem sz45 : (Try.prog.info? 45).map (·.size) = some 1 := by kernel_rfl
theorem sl46 : SlT Try.prog 46 3 1 := ⟨by kernel_rfl, by kernel_rfl⟩
theorem el46 : ElT Try.prog 46 (.slice none 0 0) 1 24 := by unfold ElT; kernel_rfl
theorem sz46 : (Try.prog.info? 46).map (·.size) = some 1 := by kernel_rfl
theorem on46 : OneT Try.prog 46 := by unfold OneT; kernel_rfl
theorem el47 : ElT Try.prog 47 .nilFunc 1 8 := by unfold ElT; kernel_rfl
theorem sz47 : (Try.prog.info? 47).map (·.size) = some 1 := by kernel_rfl
theorem el48 : ElT Try.prog 48 .nilFunc 1 8 := by unfold ElT; kernel_rfl
theorem sz48 : (Try.prog.info? 48).map (·.size) = some 1 := by kernel_rfl
theorem el49 : ElT Try.prog 49 .nilFunc 1 8 := by unfold ElT; kernel_rfl
theorem sz49 : (Try.prog.info? 49).map (·.size) = some 1 := by kernel_rfl
theorem el50 : ElT Try.prog 50 .nilFunc 1 8 := by unfold ElT; kernel_rfl
theorem sz50 : (Try.prog.info? 50).map (·.size) = some 1 := by kernel_rfl
theorem el51 : ElT Try.prog 51 .nilFunc 1 8 := by unfold ElT; kernel_rfl
theorem sz51 : (Try.prog.info? 51).map (·.size) = some 1 := by kernel_rfl
theorem el52 : ElT Try.prog 52 .nilFunc 1 8 := by unfold ElT; kernel_rfl
theorem sz52 : (Try.prog.info? 52).map (·.size) = some 1 := by kernel_rfl
theorem el53 : ElT Try.prog 53 (.map none) 1 8 := by unfold ElT; kernel_rfl
theorem sz53 : (Try.prog.info? 53).map (·.size) = some 1 := by kernel_rfl
theorem on53 : OneT Try.prog 53 := by unfold OneT; kernel_rfl
theorem mp53 : Try.prog.underlying 53 = some (.map 42 3) := by kernel_rfl
theorem el54 : ElT Try.prog 54 .nilFunc 1 8 := by unfold ElT; kernel_rfl
theorem sz54 : (Try.prog.info? 54).map (·.size) = some 1 := by kernel_rfl
theorem el55 : ElT Try.prog 55 (.agg #[(.pointer none), (.pointer none), (.pointer none), (.string ByteArray.empty)]) 4 40 := by unfold ElT; kernel_rfl
theorem sz55 : (Try.prog.info? 55).map (·.size) = some 4 := by kernel_rfl
theorem ag55 : AggT Try.prog 55 4 := ⟨by kernel_rfl, by kernel_rfl⟩
theorem el56 : ElT Try.prog 56 (.agg #[(.pointer none), (.pointer none), (.pointer none), (.string ByteArray.empty)]) 4 40 := by unfold ElT; kernel_rfl
theorem sz56 : (Try.prog.info? 56).map (·.size) = some 4 := by kernel_rfl
theorem ag56 : AggT Try.prog 56 4 := ⟨by kernel_rfl, by kernel_rfl⟩
theorem ag57 : AggT Try.prog 57 0 := ⟨by kernel_rfl, by kernel_rfl⟩
theorem ar57 : ArrT Try.prog 57 16 0 1 := ⟨by kernel_rfl, by kernel_rfl⟩
theorem ag58 : AggT Try.prog 58 0 := ⟨by kernel_rfl, by kernel_rfl⟩
theorem ag59 : AggT Try.prog 59 0 := ⟨by kernel_rfl, by kernel_rfl⟩
theorem el60 : ElT Try.prog 60 .nilFunc 1 8 := by unfold ElT; kernel_rfl
theorem sz60 : (Try.prog.info? 60).map (·.size) = some 1 := by kernel_rfl
theorem el61 : ElT Try.prog 61 (.int .u32 0) 1 4 := by unfold ElT; kernel_rfl
theorem sz61 : (Try.prog.info? 61).map (·.size) = some 1 := by kernel_rfl
theorem on61 : OneT Try.prog 61 := by unfold OneT; kernel_rfl
theorem un61 : Try.prog.underlying 61 = some (.int .u32) := by kernel_rfl
theorem el62 : ElT Try.prog 62 (.int .u8 0) 1 1 := by unfold ElT; kernel_rfl
theorem sz62 : (Try.prog.info? 62).map (·.size) = some 1 := by kernel_rfl
theorem on62 : OneT Try.prog 62 := by unfold OneT; kernel_rfl
theorem un62 : Try.prog.underlying 62 = some (.int .u8) := by kernel_rfl
theorem el63 : ElT Try.prog 63 (.int .u8 0) 1 1 := by unfold ElT; kernel_rfl
theorem sz63 : (Try.prog.info? 63).map (·.size) = some 1 := by kernel_rfl
theorem on63 : OneT Try.prog 63 := by unfold OneT; kernel_rfl
theorem un63 : Try.prog.underlying 63 = some (.int .u8) := by kernel_rfl
theorem el64 : ElT Try.prog 64 .nilFunc 1 8 := by unfold ElT; kernel_rfl
theorem sz64 : (Try.prog.info? 64).map (·.size) = some 1 := by kernel_rfl
theorem el65 : ElT Try.prog 65 (.pointer none) 1 8 := by unfold ElT; kernel_rfl
theorem sz65 : (Try.prog.info? 65).map (·.size) = some 1 := by kernel_rfl
theorem on65 : OneT Try.prog 65 := by unfold OneT; kernel_rfl
theorem el66 : ElT Try.prog 66 (.int .i32 0) 1 4 := by unfold ElT; kernel_rfl
theorem sz66 : (Try.prog.info? 66).map (·.size) = some 1 := by kernel_rfl
theorem on66 : OneT Try.prog 66 := by unfold OneT; kernel_rfl
theorem un66 : Try.prog.underlying 66 = some (.int .i32) := by kernel_rfl
theorem el67 : ElT Try.prog 67 (.int .i32 0) 1 4 := by unfold ElT; kernel_rfl
theorem sz67 : (Try.prog.info? 67).map (·.size) = some 1 := by kernel_rfl
theorem on67 : OneT Try.prog 67 := by unfold OneT; kernel_rfl
theorem un67 : Try.prog.underlying 67 = some (.int .i32) := by kernel_rfl
theorem el68 : ElT Try.prog 68 (.agg #[(.int .u64 0), (.int .u64 0), (.int .u32 0), (.int .u8 0), (.int .u8 0), (.int .u8 0), (.int .u8 0), .nilFunc, (.pointer none), (.int .i32 0), (.int .i32 0)]) 11 48 := by unfold ElT; kernel_rfl
theorem sz68 : (Try.prog.info? 68).map (·.size) = some 11 := by kernel_rfl
theorem ag68 : AggT Try.prog 68 11 := ⟨by kernel_rfl, by kernel_rfl⟩
theorem el69 : ElT Try.prog 69 (.agg #[(.int .u64 0), (.int .u64 0), (.int .u32 0), (.int .u8 0), (.int .u8 0), (.int .u8 0), (.int .u8 0), .nilFunc, (.pointer none), (.int .i32 0), (.int .i32 0)]) 11 48 := by unfold ElT; kernel_rfl
theorem sz69 : (Try.prog.info? 69).map (·.size) = some 11 := by kernel_rfl
theorem ag69 : AggT Try.prog 69 11 := ⟨by kernel_rfl, by kernel_rfl⟩
theorem el70 : ElT Try.prog 70 (.pointer none) 1 8 := by unfold ElT; kernel_rfl
theorem sz70 : (Try.prog.info? 70).map (·.size) = some 1 := by kernel_rfl
theorem on70 : OneT Try.prog 70 := by unfold OneT; kernel_rfl
theorem co2 : CallOk Try.prog 2 := by unfold CallOk; kernel_rfl
theorem co3 : CallOk Try.prog 3 := by unfold CallOk; kernel_rfl
theorem co4 : CallOk Try.prog 4 := by unfold CallOk; kernel_rfl
theorem co5 : CallOk Try.prog 5 := by unfold CallOk; kernel_rfl
theorem co6 : CallOk Try.prog 6 := by unfold CallOk; kernel_rfl
theorem co7 : CallOk Try.prog 7 := by unfold CallOk; kernel_rfl
theorem co8 : CallOk Try.prog 8 := by unfold CallOk; kernel_rfl
theorem co9 : CallOk Try.prog 9 := by unfold CallOk; kernel_rfl
theorem co10 : CallOk Try.prog 10 := by unfold CallOk; kernel_rfl
theorem co11 : CallOk Try.prog 11 := by unfold CallOk; kernel_rfl
theorem co12 : CallOk Try.prog 12 := by unfold CallOk; kernel_rfl
theorem co13 : CallOk Try.prog 13 := by unfold CallOk; kernel_rfl
theorem co14 : CallOk Try.prog 14 := by unfold CallOk; kernel_rfl
theorem co15 : CallOk Try.prog 15 := by unfold CallOk; kernel_rfl
theorem co16 : CallOk Try.prog 16 := by unfold CallOk; kernel_rfl
theorem co17 : CallOk Try.prog 17 := by unfold CallOk; kernel_rfl
theorem co18 : CallOk Try.prog 18 := by unfold CallOk; kernel_rfl
theorem co19 : CallOk Try.prog 19 := by unfold CallOk; kernel_rfl
theorem co20 : CallOk Try.prog 20 := by unfold CallOk; kernel_rfl
theorem co21 : CallOk Try.prog 21 := by unfold CallOk; kernel_rfl
theorem co22 : CallOk Try.prog 22 := by unfold CallOk; kernel_rfl
theorem co23 : CallOk Try.prog 23 := by unfold CallOk; kernel_rfl
theorem co24 : CallOk Try.prog 24 := by unfold CallOk; kernel_rfl
theorem co25 : CallOk Try.prog 25 := by unfold CallOk; kernel_rfl
theorem co26 : CallOk Try.prog 26 := by unfold CallOk; kernel_rfl
theorem co27 : CallOk Try.prog 27 := by unfold CallOk; kernel_rfl
theorem co28 : CallOk Try.prog 28 := by unfold CallOk; kernel_rfl
theorem co29 : CallOk Try.prog 29 := by unfold CallOk; kernel_rfl
theorem co30 : CallOk Try.prog 30 := by unfold CallOk; kernel_rfl
theorem co31 : CallOk Try.prog 31 := by unfold CallOk; kernel_rfl
theorem co32 : CallOk Try.prog 32 := by unfold CallOk; kernel_rfl
theorem co33 : CallOk Try.prog 33 := by unfold CallOk; kernel_rfl
theorem co34 : CallOk Try.prog 34 := by unfold CallOk; kernel_rfl
theorem co35 : CallOk Try.prog 35 := by unfold CallOk; kernel_rfl
theorem co36 : CallOk Try.prog 36 := by unfold CallOk; kernel_rfl
theorem co37 : CallOk Try.prog 37 := by unfold CallOk; kernel_rfl
theorem co38 : CallOk Try.prog 38 := by unfold CallOk; kernel_rfl
theorem co39 : CallOk Try.prog 39 := by unfold CallOk; kernel_rfl
theorem co40 : CallOk Try.prog 40 := by unfold CallOk; kernel_rfl
theorem co41 : CallOk Try.prog 41 := by unfold CallOk; kernel_rfl
theorem co42 : CallOk Try.prog 42 := by unfold CallOk; kernel_rfl
theorem co43 : CallOk Try.prog 43 := by unfold CallOk; kernel_rfl
theorem co44 : CallOk Try.prog 44 := by unfold CallOk; kernel_rfl
theorem co45 : CallOk Try.prog 45 := by unfold CallOk; kernel_rfl
theorem co46 : CallOk Try.prog 46 := by unfold CallOk; kernel_rfl
theorem co47 : CallOk Try.prog 47 := by unfold CallOk; kernel_rfl
theorem co48 : CallOk Try.prog 48 := by unfold CallOk; kernel_rfl
theorem co49 : CallOk Try.prog 49 := by unfold CallOk; kernel_rfl
theorem co50 : CallOk Try.prog 50 := by unfold CallOk; kernel_rfl
theorem mixed : Try.prog.follows .mixedOrders = true := by kernel_rfl
end Go.Proofs.Ytkdidaiedibhaaa
