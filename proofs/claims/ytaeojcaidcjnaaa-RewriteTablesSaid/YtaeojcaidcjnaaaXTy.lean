import Derived.Test.YtaeojcaidcjnaaaProg
import Derived.Test.YtaeojcaidcjnaaaXS2
import Derived.KernelRfl
namespace Go.Proofs.Ytaeojcaidcjnaaa
open Go.Sx
theorem el3 : ElT Try.prog 3 (.int .i64 0) 1 8 := by unfold ElT; kernel_rfl
theorem sz3 : (Try.prog.info? 3).map (·.size) = some 1 := by kernel_rfl
theorem on3 : OneT Try.prog 3 := by unfold OneT; kernel_rfl
theorem un3 : Try.prog.underlying 3 = some (.int .i64) := by kernel_rfl
theorem el4 : ElT Try.prog 4 (.bool false) 1 1 := by unfold ElT; kernel_rfl
theorem sz4 : (Try.prog.info? 4).map (·.size) = some 1 := by kernel_rfl
theorem on4 : OneT Try.prog 4 := by unfold OneT; kernel_rfl
theorem bo4 : Try.prog.underlying 4 = some .bool := by kernel_rfl
theorem el5 : ElT Try.prog 5 (.int .u8 0) 1 1 := by unfold ElT; kernel_rfl
theorem sz5 : (Try.prog.info? 5).map (·.size) = some 1 := by kernel_rfl
theorem on5 : OneT Try.prog 5 := by unfold OneT; kernel_rfl
theorem un5 : Try.prog.underlying 5 = some (.int .u8) := by kernel_rfl
theorem el9 : ElT Try.prog 9 (.string ByteArray.empty) 1 16 := by unfold ElT; kernel_rfl
theorem sz9 : (Try.prog.info? 9).map (·.size) = some 1 := by kernel_rfl
theorem on9 : OneT Try.prog 9 := by unfold OneT; kernel_rfl
theorem un9 : Try.prog.underlying 9 = some .string := by kernel_rfl
theorem el21 : ElT Try.prog 21 (.int .i32 0) 1 4 := by unfold ElT; kernel_rfl
theorem sz21 : (Try.prog.info? 21).map (·.size) = some 1 := by kernel_rfl
theorem on21 : OneT Try.prog 21 := by unfold OneT; kernel_rfl
theorem un21 : Try.prog.underlying 21 = some (.int .i32) := by kernel_rfl
theorem sl22 : SlT Try.prog 22 41 2 := ⟨by kernel_rfl, by kernel_rfl⟩
theorem on22 : OneT Try.prog 22 := by unfold OneT; kernel_rfl
theorem el23 : ElT Try.prog 23 (.int .i64 0) 1 8 := by unfold ElT; kernel_rfl
theorem sz23 : (Try.prog.info? 23).map (·.size) = some 1 := by kernel_rfl
theorem on23 : OneT Try.prog 23 := by unfold OneT; kernel_rfl
theorem sl33 : SlT Try.prog 33 4 1 := ⟨by kernel_rfl, by kernel_rfl⟩
theorem sz33 : (Try.prog.info? 33).map (·.size) = some 1 := by kernel_rfl
theorem on33 : OneT Try.prog 33 := by unfold OneT; kernel_rfl
theorem sl34 : SlT Try.prog 34 74 1 := ⟨by kernel_rfl, by kernel_rfl⟩
theorem sz34 : (Try.prog.info? 34).map (·.size) = some 1 := by kernel_rfl
theorem on34 : OneT Try.prog 34 := by unfold OneT; kernel_rfl
theorem el36 : ElT Try.prog 36 (.agg #[(.int .i64 0), (.int .i64 0), (.slice none 0 0), (.slice none 0 0)]) 4 64 := by unfold ElT; kernel_rfl
theorem sz36 : (Try.prog.info? 36).map (·.size) = some 4 := by kernel_rfl
theorem ag36 : AggT Try.prog 36 4 := ⟨by kernel_rfl, by kernel_rfl⟩
theorem fd36_0 : FldT Try.prog 36 0 0 := FldT.of (by kernel_rfl)
theorem fd36_1 : FldT Try.prog 36 1 1 := FldT.of (by kernel_rfl)
theorem fd36_2 : FldT Try.prog 36 2 2 := FldT.of (by kernel_rfl)
theorem fd36_3 : FldT Try.prog 36 3 3 := FldT.of (by kernel_rfl)
theorem el41 : ElT Try.prog 41 (.agg #[(.string ByteArray.empty), (.string ByteArray.empty)]) 2 32 := by unfold ElT; kernel_rfl
theorem sz41 : (Try.prog.info? 41).map (·.size) = some 2 := by kernel_rfl
theorem ag41 : AggT Try.prog 41 2 := ⟨by kernel_rfl, by kernel_rfl⟩
theorem fd41_0 : FldT Try.prog 41 0 0 := FldT.of (by kernel_rfl)
theorem fd41_1 : FldT Try.prog 41 1 1 := FldT.of (by kernel_rfl)
theorem sl42 : SlT Try.prog 42 45 3 := ⟨by kernel_rfl, by kernel_rfl⟩
theorem el45 : ElT Try.prog 45 (.agg #[(.string ByteArray.empty), (.string ByteArray.empty), (.string ByteArray.empty)]) 3 48 := by unfold ElT; kernel_rfl
theorem sz45 : (Try.prog.info? 45).map (·.size) = some 3 := by kernel_rfl
theorem ag45 : AggT Try.prog 45 3 := ⟨by kernel_rfl, by kernel_rfl⟩
theorem fd45_1 : FldT Try.prog 45 1 1 := FldT.of (by kernel_rfl)
theorem fd45_2 : FldT Try.prog 45 2 2 := FldT.of (by kernel_rfl)
theorem sl53 : SlT Try.prog 53 9 1 := ⟨by kernel_rfl, by kernel_rfl⟩
theorem on60 : OneT Try.prog 60 := by unfold OneT; kernel_rfl
theorem el62 : ElT Try.prog 62 (.agg #[(.slice none 0 0), (.pointer none)]) 2 32 := by unfold ElT; kernel_rfl
theorem sz62 : (Try.prog.info? 62).map (·.size) = some 2 := by kernel_rfl
theorem ag62 : AggT Try.prog 62 2 := ⟨by kernel_rfl, by kernel_rfl⟩
theorem fd62_0 : FldT Try.prog 62 0 0 := FldT.of (by kernel_rfl)
theorem fd62_1 : FldT Try.prog 62 1 1 := FldT.of (by kernel_rfl)
theorem sl69 : SlT Try.prog 69 73 6 := ⟨by kernel_rfl, by kernel_rfl⟩
theorem sz69 : (Try.prog.info? 69).map (·.size) = some 1 := by kernel_rfl
theorem on69 : OneT Try.prog 69 := by unfold OneT; kernel_rfl
theorem sl70 : SlT Try.prog 70 21 1 := ⟨by kernel_rfl, by kernel_rfl⟩
theorem sz70 : (Try.prog.info? 70).map (·.size) = some 1 := by kernel_rfl
theorem on70 : OneT Try.prog 70 := by unfold OneT; kernel_rfl
theorem fd72_0 : FldT Try.prog 72 0 0 := FldT.of (by kernel_rfl)
theorem fd72_1 : FldT Try.prog 72 1 1 := FldT.of (by kernel_rfl)
theorem el73 : ElT Try.prog 73 (.agg #[(.int .i32 0), (.int .i32 0), (.int .i32 0), (.int .i32 0), (.int .i32 0), (.int .i32 0)]) 6 24 := by unfold ElT; kernel_rfl
theorem sz73 : (Try.prog.info? 73).map (·.size) = some 6 := by kernel_rfl
theorem ag73 : AggT Try.prog 73 6 := ⟨by kernel_rfl, by kernel_rfl⟩
theorem ar73 : ArrT Try.prog 73 21 6 1 := ⟨by kernel_rfl, by kernel_rfl⟩
theorem sl74 : SlT Try.prog 74 3 1 := ⟨by kernel_rfl, by kernel_rfl⟩
theorem el74 : ElT Try.prog 74 (.slice none 0 0) 1 24 := by unfold ElT; kernel_rfl
theorem sz74 : (Try.prog.info? 74).map (·.size) = some 1 := by kernel_rfl
theorem on74 : OneT Try.prog 74 := by unfold OneT; kernel_rfl
theorem mp76 : Try.prog.underlying 76 = some (.map 9 3) := by kernel_rfl
theorem sl78 : SlT Try.prog 78 5 1 := ⟨by kernel_rfl, by kernel_rfl⟩
theorem sz78 : (Try.prog.info? 78).map (·.size) = some 1 := by kernel_rfl
theorem on78 : OneT Try.prog 78 := by unfold OneT; kernel_rfl
theorem el91 : ElT Try.prog 91 (.agg #[(.slice none 0 0), (.slice none 0 0)]) 2 48 := by unfold ElT; kernel_rfl
theorem sz91 : (Try.prog.info? 91).map (·.size) = some 2 := by kernel_rfl
theorem fd91_0 : FldT Try.prog 91 0 0 := FldT.of (by kernel_rfl)
theorem fd91_1 : FldT Try.prog 91 1 1 := FldT.of (by kernel_rfl)
theorem mp112 : Try.prog.underlying 112 = some (.map 114 3) := by kernel_rfl
theorem el114 : ElT Try.prog 114 (.agg #[(.int .i64 0), (.int .i64 0), (.int .i64 0), (.int .i64 0), (.int .i64 0), (.int .i64 0), (.int .i64 0)]) 7 56 := by unfold ElT; kernel_rfl
theorem sz114 : (Try.prog.info? 114).map (·.size) = some 7 := by kernel_rfl
theorem ag114 : AggT Try.prog 114 7 := ⟨by kernel_rfl, by kernel_rfl⟩
theorem ar114 : ArrT Try.prog 114 3 7 1 := ⟨by kernel_rfl, by kernel_rfl⟩
theorem sz115 : (Try.prog.info? 115).map (·.size) = some 1 := by kernel_rfl
theorem on115 : OneT Try.prog 115 := by unfold OneT; kernel_rfl
theorem mp115 : Try.prog.underlying 115 = some (.map 3 3) := by kernel_rfl
theorem el120 : ElT Try.prog 120 (.agg #[(.slice none 0 0), (.map none)]) 2 32 := by unfold ElT; kernel_rfl
theorem fd120_0 : FldT Try.prog 120 0 0 := FldT.of (by kernel_rfl)
theorem fd120_1 : FldT Try.prog 120 1 1 := FldT.of (by kernel_rfl)
theorem co13 : CallOk Try.prog 13 := by unfold CallOk; kernel_rfl
theorem co14 : CallOk Try.prog 14 := by unfold CallOk; kernel_rfl
theorem co15 : CallOk Try.prog 15 := by unfold CallOk; kernel_rfl
theorem co16 : CallOk Try.prog 16 := by unfold CallOk; kernel_rfl
theorem co18 : CallOk Try.prog 18 := by unfold CallOk; kernel_rfl
theorem co19 : CallOk Try.prog 19 := by unfold CallOk; kernel_rfl
theorem co20 : CallOk Try.prog 20 := by unfold CallOk; kernel_rfl
theorem co21 : CallOk Try.prog 21 := by unfold CallOk; kernel_rfl
theorem co22 : CallOk Try.prog 22 := by unfold CallOk; kernel_rfl
theorem co23 : CallOk Try.prog 23 := by unfold CallOk; kernel_rfl
theorem co25 : CallOk Try.prog 25 := by unfold CallOk; kernel_rfl
theorem co27 : CallOk Try.prog 27 := by unfold CallOk; kernel_rfl
theorem co28 : CallOk Try.prog 28 := by unfold CallOk; kernel_rfl
theorem co29 : CallOk Try.prog 29 := by unfold CallOk; kernel_rfl
theorem co31 : CallOk Try.prog 31 := by unfold CallOk; kernel_rfl
theorem co32 : CallOk Try.prog 32 := by unfold CallOk; kernel_rfl
theorem co33 : CallOk Try.prog 33 := by unfold CallOk; kernel_rfl
theorem co34 : CallOk Try.prog 34 := by unfold CallOk; kernel_rfl
theorem co35 : CallOk Try.prog 35 := by unfold CallOk; kernel_rfl
theorem co36 : CallOk Try.prog 36 := by unfold CallOk; kernel_rfl
theorem co37 : CallOk Try.prog 37 := by unfold CallOk; kernel_rfl
theorem co38 : CallOk Try.prog 38 := by unfold CallOk; kernel_rfl
theorem co39 : CallOk Try.prog 39 := by unfold CallOk; kernel_rfl
theorem co41 : CallOk Try.prog 41 := by unfold CallOk; kernel_rfl
theorem co42 : CallOk Try.prog 42 := by unfold CallOk; kernel_rfl
theorem co43 : CallOk Try.prog 43 := by unfold CallOk; kernel_rfl
theorem co44 : CallOk Try.prog 44 := by unfold CallOk; kernel_rfl
theorem co45 : CallOk Try.prog 45 := by unfold CallOk; kernel_rfl
theorem co47 : CallOk Try.prog 47 := by unfold CallOk; kernel_rfl
theorem co48 : CallOk Try.prog 48 := by unfold CallOk; kernel_rfl
theorem co49 : CallOk Try.prog 49 := by unfold CallOk; kernel_rfl
theorem co50 : CallOk Try.prog 50 := by unfold CallOk; kernel_rfl
theorem co51 : CallOk Try.prog 51 := by unfold CallOk; kernel_rfl
theorem co52 : CallOk Try.prog 52 := by unfold CallOk; kernel_rfl
theorem co53 : CallOk Try.prog 53 := by unfold CallOk; kernel_rfl
theorem co54 : CallOk Try.prog 54 := by unfold CallOk; kernel_rfl
theorem co55 : CallOk Try.prog 55 := by unfold CallOk; kernel_rfl
theorem co56 : CallOk Try.prog 56 := by unfold CallOk; kernel_rfl
theorem co57 : CallOk Try.prog 57 := by unfold CallOk; kernel_rfl
theorem co58 : CallOk Try.prog 58 := by unfold CallOk; kernel_rfl
theorem co59 : CallOk Try.prog 59 := by unfold CallOk; kernel_rfl
theorem co60 : CallOk Try.prog 60 := by unfold CallOk; kernel_rfl
theorem co61 : CallOk Try.prog 61 := by unfold CallOk; kernel_rfl
theorem co62 : CallOk Try.prog 62 := by unfold CallOk; kernel_rfl
theorem co63 : CallOk Try.prog 63 := by unfold CallOk; kernel_rfl
theorem co64 : CallOk Try.prog 64 := by unfold CallOk; kernel_rfl
theorem co65 : CallOk Try.prog 65 := by unfold CallOk; kernel_rfl
theorem co66 : CallOk Try.prog 66 := by unfold CallOk; kernel_rfl
theorem co67 : CallOk Try.prog 67 := by unfold CallOk; kernel_rfl
theorem co69 : CallOk Try.prog 69 := by unfold CallOk; kernel_rfl
theorem co71 : CallOk Try.prog 71 := by unfold CallOk; kernel_rfl
theorem co72 : CallOk Try.prog 72 := by unfold CallOk; kernel_rfl
theorem co73 : CallOk Try.prog 73 := by unfold CallOk; kernel_rfl
theorem co74 : CallOk Try.prog 74 := by unfold CallOk; kernel_rfl
theorem co75 : CallOk Try.prog 75 := by unfold CallOk; kernel_rfl
theorem co81 : CallOk Try.prog 81 := by unfold CallOk; kernel_rfl
theorem co82 : CallOk Try.prog 82 := by unfold CallOk; kernel_rfl
theorem co83 : CallOk Try.prog 83 := by unfold CallOk; kernel_rfl
theorem co87 : CallOk Try.prog 87 := by unfold CallOk; kernel_rfl
theorem mixed : Try.prog.follows .mixedOrders = true := by kernel_rfl
end Go.Proofs.Ytaeojcaidcjnaaa
