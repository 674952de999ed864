import Derived.Test.YtdnhiinakhmhgaaGreatDoorProg
import Derived.Test.YtdnhiinakhmhgaaGreatDoorYZb
import Derived.KernelRfl
import Derived.ChangeKeysEq
import Derived.Laws.IdiomCopy
set_option linter.unusedVariables false
set_option linter.unusedSimpArgs false
set_option maxRecDepth 100000
namespace Go.Proofs.YtdnhiinakhmhgaaGreatDoor
open Go.Sx
theorem sz1 : (Tryz.prog.info? 1).map (·.size) = some 1 := by kernel_rfl
theorem sz2 : (Tryz.prog.info? 2).map (·.size) = some 1 := by kernel_rfl
theorem el3 : ElT Tryz.prog 3 (.int .i64 0) 1 8 := by unfold ElT; kernel_rfl
theorem sz3 : (Tryz.prog.info? 3).map (·.size) = some 1 := by kernel_rfl
theorem on3 : OneT Tryz.prog 3 := by unfold OneT; kernel_rfl
theorem un3 : Tryz.prog.underlying 3 = some (.int .i64) := by kernel_rfl
theorem el4 : ElT Tryz.prog 4 (.bool false) 1 1 := by unfold ElT; kernel_rfl
theorem sz4 : (Tryz.prog.info? 4).map (·.size) = some 1 := by kernel_rfl
theorem on4 : OneT Tryz.prog 4 := by unfold OneT; kernel_rfl
theorem bo4 : Tryz.prog.underlying 4 = some .bool := by kernel_rfl
theorem el5 : ElT Tryz.prog 5 (.int .u8 0) 1 1 := by unfold ElT; kernel_rfl
theorem sz5 : (Tryz.prog.info? 5).map (·.size) = some 1 := by kernel_rfl
theorem on5 : OneT Tryz.prog 5 := by unfold OneT; kernel_rfl
theorem un5 : Tryz.prog.underlying 5 = some (.int .u8) := by kernel_rfl
theorem el9 : ElT Tryz.prog 9 (.string ByteArray.empty) 1 16 := by unfold ElT; kernel_rfl
theorem sz9 : (Tryz.prog.info? 9).map (·.size) = some 1 := by kernel_rfl
theorem on9 : OneT Tryz.prog 9 := by unfold OneT; kernel_rfl
theorem un9 : Tryz.prog.underlying 9 = some .string := by kernel_rfl
theorem el21 : ElT Tryz.prog 21 (.int .i32 0) 1 4 := by unfold ElT; kernel_rfl
theorem sz21 : (Tryz.prog.info? 21).map (·.size) = some 1 := by kernel_rfl
theorem on21 : OneT Tryz.prog 21 := by unfold OneT; kernel_rfl
theorem un21 : Tryz.prog.underlying 21 = some (.int .i32) := by kernel_rfl
theorem sl22 : SlT Tryz.prog 22 26 1 := ⟨by kernel_rfl, by kernel_rfl⟩
theorem sz22 : (Tryz.prog.info? 22).map (·.size) = some 1 := by kernel_rfl
theorem on22 : OneT Tryz.prog 22 := by unfold OneT; kernel_rfl
theorem sl23 : SlT Tryz.prog 23 5 1 := ⟨by kernel_rfl, by kernel_rfl⟩
theorem sz23 : (Tryz.prog.info? 23).map (·.size) = some 1 := by kernel_rfl
theorem on23 : OneT Tryz.prog 23 := by unfold OneT; kernel_rfl
theorem sl26 : SlT Tryz.prog 26 3 1 := ⟨by kernel_rfl, by kernel_rfl⟩
theorem el26 : ElT Tryz.prog 26 (.slice none 0 0) 1 24 := by unfold ElT; kernel_rfl
theorem sz26 : (Tryz.prog.info? 26).map (·.size) = some 1 := by kernel_rfl
theorem on26 : OneT Tryz.prog 26 := by unfold OneT; kernel_rfl
theorem sl27 : SlT Tryz.prog 27 39 2 := ⟨by kernel_rfl, by kernel_rfl⟩
theorem sz27 : (Tryz.prog.info? 27).map (·.size) = some 1 := by kernel_rfl
theorem on27 : OneT Tryz.prog 27 := by unfold OneT; kernel_rfl
theorem el29 : ElT Tryz.prog 29 (.agg #[(.int .i64 0), (.bool false), (.slice none 0 0), (.slice none 0 0), (.slice none 0 0), (.slice none 0 0), (.slice none 0 0), (.slice none 0 0), (.int .i64 0)]) 9 168 := by unfold ElT; kernel_rfl
theorem sz29 : (Tryz.prog.info? 29).map (·.size) = some 9 := by kernel_rfl
theorem ag29 : AggT Tryz.prog 29 9 := ⟨by kernel_rfl, by kernel_rfl⟩
theorem fd29_0 : FldT Tryz.prog 29 0 0 := FldT.of (by kernel_rfl)
theorem fd29_1 : FldT Tryz.prog 29 1 1 := FldT.of (by kernel_rfl)
theorem fd29_2 : FldT Tryz.prog 29 2 2 := FldT.of (by kernel_rfl)
theorem fd29_3 : FldT Tryz.prog 29 3 3 := FldT.of (by kernel_rfl)
theorem fd29_4 : FldT Tryz.prog 29 4 4 := FldT.of (by kernel_rfl)
theorem fd29_5 : FldT Tryz.prog 29 5 5 := FldT.of (by kernel_rfl)
theorem fd29_6 : FldT Tryz.prog 29 6 6 := FldT.of (by kernel_rfl)
theorem fd29_7 : FldT Tryz.prog 29 7 7 := FldT.of (by kernel_rfl)
theorem fd29_8 : FldT Tryz.prog 29 8 8 := FldT.of (by kernel_rfl)
theorem el39 : ElT Tryz.prog 39 (.agg #[(.string ByteArray.empty), (.string ByteArray.empty)]) 2 32 := by unfold ElT; kernel_rfl
theorem sz39 : (Tryz.prog.info? 39).map (·.size) = some 2 := by kernel_rfl
theorem ag39 : AggT Tryz.prog 39 2 := ⟨by kernel_rfl, by kernel_rfl⟩
theorem fd39_0 : FldT Tryz.prog 39 0 0 := FldT.of (by kernel_rfl)
theorem fd39_1 : FldT Tryz.prog 39 1 1 := FldT.of (by kernel_rfl)
theorem sl41 : SlT Tryz.prog 41 4 1 := ⟨by kernel_rfl, by kernel_rfl⟩
theorem el41 : ElT Tryz.prog 41 (.slice none 0 0) 1 24 := by unfold ElT; kernel_rfl
theorem sz41 : (Tryz.prog.info? 41).map (·.size) = some 1 := by kernel_rfl
theorem on41 : OneT Tryz.prog 41 := by unfold OneT; kernel_rfl
theorem el43 : ElT Tryz.prog 43 (.agg #[(.int .i64 0), (.int .i64 0), (.slice none 0 0), (.slice none 0 0)]) 4 64 := by unfold ElT; kernel_rfl
theorem sz43 : (Tryz.prog.info? 43).map (·.size) = some 4 := by kernel_rfl
theorem ag43 : AggT Tryz.prog 43 4 := ⟨by kernel_rfl, by kernel_rfl⟩
theorem fd43_0 : FldT Tryz.prog 43 0 0 := FldT.of (by kernel_rfl)
theorem fd43_1 : FldT Tryz.prog 43 1 1 := FldT.of (by kernel_rfl)
theorem fd43_2 : FldT Tryz.prog 43 2 2 := FldT.of (by kernel_rfl)
theorem fd43_3 : FldT Tryz.prog 43 3 3 := FldT.of (by kernel_rfl)
theorem sl44 : SlT Tryz.prog 44 9 1 := ⟨by kernel_rfl, by kernel_rfl⟩
theorem sz44 : (Tryz.prog.info? 44).map (·.size) = some 1 := by kernel_rfl
theorem on44 : OneT Tryz.prog 44 := by unfold OneT; kernel_rfl
theorem sl63 : SlT Tryz.prog 63 65 3 := ⟨by kernel_rfl, by kernel_rfl⟩
theorem sz63 : (Tryz.prog.info? 63).map (·.size) = some 1 := by kernel_rfl
theorem on63 : OneT Tryz.prog 63 := by unfold OneT; kernel_rfl
theorem el65 : ElT Tryz.prog 65 (.agg #[(.int .i64 0), (.int .i64 0), (.slice none 0 0)]) 3 40 := by unfold ElT; kernel_rfl
theorem sz65 : (Tryz.prog.info? 65).map (·.size) = some 3 := by kernel_rfl
theorem ag65 : AggT Tryz.prog 65 3 := ⟨by kernel_rfl, by kernel_rfl⟩
theorem fd65_0 : FldT Tryz.prog 65 0 0 := FldT.of (by kernel_rfl)
theorem fd65_1 : FldT Tryz.prog 65 1 1 := FldT.of (by kernel_rfl)
theorem fd65_2 : FldT Tryz.prog 65 2 2 := FldT.of (by kernel_rfl)
theorem on73 : OneT Tryz.prog 73 := by unfold OneT; kernel_rfl
theorem mp73 : Tryz.prog.underlying 73 = some (.map 9 3) := by kernel_rfl
theorem fd75_0 : FldT Tryz.prog 75 0 0 := FldT.of (by kernel_rfl)
theorem fd75_1 : FldT Tryz.prog 75 1 9 := FldT.of (by kernel_rfl)
theorem fd75_2 : FldT Tryz.prog 75 2 10 := FldT.of (by kernel_rfl)
theorem fd75_3 : FldT Tryz.prog 75 3 11 := FldT.of (by kernel_rfl)
theorem fd75_4 : FldT Tryz.prog 75 4 12 := FldT.of (by kernel_rfl)
theorem sl97 : SlT Tryz.prog 97 101 6 := ⟨by kernel_rfl, by kernel_rfl⟩
theorem sz97 : (Tryz.prog.info? 97).map (·.size) = some 1 := by kernel_rfl
theorem on97 : OneT Tryz.prog 97 := by unfold OneT; kernel_rfl
theorem sl98 : SlT Tryz.prog 98 21 1 := ⟨by kernel_rfl, by kernel_rfl⟩
theorem sz98 : (Tryz.prog.info? 98).map (·.size) = some 1 := by kernel_rfl
theorem on98 : OneT Tryz.prog 98 := by unfold OneT; kernel_rfl
theorem fd100_0 : FldT Tryz.prog 100 0 0 := FldT.of (by kernel_rfl)
theorem fd100_1 : FldT Tryz.prog 100 1 1 := FldT.of (by kernel_rfl)
theorem el101 : ElT Tryz.prog 101 (.agg #[(.int .i32 0), (.int .i32 0), (.int .i32 0), (.int .i32 0), (.int .i32 0), (.int .i32 0)]) 6 24 := by unfold ElT; kernel_rfl
theorem sz101 : (Tryz.prog.info? 101).map (·.size) = some 6 := by kernel_rfl
theorem ag101 : AggT Tryz.prog 101 6 := ⟨by kernel_rfl, by kernel_rfl⟩
theorem ar101 : ArrT Tryz.prog 101 21 6 1 := ⟨by kernel_rfl, by kernel_rfl⟩
theorem sl102 : SlT Tryz.prog 102 41 1 := ⟨by kernel_rfl, by kernel_rfl⟩
theorem sz102 : (Tryz.prog.info? 102).map (·.size) = some 1 := by kernel_rfl
theorem on102 : OneT Tryz.prog 102 := by unfold OneT; kernel_rfl
theorem el104 : ElT Tryz.prog 104 (.agg #[(.int .i64 0), (.int .i64 0), (.slice none 0 0), (.slice none 0 0), (.int .i64 0), (.slice none 0 0), (.slice none 0 0), (.slice none 0 0)]) 8 144 := by unfold ElT; kernel_rfl
theorem sz104 : (Tryz.prog.info? 104).map (·.size) = some 8 := by kernel_rfl
theorem fd104_0 : FldT Tryz.prog 104 0 0 := FldT.of (by kernel_rfl)
theorem fd104_2 : FldT Tryz.prog 104 2 5 := FldT.of (by kernel_rfl)
theorem el113 : ElT Tryz.prog 113 (.agg #[(.string ByteArray.empty)]) 1 16 := by unfold ElT; kernel_rfl
theorem sz113 : (Tryz.prog.info? 113).map (·.size) = some 1 := by kernel_rfl
theorem ag113 : AggT Tryz.prog 113 1 := ⟨by kernel_rfl, by kernel_rfl⟩
theorem fd113_0 : FldT Tryz.prog 113 0 0 := FldT.of (by kernel_rfl)
theorem sl115 : SlT Tryz.prog 115 127 1 := ⟨by kernel_rfl, by kernel_rfl⟩
theorem el115 : ElT Tryz.prog 115 (.slice none 0 0) 1 24 := by unfold ElT; kernel_rfl
theorem sz115 : (Tryz.prog.info? 115).map (·.size) = some 1 := by kernel_rfl
theorem on115 : OneT Tryz.prog 115 := by unfold OneT; kernel_rfl
theorem sl117 : SlT Tryz.prog 117 115 1 := ⟨by kernel_rfl, by kernel_rfl⟩
theorem el117 : ElT Tryz.prog 117 (.slice none 0 0) 1 24 := by unfold ElT; kernel_rfl
theorem sz117 : (Tryz.prog.info? 117).map (·.size) = some 1 := by kernel_rfl
theorem on117 : OneT Tryz.prog 117 := by unfold OneT; kernel_rfl
theorem el127 : ElT Tryz.prog 127 (.int .u64 0) 1 8 := by unfold ElT; kernel_rfl
theorem sz127 : (Tryz.prog.info? 127).map (·.size) = some 1 := by kernel_rfl
theorem on127 : OneT Tryz.prog 127 := by unfold OneT; kernel_rfl
theorem fd152_0 : FldT Tryz.prog 152 0 0 := FldT.of (by kernel_rfl)
theorem fd152_1 : FldT Tryz.prog 152 1 1 := FldT.of (by kernel_rfl)
theorem fd152_2 : FldT Tryz.prog 152 2 2 := FldT.of (by kernel_rfl)
theorem fd152_3 : FldT Tryz.prog 152 3 3 := FldT.of (by kernel_rfl)
theorem fd154_0 : FldT Tryz.prog 154 0 0 := FldT.of (by kernel_rfl)
theorem fd154_1 : FldT Tryz.prog 154 1 4 := FldT.of (by kernel_rfl)
theorem un160 : Tryz.prog.underlying 160 = some (.int .u64) := by kernel_rfl
theorem sz173 : (Tryz.prog.info? 173).map (·.size) = some 1 := by kernel_rfl
theorem on173 : OneT Tryz.prog 173 := by unfold OneT; kernel_rfl
theorem mp173 : Tryz.prog.underlying 173 = some (.map 3 3) := by kernel_rfl
theorem el175 : ElT Tryz.prog 175 (.agg #[(.slice none 0 0), (.map none)]) 2 32 := by unfold ElT; kernel_rfl
theorem fd175_0 : FldT Tryz.prog 175 0 0 := FldT.of (by kernel_rfl)
theorem fd175_1 : FldT Tryz.prog 175 1 1 := FldT.of (by kernel_rfl)
theorem el181 : ElT Tryz.prog 181 (.agg #[(.int .i64 0), (.int .i64 0), (.slice none 0 0), (.int .i64 0), (.int .i64 0), (.slice none 0 0), (.bool false)]) 7 88 := by unfold ElT; kernel_rfl
theorem sz181 : (Tryz.prog.info? 181).map (·.size) = some 7 := by kernel_rfl
theorem ag181 : AggT Tryz.prog 181 7 := ⟨by kernel_rfl, by kernel_rfl⟩
theorem fd181_0 : FldT Tryz.prog 181 0 0 := FldT.of (by kernel_rfl)
theorem fd181_1 : FldT Tryz.prog 181 1 3 := FldT.of (by kernel_rfl)
theorem fd181_2 : FldT Tryz.prog 181 2 6 := FldT.of (by kernel_rfl)
theorem ag183 : AggT Tryz.prog 183 2 := ⟨by kernel_rfl, by kernel_rfl⟩
theorem fd183_0 : FldT Tryz.prog 183 0 0 := FldT.of (by kernel_rfl)
theorem fd183_1 : FldT Tryz.prog 183 1 1 := FldT.of (by kernel_rfl)
theorem sz185 : (Tryz.prog.info? 185).map (·.size) = some 1 := by kernel_rfl
theorem on185 : OneT Tryz.prog 185 := by unfold OneT; kernel_rfl
theorem el187 : ElT Tryz.prog 187 (.agg #[(.pointer none), (.slice none 0 0)]) 2 32 := by unfold ElT; kernel_rfl
theorem fd187_0 : FldT Tryz.prog 187 0 0 := FldT.of (by kernel_rfl)
theorem fd187_1 : FldT Tryz.prog 187 1 1 := FldT.of (by kernel_rfl)
theorem mp191 : Tryz.prog.underlying 191 = some (.map 193 3) := by kernel_rfl
theorem el193 : ElT Tryz.prog 193 (.agg #[(.int .i64 0), (.int .i64 0), (.int .i64 0), (.int .i64 0), (.int .i64 0), (.int .i64 0), (.int .i64 0)]) 7 56 := by unfold ElT; kernel_rfl
theorem sz193 : (Tryz.prog.info? 193).map (·.size) = some 7 := by kernel_rfl
theorem ag193 : AggT Tryz.prog 193 7 := ⟨by kernel_rfl, by kernel_rfl⟩
theorem ar193 : ArrT Tryz.prog 193 3 7 1 := ⟨by kernel_rfl, by kernel_rfl⟩
theorem ar220 : ArrT Tryz.prog 220 5 64 1 := ⟨by kernel_rfl, by kernel_rfl⟩
theorem co6 : CallOk Tryz.prog 6 := by unfold CallOk; kernel_rfl
theorem co7 : CallOk Tryz.prog 7 := by unfold CallOk; kernel_rfl
theorem co11 : CallOk Tryz.prog 11 := by unfold CallOk; kernel_rfl
theorem co22 : CallOk Tryz.prog 22 := by unfold CallOk; kernel_rfl
theorem co23 : CallOk Tryz.prog 23 := by unfold CallOk; kernel_rfl
theorem co24 : CallOk Tryz.prog 24 := by unfold CallOk; kernel_rfl
theorem co25 : CallOk Tryz.prog 25 := by unfold CallOk; kernel_rfl
theorem co26 : CallOk Tryz.prog 26 := by unfold CallOk; kernel_rfl
theorem co27 : CallOk Tryz.prog 27 := by unfold CallOk; kernel_rfl
theorem co28 : CallOk Tryz.prog 28 := by unfold CallOk; kernel_rfl
theorem co29 : CallOk Tryz.prog 29 := by unfold CallOk; kernel_rfl
theorem co30 : CallOk Tryz.prog 30 := by unfold CallOk; kernel_rfl
theorem co31 : CallOk Tryz.prog 31 := by unfold CallOk; kernel_rfl
theorem co32 : CallOk Tryz.prog 32 := by unfold CallOk; kernel_rfl
theorem co33 : CallOk Tryz.prog 33 := by unfold CallOk; kernel_rfl
theorem co34 : CallOk Tryz.prog 34 := by unfold CallOk; kernel_rfl
theorem co35 : CallOk Tryz.prog 35 := by unfold CallOk; kernel_rfl
theorem co36 : CallOk Tryz.prog 36 := by unfold CallOk; kernel_rfl
theorem co37 : CallOk Tryz.prog 37 := by unfold CallOk; kernel_rfl
theorem co42 : CallOk Tryz.prog 42 := by unfold CallOk; kernel_rfl
theorem co48 : CallOk Tryz.prog 48 := by unfold CallOk; kernel_rfl
theorem co51 : CallOk Tryz.prog 51 := by unfold CallOk; kernel_rfl
theorem co53 : CallOk Tryz.prog 53 := by unfold CallOk; kernel_rfl
theorem co54 : CallOk Tryz.prog 54 := by unfold CallOk; kernel_rfl
theorem co55 : CallOk Tryz.prog 55 := by unfold CallOk; kernel_rfl
theorem co56 : CallOk Tryz.prog 56 := by unfold CallOk; kernel_rfl
theorem co57 : CallOk Tryz.prog 57 := by unfold CallOk; kernel_rfl
theorem co58 : CallOk Tryz.prog 58 := by unfold CallOk; kernel_rfl
theorem co59 : CallOk Tryz.prog 59 := by unfold CallOk; kernel_rfl
theorem co60 : CallOk Tryz.prog 60 := by unfold CallOk; kernel_rfl
theorem co61 : CallOk Tryz.prog 61 := by unfold CallOk; kernel_rfl
theorem co62 : CallOk Tryz.prog 62 := by unfold CallOk; kernel_rfl
theorem co63 : CallOk Tryz.prog 63 := by unfold CallOk; kernel_rfl
theorem co64 : CallOk Tryz.prog 64 := by unfold CallOk; kernel_rfl
theorem co65 : CallOk Tryz.prog 65 := by unfold CallOk; kernel_rfl
theorem co66 : CallOk Tryz.prog 66 := by unfold CallOk; kernel_rfl
theorem co67 : CallOk Tryz.prog 67 := by unfold CallOk; kernel_rfl
theorem co68 : CallOk Tryz.prog 68 := by unfold CallOk; kernel_rfl
theorem co69 : CallOk Tryz.prog 69 := by unfold CallOk; kernel_rfl
theorem co70 : CallOk Tryz.prog 70 := by unfold CallOk; kernel_rfl
theorem co71 : CallOk Tryz.prog 71 := by unfold CallOk; kernel_rfl
theorem co72 : CallOk Tryz.prog 72 := by unfold CallOk; kernel_rfl
theorem co73 : CallOk Tryz.prog 73 := by unfold CallOk; kernel_rfl
theorem co74 : CallOk Tryz.prog 74 := by unfold CallOk; kernel_rfl
theorem co75 : CallOk Tryz.prog 75 := by unfold CallOk; kernel_rfl
theorem co76 : CallOk Tryz.prog 76 := by unfold CallOk; kernel_rfl
theorem co77 : CallOk Tryz.prog 77 := by unfold CallOk; kernel_rfl
theorem co82 : CallOk Tryz.prog 82 := by unfold CallOk; kernel_rfl
theorem co88 : CallOk Tryz.prog 88 := by unfold CallOk; kernel_rfl
theorem co89 : CallOk Tryz.prog 89 := by unfold CallOk; kernel_rfl
theorem co90 : CallOk Tryz.prog 90 := by unfold CallOk; kernel_rfl
theorem co91 : CallOk Tryz.prog 91 := by unfold CallOk; kernel_rfl
theorem co92 : CallOk Tryz.prog 92 := by unfold CallOk; kernel_rfl
theorem co93 : CallOk Tryz.prog 93 := by unfold CallOk; kernel_rfl
theorem co94 : CallOk Tryz.prog 94 := by unfold CallOk; kernel_rfl
theorem co95 : CallOk Tryz.prog 95 := by unfold CallOk; kernel_rfl
theorem co96 : CallOk Tryz.prog 96 := by unfold CallOk; kernel_rfl
theorem co97 : CallOk Tryz.prog 97 := by unfold CallOk; kernel_rfl
theorem co98 : CallOk Tryz.prog 98 := by unfold CallOk; kernel_rfl
theorem co99 : CallOk Tryz.prog 99 := by unfold CallOk; kernel_rfl
theorem co100 : CallOk Tryz.prog 100 := by unfold CallOk; kernel_rfl
theorem co105 : CallOk Tryz.prog 105 := by unfold CallOk; kernel_rfl
theorem co106 : CallOk Tryz.prog 106 := by unfold CallOk; kernel_rfl
theorem co107 : CallOk Tryz.prog 107 := by unfold CallOk; kernel_rfl
theorem co108 : CallOk Tryz.prog 108 := by unfold CallOk; kernel_rfl
theorem co109 : CallOk Tryz.prog 109 := by unfold CallOk; kernel_rfl
theorem co111 : CallOk Tryz.prog 111 := by unfold CallOk; kernel_rfl
theorem co112 : CallOk Tryz.prog 112 := by unfold CallOk; kernel_rfl
theorem co115 : CallOk Tryz.prog 115 := by unfold CallOk; kernel_rfl
theorem co116 : CallOk Tryz.prog 116 := by unfold CallOk; kernel_rfl
theorem co117 : CallOk Tryz.prog 117 := by unfold CallOk; kernel_rfl
theorem co118 : CallOk Tryz.prog 118 := by unfold CallOk; kernel_rfl
theorem co119 : CallOk Tryz.prog 119 := by unfold CallOk; kernel_rfl
theorem co120 : CallOk Tryz.prog 120 := by unfold CallOk; kernel_rfl
theorem co121 : CallOk Tryz.prog 121 := by unfold CallOk; kernel_rfl
theorem co122 : CallOk Tryz.prog 122 := by unfold CallOk; kernel_rfl
theorem co123 : CallOk Tryz.prog 123 := by unfold CallOk; kernel_rfl
theorem co126 : CallOk Tryz.prog 126 := by unfold CallOk; kernel_rfl
theorem co133 : CallOk Tryz.prog 133 := by unfold CallOk; kernel_rfl
theorem co149 : CallOk Tryz.prog 149 := by unfold CallOk; kernel_rfl
theorem co150 : CallOk Tryz.prog 150 := by unfold CallOk; kernel_rfl
theorem co151 : CallOk Tryz.prog 151 := by unfold CallOk; kernel_rfl
theorem co152 : CallOk Tryz.prog 152 := by unfold CallOk; kernel_rfl
theorem co153 : CallOk Tryz.prog 153 := by unfold CallOk; kernel_rfl
theorem co154 : CallOk Tryz.prog 154 := by unfold CallOk; kernel_rfl
theorem co155 : CallOk Tryz.prog 155 := by unfold CallOk; kernel_rfl
theorem co156 : CallOk Tryz.prog 156 := by unfold CallOk; kernel_rfl
theorem co157 : CallOk Tryz.prog 157 := by unfold CallOk; kernel_rfl
theorem co158 : CallOk Tryz.prog 158 := by unfold CallOk; kernel_rfl
theorem co170 : CallOk Tryz.prog 170 := by unfold CallOk; kernel_rfl
theorem co171 : CallOk Tryz.prog 171 := by unfold CallOk; kernel_rfl
theorem co172 : CallOk Tryz.prog 172 := by unfold CallOk; kernel_rfl
theorem co173 : CallOk Tryz.prog 173 := by unfold CallOk; kernel_rfl
theorem co174 : CallOk Tryz.prog 174 := by unfold CallOk; kernel_rfl
theorem co175 : CallOk Tryz.prog 175 := by unfold CallOk; kernel_rfl
theorem co176 : CallOk Tryz.prog 176 := by unfold CallOk; kernel_rfl
theorem co177 : CallOk Tryz.prog 177 := by unfold CallOk; kernel_rfl
theorem co178 : CallOk Tryz.prog 178 := by unfold CallOk; kernel_rfl
theorem co179 : CallOk Tryz.prog 179 := by unfold CallOk; kernel_rfl
theorem co180 : CallOk Tryz.prog 180 := by unfold CallOk; kernel_rfl
theorem co185 : CallOk Tryz.prog 185 := by unfold CallOk; kernel_rfl
theorem co187 : CallOk Tryz.prog 187 := by unfold CallOk; kernel_rfl
theorem co190 : CallOk Tryz.prog 190 := by unfold CallOk; kernel_rfl
theorem co192 : CallOk Tryz.prog 192 := by unfold CallOk; kernel_rfl
theorem mixed : Tryz.prog.follows .mixedOrders = true := by kernel_rfl
end Go.Proofs.YtdnhiinakhmhgaaGreatDoor

namespace Go.Sx
open Go.RowKit
/-! ### rows of arrays: one cell of an element -/
section rowarr
variable {C : Cx} {sl : List (Nat × Value)} {own : List Asn} {dst : Option Nat} {ty : TypeId} {pos : String} {aft : Array Edge} {g : Option (Nat × Bool)}
theorem slA_add2 (v : Value) (m k : Nat) : ((slA v).add m).add k = (slA v).add (m + k) := by
  unfold Addr.add; repeat' split
  all_goals first | rfl | omega | (simp; omega) | (simp_all; done) | (congr 1; omega)
theorem Yl.idxArrR {x i : Operand} {t e n sz m : Nat} {q : IntKind} {k : Int} {v : Value} (ht : ArrT C.P t e n sz) (hx : opv ⟨sl, own⟩ x = some (.pointer (some ((slA v).add m)))) (hi : opv ⟨sl, own⟩ i = some (.int q k)) (hk : 0 ≤ k ∧ k < n) :
    Yl C ⟨sl, own⟩ ⟨dst, .indexAddr t x i, ty, pos, aft, g⟩ (.pointer (some ((slA v).add (m + k.toNat * sz)))) :=
  fun a w hs => by
    have hs1 := run_sizeOf_of ht.2 w
    rw [← slA_add2]
    simp only [execOp, opv_eval hs hx, opv_eval hs hi, Instr.indexAt, asIntOf, Sem.run_bind, Sem.run_pure, Result.andThen_ok, run_underlying ht.1, Instr.sureAddr]
    simp [hk.1, hk.2, hs1, run_underlying ht.1]
theorem Yl.loadAt {x : Operand} {t : TypeId} {v u : Value} {n sz p : Nat} {cs : List Value} (ht : OneT C.P t) (hx : opv ⟨sl, own⟩ x = some (.pointer (some ((slA v).add p)))) (hr : RdS C own v sz n cs) (hu : cs[p]? = some u) :
    Yl C ⟨sl, own⟩ ⟨dst, .load t x, ty, pos, aft, g⟩ u :=
  fun a w hs => by
    have h1 := (rd_cell (hr w hs.world) hu).1
    simp [execOp, opv_eval hs hx, Instr.loadAt, Instr.sureAddr, run_loadVar_one ht h1]
theorem Yl.idxAgg {x i : Operand} {t e n : Nat} {q : IntKind} {k : Int} {arr : Array Value} {u : Value} (ht : ArrT C.P t e n 1) (he : C.P.plainKey e = true) (hx : opv ⟨sl, own⟩ x = some (.agg arr)) (hi : opv ⟨sl, own⟩ i = some (.int q k)) (hk : 0 ≤ k ∧ k < n) (hu : arr[k.toNat]? = some u) :
    Yl C ⟨sl, own⟩ ⟨dst, .index t x i, ty, pos, aft, g⟩ u :=
  fun a w hs => by
    have hs1 := run_sizeOf_of ht.2 w
    have hp := run_part_plain (w := w) he hu
    simp only [execOp, opv_eval hs hx, opv_eval hs hi, Instr.index, asIntOf, Sem.run_bind, Sem.run_pure, Result.andThen_ok, run_underlying ht.1]
    simp [hk.1, hk.2, hs1, hp]
end rowarr
section rowarr2
variable {C : Cx} {sl : List (Nat × Value)} {own : List Asn} {ops : Array Oper} {Q : Exit → Act → World → Prop} {ty : TypeId} {pos : String} {aft : Array Edge} {g : Option (Nat × Bool)} {rest : List Oper}
/-- one cell of an owned row -/
theorem AK.storeAt (i : Nat) {t E : TypeId} {x y : Operand} {v u : Value} {n sz p : Nat} {cs cs' : List Value} (hi : own[i]? = some (row v E sz n cs)) (hs1 : (C.P.info? t).map (·.size) = some 1) (hx : opv ⟨sl, own⟩ x = some (.pointer (some ((slA v).add p)))) (hy : opv ⟨sl, own⟩ y = some u)
    (hu : u.cells = #[u]) (h1 : u.oneCell' = true) (hj : p < n * sz) (hcs : cs.set p u = cs') (hg : Grd ops sl g) (h : AK C ⟨sl, own.set i (row v E sz n cs')⟩ (wpList C.P ops Q rest)) :
    AK C ⟨sl, own⟩ (wpList C.P ops Q (⟨none, .store t x y, ty, pos, aft, g⟩ :: rest)) := by
  subst hcs
  intro a w hs
  refine wpList_step fun K hK => ?_
  rw [if_pos (wanted_of_Grd hs hg)]
  obtain ⟨hf, Fs, hh, hal⟩ := hs.world
  have hA := hh.at_ i _ hi
  obtain ⟨e1, e2, e3, e4⟩ := row_grown hA (j := p) hj u
  have hst : (store ((slA v).add p) u).run C.P w = .ok () (w.setCell ((slA v).add p) u) := by
    obtain ⟨u0, hu0⟩ := Option.isSome_iff_exists.1 e3
    rw [run_store _ _ _ _ _ h1, hu0, e4]; rfl
  have hadd : ∀ a : Addr, a.add 0 = a := fun a => by simp [Addr.add]
  have hrun : (execOp a.eval ⟨none, .store t x y, ty, pos, aft, g⟩).run C.P w = .ok .skip (w.setCell ((slA v).add p) u) := by
    simp only [execOp, opv_eval hs hx, opv_eval hs hy, Instr.storeAt, Instr.sureAddr, storeVar, Sem.run_bind, Sem.run_pure, Result.andThen_ok, run_sizeOf_of hs1, hu]
    simp [storeCells, hst, hadd]
  simp only [Oper.wp, hrun, Oper.upon]
  refine hK _ _ (h _ _ ?_)
  have hlt : i < own.length := (List.getElem?_eq_some_iff.1 hi).1
  have hup := HW.update (own2 := []) (A' := row v E sz n (cs.set p u)) hf hh hal hlt e2 (HeapAt.one (row_of e1)) (fun k b hb => .inl ((hA.2 b).2 hb.2))
  rw [List.append_nil] at hup
  exact hs.put hup (d := none) (fun i hi => by cases hi) undef
end rowarr2
end Go.Sx
namespace Go.Sx
theorem wrap_i32w {n : Int} (h : -2147483648 ≤ n ∧ n ≤ 2147483647) : IntKind.i32.wrap n = n := by simp [IntKind.wrap, IntKind.bits, IntKind.signed]; omega
end Go.Sx

namespace Go.Sx
open Go.RowKit
/-! ### cuts of an owned row, and copies within it -/
section cuts
variable {C : Cx} {sl : List (Nat × Value)} {own : List Asn} {dst : Option Nat} {ty : TypeId} {pos : String} {aft : Array Edge} {g : Option (Nat × Bool)}
/-- a slice of n elements -/
def CutS (C : Cx) (own : List Asn) (v : Value) (n : Nat) : Prop := ∀ w, HW C own w → ∃ ao c, v = .slice ao n c ∧ n ≤ c
theorem CutS.row (i : Nat) {v : Value} {E : TypeId} {sz n : Nat} {cs : List Value} (hi : own[i]? = some (row v E sz n cs)) : CutS C own v n := fun w hw => by
  obtain ⟨_, Fs, hhp, _⟩ := hw
  obtain ⟨hown, _⟩ := hhp.at_ i _ hi
  rcases hown.2 with ⟨rfl, rfl⟩ | ⟨gb, cp, cur, rfl, _, _, hnc, _⟩
  · exact ⟨none, 0, rfl, Nat.le_refl _⟩
  · exact ⟨_, cp, rfl, hnc⟩
/-- s[m:] -/
def slFr (v : Value) (sz m : Nat) : Value := match v with
  | .slice a n c => .slice (if c = m then a else a.map (·.add (m * sz))) (n - m) (c - m)
  | v => v
theorem Yl.sliceFr {x l : Operand} {t E : TypeId} {sz n : Nat} {v : Value} {m : Int} (hc : CutS C own v n) (ht : SlT C.P t E sz) (hx : opv ⟨sl, own⟩ x = some v) (hh : opv ⟨sl, own⟩ l = some (.int .i64 m)) (hm : 0 ≤ m ∧ m ≤ n) :
    Yl C ⟨sl, own⟩ ⟨dst, .slice t x (some l) none none, ty, pos, aft, g⟩ (slFr v sz m.toNat) :=
  fun a w hs => by
    obtain ⟨ao, c, rfl, hnc⟩ := hc w hs.world
    obtain ⟨inf, hi1, hi2⟩ := ht.inf
    simp only [execOp, opv_eval hs hx, Option.map_none, Option.map_some, opv_eval hs hh]
    simp [Instr.sliceAt, Instr.slice, Instr.sliceBounds, Instr.sliceBound, asIntOf, run_underlying ht.1, hm.1, hm.2, sizeOf, typeInfo, hi1, slFr, hi2]
end cuts
section cuts2
variable {C : Cx} {sl : List (Nat × Value)} {own : List Asn} {ops : Array Oper} {Q : Exit → Act → World → Prop} {ty : TypeId} {pos : String} {aft : Array Edge} {g : Option (Nat × Bool)} {rest : List Oper}
end cuts2
end Go.Sx
