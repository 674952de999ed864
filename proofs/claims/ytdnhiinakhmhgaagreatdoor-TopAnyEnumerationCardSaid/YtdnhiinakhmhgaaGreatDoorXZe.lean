import Derived.Test.YtdnhiinakhmhgaaGreatDoorProg
import Derived.Test.YtdnhiinakhmhgaaGreatDoorXZb
import Derived.KernelRfl
import Derived.ChangeKeysEq
import Derived.Laws.IdiomCopy
set_option linter.unusedVariables false
set_option linter.unusedSimpArgs false
set_option maxRecDepth 100000
namespace Go.Proofs.YtdnhiinakhmhgaaGreatDoor
open Go.Sx
theorem sz1 : (Tryz.prog.info? 1).map (·.size) = some 1 := by kernel_rfl
theorem sz2 : (Tryz.prog.info? 2).map (·.size) = some 1 := by kernel_rfl
theorem el3 : ElT Tryz.prog 3 (.int .i64 0) 1 8 := by unfold ElT; kernel_rfl
theorem sz3 : (Tryz.prog.info? 3).map (·.size) = some 1 := by kernel_rfl
theorem on3 : OneT Tryz.prog 3 := by unfold OneT; kernel_rfl
theorem un3 : Tryz.prog.underlying 3 = some (.int .i64) := by kernel_rfl
theorem el4 : ElT Tryz.prog 4 (.bool false) 1 1 := by unfold ElT; kernel_rfl
theorem sz4 : (Tryz.prog.info? 4).map (·.size) = some 1 := by kernel_rfl
theorem on4 : OneT Tryz.prog 4 := by unfold OneT; kernel_rfl
theorem bo4 : Tryz.prog.underlying 4 = some .bool := by kernel_rfl
theorem el5 : ElT Tryz.prog 5 (.int .u8 0) 1 1 := by unfold ElT; kernel_rfl
theorem sz5 : (Tryz.prog.info? 5).map (·.size) = some 1 := by kernel_rfl
theorem on5 : OneT Tryz.prog 5 := by unfold OneT; kernel_rfl
theorem un5 : Tryz.prog.underlying 5 = some (.int .u8) := by kernel_rfl
theorem el9 : ElT Tryz.prog 9 (.string ByteArray.empty) 1 16 := by unfold ElT; kernel_rfl
theorem on9 : OneT Tryz.prog 9 := by unfold OneT; kernel_rfl
theorem un9 : Tryz.prog.underlying 9 = some .string := by kernel_rfl
theorem un21 : Tryz.prog.underlying 21 = some (.int .i32) := by kernel_rfl
theorem sl22 : SlT Tryz.prog 22 26 1 := ⟨by kernel_rfl, by kernel_rfl⟩
theorem sz22 : (Tryz.prog.info? 22).map (·.size) = some 1 := by kernel_rfl
theorem on22 : OneT Tryz.prog 22 := by unfold OneT; kernel_rfl
theorem sl23 : SlT Tryz.prog 23 5 1 := ⟨by kernel_rfl, by kernel_rfl⟩
theorem sz23 : (Tryz.prog.info? 23).map (·.size) = some 1 := by kernel_rfl
theorem on23 : OneT Tryz.prog 23 := by unfold OneT; kernel_rfl
theorem sl26 : SlT Tryz.prog 26 3 1 := ⟨by kernel_rfl, by kernel_rfl⟩
theorem el26 : ElT Tryz.prog 26 (.slice none 0 0) 1 24 := by unfold ElT; kernel_rfl
theorem sz26 : (Tryz.prog.info? 26).map (·.size) = some 1 := by kernel_rfl
theorem on26 : OneT Tryz.prog 26 := by unfold OneT; kernel_rfl
theorem sl27 : SlT Tryz.prog 27 39 2 := ⟨by kernel_rfl, by kernel_rfl⟩
theorem sz27 : (Tryz.prog.info? 27).map (·.size) = some 1 := by kernel_rfl
theorem on27 : OneT Tryz.prog 27 := by unfold OneT; kernel_rfl
theorem el29 : ElT Tryz.prog 29 (.agg #[(.int .i64 0), (.bool false), (.slice none 0 0), (.slice none 0 0), (.slice none 0 0), (.slice none 0 0), (.slice none 0 0), (.slice none 0 0), (.int .i64 0)]) 9 168 := by unfold ElT; kernel_rfl
theorem sz29 : (Tryz.prog.info? 29).map (·.size) = some 9 := by kernel_rfl
theorem ag29 : AggT Tryz.prog 29 9 := ⟨by kernel_rfl, by kernel_rfl⟩
theorem fd29_0 : FldT Tryz.prog 29 0 0 := FldT.of (by kernel_rfl)
theorem fd29_1 : FldT Tryz.prog 29 1 1 := FldT.of (by kernel_rfl)
theorem fd29_2 : FldT Tryz.prog 29 2 2 := FldT.of (by kernel_rfl)
theorem fd29_3 : FldT Tryz.prog 29 3 3 := FldT.of (by kernel_rfl)
theorem fd29_4 : FldT Tryz.prog 29 4 4 := FldT.of (by kernel_rfl)
theorem fd29_5 : FldT Tryz.prog 29 5 5 := FldT.of (by kernel_rfl)
theorem fd29_6 : FldT Tryz.prog 29 6 6 := FldT.of (by kernel_rfl)
theorem fd29_7 : FldT Tryz.prog 29 7 7 := FldT.of (by kernel_rfl)
theorem fd29_8 : FldT Tryz.prog 29 8 8 := FldT.of (by kernel_rfl)
theorem el39 : ElT Tryz.prog 39 (.agg #[(.string ByteArray.empty), (.string ByteArray.empty)]) 2 32 := by unfold ElT; kernel_rfl
theorem ag39 : AggT Tryz.prog 39 2 := ⟨by kernel_rfl, by kernel_rfl⟩
theorem sl41 : SlT Tryz.prog 41 4 1 := ⟨by kernel_rfl, by kernel_rfl⟩
theorem sz41 : (Tryz.prog.info? 41).map (·.size) = some 1 := by kernel_rfl
theorem on41 : OneT Tryz.prog 41 := by unfold OneT; kernel_rfl
theorem el43 : ElT Tryz.prog 43 (.agg #[(.int .i64 0), (.int .i64 0), (.slice none 0 0), (.slice none 0 0)]) 4 64 := by unfold ElT; kernel_rfl
theorem sz43 : (Tryz.prog.info? 43).map (·.size) = some 4 := by kernel_rfl
theorem ag43 : AggT Tryz.prog 43 4 := ⟨by kernel_rfl, by kernel_rfl⟩
theorem fd43_0 : FldT Tryz.prog 43 0 0 := FldT.of (by kernel_rfl)
theorem fd43_1 : FldT Tryz.prog 43 1 1 := FldT.of (by kernel_rfl)
theorem fd43_2 : FldT Tryz.prog 43 2 2 := FldT.of (by kernel_rfl)
theorem fd43_3 : FldT Tryz.prog 43 3 3 := FldT.of (by kernel_rfl)
theorem sl44 : SlT Tryz.prog 44 9 1 := ⟨by kernel_rfl, by kernel_rfl⟩
theorem sz44 : (Tryz.prog.info? 44).map (·.size) = some 1 := by kernel_rfl
theorem on44 : OneT Tryz.prog 44 := by unfold OneT; kernel_rfl
theorem sl63 : SlT Tryz.prog 63 65 3 := ⟨by kernel_rfl, by kernel_rfl⟩
theorem sz63 : (Tryz.prog.info? 63).map (·.size) = some 1 := by kernel_rfl
theorem on63 : OneT Tryz.prog 63 := by unfold OneT; kernel_rfl
theorem el65 : ElT Tryz.prog 65 (.agg #[(.int .i64 0), (.int .i64 0), (.slice none 0 0)]) 3 40 := by unfold ElT; kernel_rfl
theorem sz65 : (Tryz.prog.info? 65).map (·.size) = some 3 := by kernel_rfl
theorem ag65 : AggT Tryz.prog 65 3 := ⟨by kernel_rfl, by kernel_rfl⟩
theorem fd65_0 : FldT Tryz.prog 65 0 0 := FldT.of (by kernel_rfl)
theorem fd65_1 : FldT Tryz.prog 65 1 1 := FldT.of (by kernel_rfl)
theorem fd65_2 : FldT Tryz.prog 65 2 2 := FldT.of (by kernel_rfl)
theorem on73 : OneT Tryz.prog 73 := by unfold OneT; kernel_rfl
theorem mp73 : Tryz.prog.underlying 73 = some (.map 9 3) := by kernel_rfl
theorem fd75_0 : FldT Tryz.prog 75 0 0 := FldT.of (by kernel_rfl)
theorem fd75_1 : FldT Tryz.prog 75 1 9 := FldT.of (by kernel_rfl)
theorem fd75_2 : FldT Tryz.prog 75 2 10 := FldT.of (by kernel_rfl)
theorem fd75_3 : FldT Tryz.prog 75 3 11 := FldT.of (by kernel_rfl)
theorem fd75_4 : FldT Tryz.prog 75 4 12 := FldT.of (by kernel_rfl)
theorem el113 : ElT Tryz.prog 113 (.agg #[(.string ByteArray.empty)]) 1 16 := by unfold ElT; kernel_rfl
theorem sz113 : (Tryz.prog.info? 113).map (·.size) = some 1 := by kernel_rfl
theorem ag113 : AggT Tryz.prog 113 1 := ⟨by kernel_rfl, by kernel_rfl⟩
theorem fd113_0 : FldT Tryz.prog 113 0 0 := FldT.of (by kernel_rfl)
theorem sl115 : SlT Tryz.prog 115 127 1 := ⟨by kernel_rfl, by kernel_rfl⟩
theorem el115 : ElT Tryz.prog 115 (.slice none 0 0) 1 24 := by unfold ElT; kernel_rfl
theorem sz115 : (Tryz.prog.info? 115).map (·.size) = some 1 := by kernel_rfl
theorem on115 : OneT Tryz.prog 115 := by unfold OneT; kernel_rfl
theorem sl117 : SlT Tryz.prog 117 115 1 := ⟨by kernel_rfl, by kernel_rfl⟩
theorem el117 : ElT Tryz.prog 117 (.slice none 0 0) 1 24 := by unfold ElT; kernel_rfl
theorem sz117 : (Tryz.prog.info? 117).map (·.size) = some 1 := by kernel_rfl
theorem on117 : OneT Tryz.prog 117 := by unfold OneT; kernel_rfl
theorem el127 : ElT Tryz.prog 127 (.int .u64 0) 1 8 := by unfold ElT; kernel_rfl
theorem sz127 : (Tryz.prog.info? 127).map (·.size) = some 1 := by kernel_rfl
theorem on127 : OneT Tryz.prog 127 := by unfold OneT; kernel_rfl
theorem fd152_0 : FldT Tryz.prog 152 0 0 := FldT.of (by kernel_rfl)
theorem fd152_1 : FldT Tryz.prog 152 1 1 := FldT.of (by kernel_rfl)
theorem fd152_2 : FldT Tryz.prog 152 2 2 := FldT.of (by kernel_rfl)
theorem fd152_3 : FldT Tryz.prog 152 3 3 := FldT.of (by kernel_rfl)
theorem fd154_0 : FldT Tryz.prog 154 0 0 := FldT.of (by kernel_rfl)
theorem fd154_1 : FldT Tryz.prog 154 1 4 := FldT.of (by kernel_rfl)
theorem un160 : Tryz.prog.underlying 160 = some (.int .u64) := by kernel_rfl
theorem sz173 : (Tryz.prog.info? 173).map (·.size) = some 1 := by kernel_rfl
theorem on173 : OneT Tryz.prog 173 := by unfold OneT; kernel_rfl
theorem mp173 : Tryz.prog.underlying 173 = some (.map 3 3) := by kernel_rfl
theorem el175 : ElT Tryz.prog 175 (.agg #[(.slice none 0 0), (.map none)]) 2 32 := by unfold ElT; kernel_rfl
theorem fd175_0 : FldT Tryz.prog 175 0 0 := FldT.of (by kernel_rfl)
theorem fd175_1 : FldT Tryz.prog 175 1 1 := FldT.of (by kernel_rfl)
theorem el181 : ElT Tryz.prog 181 (.agg #[(.int .i64 0), (.int .i64 0), (.slice none 0 0), (.int .i64 0), (.int .i64 0), (.slice none 0 0), (.bool false)]) 7 88 := by unfold ElT; kernel_rfl
theorem sz181 : (Tryz.prog.info? 181).map (·.size) = some 7 := by kernel_rfl
theorem ag181 : AggT Tryz.prog 181 7 := ⟨by kernel_rfl, by kernel_rfl⟩
theorem fd181_0 : FldT Tryz.prog 181 0 0 := FldT.of (by kernel_rfl)
theorem fd181_1 : FldT Tryz.prog 181 1 3 := FldT.of (by kernel_rfl)
theorem fd181_2 : FldT Tryz.prog 181 2 6 := FldT.of (by kernel_rfl)
theorem ag183 : AggT Tryz.prog 183 2 := ⟨by kernel_rfl, by kernel_rfl⟩
theorem fd183_0 : FldT Tryz.prog 183 0 0 := FldT.of (by kernel_rfl)
theorem fd183_1 : FldT Tryz.prog 183 1 1 := FldT.of (by kernel_rfl)
theorem sz185 : (Tryz.prog.info? 185).map (·.size) = some 1 := by kernel_rfl
theorem on185 : OneT Tryz.prog 185 := by unfold OneT; kernel_rfl
theorem el187 : ElT Tryz.prog 187 (.agg #[(.pointer none), (.slice none 0 0)]) 2 32 := by unfold ElT; kernel_rfl
theorem fd187_0 : FldT Tryz.prog 187 0 0 := FldT.of (by kernel_rfl)
theorem fd187_1 : FldT Tryz.prog 187 1 1 := FldT.of (by kernel_rfl)
theorem mp191 : Tryz.prog.underlying 191 = some (.map 193 3) := by kernel_rfl
theorem el193 : ElT Tryz.prog 193 (.agg #[(.int .i64 0), (.int .i64 0), (.int .i64 0), (.int .i64 0), (.int .i64 0), (.int .i64 0), (.int .i64 0)]) 7 56 := by unfold ElT; kernel_rfl
theorem sz193 : (Tryz.prog.info? 193).map (·.size) = some 7 := by kernel_rfl
theorem ag193 : AggT Tryz.prog 193 7 := ⟨by kernel_rfl, by kernel_rfl⟩
theorem ar193 : ArrT Tryz.prog 193 3 7 1 := ⟨by kernel_rfl, by kernel_rfl⟩
theorem ar220 : ArrT Tryz.prog 220 5 64 1 := ⟨by kernel_rfl, by kernel_rfl⟩
theorem co6 : CallOk Tryz.prog 6 := by unfold CallOk; kernel_rfl
theorem co7 : CallOk Tryz.prog 7 := by unfold CallOk; kernel_rfl
theorem co8 : CallOk Tryz.prog 8 := by unfold CallOk; kernel_rfl
theorem co9 : CallOk Tryz.prog 9 := by unfold CallOk; kernel_rfl
theorem co10 : CallOk Tryz.prog 10 := by unfold CallOk; kernel_rfl
theorem co11 : CallOk Tryz.prog 11 := by unfold CallOk; kernel_rfl
theorem co12 : CallOk Tryz.prog 12 := by unfold CallOk; kernel_rfl
theorem co13 : CallOk Tryz.prog 13 := by unfold CallOk; kernel_rfl
theorem co14 : CallOk Tryz.prog 14 := by unfold CallOk; kernel_rfl
theorem co22 : CallOk Tryz.prog 22 := by unfold CallOk; kernel_rfl
theorem co28 : CallOk Tryz.prog 28 := by unfold CallOk; kernel_rfl
theorem co29 : CallOk Tryz.prog 29 := by unfold CallOk; kernel_rfl
theorem co30 : CallOk Tryz.prog 30 := by unfold CallOk; kernel_rfl
theorem co31 : CallOk Tryz.prog 31 := by unfold CallOk; kernel_rfl
theorem co32 : CallOk Tryz.prog 32 := by unfold CallOk; kernel_rfl
theorem co33 : CallOk Tryz.prog 33 := by unfold CallOk; kernel_rfl
theorem co34 : CallOk Tryz.prog 34 := by unfold CallOk; kernel_rfl
theorem co35 : CallOk Tryz.prog 35 := by unfold CallOk; kernel_rfl
theorem co36 : CallOk Tryz.prog 36 := by unfold CallOk; kernel_rfl
theorem co37 : CallOk Tryz.prog 37 := by unfold CallOk; kernel_rfl
theorem co38 : CallOk Tryz.prog 38 := by unfold CallOk; kernel_rfl
theorem co42 : CallOk Tryz.prog 42 := by unfold CallOk; kernel_rfl
theorem co51 : CallOk Tryz.prog 51 := by unfold CallOk; kernel_rfl
theorem co56 : CallOk Tryz.prog 56 := by unfold CallOk; kernel_rfl
theorem co57 : CallOk Tryz.prog 57 := by unfold CallOk; kernel_rfl
theorem co58 : CallOk Tryz.prog 58 := by unfold CallOk; kernel_rfl
theorem co59 : CallOk Tryz.prog 59 := by unfold CallOk; kernel_rfl
theorem co60 : CallOk Tryz.prog 60 := by unfold CallOk; kernel_rfl
theorem co61 : CallOk Tryz.prog 61 := by unfold CallOk; kernel_rfl
theorem co62 : CallOk Tryz.prog 62 := by unfold CallOk; kernel_rfl
theorem co63 : CallOk Tryz.prog 63 := by unfold CallOk; kernel_rfl
theorem co64 : CallOk Tryz.prog 64 := by unfold CallOk; kernel_rfl
theorem co65 : CallOk Tryz.prog 65 := by unfold CallOk; kernel_rfl
theorem co66 : CallOk Tryz.prog 66 := by unfold CallOk; kernel_rfl
theorem co67 : CallOk Tryz.prog 67 := by unfold CallOk; kernel_rfl
theorem co68 : CallOk Tryz.prog 68 := by unfold CallOk; kernel_rfl
theorem co69 : CallOk Tryz.prog 69 := by unfold CallOk; kernel_rfl
theorem co70 : CallOk Tryz.prog 70 := by unfold CallOk; kernel_rfl
theorem co71 : CallOk Tryz.prog 71 := by unfold CallOk; kernel_rfl
theorem co72 : CallOk Tryz.prog 72 := by unfold CallOk; kernel_rfl
theorem co73 : CallOk Tryz.prog 73 := by unfold CallOk; kernel_rfl
theorem co74 : CallOk Tryz.prog 74 := by unfold CallOk; kernel_rfl
theorem co75 : CallOk Tryz.prog 75 := by unfold CallOk; kernel_rfl
theorem co76 : CallOk Tryz.prog 76 := by unfold CallOk; kernel_rfl
theorem co77 : CallOk Tryz.prog 77 := by unfold CallOk; kernel_rfl
theorem co88 : CallOk Tryz.prog 88 := by unfold CallOk; kernel_rfl
theorem co89 : CallOk Tryz.prog 89 := by unfold CallOk; kernel_rfl
theorem co90 : CallOk Tryz.prog 90 := by unfold CallOk; kernel_rfl
theorem co93 : CallOk Tryz.prog 93 := by unfold CallOk; kernel_rfl
theorem co94 : CallOk Tryz.prog 94 := by unfold CallOk; kernel_rfl
theorem co95 : CallOk Tryz.prog 95 := by unfold CallOk; kernel_rfl
theorem co96 : CallOk Tryz.prog 96 := by unfold CallOk; kernel_rfl
theorem co97 : CallOk Tryz.prog 97 := by unfold CallOk; kernel_rfl
theorem co98 : CallOk Tryz.prog 98 := by unfold CallOk; kernel_rfl
theorem co99 : CallOk Tryz.prog 99 := by unfold CallOk; kernel_rfl
theorem co100 : CallOk Tryz.prog 100 := by unfold CallOk; kernel_rfl
theorem co105 : CallOk Tryz.prog 105 := by unfold CallOk; kernel_rfl
theorem co106 : CallOk Tryz.prog 106 := by unfold CallOk; kernel_rfl
theorem co107 : CallOk Tryz.prog 107 := by unfold CallOk; kernel_rfl
theorem co108 : CallOk Tryz.prog 108 := by unfold CallOk; kernel_rfl
theorem co109 : CallOk Tryz.prog 109 := by unfold CallOk; kernel_rfl
theorem co111 : CallOk Tryz.prog 111 := by unfold CallOk; kernel_rfl
theorem co115 : CallOk Tryz.prog 115 := by unfold CallOk; kernel_rfl
theorem co117 : CallOk Tryz.prog 117 := by unfold CallOk; kernel_rfl
theorem co118 : CallOk Tryz.prog 118 := by unfold CallOk; kernel_rfl
theorem co119 : CallOk Tryz.prog 119 := by unfold CallOk; kernel_rfl
theorem co120 : CallOk Tryz.prog 120 := by unfold CallOk; kernel_rfl
theorem co121 : CallOk Tryz.prog 121 := by unfold CallOk; kernel_rfl
theorem co122 : CallOk Tryz.prog 122 := by unfold CallOk; kernel_rfl
theorem co123 : CallOk Tryz.prog 123 := by unfold CallOk; kernel_rfl
theorem co126 : CallOk Tryz.prog 126 := by unfold CallOk; kernel_rfl
theorem co133 : CallOk Tryz.prog 133 := by unfold CallOk; kernel_rfl
theorem co149 : CallOk Tryz.prog 149 := by unfold CallOk; kernel_rfl
theorem co150 : CallOk Tryz.prog 150 := by unfold CallOk; kernel_rfl
theorem co151 : CallOk Tryz.prog 151 := by unfold CallOk; kernel_rfl
theorem co152 : CallOk Tryz.prog 152 := by unfold CallOk; kernel_rfl
theorem co153 : CallOk Tryz.prog 153 := by unfold CallOk; kernel_rfl
theorem co154 : CallOk Tryz.prog 154 := by unfold CallOk; kernel_rfl
theorem co155 : CallOk Tryz.prog 155 := by unfold CallOk; kernel_rfl
theorem co156 : CallOk Tryz.prog 156 := by unfold CallOk; kernel_rfl
theorem co157 : CallOk Tryz.prog 157 := by unfold CallOk; kernel_rfl
theorem co158 : CallOk Tryz.prog 158 := by unfold CallOk; kernel_rfl
theorem co170 : CallOk Tryz.prog 170 := by unfold CallOk; kernel_rfl
theorem co171 : CallOk Tryz.prog 171 := by unfold CallOk; kernel_rfl
theorem co172 : CallOk Tryz.prog 172 := by unfold CallOk; kernel_rfl
theorem co173 : CallOk Tryz.prog 173 := by unfold CallOk; kernel_rfl
theorem co174 : CallOk Tryz.prog 174 := by unfold CallOk; kernel_rfl
theorem co175 : CallOk Tryz.prog 175 := by unfold CallOk; kernel_rfl
theorem co176 : CallOk Tryz.prog 176 := by unfold CallOk; kernel_rfl
theorem co177 : CallOk Tryz.prog 177 := by unfold CallOk; kernel_rfl
theorem co178 : CallOk Tryz.prog 178 := by unfold CallOk; kernel_rfl
theorem co179 : CallOk Tryz.prog 179 := by unfold CallOk; kernel_rfl
theorem co180 : CallOk Tryz.prog 180 := by unfold CallOk; kernel_rfl
theorem co185 : CallOk Tryz.prog 185 := by unfold CallOk; kernel_rfl
theorem co187 : CallOk Tryz.prog 187 := by unfold CallOk; kernel_rfl
theorem co190 : CallOk Tryz.prog 190 := by unfold CallOk; kernel_rfl
theorem co192 : CallOk Tryz.prog 192 := by unfold CallOk; kernel_rfl
theorem mixed : Tryz.prog.follows .mixedOrders = true := by kernel_rfl
end Go.Proofs.YtdnhiinakhmhgaaGreatDoor

namespace Go.Sx
open Go.RowKit
/-! ### rows of arrays: one cell of an element -/
section rowarr
variable {C : Cx} {sl : List (Nat × Value)} {own : List Asn} {dst : Option Nat} {ty : TypeId} {pos : String} {aft : Array Edge} {g : Option (Nat × Bool)}
end rowarr
section rowarr2
variable {C : Cx} {sl : List (Nat × Value)} {own : List Asn} {ops : Array Oper} {Q : Exit → Act → World → Prop} {ty : TypeId} {pos : String} {aft : Array Edge} {g : Option (Nat × Bool)} {rest : List Oper}
end rowarr2
end Go.Sx
namespace Go.Sx
end Go.Sx

namespace Go.Sx
open Go.RowKit
/-! ### cuts of an owned row, and copies within it -/
section cuts
variable {C : Cx} {sl : List (Nat × Value)} {own : List Asn} {dst : Option Nat} {ty : TypeId} {pos : String} {aft : Array Edge} {g : Option (Nat × Bool)}
/-- a slice of n elements -/
def CutS (C : Cx) (own : List Asn) (v : Value) (n : Nat) : Prop := ∀ w, HW C own w → ∃ ao c, v = .slice ao n c ∧ n ≤ c
theorem CutS.row (i : Nat) {v : Value} {E : TypeId} {sz n : Nat} {cs : List Value} (hi : own[i]? = some (row v E sz n cs)) : CutS C own v n := fun w hw => by
  obtain ⟨_, Fs, hhp, _⟩ := hw
  obtain ⟨hown, _⟩ := hhp.at_ i _ hi
  rcases hown.2 with ⟨rfl, rfl⟩ | ⟨gb, cp, cur, rfl, _, _, hnc, _⟩
  · exact ⟨none, 0, rfl, Nat.le_refl _⟩
  · exact ⟨_, cp, rfl, hnc⟩
/-- s[m:] -/
def slFr (v : Value) (sz m : Nat) : Value := match v with
  | .slice a n c => .slice (if c = m then a else a.map (·.add (m * sz))) (n - m) (c - m)
  | v => v
theorem Yl.sliceFr {x l : Operand} {t E : TypeId} {sz n : Nat} {v : Value} {m : Int} (hc : CutS C own v n) (ht : SlT C.P t E sz) (hx : opv ⟨sl, own⟩ x = some v) (hh : opv ⟨sl, own⟩ l = some (.int .i64 m)) (hm : 0 ≤ m ∧ m ≤ n) :
    Yl C ⟨sl, own⟩ ⟨dst, .slice t x (some l) none none, ty, pos, aft, g⟩ (slFr v sz m.toNat) :=
  fun a w hs => by
    obtain ⟨ao, c, rfl, hnc⟩ := hc w hs.world
    obtain ⟨inf, hi1, hi2⟩ := ht.inf
    simp only [execOp, opv_eval hs hx, Option.map_none, Option.map_some, opv_eval hs hh]
    simp [Instr.sliceAt, Instr.slice, Instr.sliceBounds, Instr.sliceBound, asIntOf, run_underlying ht.1, hm.1, hm.2, sizeOf, typeInfo, hi1, slFr, hi2]
end cuts
section cuts2
variable {C : Cx} {sl : List (Nat × Value)} {own : List Asn} {ops : Array Oper} {Q : Exit → Act → World → Prop} {ty : TypeId} {pos : String} {aft : Array Edge} {g : Option (Nat × Bool)} {rest : List Oper}
end cuts2
end Go.Sx
