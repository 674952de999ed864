import Derived.Test.YtaeojcaidcjnaaaRt
import Derived.Test.YtaeojcaidcjnaaaSb
set_option linter.unusedVariables false
set_option linter.unusedSimpArgs false
namespace Go.Sx
open Go.RowKit
section
variable {C : Cx} {sl : List (Nat × Value)} {own : List Asn} {dst : Option Nat} {ty : TypeId} {pos : String} {aft : Array Edge} {g : Option (Nat × Bool)}
theorem Yl.loadCr {x : Operand} {t : TypeId} {v : Value} {n j : Nat} {ps : List Crit} (ht : AggT C.P t 3) (hx : opv ⟨sl, own⟩ x = some (.pointer (some ((slA v).add (j * 3)))))
    (hr : RdS C own v 3 n (crc ps)) (hj : j < ps.length) : Yl C ⟨sl, own⟩ ⟨dst, .load t x, ty, pos, aft, g⟩ (cv (ps.getD j ([], [], []))) := fun a w hs => by
  have hn : n = ps.length := by obtain ⟨_, _, _, _, h, _⟩ := hr w hs.world; rw [crc_length] at h; omega
  have := Yl.loadG (dst := dst) (ty := ty) (pos := pos) (aft := aft) (g := g) ht hx hr (by omega) a w hs
  rw [crc_at ps j hj] at this
  exact this
theorem Yl.loadBoxC {x : Operand} {t b : Nat} {c : Crit} (ht : AggT C.P t 3) (hx : opv ⟨sl, own⟩ x = some (.pointer (some ⟨b, 0, none⟩))) (hb : BoxS C own b (ccs c)) :
    Yl C ⟨sl, own⟩ ⟨dst, .load t x, ty, pos, aft, g⟩ (cv c) := Yl.loadBoxG ht hx hb rfl rfl
theorem Yl.eqlCr {x y : Operand} {t t' : TypeId} {a b : Crit} (ht : eqT3B C.P t = true) (hx : opv ⟨sl, own⟩ x = some (cv a)) (hy : opv ⟨sl, own⟩ y = some (cv b)) :
    Yl C ⟨sl, own⟩ ⟨dst, .binOp .eql t x y t', ty, pos, aft, g⟩ (.bool (decide (a = b))) := Yl.eqlC ht hx hy
theorem Yl.neqCr {x y : Operand} {t t' : TypeId} {a b : Crit} (ht : eqT3B C.P t = true) (hx : opv ⟨sl, own⟩ x = some (cv a)) (hy : opv ⟨sl, own⟩ y = some (cv b)) :
    Yl C ⟨sl, own⟩ ⟨dst, .binOp .neq t x y t', ty, pos, aft, g⟩ (.bool (decide (¬ a = b))) := Yl.neqC ht hx hy
theorem ResY.cell1 {s t b : Nat} {v : Value} (ht : OneT C.P t) (hx : get sl s = some (.pointer (some ⟨b, 0, none⟩))) (hb : BoxS C own b [v]) : ResY C ⟨sl, own⟩ (.cell s t) v := fun a w hs => by
  obtain ⟨E, hb⟩ := hb w hs.world
  have h1 : w.cell? ⟨b, 0, none⟩ = some v := by rw [cell_of_row w b 0 _ E (0, 0) hb]; rfl
  have := hs.slot s _ hx
  simp only [resOf, this]
  simp [asAddr, run_loadVar_one ht h1]
end
end Go.Sx
