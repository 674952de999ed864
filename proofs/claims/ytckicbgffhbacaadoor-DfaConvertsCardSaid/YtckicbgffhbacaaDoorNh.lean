import Derived.Test.YtckicbgffhbacaaDoorNg
set_option linter.unusedVariables false
set_option linter.unusedSimpArgs false
namespace Go.Sx
open Go.RowKit
/-! ### the subset automaton accepts what the sets accept -/
def AccN (n : Nfa) (l : List UInt8) : Bool := if errN n = 0 ∧ validW n.L l = true then gS n (foldW (fS n) n.st l) else false
theorem foldW_take {α : Type} (f : α → Nat → α) (q : α) (l : List UInt8) (k : Nat) (h : k < l.length) : foldW f q (l.take (k + 1)) = f (foldW f q (l.take k)) (((l.getD k 0).toNat : Int) - 97).toNat := by
  unfold foldW; rw [take_snocD 0 l k h, List.foldl_append]; rfl
theorem sub_vd {n : Nfa} {U : List W64} (hv : VN n) (hU : UOk n U) : VD (subU n U) := by
  have h := genD_vd (z := (0 : W64)) (L := n.L.toNat) (g := gS n) (by have := hv.L; omega) hU.st hU.step hU.len
  have e : ((n.L.toNat : Nat) : Int) = n.L := by have := hv.L; omega
  rw [e] at h
  exact h
theorem acc_sub {n : Nfa} {U : List W64} (hv : VN n) (hU : UOk n U) (l : List UInt8) : AccV (subU n U) l = AccN n l := by
  have hvd := sub_vd hv hU
  have hE : errN n = 0 := errN_iff.2 hv
  cases hw : validW n.L l with
  | false =>
    rw [AccV_bad (d := subU n U) hw]
    unfold AccN
    rw [if_neg (fun h => by rw [hw] at h; cases h.2)]
  | true =>
    unfold AccN
    rw [if_pos ⟨hE, hw⟩, AccV_of hvd hw]
    have e : ((n.L.toNat : Nat) : Int) = n.L := by have := hv.L; omega
    have hok : l.all (okB ((n.L.toNat : Nat) : Int)) = true := by
      rw [e]; unfold validW at hw; rw [Bool.and_eq_true] at hw; exact hw.2
    have hst : (setU n U).getD 0 0 = n.st ∧ n.st ∈ setU n U := gen_start _
    have hr := gen_run (z := (0 : W64)) (g := gS n) n.L hU.st hU.step l n.st hst.2 hok
    have h0 : posN (setU n U) n.st = 0 := by
      have hn := (exI_ok (z := (0 : W64)) hU.st hU.step U.length).1
      have := posN_at (0 : W64) hn (i := 0) (exI_ne _ _ _ _ _)
      rw [show (exI (fS n) n.L.toNat n.st (0 : W64) U.length).getD 0 0 = n.st from hst.1] at this
      exact this
    have hr1 : runI (subU n U) 0 l = ((posN (setU n U) (foldW (fS n) n.st l) : Nat) : Int) := by
      have := hr.1
      rw [show posN (exI (fS n) n.L.toNat n.st (0 : W64) U.length) n.st = 0 from h0] at this
      exact this
    have hm : foldW (fS n) n.st l ∈ setU n U := hr.2
    rw [show (subU n U).s = 0 from rfl, hr1, Int.toNat_natCast]
    have h1 := posN_lt hm
    have h2 := getD_posN (0 : W64) hm
    rw [List.getD_eq_getElem?_getD, List.getElem?_eq_getElem h1, Option.getD_some] at h2
    show ((setU n U).map (gS n)).getD _ false = _
    rw [List.getD_eq_getElem?_getD, List.getElem?_map, List.getElem?_eq_getElem h1, h2]
    rfl
end Go.Sx
