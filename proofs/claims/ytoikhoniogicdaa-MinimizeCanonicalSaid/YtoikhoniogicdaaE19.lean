import Derived.Test.YtoikhoniogicdaaE6
import Derived.Test.YtoikhoniogicdaaMl
set_option linter.unusedVariables false
set_option linter.unusedSimpArgs false
namespace Go.Proofs.Ytoikhoniogicdaa
open Go.Sx Go.RowKit
theorem matG_setI {E : TypeId} {rs : List Value} {xss : List (List Int)} (h : rs.length = xss.length) {i : Nat} (hi : i < xss.length) (v : Value) (ys : List Int) : (matG (Value.int .i64) E rs xss).set i (row v E 1 ys.length (ys.map (Value.int .i64))) = matG (Value.int .i64) E (rs.set i v) (xss.set i ys) := matL_set h hi v ys
theorem set_getD_self {α : Type} {l : List α} {i : Nat} {z : α} (h : i < l.length) : l.set i (l.getD i z) = l := by
  apply List.ext_getElem?
  intro j
  by_cases e : i = j
  · subst e; rw [List.getElem?_set_self h, List.getD_eq_getElem?_getD, List.getElem?_eq_getElem h]; rfl
  · rw [List.getElem?_set_ne e]
theorem plc_val {n k q c : Nat} : (((q : Nat) : Int) + ((k : Nat) : Int)) % ((n : Nat) : Int) + ((c : Nat) : Int) * ((n : Nat) : Int) = ((plc n k q c : Nat) : Int) := by unfold plc; push_cast; rfl
set_option maxHeartbeats 4000000 in
set_option maxRecDepth 100000 in
theorem l_canonical (w : World) (v : Value) (d : Dfa) (h : RdD (fun _ => False) w v d) (tn : Int) (ht : -9223372036854775808 ≤ tn ∧ tn ≤ 9223372036854775807) (vW : Value) (wl : List Bool) (hW : Rd (fun _ => ¬ False) w vW 1 wl.length (wl.map Value.bool)) : CallS Try.prog 5 [v, .int .i64 tn, vW] w (fun r o => r = .bool true ∧ o = []) := by
 have h0 := h
 obtain ⟨vF, vN, rfl, hF, hN⟩ := h
 have hF0 := hF
 have hN0 := hN
 obtain ⟨rs, hrl, hNr, hNi⟩ := hN
 have sF := hF.sl
 have sN := hNr.sl
 have hmf := hF.le
 have hmn := hNr.le
 unfold RdL at hF
 refine spec_of Try.func5 rfl (Nat.le_of_ble_eq_true rfl) ?_
 refine .sr fun _ hK1 => ?_
 refine AK.box_ (E := 25) (cs := [.int .i64 d.L, .int .i64 d.s, vF, vN]) rfl rfl rfl trivial rfl (fun bx3 => ?_)
 refine .as rfl (.nt hK1 ?_)
 refine .seq fun _ hK2 => ?_
 refine .sr fun _ hK3 => ?_
 refine .v (.loadBoxG ag25 rfl bsp rfl rfl) ?_
 refine AK.call co22 rfl (fun w hw => s_small w _ d (h0.at hw) 12) trivial rfl ?_
 rintro r o ⟨rfl, rfl⟩
 refine .v (.not rfl) ?_
 refine .nt hK3 ?_
 refine AK.condB rfl (fun hc0 => ?_) (fun hc0 => ?_)
 ·refine .sr fun _ hK4 => ?_
  refine AK.call co16 rfl (fun w hw => s_awake w) trivial rfl ?_
  rintro r o ⟨rfl, rfl⟩
  refine .as rfl (.nt hK4 (.ret (.then_ret ?_)))
  refine AK.ret1 rfl rfl (fun w hw => ⟨_, _, ?_, rfl, Ret.of (hw.pick [] (by decide) rfl rfl)⟩)
  exact ⟨rfl, rfl⟩
 ·have hv : VD d := (by simpa using hc0 : _ ∧ VD d).2
  have hn12 := (by simpa using hc0 : _ ∧ VD d).1
  have hvs := hv.s
  have hvL := hv.L
  have hnx := hv.nx
  have e1 : MinV d = minD d := if_pos hv
  obtain ⟨k, ek, hk, hp1, hq1⟩ := idx_ok tn (n := d.fin.length) (by omega)
  refine .skip ?_
  refine AK.then_ (hK2 _ ?_)
  refine .sr fun _ hK5 => ?_
  refine .v (.fieldAddr fd25_2 rfl) ?_
  refine .v (.loadBox on22 rfl bsp rfl) ?_
  refine .v (.lenR sl22 rfl (by first | exact rdp | exact .arg (hNi _ (by omega)))) ?_
  refine .as rfl (.nt hK5 ?_)
  refine .sr fun _ hK6 => ?_
  refine .mv rfl (.mv rfl ?_)
  refine .v (.remT rfl rfl ht (by omega)) ?_
  refine .mv rfl ?_
  refine .v (.add rfl rfl (by omega)) ?_
  refine .mv rfl ?_
  refine AK.val (.int .i64 (k : Int)) (Yl.valE (Yl.rem rfl rfl (by omega) (by omega)) (congrArg (Value.int .i64) ek)) trivial rfl ?_
  refine .as rfl (.nt hK6 ?_)
  refine .seq fun _ hK7 => ?_
  refine AK.joinK (X := Value × Value × Nat) [(2, _), (3, _), (7, _), (8, _)] (fun z => [(9, .pointer (some ⟨z.2.2, 0, none⟩))]) (fun z => [box bx3 25 4 [.int .i64 d.L, .int .i64 d.s, vF, vN], row z.1 4 1 (2 * d.fin.length) (List.replicate (2 * d.fin.length) (Value.bool false)), row z.2.1 26 1 (2 * d.fin.length) (List.replicate (2 * d.fin.length) (Value.slice none 0 0)), box z.2.2 25 4 [.int .i64 d.L, .int .i64 ((d.s + (k : Int)) % (d.fin.length : Int)), z.1, z.2.1]]) (fun z => IsSl z.1 ∧ IsSl z.2.1) slr (fun _ hJ => ?_) (fun z hg => ?_)
  ·try (conv => enter [2, 2]; dsimp only [List.set_cons_zero, List.set_cons_succ, List.cons_append, List.nil_append])
   refine AK.held 16 mixed ?_
   refine HeldK.first 0 (fuel := 16) (listed' := (lb 17 1)) _ rfl krf krf rfl (Yl.fieldAddr fd25_0 rfl) trivial rfl ?_
   refine HeldK.first 1 (fuel := 15) (listed' := (lb 17 3)) _ rfl krf krf rfl (Yl.loadBox on3 rfl bsp rfl) trivial rfl ?_
   refine HeldK.first 2 (fuel := 14) (listed' := (lb 17 7)) _ rfl krf krf rfl (Yl.fieldAddr fd25_1 rfl) trivial rfl ?_
   refine HeldK.first 3 (fuel := 13) (listed' := (lb 17 15)) _ rfl krf krf rfl (Yl.loadBox on3 rfl bsp rfl) trivial rfl ?_
   refine HeldK.first 4 (fuel := 12) (listed' := (lb 17 31)) _ rfl krf krf rfl (Yl.move rfl) trivial rfl ?_
   refine HeldK.first 5 (fuel := 11) (listed' := (lb 17 63)) _ rfl krf krf rfl (Yl.add rfl rfl (by omega)) trivial rfl ?_
   refine HeldK.first 6 (fuel := 10) (listed' := (lb 17 127)) _ rfl krf krf rfl (Yl.move rfl) trivial rfl ?_
   refine HeldK.first 7 (fuel := 9) (listed' := (lb 17 255)) _ rfl krf krf rfl (Yl.rem rfl rfl (by omega) (by omega)) trivial rfl ?_
   refine HeldK.first 8 (fuel := 8) (listed' := (lb 17 511)) _ rfl krf krf rfl (Yl.move rfl) trivial rfl ?_
   refine HeldK.first 9 (fuel := 7) (listed' := (lb 17 1023)) _ rfl krf krf rfl (Yl.mulE (((2 * d.fin.length : Nat) : Int)) rfl rfl (by omega) (by omega)) trivial rfl ?_
   refine HeldK.first 11 (fuel := 6) (listed' := (lb 17 3071)) _ rfl krf krf rfl (Yl.move rfl) trivial rfl ?_
   refine HeldK.first 12 (fuel := 5) (listed' := (lb 17 7167)) _ rfl krf krf rfl (Yl.mulE (((2 * d.fin.length : Nat) : Int)) rfl rfl (by omega) (by omega)) trivial rfl ?_
   refine HeldK.three 10 13 15 (fuel := 4) (listed1 := (lb 17 8191)) (listed2 := (lb 17 15359)) (listed3 := (lb 17 39935)) krf rfl rfl rfl krf krf krf ?_ ?_ ?_
   ·refine AK.make1 (n := 2 * d.fin.length) sl22 el4 rfl rfl rfl (by omega) (by omega) trivial rfl (fun mv0 => ?_)
    first | refine AK.shape (v := mv0) 1 rfl (fun smv0 => ?_) | refine AK.shape (v := mv0) 2 rfl (fun smv0 => ?_) | refine AK.shape (v := mv0) 3 rfl (fun smv0 => ?_)
    refine .nil ?_
    try (conv => enter [2, 2]; dsimp only [List.set_cons_zero, List.set_cons_succ, List.cons_append, List.nil_append])
    refine HeldK.back hle ?_
    refine HeldK.two 13 15 (fuel := 3) (listed1 := (lb 17 16383)) (listed2 := (lb 17 40959)) krf rfl rfl krf krf ?_ ?_
    ·refine AK.make1 (n := 2 * d.fin.length) sl23 el26 rfl rfl rfl (by omega) (by omega) trivial rfl (fun mv1 => ?_)
     first | refine AK.shape (v := mv1) 1 rfl (fun smv1 => ?_) | refine AK.shape (v := mv1) 2 rfl (fun smv1 => ?_) | refine AK.shape (v := mv1) 3 rfl (fun smv1 => ?_)
     refine .nil ?_
     try (conv => enter [2, 2]; dsimp only [List.set_cons_zero, List.set_cons_succ, List.cons_append, List.nil_append])
     refine HeldK.back hle ?_
     refine HeldK.first 14 (fuel := 2) (listed' := (lb 17 32767)) _ rfl krf krf rfl (Yl.build (parts := [(0, .tmp 33), (1, .tmp 39), (2, .tmp 42), (3, .tmp 45)]) (cs := #[.int .i64 d.L, .int .i64 ((d.s + (k : Int)) % (d.fin.length : Int)), mv0, mv1]) rfl (by obtain ⟨_, _, _, rfl⟩ := smv0; obtain ⟨_, _, _, rfl⟩ := smv1; kernel_rfl)) trivial rfl ?_
     refine HeldK.one 15 (fuel := 1) (listed' := (lb 17 65535)) krf rfl krf ?_
     refine AK.alloc el25 rfl rfl trivial rfl (fun bx9 => ?_)
     refine .nil ?_
     try (conv => enter [2, 2]; dsimp only [List.set_cons_zero, List.set_cons_succ, List.cons_append, List.nil_append])
     refine HeldK.back hle ?_
     refine HeldK.one 16 (fuel := 0) (listed' := (lb 17 131071)) krf rfl krf ?_
     first | refine AK.storeBox 1 (us := [.int .i64 d.L, .int .i64 ((d.s + (k : Int)) % (d.fin.length : Int)), mv0, mv1]) (cs' := [.int .i64 d.L, .int .i64 ((d.s + (k : Int)) % (d.fin.length : Int)), mv0, mv1]) rfl sz25 rfl rfl rfl rfl oneP (Nat.le_of_ble_eq_true rfl) rfl trivial ?_ | refine AK.storeBox 2 (us := [.int .i64 d.L, .int .i64 ((d.s + (k : Int)) % (d.fin.length : Int)), mv0, mv1]) (cs' := [.int .i64 d.L, .int .i64 ((d.s + (k : Int)) % (d.fin.length : Int)), mv0, mv1]) rfl sz25 rfl rfl rfl rfl oneP (Nat.le_of_ble_eq_true rfl) rfl trivial ?_ | refine AK.storeBox 3 (us := [.int .i64 d.L, .int .i64 ((d.s + (k : Int)) % (d.fin.length : Int)), mv0, mv1]) (cs' := [.int .i64 d.L, .int .i64 ((d.s + (k : Int)) % (d.fin.length : Int)), mv0, mv1]) rfl sz25 rfl rfl rfl rfl oneP (Nat.le_of_ble_eq_true rfl) rfl trivial ?_
     refine .nil ?_
     try (conv => enter [2, 2]; dsimp only [List.set_cons_zero, List.set_cons_succ, List.cons_append, List.nil_append])
     refine HeldK.backN 17 krf rfl krf ?_
     refine .nil ?_
     refine AK.fromQn ?_
     exact hJ _ _ ((mv0, mv1, bx9)) ⟨smv0, smv1⟩ (slr) (fun w hw => by first | exact hw.pickLe [0, 1, 2, 3] (by decide) pkl | exact hw.pickLe [0, 1, 3, 2] (by decide) pkl | exact hw.pickLe [0, 2, 1, 3] (by decide) pkl | exact hw.pickLe [0, 3, 1, 2] (by decide) pkl | exact hw.pickLe [0, 2, 3, 1] (by decide) pkl | exact hw.pickLe [0, 3, 2, 1] (by decide) pkl)
    ·refine AK.alloc el25 rfl rfl trivial rfl (fun bx9 => ?_)
     refine .nil ?_
     try (conv => enter [2, 2]; dsimp only [List.set_cons_zero, List.set_cons_succ, List.cons_append, List.nil_append])
     refine HeldK.back hle ?_
     refine HeldK.one 13 (fuel := 2) (listed' := (lb 17 49151)) krf rfl krf ?_
     refine AK.make1 (n := 2 * d.fin.length) sl23 el26 rfl rfl rfl (by omega) (by omega) trivial rfl (fun mv1 => ?_)
     first | refine AK.shape (v := mv1) 1 rfl (fun smv1 => ?_) | refine AK.shape (v := mv1) 2 rfl (fun smv1 => ?_) | refine AK.shape (v := mv1) 3 rfl (fun smv1 => ?_)
     refine .nil ?_
     try (conv => enter [2, 2]; dsimp only [List.set_cons_zero, List.set_cons_succ, List.cons_append, List.nil_append])
     refine HeldK.back hle ?_
     refine HeldK.first 14 (fuel := 1) (listed' := (lb 17 65535)) _ rfl krf krf rfl (Yl.build (parts := [(0, .tmp 33), (1, .tmp 39), (2, .tmp 42), (3, .tmp 45)]) (cs := #[.int .i64 d.L, .int .i64 ((d.s + (k : Int)) % (d.fin.length : Int)), mv0, mv1]) rfl (by obtain ⟨_, _, _, rfl⟩ := smv0; obtain ⟨_, _, _, rfl⟩ := smv1; kernel_rfl)) trivial rfl ?_
     refine HeldK.one 16 (fuel := 0) (listed' := (lb 17 131071)) krf rfl krf ?_
     first | refine AK.storeBox 1 (us := [.int .i64 d.L, .int .i64 ((d.s + (k : Int)) % (d.fin.length : Int)), mv0, mv1]) (cs' := [.int .i64 d.L, .int .i64 ((d.s + (k : Int)) % (d.fin.length : Int)), mv0, mv1]) rfl sz25 rfl rfl rfl rfl oneP (Nat.le_of_ble_eq_true rfl) rfl trivial ?_ | refine AK.storeBox 2 (us := [.int .i64 d.L, .int .i64 ((d.s + (k : Int)) % (d.fin.length : Int)), mv0, mv1]) (cs' := [.int .i64 d.L, .int .i64 ((d.s + (k : Int)) % (d.fin.length : Int)), mv0, mv1]) rfl sz25 rfl rfl rfl rfl oneP (Nat.le_of_ble_eq_true rfl) rfl trivial ?_ | refine AK.storeBox 3 (us := [.int .i64 d.L, .int .i64 ((d.s + (k : Int)) % (d.fin.length : Int)), mv0, mv1]) (cs' := [.int .i64 d.L, .int .i64 ((d.s + (k : Int)) % (d.fin.length : Int)), mv0, mv1]) rfl sz25 rfl rfl rfl rfl oneP (Nat.le_of_ble_eq_true rfl) rfl trivial ?_
     refine .nil ?_
     try (conv => enter [2, 2]; dsimp only [List.set_cons_zero, List.set_cons_succ, List.cons_append, List.nil_append])
     refine HeldK.backN 17 krf rfl krf ?_
     refine .nil ?_
     refine AK.fromQn ?_
     exact hJ _ _ ((mv0, mv1, bx9)) ⟨smv0, smv1⟩ (slr) (fun w hw => by first | exact hw.pickLe [0, 1, 2, 3] (by decide) pkl | exact hw.pickLe [0, 1, 3, 2] (by decide) pkl | exact hw.pickLe [0, 2, 1, 3] (by decide) pkl | exact hw.pickLe [0, 3, 1, 2] (by decide) pkl | exact hw.pickLe [0, 2, 3, 1] (by decide) pkl | exact hw.pickLe [0, 3, 2, 1] (by decide) pkl)
   ·refine AK.make1 (n := 2 * d.fin.length) sl23 el26 rfl rfl rfl (by omega) (by omega) trivial rfl (fun mv1 => ?_)
    first | refine AK.shape (v := mv1) 1 rfl (fun smv1 => ?_) | refine AK.shape (v := mv1) 2 rfl (fun smv1 => ?_) | refine AK.shape (v := mv1) 3 rfl (fun smv1 => ?_)
    refine .nil ?_
    try (conv => enter [2, 2]; dsimp only [List.set_cons_zero, List.set_cons_succ, List.cons_append, List.nil_append])
    refine HeldK.back hle ?_
    refine HeldK.two 10 15 (fuel := 3) (listed1 := (lb 17 16383)) (listed2 := (lb 17 48127)) krf rfl rfl krf krf ?_ ?_
    ·refine AK.make1 (n := 2 * d.fin.length) sl22 el4 rfl rfl rfl (by omega) (by omega) trivial rfl (fun mv0 => ?_)
     first | refine AK.shape (v := mv0) 1 rfl (fun smv0 => ?_) | refine AK.shape (v := mv0) 2 rfl (fun smv0 => ?_) | refine AK.shape (v := mv0) 3 rfl (fun smv0 => ?_)
     refine .nil ?_
     try (conv => enter [2, 2]; dsimp only [List.set_cons_zero, List.set_cons_succ, List.cons_append, List.nil_append])
     refine HeldK.back hle ?_
     refine HeldK.first 14 (fuel := 2) (listed' := (lb 17 32767)) _ rfl krf krf rfl (Yl.build (parts := [(0, .tmp 33), (1, .tmp 39), (2, .tmp 42), (3, .tmp 45)]) (cs := #[.int .i64 d.L, .int .i64 ((d.s + (k : Int)) % (d.fin.length : Int)), mv0, mv1]) rfl (by obtain ⟨_, _, _, rfl⟩ := smv0; obtain ⟨_, _, _, rfl⟩ := smv1; kernel_rfl)) trivial rfl ?_
     refine HeldK.one 15 (fuel := 1) (listed' := (lb 17 65535)) krf rfl krf ?_
     refine AK.alloc el25 rfl rfl trivial rfl (fun bx9 => ?_)
     refine .nil ?_
     try (conv => enter [2, 2]; dsimp only [List.set_cons_zero, List.set_cons_succ, List.cons_append, List.nil_append])
     refine HeldK.back hle ?_
     refine HeldK.one 16 (fuel := 0) (listed' := (lb 17 131071)) krf rfl krf ?_
     first | refine AK.storeBox 1 (us := [.int .i64 d.L, .int .i64 ((d.s + (k : Int)) % (d.fin.length : Int)), mv0, mv1]) (cs' := [.int .i64 d.L, .int .i64 ((d.s + (k : Int)) % (d.fin.length : Int)), mv0, mv1]) rfl sz25 rfl rfl rfl rfl oneP (Nat.le_of_ble_eq_true rfl) rfl trivial ?_ | refine AK.storeBox 2 (us := [.int .i64 d.L, .int .i64 ((d.s + (k : Int)) % (d.fin.length : Int)), mv0, mv1]) (cs' := [.int .i64 d.L, .int .i64 ((d.s + (k : Int)) % (d.fin.length : Int)), mv0, mv1]) rfl sz25 rfl rfl rfl rfl oneP (Nat.le_of_ble_eq_true rfl) rfl trivial ?_ | refine AK.storeBox 3 (us := [.int .i64 d.L, .int .i64 ((d.s + (k : Int)) % (d.fin.length : Int)), mv0, mv1]) (cs' := [.int .i64 d.L, .int .i64 ((d.s + (k : Int)) % (d.fin.length : Int)), mv0, mv1]) rfl sz25 rfl rfl rfl rfl oneP (Nat.le_of_ble_eq_true rfl) rfl trivial ?_
     refine .nil ?_
     try (conv => enter [2, 2]; dsimp only [List.set_cons_zero, List.set_cons_succ, List.cons_append, List.nil_append])
     refine HeldK.backN 17 krf rfl krf ?_
     refine .nil ?_
     refine AK.fromQn ?_
     exact hJ _ _ ((mv0, mv1, bx9)) ⟨smv0, smv1⟩ (slr) (fun w hw => by first | exact hw.pickLe [0, 1, 2, 3] (by decide) pkl | exact hw.pickLe [0, 1, 3, 2] (by decide) pkl | exact hw.pickLe [0, 2, 1, 3] (by decide) pkl | exact hw.pickLe [0, 3, 1, 2] (by decide) pkl | exact hw.pickLe [0, 2, 3, 1] (by decide) pkl | exact hw.pickLe [0, 3, 2, 1] (by decide) pkl)
    ·refine AK.alloc el25 rfl rfl trivial rfl (fun bx9 => ?_)
     refine .nil ?_
     try (conv => enter [2, 2]; dsimp only [List.set_cons_zero, List.set_cons_succ, List.cons_append, List.nil_append])
     refine HeldK.back hle ?_
     refine HeldK.one 10 (fuel := 2) (listed' := (lb 17 49151)) krf rfl krf ?_
     refine AK.make1 (n := 2 * d.fin.length) sl22 el4 rfl rfl rfl (by omega) (by omega) trivial rfl (fun mv0 => ?_)
     first | refine AK.shape (v := mv0) 1 rfl (fun smv0 => ?_) | refine AK.shape (v := mv0) 2 rfl (fun smv0 => ?_) | refine AK.shape (v := mv0) 3 rfl (fun smv0 => ?_)
     refine .nil ?_
     try (conv => enter [2, 2]; dsimp only [List.set_cons_zero, List.set_cons_succ, List.cons_append, List.nil_append])
     refine HeldK.back hle ?_
     refine HeldK.first 14 (fuel := 1) (listed' := (lb 17 65535)) _ rfl krf krf rfl (Yl.build (parts := [(0, .tmp 33), (1, .tmp 39), (2, .tmp 42), (3, .tmp 45)]) (cs := #[.int .i64 d.L, .int .i64 ((d.s + (k : Int)) % (d.fin.length : Int)), mv0, mv1]) rfl (by obtain ⟨_, _, _, rfl⟩ := smv0; obtain ⟨_, _, _, rfl⟩ := smv1; kernel_rfl)) trivial rfl ?_
     refine HeldK.one 16 (fuel := 0) (listed' := (lb 17 131071)) krf rfl krf ?_
     first | refine AK.storeBox 1 (us := [.int .i64 d.L, .int .i64 ((d.s + (k : Int)) % (d.fin.length : Int)), mv0, mv1]) (cs' := [.int .i64 d.L, .int .i64 ((d.s + (k : Int)) % (d.fin.length : Int)), mv0, mv1]) rfl sz25 rfl rfl rfl rfl oneP (Nat.le_of_ble_eq_true rfl) rfl trivial ?_ | refine AK.storeBox 2 (us := [.int .i64 d.L, .int .i64 ((d.s + (k : Int)) % (d.fin.length : Int)), mv0, mv1]) (cs' := [.int .i64 d.L, .int .i64 ((d.s + (k : Int)) % (d.fin.length : Int)), mv0, mv1]) rfl sz25 rfl rfl rfl rfl oneP (Nat.le_of_ble_eq_true rfl) rfl trivial ?_ | refine AK.storeBox 3 (us := [.int .i64 d.L, .int .i64 ((d.s + (k : Int)) % (d.fin.length : Int)), mv0, mv1]) (cs' := [.int .i64 d.L, .int .i64 ((d.s + (k : Int)) % (d.fin.length : Int)), mv0, mv1]) rfl sz25 rfl rfl rfl rfl oneP (Nat.le_of_ble_eq_true rfl) rfl trivial ?_
     refine .nil ?_
     try (conv => enter [2, 2]; dsimp only [List.set_cons_zero, List.set_cons_succ, List.cons_append, List.nil_append])
     refine HeldK.backN 17 krf rfl krf ?_
     refine .nil ?_
     refine AK.fromQn ?_
     exact hJ _ _ ((mv0, mv1, bx9)) ⟨smv0, smv1⟩ (slr) (fun w hw => by first | exact hw.pickLe [0, 1, 2, 3] (by decide) pkl | exact hw.pickLe [0, 1, 3, 2] (by decide) pkl | exact hw.pickLe [0, 2, 1, 3] (by decide) pkl | exact hw.pickLe [0, 3, 1, 2] (by decide) pkl | exact hw.pickLe [0, 2, 3, 1] (by decide) pkl | exact hw.pickLe [0, 3, 2, 1] (by decide) pkl)
   ·refine AK.alloc el25 rfl rfl trivial rfl (fun bx9 => ?_)
    refine .nil ?_
    try (conv => enter [2, 2]; dsimp only [List.set_cons_zero, List.set_cons_succ, List.cons_append, List.nil_append])
    refine HeldK.back hle ?_
    refine HeldK.two 10 13 (fuel := 3) (listed1 := (lb 17 40959)) (listed2 := (lb 17 48127)) krf rfl rfl krf krf ?_ ?_
    ·refine AK.make1 (n := 2 * d.fin.length) sl22 el4 rfl rfl rfl (by omega) (by omega) trivial rfl (fun mv0 => ?_)
     first | refine AK.shape (v := mv0) 1 rfl (fun smv0 => ?_) | refine AK.shape (v := mv0) 2 rfl (fun smv0 => ?_) | refine AK.shape (v := mv0) 3 rfl (fun smv0 => ?_)
     refine .nil ?_
     try (conv => enter [2, 2]; dsimp only [List.set_cons_zero, List.set_cons_succ, List.cons_append, List.nil_append])
     refine HeldK.back hle ?_
     refine HeldK.one 13 (fuel := 2) (listed' := (lb 17 49151)) krf rfl krf ?_
     refine AK.make1 (n := 2 * d.fin.length) sl23 el26 rfl rfl rfl (by omega) (by omega) trivial rfl (fun mv1 => ?_)
     first | refine AK.shape (v := mv1) 1 rfl (fun smv1 => ?_) | refine AK.shape (v := mv1) 2 rfl (fun smv1 => ?_) | refine AK.shape (v := mv1) 3 rfl (fun smv1 => ?_)
     refine .nil ?_
     try (conv => enter [2, 2]; dsimp only [List.set_cons_zero, List.set_cons_succ, List.cons_append, List.nil_append])
     refine HeldK.back hle ?_
     refine HeldK.first 14 (fuel := 1) (listed' := (lb 17 65535)) _ rfl krf krf rfl (Yl.build (parts := [(0, .tmp 33), (1, .tmp 39), (2, .tmp 42), (3, .tmp 45)]) (cs := #[.int .i64 d.L, .int .i64 ((d.s + (k : Int)) % (d.fin.length : Int)), mv0, mv1]) rfl (by obtain ⟨_, _, _, rfl⟩ := smv0; obtain ⟨_, _, _, rfl⟩ := smv1; kernel_rfl)) trivial rfl ?_
     refine HeldK.one 16 (fuel := 0) (listed' := (lb 17 131071)) krf rfl krf ?_
     first | refine AK.storeBox 1 (us := [.int .i64 d.L, .int .i64 ((d.s + (k : Int)) % (d.fin.length : Int)), mv0, mv1]) (cs' := [.int .i64 d.L, .int .i64 ((d.s + (k : Int)) % (d.fin.length : Int)), mv0, mv1]) rfl sz25 rfl rfl rfl rfl oneP (Nat.le_of_ble_eq_true rfl) rfl trivial ?_ | refine AK.storeBox 2 (us := [.int .i64 d.L, .int .i64 ((d.s + (k : Int)) % (d.fin.length : Int)), mv0, mv1]) (cs' := [.int .i64 d.L, .int .i64 ((d.s + (k : Int)) % (d.fin.length : Int)), mv0, mv1]) rfl sz25 rfl rfl rfl rfl oneP (Nat.le_of_ble_eq_true rfl) rfl trivial ?_ | refine AK.storeBox 3 (us := [.int .i64 d.L, .int .i64 ((d.s + (k : Int)) % (d.fin.length : Int)), mv0, mv1]) (cs' := [.int .i64 d.L, .int .i64 ((d.s + (k : Int)) % (d.fin.length : Int)), mv0, mv1]) rfl sz25 rfl rfl rfl rfl oneP (Nat.le_of_ble_eq_true rfl) rfl trivial ?_
     refine .nil ?_
     try (conv => enter [2, 2]; dsimp only [List.set_cons_zero, List.set_cons_succ, List.cons_append, List.nil_append])
     refine HeldK.backN 17 krf rfl krf ?_
     refine .nil ?_
     refine AK.fromQn ?_
     exact hJ _ _ ((mv0, mv1, bx9)) ⟨smv0, smv1⟩ (slr) (fun w hw => by first | exact hw.pickLe [0, 1, 2, 3] (by decide) pkl | exact hw.pickLe [0, 1, 3, 2] (by decide) pkl | exact hw.pickLe [0, 2, 1, 3] (by decide) pkl | exact hw.pickLe [0, 3, 1, 2] (by decide) pkl | exact hw.pickLe [0, 2, 3, 1] (by decide) pkl | exact hw.pickLe [0, 3, 2, 1] (by decide) pkl)
    ·refine AK.make1 (n := 2 * d.fin.length) sl23 el26 rfl rfl rfl (by omega) (by omega) trivial rfl (fun mv1 => ?_)
     first | refine AK.shape (v := mv1) 1 rfl (fun smv1 => ?_) | refine AK.shape (v := mv1) 2 rfl (fun smv1 => ?_) | refine AK.shape (v := mv1) 3 rfl (fun smv1 => ?_)
     refine .nil ?_
     try (conv => enter [2, 2]; dsimp only [List.set_cons_zero, List.set_cons_succ, List.cons_append, List.nil_append])
     refine HeldK.back hle ?_
     refine HeldK.one 10 (fuel := 2) (listed' := (lb 17 49151)) krf rfl krf ?_
     refine AK.make1 (n := 2 * d.fin.length) sl22 el4 rfl rfl rfl (by omega) (by omega) trivial rfl (fun mv0 => ?_)
     first | refine AK.shape (v := mv0) 1 rfl (fun smv0 => ?_) | refine AK.shape (v := mv0) 2 rfl (fun smv0 => ?_) | refine AK.shape (v := mv0) 3 rfl (fun smv0 => ?_)
     refine .nil ?_
     try (conv => enter [2, 2]; dsimp only [List.set_cons_zero, List.set_cons_succ, List.cons_append, List.nil_append])
     refine HeldK.back hle ?_
     refine HeldK.first 14 (fuel := 1) (listed' := (lb 17 65535)) _ rfl krf krf rfl (Yl.build (parts := [(0, .tmp 33), (1, .tmp 39), (2, .tmp 42), (3, .tmp 45)]) (cs := #[.int .i64 d.L, .int .i64 ((d.s + (k : Int)) % (d.fin.length : Int)), mv0, mv1]) rfl (by obtain ⟨_, _, _, rfl⟩ := smv0; obtain ⟨_, _, _, rfl⟩ := smv1; kernel_rfl)) trivial rfl ?_
     refine HeldK.one 16 (fuel := 0) (listed' := (lb 17 131071)) krf rfl krf ?_
     first | refine AK.storeBox 1 (us := [.int .i64 d.L, .int .i64 ((d.s + (k : Int)) % (d.fin.length : Int)), mv0, mv1]) (cs' := [.int .i64 d.L, .int .i64 ((d.s + (k : Int)) % (d.fin.length : Int)), mv0, mv1]) rfl sz25 rfl rfl rfl rfl oneP (Nat.le_of_ble_eq_true rfl) rfl trivial ?_ | refine AK.storeBox 2 (us := [.int .i64 d.L, .int .i64 ((d.s + (k : Int)) % (d.fin.length : Int)), mv0, mv1]) (cs' := [.int .i64 d.L, .int .i64 ((d.s + (k : Int)) % (d.fin.length : Int)), mv0, mv1]) rfl sz25 rfl rfl rfl rfl oneP (Nat.le_of_ble_eq_true rfl) rfl trivial ?_ | refine AK.storeBox 3 (us := [.int .i64 d.L, .int .i64 ((d.s + (k : Int)) % (d.fin.length : Int)), mv0, mv1]) (cs' := [.int .i64 d.L, .int .i64 ((d.s + (k : Int)) % (d.fin.length : Int)), mv0, mv1]) rfl sz25 rfl rfl rfl rfl oneP (Nat.le_of_ble_eq_true rfl) rfl trivial ?_
     refine .nil ?_
     try (conv => enter [2, 2]; dsimp only [List.set_cons_zero, List.set_cons_succ, List.cons_append, List.nil_append])
     refine HeldK.backN 17 krf rfl krf ?_
     refine .nil ?_
     refine AK.fromQn ?_
     exact hJ _ _ ((mv0, mv1, bx9)) ⟨smv0, smv1⟩ (slr) (fun w hw => by first | exact hw.pickLe [0, 1, 2, 3] (by decide) pkl | exact hw.pickLe [0, 1, 3, 2] (by decide) pkl | exact hw.pickLe [0, 2, 1, 3] (by decide) pkl | exact hw.pickLe [0, 3, 1, 2] (by decide) pkl | exact hw.pickLe [0, 2, 3, 1] (by decide) pkl | exact hw.pickLe [0, 3, 2, 1] (by decide) pkl)
  ·have smv0 := hg.1
   have smv1 := hg.2
   refine AK.then_ (hK7 _ ?_)
   refine .sr fun _ hK8 => ?_
   refine .as rfl (.nt hK8 ?_)
   refine .seq fun _ hK9 => ?_
   refine .sr fun _ hK10 => ?_
   refine .v (.fieldAddr fd25_2 rfl) ?_
   refine .v (.loadBox on22 rfl bsp rfl) ?_
   refine .v (.lenR sl22 rfl (by first | exact rdp | exact .arg (hNi _ (by omega)))) ?_
   refine .mv rfl (.nt hK10 (.block ?_))
   refine AK.loopK (X := Nat × Nat × List Value × List (List Int) × List Bool) [(2, _), (3, _), (7, _), (8, _), (9, _), (49, _)] (fun x => [(10, .int .i64 (x.2.1 : Int)), (50, .int .i64 (x.1 : Int))]) (fun x => [box bx3 25 4 [.int .i64 d.L, .int .i64 d.s, vF, vN], row z.1 4 1 (2 * d.fin.length) (x.2.2.2.2.map Value.bool), row z.2.1 26 1 (2 * d.fin.length) x.2.2.1, bigA (matG (Value.int .i64) 3 x.2.2.1 x.2.2.2.1), box z.2.2 25 4 [.int .i64 d.L, .int .i64 ((d.s + (k : Int)) % (d.fin.length : Int)), z.1, z.2.1]]) (fun x => x.1 ≤ d.fin.length ∧ x.2.1 ≤ 1000 * x.1 ∧ x.2.2.1.length = x.2.2.2.1.length ∧ DoneF d k (2 * x.1) x.2.2.2.2 ∧ DoneR d k (2 * x.1) x.2.2.2.1) (fun x => d.fin.length - x.1) ((0, 0, List.replicate (2 * d.fin.length) (.slice none 0 0), List.replicate (2 * d.fin.length) [], List.replicate (2 * d.fin.length) false)) slr ?_ ?_ ?_ ?_
   ·exact ⟨Nat.zero_le _, Nat.zero_le _, by simp, doneF_zero d k, doneR_zero d k⟩
   ·exact slr
   ·exact fun w hw => by dsimp only; rw [List.map_replicate]; exact (hw.ghostMat 3 (2 * d.fin.length)).pick [0, 1, 2, 4, 3] (by decide) rfl rfl
   ·intro x hg0 _ hK11
    refine .sr fun _ hK12 => ?_
    refine .v (.lss rfl rfl) ?_
    refine .nt hK12 ?_
    refine .seq fun _ hK13 => ?_
    refine AK.condD rfl (fun hc1 => ?_) (fun hc1 => ?_)
    ·have hrw := hv.row x.1 (by omega)
     have hto := hv.to x.1
     refine .skip ?_
     refine AK.then_ (hK13 _ ?_)
     refine .seq fun _ hK14 => ?_
     refine .block ?_
     refine .sr fun _ hK15 => ?_
     refine .mv rfl (.as rfl (.nt hK15 ?_))
     refine .sr fun _ hK16 => ?_
     refine .as rfl (.nt hK16 (.block ?_))
     refine AK.loopK (X := Nat × Nat × List Value × List (List Int) × List Bool) [(2, _), (3, _), (7, _), (8, _), (9, _), (11, _), (49, _), (50, _)] (fun y => [(10, .int .i64 (y.2.1 : Int)), (12, .int .i64 (y.1 : Int))]) (fun y => [box bx3 25 4 [.int .i64 d.L, .int .i64 d.s, vF, vN], row z.1 4 1 (2 * d.fin.length) (y.2.2.2.2.map Value.bool), row z.2.1 26 1 (2 * d.fin.length) y.2.2.1, bigA (matG (Value.int .i64) 3 y.2.2.1 y.2.2.2.1), box z.2.2 25 4 [.int .i64 d.L, .int .i64 ((d.s + (k : Int)) % (d.fin.length : Int)), z.1, z.2.1]]) (fun y => y.1 ≤ 2 ∧ y.2.1 ≤ 1000 * x.1 + 100 * y.1 ∧ y.2.2.1.length = y.2.2.2.1.length ∧ DoneF d k (2 * x.1 + y.1) y.2.2.2.2 ∧ DoneR d k (2 * x.1 + y.1) y.2.2.2.1) (fun y => 2 - y.1) ((0, x.2)) slr ?_ ?_ ?_ ?_
     ·exact ⟨Nat.zero_le _, by dsimp only; omega, hg0.2.2.1, hg0.2.2.2.1, hg0.2.2.2.2⟩
     ·exact slr
     ·exact fun w hw => hw
     ·intro y hg1 _ hK17
      refine .seq fun _ hK18 => ?_
      refine .sr fun _ hK19 => ?_
      refine .mv rfl ?_
      refine .v (.lss rfl rfl) ?_
      refine .nt hK19 ?_
      refine AK.condD rfl (fun hc2 => ?_) (fun hc2 => ?_)
      ·have hpl := plc_lt (n := d.fin.length) (k := k) (q := x.1) (c := y.1) (by omega) (by omega)
       have hpv := plc_val (n := d.fin.length) (k := k) (q := x.1) (c := y.1)
       have hmb : 0 ≤ (y.1 : Int) * (d.fin.length : Int) ∧ (y.1 : Int) * (d.fin.length : Int) ≤ 12 := by
        rcases (show y.1 = 0 ∨ y.1 = 1 by omega) with h | h
        ·rw [h]; omega
        ·rw [h]; omega
       have hFl := hg1.2.2.2.1.1
       have hRl := hg1.2.2.2.2.len
       have hRn := hg1.2.2.2.2.nil x.1 y.1 (by omega) (by omega) (Nat.le_refl _)
       have hrsl : (plc d.fin.length k x.1 y.1) < y.2.2.1.length := by rw [hg1.2.2.1, hRl]; exact hpl
       refine .skip ?_
       refine AK.then_ (hK18 _ ?_)
       refine .seq fun _ hK20 => ?_
       refine .block ?_
       refine .sr fun _ hK21 => ?_
       refine .mv rfl (.mv rfl ?_)
       refine .v (.add rfl rfl (by omega)) ?_
       refine .mv rfl ?_
       refine .v (.rem rfl rfl (by omega) (by omega)) ?_
       refine .mv rfl (.mv rfl ?_)
       refine .v (.mul rfl rfl (by omega)) ?_
       refine .v (.addE ((((plc d.fin.length k x.1 y.1) : Nat) : Int)) rfl rfl hpv (by omega)) ?_
       refine .as rfl (.nt hK21 ?_)
       refine .seq fun _ hK22 => ?_
       refine AK.stillTail 9 mixed krf (fun _ hws => ?_)
       refine .v hws (.fieldAddr fd25_2 rfl) ?_
       refine .v hws (.loadBox on22 rfl bsp rfl) ?_
       refine .v hws (.move rfl) ?_
       refine .v hws (.fieldAddr fd25_2 rfl) ?_
       refine .v hws (.loadBox on22 rfl bsp rfl) ?_
       refine .v hws (.move rfl) ?_
       first | refine .v hws (.iN sl22 rfl rfl (hr := (by first | exact rdp | exact .arg (hNi _ (by omega))))) ?_ | refine .v hws (.iK sl22 rfl rfl (hr := (by first | exact rdp | exact .arg (hNi _ (by omega))))) ?_
       refine .v hws (.loadB on4 rfl (by first | exact rdp | exact .arg (hNi _ (by omega))) (by omega)) ?_
       first | refine .v hws (.iN sl22 rfl rfl (hr := (by first | exact rdp | exact .arg (hNi _ (by omega))))) ?_ | refine .v hws (.iK sl22 rfl rfl (hr := (by first | exact rdp | exact .arg (hNi _ (by omega))))) ?_
       refine SK.nil (SK.fin hws ?_)
       refine AK.store1e 1 rfl sz4 rfl rfl rfl rfl (by omega) (cs' := ((y.2.2.2.2.set (plc d.fin.length k x.1 y.1) (d.fin.getD x.1 false)).map Value.bool)) (by rw [List.map_set]) trivial ?_
       refine .nt hK22 ?_
       refine .sr fun _ hK23 => ?_
       refine AK.fact (p := IsSl (y.2.2.1.getD (plc d.fin.length k x.1 y.1) undef)) (fun w hw => (HW.extract 3 (plc d.fin.length k x.1 y.1) rfl (matG_get hg1.2.2.1 (by rw [hRl]; exact hpl)) hw).shape 5 rfl) (fun srv => ?_)
       refine .v (.fieldAddr fd25_3 rfl) ?_
       refine .v (.loadBox on23 rfl bsp rfl) ?_
       refine .mv rfl ?_
       first | refine .v (.iN sl23 rfl rfl (hr := (by first | exact rdp | exact .arg (hNi _ (by omega))))) ?_ | refine .v (.iK sl23 rfl rfl (hr := (by first | exact rdp | exact .arg (hNi _ (by omega))))) ?_
       refine .v (.loadV on26 rfl (by first | exact rdp | exact .arg (hNi _ (by omega))) (by omega)) ?_
       refine .v (.lenR sl26 rfl (by first | exact rdp | exact .arg (hNi _ (by omega)))) ?_
       refine .mv rfl (.nt hK23 (.block ?_))
       refine AK.loopK (X := Nat × Nat × Value × List Int) [(2, _), (3, _), (7, _), (8, _), (9, _), (11, _), (12, _), (13, _), (49, _), (50, _), (79, _), (80, _)] (fun u => [(10, .int .i64 (u.2.1 : Int)), (81, .int .i64 (u.1 : Int))]) (fun u => [box bx3 25 4 [.int .i64 d.L, .int .i64 d.s, vF, vN], row z.1 4 1 (2 * d.fin.length) ((y.2.2.2.2.set (plc d.fin.length k x.1 y.1) (d.fin.getD x.1 false)).map Value.bool), row z.2.1 26 1 (2 * d.fin.length) (y.2.2.1.set (plc d.fin.length k x.1 y.1) u.2.2.1), bigA ((matG (Value.int .i64) 3 y.2.2.1 y.2.2.2.1).set (plc d.fin.length k x.1 y.1) empA), box z.2.2 25 4 [.int .i64 d.L, .int .i64 ((d.s + (k : Int)) % (d.fin.length : Int)), z.1, z.2.1], row u.2.2.1 3 1 u.2.2.2.length (u.2.2.2.map (Value.int .i64))]) (fun u => u.1 ≤ (d.nx.getD x.1 []).length ∧ u.2.1 ≤ 1000 * x.1 + 100 * y.1 + u.1 ∧ IsSl u.2.2.1 ∧ u.2.2.2.length = u.1 ∧ ∀ t, t < u.2.2.2.length → OkTo d k x.1 t (u.2.2.2.getD t 0)) (fun u => (d.nx.getD x.1 []).length - u.1) ((0, y.2.1, y.2.2.1.getD (plc d.fin.length k x.1 y.1) undef, [])) slr ?_ ?_ ?_ ?_
       ·exact ⟨Nat.zero_le _, by dsimp only; omega, srv, rfl, fun t ht => by cases ht⟩
       ·exact slr
       ·exact fun w hw => by dsimp only; rw [set_getD_self hrsl]; have h := hw.extract 3 (plc d.fin.length k x.1 y.1) rfl (matG_get hg1.2.2.1 (by rw [hRl]; exact hpl)); rw [hRn] at h; exact h
       ·intro u hg2 _ hK24
        refine .sr fun _ hK25 => ?_
        refine .v (.lss rfl rfl) ?_
        refine .nt hK25 ?_
        refine .seq fun _ hK26 => ?_
        refine AK.condD rfl (fun hc3 => ?_) (fun hc3 => ?_)
        ·have hto2 := hto u.1 (by omega) (by omega)
         have hul := hg2.2.2.2.1
         have hsu := hg2.2.2.1
         have hm1 := Int.emod_nonneg ((d.nx.getD x.1 []).getD u.1 0 + (k : Int)) (b := (d.fin.length : Int)) (by omega)
         have hm2 := Int.emod_lt_of_pos ((d.nx.getD x.1 []).getD u.1 0 + (k : Int)) (b := (d.fin.length : Int)) (by omega)
         refine .skip ?_
         refine AK.then_ (hK26 _ ?_)
         refine .seq fun _ hK27 => ?_
         refine .block ?_
         refine .sr fun _ hK28 => ?_
         first | refine .v (.iN sl26 rfl rfl (hr := (by first | exact rdp | exact .arg (hNi _ (by omega))))) ?_ | refine .v (.iK sl26 rfl rfl (hr := (by first | exact rdp | exact .arg (hNi _ (by omega))))) ?_
         refine .v (.loadI on3 rfl (by first | exact rdp | exact .arg (hNi _ (by omega))) (by omega)) ?_
         refine .as rfl (.nt hK28 ?_)
         refine .sr fun _ hK29 => ?_
         refine .mv rfl (.mv rfl ?_)
         refine .v (.add rfl rfl (by omega)) ?_
         refine .mv rfl ?_
         refine .v (.rem rfl rfl (by omega) (by omega)) ?_
         refine .as rfl (.nt hK29 ?_)
         refine .seq fun _ hK30 => ?_
         refine .sr fun _ hK31 => ?_
         refine .mv rfl (.mv rfl ?_)
         refine .v (.lenR sl22 rfl (by first | exact rdp | exact .arg (hNi _ (by omega)))) ?_
         refine .v (.lss rfl rfl) ?_
         refine .mv rfl ?_
         refine AK.splitB (g := 94) rfl (fun hg_19_4 => ?_) (fun hg_19_4 => ?_)
         ·have hg_19_4' := hg_19_4
          try simp only [bs] at hg_19_4'
          refine AK.val _ (Yl.move rfl) ⟨_, rfl, congrArg (fun b => some (Value.bool b)) hg_19_4⟩ rfl ?_
          refine AK.val _ (Yl.move rfl) ⟨_, rfl, congrArg (fun b => some (Value.bool b)) hg_19_4⟩ rfl ?_
          first | refine AK.val _ (.iN sl22 rfl rfl (hr := (by first | exact rdp | exact .arg (hNi _ (by omega))))) ⟨_, rfl, congrArg (fun b => some (Value.bool b)) hg_19_4⟩ rfl ?_ | refine AK.val _ (.iK sl22 rfl rfl (hr := (by first | exact rdp | exact .arg (hNi _ (by omega))))) ⟨_, rfl, congrArg (fun b => some (Value.bool b)) hg_19_4⟩ rfl ?_
          refine AK.val _ (Yl.loadB on4 rfl (by first | exact rdp | exact .arg (hNi _ (by omega))) (by omega)) ⟨_, rfl, congrArg (fun b => some (Value.bool b)) hg_19_4⟩ rfl ?_
          refine .v (.pickT rfl (hg_19_4) rfl) ?_
          refine .nt hK31 ?_
          refine AK.cond rfl (fun hc4 => ?_) (fun hc4 => ?_)
          ·try simp only [bs] at hc4
           refine AK.region ?_
           refine .mv rfl (.mv rfl ?_)
           refine .v (.add rfl rfl (by omega)) ?_
           refine .as rfl (.nt hK30 ?_)
           refine .sr fun _ hK32 => ?_
           refine .mv rfl ?_
           refine .v (.add rfl rfl (by omega)) ?_
           refine .as rfl (.nt hK32 ?_)
           try (conv => enter [2, 2]; dsimp only [List.set_cons_zero, List.set_cons_succ, List.cons_append, List.nil_append])
           refine AK.held 12 mixed ?_
           refine HeldK.first 0 (fuel := 12) (listed' := (lb 13 1)) _ rfl krf krf rfl (Yl.fieldAddr fd25_3 rfl) trivial rfl ?_
           refine HeldK.first 1 (fuel := 11) (listed' := (lb 13 3)) _ rfl krf krf rfl (Yl.loadBox on23 rfl bsp rfl) trivial rfl ?_
           refine HeldK.first 2 (fuel := 10) (listed' := (lb 13 7)) _ rfl krf krf rfl (Yl.move rfl) trivial rfl ?_
           refine HeldK.first 3 (fuel := 9) (listed' := (lb 13 15)) _ rfl krf krf rfl (Yl.fieldAddr fd25_3 rfl) trivial rfl ?_
           refine HeldK.first 4 (fuel := 8) (listed' := (lb 13 31)) _ rfl krf krf rfl (Yl.loadBox on23 rfl bsp rfl) trivial rfl ?_
           refine HeldK.first 5 (fuel := 7) (listed' := (lb 13 63)) _ rfl krf krf rfl (Yl.move rfl) trivial rfl ?_
           first | refine HeldK.first 6 (fuel := 6) (listed' := (lb 13 127)) _ rfl krf krf rfl (.iN sl23 rfl rfl (hr := (by first | exact rdp | exact .arg (hNi _ (by omega))))) trivial rfl ?_ | refine HeldK.first 6 (fuel := 6) (listed' := (lb 13 127)) _ rfl krf krf rfl (.iK sl23 rfl rfl (hr := (by first | exact rdp | exact .arg (hNi _ (by omega))))) trivial rfl ?_
           refine HeldK.first 7 (fuel := 5) (listed' := (lb 13 255)) _ rfl krf krf rfl (Yl.valE (Yl.loadV on26 rfl rdp (by rw [List.length_set]; omega)) (getD_setEq hrsl : (y.2.2.1.set (plc d.fin.length k x.1 y.1) u.2.2.1).getD (plc d.fin.length k x.1 y.1) undef = u.2.2.1)) trivial rfl ?_
           refine HeldK.first 8 (fuel := 4) (listed' := (lb 13 511)) _ rfl krf krf rfl (Yl.move rfl) trivial rfl ?_
           refine HeldK.one 9 (fuel := 3) (listed' := (lb 13 1023)) krf rfl krf ?_
           refine AK.lit (xs := [.tmp 113]) sl26 el3 rfl rfl rfl (by intro a ha; simp at ha; subst ha; rfl) (by decide) (by decide) trivial rfl (fun lt => ?_)
           refine .nil ?_
           try (conv => enter [2, 2]; dsimp only [List.set_cons_zero, List.set_cons_succ, List.cons_append, List.nil_append])
           refine HeldK.back hle ?_
           refine HeldK.one 10 (fuel := 2) (listed' := (lb 13 2047)) krf rfl krf ?_
           refine AK.appendH 5 rfl sl26 el3 rfl (by decide) rfl rfl rfl (by first | exact rdp | exact .arg (hNi _ (by omega))) oneP (by omega) (by omega) trivial rfl (fun va hva => ?_)
           refine .nil ?_
           try (conv => enter [2, 2]; dsimp only [List.set_cons_zero, List.set_cons_succ, List.cons_append, List.nil_append])
           refine HeldK.back hle ?_
           first | refine HeldK.first 11 (fuel := 1) (listed' := (lb 13 4095)) _ rfl krf krf rfl (.iN sl23 rfl rfl (hr := (by first | exact rdp | exact .arg (hNi _ (by omega))))) trivial rfl ?_ | refine HeldK.first 11 (fuel := 1) (listed' := (lb 13 4095)) _ rfl krf krf rfl (.iK sl23 rfl rfl (hr := (by first | exact rdp | exact .arg (hNi _ (by omega))))) trivial rfl ?_
           refine HeldK.one 12 (fuel := 0) (listed' := (lb 13 8191)) krf rfl krf ?_
           refine AK.store1e 2 rfl sz26 rfl rfl hva.cells hva.one (by omega) (cs' := (y.2.2.1.set (plc d.fin.length k x.1 y.1) va)) (by rw [List.set_set]) trivial ?_
           refine .nil ?_
           try (conv => enter [2, 2]; dsimp only [List.set_cons_zero, List.set_cons_succ, List.cons_append, List.nil_append])
           refine HeldK.backN 13 krf rfl krf ?_
           refine .nil ?_
           refine AK.fromQn ?_
           refine .block_normal ?_
           refine AK.then_ (hK27 _ ?_)
           refine AK.region ?_
           refine .v (.add rfl rfl (by omega)) ?_
           refine .mv rfl (.nil ?_)
           first | refine AK.then_ (hK24 _ _ ((u.1 + 1, u.2.1 + 1, va, u.2.2.2 ++ [(((d.nx.getD x.1 []).getD u.1 0 + (k : Int)) % (d.fin.length : Int))])) ⟨by dsimp only; omega, by dsimp only; omega, hva, by dsimp only; rw [List.length_append, hul]; rfl, snoc_all hg2.2.2.2.2 (by rw [hul]; exact okTo_0 (by omega))⟩ (by dsimp only; omega) (slr) (fun w hw => by dsimp only; rw [List.length_append, List.map_append]; exact hw.pickLe [0, 1, 2, 3, 4, 5] (by decide) pkl)) | refine AK.then_ (hK24 _ _ ((u.1 + 1, u.2.1 + 1, va, u.2.2.2 ++ [((((d.nx.getD x.1 []).getD u.1 0 + (k : Int)) % (d.fin.length : Int)) + (d.fin.length : Int))])) ⟨by dsimp only; omega, by dsimp only; omega, hva, by dsimp only; rw [List.length_append, hul]; rfl, snoc_all hg2.2.2.2.2 (by rw [hul]; exact okTo_1 (by omega))⟩ (by dsimp only; omega) (slr) (fun w hw => by dsimp only; rw [List.length_append, List.map_append]; exact hw.pickLe [0, 1, 2, 3, 4, 5] (by decide) pkl))
          ·try simp only [bs] at hc4
           refine .skip ?_
           refine AK.then_ (hK30 _ ?_)
           refine .sr fun _ hK33 => ?_
           refine .mv rfl ?_
           refine .v (.add rfl rfl (by omega)) ?_
           refine .as rfl (.nt hK33 ?_)
           try (conv => enter [2, 2]; dsimp only [List.set_cons_zero, List.set_cons_succ, List.cons_append, List.nil_append])
           refine AK.held 12 mixed ?_
           refine HeldK.first 0 (fuel := 12) (listed' := (lb 13 1)) _ rfl krf krf rfl (Yl.fieldAddr fd25_3 rfl) trivial rfl ?_
           refine HeldK.first 1 (fuel := 11) (listed' := (lb 13 3)) _ rfl krf krf rfl (Yl.loadBox on23 rfl bsp rfl) trivial rfl ?_
           refine HeldK.first 2 (fuel := 10) (listed' := (lb 13 7)) _ rfl krf krf rfl (Yl.move rfl) trivial rfl ?_
           refine HeldK.first 3 (fuel := 9) (listed' := (lb 13 15)) _ rfl krf krf rfl (Yl.fieldAddr fd25_3 rfl) trivial rfl ?_
           refine HeldK.first 4 (fuel := 8) (listed' := (lb 13 31)) _ rfl krf krf rfl (Yl.loadBox on23 rfl bsp rfl) trivial rfl ?_
           refine HeldK.first 5 (fuel := 7) (listed' := (lb 13 63)) _ rfl krf krf rfl (Yl.move rfl) trivial rfl ?_
           first | refine HeldK.first 6 (fuel := 6) (listed' := (lb 13 127)) _ rfl krf krf rfl (.iN sl23 rfl rfl (hr := (by first | exact rdp | exact .arg (hNi _ (by omega))))) trivial rfl ?_ | refine HeldK.first 6 (fuel := 6) (listed' := (lb 13 127)) _ rfl krf krf rfl (.iK sl23 rfl rfl (hr := (by first | exact rdp | exact .arg (hNi _ (by omega))))) trivial rfl ?_
           refine HeldK.first 7 (fuel := 5) (listed' := (lb 13 255)) _ rfl krf krf rfl (Yl.valE (Yl.loadV on26 rfl rdp (by rw [List.length_set]; omega)) (getD_setEq hrsl : (y.2.2.1.set (plc d.fin.length k x.1 y.1) u.2.2.1).getD (plc d.fin.length k x.1 y.1) undef = u.2.2.1)) trivial rfl ?_
           refine HeldK.first 8 (fuel := 4) (listed' := (lb 13 511)) _ rfl krf krf rfl (Yl.move rfl) trivial rfl ?_
           refine HeldK.one 9 (fuel := 3) (listed' := (lb 13 1023)) krf rfl krf ?_
           refine AK.lit (xs := [.tmp 113]) sl26 el3 rfl rfl rfl (by intro a ha; simp at ha; subst ha; rfl) (by decide) (by decide) trivial rfl (fun lt => ?_)
           refine .nil ?_
           try (conv => enter [2, 2]; dsimp only [List.set_cons_zero, List.set_cons_succ, List.cons_append, List.nil_append])
           refine HeldK.back hle ?_
           refine HeldK.one 10 (fuel := 2) (listed' := (lb 13 2047)) krf rfl krf ?_
           refine AK.appendH 5 rfl sl26 el3 rfl (by decide) rfl rfl rfl (by first | exact rdp | exact .arg (hNi _ (by omega))) oneP (by omega) (by omega) trivial rfl (fun va hva => ?_)
           refine .nil ?_
           try (conv => enter [2, 2]; dsimp only [List.set_cons_zero, List.set_cons_succ, List.cons_append, List.nil_append])
           refine HeldK.back hle ?_
           first | refine HeldK.first 11 (fuel := 1) (listed' := (lb 13 4095)) _ rfl krf krf rfl (.iN sl23 rfl rfl (hr := (by first | exact rdp | exact .arg (hNi _ (by omega))))) trivial rfl ?_ | refine HeldK.first 11 (fuel := 1) (listed' := (lb 13 4095)) _ rfl krf krf rfl (.iK sl23 rfl rfl (hr := (by first | exact rdp | exact .arg (hNi _ (by omega))))) trivial rfl ?_
           refine HeldK.one 12 (fuel := 0) (listed' := (lb 13 8191)) krf rfl krf ?_
           refine AK.store1e 2 rfl sz26 rfl rfl hva.cells hva.one (by omega) (cs' := (y.2.2.1.set (plc d.fin.length k x.1 y.1) va)) (by rw [List.set_set]) trivial ?_
           refine .nil ?_
           try (conv => enter [2, 2]; dsimp only [List.set_cons_zero, List.set_cons_succ, List.cons_append, List.nil_append])
           refine HeldK.backN 13 krf rfl krf ?_
           refine .nil ?_
           refine AK.fromQn ?_
           refine .block_normal ?_
           refine AK.then_ (hK27 _ ?_)
           refine AK.region ?_
           refine .v (.add rfl rfl (by omega)) ?_
           refine .mv rfl (.nil ?_)
           first | refine AK.then_ (hK24 _ _ ((u.1 + 1, u.2.1 + 1, va, u.2.2.2 ++ [(((d.nx.getD x.1 []).getD u.1 0 + (k : Int)) % (d.fin.length : Int))])) ⟨by dsimp only; omega, by dsimp only; omega, hva, by dsimp only; rw [List.length_append, hul]; rfl, snoc_all hg2.2.2.2.2 (by rw [hul]; exact okTo_0 (by omega))⟩ (by dsimp only; omega) (slr) (fun w hw => by dsimp only; rw [List.length_append, List.map_append]; exact hw.pickLe [0, 1, 2, 3, 4, 5] (by decide) pkl)) | refine AK.then_ (hK24 _ _ ((u.1 + 1, u.2.1 + 1, va, u.2.2.2 ++ [((((d.nx.getD x.1 []).getD u.1 0 + (k : Int)) % (d.fin.length : Int)) + (d.fin.length : Int))])) ⟨by dsimp only; omega, by dsimp only; omega, hva, by dsimp only; rw [List.length_append, hul]; rfl, snoc_all hg2.2.2.2.2 (by rw [hul]; exact okTo_1 (by omega))⟩ (by dsimp only; omega) (slr) (fun w hw => by dsimp only; rw [List.length_append, List.map_append]; exact hw.pickLe [0, 1, 2, 3, 4, 5] (by decide) pkl))
         ·have hg_19_4' := hg_19_4
          try simp only [bs] at hg_19_4'
          refine AK.pass rfl rfl (hg_19_4) rfl ?_
          refine AK.pass rfl rfl (hg_19_4) rfl ?_
          refine AK.pass rfl rfl (hg_19_4) rfl ?_
          refine AK.pass rfl rfl (hg_19_4) rfl ?_
          refine .v (.pickF rfl (hg_19_4) rfl) ?_
          refine .nt hK31 ?_
          refine AK.cond_f rfl (rfl) ?_
          refine .skip ?_
          refine AK.then_ (hK30 _ ?_)
          refine .sr fun _ hK34 => ?_
          refine .mv rfl ?_
          refine .v (.add rfl rfl (by omega)) ?_
          refine .as rfl (.nt hK34 ?_)
          try (conv => enter [2, 2]; dsimp only [List.set_cons_zero, List.set_cons_succ, List.cons_append, List.nil_append])
          refine AK.held 12 mixed ?_
          refine HeldK.first 0 (fuel := 12) (listed' := (lb 13 1)) _ rfl krf krf rfl (Yl.fieldAddr fd25_3 rfl) trivial rfl ?_
          refine HeldK.first 1 (fuel := 11) (listed' := (lb 13 3)) _ rfl krf krf rfl (Yl.loadBox on23 rfl bsp rfl) trivial rfl ?_
          refine HeldK.first 2 (fuel := 10) (listed' := (lb 13 7)) _ rfl krf krf rfl (Yl.move rfl) trivial rfl ?_
          refine HeldK.first 3 (fuel := 9) (listed' := (lb 13 15)) _ rfl krf krf rfl (Yl.fieldAddr fd25_3 rfl) trivial rfl ?_
          refine HeldK.first 4 (fuel := 8) (listed' := (lb 13 31)) _ rfl krf krf rfl (Yl.loadBox on23 rfl bsp rfl) trivial rfl ?_
          refine HeldK.first 5 (fuel := 7) (listed' := (lb 13 63)) _ rfl krf krf rfl (Yl.move rfl) trivial rfl ?_
          first | refine HeldK.first 6 (fuel := 6) (listed' := (lb 13 127)) _ rfl krf krf rfl (.iN sl23 rfl rfl (hr := (by first | exact rdp | exact .arg (hNi _ (by omega))))) trivial rfl ?_ | refine HeldK.first 6 (fuel := 6) (listed' := (lb 13 127)) _ rfl krf krf rfl (.iK sl23 rfl rfl (hr := (by first | exact rdp | exact .arg (hNi _ (by omega))))) trivial rfl ?_
          refine HeldK.first 7 (fuel := 5) (listed' := (lb 13 255)) _ rfl krf krf rfl (Yl.valE (Yl.loadV on26 rfl rdp (by rw [List.length_set]; omega)) (getD_setEq hrsl : (y.2.2.1.set (plc d.fin.length k x.1 y.1) u.2.2.1).getD (plc d.fin.length k x.1 y.1) undef = u.2.2.1)) trivial rfl ?_
          refine HeldK.first 8 (fuel := 4) (listed' := (lb 13 511)) _ rfl krf krf rfl (Yl.move rfl) trivial rfl ?_
          refine HeldK.one 9 (fuel := 3) (listed' := (lb 13 1023)) krf rfl krf ?_
          refine AK.lit (xs := [.tmp 113]) sl26 el3 rfl rfl rfl (by intro a ha; simp at ha; subst ha; rfl) (by decide) (by decide) trivial rfl (fun lt => ?_)
          refine .nil ?_
          try (conv => enter [2, 2]; dsimp only [List.set_cons_zero, List.set_cons_succ, List.cons_append, List.nil_append])
          refine HeldK.back hle ?_
          refine HeldK.one 10 (fuel := 2) (listed' := (lb 13 2047)) krf rfl krf ?_
          refine AK.appendH 5 rfl sl26 el3 rfl (by decide) rfl rfl rfl (by first | exact rdp | exact .arg (hNi _ (by omega))) oneP (by omega) (by omega) trivial rfl (fun va hva => ?_)
          refine .nil ?_
          try (conv => enter [2, 2]; dsimp only [List.set_cons_zero, List.set_cons_succ, List.cons_append, List.nil_append])
          refine HeldK.back hle ?_
          first | refine HeldK.first 11 (fuel := 1) (listed' := (lb 13 4095)) _ rfl krf krf rfl (.iN sl23 rfl rfl (hr := (by first | exact rdp | exact .arg (hNi _ (by omega))))) trivial rfl ?_ | refine HeldK.first 11 (fuel := 1) (listed' := (lb 13 4095)) _ rfl krf krf rfl (.iK sl23 rfl rfl (hr := (by first | exact rdp | exact .arg (hNi _ (by omega))))) trivial rfl ?_
          refine HeldK.one 12 (fuel := 0) (listed' := (lb 13 8191)) krf rfl krf ?_
          refine AK.store1e 2 rfl sz26 rfl rfl hva.cells hva.one (by omega) (cs' := (y.2.2.1.set (plc d.fin.length k x.1 y.1) va)) (by rw [List.set_set]) trivial ?_
          refine .nil ?_
          try (conv => enter [2, 2]; dsimp only [List.set_cons_zero, List.set_cons_succ, List.cons_append, List.nil_append])
          refine HeldK.backN 13 krf rfl krf ?_
          refine .nil ?_
          refine AK.fromQn ?_
          refine .block_normal ?_
          refine AK.then_ (hK27 _ ?_)
          refine AK.region ?_
          refine .v (.add rfl rfl (by omega)) ?_
          refine .mv rfl (.nil ?_)
          first | refine AK.then_ (hK24 _ _ ((u.1 + 1, u.2.1 + 1, va, u.2.2.2 ++ [(((d.nx.getD x.1 []).getD u.1 0 + (k : Int)) % (d.fin.length : Int))])) ⟨by dsimp only; omega, by dsimp only; omega, hva, by dsimp only; rw [List.length_append, hul]; rfl, snoc_all hg2.2.2.2.2 (by rw [hul]; exact okTo_0 (by omega))⟩ (by dsimp only; omega) (slr) (fun w hw => by dsimp only; rw [List.length_append, List.map_append]; exact hw.pickLe [0, 1, 2, 3, 4, 5] (by decide) pkl)) | refine AK.then_ (hK24 _ _ ((u.1 + 1, u.2.1 + 1, va, u.2.2.2 ++ [((((d.nx.getD x.1 []).getD u.1 0 + (k : Int)) % (d.fin.length : Int)) + (d.fin.length : Int))])) ⟨by dsimp only; omega, by dsimp only; omega, hva, by dsimp only; rw [List.length_append, hul]; rfl, snoc_all hg2.2.2.2.2 (by rw [hul]; exact okTo_1 (by omega))⟩ (by dsimp only; omega) (slr) (fun w hw => by dsimp only; rw [List.length_append, List.map_append]; exact hw.pickLe [0, 1, 2, 3, 4, 5] (by decide) pkl))
        ·refine .exit (.then_exit (.then_exit (.block_exit (.block_normal ?_))))
         refine AK.then_ (hK20 _ ?_)
         refine AK.region ?_
         refine .mv rfl ?_
         refine .v (.add rfl rfl (by omega)) ?_
         refine .as rfl (.nil ?_)
         refine AK.then_ (hK17 _ _ ((y.1 + 1, u.2.1, y.2.2.1.set (plc d.fin.length k x.1 y.1) u.2.2.1, y.2.2.2.1.set (plc d.fin.length k x.1 y.1) u.2.2.2, y.2.2.2.2.set (plc d.fin.length k x.1 y.1) (d.fin.getD x.1 false))) ⟨by dsimp only; omega, by dsimp only; omega, by dsimp only; rw [List.length_set, List.length_set]; exact hg1.2.2.1, doneF_step hg1.2.2.2.1 hk (by omega) (by omega) rfl, doneR_step hg1.2.2.2.2 hk (by omega) (by omega) rfl (by omega) hg2.2.2.2.2⟩ (by dsimp only; omega) (slr) (fun w hw => by dsimp only; rw [← matG_setI hg1.2.2.1 (by rw [hRl]; exact hpl)]; exact HW.putback (own := [_, _, _, empA, _]) (l := matG (Value.int .i64) 3 y.2.2.1 y.2.2.2.1) 3 (plc d.fin.length k x.1 y.1) (show 3 < 5 by decide) (by rw [matG_length hg1.2.2.1, hRl]; exact hpl) hw))
      ·refine .exit (.then_exit (.then_exit (.block_exit (.block_normal ?_))))
       refine AK.then_ (hK14 _ ?_)
       refine AK.region ?_
       refine .v (.add rfl rfl (by omega)) ?_
       refine .mv rfl (.nil ?_)
       refine AK.then_ (hK11 _ _ ((x.1 + 1, y.2)) ⟨by dsimp only; omega, by dsimp only; omega, hg1.2.2.1, (by have e : y.1 = 2 := (by omega); have h := hg1.2.2.2.1; rw [e] at h; exact h), (by have e : y.1 = 2 := (by omega); have h := hg1.2.2.2.2; rw [e] at h; exact h)⟩ (by dsimp only; omega) (slr) (fun w hw => hw))
    ·have hx : x.1 = d.fin.length := by omega
     have hTF := hg0.2.2.2.1
     have hTR := hg0.2.2.2.2
     have hFl := hTF.1
     have hRl := hTR.len
     rw [hx] at hTF hTR
     have hT := done_turned hTF hTR
     have e4 : MinV (⟨d.L, ((d.s + (k : Int)) % (d.fin.length : Int)), x.2.2.2.2, x.2.2.2.1⟩ : Dfa) = minD d := (if_pos (hT.vd hv hk (by omega))).trans (hT.min hv hk (by omega))
     have hmv := min_vd hv
     refine .exit (.then_exit (.then_exit (.block_exit ?_)))
     refine AK.then_ (hK9 _ ?_)
     refine .sr fun _ hK35 => ?_
     refine .v (.loadBoxG ag25 rfl bsp rfl rfl) ?_
     refine AK.call co19 rfl (fun w hw => s_min w _ d (h0.at hw)) trivial rfl ?_
     rintro r o ⟨mF, mN, mrs, rfl, hmrs, smF, smN, rfl⟩
     rw [e1] at hmrs
     rw [e1]
     refine AK.alloc el25 rfl rfl trivial rfl (fun bx17 => ?_)
     refine AK.storeBox 8 (us := [.int .i64 ((minD d)).L, .int .i64 ((minD d)).s, mF, mN]) (cs' := [.int .i64 ((minD d)).L, .int .i64 ((minD d)).s, mF, mN]) rfl sz25 rfl rfl rfl rfl oneP (Nat.le_of_ble_eq_true rfl) rfl trivial ?_
     refine .nt hK35 ?_
     refine .seq fun _ hK36 => ?_
     try (conv => enter [2, 2]; dsimp only [List.set_cons_zero, List.set_cons_succ, List.cons_append, List.nil_append])
     refine AK.held 13 mixed ?_
     refine HeldK.first 0 (fuel := 12) (listed' := (lb 13 1)) _ rfl krf krf rfl (Yl.loadBoxG ag25 rfl bsp rfl rfl) trivial rfl ?_
     refine HeldK.one 1 (fuel := 11) (listed' := (lb 13 3)) krf rfl krf ?_
     refine AK.call co23 rfl (fun w hw => s_validate w _ (minD d) (RdD.own 5 hw hmrs rfl rfl rfl)) trivial rfl ?_
     rintro r o ⟨rfl, rfl⟩
     refine .nil ?_
     try (conv => enter [2, 2]; dsimp only [List.set_cons_zero, List.set_cons_succ, List.cons_append, List.nil_append])
     refine HeldK.back hle ?_
     refine HeldK.first 2 (fuel := 10) (listed' := (lb 13 7)) _ rfl krf krf rfl (Yl.eql rfl rfl) trivial rfl ?_
     refine HeldK.first 3 (fuel := 9) (listed' := (lb 13 15)) _ rfl krf krf rfl (Yl.move rfl) trivial rfl ?_
     refine AK.knownT (g := 124) rfl (decide_eq_true ((errV_iff _).2 hmv)) (fun hg_26_3 => ?_)
     refine HeldK.first 4 (fuel := 8) (listed' := (lb 13 31)) _ rfl krf krf rfl (Yl.loadBoxG ag25 rfl bsp rfl rfl) ⟨_, rfl, congrArg (fun b => some (Value.bool b)) hg_26_3⟩ rfl ?_
     refine HeldK.first 6 (fuel := 7) (listed' := (lb 13 95)) _ rfl krf krf rfl (Yl.loadBoxG ag25 rfl bsp rfl rfl) ⟨_, rfl, congrArg (fun b => some (Value.bool b)) hg_26_3⟩ rfl ?_
     refine HeldK.one 5 (fuel := 6) (listed' := (lb 13 127)) krf rfl krf ?_
     refine AK.call co19 rfl (fun w hw => s_min w _ (⟨d.L, ((d.s + (k : Int)) % (d.fin.length : Int)), x.2.2.2.2, x.2.2.2.1⟩ : Dfa) (RdD.own (d := (⟨d.L, ((d.s + (k : Int)) % (d.fin.length : Int)), x.2.2.2.2, x.2.2.2.1⟩ : Dfa)) 1 hw hg0.2.2.1 (congrArg some (congrArg (fun n => row z.1 4 1 n (x.2.2.2.2.map Value.bool)) hFl.symm)) (congrArg some (congrArg (fun n => row z.2.1 26 1 n x.2.2.1) hRl.symm)) rfl)) ⟨_, rfl, congrArg (fun b => some (Value.bool b)) hg_26_3⟩ rfl ?_
     rintro r o ⟨uF, uN, urs, rfl, hurs, suF, suN, rfl⟩
     rw [e4] at hurs
     rw [e4]
     refine .nil ?_
     try (conv => enter [2, 2]; dsimp only [List.set_cons_zero, List.set_cons_succ, List.cons_append, List.nil_append])
     refine HeldK.back hle ?_
     refine HeldK.one 7 (fuel := 5) (listed' := (lb 13 255)) krf rfl krf ?_
     refine AK.call co20 rfl (fun w hw => s_sameD w _ _ (minD d) (minD d) (RdD.own 9 hw hurs rfl rfl rfl) (RdD.own 5 hw hmrs rfl rfl rfl)) ⟨_, rfl, congrArg (fun b => some (Value.bool b)) hg_26_3⟩ rfl ?_
     rintro r o ⟨rfl, rfl⟩
     refine .nil ?_
     try (conv => enter [2, 2]; dsimp only [List.set_cons_zero, List.set_cons_succ, List.cons_append, List.nil_append])
     refine HeldK.back hle ?_
     refine HeldK.first 8 (fuel := 4) (listed' := (lb 13 511)) _ rfl krf krf rfl (Yl.pickT rfl (hg_26_3) rfl) trivial rfl ?_
     refine HeldK.first 9 (fuel := 3) (listed' := (lb 13 1023)) _ rfl krf krf rfl (Yl.move rfl) trivial rfl ?_
     refine HeldK.one 10 (fuel := 2) (listed' := (lb 13 2047)) krf rfl krf ?_
     refine AK.knownT (g := 130) rfl (decide_eq_true rfl) (fun hg_26_9 => ?_)
     refine AK.call co16 rfl (fun w hw => s_awake w) ⟨_, rfl, congrArg (fun b => some (Value.bool b)) hg_26_9⟩ rfl ?_
     rintro r o ⟨rfl, rfl⟩
     refine .nil ?_
     try (conv => enter [2, 2]; dsimp only [List.set_cons_zero, List.set_cons_succ, List.cons_append, List.nil_append])
     refine HeldK.back hle ?_
     refine HeldK.first 11 (fuel := 1) (listed' := (lb 13 4095)) _ rfl krf krf rfl (Yl.pickT rfl (hg_26_9) rfl) trivial rfl ?_
     refine HeldK.first 12 (fuel := 0) (listed' := (lb 13 8191)) _ rfl krf krf rfl (Yl.assign rfl) trivial rfl ?_
     refine HeldK.done krf ?_
     refine AK.then_ (hK36 _ ?_)
     refine .ret ?_
     refine AK.ret1 rfl rfl (fun w hw => ⟨_, _, ?_, rfl, Ret.of (hw.pick [] (by decide) rfl rfl)⟩)
     exact ⟨rfl, rfl⟩

end Go.Proofs.Ytoikhoniogicdaa
