import Derived.Test.YtaeojcaidcjnaaaXW6
import Derived.Test.YtaeojcaidcjnaaaXRR
set_option linter.unusedVariables false
set_option linter.unusedSimpArgs false
namespace Go.Proofs.Ytaeojcaidcjnaaa
open Go.Sx Go.RowKit
set_option maxHeartbeats 2000000 in
set_option maxRecDepth 100000 in
theorem s_reduce (w : World) (u : Wrd) (hu : Al u) (bf : Nat) (v vn vf : Value) (N : List Wrd) (fl fd : List Int) (m : Nat) (L : Int) (rs : List Rul) (hV : VR L rs) (hF : FinOK (pats (m : Int) rs) N fl fd) (hN : N.length ≤ 4200000) (hbf : BxA w bf [vn, vf]) (hvn : Rd (fun _ => ¬ False) w vn 6 N.length (fl.map (Value.int .i32))) (hvf : Rd (fun _ => ¬ False) w vf 1 N.length (fd.map (Value.int .i32))) (hv : Rd (fun _ => ¬ False) w v 2 rs.length (rlc rs)) (hum : u.length ≤ m) (hm : m ≤ 2048) : CallS Try.prog 39 [.agg #[v, .pointer (some ⟨bf, 0, none⟩)], sv u] w (fun r o => r = .tuple #[sv (redV rs u), .int .i64 (redE rs u)] ∧ o = []) := by
 have hsv := Rd.sl hv
 have hfdl := hF.fdl
 have hul := hu.1
 have hrl : u.reverse.length = u.length := List.length_reverse
 have hll : ∀ k, k < rs.length → (rs.getD k ([], [])).1.length ≤ 2048 ∧ (rs.getD k ([], [])).2.length ≤ 2048 := fun k hk => by have h := hV.v _ (getD_mem (d := ([], [])) hk); exact ⟨(validW_al h.1).1, (validW_al h.2.1).1⟩
 refine spec_of Try.func39 rfl (Nat.le_of_ble_eq_true rfl) ?_
 refine .sr fun _ hK1 => ?_
 refine AK.box_ (E := 62) (cs := [v, .pointer (some ⟨bf, 0, none⟩)]) rfl rfl rfl trivial rfl (fun bx2 => ?_)
 refine .as rfl (.as rfl (.nt hK1 ?_))
 refine .seq fun _ hK2 => ?_
 refine AK.joinK (X := Value × Value × Nat) [(1, _), (2, _)] (fun z => [(6, .pointer (some ⟨z.2.2, 0, none⟩))]) (fun z => [box bx2 62 2 [v, .pointer (some ⟨bf, 0, none⟩)], rowZ z.1 5 u.reverse.length (u.reverse.map byv), row z.2.1 21 1 u.length (List.replicate u.length (.int .i32 0)), box z.2.2 91 2 [z.1, z.2.1]]) (fun z => IsSl z.1 ∧ IsSl z.2.1) slr (fun _ hJ => ?_) (fun z hg => ?_)
 ·try (conv => enter [2, 2]; dsimp only [List.set_cons_zero, List.set_cons_succ, List.cons_append, List.nil_append])
  refine AK.held 8 mixed ?_
  refine HeldK.first 0 (fuel := 8) (listed' := (lb 9 1)) _ rfl krf krf rfl (Yl.move rfl) trivial rfl ?_
  refine HeldK.first 3 (fuel := 7) (listed' := (lb 9 9)) _ rfl krf krf rfl (Yl.move rfl) trivial rfl ?_
  refine HeldK.first 4 (fuel := 6) (listed' := (lb 9 25)) _ rfl krf krf rfl (Yl.lenS un9 rfl) trivial rfl ?_
  refine HeldK.three 1 5 7 (fuel := 5) (listed1 := (lb 9 27)) (listed2 := (lb 9 57)) (listed3 := (lb 9 153)) krf rfl rfl rfl krf krf krf ?_ ?_ ?_
  ·refine AK.call co53 rfl (fun w hw => s_reverse w u (by omega)) trivial rfl ?_
   rintro r o ⟨rfl, rfl⟩
   refine .nil ?_
   try (conv => enter [2, 2]; dsimp only [List.set_cons_zero, List.set_cons_succ, List.cons_append, List.nil_append])
   refine HeldK.back Go.Sx.hle ?_
   refine HeldK.three 2 5 7 (fuel := 4) (listed1 := (lb 9 31)) (listed2 := (lb 9 59)) (listed3 := (lb 9 155)) krf rfl rfl rfl krf krf krf ?_ ?_ ?_
   ·refine AK.toBytes un9 sl78.1 un5 rfl (by omega) trivial rfl (fun bz => ?_)
    first | refine AK.shapeZ (v := bz) 1 rfl (fun sbz => ?_) | refine AK.shapeZ (v := bz) 2 rfl (fun sbz => ?_) | refine AK.shapeZ (v := bz) 3 rfl (fun sbz => ?_)
    refine .nil ?_
    try (conv => enter [2, 2]; dsimp only [List.set_cons_zero, List.set_cons_succ, List.cons_append, List.nil_append])
    refine HeldK.back Go.Sx.hle ?_
    refine HeldK.two 5 7 (fuel := 3) (listed1 := (lb 9 63)) (listed2 := (lb 9 159)) krf rfl rfl krf krf ?_ ?_
    ·refine AK.make1 (n := u.length) sl70 el21 rfl rfl rfl (by omega) (by omega) trivial rfl (fun mv0 => ?_)
     first | refine AK.shape (v := mv0) 1 rfl (fun smv0 => ?_) | refine AK.shape (v := mv0) 2 rfl (fun smv0 => ?_) | refine AK.shape (v := mv0) 3 rfl (fun smv0 => ?_)
     refine .nil ?_
     try (conv => enter [2, 2]; dsimp only [List.set_cons_zero, List.set_cons_succ, List.cons_append, List.nil_append])
     refine HeldK.back Go.Sx.hle ?_
     refine HeldK.first 6 (fuel := 2) (listed' := (lb 9 127)) _ rfl krf krf rfl (Yl.build (parts := [(0, .tmp 11), (1, .tmp 14)]) (cs := #[bz, mv0]) rfl (by obtain ⟨_, _, _, rfl⟩ := sbz; obtain ⟨_, _, _, rfl⟩ := smv0; kernel_rfl)) trivial rfl ?_
     refine HeldK.one 7 (fuel := 1) (listed' := (lb 9 255)) krf rfl krf ?_
     refine AK.alloc el91 rfl rfl trivial rfl (fun bx6 => ?_)
     refine .nil ?_
     try (conv => enter [2, 2]; dsimp only [List.set_cons_zero, List.set_cons_succ, List.cons_append, List.nil_append])
     refine HeldK.back Go.Sx.hle ?_
     refine HeldK.one 8 (fuel := 0) (listed' := (lb 9 511)) krf rfl krf ?_
     first | refine AK.storeBox 1 (us := [bz, mv0]) (cs' := [bz, mv0]) rfl sz91 rfl rfl rfl rfl oneP (Nat.le_of_ble_eq_true rfl) rfl trivial ?_ | refine AK.storeBox 2 (us := [bz, mv0]) (cs' := [bz, mv0]) rfl sz91 rfl rfl rfl rfl oneP (Nat.le_of_ble_eq_true rfl) rfl trivial ?_ | refine AK.storeBox 3 (us := [bz, mv0]) (cs' := [bz, mv0]) rfl sz91 rfl rfl rfl rfl oneP (Nat.le_of_ble_eq_true rfl) rfl trivial ?_
     refine .nil ?_
     try (conv => enter [2, 2]; dsimp only [List.set_cons_zero, List.set_cons_succ, List.cons_append, List.nil_append])
     refine HeldK.backN 9 krf rfl krf ?_
     refine .nil ?_
     refine AK.fromQn ?_
     exact hJ _ _ ((bz, mv0, bx6)) ⟨sbz, smv0⟩ (slr) (fun w hw => by first | exact hw.pickLe [0, 1, 2, 3] (by decide) pkl | exact hw.pickLe [0, 1, 3, 2] (by decide) pkl | exact hw.pickLe [0, 2, 1, 3] (by decide) pkl | exact hw.pickLe [0, 2, 3, 1] (by decide) pkl | exact hw.pickLe [0, 3, 1, 2] (by decide) pkl | exact hw.pickLe [0, 3, 2, 1] (by decide) pkl)
    ·refine AK.alloc el91 rfl rfl trivial rfl (fun bx6 => ?_)
     refine .nil ?_
     try (conv => enter [2, 2]; dsimp only [List.set_cons_zero, List.set_cons_succ, List.cons_append, List.nil_append])
     refine HeldK.back Go.Sx.hle ?_
     refine HeldK.one 5 (fuel := 2) (listed' := (lb 9 191)) krf rfl krf ?_
     refine AK.make1 (n := u.length) sl70 el21 rfl rfl rfl (by omega) (by omega) trivial rfl (fun mv0 => ?_)
     first | refine AK.shape (v := mv0) 1 rfl (fun smv0 => ?_) | refine AK.shape (v := mv0) 2 rfl (fun smv0 => ?_) | refine AK.shape (v := mv0) 3 rfl (fun smv0 => ?_)
     refine .nil ?_
     try (conv => enter [2, 2]; dsimp only [List.set_cons_zero, List.set_cons_succ, List.cons_append, List.nil_append])
     refine HeldK.back Go.Sx.hle ?_
     refine HeldK.first 6 (fuel := 1) (listed' := (lb 9 255)) _ rfl krf krf rfl (Yl.build (parts := [(0, .tmp 11), (1, .tmp 14)]) (cs := #[bz, mv0]) rfl (by obtain ⟨_, _, _, rfl⟩ := sbz; obtain ⟨_, _, _, rfl⟩ := smv0; kernel_rfl)) trivial rfl ?_
     refine HeldK.one 8 (fuel := 0) (listed' := (lb 9 511)) krf rfl krf ?_
     first | refine AK.storeBox 1 (us := [bz, mv0]) (cs' := [bz, mv0]) rfl sz91 rfl rfl rfl rfl oneP (Nat.le_of_ble_eq_true rfl) rfl trivial ?_ | refine AK.storeBox 2 (us := [bz, mv0]) (cs' := [bz, mv0]) rfl sz91 rfl rfl rfl rfl oneP (Nat.le_of_ble_eq_true rfl) rfl trivial ?_ | refine AK.storeBox 3 (us := [bz, mv0]) (cs' := [bz, mv0]) rfl sz91 rfl rfl rfl rfl oneP (Nat.le_of_ble_eq_true rfl) rfl trivial ?_
     refine .nil ?_
     try (conv => enter [2, 2]; dsimp only [List.set_cons_zero, List.set_cons_succ, List.cons_append, List.nil_append])
     refine HeldK.backN 9 krf rfl krf ?_
     refine .nil ?_
     refine AK.fromQn ?_
     exact hJ _ _ ((bz, mv0, bx6)) ⟨sbz, smv0⟩ (slr) (fun w hw => by first | exact hw.pickLe [0, 1, 2, 3] (by decide) pkl | exact hw.pickLe [0, 1, 3, 2] (by decide) pkl | exact hw.pickLe [0, 2, 1, 3] (by decide) pkl | exact hw.pickLe [0, 2, 3, 1] (by decide) pkl | exact hw.pickLe [0, 3, 1, 2] (by decide) pkl | exact hw.pickLe [0, 3, 2, 1] (by decide) pkl)
   ·refine AK.make1 (n := u.length) sl70 el21 rfl rfl rfl (by omega) (by omega) trivial rfl (fun mv0 => ?_)
    first | refine AK.shape (v := mv0) 1 rfl (fun smv0 => ?_) | refine AK.shape (v := mv0) 2 rfl (fun smv0 => ?_) | refine AK.shape (v := mv0) 3 rfl (fun smv0 => ?_)
    refine .nil ?_
    try (conv => enter [2, 2]; dsimp only [List.set_cons_zero, List.set_cons_succ, List.cons_append, List.nil_append])
    refine HeldK.back Go.Sx.hle ?_
    refine HeldK.two 2 7 (fuel := 3) (listed1 := (lb 9 63)) (listed2 := (lb 9 187)) krf rfl rfl krf krf ?_ ?_
    ·refine AK.toBytes un9 sl78.1 un5 rfl (by omega) trivial rfl (fun bz => ?_)
     first | refine AK.shapeZ (v := bz) 1 rfl (fun sbz => ?_) | refine AK.shapeZ (v := bz) 2 rfl (fun sbz => ?_) | refine AK.shapeZ (v := bz) 3 rfl (fun sbz => ?_)
     refine .nil ?_
     try (conv => enter [2, 2]; dsimp only [List.set_cons_zero, List.set_cons_succ, List.cons_append, List.nil_append])
     refine HeldK.back Go.Sx.hle ?_
     refine HeldK.first 6 (fuel := 2) (listed' := (lb 9 127)) _ rfl krf krf rfl (Yl.build (parts := [(0, .tmp 11), (1, .tmp 14)]) (cs := #[bz, mv0]) rfl (by obtain ⟨_, _, _, rfl⟩ := sbz; obtain ⟨_, _, _, rfl⟩ := smv0; kernel_rfl)) trivial rfl ?_
     refine HeldK.one 7 (fuel := 1) (listed' := (lb 9 255)) krf rfl krf ?_
     refine AK.alloc el91 rfl rfl trivial rfl (fun bx6 => ?_)
     refine .nil ?_
     try (conv => enter [2, 2]; dsimp only [List.set_cons_zero, List.set_cons_succ, List.cons_append, List.nil_append])
     refine HeldK.back Go.Sx.hle ?_
     refine HeldK.one 8 (fuel := 0) (listed' := (lb 9 511)) krf rfl krf ?_
     first | refine AK.storeBox 1 (us := [bz, mv0]) (cs' := [bz, mv0]) rfl sz91 rfl rfl rfl rfl oneP (Nat.le_of_ble_eq_true rfl) rfl trivial ?_ | refine AK.storeBox 2 (us := [bz, mv0]) (cs' := [bz, mv0]) rfl sz91 rfl rfl rfl rfl oneP (Nat.le_of_ble_eq_true rfl) rfl trivial ?_ | refine AK.storeBox 3 (us := [bz, mv0]) (cs' := [bz, mv0]) rfl sz91 rfl rfl rfl rfl oneP (Nat.le_of_ble_eq_true rfl) rfl trivial ?_
     refine .nil ?_
     try (conv => enter [2, 2]; dsimp only [List.set_cons_zero, List.set_cons_succ, List.cons_append, List.nil_append])
     refine HeldK.backN 9 krf rfl krf ?_
     refine .nil ?_
     refine AK.fromQn ?_
     exact hJ _ _ ((bz, mv0, bx6)) ⟨sbz, smv0⟩ (slr) (fun w hw => by first | exact hw.pickLe [0, 1, 2, 3] (by decide) pkl | exact hw.pickLe [0, 1, 3, 2] (by decide) pkl | exact hw.pickLe [0, 2, 1, 3] (by decide) pkl | exact hw.pickLe [0, 2, 3, 1] (by decide) pkl | exact hw.pickLe [0, 3, 1, 2] (by decide) pkl | exact hw.pickLe [0, 3, 2, 1] (by decide) pkl)
    ·refine AK.alloc el91 rfl rfl trivial rfl (fun bx6 => ?_)
     refine .nil ?_
     try (conv => enter [2, 2]; dsimp only [List.set_cons_zero, List.set_cons_succ, List.cons_append, List.nil_append])
     refine HeldK.back Go.Sx.hle ?_
     refine HeldK.one 2 (fuel := 2) (listed' := (lb 9 191)) krf rfl krf ?_
     refine AK.toBytes un9 sl78.1 un5 rfl (by omega) trivial rfl (fun bz => ?_)
     first | refine AK.shapeZ (v := bz) 1 rfl (fun sbz => ?_) | refine AK.shapeZ (v := bz) 2 rfl (fun sbz => ?_) | refine AK.shapeZ (v := bz) 3 rfl (fun sbz => ?_)
     refine .nil ?_
     try (conv => enter [2, 2]; dsimp only [List.set_cons_zero, List.set_cons_succ, List.cons_append, List.nil_append])
     refine HeldK.back Go.Sx.hle ?_
     refine HeldK.first 6 (fuel := 1) (listed' := (lb 9 255)) _ rfl krf krf rfl (Yl.build (parts := [(0, .tmp 11), (1, .tmp 14)]) (cs := #[bz, mv0]) rfl (by obtain ⟨_, _, _, rfl⟩ := sbz; obtain ⟨_, _, _, rfl⟩ := smv0; kernel_rfl)) trivial rfl ?_
     refine HeldK.one 8 (fuel := 0) (listed' := (lb 9 511)) krf rfl krf ?_
     first | refine AK.storeBox 1 (us := [bz, mv0]) (cs' := [bz, mv0]) rfl sz91 rfl rfl rfl rfl oneP (Nat.le_of_ble_eq_true rfl) rfl trivial ?_ | refine AK.storeBox 2 (us := [bz, mv0]) (cs' := [bz, mv0]) rfl sz91 rfl rfl rfl rfl oneP (Nat.le_of_ble_eq_true rfl) rfl trivial ?_ | refine AK.storeBox 3 (us := [bz, mv0]) (cs' := [bz, mv0]) rfl sz91 rfl rfl rfl rfl oneP (Nat.le_of_ble_eq_true rfl) rfl trivial ?_
     refine .nil ?_
     try (conv => enter [2, 2]; dsimp only [List.set_cons_zero, List.set_cons_succ, List.cons_append, List.nil_append])
     refine HeldK.backN 9 krf rfl krf ?_
     refine .nil ?_
     refine AK.fromQn ?_
     exact hJ _ _ ((bz, mv0, bx6)) ⟨sbz, smv0⟩ (slr) (fun w hw => by first | exact hw.pickLe [0, 1, 2, 3] (by decide) pkl | exact hw.pickLe [0, 1, 3, 2] (by decide) pkl | exact hw.pickLe [0, 2, 1, 3] (by decide) pkl | exact hw.pickLe [0, 2, 3, 1] (by decide) pkl | exact hw.pickLe [0, 3, 1, 2] (by decide) pkl | exact hw.pickLe [0, 3, 2, 1] (by decide) pkl)
   ·refine AK.alloc el91 rfl rfl trivial rfl (fun bx6 => ?_)
    refine .nil ?_
    try (conv => enter [2, 2]; dsimp only [List.set_cons_zero, List.set_cons_succ, List.cons_append, List.nil_append])
    refine HeldK.back Go.Sx.hle ?_
    refine HeldK.two 2 5 (fuel := 3) (listed1 := (lb 9 159)) (listed2 := (lb 9 187)) krf rfl rfl krf krf ?_ ?_
    ·refine AK.toBytes un9 sl78.1 un5 rfl (by omega) trivial rfl (fun bz => ?_)
     first | refine AK.shapeZ (v := bz) 1 rfl (fun sbz => ?_) | refine AK.shapeZ (v := bz) 2 rfl (fun sbz => ?_) | refine AK.shapeZ (v := bz) 3 rfl (fun sbz => ?_)
     refine .nil ?_
     try (conv => enter [2, 2]; dsimp only [List.set_cons_zero, List.set_cons_succ, List.cons_append, List.nil_append])
     refine HeldK.back Go.Sx.hle ?_
     refine HeldK.one 5 (fuel := 2) (listed' := (lb 9 191)) krf rfl krf ?_
     refine AK.make1 (n := u.length) sl70 el21 rfl rfl rfl (by omega) (by omega) trivial rfl (fun mv0 => ?_)
     first | refine AK.shape (v := mv0) 1 rfl (fun smv0 => ?_) | refine AK.shape (v := mv0) 2 rfl (fun smv0 => ?_) | refine AK.shape (v := mv0) 3 rfl (fun smv0 => ?_)
     refine .nil ?_
     try (conv => enter [2, 2]; dsimp only [List.set_cons_zero, List.set_cons_succ, List.cons_append, List.nil_append])
     refine HeldK.back Go.Sx.hle ?_
     refine HeldK.first 6 (fuel := 1) (listed' := (lb 9 255)) _ rfl krf krf rfl (Yl.build (parts := [(0, .tmp 11), (1, .tmp 14)]) (cs := #[bz, mv0]) rfl (by obtain ⟨_, _, _, rfl⟩ := sbz; obtain ⟨_, _, _, rfl⟩ := smv0; kernel_rfl)) trivial rfl ?_
     refine HeldK.one 8 (fuel := 0) (listed' := (lb 9 511)) krf rfl krf ?_
     first | refine AK.storeBox 1 (us := [bz, mv0]) (cs' := [bz, mv0]) rfl sz91 rfl rfl rfl rfl oneP (Nat.le_of_ble_eq_true rfl) rfl trivial ?_ | refine AK.storeBox 2 (us := [bz, mv0]) (cs' := [bz, mv0]) rfl sz91 rfl rfl rfl rfl oneP (Nat.le_of_ble_eq_true rfl) rfl trivial ?_ | refine AK.storeBox 3 (us := [bz, mv0]) (cs' := [bz, mv0]) rfl sz91 rfl rfl rfl rfl oneP (Nat.le_of_ble_eq_true rfl) rfl trivial ?_
     refine .nil ?_
     try (conv => enter [2, 2]; dsimp only [List.set_cons_zero, List.set_cons_succ, List.cons_append, List.nil_append])
     refine HeldK.backN 9 krf rfl krf ?_
     refine .nil ?_
     refine AK.fromQn ?_
     exact hJ _ _ ((bz, mv0, bx6)) ⟨sbz, smv0⟩ (slr) (fun w hw => by first | exact hw.pickLe [0, 1, 2, 3] (by decide) pkl | exact hw.pickLe [0, 1, 3, 2] (by decide) pkl | exact hw.pickLe [0, 2, 1, 3] (by decide) pkl | exact hw.pickLe [0, 2, 3, 1] (by decide) pkl | exact hw.pickLe [0, 3, 1, 2] (by decide) pkl | exact hw.pickLe [0, 3, 2, 1] (by decide) pkl)
    ·refine AK.make1 (n := u.length) sl70 el21 rfl rfl rfl (by omega) (by omega) trivial rfl (fun mv0 => ?_)
     first | refine AK.shape (v := mv0) 1 rfl (fun smv0 => ?_) | refine AK.shape (v := mv0) 2 rfl (fun smv0 => ?_) | refine AK.shape (v := mv0) 3 rfl (fun smv0 => ?_)
     refine .nil ?_
     try (conv => enter [2, 2]; dsimp only [List.set_cons_zero, List.set_cons_succ, List.cons_append, List.nil_append])
     refine HeldK.back Go.Sx.hle ?_
     refine HeldK.one 2 (fuel := 2) (listed' := (lb 9 191)) krf rfl krf ?_
     refine AK.toBytes un9 sl78.1 un5 rfl (by omega) trivial rfl (fun bz => ?_)
     first | refine AK.shapeZ (v := bz) 1 rfl (fun sbz => ?_) | refine AK.shapeZ (v := bz) 2 rfl (fun sbz => ?_) | refine AK.shapeZ (v := bz) 3 rfl (fun sbz => ?_)
     refine .nil ?_
     try (conv => enter [2, 2]; dsimp only [List.set_cons_zero, List.set_cons_succ, List.cons_append, List.nil_append])
     refine HeldK.back Go.Sx.hle ?_
     refine HeldK.first 6 (fuel := 1) (listed' := (lb 9 255)) _ rfl krf krf rfl (Yl.build (parts := [(0, .tmp 11), (1, .tmp 14)]) (cs := #[bz, mv0]) rfl (by obtain ⟨_, _, _, rfl⟩ := sbz; obtain ⟨_, _, _, rfl⟩ := smv0; kernel_rfl)) trivial rfl ?_
     refine HeldK.one 8 (fuel := 0) (listed' := (lb 9 511)) krf rfl krf ?_
     first | refine AK.storeBox 1 (us := [bz, mv0]) (cs' := [bz, mv0]) rfl sz91 rfl rfl rfl rfl oneP (Nat.le_of_ble_eq_true rfl) rfl trivial ?_ | refine AK.storeBox 2 (us := [bz, mv0]) (cs' := [bz, mv0]) rfl sz91 rfl rfl rfl rfl oneP (Nat.le_of_ble_eq_true rfl) rfl trivial ?_ | refine AK.storeBox 3 (us := [bz, mv0]) (cs' := [bz, mv0]) rfl sz91 rfl rfl rfl rfl oneP (Nat.le_of_ble_eq_true rfl) rfl trivial ?_
     refine .nil ?_
     try (conv => enter [2, 2]; dsimp only [List.set_cons_zero, List.set_cons_succ, List.cons_append, List.nil_append])
     refine HeldK.backN 9 krf rfl krf ?_
     refine .nil ?_
     refine AK.fromQn ?_
     exact hJ _ _ ((bz, mv0, bx6)) ⟨sbz, smv0⟩ (slr) (fun w hw => by first | exact hw.pickLe [0, 1, 2, 3] (by decide) pkl | exact hw.pickLe [0, 1, 3, 2] (by decide) pkl | exact hw.pickLe [0, 2, 1, 3] (by decide) pkl | exact hw.pickLe [0, 2, 3, 1] (by decide) pkl | exact hw.pickLe [0, 3, 1, 2] (by decide) pkl | exact hw.pickLe [0, 3, 2, 1] (by decide) pkl)
  ·refine AK.make1 (n := u.length) sl70 el21 rfl rfl rfl (by omega) (by omega) trivial rfl (fun mv0 => ?_)
   first | refine AK.shape (v := mv0) 1 rfl (fun smv0 => ?_) | refine AK.shape (v := mv0) 2 rfl (fun smv0 => ?_) | refine AK.shape (v := mv0) 3 rfl (fun smv0 => ?_)
   refine .nil ?_
   try (conv => enter [2, 2]; dsimp only [List.set_cons_zero, List.set_cons_succ, List.cons_append, List.nil_append])
   refine HeldK.back Go.Sx.hle ?_
   refine HeldK.two 1 7 (fuel := 4) (listed1 := (lb 9 59)) (listed2 := (lb 9 185)) krf rfl rfl krf krf ?_ ?_
   ·refine AK.call co53 rfl (fun w hw => s_reverse w u (by omega)) trivial rfl ?_
    rintro r o ⟨rfl, rfl⟩
    refine .nil ?_
    try (conv => enter [2, 2]; dsimp only [List.set_cons_zero, List.set_cons_succ, List.cons_append, List.nil_append])
    refine HeldK.back Go.Sx.hle ?_
    refine HeldK.two 2 7 (fuel := 3) (listed1 := (lb 9 63)) (listed2 := (lb 9 187)) krf rfl rfl krf krf ?_ ?_
    ·refine AK.toBytes un9 sl78.1 un5 rfl (by omega) trivial rfl (fun bz => ?_)
     first | refine AK.shapeZ (v := bz) 1 rfl (fun sbz => ?_) | refine AK.shapeZ (v := bz) 2 rfl (fun sbz => ?_) | refine AK.shapeZ (v := bz) 3 rfl (fun sbz => ?_)
     refine .nil ?_
     try (conv => enter [2, 2]; dsimp only [List.set_cons_zero, List.set_cons_succ, List.cons_append, List.nil_append])
     refine HeldK.back Go.Sx.hle ?_
     refine HeldK.first 6 (fuel := 2) (listed' := (lb 9 127)) _ rfl krf krf rfl (Yl.build (parts := [(0, .tmp 11), (1, .tmp 14)]) (cs := #[bz, mv0]) rfl (by obtain ⟨_, _, _, rfl⟩ := sbz; obtain ⟨_, _, _, rfl⟩ := smv0; kernel_rfl)) trivial rfl ?_
     refine HeldK.one 7 (fuel := 1) (listed' := (lb 9 255)) krf rfl krf ?_
     refine AK.alloc el91 rfl rfl trivial rfl (fun bx6 => ?_)
     refine .nil ?_
     try (conv => enter [2, 2]; dsimp only [List.set_cons_zero, List.set_cons_succ, List.cons_append, List.nil_append])
     refine HeldK.back Go.Sx.hle ?_
     refine HeldK.one 8 (fuel := 0) (listed' := (lb 9 511)) krf rfl krf ?_
     first | refine AK.storeBox 1 (us := [bz, mv0]) (cs' := [bz, mv0]) rfl sz91 rfl rfl rfl rfl oneP (Nat.le_of_ble_eq_true rfl) rfl trivial ?_ | refine AK.storeBox 2 (us := [bz, mv0]) (cs' := [bz, mv0]) rfl sz91 rfl rfl rfl rfl oneP (Nat.le_of_ble_eq_true rfl) rfl trivial ?_ | refine AK.storeBox 3 (us := [bz, mv0]) (cs' := [bz, mv0]) rfl sz91 rfl rfl rfl rfl oneP (Nat.le_of_ble_eq_true rfl) rfl trivial ?_
     refine .nil ?_
     try (conv => enter [2, 2]; dsimp only [List.set_cons_zero, List.set_cons_succ, List.cons_append, List.nil_append])
     refine HeldK.backN 9 krf rfl krf ?_
     refine .nil ?_
     refine AK.fromQn ?_
     exact hJ _ _ ((bz, mv0, bx6)) ⟨sbz, smv0⟩ (slr) (fun w hw => by first | exact hw.pickLe [0, 1, 2, 3] (by decide) pkl | exact hw.pickLe [0, 1, 3, 2] (by decide) pkl | exact hw.pickLe [0, 2, 1, 3] (by decide) pkl | exact hw.pickLe [0, 2, 3, 1] (by decide) pkl | exact hw.pickLe [0, 3, 1, 2] (by decide) pkl | exact hw.pickLe [0, 3, 2, 1] (by decide) pkl)
    ·refine AK.alloc el91 rfl rfl trivial rfl (fun bx6 => ?_)
     refine .nil ?_
     try (conv => enter [2, 2]; dsimp only [List.set_cons_zero, List.set_cons_succ, List.cons_append, List.nil_append])
     refine HeldK.back Go.Sx.hle ?_
     refine HeldK.one 2 (fuel := 2) (listed' := (lb 9 191)) krf rfl krf ?_
     refine AK.toBytes un9 sl78.1 un5 rfl (by omega) trivial rfl (fun bz => ?_)
     first | refine AK.shapeZ (v := bz) 1 rfl (fun sbz => ?_) | refine AK.shapeZ (v := bz) 2 rfl (fun sbz => ?_) | refine AK.shapeZ (v := bz) 3 rfl (fun sbz => ?_)
     refine .nil ?_
     try (conv => enter [2, 2]; dsimp only [List.set_cons_zero, List.set_cons_succ, List.cons_append, List.nil_append])
     refine HeldK.back Go.Sx.hle ?_
     refine HeldK.first 6 (fuel := 1) (listed' := (lb 9 255)) _ rfl krf krf rfl (Yl.build (parts := [(0, .tmp 11), (1, .tmp 14)]) (cs := #[bz, mv0]) rfl (by obtain ⟨_, _, _, rfl⟩ := sbz; obtain ⟨_, _, _, rfl⟩ := smv0; kernel_rfl)) trivial rfl ?_
     refine HeldK.one 8 (fuel := 0) (listed' := (lb 9 511)) krf rfl krf ?_
     first | refine AK.storeBox 1 (us := [bz, mv0]) (cs' := [bz, mv0]) rfl sz91 rfl rfl rfl rfl oneP (Nat.le_of_ble_eq_true rfl) rfl trivial ?_ | refine AK.storeBox 2 (us := [bz, mv0]) (cs' := [bz, mv0]) rfl sz91 rfl rfl rfl rfl oneP (Nat.le_of_ble_eq_true rfl) rfl trivial ?_ | refine AK.storeBox 3 (us := [bz, mv0]) (cs' := [bz, mv0]) rfl sz91 rfl rfl rfl rfl oneP (Nat.le_of_ble_eq_true rfl) rfl trivial ?_
     refine .nil ?_
     try (conv => enter [2, 2]; dsimp only [List.set_cons_zero, List.set_cons_succ, List.cons_append, List.nil_append])
     refine HeldK.backN 9 krf rfl krf ?_
     refine .nil ?_
     refine AK.fromQn ?_
     exact hJ _ _ ((bz, mv0, bx6)) ⟨sbz, smv0⟩ (slr) (fun w hw => by first | exact hw.pickLe [0, 1, 2, 3] (by decide) pkl | exact hw.pickLe [0, 1, 3, 2] (by decide) pkl | exact hw.pickLe [0, 2, 1, 3] (by decide) pkl | exact hw.pickLe [0, 2, 3, 1] (by decide) pkl | exact hw.pickLe [0, 3, 1, 2] (by decide) pkl | exact hw.pickLe [0, 3, 2, 1] (by decide) pkl)
   ·refine AK.alloc el91 rfl rfl trivial rfl (fun bx6 => ?_)
    refine .nil ?_
    try (conv => enter [2, 2]; dsimp only [List.set_cons_zero, List.set_cons_succ, List.cons_append, List.nil_append])
    refine HeldK.back Go.Sx.hle ?_
    refine HeldK.one 1 (fuel := 3) (listed' := (lb 9 187)) krf rfl krf ?_
    refine AK.call co53 rfl (fun w hw => s_reverse w u (by omega)) trivial rfl ?_
    rintro r o ⟨rfl, rfl⟩
    refine .nil ?_
    try (conv => enter [2, 2]; dsimp only [List.set_cons_zero, List.set_cons_succ, List.cons_append, List.nil_append])
    refine HeldK.back Go.Sx.hle ?_
    refine HeldK.one 2 (fuel := 2) (listed' := (lb 9 191)) krf rfl krf ?_
    refine AK.toBytes un9 sl78.1 un5 rfl (by omega) trivial rfl (fun bz => ?_)
    first | refine AK.shapeZ (v := bz) 1 rfl (fun sbz => ?_) | refine AK.shapeZ (v := bz) 2 rfl (fun sbz => ?_) | refine AK.shapeZ (v := bz) 3 rfl (fun sbz => ?_)
    refine .nil ?_
    try (conv => enter [2, 2]; dsimp only [List.set_cons_zero, List.set_cons_succ, List.cons_append, List.nil_append])
    refine HeldK.back Go.Sx.hle ?_
    refine HeldK.first 6 (fuel := 1) (listed' := (lb 9 255)) _ rfl krf krf rfl (Yl.build (parts := [(0, .tmp 11), (1, .tmp 14)]) (cs := #[bz, mv0]) rfl (by obtain ⟨_, _, _, rfl⟩ := sbz; obtain ⟨_, _, _, rfl⟩ := smv0; kernel_rfl)) trivial rfl ?_
    refine HeldK.one 8 (fuel := 0) (listed' := (lb 9 511)) krf rfl krf ?_
    first | refine AK.storeBox 1 (us := [bz, mv0]) (cs' := [bz, mv0]) rfl sz91 rfl rfl rfl rfl oneP (Nat.le_of_ble_eq_true rfl) rfl trivial ?_ | refine AK.storeBox 2 (us := [bz, mv0]) (cs' := [bz, mv0]) rfl sz91 rfl rfl rfl rfl oneP (Nat.le_of_ble_eq_true rfl) rfl trivial ?_ | refine AK.storeBox 3 (us := [bz, mv0]) (cs' := [bz, mv0]) rfl sz91 rfl rfl rfl rfl oneP (Nat.le_of_ble_eq_true rfl) rfl trivial ?_
    refine .nil ?_
    try (conv => enter [2, 2]; dsimp only [List.set_cons_zero, List.set_cons_succ, List.cons_append, List.nil_append])
    refine HeldK.backN 9 krf rfl krf ?_
    refine .nil ?_
    refine AK.fromQn ?_
    exact hJ _ _ ((bz, mv0, bx6)) ⟨sbz, smv0⟩ (slr) (fun w hw => by first | exact hw.pickLe [0, 1, 2, 3] (by decide) pkl | exact hw.pickLe [0, 1, 3, 2] (by decide) pkl | exact hw.pickLe [0, 2, 1, 3] (by decide) pkl | exact hw.pickLe [0, 2, 3, 1] (by decide) pkl | exact hw.pickLe [0, 3, 1, 2] (by decide) pkl | exact hw.pickLe [0, 3, 2, 1] (by decide) pkl)
  ·refine AK.alloc el91 rfl rfl trivial rfl (fun bx6 => ?_)
   refine .nil ?_
   try (conv => enter [2, 2]; dsimp only [List.set_cons_zero, List.set_cons_succ, List.cons_append, List.nil_append])
   refine HeldK.back Go.Sx.hle ?_
   refine HeldK.two 1 5 (fuel := 4) (listed1 := (lb 9 155)) (listed2 := (lb 9 185)) krf rfl rfl krf krf ?_ ?_
   ·refine AK.call co53 rfl (fun w hw => s_reverse w u (by omega)) trivial rfl ?_
    rintro r o ⟨rfl, rfl⟩
    refine .nil ?_
    try (conv => enter [2, 2]; dsimp only [List.set_cons_zero, List.set_cons_succ, List.cons_append, List.nil_append])
    refine HeldK.back Go.Sx.hle ?_
    refine HeldK.two 2 5 (fuel := 3) (listed1 := (lb 9 159)) (listed2 := (lb 9 187)) krf rfl rfl krf krf ?_ ?_
    ·refine AK.toBytes un9 sl78.1 un5 rfl (by omega) trivial rfl (fun bz => ?_)
     first | refine AK.shapeZ (v := bz) 1 rfl (fun sbz => ?_) | refine AK.shapeZ (v := bz) 2 rfl (fun sbz => ?_) | refine AK.shapeZ (v := bz) 3 rfl (fun sbz => ?_)
     refine .nil ?_
     try (conv => enter [2, 2]; dsimp only [List.set_cons_zero, List.set_cons_succ, List.cons_append, List.nil_append])
     refine HeldK.back Go.Sx.hle ?_
     refine HeldK.one 5 (fuel := 2) (listed' := (lb 9 191)) krf rfl krf ?_
     refine AK.make1 (n := u.length) sl70 el21 rfl rfl rfl (by omega) (by omega) trivial rfl (fun mv0 => ?_)
     first | refine AK.shape (v := mv0) 1 rfl (fun smv0 => ?_) | refine AK.shape (v := mv0) 2 rfl (fun smv0 => ?_) | refine AK.shape (v := mv0) 3 rfl (fun smv0 => ?_)
     refine .nil ?_
     try (conv => enter [2, 2]; dsimp only [List.set_cons_zero, List.set_cons_succ, List.cons_append, List.nil_append])
     refine HeldK.back Go.Sx.hle ?_
     refine HeldK.first 6 (fuel := 1) (listed' := (lb 9 255)) _ rfl krf krf rfl (Yl.build (parts := [(0, .tmp 11), (1, .tmp 14)]) (cs := #[bz, mv0]) rfl (by obtain ⟨_, _, _, rfl⟩ := sbz; obtain ⟨_, _, _, rfl⟩ := smv0; kernel_rfl)) trivial rfl ?_
     refine HeldK.one 8 (fuel := 0) (listed' := (lb 9 511)) krf rfl krf ?_
     first | refine AK.storeBox 1 (us := [bz, mv0]) (cs' := [bz, mv0]) rfl sz91 rfl rfl rfl rfl oneP (Nat.le_of_ble_eq_true rfl) rfl trivial ?_ | refine AK.storeBox 2 (us := [bz, mv0]) (cs' := [bz, mv0]) rfl sz91 rfl rfl rfl rfl oneP (Nat.le_of_ble_eq_true rfl) rfl trivial ?_ | refine AK.storeBox 3 (us := [bz, mv0]) (cs' := [bz, mv0]) rfl sz91 rfl rfl rfl rfl oneP (Nat.le_of_ble_eq_true rfl) rfl trivial ?_
     refine .nil ?_
     try (conv => enter [2, 2]; dsimp only [List.set_cons_zero, List.set_cons_succ, List.cons_append, List.nil_append])
     refine HeldK.backN 9 krf rfl krf ?_
     refine .nil ?_
     refine AK.fromQn ?_
     exact hJ _ _ ((bz, mv0, bx6)) ⟨sbz, smv0⟩ (slr) (fun w hw => by first | exact hw.pickLe [0, 1, 2, 3] (by decide) pkl | exact hw.pickLe [0, 1, 3, 2] (by decide) pkl | exact hw.pickLe [0, 2, 1, 3] (by decide) pkl | exact hw.pickLe [0, 2, 3, 1] (by decide) pkl | exact hw.pickLe [0, 3, 1, 2] (by decide) pkl | exact hw.pickLe [0, 3, 2, 1] (by decide) pkl)
    ·refine AK.make1 (n := u.length) sl70 el21 rfl rfl rfl (by omega) (by omega) trivial rfl (fun mv0 => ?_)
     first | refine AK.shape (v := mv0) 1 rfl (fun smv0 => ?_) | refine AK.shape (v := mv0) 2 rfl (fun smv0 => ?_) | refine AK.shape (v := mv0) 3 rfl (fun smv0 => ?_)
     refine .nil ?_
     try (conv => enter [2, 2]; dsimp only [List.set_cons_zero, List.set_cons_succ, List.cons_append, List.nil_append])
     refine HeldK.back Go.Sx.hle ?_
     refine HeldK.one 2 (fuel := 2) (listed' := (lb 9 191)) krf rfl krf ?_
     refine AK.toBytes un9 sl78.1 un5 rfl (by omega) trivial rfl (fun bz => ?_)
     first | refine AK.shapeZ (v := bz) 1 rfl (fun sbz => ?_) | refine AK.shapeZ (v := bz) 2 rfl (fun sbz => ?_) | refine AK.shapeZ (v := bz) 3 rfl (fun sbz => ?_)
     refine .nil ?_
     try (conv => enter [2, 2]; dsimp only [List.set_cons_zero, List.set_cons_succ, List.cons_append, List.nil_append])
     refine HeldK.back Go.Sx.hle ?_
     refine HeldK.first 6 (fuel := 1) (listed' := (lb 9 255)) _ rfl krf krf rfl (Yl.build (parts := [(0, .tmp 11), (1, .tmp 14)]) (cs := #[bz, mv0]) rfl (by obtain ⟨_, _, _, rfl⟩ := sbz; obtain ⟨_, _, _, rfl⟩ := smv0; kernel_rfl)) trivial rfl ?_
     refine HeldK.one 8 (fuel := 0) (listed' := (lb 9 511)) krf rfl krf ?_
     first | refine AK.storeBox 1 (us := [bz, mv0]) (cs' := [bz, mv0]) rfl sz91 rfl rfl rfl rfl oneP (Nat.le_of_ble_eq_true rfl) rfl trivial ?_ | refine AK.storeBox 2 (us := [bz, mv0]) (cs' := [bz, mv0]) rfl sz91 rfl rfl rfl rfl oneP (Nat.le_of_ble_eq_true rfl) rfl trivial ?_ | refine AK.storeBox 3 (us := [bz, mv0]) (cs' := [bz, mv0]) rfl sz91 rfl rfl rfl rfl oneP (Nat.le_of_ble_eq_true rfl) rfl trivial ?_
     refine .nil ?_
     try (conv => enter [2, 2]; dsimp only [List.set_cons_zero, List.set_cons_succ, List.cons_append, List.nil_append])
     refine HeldK.backN 9 krf rfl krf ?_
     refine .nil ?_
     refine AK.fromQn ?_
     exact hJ _ _ ((bz, mv0, bx6)) ⟨sbz, smv0⟩ (slr) (fun w hw => by first | exact hw.pickLe [0, 1, 2, 3] (by decide) pkl | exact hw.pickLe [0, 1, 3, 2] (by decide) pkl | exact hw.pickLe [0, 2, 1, 3] (by decide) pkl | exact hw.pickLe [0, 2, 3, 1] (by decide) pkl | exact hw.pickLe [0, 3, 1, 2] (by decide) pkl | exact hw.pickLe [0, 3, 2, 1] (by decide) pkl)
   ·refine AK.make1 (n := u.length) sl70 el21 rfl rfl rfl (by omega) (by omega) trivial rfl (fun mv0 => ?_)
    first | refine AK.shape (v := mv0) 1 rfl (fun smv0 => ?_) | refine AK.shape (v := mv0) 2 rfl (fun smv0 => ?_) | refine AK.shape (v := mv0) 3 rfl (fun smv0 => ?_)
    refine .nil ?_
    try (conv => enter [2, 2]; dsimp only [List.set_cons_zero, List.set_cons_succ, List.cons_append, List.nil_append])
    refine HeldK.back Go.Sx.hle ?_
    refine HeldK.one 1 (fuel := 3) (listed' := (lb 9 187)) krf rfl krf ?_
    refine AK.call co53 rfl (fun w hw => s_reverse w u (by omega)) trivial rfl ?_
    rintro r o ⟨rfl, rfl⟩
    refine .nil ?_
    try (conv => enter [2, 2]; dsimp only [List.set_cons_zero, List.set_cons_succ, List.cons_append, List.nil_append])
    refine HeldK.back Go.Sx.hle ?_
    refine HeldK.one 2 (fuel := 2) (listed' := (lb 9 191)) krf rfl krf ?_
    refine AK.toBytes un9 sl78.1 un5 rfl (by omega) trivial rfl (fun bz => ?_)
    first | refine AK.shapeZ (v := bz) 1 rfl (fun sbz => ?_) | refine AK.shapeZ (v := bz) 2 rfl (fun sbz => ?_) | refine AK.shapeZ (v := bz) 3 rfl (fun sbz => ?_)
    refine .nil ?_
    try (conv => enter [2, 2]; dsimp only [List.set_cons_zero, List.set_cons_succ, List.cons_append, List.nil_append])
    refine HeldK.back Go.Sx.hle ?_
    refine HeldK.first 6 (fuel := 1) (listed' := (lb 9 255)) _ rfl krf krf rfl (Yl.build (parts := [(0, .tmp 11), (1, .tmp 14)]) (cs := #[bz, mv0]) rfl (by obtain ⟨_, _, _, rfl⟩ := sbz; obtain ⟨_, _, _, rfl⟩ := smv0; kernel_rfl)) trivial rfl ?_
    refine HeldK.one 8 (fuel := 0) (listed' := (lb 9 511)) krf rfl krf ?_
    first | refine AK.storeBox 1 (us := [bz, mv0]) (cs' := [bz, mv0]) rfl sz91 rfl rfl rfl rfl oneP (Nat.le_of_ble_eq_true rfl) rfl trivial ?_ | refine AK.storeBox 2 (us := [bz, mv0]) (cs' := [bz, mv0]) rfl sz91 rfl rfl rfl rfl oneP (Nat.le_of_ble_eq_true rfl) rfl trivial ?_ | refine AK.storeBox 3 (us := [bz, mv0]) (cs' := [bz, mv0]) rfl sz91 rfl rfl rfl rfl oneP (Nat.le_of_ble_eq_true rfl) rfl trivial ?_
    refine .nil ?_
    try (conv => enter [2, 2]; dsimp only [List.set_cons_zero, List.set_cons_succ, List.cons_append, List.nil_append])
    refine HeldK.backN 9 krf rfl krf ?_
    refine .nil ?_
    refine AK.fromQn ?_
    exact hJ _ _ ((bz, mv0, bx6)) ⟨sbz, smv0⟩ (slr) (fun w hw => by first | exact hw.pickLe [0, 1, 2, 3] (by decide) pkl | exact hw.pickLe [0, 1, 3, 2] (by decide) pkl | exact hw.pickLe [0, 2, 1, 3] (by decide) pkl | exact hw.pickLe [0, 2, 3, 1] (by decide) pkl | exact hw.pickLe [0, 3, 1, 2] (by decide) pkl | exact hw.pickLe [0, 3, 2, 1] (by decide) pkl)
 ·skip
  refine AK.then_ (hK2 _ ?_)
  refine .sr fun _ hK3 => ?_
  refine .v (.loadBoxG ag62 rfl bsp rfl rfl) ?_
  refine .mv rfl ?_
  refine .v (.lenS un9 rfl) ?_
  refine AK.own' [bigA [box z.2.2 91 2 [z.1, z.2.1], rowZ z.1 5 u.reverse.length (u.reverse.map byv), row z.2.1 21 1 u.reverse.length ((List.replicate u.reverse.length (0 : Int)).map (Value.int .i32))], box bx2 62 2 [v, .pointer (some ⟨bf, 0, none⟩)]] (fun w hw => by rw [hrl, List.map_replicate]; exact HW.unflat (l := [_, _, _]) (own := [_]) (by have h := hw.pick [3, 1, 2, 0] (by decide) rfl rfl; rw [hrl] at h; exact h)) ?_
  refine AK.callN 0 rfl co54 rfl (fun w Fs hw hh hfr hal => s_read w (Fs 0) z.2.2 0 u.length z.1 z.2.1 u.reverse (List.replicate u.reverse.length (0 : Int)) bf v vn vf _ N fl fd hF hN (hbf.off (fun h => h) hfr) (not_Fs hbf (fun h => h) hal) (Rd.off hvn hfr hal) (Rd.off hvf hfr hal) hsv (al_rev hu).2 (by simp) (by omega) (Nat.zero_le _) (by omega) (fun j hj => by omega) (fun j h1 h2 => by omega) (hh.at_ 0 _ rfl)) trivial rfl ?_
  rintro r A o ⟨R1, z1, hok1, hR1, _, rfl, rfl, rfl⟩
  refine AK.flat0 rfl ?_
  refine .nt hK3 ?_
  refine .sr fun _ hK4 => ?_
  refine .mv rfl ?_
  refine .v (.lenS un9 rfl) ?_
  refine .v (.sub rfl rfl (by omega)) ?_
  refine .as rfl (.nt hK4 ?_)
  refine .sr fun _ hK5 => ?_
  refine .as rfl (.nt hK5 (.block ?_))
  refine AK.loopK (X := Nat × Nat × Value × Value × Wrd × List Int) [(2, _), (6, _)] (fun x => [(7, .int .i64 ((x.2.1 : Int) - 1)), (8, .int .i64 (x.1 : Int))]) (fun x => [box z.2.2 91 2 [x.2.2.1, x.2.2.2.1], rowZ x.2.2.1 5 x.2.2.2.2.1.length (x.2.2.2.2.1.map byv), row x.2.2.2.1 21 1 x.2.2.2.2.1.length (x.2.2.2.2.2.map (Value.int .i32)), box bx2 62 2 [v, .pointer (some ⟨bf, 0, none⟩)]]) (fun x => RedI rs N fd m x.1 x.2.1 u x.2.2.2.2.1 x.2.2.2.2.2 ∧ IsSl x.2.2.1 ∧ IsSl x.2.2.2.1) (fun x => 100001 - x.1) ((0, u.reverse.length, z.1, z.2.1, u.reverse, R1)) slr ?_ ?_ ?_ ?_
  ·exact ⟨RedI.init hu hum hok1 hR1, hg.1, hg.2⟩
  ·exact .cons (slI rfl (by dsimp only; omega)) (slr)
  ·exact fun w hw => hw
  ·intro x hg0 _ hK6
   have hkl := hg0.1.kl
   refine .seq fun _ hK7 => ?_
   refine .block ?_
   refine .seq fun _ hK8 => ?_
   refine .block ?_
   refine AK.loopK (X := Nat) [(2, _), (6, _), (8, _)] (fun y => [(7, .int .i64 ((y : Int) - 1))]) (fun y => [box z.2.2 91 2 [x.2.2.1, x.2.2.2.1], rowZ x.2.2.1 5 x.2.2.2.2.1.length (x.2.2.2.2.1.map byv), row x.2.2.2.1 21 1 x.2.2.2.2.1.length (x.2.2.2.2.2.map (Value.int .i32)), box bx2 62 2 [v, .pointer (some ⟨bf, 0, none⟩)]]) (fun y => RedI rs N fd m x.1 y u x.2.2.2.2.1 x.2.2.2.2.2) (fun y => y) (x.2.1) slr ?_ ?_ ?_ ?_
   ·exact hg0.1
   ·exact slr
   ·exact fun w hw => hw
   ·intro y hg1 _ hK9
    have hyl := hg1.el
    have hytl := hg1.tl
    have hrr := hg1.rl
    refine .seq fun _ hK10 => ?_
    refine .seq fun _ hK11 => ?_
    refine AK.quiet mixed krf ?_
    refine .mv rfl ?_
    refine .v (.geq rfl rfl) ?_
    refine .mv rfl ?_
    refine QK.splitB (g := 27) rfl (fun hg_6_2 => ?_) (fun hg_6_2 => ?_)
    ·have hg_6_2' := hg_6_2
     try simp only [bs] at hg_6_2'
     refine QK.val _ (Yl.fieldAddr fd62_1 rfl) ⟨_, rfl, congrArg (fun b => some (Value.bool b)) hg_6_2⟩ rfl ?_
     have hy1 : 1 ≤ y := (by omega)
     obtain ⟨t, ht, htN⟩ := (hg1.ok (y - 1) (by omega)).nat
     refine QK.val _ (Yl.loadBox on60 rfl bsp rfl) ⟨_, rfl, congrArg (fun b => some (Value.bool b)) hg_6_2⟩ rfl ?_
     refine QK.val _ (Yl.nilCheck rfl) ⟨_, rfl, congrArg (fun b => some (Value.bool b)) hg_6_2⟩ rfl ?_
     refine QK.val _ (Yl.fieldAddr fd72_1 rfl) ⟨_, rfl, congrArg (fun b => some (Value.bool b)) hg_6_2⟩ rfl ?_
     refine QK.val _ (Yl.loadBox on70 rfl bsp rfl) ⟨_, rfl, congrArg (fun b => some (Value.bool b)) hg_6_2⟩ rfl ?_
     refine QK.val _ (Yl.fieldAddr fd91_1 rfl) ⟨_, rfl, congrArg (fun b => some (Value.bool b)) hg_6_2⟩ rfl ?_
     refine QK.val _ (Yl.loadBox on70 rfl bsp rfl) ⟨_, rfl, congrArg (fun b => some (Value.bool b)) hg_6_2⟩ rfl ?_
     refine QK.val _ (Yl.move rfl) ⟨_, rfl, congrArg (fun b => some (Value.bool b)) hg_6_2⟩ rfl ?_
     first | refine QK.val _ (.iN sl70 rfl rfl (hr := (by first | exact rdp | exact (RdS.ownZ 1 rfl)))) ⟨_, rfl, congrArg (fun b => some (Value.bool b)) hg_6_2⟩ rfl ?_ | refine QK.val _ (.iK sl70 rfl rfl (hr := (by first | exact rdp | exact (RdS.ownZ 1 rfl)))) ⟨_, rfl, congrArg (fun b => some (Value.bool b)) hg_6_2⟩ rfl ?_
     refine QK.val _ (Yl.valE (Yl.loadI on21 rfl rdp (by omega)) (congrArg (Value.int .i32) (show x.2.2.2.2.2.getD ((y : Int) - 1).toNat 0 = (t : Int) by rw [show ((y : Int) - 1).toNat = y - 1 by omega]; exact ht))) ⟨_, rfl, congrArg (fun b => some (Value.bool b)) hg_6_2⟩ rfl ?_
     first | refine QK.val _ (.iN sl70 rfl rfl (hr := (by first | exact rdp | exact (RdS.ownZ 1 rfl)))) ⟨_, rfl, congrArg (fun b => some (Value.bool b)) hg_6_2⟩ rfl ?_ | refine QK.val _ (.iK sl70 rfl rfl (hr := (by first | exact rdp | exact (RdS.ownZ 1 rfl)))) ⟨_, rfl, congrArg (fun b => some (Value.bool b)) hg_6_2⟩ rfl ?_
     refine QK.val _ (Yl.loadI on21 rfl (by first | exact rdp | exact (RdS.ownZ 1 rfl)) (by omega)) ⟨_, rfl, congrArg (fun b => some (Value.bool b)) hg_6_2⟩ rfl ?_
     refine QK.val _ (Yl.lss rfl rfl) ⟨_, rfl, congrArg (fun b => some (Value.bool b)) hg_6_2⟩ rfl ?_
     refine .v (.pickT rfl (hg_6_2) rfl) ?_
     refine QK.nil (QK.fin ?_)
     refine AK.then_ (hK11 _ ?_)
     refine AK.condD rfl (fun hc0 => ?_) (fun hc0 => ?_)
     ·refine .skip ?_
      refine AK.then_ (hK10 _ ?_)
      refine .block ?_
      refine AK.region ?_
      refine .mv rfl ?_
      refine .v (.sub rfl rfl (by omega)) ?_
      refine .as rfl (.nil (.block_normal ?_))
      refine AK.then_ (hK9 _ _ (y - 1) (RedI.lower hg1 hy1 ht hc0) (by omega) (.cons (slI rfl (by omega)) (slr)) (fun w hw => hw))
     ·refine .exit (.then_exit (.then_exit (.block_exit ?_)))
      refine AK.then_ (hK8 _ ?_)
      refine .seq fun _ hK12 => ?_
      refine .sr fun _ hK13 => ?_
      refine .mv rfl ?_
      refine .v (.lss rfl rfl) ?_
      refine .nt hK13 ?_
      refine AK.cond_f rfl (decide_eq_false (by omega)) ?_
      refine .skip ?_
      refine AK.then_ (hK12 _ ?_)
      refine .seq fun _ hK14 => ?_
      refine .sr fun _ hK15 => ?_
      refine .mv rfl ?_
      refine .v (.eql rfl rfl) ?_
      refine .nt hK15 ?_
      refine AK.condD rfl (fun hc2 => ?_) (fun hc2 => ?_)
      ·obtain ⟨i, hi1, hi2, hsf, ho⟩ := RedI.at hg1 hF hV hy1 ht hc0
       have hlr := (hV.left hi2).2
       have hAl2 : Al (rs.getD i ([], [])).2 := validW_al (hV.v _ (getD_mem hi2)).2.1
       refine .sr fun _ hK16 => ?_
       refine .as rfl (.as rfl (.nt hK16 (.ret (.then_ret (.block_ret (.then_ret (.then_ret (.block_ret ?_))))))))
       refine AK.ret2 rfl rfl rfl (fun w hw => ⟨_, _, ?_, rfl, Ret.of (hw.pick [] (by decide) rfl rfl)⟩)
       have h := red_none (RedI.limit hg1 (by omega) ho)
       exact ⟨by rw [h.1, h.2]; rfl, rfl⟩
      ·obtain ⟨i, hi1, hi2, hsf, ho⟩ := RedI.at hg1 hF hV hy1 ht hc0
       have hlr := (hV.left hi2).2
       have hAl2 : Al (rs.getD i ([], [])).2 := validW_al (hV.v _ (getD_mem hi2)).2.1
       refine .skip ?_
       refine AK.then_ (hK14 _ ?_)
       refine AK.region ?_
       refine .v (.loadBoxG ag62 rfl bsp rfl rfl) ?_
       refine AK.val (.int .i64 ((y - 1 : Nat) : Int)) (Yl.valE (Yl.move rfl) (congrArg (Value.int .i64) (by omega))) trivial rfl ?_
       refine AK.own' [bigA [box z.2.2 91 2 [x.2.2.1, x.2.2.2.1], rowZ x.2.2.1 5 x.2.2.2.2.1.length (x.2.2.2.2.1.map byv), row x.2.2.2.1 21 1 x.2.2.2.2.1.length (x.2.2.2.2.2.map (Value.int .i32))], box bx2 62 2 [v, .pointer (some ⟨bf, 0, none⟩)]] (fun w hw => HW.unflat (l := [_, _, _]) (own := [_]) hw) ?_
       refine AK.callN 0 rfl co55 rfl (fun w Fs hw hh hfr hal => s_apply w (Fs 0) z.2.2 (y - 1) i x.2.2.1 x.2.2.2.1 x.2.2.2.2.1 x.2.2.2.2.2 rs bf v vn vf _ N fl fd hF hN (hbf.off (fun h => h) hfr) (not_Fs hbf (fun h => h) hal) (Rd.off hvn hfr hal) (Rd.off hvf hfr hal) (Rd.off hv hfr hal) hll hg0.2.1 hg0.2.2 hg1.al hg1.rl (by have := hg1.tl; omega) hg1.ok (by omega) hi2 (fun t' h' => by have : t = t' := (by omega); rw [← this]; exact hi1) hsf hlr hAl2 (hh.at_ 0 _ rfl)) trivial rfl ?_
       rintro r A o ⟨vl', vs', R', z', svl', svs', hok', hR', ⟨e, he1, he2, he3⟩, rfl, rfl, rfl⟩
       refine AK.flat0 rfl ?_
       refine .as rfl (.nil (.block_normal ?_))
       refine AK.then_ (hK7 _ ?_)
       refine AK.region ?_
       refine .mv rfl ?_
       refine .v (.add rfl rfl (by omega)) ?_
       refine .as rfl (.nil ?_)
       refine AK.then_ (hK6 _ _ ((x.1 + 1, e, vl', vs', newT x.2.2.2.2.1 (y - 1) (rs.getD i ([], [])), R')) ⟨RedI.step hg1 (by omega) (by omega) ho hsf hlr hAl2 hok' hR' he2 he3, svl', svs'⟩ (by dsimp only; omega) (.cons (slI rfl (by dsimp only; omega)) (slr)) (fun w hw => hw))
    ·have hg_6_2' := hg_6_2
     try simp only [bs] at hg_6_2'
     refine QK.pass rfl rfl (hg_6_2) rfl ?_
     refine QK.pass rfl rfl (hg_6_2) rfl ?_
     refine QK.pass rfl rfl (hg_6_2) rfl ?_
     refine QK.pass rfl rfl (hg_6_2) rfl ?_
     refine QK.pass rfl rfl (hg_6_2) rfl ?_
     refine QK.pass rfl rfl (hg_6_2) rfl ?_
     refine QK.pass rfl rfl (hg_6_2) rfl ?_
     refine QK.pass rfl rfl (hg_6_2) rfl ?_
     refine QK.pass rfl rfl (hg_6_2) rfl ?_
     refine QK.pass rfl rfl (hg_6_2) rfl ?_
     refine QK.pass rfl rfl (hg_6_2) rfl ?_
     refine QK.pass rfl rfl (hg_6_2) rfl ?_
     refine QK.pass rfl rfl (hg_6_2) rfl ?_
     refine .v (.pickF rfl (hg_6_2) rfl) ?_
     refine QK.nil (QK.fin ?_)
     refine AK.then_ (hK11 _ ?_)
     refine AK.cond_f rfl (rfl) ?_
     refine .exit (.then_exit (.then_exit (.block_exit ?_)))
     refine AK.then_ (hK8 _ ?_)
     refine .seq fun _ hK17 => ?_
     refine .sr fun _ hK18 => ?_
     refine .mv rfl ?_
     refine .v (.lss rfl rfl) ?_
     refine .nt hK18 ?_
     refine AK.cond_t rfl (decide_eq_true (by omega)) ?_
     refine .sr fun _ hK19 => ?_
     refine .v (.fieldAddr fd91_0 rfl) ?_
     refine .v (.loadBox on78 rfl bsp rfl) ?_
     refine .v (.bytesS sl78.1 un5 un9 rfl (by first | exact rdp | exact (RdS.ownZ 1 rfl))) ?_
     refine AK.call co53 rfl (fun w hw => s_reverse w x.2.2.2.2.1 (by have := hg1.tl; omega)) trivial rfl ?_
     rintro r o ⟨rfl, rfl⟩
     refine .as rfl (.as rfl (.nt hK19 (.ret (.then_ret (.block_ret (.then_ret (.then_ret (.block_ret ?_))))))))
     refine AK.ret2 rfl rfl rfl (fun w hw => ⟨_, _, ?_, rfl, Ret.of (hw.pick [] (by decide) rfl rfl)⟩)
     have h := red_some (RedI.stop hg1 hF hV (by omega))
     exact ⟨by rw [h.1, h.2], rfl⟩

end Go.Proofs.Ytaeojcaidcjnaaa
