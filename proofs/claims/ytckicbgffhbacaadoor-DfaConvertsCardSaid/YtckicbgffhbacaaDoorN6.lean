import Derived.Test.YtckicbgffhbacaaDoorN5
import Derived.Test.YtckicbgffhbacaaDoorD8
import Derived.Test.YtckicbgffhbacaaDoorNg
set_option linter.unusedVariables false
set_option linter.unusedSimpArgs false
namespace Go.Proofs.YtckicbgffhbacaaDoor
open Go.Sx Go.RowKit
set_option maxHeartbeats 2000000 in
set_option maxRecDepth 100000 in
theorem s_subset (w : World) (v : Value) (n : Nfa) (h : RdN (fun _ => False) w v n) (U : List W64) (hU : VN n → UOk n U) (hT : TbA w) : CallS Tryd.prog 8 [v] w (fun r o => ∃ (vF vN vS : Value) (rs : List Value), r = .tuple #[.agg #[.int .i64 (SubV n U).L, .int .i64 (SubV n U).s, vF, vN], vS, .int .i64 (errN n)] ∧ rs.length = (SubV n U).nx.length ∧ IsSl vF ∧ IsSl vN ∧ IsSl vS ∧ o = dfaO 4 3 41 vF vN rs (SubV n U) ++ [row vS 22 1 (SetV n U).length ((SetV n U).map uv)]) := by
 have h0 := h
 obtain ⟨vE, rfl, hE⟩ := h
 have sE := Rd.sl hE
 have hme := Rd.le hE
 refine spec_of Tryd.func8 rfl (Nat.le_of_ble_eq_true rfl) ?_
 refine .sr fun _ hK1 => ?_
 refine AK.box_ (E := 25) (cs := [.int .i64 n.L, .int .i64 n.S, uv n.st, uv n.fi, vE]) rfl rfl rfl trivial rfl (fun bx1 => ?_)
 refine AK.alloc el32 rfl rfl trivial rfl (fun bx2 => ?_)
 refine .as rfl (.as rfl (.nt hK1 ?_))
 refine .seq fun _ hK2 => ?_
 refine .sr fun _ hK3 => ?_
 refine .v (.loadBoxG ag25 rfl bsp rfl rfl) ?_
 refine AK.call co24 rfl (fun w hw => s_nvalidate w _ n (h0.at hw)) trivial rfl ?_
 rintro r o ⟨rfl, rfl⟩
 refine .as rfl (.nt hK3 ?_)
 refine .sr fun _ hK4 => ?_
 refine .mv rfl ?_
 refine .v (.neq rfl rfl) ?_
 refine .nt hK4 ?_
 refine AK.condNe rfl (fun hc0 => ?_) (fun hc0 => ?_)
 ·refine .sr fun _ hK5 => ?_
  refine .v (.build (parts := []) (cs := #[.int .i64 0, .int .i64 0, .slice none 0 0, .slice none 0 0]) rfl (by kernel_rfl)) ?_
  refine .mv rfl ?_
  refine AK.storeBox 1 (us := [.int .i64 0, .int .i64 0, .slice none 0 0, .slice none 0 0]) (cs' := [.int .i64 0, .int .i64 0, .slice none 0 0, .slice none 0 0]) rfl sz32 rfl rfl rfl rfl oneP (Nat.le_of_ble_eq_true rfl) rfl trivial ?_
  refine .as rfl (.as rfl (.nt hK5 (.ret (.then_ret ?_))))
  refine AK.own' (dfaO 4 3 41 (.slice none 0 0) (.slice none 0 0) [] nilD ++ [row (.slice none 0 0) 22 1 0 [], box bx2 32 4 [.int .i64 0, .int .i64 0, .slice none 0 0, .slice none 0 0]]) (fun w hw => by have h1 := ((((hw.pick [1] (by decide) rfl rfl).ghost 4 1).ghost 41 1).ghostG (f := Value.int .i64) 3).ghost 22 1; exact h1.pick [1, 2, 3, 4, 0] (by decide) rfl rfl) ?_
  refine AK.retG [.cell 2 32, .tmp 3, .tmp 4] rfl (.cons (.cell ag32 rfl bsp rfl rfl) (.cons (.tmp rfl) (.cons (.tmp rfl) (.nil)))) (fun w hw => ⟨_, _, ?_, rfl, Ret.of (hw.pick [0, 1, 2, 3] (by decide) rfl rfl)⟩)
  have e1 : SubV n U = nilD := if_neg (by omega)
  have e2 : SetV n U = [] := if_neg (by omega)
  rw [e1, e2]
  exact ⟨.slice none 0 0, .slice none 0 0, .slice none 0 0, [], rfl, rfl, nilSl, nilSl, nilSl, rfl⟩
 ·have hE : errN n = 0 := (by omega)
  have hv : VN n := errN_iff.1 hE
  have hL := hv.L
  have hLL : ((n.L.toNat : Nat) : Int) = n.L := (by omega)
  obtain ⟨hs, hU5, hf⟩ := hU hv
  refine .skip ?_
  refine AK.then_ (hK2 _ ?_)
  refine .seq fun _ hK6 => ?_
  try (conv => enter [2, 2]; dsimp only [List.set_cons_zero, List.set_cons_succ, List.cons_append, List.nil_append])
  refine AK.held 11 mixed ?_
  refine HeldK.first 0 (fuel := 13) (listed' := (lb 14 1)) _ rfl krf krf rfl (Yl.fieldAddr fd25_0 rfl) trivial rfl ?_
  refine HeldK.first 1 (fuel := 12) (listed' := (lb 14 3)) _ rfl krf krf rfl (Yl.loadBox on3 rfl bsp rfl) trivial rfl ?_
  refine HeldK.first 2 (fuel := 11) (listed' := (lb 14 7)) _ rfl krf krf rfl (Yl.fieldAddr fd25_2 rfl) trivial rfl ?_
  refine HeldK.first 3 (fuel := 10) (listed' := (lb 14 15)) _ rfl krf krf rfl (Yl.loadBox on22 rfl bsp rfl) trivial rfl ?_
  refine HeldK.first 4 (fuel := 9) (listed' := (lb 14 31)) _ rfl krf krf rfl (Yl.loadBoxG ag25 rfl bsp rfl rfl) trivial rfl ?_
  refine HeldK.first 6 (fuel := 8) (listed' := (lb 14 95)) _ rfl krf krf rfl (Yl.makeFunc (first := []) (captured := [.tmp 1]) rfl rfl) trivial rfl ?_
  refine HeldK.one 5 (fuel := 7) (listed' := (lb 14 127)) krf rfl krf ?_
  refine AK.call co26 rfl (fun w hw => s_steps w _ n (h0.at hw) hv) trivial rfl ?_
  rintro r o ⟨bq, tq, ws, hwl, rfl, rfl⟩
  refine .nil ?_
  try (conv => enter [2, 2]; dsimp only [List.set_cons_zero, List.set_cons_succ, List.cons_append, List.nil_append])
  refine HeldK.back Go.Sx.hle ?_
  refine HeldK.one 7 (fuel := 6) (listed' := (lb 14 255)) krf rfl krf ?_
  refine AK.call co25 rfl (fun w hw => (by have h := s_exploreU w n.L.toNat n.st (fS n) (gS n) U 43 27 [.pointer (some ⟨bq, 0, none⟩)] [.pointer (some ⟨bx1, 0, none⟩)] (by omega) hs hU5 hf co43 co27 (fun w' hfr q hq x hx => s_step1 w' bq tq ((BxA.own 2 hw rfl).fr hfr) n hv ((RdLL.own 3 4 hw (by rw [mtK_len]; exact hwl) (by rw [mtK_len]; rfl) rfl).fr hfr) q x hx ((hT.at hw).fr hfr (fun h => h))) (fun w' hfr q hq => s_sub1 w' bx1 n vE ((BxA.own 0 hw rfl).fr hfr) q); rw [hLL] at h; exact h)) trivial rfl ?_
  rintro r o ⟨m, vL, vF2, vN2, rs2, hm, hrs, sL, sF2, sN2, rfl, rfl⟩
  obtain ⟨ht1, ht2⟩ := gen_is (g := gS n) n.L hs hf hm
  rw [ht1, ht2]
  refine .nil ?_
  try (conv => enter [2, 2]; dsimp only [List.set_cons_zero, List.set_cons_succ, List.cons_append, List.nil_append])
  refine HeldK.back Go.Sx.hle ?_
  refine HeldK.first 8 (fuel := 5) (listed' := (lb 14 511)) _ rfl krf krf rfl (Yl.extract rfl rfl) trivial rfl ?_
  refine HeldK.first 9 (fuel := 4) (listed' := (lb 14 1023)) _ rfl krf krf rfl (Yl.extract rfl rfl) trivial rfl ?_
  refine HeldK.first 10 (fuel := 3) (listed' := (lb 14 2047)) _ rfl krf krf rfl (Yl.extract rfl rfl) trivial rfl ?_
  refine HeldK.one 11 (fuel := 2) (listed' := (lb 14 4095)) krf rfl krf ?_
  refine AK.storeBox 1 (us := [.int .i64 n.L, .int .i64 0, vF2, vN2]) (cs' := [.int .i64 n.L, .int .i64 0, vF2, vN2]) rfl sz32 rfl rfl rfl rfl oneP (Nat.le_of_ble_eq_true rfl) rfl trivial ?_
  refine .nil ?_
  try (conv => enter [2, 2]; dsimp only [List.set_cons_zero, List.set_cons_succ, List.cons_append, List.nil_append])
  refine HeldK.backN 12 krf rfl krf ?_
  refine .as rfl (.as rfl (.nil ?_))
  refine AK.fromQn ?_
  refine AK.then_ (hK6 _ ?_)
  refine .ret ?_
  refine AK.retG [.cell 2 32, .tmp 3, .tmp 4] rfl (.cons (.cell ag32 rfl bsp rfl rfl) (.cons (.tmp rfl) (.cons (.tmp rfl) (.nil)))) (fun w hw => ⟨_, _, ?_, rfl, Ret.of (hw.pick [5, 6, 7, 8] (by decide) rfl rfl)⟩)
  have e1 : SubV n U = subU n U := if_pos hE
  have e2 : SetV n U = setU n U := if_pos hE
  rw [e1, e2, hE]
  refine ⟨vF2, vN2, vL, rs2, rfl, ?_, sF2, sN2, sL, rfl⟩
  rw [hrs, hm, ht1]; simp [subU, genD, setU]

end Go.Proofs.YtckicbgffhbacaaDoor
