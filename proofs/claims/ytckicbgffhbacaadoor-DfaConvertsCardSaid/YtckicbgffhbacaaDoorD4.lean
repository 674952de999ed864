import Derived.Test.YtckicbgffhbacaaDoorD3
set_option linter.unusedVariables false
set_option linter.unusedSimpArgs false
namespace Go.Proofs.YtckicbgffhbacaaDoor
open Go.Sx Go.RowKit
set_option maxHeartbeats 400000 in
set_option maxRecDepth 100000 in
theorem s_words (w : World) (v : Value) (d : Dfa) (h : RdD (fun _ => False) w v d) (n : Int) : CallS Tryd.prog 22 [v, .int .i64 n] w (fun r o => o = [row r 9 1 (WordsV d n).length ((WordsV d n).map sv)]) := by
 have h0 := h
 obtain ⟨vF, vN, rfl, hF, hN⟩ := h
 have hF0 := hF
 have hN0 := hN
 obtain ⟨rs, hrl, hNr, hNi⟩ := hN
 have sF := hF.sl
 have sN := hNr.sl
 have hmf := hF.le
 have hmn := hNr.le
 unfold RdL at hF
 refine spec_of Tryd.func22 rfl (Nat.le_of_ble_eq_true rfl) ?_
 refine .sr fun _ hK1 => ?_
 refine AK.box_ (E := 32) (cs := [.int .i64 d.L, .int .i64 d.s, vF, vN]) rfl rfl rfl trivial rfl (fun bx2 => ?_)
 refine .as rfl (.nt hK1 ?_)
 refine .seq fun _ hK2 => ?_
 refine .sr fun _ hK3 => ?_
 refine .v (.loadBoxG ag32 rfl bsp rfl rfl) ?_
 refine AK.call co15 rfl (fun w hw => s_validate w _ d (h0.at hw)) trivial rfl ?_
 rintro r o ⟨rfl, rfl⟩
 refine .v (.neq rfl rfl) ?_
 refine .mv rfl ?_
 refine AK.splitB (g := 10) rfl (fun hg_1_3 => ?_) (fun hg_1_3 => ?_)
 ·have hg_1_3' := hg_1_3
  try simp only [bs] at hg_1_3'
  refine AK.pass rfl rfl (hg_1_3) rfl ?_
  refine AK.pass rfl rfl (hg_1_3) rfl ?_
  refine .v (.pickT rfl (hg_1_3) rfl) ?_
  refine .mv rfl ?_
  refine AK.pass rfl rfl rfl rfl ?_
  refine AK.pass rfl rfl rfl rfl ?_
  refine .v (.pickT rfl (rfl) rfl) ?_
  refine .nt hK3 ?_
  refine AK.cond_t rfl (rfl) ?_
  refine .sr fun _ hK4 => ?_
  refine .as rfl (.nt hK4 (.ret (.then_ret ?_)))
  refine AK.ghost 9 1 ?_
  refine AK.ret1 rfl rfl (fun w hw => ⟨_, _, ?_, rfl, Ret.of (hw.pick [1] (by decide) rfl rfl)⟩)
  have e : WordsV d n = [] := by
   unfold WordsV; rw [if_neg]; rintro ⟨h1, h2, h3⟩; first | omega | exact absurd h1 (by assumption)
  rw [e]; rfl
 ·have hg_1_3' := hg_1_3
  try simp only [bs] at hg_1_3'
  refine AK.val _ (Yl.move rfl) ⟨_, rfl, congrArg (fun b => some (Value.bool b)) hg_1_3⟩ rfl ?_
  refine AK.val _ (Yl.lss rfl rfl) ⟨_, rfl, congrArg (fun b => some (Value.bool b)) hg_1_3⟩ rfl ?_
  refine .v (.pickF rfl (hg_1_3) rfl) ?_
  refine .mv rfl ?_
  refine AK.splitB (g := 14) rfl (fun hg_1_7 => ?_) (fun hg_1_7 => ?_)
  ·have hg_1_7' := hg_1_7
   try simp only [bs] at hg_1_7'
   refine AK.pass rfl rfl (hg_1_7) rfl ?_
   refine AK.pass rfl rfl (hg_1_7) rfl ?_
   refine .v (.pickT rfl (hg_1_7) rfl) ?_
   refine .nt hK3 ?_
   refine AK.cond_t rfl (rfl) ?_
   refine .sr fun _ hK5 => ?_
   refine .as rfl (.nt hK5 (.ret (.then_ret ?_)))
   refine AK.ghost 9 1 ?_
   refine AK.ret1 rfl rfl (fun w hw => ⟨_, _, ?_, rfl, Ret.of (hw.pick [1] (by decide) rfl rfl)⟩)
   have e : WordsV d n = [] := by
    unfold WordsV; rw [if_neg]; rintro ⟨h1, h2, h3⟩; first | omega | exact absurd h1 (by assumption)
   rw [e]; rfl
  ·have hg_1_7' := hg_1_7
   try simp only [bs] at hg_1_7'
   refine AK.val _ (Yl.move rfl) ⟨_, rfl, congrArg (fun b => some (Value.bool b)) hg_1_7⟩ rfl ?_
   refine AK.val _ (Yl.gtr rfl rfl) ⟨_, rfl, congrArg (fun b => some (Value.bool b)) hg_1_7⟩ rfl ?_
   refine .v (.pickF rfl (hg_1_7) rfl) ?_
   refine .nt hK3 ?_
   refine AK.condD rfl (fun hc0 => ?_) (fun hc0 => ?_)
   ·refine .sr fun _ hK6 => ?_
    refine .as rfl (.nt hK6 (.ret (.then_ret ?_)))
    refine AK.ghost 9 1 ?_
    refine AK.ret1 rfl rfl (fun w hw => ⟨_, _, ?_, rfl, Ret.of (hw.pick [1] (by decide) rfl rfl)⟩)
    have e : WordsV d n = [] := by
     unfold WordsV; rw [if_neg]; rintro ⟨h1, h2, h3⟩; first | omega | exact absurd h1 (by assumption)
    rw [e]; rfl
   ·have hv : VD d := (errV_iff d).1 hg_1_3'
    obtain ⟨nn, rfl⟩ := Int.eq_ofNat_of_zero_le (by omega : 0 ≤ n)
    have hn5 := hv.n
    refine .skip ?_
    refine AK.then_ (hK2 _ ?_)
    refine .sr fun _ hK7 => ?_
    refine .v (.loadBoxG ag32 rfl bsp rfl rfl) ?_
    refine .mv rfl ?_
    refine .v (.fieldAddr fd32_2 rfl) ?_
    refine .v (.loadBox on29 rfl bsp rfl) ?_
    refine AK.lit (xs := [.tmp 21]) sl73 el29 rfl rfl rfl (by intro a ha; simp at ha; subst ha; rw [sF.cells]; rfl) (by decide) (by decide) trivial rfl (fun lv => ?_)
    refine AK.shape 1 rfl (fun slv => ?_)
    refine .v (.build (parts := [(0, .tmp 18), (1, .tmp 19), (2, .tmp 22)]) (cs := #[.int .i64 d.L, .int .i64 d.s, vF, vN, .int .i64 (nn : Int), lv, (.slice none 0 0), (.slice none 0 0)]) rfl (by obtain ⟨_, _, _, rfl⟩ := slv; obtain ⟨_, _, _, rfl⟩ := sF; obtain ⟨_, _, _, rfl⟩ := sN; kernel_rfl)) ?_
    refine AK.alloc el76 rfl rfl trivial rfl (fun bx5 => ?_)
    refine AK.storeBox 2 (us := [.int .i64 d.L, .int .i64 d.s, vF, vN, .int .i64 (nn : Int), lv, (.slice none 0 0), (.slice none 0 0)]) (cs' := [.int .i64 d.L, .int .i64 d.s, vF, vN, .int .i64 (nn : Int), lv, (.slice none 0 0), (.slice none 0 0)]) rfl sz76 rfl rfl rfl rfl oneP (Nat.le_of_ble_eq_true rfl) rfl trivial ?_
    refine .nt hK7 ?_
    refine .seq fun _ hK8 => ?_
    refine .sr fun _ hK9 => ?_
    refine .as rfl (.nt hK9 (.block ?_))
    refine AK.loopK (X := Nat × Value × Value × Value × List Value) [(1, _), (2, _), (5, _)] (fun x => [(6, .int .i64 (x.1 : Int))]) (fun x => [box bx2 32 4 [.int .i64 d.L, .int .i64 d.s, vF, vN], box bx5 76 8 [.int .i64 d.L, .int .i64 d.s, vF, vN, .int .i64 (nn : Int), x.2.1, x.2.2.1, x.2.2.2.1], row x.2.1 29 1 (x.1 + 1) (vF :: x.2.2.2.2), bigA (matG Value.bool 4 x.2.2.2.2 (alT d x.1)), row x.2.2.1 5 1 ([] : List UInt8).length (([] : List UInt8).map byv), row x.2.2.2.1 9 1 (wk d nn x.1).length ((wk d nn x.1).map sv)]) (fun x => x.1 ≤ 2049 ∧ x.2.2.2.2.length = x.1 ∧ IsSl x.2.1 ∧ IsSl x.2.2.1 ∧ IsSl x.2.2.2.1) (fun x => 2049 - x.1) ((0, lv, .slice none 0 0, .slice none 0 0, [])) slr ?_ ?_ ?_ ?_
    ·exact ⟨Nat.zero_le _, rfl, slv, nilSl, nilSl⟩
    ·exact slr
    ·exact fun w hw => by have h1 := ((hw.ghostG (f := Value.bool) 4).ghost 5 1).ghost 9 1; rw [show [vF].flatMap (·.cells.toList) = [vF] by simp [sF.cells]] at h1; exact h1.pick [0, 2, 1, 3, 4, 5] (by decide) rfl rfl
    ·intro x hg0 _ hK10
     refine .seq fun _ hK11 => ?_
     refine .sr fun _ hK12 => ?_
     refine .mv rfl ?_
     refine .v (.leq rfl rfl) ?_
     refine .mv rfl ?_
     refine AK.splitB (g := 26) rfl (fun hg_5_2 => ?_) (fun hg_5_2 => ?_)
     ·have hg_5_2' := hg_5_2
      try simp only [bs] at hg_5_2'
      refine AK.val _ (Yl.fieldAddr fd76_4 rfl) ⟨_, rfl, congrArg (fun b => some (Value.bool b)) hg_5_2⟩ rfl ?_
      refine AK.val _ (Yl.loadBox on54 rfl bsp rfl) ⟨_, rfl, congrArg (fun b => some (Value.bool b)) hg_5_2⟩ rfl ?_
      refine AK.val _ (Yl.lenR sl54 rfl rdp) ⟨_, rfl, congrArg (fun b => some (Value.bool b)) hg_5_2⟩ rfl ?_
      refine AK.val _ (Yl.move rfl) ⟨_, rfl, congrArg (fun b => some (Value.bool b)) hg_5_2⟩ rfl ?_
      refine AK.val _ (Yl.lss rfl rfl) ⟨_, rfl, congrArg (fun b => some (Value.bool b)) hg_5_2⟩ rfl ?_
      refine .v (.pickT rfl (hg_5_2) rfl) ?_
      refine .nt hK12 ?_
      refine AK.condD rfl (fun hc1 => ?_) (fun hc1 => ?_)
      ·refine .skip ?_
       refine AK.then_ (hK11 _ ?_)
       refine .seq fun _ hK13 => ?_
       refine .block ?_
       refine .sr fun _ hK14 => ?_
       refine .v (.fieldAddr fd32_1 rfl) ?_
       refine .v (.loadBox on3 rfl bsp rfl) ?_
       refine .mv rfl ?_
       refine AK.own' [bigA [box bx5 76 8 [.int .i64 d.L, .int .i64 d.s, vF, vN, .int .i64 (nn : Int), x.2.1, x.2.2.1, x.2.2.2.1], row x.2.2.1 5 1 ([] : List UInt8).length (([] : List UInt8).map byv), row x.2.2.2.1 9 1 (wk d nn x.1).length ((wk d nn x.1).map sv)], box bx2 32 4 [.int .i64 d.L, .int .i64 d.s, vF, vN], row x.2.1 29 1 (x.1 + 1) (vF :: x.2.2.2.2), bigA (matG Value.bool 4 x.2.2.2.2 (alT d x.1))] (fun w hw => HW.unflat (l := [_, _, _]) (own := [_, _, _]) (hw.pick [1, 4, 5, 0, 2, 3] (by decide) rfl rfl)) ?_
       refine AK.callN 0 rfl co38 rfl (fun w Fs hw hh hfr hal => s_list x.1 w (Fs 0) bx5 d.s d vF vN x.2.1 x.2.2.1 x.2.2.2.1 nn x.1 [] (wk d nn x.1) hv hv.s (Nat.le_refl _) (by omega) (by simp; omega) (by omega) (wk_len _ _ _) hg0.2.2.2.1 hg0.2.2.2.2 (hN0.off hfr hal) (RdLL.alOff 0 2 3 hh hfr hal hF0 rfl rfl hg0.2.1 (by decide) (by decide)) (hh.at_ 0 _ rfl)) trivial rfl ?_
       rintro r A o ⟨vp, vw, sp2, sw2, rfl, rfl, rfl⟩
       refine AK.flat0 rfl ?_
       refine .nt hK14 ?_
       refine AK.region ?_
       refine AK.own' [bigA [box bx5 76 8 [.int .i64 d.L, .int .i64 d.s, vF, vN, .int .i64 (nn : Int), x.2.1, vp, vw], row x.2.1 29 1 (x.1 + 1) (vF :: x.2.2.2.2), bigA (matG Value.bool 4 x.2.2.2.2 (alT d x.1))], box bx2 32 4 [.int .i64 d.L, .int .i64 d.s, vF, vN], row vp 5 1 0 [], row vw 9 1 (wl d nn x.1 d.s [] (wk d nn x.1)).length ((wl d nn x.1 d.s [] (wk d nn x.1)).map sv)] (fun w hw => HW.unflat (l := [_, _, _]) (own := [_, _, _]) (hw.pick [0, 4, 5, 3, 1, 2] (by decide) rfl rfl)) ?_
       refine AK.callN 0 rfl co39 rfl (fun w Fs hw hh hfr hal => s_extend w (Fs 0) bx5 x.1 d vF vN x.2.1 vp vw nn x.2.2.2.2 hv (by omega) hg0.2.1 (hF0.off hfr hal) (hN0.off hfr hal) (hh.at_ 0 _ rfl)) trivial rfl ?_
       rintro r A o ⟨va, rv, sa, rfl, rfl, rfl⟩
       refine AK.flat0 rfl ?_
       refine .nil (.block_normal ?_)
       refine AK.then_ (hK13 _ ?_)
       refine AK.region ?_
       refine .mv rfl ?_
       refine .v (.add rfl rfl (by omega)) ?_
       refine .as rfl (.nil ?_)
       refine AK.then_ (hK10 _ _ ((x.1 + 1, va, vp, vw, x.2.2.2.2 ++ [rv])) ⟨by dsimp only; omega, by simp [hg0.2.1], sa, sp2, sw2⟩ (by dsimp only; omega) (slr) (fun w hw => by dsimp only; rw [wk_next (by omega)]; exact hw.pick [3, 0, 1, 2, 4, 5] (by decide) rfl rfl))
      ·refine .exit (.then_exit (.then_exit (.block_exit ?_)))
       refine AK.then_ (hK8 _ ?_)
       refine .sr fun _ hK15 => ?_
       refine .v (.fieldAddr fd76_4 rfl) ?_
       refine .v (.loadBox on54 rfl bsp rfl) ?_
       refine .as rfl (.nt hK15 (.ret ?_))
       refine AK.ret1 rfl rfl (fun w hw => ⟨_, _, ?_, rfl, Ret.of (hw.pick [5] (by decide) rfl rfl)⟩)
       have e : WordsV d (nn : Int) = (wk d nn x.1) := by
        unfold WordsV; rw [if_pos ⟨(errV_iff d).2 hv, by omega, by omega⟩]; rw [Int.toNat_natCast]; exact wk_end hg0.1 (by omega)
       rw [e]; rfl
     ·have hg_5_2' := hg_5_2
      try simp only [bs] at hg_5_2'
      refine AK.pass rfl rfl (hg_5_2) rfl ?_
      refine AK.pass rfl rfl (hg_5_2) rfl ?_
      refine AK.pass rfl rfl (hg_5_2) rfl ?_
      refine AK.pass rfl rfl (hg_5_2) rfl ?_
      refine AK.pass rfl rfl (hg_5_2) rfl ?_
      refine .v (.pickF rfl (hg_5_2) rfl) ?_
      refine .nt hK12 ?_
      refine AK.cond_f rfl (rfl) ?_
      refine .exit (.then_exit (.then_exit (.block_exit ?_)))
      refine AK.then_ (hK8 _ ?_)
      refine .sr fun _ hK16 => ?_
      refine .v (.fieldAddr fd76_4 rfl) ?_
      refine .v (.loadBox on54 rfl bsp rfl) ?_
      refine .as rfl (.nt hK16 (.ret ?_))
      refine AK.ret1 rfl rfl (fun w hw => ⟨_, _, ?_, rfl, Ret.of (hw.pick [5] (by decide) rfl rfl)⟩)
      have e : WordsV d (nn : Int) = (wk d nn x.1) := by
       unfold WordsV; rw [if_pos ⟨(errV_iff d).2 hv, by omega, by omega⟩]; rw [Int.toNat_natCast]; exact wk_end hg0.1 (by omega)
      rw [e]; rfl

end Go.Proofs.YtckicbgffhbacaaDoor
