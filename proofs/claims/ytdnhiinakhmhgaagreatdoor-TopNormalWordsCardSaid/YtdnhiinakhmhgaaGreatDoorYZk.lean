import Derived.Test.YtdnhiinakhmhgaaGreatDoorYZj
import Derived.Test.YtdnhiinakhmhgaaGreatDoorYZg
import Derived.Test.YtdnhiinakhmhgaaGreatDoorYZd
set_option linter.unusedVariables false
set_option linter.unusedSimpArgs false
set_option maxRecDepth 100000
namespace Go.Proofs.YtdnhiinakhmhgaaGreatDoor
open Go.Sx Go.RowKit
theorem noesc : NoEsc Tryz.prog 189 := ⟨_, Tryz.func189, by kernel_rfl, by kernel_rfl, by kernel_rfl, by kernel_rfl⟩
theorem s_cc0 (w : World) (F : Nat → Prop) (b : Nat) (v : Value) (sv1 : IsSl v) (hA : (box b 187 2 [.pointer none, v]).holds w F) : CallM Tryz.prog 178 [.pointer (some ⟨b, 0, none⟩)] w F (fun r A o => A = box b 187 2 [.pointer (some ⟨b, 0, none⟩), v] ∧ o = []) := by
 refine specM_of Tryz.func178 rfl (leb rfl) hA ?_
 refine .sr fun _ hK1 => ?_
 refine .mv rfl (.v (.nilCheck rfl) (.v (.fieldAddr fd187_0 rfl) (.v (.loadBox on185 rfl bsp rfl) ?_)))
 refine .v (.eqlNilNil (by kernel_rfl) rfl rfl) ?_
 refine .nt hK1 ?_
 refine AK.cond_t rfl (rfl) ?_
 refine AK.region ?_
 refine .mv rfl (.mv rfl ?_)
 refine .v (.toUnsafe (te := 187) (cs := [.pointer none, v]) (by kernel_rfl) (by kernel_rfl) (by kernel_rfl) rfl bsp (leb rfl)) ?_
 refine .v (.noEsc noesc rfl) ?_
 refine .v (.fromUnsafe 0 (u := 187) rfl (by kernel_rfl) (by kernel_rfl) (by kernel_rfl) (by kernel_rfl) rfl) ?_
 refine .v (.nilCheck rfl) (.v (.fieldAddr fd187_0 rfl) ?_)
 refine AK.storeBox 0 (us := [.pointer (some ⟨b, 0, none⟩)]) (cs' := [.pointer (some ⟨b, 0, none⟩), v]) rfl sz185 rfl rfl rfl rfl oneP (leb rfl) rfl trivial ?_
 refine .nil ?_
 refine AK.endG [] rfl (.nil) (fun w hw => ⟨_, _, _, ?_, rfl, Ret.of (hw.pick [0] (by decide) rfl rfl)⟩)
 exact ⟨rfl, rfl⟩

theorem s_cc1 (w : World) (F : Nat → Prop) (b : Nat) (v : Value) (sv1 : IsSl v) (hA : (box b 187 2 [.pointer (some ⟨b, 0, none⟩), v]).holds w F) : CallM Tryz.prog 178 [.pointer (some ⟨b, 0, none⟩)] w F (fun r A o => A = box b 187 2 [.pointer (some ⟨b, 0, none⟩), v] ∧ o = []) := by
 refine specM_of Tryz.func178 rfl (leb rfl) hA ?_
 refine .sr fun _ hK1 => ?_
 refine .mv rfl (.v (.nilCheck rfl) (.v (.fieldAddr fd187_0 rfl) (.v (.loadBox on185 rfl bsp rfl) ?_)))
 refine .v (.eqlSomeNil (by kernel_rfl) rfl rfl) ?_
 refine .nt hK1 ?_
 refine AK.cond_f rfl (rfl) ?_
 refine .sr fun _ hK2 => ?_
 refine .mv rfl (.v (.nilCheck rfl) (.v (.fieldAddr fd187_0 rfl) (.v (.loadBox on185 rfl bsp rfl) (.mv rfl ?_))))
 refine .v (.neqPtrSame (te := 187) (by kernel_rfl) (by kernel_rfl) rfl rfl) ?_
 refine .nt hK2 ?_
 refine AK.cond_f rfl (rfl) ?_
 refine .skip ?_
 refine AK.endG [] rfl (.nil) (fun w hw => ⟨_, _, _, ?_, rfl, Ret.of (hw.pick [0] (by decide) rfl rfl)⟩)
 exact ⟨rfl, rfl⟩

theorem s_copycheck (w : World) (F : Nat → Prop) (b : Nat) (v : Value) (sv1 : IsSl v) (ad : Value) (had : adOk b ad) (hA : (box b 187 2 [ad, v]).holds w F) : CallM Tryz.prog 178 [.pointer (some ⟨b, 0, none⟩)] w F (fun r A o => A = box b 187 2 [.pointer (some ⟨b, 0, none⟩), v] ∧ o = []) := by
  rcases had with rfl | rfl
  · exact s_cc0 w F b v sv1 hA
  · exact s_cc1 w F b v sv1 hA
set_option maxHeartbeats 400000 in
theorem s_wbyte (w : World) (F : Nat → Prop) (b : Nat) (ad v : Value) (l : List UInt8) (had : adOk b ad) (sv1 : IsSl v) (hA : (bldA 187 5 b ad v l).holds w F) (c : UInt8) (hl : l.length + 1 ≤ 140737488355328) : CallM Tryz.prog 155 [.pointer (some ⟨b, 0, none⟩), .int .u8 (c.toNat : Int)] w F (fun r A o => ∃ v', IsSl v' ∧ A = bldA 187 5 b (.pointer (some ⟨b, 0, none⟩)) v' (l ++ [c]) ∧ o = []) := by
 refine specM_of' Tryz.func155 rfl (leb rfl) hA ?_
 refine .sr fun _ hK1 => ?_
 refine .as rfl (.nt hK1 ?_)
 refine .sr fun _ hK2 => ?_
 refine .mv rfl ?_
 refine AK.callN 0 rfl co178 rfl (fun w Fs hw hh hfr hal => s_copycheck w (Fs 0) b v sv1 ad had (hh.at_ 0 _ rfl)) trivial rfl ?_
 rintro r A o ⟨rfl, rfl⟩
 refine .nt hK2 ?_
 refine .sr fun _ hK3 => ?_
 refine .mv rfl (.mv rfl (.v (.nilCheck rfl) (.v (.fieldAddr fd187_1 rfl) (.v (.loadBox on23 rfl bsp rfl) (.mv rfl ?_)))))
 refine AK.append1 1 rfl sl23 el5 rfl (by decide) rfl (by intro k hk; cases hk; rfl) rfl (one'_cons rfl one'_nil) (by omega) (by omega) (by decide) rfl rfl (fun v2 _ sv2 => ?_)
 refine .v (.nilCheck rfl) (.v (.fieldAddr fd187_1 rfl) ?_)
 refine AK.storeBox 0 (us := [v2]) (cs' := [.pointer (some ⟨b, 0, none⟩), v2]) rfl sz23 rfl rfl (by rw [IsSl.cells sv2]) rfl oneP (leb rfl) rfl trivial ?_
 refine .nt hK3 ?_
 refine .sr fun _ hK4 => ?_
 refine .as rfl (.nt hK4 (.ret ?_))
 refine AK.ret1 rfl rfl (fun w hw => ⟨_, _, _, ?_, rfl, Ret.ofBig0 (hw.pick [0, 1] (by decide) rfl rfl)⟩)
 exact ⟨v2, sv2, bldA_snoc 187 5 b _ v2 l [c], rfl⟩

set_option maxHeartbeats 400000 in
theorem s_wstr (w : World) (F : Nat → Prop) (b : Nat) (ad v : Value) (l : List UInt8) (had : adOk b ad) (sv1 : IsSl v) (hA : (bldA 187 5 b ad v l).holds w F) (m : List UInt8) (hl : l.length + m.length ≤ 140737488355328) : CallM Tryz.prog 179 [.pointer (some ⟨b, 0, none⟩), sv m] w F (fun r A o => ∃ v', IsSl v' ∧ A = bldA 187 5 b (.pointer (some ⟨b, 0, none⟩)) v' (l ++ m) ∧ o = []) := by
 refine specM_of' Tryz.func179 rfl (leb rfl) hA ?_
 refine .sr fun _ hK1 => ?_
 refine .as rfl (.as rfl (.nt hK1 ?_))
 refine .sr fun _ hK2 => ?_
 refine .mv rfl ?_
 refine AK.callN 0 rfl co178 rfl (fun w Fs hw hh hfr hal => s_copycheck w (Fs 0) b v sv1 ad had (hh.at_ 0 _ rfl)) trivial rfl ?_
 rintro r A o ⟨rfl, rfl⟩
 refine .nt hK2 ?_
 refine .sr fun _ hK3 => ?_
 refine .mv rfl (.mv rfl (.v (.nilCheck rfl) (.v (.fieldAddr fd187_1 rfl) (.v (.loadBox on23 rfl bsp rfl) (.mv rfl ?_)))))
 refine AK.appendStr 1 rfl sl23 el5 un9 rfl rfl (by omega) trivial rfl (fun v2 => ?_)
 refine AK.shape 1 rfl (fun sv2 => ?_)
 refine .v (.nilCheck rfl) (.v (.fieldAddr fd187_1 rfl) ?_)
 refine AK.storeBox 0 (us := [v2]) (cs' := [.pointer (some ⟨b, 0, none⟩), v2]) rfl sz23 rfl rfl (by rw [IsSl.cells sv2]) rfl oneP (leb rfl) rfl trivial ?_
 refine .nt hK3 ?_
 refine .sr fun _ hK4 => ?_
 refine .mv rfl (.v (.lenS un9 rfl) (.as rfl (.as rfl (.nt hK4 (.ret ?_)))))
 refine AK.ret2 rfl rfl rfl (fun w hw => ⟨_, _, _, ?_, rfl, Ret.ofBig0 (hw.pick [0, 1] (by decide) rfl rfl)⟩)
 exact ⟨v2, sv2, bldA_snoc 187 5 b _ v2 l m, rfl⟩

def WrS (e : Ex) : Prop := ∀ (w : World) (F : Nat → Prop) (b : Nat) (ad v : Value) (l : List UInt8) (had : adOk b ad) (sv1 : IsSl v) (hA : (bldA 187 5 b ad v l).holds w F) (s : Value) (h : RdK (cellR F w) s e.kids) (hwf : wfE 6 e = true) (hl : l.length + (wrE e).length ≤ 1099511627776), CallM Tryz.prog 121 [.pointer (some ⟨b, 0, none⟩), .agg #[.int .i64 e.op, .int .i64 e.lt, s]] w F (fun r A o => ∃ ad' v', adOk b ad' ∧ IsSl v' ∧ A = bldA 187 5 b ad' v' (l ++ wrE e) ∧ o = [])
set_option maxHeartbeats 2000000 in
theorem s_wkids (w : World) (F : Nat → Prop) (b : Nat) (ad v : Value) (l : List UInt8) (had : adOk b ad) (sv1 : IsSl v) (hA : (bldA 187 5 b ad v l).holds w F) (s : Value) (ks : List Ex) (ih : ∀ i, i < ks.length → WrS (ks.getD i default)) (sep : List UInt8) (least : Int) (h : RdK (cellR F w) s ks) (hwf : ∀ i, i < ks.length → wfE 6 (ks.getD i default) = true) (hl : l.length + (wrL sep least false ks).length ≤ 1099511627776) : CallM Tryz.prog 156 [.pointer (some ⟨b, 0, none⟩), s, sv sep, .int .i64 least] w F (fun r A o => ∃ ad' v', adOk b ad' ∧ IsSl v' ∧ A = bldA 187 5 b ad' v' (l ++ wrL sep least false ks) ∧ o = []) := by
 obtain ⟨ss, hsl, hx, hk⟩ := h.inv
 have hr := hx.rd
 have hm := hr.le
 refine specM_of Tryz.func156 rfl (leb rfl) hA ?_
 refine .sr fun _ hK1 => ?_
 refine .mv rfl (.v (.lenR sl63 rfl rdp) (.mv rfl (.nt hK1 (.block ?_))))
 refine AK.loopK (X := Nat × Value × Value) [(0, _), (2, _), (3, _), (10, _), (11, _)] (fun x => [(12, .int .i64 (x.1 : Int))]) (fun x => [bldA 187 5 b x.2.1 x.2.2 (l ++ (wrL sep least false (ks.take x.1)))]) (fun x => x.1 ≤ ks.length ∧ adOk b x.2.1 ∧ IsSl x.2.2) (fun x => ks.length - x.1) ((0, ad, v)) slr ?_ ?_ ?_ ?_
 ·exact ⟨Nat.zero_le _, had, sv1⟩
 ·exact slr
 ·exact fun w hw => by simpa [wrL] using hw
 ·intro x hg0 _ hK2
  refine .sr fun _ hK3 => ?_
  refine .v (.lss rfl rfl) (.nt hK3 ?_)
  refine .seq fun _ hK4 => ?_
  refine AK.condD rfl (fun hc0 => ?_) (fun hc0 => ?_)
  ·have hkl : x.1 < ks.length := by omega
   have sk := (hk x.1 hkl).sl
   have hbw := wrL_take sep least ks x.1 hkl
   have hle := wrL_le sep least ks (x.1 + 1)
   rw [hbw, List.length_append, List.length_append] at hle
   have hbl := bodyW_len least (ks.getD x.1 default)
   refine .skip ?_
   refine AK.then_ (hK4 _ ?_)
   refine .seq fun _ hK5 => ?_
   refine .block ?_
   refine .sr fun _ hK6 => ?_
   refine .mv rfl ?_
   first | refine .v (.iN sl63 rfl rfl) ?_ | refine .v (.iK sl63 rfl rfl) ?_
   refine .v (.loadE ag65 rfl rdp (by assumption) rfl (by omega)) ?_
   refine AK.alloc el65 rfl rfl trivial rfl (fun bx9 => ?_)
   refine .as rfl ?_
   refine AK.storeBox 1 (us := [.int .i64 (ks.getD x.1 default).op, .int .i64 (ks.getD x.1 default).lt, ss.getD x.1 undef]) (cs' := [.int .i64 (ks.getD x.1 default).op, .int .i64 (ks.getD x.1 default).lt, ss.getD x.1 undef]) rfl sz65 rfl rfl rfl rfl oneP (leb rfl) rfl trivial ?_
   refine .nt hK6 ?_
   refine .seq fun _ hK7 => ?_
   refine .sr fun _ hK8 => ?_
   refine .mv rfl (.v (.gtr rfl rfl) (.nt hK8 ?_))
   refine AK.condD rfl (fun hc1 => ?_) (fun hc1 => ?_)
   ·rw [if_pos (show 0 < x.1 by omega)] at hle hbw
    refine AK.region ?_
    refine .mv rfl (.mv rfl ?_)
    refine AK.callN 0 rfl co179 rfl (fun w Fs hw hh hfr hal => s_wstr w (Fs 0) b x.2.1 x.2.2 (l ++ (wrL sep least false (ks.take x.1))) hg0.2.1 hg0.2.2 (hh.at_ 0 _ rfl) sep (by rw [List.length_append]; omega)) trivial rfl ?_
    rintro r A o ⟨v2, sv2, rfl, rfl⟩
    refine .nt hK7 ?_
    refine .seq fun _ hK9 => ?_
    refine .sr fun _ hK10 => ?_
    refine .v (.fieldAddr fd65_0 rfl) (.v (.loadBox on3 rfl bsp rfl) ?_)
    refine AK.call co180 rfl (fun w hw => s_level w _) trivial rfl ?_
    rintro r o ⟨rfl, rfl⟩
    refine .mv rfl (.v (.geq rfl rfl) (.nt hK10 ?_))
    refine AK.condD rfl (fun hc2 => ?_) (fun hc2 => ?_)
    ·have hbd : bodyW least (ks.getD x.1 default) = wrE (ks.getD x.1 default) := if_pos (by omega)
     refine .sr fun _ hK11 => ?_
     refine .mv rfl (.v (.loadBoxG ag65 rfl bsp rfl rfl) ?_)
     refine AK.callN 0 rfl co121 rfl (fun w Fs hw hh hfr hal => ih x.1 hkl w (Fs 0) b _ v2 _ (.inr rfl) sv2 (hh.at_ 0 _ rfl) _ ((hk x.1 hkl).atN hfr hal 0) (hwf x.1 hkl) (by simp only [List.length_append]; omega)) trivial rfl ?_
     rintro r A o ⟨ad3, v3, had3, sv3, rfl, rfl⟩
     refine .nt hK11 (.exit (.then_exit (.block_exit ?_)))
     refine AK.then_ (hK5 _ ?_)
     refine AK.region ?_
     refine .v (.add rfl rfl (by omega)) ?_
     refine .mv rfl (.nil ?_)
     refine AK.then_ (hK2 _ _ ((x.1 + 1, ad3, v3)) ⟨by dsimp only; omega, had3, sv3⟩ (by dsimp only; omega) (slr) (fun w hw => by have h := hw.pick [0] (by decide) rfl rfl; dsimp only; rw [hbw, hbd]; simpa [List.append_assoc] using h))
    ·have hbd : bodyW least (ks.getD x.1 default) = 40 :: (wrE (ks.getD x.1 default) ++ [41]) := if_neg (by omega)
     have hbl2 : (bodyW least (ks.getD x.1 default)).length = (wrE (ks.getD x.1 default)).length + 2 := by rw [hbd]; simp
     refine .skip ?_
     refine AK.then_ (hK9 _ ?_)
     refine .sr fun _ hK12 => ?_
     refine .mv rfl ?_
     refine AK.callN 0 rfl co155 rfl (fun w Fs hw hh hfr hal => s_wbyte w (Fs 0) b _ v2 _ (.inr rfl) sv2 (hh.at_ 0 _ rfl) 40 (by simp only [List.length_append]; omega)) trivial rfl ?_
     rintro r A o ⟨v3, sv3, rfl, rfl⟩
     refine .nt hK12 ?_
     refine .sr fun _ hK13 => ?_
     refine .mv rfl (.v (.loadBoxG ag65 rfl bsp rfl rfl) ?_)
     refine AK.callN 0 rfl co121 rfl (fun w Fs hw hh hfr hal => ih x.1 hkl w (Fs 0) b _ v3 _ (.inr rfl) sv3 (hh.at_ 0 _ rfl) _ ((hk x.1 hkl).atN hfr hal 0) (hwf x.1 hkl) (by simp only [List.length_append, List.length_singleton]; omega)) trivial rfl ?_
     rintro r A o ⟨ad4, v4, had4, sv4, rfl, rfl⟩
     refine .nt hK13 ?_
     refine AK.region ?_
     refine .mv rfl ?_
     refine AK.callN 0 rfl co155 rfl (fun w Fs hw hh hfr hal => s_wbyte w (Fs 0) b ad4 v4 _ had4 sv4 (hh.at_ 0 _ rfl) 41 (by simp only [List.length_append, List.length_singleton]; omega)) trivial rfl ?_
     rintro r A o ⟨v5, sv5, rfl, rfl⟩
     refine .nil (.block_normal ?_)
     refine AK.then_ (hK5 _ ?_)
     refine AK.region ?_
     refine .v (.add rfl rfl (by omega)) ?_
     refine .mv rfl (.nil ?_)
     refine AK.then_ (hK2 _ _ ((x.1 + 1, .pointer (some ⟨b, 0, none⟩), v5)) ⟨by dsimp only; omega, .inr rfl, sv5⟩ (by dsimp only; omega) (slr) (fun w hw => by have h := hw.pick [0] (by decide) rfl rfl; dsimp only; rw [hbw, hbd]; simpa [List.append_assoc] using h))
   ·rw [if_neg (show ¬ 0 < x.1 by omega)] at hle hbw
    simp only [List.length_nil, Nat.zero_add] at hle
    refine .skip ?_
    refine AK.then_ (hK7 _ ?_)
    refine .seq fun _ hK14 => ?_
    refine .sr fun _ hK15 => ?_
    refine .v (.fieldAddr fd65_0 rfl) (.v (.loadBox on3 rfl bsp rfl) ?_)
    refine AK.call co180 rfl (fun w hw => s_level w _) trivial rfl ?_
    rintro r o ⟨rfl, rfl⟩
    refine .mv rfl (.v (.geq rfl rfl) (.nt hK15 ?_))
    refine AK.condD rfl (fun hc2 => ?_) (fun hc2 => ?_)
    ·have hbd : bodyW least (ks.getD x.1 default) = wrE (ks.getD x.1 default) := if_pos (by omega)
     refine .sr fun _ hK16 => ?_
     refine .mv rfl (.v (.loadBoxG ag65 rfl bsp rfl rfl) ?_)
     refine AK.callN 0 rfl co121 rfl (fun w Fs hw hh hfr hal => ih x.1 hkl w (Fs 0) b x.2.1 x.2.2 _ hg0.2.1 hg0.2.2 (hh.at_ 0 _ rfl) _ ((hk x.1 hkl).atN hfr hal 0) (hwf x.1 hkl) (by simp only [List.length_append]; omega)) trivial rfl ?_
     rintro r A o ⟨ad3, v3, had3, sv3, rfl, rfl⟩
     refine .nt hK16 (.exit (.then_exit (.block_exit ?_)))
     refine AK.then_ (hK5 _ ?_)
     refine AK.region ?_
     refine .v (.add rfl rfl (by omega)) ?_
     refine .mv rfl (.nil ?_)
     refine AK.then_ (hK2 _ _ ((x.1 + 1, ad3, v3)) ⟨by dsimp only; omega, had3, sv3⟩ (by dsimp only; omega) (slr) (fun w hw => by have h := hw.pick [0] (by decide) rfl rfl; dsimp only; rw [hbw, hbd]; simpa [List.append_assoc] using h))
    ·have hbd : bodyW least (ks.getD x.1 default) = 40 :: (wrE (ks.getD x.1 default) ++ [41]) := if_neg (by omega)
     have hbl2 : (bodyW least (ks.getD x.1 default)).length = (wrE (ks.getD x.1 default)).length + 2 := by rw [hbd]; simp
     refine .skip ?_
     refine AK.then_ (hK14 _ ?_)
     refine .sr fun _ hK17 => ?_
     refine .mv rfl ?_
     refine AK.callN 0 rfl co155 rfl (fun w Fs hw hh hfr hal => s_wbyte w (Fs 0) b x.2.1 x.2.2 _ hg0.2.1 hg0.2.2 (hh.at_ 0 _ rfl) 40 (by simp only [List.length_append]; omega)) trivial rfl ?_
     rintro r A o ⟨v3, sv3, rfl, rfl⟩
     refine .nt hK17 ?_
     refine .sr fun _ hK18 => ?_
     refine .mv rfl (.v (.loadBoxG ag65 rfl bsp rfl rfl) ?_)
     refine AK.callN 0 rfl co121 rfl (fun w Fs hw hh hfr hal => ih x.1 hkl w (Fs 0) b _ v3 _ (.inr rfl) sv3 (hh.at_ 0 _ rfl) _ ((hk x.1 hkl).atN hfr hal 0) (hwf x.1 hkl) (by simp only [List.length_append, List.length_singleton]; omega)) trivial rfl ?_
     rintro r A o ⟨ad4, v4, had4, sv4, rfl, rfl⟩
     refine .nt hK18 ?_
     refine AK.region ?_
     refine .mv rfl ?_
     refine AK.callN 0 rfl co155 rfl (fun w Fs hw hh hfr hal => s_wbyte w (Fs 0) b ad4 v4 _ had4 sv4 (hh.at_ 0 _ rfl) 41 (by simp only [List.length_append, List.length_singleton]; omega)) trivial rfl ?_
     rintro r A o ⟨v5, sv5, rfl, rfl⟩
     refine .nil (.block_normal ?_)
     refine AK.then_ (hK5 _ ?_)
     refine AK.region ?_
     refine .v (.add rfl rfl (by omega)) ?_
     refine .mv rfl (.nil ?_)
     refine AK.then_ (hK2 _ _ ((x.1 + 1, .pointer (some ⟨b, 0, none⟩), v5)) ⟨by dsimp only; omega, .inr rfl, sv5⟩ (by dsimp only; omega) (slr) (fun w hw => by have h := hw.pick [0] (by decide) rfl rfl; dsimp only; rw [hbw, hbd]; simpa [List.append_assoc] using h))
  ·refine .exit (.then_exit (.then_exit (.block_exit ?_)))
   refine AK.endG [] rfl (.nil) (fun w hw => ⟨_, _, _, ?_, rfl, Ret.of (hw.pick [0] (by decide) rfl rfl)⟩)
   have e1 : x.1 = ks.length := by omega
   rw [e1, List.take_length]
   exact ⟨x.2.1, x.2.2, hg0.2.1, hg0.2.2, rfl, rfl⟩

set_option maxHeartbeats 2000000 in
theorem s_write_step (e : Ex) (ih : ∀ i, i < e.kids.length → WrS (e.kids.getD i default)) (w : World) (F : Nat → Prop) (b : Nat) (ad v : Value) (l : List UInt8) (had : adOk b ad) (sv1 : IsSl v) (hA : (bldA 187 5 b ad v l).holds w F) (s : Value) (h : RdK (cellR F w) s e.kids) (hwf : wfE 6 e = true) (hl : l.length + (wrE e).length ≤ 1099511627776) : CallM Tryz.prog 121 [.pointer (some ⟨b, 0, none⟩), .agg #[.int .i64 e.op, .int .i64 e.lt, s]] w F (fun r A o => ∃ ad' v', adOk b ad' ∧ IsSl v' ∧ A = bldA 187 5 b ad' v' (l ++ wrE e) ∧ o = []) := by
 refine specM_of Tryz.func121 rfl (leb rfl) hA ?_
 refine .sr fun _ hK1 => ?_
 refine AK.box_ (E := 65) rfl rfl rfl trivial rfl (fun bx3 => ?_)
 refine .nt hK1 ?_
 refine .sr fun _ hK2 => ?_
 refine .v (.fieldAddr fd65_0 rfl) (.v (.loadBox on3 rfl bsp rfl) (.nt hK2 (.block ?_)))
 refine .sr fun _ hK3 => ?_
 refine .v (.eql rfl rfl) (.as rfl (.nt hK3 ?_))
 refine AK.condD rfl (fun hc0 => ?_) (fun hc0 => ?_)
 ·have hwr : wrE e = [48] := by rw [wrE_eq, if_pos hc0]
  rw [hwr] at hl ⊢
  simp only [List.length_singleton] at hl
  refine AK.region ?_
  refine .mv rfl ?_
  refine AK.callN 0 rfl co155 rfl (fun w Fs hw hh hfr hal => s_wbyte w (Fs 0) b ad v l had sv1 (hh.at_ 0 _ rfl) 48 (by omega)) trivial rfl ?_
  rintro r A o ⟨v2, sv2, rfl, rfl⟩
  refine .nil (.block_normal ?_)
  refine AK.endG [] rfl (.nil) (fun w hw => ⟨_, _, _, ?_, rfl, Ret.of (hw.pick [0] (by decide) rfl rfl)⟩)
  exact ⟨_, v2, .inr rfl, sv2, rfl, rfl⟩
 ·refine .sr fun _ hK4 => ?_
  refine .v (.eql rfl rfl) (.as rfl (.nt hK4 ?_))
  refine AK.condD rfl (fun hc1 => ?_) (fun hc1 => ?_)
  ·have hwr : wrE e = [49] := by rw [wrE_eq, if_neg hc0, if_pos hc1]
   rw [hwr] at hl ⊢
   simp only [List.length_singleton] at hl
   refine AK.region ?_
   refine .mv rfl ?_
   refine AK.callN 0 rfl co155 rfl (fun w Fs hw hh hfr hal => s_wbyte w (Fs 0) b ad v l had sv1 (hh.at_ 0 _ rfl) 49 (by omega)) trivial rfl ?_
   rintro r A o ⟨v2, sv2, rfl, rfl⟩
   refine .nil (.block_normal ?_)
   refine AK.endG [] rfl (.nil) (fun w hw => ⟨_, _, _, ?_, rfl, Ret.of (hw.pick [0] (by decide) rfl rfl)⟩)
   exact ⟨_, v2, .inr rfl, sv2, rfl, rfl⟩
  ·refine .sr fun _ hK5 => ?_
   refine .v (.eql rfl rfl) (.as rfl (.nt hK5 ?_))
   refine AK.condD rfl (fun hc2 => ?_) (fun hc2 => ?_)
   ·have hwr : wrE e = [97 + UInt8.ofNat e.lt.toNat] := by rw [wrE_eq, if_neg hc0, if_neg hc1, if_pos hc2]
    rw [hwr] at hl ⊢
    simp only [List.length_singleton] at hl
    have hlt := wf_letter hwf hc2
    refine AK.region ?_
    refine .mv rfl (.v (.fieldAddr fd65_1 rfl) (.v (.loadBox on3 rfl bsp rfl) ?_))
    refine .v (.convI (by kernel_rfl) un5 rfl (wrap_u8 (by omega))) ?_
    refine .v (.addU8 rfl rfl (by omega)) ?_
    refine AK.callN 0 rfl co155 rfl (fun w Fs hw hh hfr hal => (by have h := s_wbyte w (Fs 0) b ad v l had sv1 (hh.at_ 0 _ rfl) (97 + UInt8.ofNat e.lt.toNat) (by omega); rw [ltr97 hlt] at h; exact h)) trivial rfl ?_
    rintro r A o ⟨v2, sv2, rfl, rfl⟩
    refine .nil (.block_normal ?_)
    refine AK.endG [] rfl (.nil) (fun w hw => ⟨_, _, _, ?_, rfl, Ret.of (hw.pick [0] (by decide) rfl rfl)⟩)
    exact ⟨_, v2, .inr rfl, sv2, rfl, rfl⟩
   ·refine .sr fun _ hK6 => ?_
    refine .v (.eql rfl rfl) (.as rfl (.nt hK6 ?_))
    refine AK.condD rfl (fun hc3 => ?_) (fun hc3 => ?_)
    ·have hwr : wrE e = wrL [124] 2 false e.kids := by rw [wrE_eq, if_neg hc0, if_neg hc1, if_neg hc2, if_pos hc3]
     rw [hwr] at hl ⊢
     refine AK.region ?_
     refine .mv rfl (.v (.fieldAddr fd65_2 rfl) (.v (.loadBox on63 rfl bsp rfl) ?_))
     refine AK.callN 0 rfl co156 rfl (fun w Fs hw hh hfr hal => s_wkids w (Fs 0) b ad v l had sv1 (hh.at_ 0 _ rfl) s e.kids ih [124] 2 (h.atN hfr hal 0) (fun i hi => wf_kid hwf hi) (by (try simp only [List.length_append, List.length_singleton]); omega)) trivial rfl ?_
     rintro r A o ⟨ad3, v3, had3, sv3, rfl, rfl⟩
     refine .nil (.block_normal ?_)
     refine AK.endG [] rfl (.nil) (fun w hw => ⟨_, _, _, ?_, rfl, Ret.of (hw.pick [0] (by decide) rfl rfl)⟩)
     exact ⟨ad3, v3, had3, sv3, rfl, rfl⟩
    ·refine .sr fun _ hK7 => ?_
     refine .v (.eql rfl rfl) (.as rfl (.nt hK7 ?_))
     refine AK.condD rfl (fun hc4 => ?_) (fun hc4 => ?_)
     ·have hwr : wrE e = wrL [38] 3 false e.kids := by rw [wrE_eq, if_neg hc0, if_neg hc1, if_neg hc2, if_neg hc3, if_pos hc4]
      rw [hwr] at hl ⊢
      refine AK.region ?_
      refine .mv rfl (.v (.fieldAddr fd65_2 rfl) (.v (.loadBox on63 rfl bsp rfl) ?_))
      refine AK.callN 0 rfl co156 rfl (fun w Fs hw hh hfr hal => s_wkids w (Fs 0) b ad v l had sv1 (hh.at_ 0 _ rfl) s e.kids ih [38] 3 (h.atN hfr hal 0) (fun i hi => wf_kid hwf hi) (by (try simp only [List.length_append, List.length_singleton]); omega)) trivial rfl ?_
      rintro r A o ⟨ad3, v3, had3, sv3, rfl, rfl⟩
      refine .nil (.block_normal ?_)
      refine AK.endG [] rfl (.nil) (fun w hw => ⟨_, _, _, ?_, rfl, Ret.of (hw.pick [0] (by decide) rfl rfl)⟩)
      exact ⟨ad3, v3, had3, sv3, rfl, rfl⟩
     ·refine .sr fun _ hK8 => ?_
      refine .v (.eql rfl rfl) (.as rfl (.nt hK8 ?_))
      refine AK.condD rfl (fun hc5 => ?_) (fun hc5 => ?_)
      ·have hwr : wrE e = wrL [] 4 false e.kids := by rw [wrE_eq, if_neg hc0, if_neg hc1, if_neg hc2, if_neg hc3, if_neg hc4, if_pos hc5]
       rw [hwr] at hl ⊢
       refine AK.region ?_
       refine .mv rfl (.v (.fieldAddr fd65_2 rfl) (.v (.loadBox on63 rfl bsp rfl) ?_))
       refine AK.callN 0 rfl co156 rfl (fun w Fs hw hh hfr hal => s_wkids w (Fs 0) b ad v l had sv1 (hh.at_ 0 _ rfl) s e.kids ih [] 4 (h.atN hfr hal 0) (fun i hi => wf_kid hwf hi) (by (try simp only [List.length_append, List.length_singleton]); omega)) trivial rfl ?_
       rintro r A o ⟨ad3, v3, had3, sv3, rfl, rfl⟩
       refine .nil (.block_normal ?_)
       refine AK.endG [] rfl (.nil) (fun w hw => ⟨_, _, _, ?_, rfl, Ret.of (hw.pick [0] (by decide) rfl rfl)⟩)
       exact ⟨ad3, v3, had3, sv3, rfl, rfl⟩
      ·refine .sr fun _ hK9 => ?_
       refine .v (.eql rfl rfl) (.as rfl (.nt hK9 ?_))
       refine AK.condD rfl (fun hc6 => ?_) (fun hc6 => ?_)
       ·have hwr : wrE e = 33 :: wrL [] 4 false e.kids := by rw [wrE_eq, if_neg hc0, if_neg hc1, if_neg hc2, if_neg hc3, if_neg hc4, if_neg hc5, if_pos hc6]
        rw [hwr] at hl ⊢
        simp only [List.length_cons] at hl
        refine .sr fun _ hK10 => ?_
        refine .mv rfl ?_
        refine AK.callN 0 rfl co155 rfl (fun w Fs hw hh hfr hal => s_wbyte w (Fs 0) b ad v l had sv1 (hh.at_ 0 _ rfl) 33 (by omega)) trivial rfl ?_
        rintro r A o ⟨v2, sv2, rfl, rfl⟩
        refine .nt hK10 ?_
        refine AK.region ?_
        refine .mv rfl (.v (.fieldAddr fd65_2 rfl) (.v (.loadBox on63 rfl bsp rfl) ?_))
        refine AK.callN 0 rfl co156 rfl (fun w Fs hw hh hfr hal => s_wkids w (Fs 0) b _ v2 _ (.inr rfl) sv2 (hh.at_ 0 _ rfl) s e.kids ih [] 4 (h.atN hfr hal 0) (fun i hi => wf_kid hwf hi) (by (try simp only [List.length_append, List.length_singleton]); omega)) trivial rfl ?_
        rintro r A o ⟨ad3, v3, had3, sv3, rfl, rfl⟩
        refine .nil (.block_normal ?_)
        refine AK.endG [] rfl (.nil) (fun w hw => ⟨_, _, _, ?_, rfl, Ret.of (hw.pick [0] (by decide) rfl rfl)⟩)
        exact ⟨ad3, v3, had3, sv3, by simp, rfl⟩
       ·refine .sr fun _ hK11 => ?_
        refine .v (.eql rfl rfl) (.as rfl (.nt hK11 ?_))
        refine AK.condD rfl (fun hc7 => ?_) (fun hc7 => ?_)
        ·have hwr : wrE e = wrL [] 5 false e.kids ++ [42] := by rw [wrE_eq, if_neg hc0, if_neg hc1, if_neg hc2, if_neg hc3, if_neg hc4, if_neg hc5, if_neg hc6, if_pos hc7]
         rw [hwr] at hl ⊢
         simp only [List.length_append, List.length_singleton] at hl
         refine .sr fun _ hK12 => ?_
         refine .mv rfl (.v (.fieldAddr fd65_2 rfl) (.v (.loadBox on63 rfl bsp rfl) ?_))
         refine AK.callN 0 rfl co156 rfl (fun w Fs hw hh hfr hal => s_wkids w (Fs 0) b ad v l had sv1 (hh.at_ 0 _ rfl) s e.kids ih [] 5 (h.atN hfr hal 0) (fun i hi => wf_kid hwf hi) (by (try simp only [List.length_append, List.length_singleton]); omega)) trivial rfl ?_
         rintro r A o ⟨ad3, v3, had3, sv3, rfl, rfl⟩
         refine .nt hK12 ?_
         refine AK.region ?_
         refine .mv rfl ?_
         refine AK.callN 0 rfl co155 rfl (fun w Fs hw hh hfr hal => s_wbyte w (Fs 0) b ad3 v3 _ had3 sv3 (hh.at_ 0 _ rfl) 42 (by simp only [List.length_append]; omega)) trivial rfl ?_
         rintro r A o ⟨v4, sv4, rfl, rfl⟩
         refine .nil (.block_normal ?_)
         refine AK.endG [] rfl (.nil) (fun w hw => ⟨_, _, _, ?_, rfl, Ret.of (hw.pick [0] (by decide) rfl rfl)⟩)
         exact ⟨_, v4, .inr rfl, sv4, by simp, rfl⟩
        ·refine .skip (.block_normal ?_)
         refine AK.endG [] rfl (.nil) (fun w hw => ⟨_, _, _, ?_, rfl, Ret.of (hw.pick [0] (by decide) rfl rfl)⟩)
         rw [wrE_eq, if_neg hc0, if_neg hc1, if_neg hc2, if_neg hc3, if_neg hc4, if_neg hc5, if_neg hc6, if_neg hc7, List.append_nil]
         exact ⟨ad, v, had, sv1, rfl, rfl⟩

theorem s_write (e : Ex) : WrS e := Ex.ind (P := WrS) (fun e ih w F b ad v l had sv1 hA s h hwf hl => s_write_step e ih w F b ad v l had sv1 hA s h hwf hl) e
theorem isB {w : World} {own : List Asn} {Fs : Nat → Nat → Prop} {b B : Nat} {ad v : Value} {l : List UInt8} (i : Nat) (hi : own[i]? = some (bldA 187 5 b ad v l)) (hh : HeapAt own Fs w) (hal : ∀ i b, Fs i b → B ≤ b) (had : adOk b ad) : Lib.IsBuilder 187 5 B b (Lib.byteCells l) w := by
  obtain ⟨Gs, gh, gF⟩ := hh.at_ i _ hi
  obtain ⟨⟨h1, _⟩, hF⟩ := gh.at_ 0 _ rfl
  obtain ⟨h2, hG⟩ := gh.at_ 1 _ rfl
  have hb : B ≤ b := hal i b ((gF b).2 ⟨0, (hF b).2 rfl⟩)
  have hl : Lib.byteCells l = l.map byv := by simp [Lib.byteCells, byv]
  have key : Lib.BuilderAt 187 5 B b ad (Lib.byteCells l) w := by
    refine ⟨hb, v, h1, ?_, fun e => ?_⟩
    · rw [hl, List.length_map]
      exact ownsRow_base h2 (fun c hc => hal i c ((gF c).2 ⟨1, (hG c).2 hc⟩))
    · have := gh.apart 0 1 b ((hF b).2 rfl) ((hG b).2 e)
      omega
  rcases had with rfl | rfl
  · exact .inl key
  · exact .inr key
set_option maxHeartbeats 800000 in
theorem s_format (w : World) (e : Ex) (s : Value) (h : RdK (cellR (fun _ => False) w) s e.kids) (t : List UInt8) (ht : fmtE e = some t) : CallS Tryz.prog 98 [.agg #[.int .i64 e.op, .int .i64 e.lt, s]] w (fun r o => r = sv t ∧ o = []) := by
 refine spec_of Tryz.func98 rfl (leb rfl) ?_
 refine .sr fun _ hK1 => ?_
 refine AK.box_ (E := 65) (cs := [.int .i64 e.op, .int .i64 e.lt, s]) rfl rfl rfl trivial rfl (fun bx1 => ?_)
 refine .as rfl (.nt hK1 ?_)
 refine .seq fun _ hK2 => ?_
 refine .sr fun _ hK3 => ?_
 refine .v (.loadBoxG ag65 rfl bsp rfl rfl) ?_
 refine AK.call co64 rfl (fun w hw => s_val6 w e s (h.at hw)) trivial rfl ?_
 rintro r o ⟨rfl, rfl⟩
 refine .v (.not rfl) (.nt hK3 ?_)
 refine AK.condB rfl (fun hc0 => ?_) (fun hc0 => ?_)
 ·rcases fmtE_some ht with ⟨h1, _⟩ | ⟨_, rfl⟩
  ·exact absurd h1 (by simpa using hc0)
  refine .sr fun _ hK4 => ?_
  refine .as rfl (.nt hK4 (.ret (.then_ret ?_)))
  refine AK.ret1 rfl rfl (fun w hw => ⟨_, _, ?_, rfl, Ret.of (hw.pick [] (by decide) rfl rfl)⟩)
  exact ⟨rfl, rfl⟩
 ·obtain ⟨hv0, rfl, hlen⟩ : validE e 6 = 0 ∧ t = wrE e ∧ (wrE e).length ≤ 1073741824 := by
   rcases fmtE_some ht with h1 | ⟨h1, _⟩
   ·exact h1
   ·exact absurd (by simpa using hc0) h1
  refine .skip ?_
  refine AK.then_ (hK2 _ ?_)
  refine .sr fun _ hK5 => ?_
  refine AK.alloc el187 rfl rfl trivial rfl (fun bx3 => ?_)
  refine .nt hK5 ?_
  refine .sr fun _ hK6 => ?_
  refine .v (.loadBoxG ag65 rfl bsp rfl rfl) ?_
  refine AK.ghost 5 1 ?_
  refine AK.own' [bldA 187 5 bx3 (.pointer none) nilV []] (fun w hw => by have h := HW.unflat (l := [_, _]) (own := []) (hw.pick [1, 2] (by decide) rfl rfl); exact h) ?_
  refine AK.callN 0 rfl co121 rfl (fun w Fs hw hh hfr hal => s_write e w (Fs 0) bx3 _ nilV [] (.inl rfl) nilSl (hh.at_ 0 _ rfl) s (h.atN hfr hal 0) (valid_wf hv0) (by simp only [List.length_nil]; omega)) trivial rfl ?_
  rintro r A o ⟨ad2, v2, had2, sv2, rfl, rfl⟩
  refine .nt hK6 ?_
  refine .sr fun _ hK7 => ?_
  refine AK.callLast (v := sv (wrE e)) (fun _ h => h) co122 rfl (fun w hw hsz Fs hh hal => Tryz.Builder_String_any _ bx3 (wrE e) w (isB 0 rfl hh hal had2) hsz) trivial rfl ?_
  refine .as rfl (.nt hK7 (.ret ?_))
  refine AK.ret1 rfl rfl (fun w hw => ⟨_, _, ?_, rfl, Ret.of (hw.pick [] (by decide) rfl rfl)⟩)
  exact ⟨rfl, rfl⟩

end Go.Proofs.YtdnhiinakhmhgaaGreatDoor

namespace Go.Proofs.YtdnhiinakhmhgaaGreatDoor
open Go.Sx Go.RowKit
set_option maxHeartbeats 1000000 in
theorem s_radd (w : World) (F : Nat → Prop) (B : Bs) (l : List Itm) (hB : BsOk B w F) (rb mb : Nat) (vE vN : Value) (es rs : List Value) (q : Run) (hq : RunF vE vN es rs q l) (hA : (bigA (runO 154 65 26 3 rb mb vE vN es rs q B l)).holds w F) (e : Ex) (s : Value) (hm : Itm.deep s e.kids ∈ l) (ss : IsSl s) (q2 : Run) (ha : addR q e = some q2) (hlt : q.ex.length < 512) : CallM Tryz.prog 95 [.pointer (some ⟨rb, 0, none⟩), .agg #[.int .i64 e.op, .int .i64 e.lt, s]] w F (fun r A o => r = .int .i64 (q.ex.length : Int) ∧ o = [] ∧ ∃ v2 es2, RunF v2 vN es2 rs q2 l ∧ A = bigA (runO 154 65 26 3 rb mb v2 vN es2 rs q2 B l)) := by
 have ha2 := ha
 obtain ⟨t, ht, rfl⟩ := addR_some ha
 have heL := hq.eL
 unfold runO at hA
 refine specM_of' Tryz.func95 rfl (leb rfl) hA ?_
 refine .sr fun _ hK1 => ?_
 refine AK.box_ (E := 65) rfl rfl rfl trivial rfl (fun bx3 => ?_)
 refine .as rfl (.nt hK1 ?_)
 refine .sr fun _ hK2 => ?_
 refine .mv rfl (.v (.nilCheck rfl) (.v (.fieldAddr fd154_0 rfl) (.v (.fieldAddr fd152_1 rfl) (.v (.loadBox on63 rfl bsp rfl) (.v (.lenR sl63 rfl rdp) (.as rfl (.nt hK2 ?_)))))))
 refine .seq fun _ hK3 => ?_
 try (conv => enter [2, 2]; simp only [nrm])
 refine AK.held 7 mixed ?_
 refine HeldK.first 0 (fuel := 7) (listed' := (lb 8 1)) _ rfl krf krf rfl (Yl.move rfl) trivial rfl ?_
 refine HeldK.first 1 (fuel := 6) (listed' := (lb 8 3)) _ rfl krf krf rfl (Yl.nilCheck rfl) trivial rfl ?_
 refine HeldK.first 2 (fuel := 5) (listed' := (lb 8 7)) _ rfl krf krf rfl (Yl.fieldAddr fd154_1 rfl) trivial rfl ?_
 refine HeldK.first 3 (fuel := 4) (listed' := (lb 8 15)) _ rfl krf krf rfl (Yl.loadBox on73 rfl bsp rfl) trivial rfl ?_
 refine HeldK.first 4 (fuel := 3) (listed' := (lb 8 31)) _ rfl krf krf rfl (Yl.loadBoxG ag65 rfl bsp rfl rfl) trivial rfl ?_
 refine HeldK.first 6 (fuel := 2) (listed' := (lb 8 95)) _ rfl krf krf rfl (Yl.move rfl) trivial rfl ?_
 refine HeldK.one 5 (fuel := 1) (listed' := (lb 8 127)) krf rfl krf ?_
 refine AK.call co98 rfl (fun w hw => s_format w e s (hw.kidR hB 5 rfl hm) t ht) trivial rfl ?_
 rintro r o ⟨rfl, rfl⟩
 refine .nil ?_
 try (conv => enter [2, 2]; simp only [nrm])
 refine HeldK.back Go.Sx.hle ?_
 refine HeldK.one 7 (fuel := 0) (listed' := (lb 8 255)) krf rfl krf ?_
 refine AK.mapSet 4 rfl mp73 (keyStrT un9) rfl rfl rfl trivial ?_
 refine .nil ?_
 try (conv => enter [2, 2]; simp only [nrm])
 refine HeldK.backN 8 krf rfl krf ?_
 refine .nil ?_
 refine AK.fromQn ?_
 refine AK.then_ (hK3 _ ?_)
 refine .seq fun _ hK4 => ?_
 refine AK.joinK (X := Value) [(5, _)] (fun z => []) (fun z => [box rb 154 5 [.int .i64 (q.L : Int), z, vN, .int .i64 (q.dn : Int), .map (some mb)], row z 65 3 (q.ex.length + 1) (xcs (q.ex ++ [e]) (es ++ [s])), row vN 26 1 q.nx.length rs, bigA (matG (Value.int .i64) 3 rs q.nx), mapA mb (mkv sv (Value.int .i64) (mset q.num t (q.ex.length : Int))), forest B l, box bx3 65 3 [.int .i64 e.op, .int .i64 e.lt, s]]) (fun z => IsSl z) slr (fun _ hJ => ?_) (fun z hg => ?_)
 ·try (conv => enter [2, 2]; simp only [nrm])
  refine AK.heldS _ 15 (fun _ hw => hw.pick [6] (by decide) rfl rfl) mixed ?_
  refine HeldK.firstS (fun _ hw => hw.pick [6] (by decide) rfl rfl) 0 (fuel := 14) (listed' := (lb 15 1)) _ rfl krf krf rfl (Yl.move rfl) trivial rfl ?_
  refine HeldK.firstS (fun _ hw => hw.pick [6] (by decide) rfl rfl) 1 (fuel := 13) (listed' := (lb 15 3)) _ rfl krf krf rfl (Yl.nilCheck rfl) trivial rfl ?_
  refine HeldK.firstS (fun _ hw => hw.pick [6] (by decide) rfl rfl) 2 (fuel := 12) (listed' := (lb 15 7)) _ rfl krf krf rfl (Yl.fieldAddr fd154_0 rfl) trivial rfl ?_
  refine HeldK.firstS (fun _ hw => hw.pick [6] (by decide) rfl rfl) 3 (fuel := 11) (listed' := (lb 15 15)) _ rfl krf krf rfl (Yl.fieldAddr fd152_1 rfl) trivial rfl ?_
  refine HeldK.firstS (fun _ hw => hw.pick [6] (by decide) rfl rfl) 5 (fuel := 10) (listed' := (lb 15 47)) _ rfl krf krf rfl (Yl.loadBoxG ag65 rfl bsp rfl rfl) trivial rfl ?_
  refine HeldK.two 4 7 (fuel := 9) (listed1 := (lb 15 63)) (listed2 := (lb 15 175)) krf rfl rfl krf krf ?_ ?_
  ·refine .v (.loadBox on63 rfl bsp rfl) (.nil ?_)
   try (conv => enter [2, 2]; simp only [nrm])
   refine HeldK.backS (fun _ hw => hw.pick [6] (by decide) rfl rfl) ?_
   refine HeldK.two 6 7 (fuel := 8) (listed1 := (lb 15 127)) (listed2 := (lb 15 191)) krf rfl rfl krf krf ?_ ?_
   ·refine .v (.lenR sl63 rfl rdp) (.nil ?_)
    try (conv => enter [2, 2]; simp only [nrm])
    refine HeldK.backS (fun _ hw => hw.pick [6] (by decide) rfl rfl) ?_
    refine HeldK.one 7 (fuel := 7) (listed' := (lb 15 255)) krf rfl krf ?_
    refine AK.lit (xs := [.const (.agg #[.int .i64 0, .int .i64 0, .slice none 0 0])]) sl63 el65 rfl rfl rfl (by simp [Value.cells]) (by decide) (by decide) trivial rfl (fun lv => ?_)
    refine .nil ?_
    try (conv => enter [2, 2]; simp only [nrm])
    refine HeldK.backS (fun _ hw => hw.pick [6] (by decide) rfl rfl) ?_
    refine HeldK.one 8 (fuel := 6) (listed' := (lb 15 511)) krf rfl krf ?_
    refine AK.appendS 1 rfl sl63 el65 rfl (by decide) rfl rfl rfl rdp (one'_cons rfl (one'_cons rfl (one'_cons rfl one'_nil))) (by omega) (by omega) trivial rfl (fun v2 => ?_)
    refine AK.shape 1 rfl (fun sv2 => ?_)
    refine .nil ?_
    try (conv => enter [2, 2]; simp only [nrm])
    refine HeldK.backS (fun _ hw => hw.pick [6] (by decide) rfl rfl) ?_
    refine HeldK.firstS (fun _ hw => hw.pick [6] (by decide) rfl rfl) 11 (fuel := 5) (listed' := (lb 15 2559)) _ rfl krf krf rfl (Yl.nilCheck rfl) trivial rfl ?_
    refine HeldK.firstS (fun _ hw => hw.pick [6] (by decide) rfl rfl) 12 (fuel := 4) (listed' := (lb 15 6655)) _ rfl krf krf rfl (Yl.fieldAddr fd154_0 rfl) trivial rfl ?_
    refine HeldK.firstS (fun _ hw => hw.pick [6] (by decide) rfl rfl) 13 (fuel := 3) (listed' := (lb 15 14847)) _ rfl krf krf rfl (Yl.fieldAddr fd152_1 rfl) trivial rfl ?_
    refine HeldK.two 9 14 (fuel := 2) (listed1 := (lb 15 15359)) (listed2 := (lb 15 31231)) krf rfl rfl krf krf ?_ ?_
    ·first | refine .v (.iN sl63 rfl rfl) ?_ | refine .v (.iK sl63 rfl rfl) ?_
     refine .nil ?_
     try (conv => enter [2, 2]; simp only [nrm])
     refine HeldK.backS (fun _ hw => hw.pick [6] (by decide) rfl rfl) ?_
     refine HeldK.two 10 14 (fuel := 1) (listed1 := (lb 15 16383)) (listed2 := (lb 15 31743)) krf rfl rfl krf krf ?_ ?_
     ·refine AK.storeG 1 rfl sz65 rfl rfl rfl rfl (one'_cons rfl (one'_cons rfl (one'_cons (IsSl.one ss) one'_nil))) (by omega) (cs' := xcs (q.ex ++ [e]) (es ++ [s])) (xcs_put heL e s _ rfl) trivial ?_
      refine .nil ?_
      try (conv => enter [2, 2]; simp only [nrm])
      refine HeldK.backS (fun _ hw => hw.pick [6] (by decide) rfl rfl) ?_
      refine HeldK.one 14 (fuel := 0) (listed' := (lb 15 32767)) krf rfl krf ?_
      refine AK.storeBox 0 (us := [v2]) (cs' := [.int .i64 (q.L : Int), v2, vN, .int .i64 (q.dn : Int), .map (some mb)]) rfl sz63 rfl rfl (by rw [IsSl.cells sv2]) rfl oneP (leb rfl) rfl trivial ?_
      refine .nil ?_
      try (conv => enter [2, 2]; simp only [nrm])
      refine HeldK.backS (fun _ hw => hw.pick [6] (by decide) rfl rfl) ?_
      refine HeldK.done krf ?_
      exact hJ _ _ (v2) sv2 (slr) (fun w hw => by first | exact hw.pickLe [0, 1, 2, 3, 4, 5, 6] (by decide) pkl)
     ·refine AK.storeBox 0 (us := [v2]) (cs' := [.int .i64 (q.L : Int), v2, vN, .int .i64 (q.dn : Int), .map (some mb)]) rfl sz63 rfl rfl (by rw [IsSl.cells sv2]) rfl oneP (leb rfl) rfl trivial ?_
      refine .nil ?_
      try (conv => enter [2, 2]; simp only [nrm])
      refine HeldK.backS (fun _ hw => hw.pick [6] (by decide) rfl rfl) ?_
      refine HeldK.one 10 (fuel := 0) (listed' := (lb 15 32767)) krf rfl krf ?_
      refine AK.storeG 1 rfl sz65 rfl rfl rfl rfl (one'_cons rfl (one'_cons rfl (one'_cons (IsSl.one ss) one'_nil))) (by omega) (cs' := xcs (q.ex ++ [e]) (es ++ [s])) (xcs_put heL e s _ rfl) trivial ?_
      refine .nil ?_
      try (conv => enter [2, 2]; simp only [nrm])
      refine HeldK.backS (fun _ hw => hw.pick [6] (by decide) rfl rfl) ?_
      refine HeldK.done krf ?_
      exact hJ _ _ (v2) sv2 (slr) (fun w hw => by first | exact hw.pickLe [0, 1, 2, 3, 4, 5, 6] (by decide) pkl)
    ·refine AK.storeBox 0 (us := [v2]) (cs' := [.int .i64 (q.L : Int), v2, vN, .int .i64 (q.dn : Int), .map (some mb)]) rfl sz63 rfl rfl (by rw [IsSl.cells sv2]) rfl oneP (leb rfl) rfl trivial ?_
     refine .nil ?_
     try (conv => enter [2, 2]; simp only [nrm])
     refine HeldK.backS (fun _ hw => hw.pick [6] (by decide) rfl rfl) ?_
     refine HeldK.one 9 (fuel := 1) (listed' := (lb 15 31743)) krf rfl krf ?_
     first | refine .v (.iN sl63 rfl rfl) ?_ | refine .v (.iK sl63 rfl rfl) ?_
     refine .nil ?_
     try (conv => enter [2, 2]; simp only [nrm])
     refine HeldK.backS (fun _ hw => hw.pick [6] (by decide) rfl rfl) ?_
     refine HeldK.one 10 (fuel := 0) (listed' := (lb 15 32767)) krf rfl krf ?_
     refine AK.storeG 1 rfl sz65 rfl rfl rfl rfl (one'_cons rfl (one'_cons rfl (one'_cons (IsSl.one ss) one'_nil))) (by omega) (cs' := xcs (q.ex ++ [e]) (es ++ [s])) (xcs_put heL e s _ rfl) trivial ?_
     refine .nil ?_
     try (conv => enter [2, 2]; simp only [nrm])
     refine HeldK.backS (fun _ hw => hw.pick [6] (by decide) rfl rfl) ?_
     refine HeldK.done krf ?_
     exact hJ _ _ (v2) sv2 (slr) (fun w hw => by first | exact hw.pickLe [0, 1, 2, 3, 4, 5, 6] (by decide) pkl)
   ·refine AK.lit (xs := [.const (.agg #[.int .i64 0, .int .i64 0, .slice none 0 0])]) sl63 el65 rfl rfl rfl (by simp [Value.cells]) (by decide) (by decide) trivial rfl (fun lv => ?_)
    refine .nil ?_
    try (conv => enter [2, 2]; simp only [nrm])
    refine HeldK.backS (fun _ hw => hw.pick [6] (by decide) rfl rfl) ?_
    refine HeldK.one 6 (fuel := 7) (listed' := (lb 15 255)) krf rfl krf ?_
    refine .v (.lenR sl63 rfl rdp) (.nil ?_)
    try (conv => enter [2, 2]; simp only [nrm])
    refine HeldK.backS (fun _ hw => hw.pick [6] (by decide) rfl rfl) ?_
    refine HeldK.one 8 (fuel := 6) (listed' := (lb 15 511)) krf rfl krf ?_
    refine AK.appendS 1 rfl sl63 el65 rfl (by decide) rfl rfl rfl rdp (one'_cons rfl (one'_cons rfl (one'_cons rfl one'_nil))) (by omega) (by omega) trivial rfl (fun v2 => ?_)
    refine AK.shape 1 rfl (fun sv2 => ?_)
    refine .nil ?_
    try (conv => enter [2, 2]; simp only [nrm])
    refine HeldK.backS (fun _ hw => hw.pick [6] (by decide) rfl rfl) ?_
    refine HeldK.firstS (fun _ hw => hw.pick [6] (by decide) rfl rfl) 11 (fuel := 5) (listed' := (lb 15 2559)) _ rfl krf krf rfl (Yl.nilCheck rfl) trivial rfl ?_
    refine HeldK.firstS (fun _ hw => hw.pick [6] (by decide) rfl rfl) 12 (fuel := 4) (listed' := (lb 15 6655)) _ rfl krf krf rfl (Yl.fieldAddr fd154_0 rfl) trivial rfl ?_
    refine HeldK.firstS (fun _ hw => hw.pick [6] (by decide) rfl rfl) 13 (fuel := 3) (listed' := (lb 15 14847)) _ rfl krf krf rfl (Yl.fieldAddr fd152_1 rfl) trivial rfl ?_
    refine HeldK.two 9 14 (fuel := 2) (listed1 := (lb 15 15359)) (listed2 := (lb 15 31231)) krf rfl rfl krf krf ?_ ?_
    ·first | refine .v (.iN sl63 rfl rfl) ?_ | refine .v (.iK sl63 rfl rfl) ?_
     refine .nil ?_
     try (conv => enter [2, 2]; simp only [nrm])
     refine HeldK.backS (fun _ hw => hw.pick [6] (by decide) rfl rfl) ?_
     refine HeldK.two 10 14 (fuel := 1) (listed1 := (lb 15 16383)) (listed2 := (lb 15 31743)) krf rfl rfl krf krf ?_ ?_
     ·refine AK.storeG 1 rfl sz65 rfl rfl rfl rfl (one'_cons rfl (one'_cons rfl (one'_cons (IsSl.one ss) one'_nil))) (by omega) (cs' := xcs (q.ex ++ [e]) (es ++ [s])) (xcs_put heL e s _ rfl) trivial ?_
      refine .nil ?_
      try (conv => enter [2, 2]; simp only [nrm])
      refine HeldK.backS (fun _ hw => hw.pick [6] (by decide) rfl rfl) ?_
      refine HeldK.one 14 (fuel := 0) (listed' := (lb 15 32767)) krf rfl krf ?_
      refine AK.storeBox 0 (us := [v2]) (cs' := [.int .i64 (q.L : Int), v2, vN, .int .i64 (q.dn : Int), .map (some mb)]) rfl sz63 rfl rfl (by rw [IsSl.cells sv2]) rfl oneP (leb rfl) rfl trivial ?_
      refine .nil ?_
      try (conv => enter [2, 2]; simp only [nrm])
      refine HeldK.backS (fun _ hw => hw.pick [6] (by decide) rfl rfl) ?_
      refine HeldK.done krf ?_
      exact hJ _ _ (v2) sv2 (slr) (fun w hw => by first | exact hw.pickLe [0, 1, 2, 3, 4, 5, 6] (by decide) pkl)
     ·refine AK.storeBox 0 (us := [v2]) (cs' := [.int .i64 (q.L : Int), v2, vN, .int .i64 (q.dn : Int), .map (some mb)]) rfl sz63 rfl rfl (by rw [IsSl.cells sv2]) rfl oneP (leb rfl) rfl trivial ?_
      refine .nil ?_
      try (conv => enter [2, 2]; simp only [nrm])
      refine HeldK.backS (fun _ hw => hw.pick [6] (by decide) rfl rfl) ?_
      refine HeldK.one 10 (fuel := 0) (listed' := (lb 15 32767)) krf rfl krf ?_
      refine AK.storeG 1 rfl sz65 rfl rfl rfl rfl (one'_cons rfl (one'_cons rfl (one'_cons (IsSl.one ss) one'_nil))) (by omega) (cs' := xcs (q.ex ++ [e]) (es ++ [s])) (xcs_put heL e s _ rfl) trivial ?_
      refine .nil ?_
      try (conv => enter [2, 2]; simp only [nrm])
      refine HeldK.backS (fun _ hw => hw.pick [6] (by decide) rfl rfl) ?_
      refine HeldK.done krf ?_
      exact hJ _ _ (v2) sv2 (slr) (fun w hw => by first | exact hw.pickLe [0, 1, 2, 3, 4, 5, 6] (by decide) pkl)
    ·refine AK.storeBox 0 (us := [v2]) (cs' := [.int .i64 (q.L : Int), v2, vN, .int .i64 (q.dn : Int), .map (some mb)]) rfl sz63 rfl rfl (by rw [IsSl.cells sv2]) rfl oneP (leb rfl) rfl trivial ?_
     refine .nil ?_
     try (conv => enter [2, 2]; simp only [nrm])
     refine HeldK.backS (fun _ hw => hw.pick [6] (by decide) rfl rfl) ?_
     refine HeldK.one 9 (fuel := 1) (listed' := (lb 15 31743)) krf rfl krf ?_
     first | refine .v (.iN sl63 rfl rfl) ?_ | refine .v (.iK sl63 rfl rfl) ?_
     refine .nil ?_
     try (conv => enter [2, 2]; simp only [nrm])
     refine HeldK.backS (fun _ hw => hw.pick [6] (by decide) rfl rfl) ?_
     refine HeldK.one 10 (fuel := 0) (listed' := (lb 15 32767)) krf rfl krf ?_
     refine AK.storeG 1 rfl sz65 rfl rfl rfl rfl (one'_cons rfl (one'_cons rfl (one'_cons (IsSl.one ss) one'_nil))) (by omega) (cs' := xcs (q.ex ++ [e]) (es ++ [s])) (xcs_put heL e s _ rfl) trivial ?_
     refine .nil ?_
     try (conv => enter [2, 2]; simp only [nrm])
     refine HeldK.backS (fun _ hw => hw.pick [6] (by decide) rfl rfl) ?_
     refine HeldK.done krf ?_
     exact hJ _ _ (v2) sv2 (slr) (fun w hw => by first | exact hw.pickLe [0, 1, 2, 3, 4, 5, 6] (by decide) pkl)
  ·refine AK.lit (xs := [.const (.agg #[.int .i64 0, .int .i64 0, .slice none 0 0])]) sl63 el65 rfl rfl rfl (by simp [Value.cells]) (by decide) (by decide) trivial rfl (fun lv => ?_)
   refine .nil ?_
   try (conv => enter [2, 2]; simp only [nrm])
   refine HeldK.backS (fun _ hw => hw.pick [6] (by decide) rfl rfl) ?_
   refine HeldK.one 4 (fuel := 8) (listed' := (lb 15 191)) krf rfl krf ?_
   refine .v (.loadBox on63 rfl bsp rfl) (.nil ?_)
   try (conv => enter [2, 2]; simp only [nrm])
   refine HeldK.backS (fun _ hw => hw.pick [6] (by decide) rfl rfl) ?_
   refine HeldK.one 6 (fuel := 7) (listed' := (lb 15 255)) krf rfl krf ?_
   refine .v (.lenR sl63 rfl rdp) (.nil ?_)
   try (conv => enter [2, 2]; simp only [nrm])
   refine HeldK.backS (fun _ hw => hw.pick [6] (by decide) rfl rfl) ?_
   refine HeldK.one 8 (fuel := 6) (listed' := (lb 15 511)) krf rfl krf ?_
   refine AK.appendS 1 rfl sl63 el65 rfl (by decide) rfl rfl rfl rdp (one'_cons rfl (one'_cons rfl (one'_cons rfl one'_nil))) (by omega) (by omega) trivial rfl (fun v2 => ?_)
   refine AK.shape 1 rfl (fun sv2 => ?_)
   refine .nil ?_
   try (conv => enter [2, 2]; simp only [nrm])
   refine HeldK.backS (fun _ hw => hw.pick [6] (by decide) rfl rfl) ?_
   refine HeldK.firstS (fun _ hw => hw.pick [6] (by decide) rfl rfl) 11 (fuel := 5) (listed' := (lb 15 2559)) _ rfl krf krf rfl (Yl.nilCheck rfl) trivial rfl ?_
   refine HeldK.firstS (fun _ hw => hw.pick [6] (by decide) rfl rfl) 12 (fuel := 4) (listed' := (lb 15 6655)) _ rfl krf krf rfl (Yl.fieldAddr fd154_0 rfl) trivial rfl ?_
   refine HeldK.firstS (fun _ hw => hw.pick [6] (by decide) rfl rfl) 13 (fuel := 3) (listed' := (lb 15 14847)) _ rfl krf krf rfl (Yl.fieldAddr fd152_1 rfl) trivial rfl ?_
   refine HeldK.two 9 14 (fuel := 2) (listed1 := (lb 15 15359)) (listed2 := (lb 15 31231)) krf rfl rfl krf krf ?_ ?_
   ·first | refine .v (.iN sl63 rfl rfl) ?_ | refine .v (.iK sl63 rfl rfl) ?_
    refine .nil ?_
    try (conv => enter [2, 2]; simp only [nrm])
    refine HeldK.backS (fun _ hw => hw.pick [6] (by decide) rfl rfl) ?_
    refine HeldK.two 10 14 (fuel := 1) (listed1 := (lb 15 16383)) (listed2 := (lb 15 31743)) krf rfl rfl krf krf ?_ ?_
    ·refine AK.storeG 1 rfl sz65 rfl rfl rfl rfl (one'_cons rfl (one'_cons rfl (one'_cons (IsSl.one ss) one'_nil))) (by omega) (cs' := xcs (q.ex ++ [e]) (es ++ [s])) (xcs_put heL e s _ rfl) trivial ?_
     refine .nil ?_
     try (conv => enter [2, 2]; simp only [nrm])
     refine HeldK.backS (fun _ hw => hw.pick [6] (by decide) rfl rfl) ?_
     refine HeldK.one 14 (fuel := 0) (listed' := (lb 15 32767)) krf rfl krf ?_
     refine AK.storeBox 0 (us := [v2]) (cs' := [.int .i64 (q.L : Int), v2, vN, .int .i64 (q.dn : Int), .map (some mb)]) rfl sz63 rfl rfl (by rw [IsSl.cells sv2]) rfl oneP (leb rfl) rfl trivial ?_
     refine .nil ?_
     try (conv => enter [2, 2]; simp only [nrm])
     refine HeldK.backS (fun _ hw => hw.pick [6] (by decide) rfl rfl) ?_
     refine HeldK.done krf ?_
     exact hJ _ _ (v2) sv2 (slr) (fun w hw => by first | exact hw.pickLe [0, 1, 2, 3, 4, 5, 6] (by decide) pkl)
    ·refine AK.storeBox 0 (us := [v2]) (cs' := [.int .i64 (q.L : Int), v2, vN, .int .i64 (q.dn : Int), .map (some mb)]) rfl sz63 rfl rfl (by rw [IsSl.cells sv2]) rfl oneP (leb rfl) rfl trivial ?_
     refine .nil ?_
     try (conv => enter [2, 2]; simp only [nrm])
     refine HeldK.backS (fun _ hw => hw.pick [6] (by decide) rfl rfl) ?_
     refine HeldK.one 10 (fuel := 0) (listed' := (lb 15 32767)) krf rfl krf ?_
     refine AK.storeG 1 rfl sz65 rfl rfl rfl rfl (one'_cons rfl (one'_cons rfl (one'_cons (IsSl.one ss) one'_nil))) (by omega) (cs' := xcs (q.ex ++ [e]) (es ++ [s])) (xcs_put heL e s _ rfl) trivial ?_
     refine .nil ?_
     try (conv => enter [2, 2]; simp only [nrm])
     refine HeldK.backS (fun _ hw => hw.pick [6] (by decide) rfl rfl) ?_
     refine HeldK.done krf ?_
     exact hJ _ _ (v2) sv2 (slr) (fun w hw => by first | exact hw.pickLe [0, 1, 2, 3, 4, 5, 6] (by decide) pkl)
   ·refine AK.storeBox 0 (us := [v2]) (cs' := [.int .i64 (q.L : Int), v2, vN, .int .i64 (q.dn : Int), .map (some mb)]) rfl sz63 rfl rfl (by rw [IsSl.cells sv2]) rfl oneP (leb rfl) rfl trivial ?_
    refine .nil ?_
    try (conv => enter [2, 2]; simp only [nrm])
    refine HeldK.backS (fun _ hw => hw.pick [6] (by decide) rfl rfl) ?_
    refine HeldK.one 9 (fuel := 1) (listed' := (lb 15 31743)) krf rfl krf ?_
    first | refine .v (.iN sl63 rfl rfl) ?_ | refine .v (.iK sl63 rfl rfl) ?_
    refine .nil ?_
    try (conv => enter [2, 2]; simp only [nrm])
    refine HeldK.backS (fun _ hw => hw.pick [6] (by decide) rfl rfl) ?_
    refine HeldK.one 10 (fuel := 0) (listed' := (lb 15 32767)) krf rfl krf ?_
    refine AK.storeG 1 rfl sz65 rfl rfl rfl rfl (one'_cons rfl (one'_cons rfl (one'_cons (IsSl.one ss) one'_nil))) (by omega) (cs' := xcs (q.ex ++ [e]) (es ++ [s])) (xcs_put heL e s _ rfl) trivial ?_
    refine .nil ?_
    try (conv => enter [2, 2]; simp only [nrm])
    refine HeldK.backS (fun _ hw => hw.pick [6] (by decide) rfl rfl) ?_
    refine HeldK.done krf ?_
    exact hJ _ _ (v2) sv2 (slr) (fun w hw => by first | exact hw.pickLe [0, 1, 2, 3, 4, 5, 6] (by decide) pkl)
 ·skip
  refine AK.then_ (hK4 _ ?_)
  refine .sr fun _ hK5 => ?_
  refine .mv rfl (.as rfl (.nt hK5 (.ret ?_)))
  refine AK.ret1 rfl rfl (fun w hw => ⟨_, _, _, ?_, rfl, Ret.ofBig0 (hw.pick [0, 1, 2, 3, 4, 5] (by decide) rfl rfl)⟩)
  refine ⟨rfl, rfl, z, es ++ [s], hq.add ha2 hlt hm ss hg, ?_⟩
  simp only [runO, List.length_append, List.length_singleton]
  rfl

set_option maxHeartbeats 400000 in
theorem s_rfin (w : World) (rb mb : Nat) (vE vN : Value) (es : List Value) (q : Run) (hb : BxA w rb [.int .i64 (q.L : Int), vE, vN, .int .i64 (q.dn : Int), .map (some mb)]) (hr : Rd (fun b => ¬ (fun _ => False) b) w vE 3 q.ex.length (xcs q.ex es)) : CallS Tryz.prog 60 [.pointer (some ⟨rb, 0, none⟩)] w (fun r o => r = .bool (decide (q.dn = q.ex.length)) ∧ o = []) := by
 have hbx : BoxS ⟨Tryz.prog, Tryz.f60.ntmps, w, fun _ => False⟩ [] rb [.int .i64 (q.L : Int), vE, vN, .int .i64 (q.dn : Int), .map (some mb)] := BoxS.arg hb
 refine spec_of Tryz.func60 rfl (leb rfl) ?_
 refine .sr fun _ hK1 => ?_
 refine .as rfl (.nt hK1 ?_)
 refine .seq fun _ hK2 => ?_
 refine AK.quiet mixed krf ?_
 refine .mv rfl (.v (.nilCheck rfl) (.v (.fieldAddr fd154_0 rfl) (.v (.fieldAddr fd152_3 rfl) (.v (.loadBox on3 rfl bsp rfl) (.mv rfl (.v (.nilCheck rfl) (.v (.fieldAddr fd154_0 rfl) ?_)))))))
 refine .v (.fieldAddr fd152_1 rfl) (.v (.loadBox on63 rfl bsp rfl) (.v (.lenR sl63 rfl rdp) (.v (.eql rfl rfl) (.as rfl ?_))))
 refine QK.nil (QK.fin ?_)
 refine AK.then_ (hK2 _ ?_)
 refine .ret ?_
 refine AK.ret1 rfl rfl (fun w hw => ⟨_, _, ?_, rfl, Ret.of (hw.pick [] (by decide) rfl rfl)⟩)
 refine ⟨congrArg Value.bool ?_, rfl⟩
 exact decide_eq_decide.2 (by omega)

set_option maxHeartbeats 1000000 in
theorem s_begin (w : World) (F : Nat → Prop) (B : Bs) (l : List Itm) (hB : BsOk B w F) (hA : (forest B l).holds w F) (e : Ex) (s : Value) (hm : Itm.deep s e.kids ∈ l) (ss : IsSl s) (L : Nat) (hL : L ≤ 6) (q2 : Run) (ha : addR ⟨L, [], [], 0, []⟩ e = some q2) : CallM Tryz.prog 58 [.agg #[.int .i64 e.op, .int .i64 e.lt, s], .int .i64 (L : Int)] w F (fun r A o => ∃ rb mb vE es, r = .pointer (some ⟨rb, 0, none⟩) ∧ RunF vE nilV es [] q2 l ∧ A = bigA (runO 154 65 26 3 rb mb vE nilV es [] q2 B l) ∧ o = []) := by
 refine specM_of Tryz.func58 rfl (leb rfl) hA ?_
 refine .sr fun _ hK1 => ?_
 refine AK.box_ (E := 65) (cs := [.int .i64 e.op, .int .i64 e.lt, s]) rfl rfl rfl trivial rfl (fun bx2 => ?_)
 refine .as rfl (.nt hK1 ?_)
 refine .sr fun _ hK2 => ?_
 refine AK.makeMap trivial rfl (fun mb => ?_)
 refine .v (.build (parts := [(1, .tmp 6)]) (cs := #[.int .i64 0, .slice none 0 0, .slice none 0 0, .int .i64 0, .map (some mb)]) rfl (by kernel_rfl)) ?_
 refine AK.box_ (E := 154) (cs := [.int .i64 0, nilV, nilV, .int .i64 0, .map (some mb)]) rfl rfl rfl trivial rfl (fun rb => ?_)
 refine .as rfl (.nt hK2 ?_)
 refine .sr fun _ hK3 => ?_
 refine .mv rfl (.mv rfl (.v (.nilCheck rfl) (.v (.fieldAddr fd154_0 rfl) (.v (.fieldAddr fd152_0 rfl) ?_))))
 refine AK.storeBox 3 (us := [.int .i64 (L : Int)]) (cs' := [.int .i64 (L : Int), nilV, nilV, .int .i64 0, .map (some mb)]) rfl sz3 rfl rfl rfl rfl oneP (leb rfl) rfl trivial ?_
 refine .nt hK3 ?_
 refine .sr fun _ hK4 => ?_
 refine .mv rfl (.v (.loadBoxG ag65 rfl bsp rfl rfl) ?_)
 refine AK.ghost 65 3 ?_
 refine AK.ghost 26 1 ?_
 refine AK.own' _ (fun w hw => HW.ghostG (f := Value.int .i64) 3 hw) ?_
 refine AK.own' [bigA (runO 154 65 26 3 rb mb nilV nilV [] [] ⟨L, [], [], 0, []⟩ B l)] (fun w hw => by have h := HW.unflat (l := [_, _, _, _, _, _]) (own := []) (hw.pick [3, 4, 5, 6, 2, 0] (by decide) rfl rfl); exact h) ?_
 refine AK.callN 0 rfl co95 rfl (fun w Fs hw hh hfr hal => s_radd w (Fs 0) B l (hB.later hfr hal 0) rb mb nilV nilV [] [] ⟨L, [], [], 0, []⟩ ⟨rfl, Got.nil _ _, rfl, nilSl, nilSl, by simp, by simp, rfl, hL⟩ (hh.at_ 0 _ rfl) e s hm ss q2 ha (by simp)) trivial rfl ?_
 rintro r A o ⟨rfl, rfl, v2, es2, hq2, rfl⟩
 refine .nt hK4 ?_
 refine .sr fun _ hK5 => ?_
 refine .mv rfl (.as rfl (.nt hK5 (.ret ?_)))
 refine AK.ret1 rfl rfl (fun w hw => ⟨_, _, _, ?_, rfl, Ret.of (hw.pick [0] (by decide) rfl rfl)⟩)
 exact ⟨rb, mb, v2, es2, rfl, hq2, rfl, rfl⟩

end Go.Proofs.YtdnhiinakhmhgaaGreatDoor

namespace Go.Proofs.YtdnhiinakhmhgaaGreatDoor
open Go.Sx Go.RowKit
set_option maxHeartbeats 4000000 in
theorem s_rproc (w : World) (F : Nat → Prop) (B : Bs) (l : List Itm) (hB : BsOk B w F) (rb mb : Nat) (vE vN : Value) (es rs : List Value) (q : Run) (hq : RunF vE vN es rs q l) (hA : (bigA (runO 154 65 26 3 rb mb vE vN es rs q B l)).holds w F) (hdn : q.dn < q.ex.length) (res : Run × Int) (hp : procR q = some res) : CallM Tryz.prog 61 [.pointer (some ⟨rb, 0, none⟩)] w F (fun r A o => r = .int .i64 res.2 ∧ o = [] ∧ (res.2 = 0 → ∃ vE2 vN2 es2 rs2 l2, RunF vE2 vN2 es2 rs2 res.1 l2 ∧ A = bigA (runO 154 65 26 3 rb mb vE2 vN2 es2 rs2 res.1 B l2))) := by
 obtain ⟨f, hf, hres⟩ := procR_some hp
 have hLb := hq.Lb
 unfold runO at hA
 refine specM_of' Tryz.func61 rfl (leb rfl) hA ?_
 refine .sr fun _ hK1 => ?_
 refine .as rfl (.nt hK1 ?_)
 refine .sr fun _ hK2 => ?_
 refine .mv rfl (.v (.nilCheck rfl) (.v (.fieldAddr fd154_0 rfl) (.v (.fieldAddr fd152_0 rfl) (.v (.loadBox on3 rfl bsp rfl) ?_))))
 refine AK.make1 sl26 el3 rfl rfl rfl (by omega) (by omega) trivial rfl (fun mv0 => ?_)
 refine AK.shape 6 rfl (fun smv => ?_)
 refine .as rfl (.nt hK2 ?_)
 refine .seq fun _ hK3 => ?_
 refine .sr fun _ hK4 => ?_
 refine .mv rfl (.v (.lenR sl26 rfl rdp) (.mv rfl (.nt hK4 (.block ?_))))
 refine AK.loopK (X := List Int × Run × Value × List Value × List Itm) [(0, _), (3, _), (16, _)] (fun x => [(17, .int .i64 (x.1.length : Int))]) (fun x => [box rb 154 5 [.int .i64 (x.2.1.L : Int), x.2.2.1, vN, .int .i64 (x.2.1.dn : Int), .map (some mb)], row x.2.2.1 65 3 x.2.1.ex.length (xcs x.2.1.ex x.2.2.2.1), row vN 26 1 x.2.1.nx.length rs, bigA (matG (Value.int .i64) 3 rs x.2.1.nx), mapA mb (mkv sv (Value.int .i64) x.2.1.num), forest B x.2.2.2.2, row mv0 3 1 q.L ((x.1 ++ List.replicate (q.L - x.1.length) 0).map (Value.int .i64))]) (fun x => x.1.length ≤ q.L ∧ RunF x.2.2.1 vN x.2.2.2.1 rs x.2.1 x.2.2.2.2 ∧ rowR (q.L - x.1.length) x.1.length x.2.1 x.1 = some f ∧ x.2.1.L = q.L ∧ x.2.1.nx = q.nx ∧ x.2.1.dn = q.dn ∧ q.dn < x.2.1.ex.length) (fun x => q.L - x.1.length) (([], q, vE, es, l)) slr ?_ ?_ ?_ ?_
 ·exact ⟨Nat.zero_le _, hq, hf, rfl, rfl, rfl, hdn⟩
 ·exact slr
 ·exact fun w hw => by simpa using hw
 ·intro x hg0 _ hK5
  refine .sr fun _ hK6 => ?_
  refine .v (.lss rfl rfl) (.nt hK6 ?_)
  refine .seq fun _ hK7 => ?_
  refine AK.condD rfl (fun hc0 => ?_) (fun hc0 => ?_)
  ·have hkl : x.1.length < q.L := by omega
   obtain ⟨m, hm⟩ : ∃ m, q.L - x.1.length = m + 1 := ⟨q.L - x.1.length - 1, by omega⟩
   have hm2 : q.L - (x.1.length + 1) = m := by omega
   have hrow := hg0.2.2.1
   rw [hm] at hrow
   obtain ⟨p, hpl, hcases⟩ := rowR_succ hrow
   have hRF := hg0.2.1
   have heL := hRF.eL
   have hdd : x.2.1.dn < x.2.1.ex.length := by have a := hg0.2.2.2.2.2.1; have b := hg0.2.2.2.2.2.2; omega
   have hle := hRF.le
   refine .skip ?_
   refine AK.then_ (hK7 _ ?_)
   refine .seq fun _ hK8 => ?_
   refine .block ?_
   refine .sr fun _ hK9 => ?_
   refine .mv rfl (.as rfl (.nt hK9 ?_))
   refine .seq fun _ hK10 => ?_
   refine AK.joinK (X := Value × List Itm × Nat) [(0, _), (3, _), (4, _), (16, _), (17, _)] (fun z => [(5, .pointer (some ⟨z.2.2, 0, none⟩)), (6, .int .i64 p.2)]) (fun z => [box rb 154 5 [.int .i64 (x.2.1.L : Int), x.2.2.1, vN, .int .i64 (x.2.1.dn : Int), .map (some mb)], row x.2.2.1 65 3 x.2.1.ex.length (xcs x.2.1.ex x.2.2.2.1), row vN 26 1 x.2.1.nx.length rs, bigA (matG (Value.int .i64) 3 rs x.2.1.nx), mapA mb (mkv sv (Value.int .i64) x.2.1.num), forest B z.2.1, row mv0 3 1 q.L ((x.1 ++ List.replicate (q.L - x.1.length) 0).map (Value.int .i64)), box z.2.2 65 3 [.int .i64 p.1.op, .int .i64 p.1.lt, z.1]]) (fun z => IsSl z.1 ∧ (∀ y ∈ x.2.2.2.2, y ∈ z.2.1) ∧ Itm.deep z.1 p.1.kids ∈ z.2.1) slr (fun _ hJ => ?_) (fun z hg => ?_)
   ·try (conv => enter [2, 2]; simp only [nrm])
    refine AK.heldS _ 20 (fun _ hw => hw.pick [0, 1] (by decide) rfl rfl) mixed ?_
    refine HeldK.firstS (fun _ hw => hw.pick [0, 1] (by decide) rfl rfl) 0 (fuel := 19) (listed' := (lb 20 1)) _ rfl krf krf rfl (Yl.move rfl) trivial rfl ?_
    refine HeldK.firstS (fun _ hw => hw.pick [0, 1] (by decide) rfl rfl) 1 (fuel := 18) (listed' := (lb 20 3)) _ rfl krf krf rfl (Yl.nilCheck rfl) trivial rfl ?_
    refine HeldK.firstS (fun _ hw => hw.pick [0, 1] (by decide) rfl rfl) 2 (fuel := 17) (listed' := (lb 20 7)) _ rfl krf krf rfl (Yl.fieldAddr fd154_0 rfl) trivial rfl ?_
    refine HeldK.firstS (fun _ hw => hw.pick [0, 1] (by decide) rfl rfl) 3 (fuel := 16) (listed' := (lb 20 15)) _ rfl krf krf rfl (Yl.fieldAddr fd152_1 rfl) trivial rfl ?_
    refine HeldK.firstS (fun _ hw => hw.pick [0, 1] (by decide) rfl rfl) 4 (fuel := 15) (listed' := (lb 20 31)) _ rfl krf krf rfl (Yl.loadBox on63 rfl bsp rfl) trivial rfl ?_
    refine HeldK.firstS (fun _ hw => hw.pick [0, 1] (by decide) rfl rfl) 5 (fuel := 14) (listed' := (lb 20 63)) _ rfl krf krf rfl (Yl.move rfl) trivial rfl ?_
    refine HeldK.firstS (fun _ hw => hw.pick [0, 1] (by decide) rfl rfl) 6 (fuel := 13) (listed' := (lb 20 127)) _ rfl krf krf rfl (Yl.nilCheck rfl) trivial rfl ?_
    refine HeldK.firstS (fun _ hw => hw.pick [0, 1] (by decide) rfl rfl) 7 (fuel := 12) (listed' := (lb 20 255)) _ rfl krf krf rfl (Yl.fieldAddr fd154_0 rfl) trivial rfl ?_
    refine HeldK.firstS (fun _ hw => hw.pick [0, 1] (by decide) rfl rfl) 8 (fuel := 11) (listed' := (lb 20 511)) _ rfl krf krf rfl (Yl.fieldAddr fd152_3 rfl) trivial rfl ?_
    refine HeldK.firstS (fun _ hw => hw.pick [0, 1] (by decide) rfl rfl) 9 (fuel := 10) (listed' := (lb 20 1023)) _ rfl krf krf rfl (Yl.loadBox on3 rfl bsp rfl) trivial rfl ?_
    first | refine HeldK.firstS (fun _ hw => hw.pick [0, 1] (by decide) rfl rfl) 10 (fuel := 9) (listed' := (lb 20 2047)) _ rfl krf krf rfl (.iN sl63 rfl rfl) trivial rfl ?_ | refine HeldK.firstS (fun _ hw => hw.pick [0, 1] (by decide) rfl rfl) 10 (fuel := 9) (listed' := (lb 20 2047)) _ rfl krf krf rfl (.iK sl63 rfl rfl) trivial rfl ?_
    refine HeldK.firstS (fun _ hw => hw.pick [0, 1] (by decide) rfl rfl) 11 (fuel := 8) (listed' := (lb 20 4095)) _ rfl krf krf rfl (Yl.loadE ag65 rfl rdp heL rfl (by omega)) trivial rfl ?_
    refine HeldK.firstS (fun _ hw => hw.pick [0, 1] (by decide) rfl rfl) 12 (fuel := 7) (listed' := (lb 20 8191)) _ rfl krf krf rfl (Yl.move rfl) trivial rfl ?_
    refine HeldK.two 13 17 (fuel := 6) (listed1 := (lb 20 16383)) (listed2 := (lb 20 139263)) krf rfl rfl krf krf ?_ ?_
    ·refine AK.callN 5 rfl co97 rfl (fun w Fs hw hh hfr hal => s_byletter (x.1.length : Int) _ w (Fs 5) B x.2.2.2.2 (hB.later hfr hal 5) (hh.at_ 5 _ rfl) _ (hRF.g.d _ (by omega)) p hpl) trivial rfl ?_
     rintro r A o ⟨sp, l2, rfl, ssp, rfl, hs2, hm2', rfl⟩
     refine .nil ?_
     try (conv => enter [2, 2]; simp only [nrm])
     refine HeldK.backS (fun _ hw => hw.pick [0, 1] (by decide) rfl rfl) ?_
     refine HeldK.firstS (fun _ hw => hw.pick [0, 1] (by decide) rfl rfl) 14 (fuel := 5) (listed' := (lb 20 32767)) _ rfl krf krf rfl (Yl.move rfl) trivial rfl ?_
     refine HeldK.firstS (fun _ hw => hw.pick [0, 1] (by decide) rfl rfl) 15 (fuel := 4) (listed' := (lb 20 65535)) _ rfl krf krf rfl (Yl.extract rfl rfl) trivial rfl ?_
     refine HeldK.firstS (fun _ hw => hw.pick [0, 1] (by decide) rfl rfl) 16 (fuel := 3) (listed' := (lb 20 131071)) _ rfl krf krf rfl (Yl.extract rfl rfl) trivial rfl ?_
     refine HeldK.one 17 (fuel := 2) (listed' := (lb 20 262143)) krf rfl krf ?_
     refine AK.alloc el65 rfl rfl trivial rfl (fun bx5 => ?_)
     refine .nil ?_
     try (conv => enter [2, 2]; simp only [nrm])
     refine HeldK.backS (fun _ hw => hw.pick [0, 1] (by decide) rfl rfl) ?_
     refine HeldK.one 18 (fuel := 1) (listed' := (lb 20 524287)) krf rfl krf ?_
     refine AK.storeBox 7 (us := [.int .i64 p.1.op, .int .i64 p.1.lt, sp]) (cs' := [.int .i64 p.1.op, .int .i64 p.1.lt, sp]) rfl sz65 rfl rfl rfl rfl oneP (leb rfl) rfl trivial ?_
     refine .nil ?_
     try (conv => enter [2, 2]; simp only [nrm])
     refine HeldK.backS (fun _ hw => hw.pick [0, 1] (by decide) rfl rfl) ?_
     refine HeldK.firstS (fun _ hw => hw.pick [0, 1] (by decide) rfl rfl) 19 (fuel := 0) (listed' := (lb 20 1048575)) _ rfl krf krf rfl (Yl.assign rfl) trivial rfl ?_
     refine HeldK.done krf ?_
     exact hJ _ _ ((sp, l2, bx5)) ⟨ssp, hs2, hm2'⟩ (slr) (fun w hw => by first | exact hw.pickLe [0, 1, 2, 3, 4, 5, 6, 7] (by decide) pkl)
    ·refine AK.alloc el65 rfl rfl trivial rfl (fun bx5 => ?_)
     refine .nil ?_
     try (conv => enter [2, 2]; simp only [nrm])
     refine HeldK.backS (fun _ hw => hw.pick [0, 1] (by decide) rfl rfl) ?_
     refine HeldK.one 13 (fuel := 5) (listed' := (lb 20 147455)) krf rfl krf ?_
     refine AK.callN 5 rfl co97 rfl (fun w Fs hw hh hfr hal => s_byletter (x.1.length : Int) _ w (Fs 5) B x.2.2.2.2 (hB.later hfr hal 5) (hh.at_ 5 _ rfl) _ (hRF.g.d _ (by omega)) p hpl) trivial rfl ?_
     rintro r A o ⟨sp, l2, rfl, ssp, rfl, hs2, hm2', rfl⟩
     refine .nil ?_
     try (conv => enter [2, 2]; simp only [nrm])
     refine HeldK.backS (fun _ hw => hw.pick [0, 1] (by decide) rfl rfl) ?_
     refine HeldK.firstS (fun _ hw => hw.pick [0, 1] (by decide) rfl rfl) 14 (fuel := 4) (listed' := (lb 20 163839)) _ rfl krf krf rfl (Yl.move rfl) trivial rfl ?_
     refine HeldK.firstS (fun _ hw => hw.pick [0, 1] (by decide) rfl rfl) 15 (fuel := 3) (listed' := (lb 20 196607)) _ rfl krf krf rfl (Yl.extract rfl rfl) trivial rfl ?_
     refine HeldK.firstS (fun _ hw => hw.pick [0, 1] (by decide) rfl rfl) 16 (fuel := 2) (listed' := (lb 20 262143)) _ rfl krf krf rfl (Yl.extract rfl rfl) trivial rfl ?_
     refine HeldK.one 18 (fuel := 1) (listed' := (lb 20 524287)) krf rfl krf ?_
     refine AK.storeBox 7 (us := [.int .i64 p.1.op, .int .i64 p.1.lt, sp]) (cs' := [.int .i64 p.1.op, .int .i64 p.1.lt, sp]) rfl sz65 rfl rfl rfl rfl oneP (leb rfl) rfl trivial ?_
     refine .nil ?_
     try (conv => enter [2, 2]; simp only [nrm])
     refine HeldK.backS (fun _ hw => hw.pick [0, 1] (by decide) rfl rfl) ?_
     refine HeldK.firstS (fun _ hw => hw.pick [0, 1] (by decide) rfl rfl) 19 (fuel := 0) (listed' := (lb 20 1048575)) _ rfl krf krf rfl (Yl.assign rfl) trivial rfl ?_
     refine HeldK.done krf ?_
     exact hJ _ _ ((sp, l2, bx5)) ⟨ssp, hs2, hm2'⟩ (slr) (fun w hw => by first | exact hw.pickLe [0, 1, 2, 3, 4, 5, 6, 7] (by decide) pkl)
   ·have sz := hg.1
    refine AK.then_ (hK10 _ ?_)
    refine .seq fun _ hK11 => ?_
    refine .sr fun _ hK12 => ?_
    refine .mv rfl (.v (.neq rfl rfl) (.nt hK12 ?_))
    refine AK.condNe rfl (fun hc1 => ?_) (fun hc1 => ?_)
    ·refine .sr fun _ hK13 => ?_
     refine .mv rfl (.as rfl (.nt hK13 (.ret (.then_ret (.block_ret (.then_ret (.then_ret (.block_ret (.then_ret ?_)))))))))
     refine AK.ret1 rfl rfl (fun w hw => ⟨_, _, _, ?_, rfl, Ret.ofBig0 (hw.pick [0] (by decide) rfl rfl)⟩)
     have hf2 : f = (x.2.1, x.1, p.2) := by
      rcases hcases with ⟨_, h⟩ | ⟨h, _⟩
      ·exact h
      ·exact absurd h (by omega)
     subst hf2
     have eres : res = (x.2.1, p.2) := by rw [hres]; exact if_pos hc1
     subst eres
     exact ⟨rfl, rfl, fun h => absurd h hc1⟩
    ·obtain ⟨_, t, ht, hcases⟩ := hcases.resolve_left (fun h => h.1 (by omega))
     refine .skip ?_
     refine AK.then_ (hK11 _ ?_)
     refine .seq fun _ hK14 => ?_
     refine AK.quiet mixed krf ?_
     refine .mv rfl (.v (.nilCheck rfl) (.v (.fieldAddr fd154_1 rfl) (.v (.loadBox on73 rfl bsp rfl) (.v (.loadBoxG ag65 rfl bsp rfl rfl) ?_))))
     refine QK.call (sv t) co98 rfl (fun w hw => s_format w p.1 z.1 (hw.kidR hB 5 rfl hg.2.2) t ht) (fun r o h => h.1) trivial rfl ?_
     refine .v (.lookup2I mp73 (keyStrT un9) el3 rfl rfl msp) (.mv rfl (.v (.extract rfl rfl) (.v (.extract rfl rfl) (.as rfl (.as rfl ?_)))))
     refine QK.nil (QK.fin ?_)
     refine AK.then_ (hK14 _ ?_)
     refine .seq fun _ hK15 => ?_
     refine .sr fun _ hK16 => ?_
     refine .mv rfl (.v (.not rfl) (.nt hK16 ?_))
     refine AK.condB rfl (fun hc2 => ?_) (fun hc2 => ?_)
     ·have hno : mget x.2.1.num t = none := by cases h : mget x.2.1.num t with | none => rfl | some i => rw [h] at hc2; cases hc2
      replace hcases := (hcases.resolve_left (fun h => by obtain ⟨i, h, _⟩ := h; rw [hno] at h; cases h)).2
      refine .seq fun _ hK17 => ?_
      refine .sr fun _ hK18 => ?_
      refine .mv rfl (.v (.nilCheck rfl) (.v (.fieldAddr fd154_0 rfl) (.v (.fieldAddr fd152_1 rfl) (.v (.loadBox on63 rfl bsp rfl) (.v (.lenR sl63 rfl rdp) (.v (.eql rfl rfl) (.nt hK18 ?_)))))))
      refine AK.condD rfl (fun hc3 => ?_) (fun hc3 => ?_)
      ·have hf2 : f = (x.2.1, x.1, 3) := by
        rcases hcases with ⟨_, h⟩ | ⟨h, _⟩
        ·exact h
        ·exact absurd (by omega) h
       refine .sr fun _ hK19 => ?_
       refine .as rfl (.nt hK19 (.ret (.then_ret (.then_ret (.block_ret (.then_ret (.then_ret (.block_ret (.then_ret ?_)))))))))
       refine AK.ret1 rfl rfl (fun w hw => ⟨_, _, _, ?_, rfl, Ret.ofBig0 (hw.pick [0] (by decide) rfl rfl)⟩)
       subst hf2
       have eres : res = (x.2.1, 3) := by rw [hres]; rfl
       subst eres
       exact ⟨rfl, rfl, fun h => by cases h⟩
      ·obtain ⟨r2, hr2, hrow2⟩ : ∃ r2, addR x.2.1 p.1 = some r2 ∧ rowR m (x.1.length + 1) r2 (x.1 ++ [(x.2.1.ex.length : Int)]) = some f := by
        rcases hcases with ⟨h, _⟩ | ⟨_, h⟩
        ·exact absurd (by omega) hc3
        ·exact h
       obtain ⟨k1, k2, k3, k4⟩ := addR_keeps hr2
       refine .skip ?_
       refine AK.then_ (hK17 _ ?_)
       refine AK.region ?_
       refine .mv rfl (.v (.loadBoxG ag65 rfl bsp rfl rfl) ?_)
       refine AK.own' [bigA (runO 154 65 26 3 rb mb x.2.2.1 vN x.2.2.2.1 rs x.2.1 B z.2.1), row mv0 3 1 q.L ((x.1 ++ List.replicate (q.L - x.1.length) 0).map (Value.int .i64)), box z.2.2 65 3 [.int .i64 p.1.op, .int .i64 p.1.lt, z.1]] (fun w hw => by have h := HW.unflat (l := [_, _, _, _, _, _]) (own := [_, _]) (hw.pick [0, 1, 2, 3, 4, 5, 6, 7] (by decide) rfl rfl); exact h) ?_
       refine AK.callN 0 rfl co95 rfl (fun w Fs hw hh hfr hal => s_radd w (Fs 0) B z.2.1 (hB.later hfr hal 0) rb mb x.2.2.1 vN x.2.2.2.1 rs x.2.1 (hRF.later hg.2.1) (hh.at_ 0 _ rfl) p.1 z.1 hg.2.2 sz r2 hr2 (by omega)) trivial rfl ?_
       rintro r A o ⟨rfl, rfl, v2, es2, hq2, rfl⟩
       refine AK.own' [box rb 154 5 [.int .i64 (r2.L : Int), v2, vN, .int .i64 (r2.dn : Int), .map (some mb)], row v2 65 3 r2.ex.length (xcs r2.ex es2), row vN 26 1 r2.nx.length rs, bigA (matG (Value.int .i64) 3 rs r2.nx), mapA mb (mkv sv (Value.int .i64) r2.num), forest B z.2.1, row mv0 3 1 q.L ((x.1 ++ List.replicate (q.L - x.1.length) 0).map (Value.int .i64)), box z.2.2 65 3 [.int .i64 p.1.op, .int .i64 p.1.lt, z.1]] (fun w hw => by have h := HW.flat (l := runO 154 65 26 3 rb mb v2 vN es2 rs r2 B z.2.1) (own := [_, _]) hw; exact h) ?_
       refine .as rfl (.nt hK15 ?_)
       refine AK.region ?_
       refine .mv rfl (.mv rfl (.mv rfl ?_))
       first | refine .v (.iN sl26 rfl rfl) ?_ | refine .v (.iK sl26 rfl rfl) ?_
       refine AK.store1e 6 rfl sz3 rfl rfl rfl rfl (by omega) (cs' := (((x.1 ++ [(x.2.1.ex.length : Int)]) ++ List.replicate (q.L - (x.1 ++ [(x.2.1.ex.length : Int)]).length) 0).map (Value.int .i64))) ((by have h := fill_set (Value.int .i64) x.1 0 (x.2.1.ex.length : Int) q.L x.1.length rfl hkl; simpa using h)) trivial ?_
       refine .nil (.block_normal ?_)
       refine AK.then_ (hK8 _ ?_)
       refine AK.region ?_
       refine .v (.add rfl rfl (by omega)) ?_
       refine .mv rfl (.nil ?_)
       refine AK.then_ (hK5 _ _ ((x.1 ++ [(x.2.1.ex.length : Int)], r2, v2, es2, z.2.1)) ⟨by simp; omega, hq2, by simpa [hm2] using hrow2, k1.trans hg0.2.2.2.1, k2.trans hg0.2.2.2.2.1, k3.trans hg0.2.2.2.2.2.1, by rw [k4]; simp; omega⟩ (by simp; omega) (.cons (slI rfl (by simp)) (slr)) (fun w hw => by have h := hw.pick [0, 1, 2, 3, 4, 5, 6] (by decide) rfl rfl; simpa using h))
     ·obtain ⟨i, hi, hrow2⟩ : ∃ i, mget x.2.1.num t = some i ∧ rowR m (x.1.length + 1) x.2.1 (x.1 ++ [i]) = some f := by
       rcases hcases with h | ⟨h, _⟩
       ·exact h
       ·rw [h] at hc2; cases hc2
      have hgi : (mget x.2.1.num t).getD 0 = i := by rw [hi]; rfl
      rw [hgi]
      refine .skip ?_
      refine AK.then_ (hK15 _ ?_)
      refine AK.region ?_
      refine .mv rfl (.mv rfl (.mv rfl ?_))
      first | refine .v (.iN sl26 rfl rfl) ?_ | refine .v (.iK sl26 rfl rfl) ?_
      refine AK.store1e 6 rfl sz3 rfl rfl rfl rfl (by omega) (cs' := (((x.1 ++ [i]) ++ List.replicate (q.L - (x.1 ++ [i]).length) 0).map (Value.int .i64))) ((by have h := fill_set (Value.int .i64) x.1 0 i q.L x.1.length rfl hkl; simpa using h)) trivial ?_
      refine .nil (.block_normal ?_)
      refine AK.then_ (hK8 _ ?_)
      refine AK.region ?_
      refine .v (.add rfl rfl (by omega)) ?_
      refine .mv rfl (.nil ?_)
      refine AK.then_ (hK5 _ _ ((x.1 ++ [i], x.2.1, x.2.2.1, x.2.2.2.1, z.2.1)) ⟨by simp; omega, hg0.2.1.later hg.2.1, by simpa [hm2] using hrow2, hg0.2.2.2.1, hg0.2.2.2.2.1, hg0.2.2.2.2.2.1, hg0.2.2.2.2.2.2⟩ (by simp; omega) (.cons (slI rfl (by simp)) (slr)) (fun w hw => by have h := hw.pick [0, 1, 2, 3, 4, 5, 6] (by decide) rfl rfl; simpa using h))
  ·have hkL : x.1.length = q.L := by omega
   have hrow := hg0.2.2.1
   rw [hkL, Nat.sub_self, rowR] at hrow
   obtain rfl : (x.2.1, x.1, 0) = f := Option.some.inj hrow
   have hnl := hg0.2.1.nl
   have hle2 := hg0.2.1.le
   have hdd : x.2.1.dn < x.2.1.ex.length := by have a := hg0.2.2.2.2.2.1; have b := hg0.2.2.2.2.2.2; omega
   refine .exit (.then_exit (.then_exit (.block_exit ?_)))
   refine AK.then_ (hK3 _ ?_)
   refine .sr fun _ hK20 => ?_
   refine .mv rfl (.mv rfl (.v (.nilCheck rfl) (.v (.fieldAddr fd154_0 rfl) (.v (.fieldAddr fd152_2 rfl) (.v (.loadBox on22 rfl bsp rfl) (.mv rfl ?_))))))
   refine AK.append1 2 rfl sl22 el26 rfl (by decide) rfl (by intro k hk; cases hk; rfl) (by rw [smv.cells]; rfl) (by rw [smv.cells]; exact one'_cons (IsSl.one smv) one'_nil) (by omega) (by omega) (by decide) rfl rfl (fun vn2 _ svn2 => ?_)
   refine .v (.nilCheck rfl) (.v (.fieldAddr fd154_0 rfl) (.v (.fieldAddr fd152_2 rfl) ?_))
   refine AK.storeBox 0 (us := [vn2]) (cs' := [.int .i64 (x.2.1.L : Int), x.2.2.1, vn2, .int .i64 (x.2.1.dn : Int), .map (some mb)]) rfl sz22 rfl rfl (by rw [IsSl.cells svn2]) rfl oneP (leb rfl) rfl trivial ?_
   refine .nt hK20 ?_
   refine .sr fun _ hK21 => ?_
   refine .mv rfl (.v (.nilCheck rfl) (.v (.fieldAddr fd154_0 rfl) (.v (.fieldAddr fd152_3 rfl) (.v (.loadBox on3 rfl bsp rfl) ?_))))
   refine .v (.add rfl rfl (by omega)) ?_
   refine .v (.nilCheck rfl) (.v (.fieldAddr fd154_0 rfl) (.v (.fieldAddr fd152_3 rfl) ?_))
   refine AK.storeBox 0 (us := [.int .i64 ((x.2.1.dn : Int) + 1)]) (cs' := [.int .i64 (x.2.1.L : Int), x.2.2.1, vn2, .int .i64 ((x.2.1.dn : Int) + 1), .map (some mb)]) rfl sz3 rfl rfl rfl rfl oneP (leb rfl) rfl trivial ?_
   refine .nt hK21 ?_
   refine .sr fun _ hK22 => ?_
   refine .as rfl (.nt hK22 (.ret ?_))
   refine AK.own' [box rb 154 5 [.int .i64 (x.2.1.L : Int), x.2.2.1, vn2, .int .i64 ((x.2.1.dn : Int) + 1), .map (some mb)], row x.2.2.1 65 3 x.2.1.ex.length (xcs x.2.1.ex x.2.2.2.1), row vn2 26 1 (x.2.1.nx.length + 1) (rs ++ [mv0]), bigA (matG (Value.int .i64) 3 (rs ++ [mv0]) (x.2.1.nx ++ [x.1])), mapA mb (mkv sv (Value.int .i64) x.2.1.num), forest B x.2.2.2.2] (fun w hw => by rw [smv.cells, hkL, Nat.sub_self, List.replicate_zero, List.append_nil] at hw; have h := HW.absorb (own := [_, _, _, _, _, _]) 3 rfl hw; rw [matG_snoc hg0.2.1.rl, hkL]; exact h) ?_
   refine AK.ret1 rfl rfl (fun w hw => ⟨_, _, _, ?_, rfl, Ret.ofBig0 (hw.pick [0, 1, 2, 3, 4, 5] (by decide) rfl rfl)⟩)
   have eres : res = ({ x.2.1 with nx := x.2.1.nx ++ [x.1], dn := x.2.1.dn + 1 }, 0) := by rw [hres]; rfl
   subst eres
   refine ⟨rfl, rfl, fun _ => ⟨x.2.2.1, vn2, x.2.2.2.1, rs ++ [mv0], x.2.2.2.2, hg0.2.1.done hdd svn2 _, ?_⟩⟩
   simp only [runO, List.length_append, List.length_singleton]
   rfl

end Go.Proofs.YtdnhiinakhmhgaaGreatDoor

namespace Go.Sx
open Go.RowKit
theorem runO_rd {C : Cx} {own : List Asn} {w : World} {TR TE TRI TI rb mb : Nat} {vE vN : Value} {es rs : List Value} {q : Run} {B : Bs} {l : List Itm} (hw : HW C own w) (i : Nat) (hi : own[i]? = some (bigA (runO TR TE TRI TI rb mb vE vN es rs q B l))) :
    BxA w rb [.int .i64 (q.L : Int), vE, vN, .int .i64 (q.dn : Int), .map (some mb)] ∧ Rd (fun b => ¬ (fun _ => False) b) w vE 3 q.ex.length (xcs q.ex es) := by
  obtain ⟨_, Fs, hh, _⟩ := hw
  obtain ⟨Gs, gh, _⟩ := hh.at_ i _ hi
  refine ⟨⟨TR, (gh.at_ 0 _ rfl).1.1⟩, (row_rd (gh.at_ 1 _ rfl)).mono fun b _ _ => ⟨id, rfl⟩⟩
theorem loopR_some {n : Nat} {r : Run} {p : Run × Int} (h : loopR n r = some p) : ∃ m, n = m + 1 ∧ ((r.dn = r.ex.length ∧ p = (r, 0)) ∨ (r.dn ≠ r.ex.length ∧ ∃ q, procR r = some q ∧ ((q.2 ≠ 0 ∧ p = q) ∨ (q.2 = 0 ∧ loopR m q.1 = some p)))) := by
  cases n with
  | zero => cases h
  | succ m =>
    refine ⟨m, rfl, ?_⟩
    rw [loopR] at h
    split at h
    · cases h; exact .inl ⟨by assumption, rfl⟩
    · obtain ⟨q, hq, h⟩ := bind_some h
      refine .inr ⟨by assumption, q, hq, ?_⟩
      split at h
      · cases h; exact .inl ⟨by assumption, rfl⟩
      · exact .inr ⟨by omega, h⟩
theorem validE_letters {e : Ex} {n : Int} (h : validE e n = 0) : 1 ≤ n ∧ n ≤ 6 := by
  unfold validE at h
  split at h
  · cases h
  · omega
theorem buildE_some {e : Ex} {n : Int} {res : Dfa × Int} (h : buildE e n = some res) : (validE e n ≠ 0 ∧ res = (zeroD, validE e n)) ∨ (validE e n = 0 ∧ ∃ e1 r p, normE e = some e1 ∧ addR ⟨n.toNat, [], [], 0, []⟩ e1 = some r ∧ loopR 600 r = some p ∧ ((p.2 ≠ 0 ∧ res = (zeroD, p.2)) ∨ (p.2 = 0 ∧ res = (autR p.1, 0)))) := by
  unfold buildE at h
  split at h
  · cases h; exact .inl ⟨by assumption, rfl⟩
  · obtain ⟨e1, h1, h⟩ := bind_some h
    obtain ⟨r, h2, h⟩ := bind_some h
    obtain ⟨p, h3, h⟩ := bind_some h
    refine .inr ⟨by omega, e1, r, p, h1, h2, h3, ?_⟩
    split at h
    · cases h; exact .inl ⟨by assumption, rfl⟩
    · cases h; exact .inr ⟨by omega, rfl⟩
end Go.Sx

namespace Go.Proofs.YtdnhiinakhmhgaaGreatDoor
open Go.Sx Go.RowKit
set_option maxHeartbeats 1000000 in
theorem s_raut (w : World) (F : Nat → Prop) (B : Bs) (l : List Itm) (hB : BsOk B w F) (rb mb : Nat) (vE vN : Value) (es rs : List Value) (q : Run) (hq : RunF vE vN es rs q l) (hA : (bigA (runO 154 65 26 3 rb mb vE vN es rs q B l)).holds w F) : CallM Tryz.prog 62 [.pointer (some ⟨rb, 0, none⟩)] w F (fun r A o => ∃ vF, r = .agg #[.int .i64 (q.L : Int), .int .i64 0, vF, vN] ∧ IsSl vF ∧ A = bigA (dfaO 4 3 26 vF vN rs (autR q)) ∧ o = []) := by
 have heL := hq.eL
 have hle := hq.le
 have svN := hq.sN
 unfold runO at hA
 refine specM_of' Tryz.func62 rfl (leb rfl) hA ?_
 refine .sr fun _ hK1 => ?_
 refine AK.alloc el43 rfl rfl trivial rfl (fun bx2 => ?_)
 refine .nt hK1 ?_
 refine .seq fun _ hK2 => ?_
 try (conv => enter [2, 2]; simp only [nrm])
 refine AK.heldS _ 12 (fun _ hw => hw.pick [0] (by decide) rfl rfl) mixed ?_
 refine HeldK.firstS (fun _ hw => hw.pick [0] (by decide) rfl rfl) 0 (fuel := 12) (listed' := (lb 13 1)) _ rfl krf krf rfl (Yl.move rfl) trivial rfl ?_
 refine HeldK.firstS (fun _ hw => hw.pick [0] (by decide) rfl rfl) 1 (fuel := 11) (listed' := (lb 13 3)) _ rfl krf krf rfl (Yl.nilCheck rfl) trivial rfl ?_
 refine HeldK.firstS (fun _ hw => hw.pick [0] (by decide) rfl rfl) 2 (fuel := 10) (listed' := (lb 13 7)) _ rfl krf krf rfl (Yl.fieldAddr fd154_0 rfl) trivial rfl ?_
 refine HeldK.firstS (fun _ hw => hw.pick [0] (by decide) rfl rfl) 3 (fuel := 9) (listed' := (lb 13 15)) _ rfl krf krf rfl (Yl.fieldAddr fd152_0 rfl) trivial rfl ?_
 refine HeldK.firstS (fun _ hw => hw.pick [0] (by decide) rfl rfl) 4 (fuel := 8) (listed' := (lb 13 31)) _ rfl krf krf rfl (Yl.loadBox on3 rfl bsp rfl) trivial rfl ?_
 refine HeldK.firstS (fun _ hw => hw.pick [0] (by decide) rfl rfl) 5 (fuel := 7) (listed' := (lb 13 63)) _ rfl krf krf rfl (Yl.move rfl) trivial rfl ?_
 refine HeldK.firstS (fun _ hw => hw.pick [0] (by decide) rfl rfl) 6 (fuel := 6) (listed' := (lb 13 127)) _ rfl krf krf rfl (Yl.nilCheck rfl) trivial rfl ?_
 refine HeldK.firstS (fun _ hw => hw.pick [0] (by decide) rfl rfl) 7 (fuel := 5) (listed' := (lb 13 255)) _ rfl krf krf rfl (Yl.fieldAddr fd154_0 rfl) trivial rfl ?_
 refine HeldK.firstS (fun _ hw => hw.pick [0] (by decide) rfl rfl) 8 (fuel := 4) (listed' := (lb 13 511)) _ rfl krf krf rfl (Yl.fieldAddr fd152_2 rfl) trivial rfl ?_
 refine HeldK.firstS (fun _ hw => hw.pick [0] (by decide) rfl rfl) 9 (fuel := 3) (listed' := (lb 13 1023)) _ rfl krf krf rfl (Yl.loadBox on22 rfl bsp rfl) trivial rfl ?_
 refine HeldK.firstS (fun _ hw => hw.pick [0] (by decide) rfl rfl) 10 (fuel := 2) (listed' := (lb 13 2047)) _ rfl krf krf rfl (Yl.build (parts := [(0, .tmp 10), (3, .tmp 15)]) (cs := #[.int .i64 (q.L : Int), .int .i64 0, .slice none 0 0, vN]) rfl (by obtain ⟨_, _, _, rfl⟩ := svN; kernel_rfl)) trivial rfl ?_
 refine HeldK.one 11 (fuel := 1) (listed' := (lb 13 4095)) krf rfl krf ?_
 refine AK.alloc el43 rfl rfl trivial rfl (fun bx3 => ?_)
 refine .nil ?_
 try (conv => enter [2, 2]; simp only [nrm])
 refine HeldK.backS (fun _ hw => hw.pick [0] (by decide) rfl rfl) ?_
 refine HeldK.one 12 (fuel := 0) (listed' := (lb 13 8191)) krf rfl krf ?_
 refine AK.storeBox 7 (us := [.int .i64 (q.L : Int), .int .i64 0, .slice none 0 0, vN]) (cs' := [.int .i64 (q.L : Int), .int .i64 0, .slice none 0 0, vN]) rfl sz43 rfl rfl rfl rfl oneP (leb rfl) rfl trivial ?_
 refine .nil ?_
 try (conv => enter [2, 2]; simp only [nrm])
 refine HeldK.backN 13 krf rfl krf ?_
 refine .nil ?_
 refine AK.fromQn ?_
 refine AK.then_ (hK2 _ ?_)
 refine .seq fun _ hK3 => ?_
 refine .sr fun _ hK4 => ?_
 refine .mv rfl (.v (.nilCheck rfl) (.v (.fieldAddr fd154_0 rfl) (.v (.fieldAddr fd152_1 rfl) (.v (.loadBox on63 rfl bsp rfl) (.v (.lenR sl63 rfl rdp) (.mv rfl (.nt hK4 (.block ?_))))))))
 refine AK.loopK (X := Nat × Value) [(2, _), (3, _), (21, _), (22, _)] (fun x => [(23, .int .i64 (x.1 : Int))]) (fun x => [box rb 154 5 [.int .i64 (q.L : Int), vE, vN, .int .i64 (q.dn : Int), .map (some mb)], row vE 65 3 q.ex.length (xcs q.ex es), row vN 26 1 q.nx.length rs, bigA (matG (Value.int .i64) 3 rs q.nx), mapA mb (mkv sv (Value.int .i64) q.num), forest B l, box bx2 43 4 [.int .i64 0, .int .i64 0, .slice none 0 0, .slice none 0 0], box bx3 43 4 [.int .i64 (q.L : Int), .int .i64 0, x.2, vN], row x.2 4 1 x.1 (((q.ex.take x.1).map hasU).map Value.bool)]) (fun x => x.1 ≤ q.ex.length ∧ IsSl x.2) (fun x => q.ex.length - x.1) ((0, .slice none 0 0)) slr ?_ ?_ ?_ ?_
 ·exact ⟨Nat.zero_le _, nilSl⟩
 ·exact slr
 ·exact fun w hw => by have h := hw.ghost 4 1; exact h
 ·intro x hg0 _ hK5
  refine .sr fun _ hK6 => ?_
  refine .v (.lss rfl rfl) (.nt hK6 ?_)
  refine .seq fun _ hK7 => ?_
  refine AK.condD rfl (fun hc0 => ?_) (fun hc0 => ?_)
  ·have sk := hq.g.s x.1 (by omega)
   have sx := hg0.2
   refine .skip ?_
   refine AK.then_ (hK7 _ ?_)
   refine .seq fun _ hK8 => ?_
   refine .block ?_
   refine .sr fun _ hK9 => ?_
   first | refine .v (.iN sl63 rfl rfl) ?_ | refine .v (.iK sl63 rfl rfl) ?_
   refine .v (.loadE ag65 rfl rdp heL rfl (by omega)) ?_
   refine AK.alloc el65 rfl rfl trivial rfl (fun bx5 => ?_)
   refine AK.storeBox 9 (us := [.int .i64 (q.ex.getD x.1 default).op, .int .i64 (q.ex.getD x.1 default).lt, es.getD x.1 undef]) (cs' := [.int .i64 (q.ex.getD x.1 default).op, .int .i64 (q.ex.getD x.1 default).lt, es.getD x.1 undef]) rfl sz65 rfl rfl rfl rfl oneP (leb rfl) rfl trivial ?_
   refine .nt hK9 ?_
   refine AK.joinK (X := Value) [(2, _), (3, _), (21, _), (22, _), (23, _)] (fun z => []) (fun z => [box rb 154 5 [.int .i64 (q.L : Int), vE, vN, .int .i64 (q.dn : Int), .map (some mb)], row vE 65 3 q.ex.length (xcs q.ex es), row vN 26 1 q.nx.length rs, bigA (matG (Value.int .i64) 3 rs q.nx), mapA mb (mkv sv (Value.int .i64) q.num), forest B l, box bx2 43 4 [.int .i64 0, .int .i64 0, .slice none 0 0, .slice none 0 0], box bx3 43 4 [.int .i64 (q.L : Int), .int .i64 0, z, vN], row z 4 1 (x.1 + 1) (((q.ex.take (x.1 + 1)).map hasU).map Value.bool), box bx5 65 3 [.int .i64 (q.ex.getD x.1 default).op, .int .i64 (q.ex.getD x.1 default).lt, es.getD x.1 undef]]) (fun z => IsSl z) slr (fun _ hJ => ?_) (fun z hg => ?_)
   ·try (conv => enter [2, 2]; simp only [nrm])
    refine AK.heldS _ 7 (fun _ hw => hw.pick [7, 9] (by decide) rfl rfl) mixed ?_
    refine HeldK.firstS (fun _ hw => hw.pick [7, 9] (by decide) rfl rfl) 0 (fuel := 7) (listed' := (lb 8 1)) _ rfl krf krf rfl (Yl.fieldAddr fd43_2 rfl) trivial rfl ?_
    refine HeldK.firstS (fun _ hw => hw.pick [7, 9] (by decide) rfl rfl) 1 (fuel := 6) (listed' := (lb 8 3)) _ rfl krf krf rfl (Yl.loadBox on41 rfl bsp rfl) trivial rfl ?_
    refine HeldK.firstS (fun _ hw => hw.pick [7, 9] (by decide) rfl rfl) 2 (fuel := 5) (listed' := (lb 8 7)) _ rfl krf krf rfl (Yl.loadBoxG ag65 rfl bsp rfl rfl) trivial rfl ?_
    refine HeldK.one 3 (fuel := 4) (listed' := (lb 8 15)) krf rfl krf ?_
    refine AK.call co99 rfl (fun w hw => s_hasu _ w _ (hw.kidR hB 5 rfl (hq.g.d x.1 (by omega)))) trivial rfl ?_
    rintro r o ⟨rfl, rfl⟩
    refine .nil ?_
    try (conv => enter [2, 2]; simp only [nrm])
    refine HeldK.backS (fun _ hw => hw.pick [7, 9] (by decide) rfl rfl) ?_
    refine HeldK.one 4 (fuel := 3) (listed' := (lb 8 31)) krf rfl krf ?_
    refine AK.lit (xs := [.tmp 30]) sl41 el4 rfl rfl rfl (by simp [Value.cells]) (by decide) (by decide) trivial rfl (fun lv => ?_)
    refine .nil ?_
    try (conv => enter [2, 2]; simp only [nrm])
    refine HeldK.backS (fun _ hw => hw.pick [7, 9] (by decide) rfl rfl) ?_
    refine HeldK.one 5 (fuel := 2) (listed' := (lb 8 63)) krf rfl krf ?_
    refine AK.appendS 8 rfl sl41 el4 rfl (by decide) rfl rfl rfl rdp (one'_cons rfl one'_nil) (by omega) (by omega) trivial rfl (fun v2 => ?_)
    refine AK.shape 8 rfl (fun sv2 => ?_)
    refine .nil ?_
    try (conv => enter [2, 2]; simp only [nrm])
    refine HeldK.backS (fun _ hw => hw.pick [7, 9] (by decide) rfl rfl) ?_
    refine HeldK.firstS (fun _ hw => hw.pick [7, 9] (by decide) rfl rfl) 6 (fuel := 1) (listed' := (lb 8 127)) _ rfl krf krf rfl (Yl.fieldAddr fd43_2 rfl) trivial rfl ?_
    refine HeldK.one 7 (fuel := 0) (listed' := (lb 8 255)) krf rfl krf ?_
    refine AK.storeBox 7 (us := [v2]) (cs' := [.int .i64 (q.L : Int), .int .i64 0, v2, vN]) rfl sz41 rfl rfl (by rw [IsSl.cells sv2]) rfl oneP (leb rfl) rfl trivial ?_
    refine .nil ?_
    try (conv => enter [2, 2]; simp only [nrm])
    refine HeldK.backN 8 krf rfl krf ?_
    refine .nil ?_
    refine AK.fromQn ?_
    exact hJ _ _ (v2) sv2 (slr) (fun w hw => by rw [take_snocD default q.ex x.1 (by omega), List.map_append, List.map_append]; have h := hw.pick [0, 1, 2, 3, 4, 5, 6, 7, 8, 9] (by decide) rfl rfl; exact h)
   ·skip
    refine .block_normal ?_
    refine AK.then_ (hK8 _ ?_)
    refine AK.region ?_
    refine .v (.add rfl rfl (by omega)) ?_
    refine .mv rfl (.nil ?_)
    refine AK.then_ (hK5 _ _ ((x.1 + 1, z)) ⟨by dsimp only; omega, hg⟩ (by dsimp only; omega) (slr) (fun w hw => hw.pick [0, 1, 2, 3, 4, 5, 6, 7, 8] (by decide) rfl rfl))
  ·have sx := hg0.2
   refine .exit (.then_exit (.then_exit (.block_exit ?_)))
   refine AK.then_ (hK3 _ ?_)
   refine .sr fun _ hK10 => ?_
   refine .v (.loadBoxG ag43 rfl bsp rfl rfl) ?_
   refine AK.storeBox 6 (us := [.int .i64 (q.L : Int), .int .i64 0, x.2, vN]) (cs' := [.int .i64 (q.L : Int), .int .i64 0, x.2, vN]) rfl sz43 rfl rfl rfl rfl oneP (leb rfl) rfl trivial ?_
   refine .nt hK10 (.ret ?_)
   refine AK.retG [.cell 2 43] rfl (.cons (.cell ag43 rfl bsp rfl rfl) (.nil)) (fun w hw => ⟨_, _, _, ?_, rfl, Ret.ofBig0 (hw.pick [8, 2, 3] (by decide) rfl rfl)⟩)
   have e1 : x.1 = q.ex.length := by omega
   refine ⟨x.2, rfl, hg0.2, ?_, rfl⟩
   rw [e1, List.take_length]
   simp only [dfaO, autR, List.length_map]
   rfl

set_option maxHeartbeats 2000000 in
theorem s_build (w : World) (F : Nat → Prop) (B : Bs) (l : List Itm) (hB : BsOk B w F) (hA : (forest B l).holds w F) (e : Ex) (s : Value) (hm : Itm.deep s e.kids ∈ l) (n : Int) (res : Dfa × Int) (hb : buildE e n = some res) : CallM Tryz.prog 29 [.agg #[.int .i64 e.op, .int .i64 e.lt, s], .int .i64 n] w F (fun r A o => ∃ vF vN rs, r = .tuple #[.agg #[.int .i64 res.1.L, .int .i64 res.1.s, vF, vN], .int .i64 res.2] ∧ rs.length = res.1.nx.length ∧ IsSl vF ∧ IsSl vN ∧ A = bigA (dfaO 4 3 26 vF vN rs res.1) ∧ o = []) := by
 refine specM_of Tryz.func29 rfl (leb rfl) hA ?_
 refine .sr fun _ hK1 => ?_
 refine AK.box_ (E := 65) (cs := [.int .i64 e.op, .int .i64 e.lt, s]) rfl rfl rfl trivial rfl (fun bx2 => ?_)
 refine AK.alloc el43 rfl rfl trivial rfl (fun bx4 => ?_)
 refine .as rfl (.nt hK1 ?_)
 refine .seq fun _ hK2 => ?_
 refine .sr fun _ hK3 => ?_
 refine .v (.loadBoxG ag65 rfl bsp rfl rfl) (.mv rfl ?_)
 refine AK.call co57 rfl (fun w hw => s_valid w e s n (hw.kidR hB 0 rfl hm)) trivial rfl ?_
 rintro r o ⟨rfl, rfl⟩
 refine .as rfl (.nt hK3 ?_)
 refine .sr fun _ hK4 => ?_
 refine .mv rfl (.v (.neq rfl rfl) (.nt hK4 ?_))
 refine AK.condNe rfl (fun hc0 => ?_) (fun hc0 => ?_)
 ·have eres : res = (zeroD, validE e n) := by
   rcases buildE_some hb with ⟨_, h⟩ | ⟨h, _⟩
   ·exact h
   ·exact absurd h hc0
  refine .sr fun _ hK5 => ?_
  refine .v (.build (parts := []) (cs := #[.int .i64 0, .int .i64 0, .slice none 0 0, .slice none 0 0]) rfl (by kernel_rfl)) ?_
  refine .mv rfl ?_
  refine AK.storeBox 2 (us := [.int .i64 0, .int .i64 0, .slice none 0 0, .slice none 0 0]) (cs' := [.int .i64 0, .int .i64 0, .slice none 0 0, .slice none 0 0]) rfl sz43 rfl rfl rfl rfl oneP (leb rfl) rfl trivial ?_
  refine .as rfl (.nt hK5 (.ret (.then_ret ?_)))
  refine AK.ghost 4 1 ?_
  refine AK.ghost 26 1 ?_
  refine AK.own' _ (fun w hw => HW.ghostG (f := Value.int .i64) 3 hw) ?_
  refine AK.own' [bigA (dfaO 4 3 26 nilV nilV [] zeroD), box bx4 43 4 [.int .i64 0, .int .i64 0, .slice none 0 0, .slice none 0 0]] (fun w hw => by have h := HW.unflat (l := [_, _, _]) (own := [_]) (hw.pick [3, 4, 5, 2] (by decide) rfl rfl); exact h) ?_
  refine AK.retG [.cell 4 43, .tmp 5] rfl (.cons (.cell ag43 rfl bsp rfl rfl) (.cons (.tmp rfl) (.nil))) (fun w hw => ⟨_, _, _, ?_, rfl, Ret.of (hw.pick [0] (by decide) rfl rfl)⟩)
  subst eres
  exact ⟨nilV, nilV, [], rfl, rfl, nilSl, nilSl, rfl, rfl⟩
 ·obtain ⟨hv0, e1, q2, p, hn1, ha, hlp, hfin⟩ := (buildE_some hb).resolve_left (fun h => h.1 (by omega))
  have hLb := validE_letters hv0
  obtain ⟨L, rfl⟩ : ∃ L : Nat, n = L := ⟨n.toNat, by omega⟩
  rw [Int.toNat_natCast] at ha
  refine .skip ?_
  refine AK.then_ (hK2 _ ?_)
  refine .sr fun _ hK6 => ?_
  refine .v (.loadBoxG ag65 rfl bsp rfl rfl) ?_
  refine AK.callN 0 rfl co59 rfl (fun w Fs hw hh hfr hal => s_norm e w (Fs 0) B l (hB.later hfr hal 0) (hh.at_ 0 _ rfl) s hm e1 hn1) trivial rfl ?_
  rintro r A o ⟨sr, l2, rfl, ssr, rfl, hs2, hm2, rfl⟩
  refine .mv rfl ?_
  refine AK.callN 0 rfl co58 rfl (fun w Fs hw hh hfr hal => s_begin w (Fs 0) B l2 (hB.later hfr hal 0) (hh.at_ 0 _ rfl) e1 sr hm2 ssr L (by omega) q2 ha) trivial rfl ?_
  rintro r A o ⟨rb, mb, vE, es, rfl, hq0, rfl, rfl⟩
  refine .as rfl (.nt hK6 ?_)
  refine .seq fun _ hK7 => ?_
  refine .block ?_
  refine AK.loopK (X := Nat × Run × Value × Value × List Value × List Value × List Itm) [(4, _), (7, _)] (fun x => []) (fun x => [bigA (runO 154 65 26 3 rb mb x.2.2.1 x.2.2.2.1 x.2.2.2.2.1 x.2.2.2.2.2.1 x.2.1 B x.2.2.2.2.2.2), box bx2 65 3 [.int .i64 e.op, .int .i64 e.lt, s], box bx4 43 4 [.int .i64 0, .int .i64 0, .slice none 0 0, .slice none 0 0]]) (fun x => RunF x.2.2.1 x.2.2.2.1 x.2.2.2.2.1 x.2.2.2.2.2.1 x.2.1 x.2.2.2.2.2.2 ∧ loopR x.1 x.2.1 = some p) (fun x => x.1) ((600, q2, vE, nilV, es, [], l2)) slr ?_ ?_ ?_ ?_
  ·exact ⟨hq0, hlp⟩
  ·exact slr
  ·exact fun w hw => hw
  ·intro x hg0 _ hK8
   refine .seq fun _ hK9 => ?_
   refine .sr fun _ hK10 => ?_
   refine .mv rfl ?_
   refine AK.call co60 rfl (fun w hw => s_rfin w rb mb x.2.2.1 x.2.2.2.1 x.2.2.2.2.1 x.2.1 (runO_rd hw 0 rfl).1 (runO_rd hw 0 rfl).2) trivial rfl ?_
   rintro r o ⟨rfl, rfl⟩
   refine .v (.not rfl) (.nt hK10 ?_)
   refine AK.condB rfl (fun hc1 => ?_) (fun hc1 => ?_)
   ·have hne : x.2.1.dn ≠ x.2.1.ex.length := by simpa using hc1
    have hdn : x.2.1.dn < x.2.1.ex.length := by have := hg0.1.dn; omega
    obtain ⟨m, hm1, hcs⟩ := loopR_some hg0.2
    obtain ⟨_, r2, hr2, hcs⟩ := hcs.resolve_left (fun h => hne h.1)
    refine .skip ?_
    refine AK.then_ (hK9 _ ?_)
    refine .block ?_
    refine .sr fun _ hK11 => ?_
    refine .mv rfl ?_
    refine AK.callN 0 rfl co61 rfl (fun w Fs hw hh hfr hal => s_rproc w (Fs 0) B x.2.2.2.2.2.2 (hB.later hfr hal 0) rb mb x.2.2.1 x.2.2.2.1 x.2.2.2.2.1 x.2.2.2.2.2.1 x.2.1 hg0.1 (hh.at_ 0 _ rfl) hdn r2 hr2) trivial rfl ?_
    rintro r A o ⟨rfl, rfl, hpost⟩
    refine .as rfl (.nt hK11 ?_)
    refine .sr fun _ hK12 => ?_
    refine .mv rfl (.v (.neq rfl rfl) (.nt hK12 ?_))
    refine AK.condNe rfl (fun hc2 => ?_) (fun hc2 => ?_)
    ·have hp2 : p = r2 := by
      rcases hcs with ⟨_, h⟩ | ⟨h, _⟩
      ·exact h
      ·exact absurd h hc2
     subst hp2
     have eres : res = (zeroD, p.2) := by
      rcases hfin with ⟨_, h⟩ | ⟨h, _⟩
      ·exact h
      ·exact absurd h hc2
     refine .sr fun _ hK13 => ?_
     refine .v (.build (parts := []) (cs := #[.int .i64 0, .int .i64 0, .slice none 0 0, .slice none 0 0]) rfl (by kernel_rfl)) ?_
     refine .mv rfl ?_
     refine AK.storeBox 2 (us := [.int .i64 0, .int .i64 0, .slice none 0 0, .slice none 0 0]) (cs' := [.int .i64 0, .int .i64 0, .slice none 0 0, .slice none 0 0]) rfl sz43 rfl rfl rfl rfl oneP (leb rfl) rfl trivial ?_
     refine .as rfl (.nt hK13 (.ret (.block_ret (.then_ret (.block_ret (.then_ret ?_))))))
     refine AK.ghost 4 1 ?_
     refine AK.ghost 26 1 ?_
     refine AK.own' _ (fun w hw => HW.ghostG (f := Value.int .i64) 3 hw) ?_
     refine AK.own' [bigA (dfaO 4 3 26 nilV nilV [] zeroD), box bx4 43 4 [.int .i64 0, .int .i64 0, .slice none 0 0, .slice none 0 0]] (fun w hw => by have h := HW.unflat (l := [_, _, _]) (own := [_]) (hw.pick [3, 4, 5, 2] (by decide) rfl rfl); exact h) ?_
     refine AK.retG [.cell 4 43, .tmp 5] rfl (.cons (.cell ag43 rfl bsp rfl rfl) (.cons (.tmp rfl) (.nil))) (fun w hw => ⟨_, _, _, ?_, rfl, Ret.of (hw.pick [0] (by decide) rfl rfl)⟩)
     subst eres
     exact ⟨nilV, nilV, [], rfl, rfl, nilSl, nilSl, rfl, rfl⟩
    ·have hz : r2.2 = 0 := by omega
     have hlp2 : loopR m r2.1 = some p := by
      rcases hcs with ⟨h, _⟩ | ⟨_, h⟩
      ·exact absurd hz h
      ·exact h
     obtain ⟨vE2, vN2, es2, rs2, l3, hq3, rfl⟩ := hpost hz
     refine .skip (.block_normal ?_)
     refine AK.then_ (hK8 _ _ ((m, r2.1, vE2, vN2, es2, rs2, l3)) ⟨hq3, hlp2⟩ (by dsimp only; omega) (slr) (fun w hw => hw.pick [0, 1, 2] (by decide) rfl rfl))
   ·have heq : x.2.1.dn = x.2.1.ex.length := by simpa using hc1
    obtain ⟨m, hm1, hcs⟩ := loopR_some hg0.2
    have hpe : p = (x.2.1, 0) := by
     rcases hcs with ⟨_, h⟩ | ⟨h, _⟩
     ·exact h
     ·exact absurd heq h
    subst hpe
    have svN := hg0.1.sN
    refine .exit (.then_exit (.then_exit (.block_exit ?_)))
    refine AK.then_ (hK7 _ ?_)
    refine .sr fun _ hK14 => ?_
    refine .mv rfl ?_
    refine AK.callN 0 rfl co62 rfl (fun w Fs hw hh hfr hal => s_raut w (Fs 0) B x.2.2.2.2.2.2 (hB.later hfr hal 0) rb mb x.2.2.1 x.2.2.2.1 x.2.2.2.2.1 x.2.2.2.2.2.1 x.2.1 hg0.1 (hh.at_ 0 _ rfl)) trivial rfl ?_
    rintro r A o ⟨vF, rfl, svF, rfl, rfl⟩
    refine AK.storeBox 2 (us := [.int .i64 (x.2.1.L : Int), .int .i64 0, vF, x.2.2.2.1]) (cs' := [.int .i64 (x.2.1.L : Int), .int .i64 0, vF, x.2.2.2.1]) rfl sz43 rfl rfl rfl rfl oneP (leb rfl) rfl trivial ?_
    refine .as rfl (.nt hK14 (.ret ?_))
    refine AK.retG [.cell 4 43, .tmp 5] rfl (.cons (.cell ag43 rfl bsp rfl rfl) (.cons (.tmp rfl) (.nil))) (fun w hw => ⟨_, _, _, ?_, rfl, Ret.of (hw.pick [0] (by decide) rfl rfl)⟩)
    have eres : res = (autR x.2.1, 0) := by
     rcases hfin with ⟨h, _⟩ | ⟨_, h⟩
     ·exact absurd rfl h
     ·exact h
    subst eres
    exact ⟨vF, x.2.2.2.1, x.2.2.2.2.2.1, rfl, hg0.1.rl, svF, svN, rfl, rfl⟩

end Go.Proofs.YtdnhiinakhmhgaaGreatDoor

namespace Go.Sx
open Go.RowKit
/-! ### sets of offsets, of words of at most 62 letters -/
section
variable {C : Cx} {sl : List (Nat × Value)} {own : List Asn} {dst : Option Nat} {ty : TypeId} {pos : String} {aft : Array Edge} {g : Option (Nat × Bool)} {x y : Operand} {t t' : TypeId}
theorem Yl.shlI {k : IntKind} {m n : Int} (r : Int) (hx : opv ⟨sl, own⟩ x = some (.int .i64 m)) (hy : opv ⟨sl, own⟩ y = some (.int k n)) (hn : 0 ≤ n ∧ n ≤ 62) (e : m * 2 ^ n.toNat = r) (hr : -9223372036854775808 ≤ r ∧ r ≤ 9223372036854775807) :
    Yl C ⟨sl, own⟩ ⟨dst, .binOp .shl t x y t', ty, pos, aft, g⟩ (.int .i64 r) :=
  fun a w hs => by
    have h1 : Min.min n.toNat 64 = n.toNat := by omega
    have h2 : ¬ n < 0 := by omega
    simp only [execOp, opv_eval hs hx, opv_eval hs hy]
    simp [go_sem, binOp, Op.shift, IntKind.bits, h1, h2, e, wrap_in hr.1 hr.2]
end
theorem and63 {m : Nat} (h : m < 64) : andZ (m : Int) 63 = m := by
  have : ∀ k : Fin 64, andZ ((k.val : Nat) : Int) 63 = k.val := by decide
  exact this ⟨m, h⟩
theorem div64 {m : Nat} (h : m < 64) : (m : Int) / 2 ^ (6 : Int).toNat = 0 := by
  show (m : Int) / 64 = 0
  omega
/-- where the parts end that begin at i and match a leaf -/
def leafS (e : Ex) (wd : List UInt8) (i : Nat) : W64 :=
  if e.op = 2 then 0 ||| ((1 : W64) <<< i) else if e.op = 3 ∧ i < wd.length ∧ ((wd.getD i 0).toNat : Int) - 97 = e.lt then 0 ||| ((1 : W64) <<< (i + 1)) else 0
def leafOp (e : Ex) : Prop := e.op ≠ 4 ∧ e.op ≠ 5 ∧ e.op ≠ 6 ∧ e.op ≠ 7 ∧ e.op ≠ 8
theorem valid97 {wd : List UInt8} (h : validW 6 wd = true) {i : Nat} (hi : i < wd.length) : 97 ≤ ((wd.getD i 0).toNat : Int) ∧ ((wd.getD i 0).toNat : Int) ≤ 102 := by
  unfold validW at h
  rw [Bool.and_eq_true, List.all_eq_true] at h
  have := h.2 _ (List.getElem_mem hi)
  have e : wd.getD i 0 = wd[i] := by simp [List.getD_eq_getElem?_getD, hi]
  rw [e]
  unfold okB at this
  simp at this
  omega
theorem bit_shr (x : W64) (i : Nat) : decide (x >>> i &&& 1 = 1) = x.getLsbD i := by
  have e : (x >>> i &&& 1).toNat = (x.toNat >>> i) % 2 := by
    rw [BitVec.toNat_and, BitVec.toNat_ushiftRight]
    exact Nat.and_one_is_mod _
  have e2 : x.getLsbD i = decide ((x.toNat >>> i) % 2 = 1) := by
    show x.toNat.testBit i = _
    rw [Nat.testBit, Nat.and_comm, Nat.and_one_is_mod]
    rcases Nat.mod_two_eq_zero_or_one (x.toNat >>> i) with h | h <;> simp [h]
  rw [e2]
  apply decide_eq_decide.2
  constructor
  · intro h; rw [← e, h]; rfl
  · intro h; apply BitVec.eq_of_toNat_eq; rw [e, h]; rfl
theorem rep_get {n i : Nat} {v z d : Value} (hi : i < n) : ((List.replicate n z).set i v).getD i d = v := by
  simp [List.getD_eq_getElem?_getD, List.getElem?_set, hi]
end Go.Sx
