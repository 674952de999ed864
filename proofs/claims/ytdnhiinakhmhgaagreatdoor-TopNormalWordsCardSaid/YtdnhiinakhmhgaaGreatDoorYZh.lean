import Derived.Test.YtdnhiinakhmhgaaGreatDoorYZg
set_option linter.unusedVariables false
set_option linter.unusedSimpArgs false
set_option maxRecDepth 100000
namespace Go.Proofs.YtdnhiinakhmhgaaGreatDoor
open Go.Sx Go.RowKit
set_option maxHeartbeats 4000000 in
theorem s_eproc (w : World) (F : Nat → Prop) (rb mb : Nat) (m : EnM) (q : Rn) (hm : EnF m q) (c : Nat) (hI : RnI q q.gens.length c) (hd : q.done < q.elems.length) (hc : c ≤ 100000) (hA : (bigA (enO 75 26 3 39 9 rb mb m q)).holds w F) : CallM Tryz.prog 37 [.pointer (some ⟨rb, 0, none⟩)] w F (fun r A o => r = .int .i64 0 ∧ o = [] ∧ ∃ m2, EnF m2 (procN q) ∧ A = bigA (enO 75 26 3 39 9 rb mb m2 (procN q))) := by
 unfold enO at hA
 unfold enB at hA
 have hle := hI.le
 have hgl := hm.gl
 have hG2 := hI.g.len
 refine specM_of' Tryz.func37 rfl (leb rfl) hA ?_
 refine .sr fun _ hK1 => ?_
 refine .as rfl (.nt hK1 ?_)
 refine .sr fun _ hK2 => ?_
 refine .mv rfl (.v (.nilCheck rfl) (.v (.fieldAddr fd75_0 rfl) (.v (.fieldAddr fd29_8 rfl) (.v (.loadBox on3 rfl bsp rfl) (.as rfl (.nt hK2 ?_))))))
 refine .sr fun _ hK3 => ?_
 refine .mv rfl (.v (.nilCheck rfl) (.v (.fieldAddr fd75_0 rfl) (.v (.fieldAddr fd29_2 rfl) (.v (.loadBox on22 rfl bsp rfl) (.v (.lenR sl22 rfl rdp) ?_)))))
 refine AK.make1 sl26 el3 rfl rfl rfl (by omega) (by omega) trivial rfl (fun mv0 => ?_)
 refine AK.shape 14 rfl (fun smv => ?_)
 refine .as rfl (.nt hK3 ?_)
 refine .seq fun _ hK4 => ?_
 refine .sr fun _ hK5 => ?_
 refine .mv rfl (.v (.nilCheck rfl) (.v (.fieldAddr fd75_0 rfl) (.v (.fieldAddr fd29_2 rfl) (.v (.loadBox on22 rfl bsp rfl) (.v (.lenR sl22 rfl rdp) (.mv rfl (.nt hK5 (.block ?_))))))))
 refine AK.loopK (X := Nat × EnM) [(0, _), (3, _), (4, _), (27, _), (28, _)] (fun x => [(29, .int .i64 (x.1 : Int))]) (fun x => [row m.vG 26 1 (rowN q x.1).1.gens.length m.gs, bigA (matG (Value.int .i64) 3 m.gs (rowN q x.1).1.gens), row x.2.vE 26 1 (rowN q x.1).1.elems.length x.2.es, bigA (matG (Value.int .i64) 3 x.2.es (rowN q x.1).1.elems), row x.2.vP 3 1 (rowN q x.1).1.pre.length ((rowN q x.1).1.pre.map (Value.int .i64)), row x.2.vL 3 1 (rowN q x.1).1.las.length ((rowN q x.1).1.las.map (Value.int .i64)), row x.2.vR 26 1 (rowN q x.1).1.right.length x.2.rs, bigA (matG (Value.int .i64) 3 x.2.rs (rowN q x.1).1.right), row x.2.vU 39 2 (rowN q x.1).1.rules.length (rlc (rowN q x.1).1.rules), box rb 75 13 [.int .i64 ((rowN q x.1).1.pts : Int), .bool (rowN q x.1).1.mon, m.vG, x.2.vE, x.2.vP, x.2.vL, x.2.vR, x.2.vU, .int .i64 ((rowN q x.1).1.done : Int), .map (some mb), x.2.vW, x.2.vB, x.2.vS], mapA mb (mkv sv (Value.int .i64) (numM (txs (rowN q x.1).1))), row x.2.vW 9 1 (rowN q x.1).1.words.length ((rowN q x.1).1.words.map sv), row x.2.vB 3 1 (rowN q x.1).1.beh.length ((rowN q x.1).1.beh.map (Value.int .i64)), row x.2.vS 3 1 (rowN q x.1).1.sing.length ((rowN q x.1).1.sing.map (Value.int .i64)), row mv0 3 1 q.gens.length (((rowN q x.1).2 ++ List.replicate (q.gens.length - x.1) 0).map (Value.int .i64))]) (fun x => x.1 ≤ q.gens.length ∧ EnF { x.2 with vG := m.vG, gs := m.gs } (rowN q x.1).1) (fun x => q.gens.length - x.1) ((0, m)) slr ?_ ?_ ?_ ?_
 ·exact ⟨Nat.zero_le _, hm⟩
 ·exact slr
 ·exact fun w hw => by simpa [rowN] using hw
 ·intro x hg0 _ hK6
  refine .sr fun _ hK7 => ?_
  refine .v (.lss rfl rfl) (.nt hK7 ?_)
  refine .seq fun _ hK8 => ?_
  refine AK.condD rfl (fun hc0 => ?_) (fun hc0 => ?_)
  ·obtain ⟨hI1, hg1, hd1, hr1, hle1, hrl1, hrb1⟩ := rowN_ok hI hd x.1 (by omega)
   have hF := hg0.2
   have hFe : x.2.es.length = (rowN q x.1).1.elems.length := hF.el
   have hFg : m.gs.length = (rowN q x.1).1.gens.length := hF.gl
   have hFr : x.2.rs.length = (rowN q x.1).1.right.length := hF.rl
   have hpl := hI1.pl
   have hll := hI1.ll
   have hwl := hI1.wl
   have hbl := hI1.bl
   have hrl := hI1.rl
   have hle2 := hI1.le
   have hsl := hI1.sl
   have hru := hI1.ru
   have hgl1 : (rowN q x.1).1.gens.length = q.gens.length := by rw [hg1]
   have hpe : VF (rowN q x.1).1.pts ((rowN q x.1).1.elems.getD q.done []) := hI1.el _ (by omega)
   have hpg : VF (rowN q x.1).1.pts ((rowN q x.1).1.gens.getD x.1 []) := hI1.g.fs _ (by omega)
   have hpt := hI1.g.pts
   have hvp : VF (rowN q x.1).1.pts (prodN (rowN q x.1).1 x.1) := by unfold prodN; rw [hd1]; exact hpe.comp hpg
   have hvpl := hvp.1
   have hbe := hI1.bh q.done (by omega)
   have haf := after_ok (r := (rowN q x.1).1) (by rw [hg1]; exact hI1) (by omega) (x := x.1) (by rw [hg1]; omega)
   rw [hd1] at haf
   have hwd := hI1.ws q.done (by omega)
   refine .skip ?_
   refine AK.then_ (hK8 _ ?_)
   refine .seq fun _ hK9 => ?_
   refine .block ?_
   refine .sr fun _ hK10 => ?_
   refine .mv rfl ?_
   first | refine .v (.iN sl22 rfl rfl) ?_ | refine .v (.iK sl22 rfl rfl) ?_
   refine .v (.loadV on26 rfl rdp (by omega)) ?_
   refine .as rfl (.as rfl (.nt hK10 ?_))
   refine .sr fun _ hK11 => ?_
   refine .mv rfl (.v (.nilCheck rfl) (.v (.fieldAddr fd75_0 rfl) (.v (.fieldAddr fd29_3 rfl) (.v (.loadBox on22 rfl bsp rfl) (.mv rfl ?_)))))
   first | refine .v (.iN sl22 rfl rfl) ?_ | refine .v (.iK sl22 rfl rfl) ?_
   refine .v (.loadV on26 rfl rdp (by omega)) ?_
   refine .mv rfl ?_
   refine AK.call co75 rfl (fun w hw => s_compose w (rowN q x.1).1.pts (by omega) (x.2.es.getD q.done undef) (m.gs.getD x.1 undef) ((rowN q x.1).1.elems.getD (rowN q x.1).1.done []) ((rowN q x.1).1.gens.getD x.1 []) (by rw [hd1]; exact RdL.big (v := undef) 3 q.done hw rfl hF.el (by omega)) (RdL.big (v := undef) 1 x.1 hw rfl hF.gl (by omega)) (by rw [hd1]; exact hpe) hpg) trivial rfl ?_
   rintro cv o ⟨scv, rfl⟩
   refine .as rfl (.nt hK11 ?_)
   refine .seq fun _ hK12 => ?_
   refine AK.quiet mixed krf ?_
   refine .mv rfl (.v (.nilCheck rfl) (.v (.fieldAddr fd75_1 rfl) (.v (.loadBox on73 rfl bsp rfl) (.mv rfl ?_))))
   refine QK.call (sv (textF (prodN (rowN q x.1).1 x.1))) co73 rfl (fun w hw => s_text w cv (prodN (rowN q x.1).1 x.1) (RdL.own 15 hw rfl) (by omega) (fun i hi => by have := hvp.2 i (by omega); omega)) (fun r o h => h.1) trivial rfl ?_
   refine .v (.lookup2I mp73 (keyStrT un9) el3 rfl rfl msp) (.mv rfl (.v (.extract rfl rfl) (.v (.extract rfl rfl) (.as rfl (.as rfl ?_)))))
   refine QK.nil (QK.fin ?_)
   refine AK.then_ (hK12 _ ?_)
   refine .sr fun _ hK13 => ?_
   refine .mv rfl (.v (.nilCheck rfl) (.v (.fieldAddr fd75_2 rfl) (.v (.loadBox on44 rfl bsp rfl) (.mv rfl ?_))))
   first | refine .v (.iN sl44 rfl rfl) ?_ | refine .v (.iK sl44 rfl rfl) ?_
   refine .v (.loadS on9 rfl rdp (by omega)) ?_
   refine .mv rfl ?_
   refine .v (.add rfl rfl (by omega)) ?_
   refine .v (.convI (by kernel_rfl) un21 rfl (wrap_i32 (by omega))) ?_
   refine AK.val (sv [ltr x.1]) (Yl.valE (Yl.runeS (by kernel_rfl) un9 rfl (by omega)) (by rw [ofNat_ltr (by omega)])) trivial rfl ?_
   refine .v (.concat rfl rfl (by rw [List.length_singleton]; omega)) ?_
   refine .as rfl (.nt hK13 ?_)
   refine AK.seqJ (X := EnM) [(0, _), (3, _), (4, _), (5, _), (27, _), (28, _), (29, _)] (fun z => [(8, .int .i64 (letN (rowN q x.1).1 x.1).2)]) (fun z => [row m.vG 26 1 (letN (rowN q x.1).1 x.1).1.gens.length m.gs, bigA (matG (Value.int .i64) 3 m.gs (letN (rowN q x.1).1 x.1).1.gens), row z.vE 26 1 (letN (rowN q x.1).1 x.1).1.elems.length z.es, bigA (matG (Value.int .i64) 3 z.es (letN (rowN q x.1).1 x.1).1.elems), row z.vP 3 1 (letN (rowN q x.1).1 x.1).1.pre.length ((letN (rowN q x.1).1 x.1).1.pre.map (Value.int .i64)), row z.vL 3 1 (letN (rowN q x.1).1 x.1).1.las.length ((letN (rowN q x.1).1 x.1).1.las.map (Value.int .i64)), row z.vR 26 1 (letN (rowN q x.1).1 x.1).1.right.length z.rs, bigA (matG (Value.int .i64) 3 z.rs (letN (rowN q x.1).1 x.1).1.right), row z.vU 39 2 (letN (rowN q x.1).1 x.1).1.rules.length (rlc (letN (rowN q x.1).1 x.1).1.rules), box rb 75 13 [.int .i64 ((letN (rowN q x.1).1 x.1).1.pts : Int), .bool (letN (rowN q x.1).1 x.1).1.mon, m.vG, z.vE, z.vP, z.vL, z.vR, z.vU, .int .i64 ((letN (rowN q x.1).1 x.1).1.done : Int), .map (some mb), z.vW, z.vB, z.vS], mapA mb (mkv sv (Value.int .i64) (numM (txs (letN (rowN q x.1).1 x.1).1))), row z.vW 9 1 (letN (rowN q x.1).1 x.1).1.words.length ((letN (rowN q x.1).1 x.1).1.words.map sv), row z.vB 3 1 (letN (rowN q x.1).1 x.1).1.beh.length ((letN (rowN q x.1).1 x.1).1.beh.map (Value.int .i64)), row z.vS 3 1 (letN (rowN q x.1).1 x.1).1.sing.length ((letN (rowN q x.1).1 x.1).1.sing.map (Value.int .i64)), row mv0 3 1 q.gens.length (((rowN q x.1).2 ++ List.replicate (q.gens.length - x.1) 0).map (Value.int .i64))]) (fun z => EnF { z with vG := m.vG, gs := m.gs } (letN (rowN q x.1).1 x.1).1) slr (fun _ hK14 => ?_) (fun z hg => ?_)
   ·refine .block ?_
    refine AK.seqJ (X := Unit) [(0, _), (3, _), (4, _), (5, _), (7, _), (8, _), (9, _), (10, _), (27, _), (28, _), (29, _)] (fun u => [(66, .bool false)]) (fun u => [row m.vG 26 1 (rowN q x.1).1.gens.length m.gs, bigA (matG (Value.int .i64) 3 m.gs (rowN q x.1).1.gens), row x.2.vE 26 1 (rowN q x.1).1.elems.length x.2.es, bigA (matG (Value.int .i64) 3 x.2.es (rowN q x.1).1.elems), row x.2.vP 3 1 (rowN q x.1).1.pre.length ((rowN q x.1).1.pre.map (Value.int .i64)), row x.2.vL 3 1 (rowN q x.1).1.las.length ((rowN q x.1).1.las.map (Value.int .i64)), row x.2.vR 26 1 (rowN q x.1).1.right.length x.2.rs, bigA (matG (Value.int .i64) 3 x.2.rs (rowN q x.1).1.right), row x.2.vU 39 2 (rowN q x.1).1.rules.length (rlc (rowN q x.1).1.rules), box rb 75 13 [.int .i64 ((rowN q x.1).1.pts : Int), .bool (rowN q x.1).1.mon, m.vG, x.2.vE, x.2.vP, x.2.vL, x.2.vR, x.2.vU, .int .i64 ((rowN q x.1).1.done : Int), .map (some mb), x.2.vW, x.2.vB, x.2.vS], mapA mb (mkv sv (Value.int .i64) (numM (txs (rowN q x.1).1))), row x.2.vW 9 1 (rowN q x.1).1.words.length ((rowN q x.1).1.words.map sv), row x.2.vB 3 1 (rowN q x.1).1.beh.length ((rowN q x.1).1.beh.map (Value.int .i64)), row x.2.vS 3 1 (rowN q x.1).1.sing.length ((rowN q x.1).1.sing.map (Value.int .i64)), row mv0 3 1 q.gens.length (((rowN q x.1).2 ++ List.replicate (q.gens.length - x.1) 0).map (Value.int .i64)), row cv 3 1 (prodN (rowN q x.1).1 x.1).length ((prodN (rowN q x.1).1 x.1).map (Value.int .i64))]) (fun u => True) slr (fun _ hK15 => ?_) (fun u hg => ?_)
    ·refine AK.region ?_
     refine .mv rfl (.v (.not rfl) (.mv rfl ?_))
     refine AK.splitB (g := 69) rfl (fun hg_9_2 => ?_) (fun hg_9_2 => ?_)
     ·have hg_9_2' := hg_9_2
      try simp only [bs] at hg_9_2'
      refine AK.val _ (Yl.move rfl) ⟨_, rfl, gB hg_9_2⟩ rfl ?_
      refine AK.val _ (Yl.nilCheck rfl) ⟨_, rfl, gB hg_9_2⟩ rfl ?_
      refine AK.val _ (Yl.fieldAddr fd75_0 rfl) ⟨_, rfl, gB hg_9_2⟩ rfl ?_
      refine AK.val _ (Yl.fieldAddr fd29_3 rfl) ⟨_, rfl, gB hg_9_2⟩ rfl ?_
      refine AK.val _ (Yl.loadBox on22 rfl bsp rfl) ⟨_, rfl, gB hg_9_2⟩ rfl ?_
      refine AK.val _ (Yl.lenR sl22 rfl rdp) ⟨_, rfl, gB hg_9_2⟩ rfl ?_
      refine AK.val _ (Yl.eql rfl rfl) ⟨_, rfl, gB hg_9_2⟩ rfl ?_
      refine .v (.pickT rfl (hg_9_2) rfl) (.as rfl (.nil ?_))
      refine AK.then_ (hK15 _ _ (()) trivial (.cons (slB rfl (by first | rfl | exact decide_eq_false (by omega))) (slr)) (fun w hw => hw))
     ·have hg_9_2' := hg_9_2
      try simp only [bs] at hg_9_2'
      refine AK.pass rfl rfl (hg_9_2) rfl ?_
      refine AK.pass rfl rfl (hg_9_2) rfl ?_
      refine AK.pass rfl rfl (hg_9_2) rfl ?_
      refine AK.pass rfl rfl (hg_9_2) rfl ?_
      refine AK.pass rfl rfl (hg_9_2) rfl ?_
      refine AK.pass rfl rfl (hg_9_2) rfl ?_
      refine AK.pass rfl rfl (hg_9_2) rfl ?_
      refine .v (.pickF rfl (hg_9_2) rfl) (.as rfl (.nil ?_))
      refine AK.then_ (hK15 _ _ (()) trivial (.cons (slB rfl (by first | rfl | exact decide_eq_false (by omega))) (slr)) (fun w hw => hw))
    ·skip
     refine AK.cond_f rfl (by first | rfl | exact decide_eq_false (by omega)) ?_
     refine .sr fun _ hK16 => ?_
     refine .mv rfl (.v (.not rfl) (.as rfl (.nt hK16 ?_)))
     refine AK.condB rfl (fun hc2 => ?_) (fun hc2 => ?_)
     ·have hno : (textF (prodN (rowN q x.1).1 x.1)) ∉ txs (rowN q x.1).1 := fun h => by rw [mget_numM, if_pos h] at hc2; cases hc2
      have hlet := letN_new hno
      have e1 : (letN (rowN q x.1).1 x.1).1 = (addN (rowN q x.1).1 (prodN (rowN q x.1).1 x.1) (q.done : Int) (x.1 : Int) ((rowN q x.1).1.words.getD q.done [] ++ [ltr x.1]) (afterN (rowN q x.1).1 ((rowN q x.1).1.beh.getD q.done 0) x.1)) := by rw [hlet]; simp only [longN, hd1]
      have e2 : (letN (rowN q x.1).1 x.1).2 = ((rowN q x.1).1.elems.length : Int) := by rw [hlet]
      refine AK.region ?_
      refine .mv rfl (.mv rfl (.mv rfl (.mv rfl (.mv rfl (.mv rfl (.mv rfl (.v (.nilCheck rfl) (.v (.fieldAddr fd75_3 rfl) (.v (.loadBox on26 rfl bsp rfl) (.mv rfl ?_))))))))))
      first | refine .v (.iN sl26 rfl rfl) ?_ | refine .v (.iK sl26 rfl rfl) ?_
      refine .v (.loadI on3 rfl rdp (by omega)) ?_
      refine .mv rfl ?_
      refine AK.call co76 rfl (fun w hw => s_after w rb mb { x.2 with vG := m.vG, gs := m.gs } (rowN q x.1).1 (RnR.own (TR := 75) (TRI := 26) (TI := 3) (TRU := 39) (TS := 9) hw hF rfl) ((rowN q x.1).1.beh.getD q.done 0) x.1 (by rw [hsl]; rcases hbe with h | ⟨h, h'⟩; exact .inl ⟨h, by omega⟩; exact .inr ⟨h, by omega, by rw [(hI1.rr _ (by omega)).1]; omega⟩)) trivial rfl ?_
      rintro r o ⟨rfl, rfl⟩
      refine AK.own' [bigA (enO 75 26 3 39 9 rb mb { x.2 with vG := m.vG, gs := m.gs } (rowN q x.1).1 ++ [row cv 3 1 (prodN (rowN q x.1).1 x.1).length ((prodN (rowN q x.1).1 x.1).map (Value.int .i64))]), row mv0 3 1 q.gens.length (((rowN q x.1).2 ++ List.replicate (q.gens.length - x.1) 0).map (Value.int .i64))] (fun w hw => by have h := HW.unflat (l := enO 75 26 3 39 9 rb mb { x.2 with vG := m.vG, gs := m.gs } (rowN q x.1).1 ++ [row cv 3 1 (prodN (rowN q x.1).1 x.1).length ((prodN (rowN q x.1).1 x.1).map (Value.int .i64))]) (own := [_]) (hw.pick [0, 1, 2, 3, 4, 5, 6, 7, 8, 9, 10, 11, 12, 13, 15, 14] (by decide) rfl rfl); exact h) ?_
      refine AK.callN 0 rfl co71 rfl (fun w Fs hw hh hfr hal => s_eadd w (Fs 0) rb mb { x.2 with vG := m.vG, gs := m.gs } (rowN q x.1).1 hF q.gens.length (c + x.1) hI1 cv (prodN (rowN q x.1).1 x.1) scv hvp hno (q.done : Int) (x.1 : Int) ((rowN q x.1).1.words.getD q.done [] ++ [ltr x.1]) (afterN (rowN q x.1).1 ((rowN q x.1).1.beh.getD q.done 0) x.1) (hh.at_ 0 _ rfl)) trivial rfl ?_
      rintro r A o ⟨rfl, rfl, m2, hF2, hv2, hs2, rfl⟩
      refine AK.own' [row m.vG 26 1 (addN (rowN q x.1).1 (prodN (rowN q x.1).1 x.1) (q.done : Int) (x.1 : Int) ((rowN q x.1).1.words.getD q.done [] ++ [ltr x.1]) (afterN (rowN q x.1).1 ((rowN q x.1).1.beh.getD q.done 0) x.1)).gens.length m.gs, bigA (matG (Value.int .i64) 3 m.gs (addN (rowN q x.1).1 (prodN (rowN q x.1).1 x.1) (q.done : Int) (x.1 : Int) ((rowN q x.1).1.words.getD q.done [] ++ [ltr x.1]) (afterN (rowN q x.1).1 ((rowN q x.1).1.beh.getD q.done 0) x.1)).gens), row m2.vE 26 1 (addN (rowN q x.1).1 (prodN (rowN q x.1).1 x.1) (q.done : Int) (x.1 : Int) ((rowN q x.1).1.words.getD q.done [] ++ [ltr x.1]) (afterN (rowN q x.1).1 ((rowN q x.1).1.beh.getD q.done 0) x.1)).elems.length m2.es, bigA (matG (Value.int .i64) 3 m2.es (addN (rowN q x.1).1 (prodN (rowN q x.1).1 x.1) (q.done : Int) (x.1 : Int) ((rowN q x.1).1.words.getD q.done [] ++ [ltr x.1]) (afterN (rowN q x.1).1 ((rowN q x.1).1.beh.getD q.done 0) x.1)).elems), row m2.vP 3 1 (addN (rowN q x.1).1 (prodN (rowN q x.1).1 x.1) (q.done : Int) (x.1 : Int) ((rowN q x.1).1.words.getD q.done [] ++ [ltr x.1]) (afterN (rowN q x.1).1 ((rowN q x.1).1.beh.getD q.done 0) x.1)).pre.length ((addN (rowN q x.1).1 (prodN (rowN q x.1).1 x.1) (q.done : Int) (x.1 : Int) ((rowN q x.1).1.words.getD q.done [] ++ [ltr x.1]) (afterN (rowN q x.1).1 ((rowN q x.1).1.beh.getD q.done 0) x.1)).pre.map (Value.int .i64)), row m2.vL 3 1 (addN (rowN q x.1).1 (prodN (rowN q x.1).1 x.1) (q.done : Int) (x.1 : Int) ((rowN q x.1).1.words.getD q.done [] ++ [ltr x.1]) (afterN (rowN q x.1).1 ((rowN q x.1).1.beh.getD q.done 0) x.1)).las.length ((addN (rowN q x.1).1 (prodN (rowN q x.1).1 x.1) (q.done : Int) (x.1 : Int) ((rowN q x.1).1.words.getD q.done [] ++ [ltr x.1]) (afterN (rowN q x.1).1 ((rowN q x.1).1.beh.getD q.done 0) x.1)).las.map (Value.int .i64)), row m2.vR 26 1 (addN (rowN q x.1).1 (prodN (rowN q x.1).1 x.1) (q.done : Int) (x.1 : Int) ((rowN q x.1).1.words.getD q.done [] ++ [ltr x.1]) (afterN (rowN q x.1).1 ((rowN q x.1).1.beh.getD q.done 0) x.1)).right.length m2.rs, bigA (matG (Value.int .i64) 3 m2.rs (addN (rowN q x.1).1 (prodN (rowN q x.1).1 x.1) (q.done : Int) (x.1 : Int) ((rowN q x.1).1.words.getD q.done [] ++ [ltr x.1]) (afterN (rowN q x.1).1 ((rowN q x.1).1.beh.getD q.done 0) x.1)).right), row m2.vU 39 2 (addN (rowN q x.1).1 (prodN (rowN q x.1).1 x.1) (q.done : Int) (x.1 : Int) ((rowN q x.1).1.words.getD q.done [] ++ [ltr x.1]) (afterN (rowN q x.1).1 ((rowN q x.1).1.beh.getD q.done 0) x.1)).rules.length (rlc (addN (rowN q x.1).1 (prodN (rowN q x.1).1 x.1) (q.done : Int) (x.1 : Int) ((rowN q x.1).1.words.getD q.done [] ++ [ltr x.1]) (afterN (rowN q x.1).1 ((rowN q x.1).1.beh.getD q.done 0) x.1)).rules), box rb 75 13 [.int .i64 ((addN (rowN q x.1).1 (prodN (rowN q x.1).1 x.1) (q.done : Int) (x.1 : Int) ((rowN q x.1).1.words.getD q.done [] ++ [ltr x.1]) (afterN (rowN q x.1).1 ((rowN q x.1).1.beh.getD q.done 0) x.1)).pts : Int), .bool (addN (rowN q x.1).1 (prodN (rowN q x.1).1 x.1) (q.done : Int) (x.1 : Int) ((rowN q x.1).1.words.getD q.done [] ++ [ltr x.1]) (afterN (rowN q x.1).1 ((rowN q x.1).1.beh.getD q.done 0) x.1)).mon, m.vG, m2.vE, m2.vP, m2.vL, m2.vR, m2.vU, .int .i64 ((addN (rowN q x.1).1 (prodN (rowN q x.1).1 x.1) (q.done : Int) (x.1 : Int) ((rowN q x.1).1.words.getD q.done [] ++ [ltr x.1]) (afterN (rowN q x.1).1 ((rowN q x.1).1.beh.getD q.done 0) x.1)).done : Int), .map (some mb), m2.vW, m2.vB, m2.vS], mapA mb (mkv sv (Value.int .i64) (numM (txs (addN (rowN q x.1).1 (prodN (rowN q x.1).1 x.1) (q.done : Int) (x.1 : Int) ((rowN q x.1).1.words.getD q.done [] ++ [ltr x.1]) (afterN (rowN q x.1).1 ((rowN q x.1).1.beh.getD q.done 0) x.1))))), row m2.vW 9 1 (addN (rowN q x.1).1 (prodN (rowN q x.1).1 x.1) (q.done : Int) (x.1 : Int) ((rowN q x.1).1.words.getD q.done [] ++ [ltr x.1]) (afterN (rowN q x.1).1 ((rowN q x.1).1.beh.getD q.done 0) x.1)).words.length ((addN (rowN q x.1).1 (prodN (rowN q x.1).1 x.1) (q.done : Int) (x.1 : Int) ((rowN q x.1).1.words.getD q.done [] ++ [ltr x.1]) (afterN (rowN q x.1).1 ((rowN q x.1).1.beh.getD q.done 0) x.1)).words.map sv), row m2.vB 3 1 (addN (rowN q x.1).1 (prodN (rowN q x.1).1 x.1) (q.done : Int) (x.1 : Int) ((rowN q x.1).1.words.getD q.done [] ++ [ltr x.1]) (afterN (rowN q x.1).1 ((rowN q x.1).1.beh.getD q.done 0) x.1)).beh.length ((addN (rowN q x.1).1 (prodN (rowN q x.1).1 x.1) (q.done : Int) (x.1 : Int) ((rowN q x.1).1.words.getD q.done [] ++ [ltr x.1]) (afterN (rowN q x.1).1 ((rowN q x.1).1.beh.getD q.done 0) x.1)).beh.map (Value.int .i64)), row m2.vS 3 1 (addN (rowN q x.1).1 (prodN (rowN q x.1).1 x.1) (q.done : Int) (x.1 : Int) ((rowN q x.1).1.words.getD q.done [] ++ [ltr x.1]) (afterN (rowN q x.1).1 ((rowN q x.1).1.beh.getD q.done 0) x.1)).sing.length ((addN (rowN q x.1).1 (prodN (rowN q x.1).1 x.1) (q.done : Int) (x.1 : Int) ((rowN q x.1).1.words.getD q.done [] ++ [ltr x.1]) (afterN (rowN q x.1).1 ((rowN q x.1).1.beh.getD q.done 0) x.1)).sing.map (Value.int .i64)), row mv0 3 1 q.gens.length (((rowN q x.1).2 ++ List.replicate (q.gens.length - x.1) 0).map (Value.int .i64))] (fun w hw => by have h := HW.flat (l := enO 75 26 3 39 9 rb mb m2 (addN (rowN q x.1).1 (prodN (rowN q x.1).1 x.1) (q.done : Int) (x.1 : Int) ((rowN q x.1).1.words.getD q.done [] ++ [ltr x.1]) (afterN (rowN q x.1).1 ((rowN q x.1).1.beh.getD q.done 0) x.1))) (own := [_]) hw; unfold enO enB at h; rw [hv2, hs2] at h; exact h) ?_
      refine .as rfl (.nil (.block_normal ?_))
      refine AK.then_ (hK14 _ _ (m2) (by rw [e1]; exact hF2.wG hv2 hs2) (.cons (slI rfl e2.symm) (slr)) (fun w hw => by rw [e1]; exact hw))
     ·have hin : (textF (prodN (rowN q x.1).1 x.1)) ∈ txs (rowN q x.1).1 := by
       rcases Classical.em ((textF (prodN (rowN q x.1).1 x.1)) ∈ txs (rowN q x.1).1) with h | h
       ·exact h
       ·rw [mget_numM, if_neg h] at hc2; cases hc2
      have hgi : (mget (numM (txs (rowN q x.1).1)) (textF (prodN (rowN q x.1).1 x.1))).getD 0 = ((posN (txs (rowN q x.1).1) (textF (prodN (rowN q x.1).1 x.1)) : Nat) : Int) := by rw [mget_numM, if_pos hin]; rfl
      have hlet := letN_old hin
      have hpos := posN_lt hin
      rw [txs_len] at hpos
      rw [hgi]
      have e2 : (letN (rowN q x.1).1 x.1).2 = ((posN (txs (rowN q x.1).1) (textF (prodN (rowN q x.1).1 x.1)) : Nat) : Int) := by rw [hlet]
      refine AK.seqJ (X := Unit) [(0, _), (3, _), (4, _), (5, _), (8, _), (10, _), (27, _), (28, _), (29, _)] (fun u => [(97, .bool (!decide ((rowN q x.1).1.words.getD q.done [] = []) && redN (rowN q x.1).1 ((rowN q x.1).1.beh.getD q.done 0) x.1))]) (fun u => [row m.vG 26 1 (rowN q x.1).1.gens.length m.gs, bigA (matG (Value.int .i64) 3 m.gs (rowN q x.1).1.gens), row x.2.vE 26 1 (rowN q x.1).1.elems.length x.2.es, bigA (matG (Value.int .i64) 3 x.2.es (rowN q x.1).1.elems), row x.2.vP 3 1 (rowN q x.1).1.pre.length ((rowN q x.1).1.pre.map (Value.int .i64)), row x.2.vL 3 1 (rowN q x.1).1.las.length ((rowN q x.1).1.las.map (Value.int .i64)), row x.2.vR 26 1 (rowN q x.1).1.right.length x.2.rs, bigA (matG (Value.int .i64) 3 x.2.rs (rowN q x.1).1.right), row x.2.vU 39 2 (rowN q x.1).1.rules.length (rlc (rowN q x.1).1.rules), box rb 75 13 [.int .i64 ((rowN q x.1).1.pts : Int), .bool (rowN q x.1).1.mon, m.vG, x.2.vE, x.2.vP, x.2.vL, x.2.vR, x.2.vU, .int .i64 ((rowN q x.1).1.done : Int), .map (some mb), x.2.vW, x.2.vB, x.2.vS], mapA mb (mkv sv (Value.int .i64) (numM (txs (rowN q x.1).1))), row x.2.vW 9 1 (rowN q x.1).1.words.length ((rowN q x.1).1.words.map sv), row x.2.vB 3 1 (rowN q x.1).1.beh.length ((rowN q x.1).1.beh.map (Value.int .i64)), row x.2.vS 3 1 (rowN q x.1).1.sing.length ((rowN q x.1).1.sing.map (Value.int .i64)), row mv0 3 1 q.gens.length (((rowN q x.1).2 ++ List.replicate (q.gens.length - x.1) 0).map (Value.int .i64)), row cv 3 1 (prodN (rowN q x.1).1 x.1).length ((prodN (rowN q x.1).1 x.1).map (Value.int .i64))]) (fun u => True) slr (fun _ hK17 => ?_) (fun u hg => ?_)
      ·refine AK.region ?_
       refine .mv rfl (.v (.nilCheck rfl) (.v (.fieldAddr fd75_2 rfl) (.v (.loadBox on44 rfl bsp rfl) (.mv rfl ?_))))
       first | refine .v (.iN sl44 rfl rfl) ?_ | refine .v (.iK sl44 rfl rfl) ?_
       refine .v (.loadS on9 rfl rdp (by omega)) ?_
       refine .v (.neqS un9 rfl rfl) (.mv rfl ?_)
       refine AK.splitB (g := 106) rfl (fun hg_13_8 => ?_) (fun hg_13_8 => ?_)
       ·have hg_13_8' := hg_13_8
        try simp only [bs] at hg_13_8'
        refine AK.val _ (Yl.move rfl) ⟨_, rfl, gB hg_13_8⟩ rfl ?_
        refine AK.val _ (Yl.move rfl) ⟨_, rfl, gB hg_13_8⟩ rfl ?_
        refine AK.val _ (Yl.nilCheck rfl) ⟨_, rfl, gB hg_13_8⟩ rfl ?_
        refine AK.val _ (Yl.fieldAddr fd75_3 rfl) ⟨_, rfl, gB hg_13_8⟩ rfl ?_
        refine AK.val _ (Yl.loadBox on26 rfl bsp rfl) ⟨_, rfl, gB hg_13_8⟩ rfl ?_
        refine AK.val _ (Yl.move rfl) ⟨_, rfl, gB hg_13_8⟩ rfl ?_
        first | refine AK.val _ (.iN sl26 rfl rfl) ⟨_, rfl, gB hg_13_8⟩ rfl ?_ | refine AK.val _ (.iK sl26 rfl rfl) ⟨_, rfl, gB hg_13_8⟩ rfl ?_
        refine AK.val _ (Yl.loadI on3 rfl rdp (by omega)) ⟨_, rfl, gB hg_13_8⟩ rfl ?_
        refine AK.val _ (Yl.move rfl) ⟨_, rfl, gB hg_13_8⟩ rfl ?_
        refine AK.call co77 rfl (fun w hw => s_redafter w rb mb { x.2 with vG := m.vG, gs := m.gs } (rowN q x.1).1 (RnR.own (TR := 75) (TRI := 26) (TI := 3) (TRU := 39) (TS := 9) hw hF rfl) ((rowN q x.1).1.beh.getD q.done 0) x.1 (by rw [hsl]; rcases hbe with h | ⟨h, h'⟩; exact .inl ⟨h, by omega⟩; exact .inr ⟨h, by omega, by rw [(hI1.rr _ (by omega)).1]; omega⟩) (by omega)) ⟨_, rfl, gB hg_13_8⟩ rfl ?_
        rintro r o ⟨rfl, rfl⟩
        refine .v (.pickT rfl (hg_13_8) rfl) (.as rfl (.nil ?_))
        refine AK.then_ (hK17 _ _ (()) trivial (.cons (slB rfl (by grind)) (slr)) (fun w hw => hw))
       ·have hg_13_8' := hg_13_8
        try simp only [bs] at hg_13_8'
        refine AK.pass rfl rfl (hg_13_8) rfl ?_
        refine AK.pass rfl rfl (hg_13_8) rfl ?_
        refine AK.pass rfl rfl (hg_13_8) rfl ?_
        refine AK.pass rfl rfl (hg_13_8) rfl ?_
        refine AK.pass rfl rfl (hg_13_8) rfl ?_
        refine AK.pass rfl rfl (hg_13_8) rfl ?_
        refine AK.pass rfl rfl (hg_13_8) rfl ?_
        refine AK.pass rfl rfl (hg_13_8) rfl ?_
        refine AK.pass rfl rfl (hg_13_8) rfl ?_
        refine AK.pass rfl rfl (hg_13_8) rfl ?_
        refine .v (.pickF rfl (hg_13_8) rfl) (.as rfl (.nil ?_))
        refine AK.then_ (hK17 _ _ (()) trivial (.cons (slB rfl (by grind)) (slr)) (fun w hw => hw))
      ·skip
       refine AK.cond rfl (fun hc3 => ?_) (fun hc3 => ?_)
       ·try simp only [bs] at hc3
        have e1 : (letN (rowN q x.1).1 x.1).1 = (ruleN (rowN q x.1).1 ((rowN q x.1).1.words.getD q.done [] ++ [ltr x.1]) ((rowN q x.1).1.words.getD (posN (txs (rowN q x.1).1) (textF (prodN (rowN q x.1).1 x.1))) [])) := by rw [hlet]; simp only [longN, hd1]; rw [if_pos (by first | (constructor <;> first | assumption | grind) | grind)]
        try (conv => enter [2, 2]; simp only [nrm])
        refine AK.heldS _ 20 (fun _ hw => hw.pick [9, 11] (by decide) rfl rfl) mixed ?_
        refine HeldK.firstS (fun _ hw => hw.pick [9, 11] (by decide) rfl rfl) 0 (fuel := 20) (listed' := (lb 21 1)) _ rfl krf krf rfl (Yl.move rfl) trivial rfl ?_
        refine HeldK.firstS (fun _ hw => hw.pick [9, 11] (by decide) rfl rfl) 1 (fuel := 19) (listed' := (lb 21 3)) _ rfl krf krf rfl (Yl.move rfl) trivial rfl ?_
        refine HeldK.firstS (fun _ hw => hw.pick [9, 11] (by decide) rfl rfl) 2 (fuel := 18) (listed' := (lb 21 7)) _ rfl krf krf rfl (Yl.nilCheck rfl) trivial rfl ?_
        refine HeldK.firstS (fun _ hw => hw.pick [9, 11] (by decide) rfl rfl) 3 (fuel := 17) (listed' := (lb 21 15)) _ rfl krf krf rfl (Yl.fieldAddr fd75_0 rfl) trivial rfl ?_
        refine HeldK.firstS (fun _ hw => hw.pick [9, 11] (by decide) rfl rfl) 4 (fuel := 16) (listed' := (lb 21 31)) _ rfl krf krf rfl (Yl.fieldAddr fd29_7 rfl) trivial rfl ?_
        refine HeldK.firstS (fun _ hw => hw.pick [9, 11] (by decide) rfl rfl) 5 (fuel := 15) (listed' := (lb 21 63)) _ rfl krf krf rfl (Yl.loadBox on27 rfl bsp rfl) trivial rfl ?_
        refine HeldK.firstS (fun _ hw => hw.pick [9, 11] (by decide) rfl rfl) 6 (fuel := 14) (listed' := (lb 21 127)) _ rfl krf krf rfl (Yl.move rfl) trivial rfl ?_
        refine HeldK.firstS (fun _ hw => hw.pick [9, 11] (by decide) rfl rfl) 7 (fuel := 13) (listed' := (lb 21 255)) _ rfl krf krf rfl (Yl.move rfl) trivial rfl ?_
        refine HeldK.firstS (fun _ hw => hw.pick [9, 11] (by decide) rfl rfl) 8 (fuel := 12) (listed' := (lb 21 511)) _ rfl krf krf rfl (Yl.nilCheck rfl) trivial rfl ?_
        refine HeldK.firstS (fun _ hw => hw.pick [9, 11] (by decide) rfl rfl) 9 (fuel := 11) (listed' := (lb 21 1023)) _ rfl krf krf rfl (Yl.fieldAddr fd75_2 rfl) trivial rfl ?_
        refine HeldK.firstS (fun _ hw => hw.pick [9, 11] (by decide) rfl rfl) 10 (fuel := 10) (listed' := (lb 21 2047)) _ rfl krf krf rfl (Yl.loadBox on44 rfl bsp rfl) trivial rfl ?_
        refine HeldK.firstS (fun _ hw => hw.pick [9, 11] (by decide) rfl rfl) 11 (fuel := 9) (listed' := (lb 21 4095)) _ rfl krf krf rfl (Yl.move rfl) trivial rfl ?_
        first | refine HeldK.firstS (fun _ hw => hw.pick [9, 11] (by decide) rfl rfl) 12 (fuel := 8) (listed' := (lb 21 8191)) _ rfl krf krf rfl (.iN sl44 rfl rfl) trivial rfl ?_ | refine HeldK.firstS (fun _ hw => hw.pick [9, 11] (by decide) rfl rfl) 12 (fuel := 8) (listed' := (lb 21 8191)) _ rfl krf krf rfl (.iK sl44 rfl rfl) trivial rfl ?_
        refine HeldK.firstS (fun _ hw => hw.pick [9, 11] (by decide) rfl rfl) 13 (fuel := 7) (listed' := (lb 21 16383)) _ rfl krf krf rfl (Yl.loadS on9 rfl rdp (by omega)) trivial rfl ?_
        refine HeldK.firstS (fun _ hw => hw.pick [9, 11] (by decide) rfl rfl) 14 (fuel := 6) (listed' := (lb 21 32767)) _ rfl krf krf rfl (Yl.build (parts := [(0, .tmp 124), (1, .tmp 131)]) (cs := #[sv ((rowN q x.1).1.words.getD q.done [] ++ [ltr x.1]), sv ((rowN q x.1).1.words.getD (posN (txs (rowN q x.1).1) (textF (prodN (rowN q x.1).1 x.1))) [])]) rfl (by kernel_rfl)) trivial rfl ?_
        refine HeldK.one 15 (fuel := 5) (listed' := (lb 21 65535)) krf rfl krf ?_
        refine AK.lit (xs := [.tmp 132]) sl27 el39 rfl rfl rfl (by simp [Value.cells]) (by decide) (by decide) trivial rfl (fun lv => ?_)
        refine .nil ?_
        try (conv => enter [2, 2]; simp only [nrm])
        refine HeldK.backS (fun _ hw => hw.pick [9, 11] (by decide) rfl rfl) ?_
        refine HeldK.one 16 (fuel := 4) (listed' := (lb 21 131071)) krf rfl krf ?_
        refine AK.appendS 8 rfl sl27 el39 rfl (by decide) rfl rfl rfl rdp (one'_cons rfl (one'_cons rfl one'_nil)) (by omega) (by omega) trivial rfl (fun vU2 => ?_)
        refine AK.shape 8 rfl (fun svU2 => ?_)
        refine .nil ?_
        try (conv => enter [2, 2]; simp only [nrm])
        refine HeldK.backS (fun _ hw => hw.pick [9, 11] (by decide) rfl rfl) ?_
        refine HeldK.firstS (fun _ hw => hw.pick [9, 11] (by decide) rfl rfl) 17 (fuel := 3) (listed' := (lb 21 262143)) _ rfl krf krf rfl (Yl.nilCheck rfl) trivial rfl ?_
        refine HeldK.firstS (fun _ hw => hw.pick [9, 11] (by decide) rfl rfl) 18 (fuel := 2) (listed' := (lb 21 524287)) _ rfl krf krf rfl (Yl.fieldAddr fd75_0 rfl) trivial rfl ?_
        refine HeldK.firstS (fun _ hw => hw.pick [9, 11] (by decide) rfl rfl) 19 (fuel := 1) (listed' := (lb 21 1048575)) _ rfl krf krf rfl (Yl.fieldAddr fd29_7 rfl) trivial rfl ?_
        refine HeldK.one 20 (fuel := 0) (listed' := (lb 21 2097151)) krf rfl krf ?_
        refine AK.storeBox 9 (us := [vU2]) (cs' := [.int .i64 ((rowN q x.1).1.pts : Int), .bool (rowN q x.1).1.mon, m.vG, x.2.vE, x.2.vP, x.2.vL, x.2.vR, vU2, .int .i64 ((rowN q x.1).1.done : Int), .map (some mb), x.2.vW, x.2.vB, x.2.vS]) rfl sz27 rfl rfl (by rw [IsSl.cells svU2]) rfl oneP (leb rfl) rfl trivial ?_
        refine .nil ?_
        try (conv => enter [2, 2]; simp only [nrm])
        refine HeldK.backN 21 krf rfl krf ?_
        refine .nil ?_
        refine AK.fromQn ?_
        refine .block_normal ?_
        refine AK.then_ (hK14 _ _ ({ x.2 with vU := vU2 }) (by rw [e1]; exact hF.rule _ _ svU2) (.cons (slI rfl e2.symm) (slr)) (fun w hw => by rw [e1]; simp only [ruleN, rlc_snoc, List.length_append, List.length_singleton]; exact hw.pick [0, 1, 2, 3, 4, 5, 6, 7, 8, 9, 10, 11, 12, 13, 14] (by decide) rfl rfl))
       ·try simp only [bs] at hc3
        have e1 : (letN (rowN q x.1).1 x.1).1 = (rowN q x.1).1 := by rw [hlet]; simp only [hd1]; rw [if_neg (by first | grind | simp_all)]
        refine .skip (.block_normal ?_)
        refine AK.then_ (hK14 _ _ (x.2) (by rw [e1]; exact hF) (.cons (slI rfl e2.symm) (slr)) (fun w hw => by rw [e1]; exact hw.pick [0, 1, 2, 3, 4, 5, 6, 7, 8, 9, 10, 11, 12, 13, 14] (by decide) rfl rfl))
   ·have hgz := hg
    refine AK.region ?_
    refine .mv rfl (.mv rfl (.mv rfl ?_))
    first | refine .v (.iN sl26 rfl rfl) ?_ | refine .v (.iK sl26 rfl rfl) ?_
    refine AK.store1e 14 rfl sz3 rfl rfl rfl rfl (by omega) (cs' := ((((rowN q x.1).2 ++ [(letN (rowN q x.1).1 x.1).2]) ++ List.replicate (q.gens.length - (x.1 + 1)) 0).map (Value.int .i64))) (by have h := fill_set (Value.int .i64) (rowN q x.1).2 0 (letN (rowN q x.1).1 x.1).2 q.gens.length x.1 hrl1 (by omega); exact h) trivial ?_
    refine .nil (.block_normal ?_)
    refine AK.then_ (hK9 _ ?_)
    refine AK.region ?_
    refine .v (.add rfl rfl (by omega)) ?_
    refine .mv rfl (.nil ?_)
    refine AK.then_ (hK6 _ _ ((x.1 + 1, z)) ⟨by dsimp only; omega, hgz⟩ (by dsimp only; omega) (slr) (fun w hw => hw))
  ·have hkn : x.1 = q.gens.length := by omega
   obtain ⟨hI1, hg1, hd1, hr1, hle1, hrl1, hrb1⟩ := rowN_ok hI hd q.gens.length (Nat.le_refl _)
   have hF := hg0.2
   have hrl := hI1.rl
   have hle2 := hI1.le
   have hdn := hI1.dn
   have hrn : (rowN q x.1).2.length = q.gens.length := by rw [hkn]; exact hrl1
   have hrl2 : (rowN q x.1).1.right.length = (rowN q x.1).1.done := by rw [hkn]; exact hrl
   have hd2 : (rowN q x.1).1.done = q.done := by rw [hkn]; exact hd1
   refine .exit (.then_exit (.then_exit (.block_exit ?_)))
   refine AK.then_ (hK4 _ ?_)
   refine .sr fun _ hK18 => ?_
   refine .mv rfl (.mv rfl (.v (.nilCheck rfl) (.v (.fieldAddr fd75_0 rfl) (.v (.fieldAddr fd29_6 rfl) (.v (.loadBox on22 rfl bsp rfl) (.mv rfl ?_))))))
   refine AK.append1 6 rfl sl22 el26 rfl (by decide) rfl (by intro k hk; cases hk; rfl) (by rw [smv.cells]; rfl) (by rw [smv.cells]; exact one'_cons (IsSl.one smv) one'_nil) (by omega) (by omega) (by decide) rfl rfl (fun vR2 _ svR2 => ?_)
   refine .v (.nilCheck rfl) (.v (.fieldAddr fd75_0 rfl) (.v (.fieldAddr fd29_6 rfl) ?_))
   refine AK.storeBox 9 (us := [vR2]) (cs' := [.int .i64 ((rowN q x.1).1.pts : Int), .bool (rowN q x.1).1.mon, m.vG, x.2.vE, x.2.vP, x.2.vL, vR2, x.2.vU, .int .i64 ((rowN q x.1).1.done : Int), .map (some mb), x.2.vW, x.2.vB, x.2.vS]) rfl sz22 rfl rfl (by rw [IsSl.cells svR2]) rfl oneP (leb rfl) rfl trivial ?_
   refine .nt hK18 ?_
   refine .sr fun _ hK19 => ?_
   refine .mv rfl (.v (.nilCheck rfl) (.v (.fieldAddr fd75_0 rfl) (.v (.fieldAddr fd29_8 rfl) (.v (.loadBox on3 rfl bsp rfl) ?_))))
   refine .v (.add rfl rfl (by omega)) ?_
   refine .v (.nilCheck rfl) (.v (.fieldAddr fd75_0 rfl) (.v (.fieldAddr fd29_8 rfl) ?_))
   refine AK.storeBox 9 (us := [.int .i64 (((rowN q x.1).1.done : Int) + 1)]) (cs' := [.int .i64 ((rowN q x.1).1.pts : Int), .bool (rowN q x.1).1.mon, m.vG, x.2.vE, x.2.vP, x.2.vL, vR2, x.2.vU, .int .i64 (((rowN q x.1).1.done : Int) + 1), .map (some mb), x.2.vW, x.2.vB, x.2.vS]) rfl sz3 rfl rfl rfl rfl oneP (leb rfl) rfl trivial ?_
   refine .nt hK19 ?_
   refine .sr fun _ hK20 => ?_
   refine .as rfl (.nt hK20 (.ret ?_))
   refine AK.own' (enO 75 26 3 39 9 rb mb { x.2 with vG := m.vG, gs := m.gs, vR := vR2, rs := x.2.rs ++ [mv0] } (procN q)) (fun w hw => by
    rw [hkn, Nat.sub_self, List.replicate_zero, List.append_nil, smv.cells] at hw
    have h := HW.absorb (own := [_, _, _, _, _, _, _, _, _, _, _, _, _, _]) 7 rfl hw
    have e : txs (procN q) = txs (rowN q q.gens.length).1 := rfl
    unfold enO
    rw [e]
    simp only [enB, procN, List.length_append, List.length_singleton]
    rw [matG_snoc (hkn ▸ hg0.2.rl), hrl1]
    exact h) ?_
   refine AK.ret1 rfl rfl (fun w hw => ⟨_, _, _, ?_, rfl, Ret.ofBig0 hw⟩)
   have hF2 : EnF { x.2 with vG := m.vG, gs := m.gs } (rowN q q.gens.length).1 := by rw [← hkn]; exact hg0.2
   refine ⟨rfl, rfl, { x.2 with vG := m.vG, gs := m.gs, vR := vR2, rs := x.2.rs ++ [mv0] }, ⟨hF2.gl, hF2.el, ?_, hF2.sG, hF2.sE, hF2.sP, hF2.sL, svR2, hF2.sU, hF2.sW, hF2.sB, hF2.sS⟩, rfl⟩
   have h3 := hF2.rl
   simp only [procN, List.length_append, List.length_singleton]
   exact congrArg (· + 1) h3

end Go.Proofs.YtdnhiinakhmhgaaGreatDoor

namespace Go.Proofs.YtdnhiinakhmhgaaGreatDoor
open Go.Sx Go.RowKit
set_option maxHeartbeats 1000000 in
theorem s_is (w : World) (rb mb : Nat) (m : EnM) (q : Rn) (hr : RnR w rb mb m q) (v : Value) (hv : RdEn (fun _ => False) w v q) : CallS Tryz.prog 74 [.pointer (some ⟨rb, 0, none⟩), v] w (fun r o => r = .bool true ∧ o = []) := by
 have hb0 := hr.b
 unfold enB at hb0
 obtain ⟨vG, vE, vP, vL, vR, vU, rfl, h1, h2, h3, h4, h5, h6⟩ := hv
 have s1 := h1.slv
 have s2 := h2.slv
 have s3 := Rd.sl h3
 have s4 := Rd.sl h4
 have s5 := h5.slv
 have s6 := Rd.sl h6
 refine spec_of Tryz.func74 rfl (leb rfl) ?_
 refine .sr fun _ hK1 => ?_
 refine AK.box_ (E := 29) (cs := [.int .i64 (q.pts : Int), .bool q.mon, vG, vE, vP, vL, vR, vU, .int .i64 (q.done : Int)]) rfl rfl rfl trivial rfl (fun bx3 => ?_)
 refine .as rfl (.nt hK1 ?_)
 refine .seq fun _ hK2 => ?_
 refine AK.quiet mixed krf ?_
 refine .mv rfl (.v (.nilCheck rfl) (.v (.fieldAddr fd75_0 rfl) (.v (.fieldAddr fd29_0 rfl) (.v (.loadBox on3 rfl bsp rfl) (.v (.fieldAddr fd29_0 rfl) (.v (.loadBox on3 rfl bsp rfl) (.v (.eql rfl rfl) ?_)))))))
 refine .mv rfl ?_
 refine QK.knownT (g := 13) rfl (decide_eq_true rfl) (fun hg_1_8 => ?_)
 refine QK.val _ (Yl.move rfl) ⟨_, rfl, gB hg_1_8⟩ rfl ?_
 refine QK.val _ (Yl.nilCheck rfl) ⟨_, rfl, gB hg_1_8⟩ rfl ?_
 refine QK.val _ (Yl.fieldAddr fd75_0 rfl) ⟨_, rfl, gB hg_1_8⟩ rfl ?_
 refine QK.val _ (Yl.fieldAddr fd29_8 rfl) ⟨_, rfl, gB hg_1_8⟩ rfl ?_
 refine QK.val _ (Yl.loadBox on3 rfl bsp rfl) ⟨_, rfl, gB hg_1_8⟩ rfl ?_
 refine QK.val _ (Yl.fieldAddr fd29_8 rfl) ⟨_, rfl, gB hg_1_8⟩ rfl ?_
 refine QK.val _ (Yl.loadBox on3 rfl bsp rfl) ⟨_, rfl, gB hg_1_8⟩ rfl ?_
 refine QK.val _ (Yl.eql rfl rfl) ⟨_, rfl, gB hg_1_8⟩ rfl ?_
 refine .v (.pickT rfl (hg_1_8) rfl) (.mv rfl ?_)
 refine QK.knownT (g := 23) rfl (decide_eq_true rfl) (fun hg_1_18 => ?_)
 refine QK.val _ (Yl.move rfl) ⟨_, rfl, gB hg_1_18⟩ rfl ?_
 refine QK.val _ (Yl.nilCheck rfl) ⟨_, rfl, gB hg_1_18⟩ rfl ?_
 refine QK.val _ (Yl.fieldAddr fd75_0 rfl) ⟨_, rfl, gB hg_1_18⟩ rfl ?_
 refine QK.val _ (Yl.fieldAddr fd29_3 rfl) ⟨_, rfl, gB hg_1_18⟩ rfl ?_
 refine QK.val _ (Yl.loadBox on22 rfl bsp rfl) ⟨_, rfl, gB hg_1_18⟩ rfl ?_
 refine QK.val _ (Yl.fieldAddr fd29_3 rfl) ⟨_, rfl, gB hg_1_18⟩ rfl ?_
 refine QK.val _ (Yl.loadBox on22 rfl bsp rfl) ⟨_, rfl, gB hg_1_18⟩ rfl ?_
 refine QK.call (.bool (decide (q.elems = q.elems))) co107 rfl (fun w hw => s_eqfunc w m.vE vE q.elems q.elems (hr.at rfl hw).e (h2.at hw)) (fun r o h => h.1) ⟨_, rfl, gB hg_1_18⟩ rfl ?_
 refine .v (.pickT rfl (hg_1_18) rfl) (.mv rfl ?_)
 refine QK.knownT (g := 33) rfl (decide_eq_true rfl) (fun hg_1_28 => ?_)
 refine QK.val _ (Yl.move rfl) ⟨_, rfl, gB hg_1_28⟩ rfl ?_
 refine QK.val _ (Yl.nilCheck rfl) ⟨_, rfl, gB hg_1_28⟩ rfl ?_
 refine QK.val _ (Yl.fieldAddr fd75_0 rfl) ⟨_, rfl, gB hg_1_28⟩ rfl ?_
 refine QK.val _ (Yl.fieldAddr fd29_4 rfl) ⟨_, rfl, gB hg_1_28⟩ rfl ?_
 refine QK.val _ (Yl.loadBox on26 rfl bsp rfl) ⟨_, rfl, gB hg_1_28⟩ rfl ?_
 refine QK.val _ (Yl.fieldAddr fd29_4 rfl) ⟨_, rfl, gB hg_1_28⟩ rfl ?_
 refine QK.val _ (Yl.loadBox on26 rfl bsp rfl) ⟨_, rfl, gB hg_1_28⟩ rfl ?_
 refine QK.call (.bool (decide (q.pre = q.pre))) co108 rfl (fun w hw => s_eqint w m.vP vP q.pre q.pre (hr.at rfl hw).p (h3.at hw)) (fun r o h => h.1) ⟨_, rfl, gB hg_1_28⟩ rfl ?_
 refine .v (.pickT rfl (hg_1_28) rfl) (.mv rfl ?_)
 refine QK.knownT (g := 43) rfl (decide_eq_true rfl) (fun hg_1_38 => ?_)
 refine QK.val _ (Yl.move rfl) ⟨_, rfl, gB hg_1_38⟩ rfl ?_
 refine QK.val _ (Yl.nilCheck rfl) ⟨_, rfl, gB hg_1_38⟩ rfl ?_
 refine QK.val _ (Yl.fieldAddr fd75_0 rfl) ⟨_, rfl, gB hg_1_38⟩ rfl ?_
 refine QK.val _ (Yl.fieldAddr fd29_5 rfl) ⟨_, rfl, gB hg_1_38⟩ rfl ?_
 refine QK.val _ (Yl.loadBox on26 rfl bsp rfl) ⟨_, rfl, gB hg_1_38⟩ rfl ?_
 refine QK.val _ (Yl.fieldAddr fd29_5 rfl) ⟨_, rfl, gB hg_1_38⟩ rfl ?_
 refine QK.val _ (Yl.loadBox on26 rfl bsp rfl) ⟨_, rfl, gB hg_1_38⟩ rfl ?_
 refine QK.call (.bool (decide (q.las = q.las))) co108 rfl (fun w hw => s_eqint w m.vL vL q.las q.las (hr.at rfl hw).l (h4.at hw)) (fun r o h => h.1) ⟨_, rfl, gB hg_1_38⟩ rfl ?_
 refine .v (.pickT rfl (hg_1_38) rfl) (.mv rfl ?_)
 refine QK.knownT (g := 53) rfl (decide_eq_true rfl) (fun hg_1_48 => ?_)
 refine QK.val _ (Yl.move rfl) ⟨_, rfl, gB hg_1_48⟩ rfl ?_
 refine QK.val _ (Yl.nilCheck rfl) ⟨_, rfl, gB hg_1_48⟩ rfl ?_
 refine QK.val _ (Yl.fieldAddr fd75_0 rfl) ⟨_, rfl, gB hg_1_48⟩ rfl ?_
 refine QK.val _ (Yl.fieldAddr fd29_6 rfl) ⟨_, rfl, gB hg_1_48⟩ rfl ?_
 refine QK.val _ (Yl.loadBox on22 rfl bsp rfl) ⟨_, rfl, gB hg_1_48⟩ rfl ?_
 refine QK.val _ (Yl.fieldAddr fd29_6 rfl) ⟨_, rfl, gB hg_1_48⟩ rfl ?_
 refine QK.val _ (Yl.loadBox on22 rfl bsp rfl) ⟨_, rfl, gB hg_1_48⟩ rfl ?_
 refine QK.call (.bool (decide (q.right = q.right))) co107 rfl (fun w hw => s_eqfunc w m.vR vR q.right q.right (hr.at rfl hw).ri (h5.at hw)) (fun r o h => h.1) ⟨_, rfl, gB hg_1_48⟩ rfl ?_
 refine .v (.pickT rfl (hg_1_48) rfl) (.mv rfl ?_)
 refine QK.knownT (g := 63) rfl (decide_eq_true rfl) (fun hg_1_58 => ?_)
 refine QK.val _ (Yl.move rfl) ⟨_, rfl, gB hg_1_58⟩ rfl ?_
 refine QK.val _ (Yl.nilCheck rfl) ⟨_, rfl, gB hg_1_58⟩ rfl ?_
 refine QK.val _ (Yl.fieldAddr fd75_0 rfl) ⟨_, rfl, gB hg_1_58⟩ rfl ?_
 refine QK.val _ (Yl.fieldAddr fd29_7 rfl) ⟨_, rfl, gB hg_1_58⟩ rfl ?_
 refine QK.val _ (Yl.loadBox on27 rfl bsp rfl) ⟨_, rfl, gB hg_1_58⟩ rfl ?_
 refine QK.val _ (Yl.fieldAddr fd29_7 rfl) ⟨_, rfl, gB hg_1_58⟩ rfl ?_
 refine QK.val _ (Yl.loadBox on27 rfl bsp rfl) ⟨_, rfl, gB hg_1_58⟩ rfl ?_
 refine QK.call (.bool (decide (q.rules = q.rules))) co109 rfl (fun w hw => s_eqrule w m.vU vU q.rules q.rules (hr.at rfl hw).u (h6.at hw)) (fun r o h => h.1) ⟨_, rfl, gB hg_1_58⟩ rfl ?_
 refine .v (.pickT rfl (hg_1_58) rfl) (.as rfl ?_)
 refine QK.nil (QK.fin ?_)
 refine AK.then_ (hK2 _ ?_)
 refine .ret ?_
 refine AK.ret1 rfl rfl (fun w hw => ⟨_, _, ?_, rfl, Ret.of (hw.pick [] (by decide) rfl rfl)⟩)
 exact ⟨congrArg Value.bool (decide_eq_true rfl), rfl⟩

end Go.Proofs.YtdnhiinakhmhgaaGreatDoor

namespace Go.Proofs.YtdnhiinakhmhgaaGreatDoor
open Go.Sx Go.RowKit
set_option maxHeartbeats 4000000 in
theorem s_ebegin (w : World) (v : Value) (G : List (List Int)) (h : RdLL (fun _ => False) (Value.int .i64) w v G) (n : Nat) (hG : VG G n) (hn : (G.getD 0 []).length = n) (mon : Bool) : CallS Tryz.prog 34 [v, .bool mon] w (fun r o => ∃ rb mb m, r = .tuple #[.pointer (some ⟨rb, 0, none⟩), .int .i64 0] ∧ EnF m (begN G mon) ∧ o = [bigA (enO 75 26 3 39 9 rb mb m (begN G mon))]) := by
 obtain ⟨us, hul, h1, h2⟩ := h
 have hmx := Rd.le h1
 have hlen := hG.len
 have hpts := hG.pts
 have hr0 := h2 0 (by omega)
 unfold RdL at hr0
 have hm0 := Rd.le hr0
 refine spec_of Tryz.func34 rfl (leb rfl) ?_
 refine .sr fun _ hK1 => ?_
 refine .as rfl (.as rfl (.nt hK1 ?_))
 refine .seq fun _ hK2 => ?_
 refine .sr fun _ hK3 => ?_
 refine .mv rfl (.v (.lenR sl22 rfl rdp) (.v (.eql rfl rfl) (.mv rfl ?_)))
 refine AK.knownF (g := 18) rfl (decide_eq_false (by omega)) (fun hg_1_3 => ?_)
 refine AK.val _ (Yl.move rfl) ⟨_, rfl, gB hg_1_3⟩ rfl ?_
 refine AK.val _ (Yl.lenR sl22 rfl rdp) ⟨_, rfl, gB hg_1_3⟩ rfl ?_
 refine AK.val _ (Yl.gtr rfl rfl) ⟨_, rfl, gB hg_1_3⟩ rfl ?_
 refine .v (.pickF rfl (hg_1_3) rfl) (.nt hK3 ?_)
 refine AK.cond_f rfl (decide_eq_false (by omega)) ?_
 refine .skip ?_
 refine AK.then_ (hK2 _ ?_)
 refine .sr fun _ hK4 => ?_
 refine AK.makeMap trivial rfl (fun mb => ?_)
 refine .v (.build (parts := [(1, .tmp 23)]) (cs := #[.int .i64 0, .bool false, .slice none 0 0, .slice none 0 0, .slice none 0 0, .slice none 0 0, .slice none 0 0, .slice none 0 0, .int .i64 0, .map (some mb), .slice none 0 0, .slice none 0 0, .slice none 0 0]) rfl (by kernel_rfl)) ?_
 refine AK.box_ (E := 75) (cs := [.int .i64 0, .bool false, nilV, nilV, nilV, nilV, nilV, nilV, .int .i64 0, .map (some mb), nilV, nilV, nilV]) rfl rfl rfl trivial rfl (fun rb => ?_)
 refine .as rfl (.nt hK4 ?_)
 refine .sr fun _ hK5 => ?_
 refine .mv rfl (.mv rfl (.mv rfl ?_))
 refine .v (.idxN (k := 0) sl22 rfl rfl rdp (by decide) (by omega)) ?_
 refine .v (.loadV on26 rfl rdp (by omega)) ?_
 refine .v (.lenR sl26 rfl rdp) (.mv rfl (.v (.nilCheck rfl) (.v (.fieldAddr fd75_0 rfl) (.v (.fieldAddr fd29_0 rfl) ?_))))
 refine AK.storeBox 1 (us := [.int .i64 (n : Int)]) (cs' := [.int .i64 (n : Int), .bool false, nilV, nilV, nilV, nilV, nilV, nilV, .int .i64 0, .map (some mb), nilV, nilV, nilV]) rfl sz3 rfl rfl (by rw [hn]; rfl) rfl oneP (leb rfl) rfl trivial ?_
 refine .v (.nilCheck rfl) (.v (.fieldAddr fd75_0 rfl) (.v (.fieldAddr fd29_1 rfl) ?_))
 refine AK.storeBox 1 (us := [.bool mon]) (cs' := [.int .i64 (n : Int), .bool mon, nilV, nilV, nilV, nilV, nilV, nilV, .int .i64 0, .map (some mb), nilV, nilV, nilV]) rfl sz4 rfl rfl rfl rfl oneP (leb rfl) rfl trivial ?_
 refine .nt hK5 ?_
 refine .seq fun _ hK6 => ?_
 refine .sr fun _ hK7 => ?_
 refine .mv rfl (.v (.lenR sl22 rfl rdp) (.mv rfl (.nt hK7 (.block ?_))))
 refine AK.loopK (X := Nat × Value × List Value) [(1, _), (6, _), (39, _), (40, _)] (fun x => [(41, .int .i64 (x.1 : Int))]) (fun x => [row x.2.1 26 1 (G.take x.1).length x.2.2, bigA (matG (Value.int .i64) 3 x.2.2 (G.take x.1)), row nilV 26 1 0 [], bigA (matG (Value.int .i64) 3 [] []), row nilV 3 1 0 [], row nilV 3 1 0 [], row nilV 26 1 0 [], bigA (matG (Value.int .i64) 3 [] []), row nilV 39 2 0 [], box rb 75 13 [.int .i64 (n : Int), .bool mon, x.2.1, nilV, nilV, nilV, nilV, nilV, .int .i64 0, .map (some mb), nilV, nilV, nilV], mapA mb (mkv sv (Value.int .i64) []), row nilV 9 1 0 [], row nilV 3 1 0 [], row nilV 3 1 0 []]) (fun x => x.1 ≤ G.length ∧ x.2.2.length = x.1 ∧ IsSl x.2.1) (fun x => G.length - x.1) ((0, nilV, [])) slr ?_ ?_ ?_ ?_
 ·exact ⟨Nat.zero_le _, rfl, nilSl⟩
 ·exact slr
 ·exact fun w hw => by
   dsimp only
   rw [List.take_zero]
   have h := (((((((((((hw.ghost 26 1).ghostG (f := Value.int .i64) 3).ghost 26 1).ghostG (f := Value.int .i64) 3).ghost 3 1).ghost 3 1).ghost 26 1).ghostG (f := Value.int .i64) 3).ghost 39 2).ghost 9 1).ghost 3 1).ghost 3 1
   exact h.pick [2, 3, 4, 5, 6, 7, 8, 9, 10, 1, 0, 11, 12, 13] (by decide) rfl rfl
 ·intro x hg0 _ hK8
  refine .sr fun _ hK9 => ?_
  refine .v (.lss rfl rfl) (.nt hK9 ?_)
  refine .seq fun _ hK10 => ?_
  refine AK.condD rfl (fun hc1 => ?_) (fun hc1 => ?_)
  ·have htl : (G.take x.1).length = x.1 := by rw [List.length_take]; omega
   have hk := h2 x.1 (by omega)
   unfold RdL at hk
   have hmk := Rd.le hk
   have hfk := hG.fs x.1 (by omega)
   have hfl := hfk.1
   have sx := hg0.2.2
   refine .skip ?_
   refine AK.then_ (hK10 _ ?_)
   refine .seq fun _ hK11 => ?_
   refine .block ?_
   refine .sr fun _ hK12 => ?_
   first | refine .v (.iN sl22 rfl rfl) ?_ | refine .v (.iK sl22 rfl rfl) ?_
   refine .v (.loadV on26 rfl rdp (by omega)) ?_
   refine .as rfl (.nt hK12 ?_)
   refine .seq fun _ hK13 => ?_
   refine .sr fun _ hK14 => ?_
   refine .mv rfl (.v (.lenR sl26 rfl rdp) (.mv rfl (.v (.nilCheck rfl) (.v (.fieldAddr fd75_0 rfl) (.v (.fieldAddr fd29_0 rfl) (.v (.loadBox on3 rfl bsp rfl) (.v (.neq rfl rfl) ?_)))))))
   refine .mv rfl ?_
   refine AK.knownF (g := 53) rfl (decide_eq_false (not_not_intro (by omega))) (fun hg_8_8 => ?_)
   refine AK.val _ (Yl.move rfl) ⟨_, rfl, gB hg_8_8⟩ rfl ?_
   refine AK.call co69 rfl (fun w hw => s_tvalid w _ (G.getD x.1 []) (RdL.at (h2 x.1 (by omega)) hw)) ⟨_, rfl, gB hg_8_8⟩ rfl ?_
   rintro r o ⟨rfl, rfl⟩
   refine AK.val _ (Yl.not rfl) ⟨_, rfl, gB hg_8_8⟩ rfl ?_
   refine .v (.pickF rfl (hg_8_8) rfl) (.nt hK14 ?_)
   refine AK.cond_f rfl (by rw [hfk.vfB (by omega)]; rfl) ?_
   refine .skip ?_
   refine AK.then_ (hK13 _ ?_)
   try (conv => enter [2, 2]; simp only [nrm])
   refine AK.heldS _ 13 (fun _ hw => hw.pick [9] (by decide) rfl rfl) mixed ?_
   refine HeldK.firstS (fun _ hw => hw.pick [9] (by decide) rfl rfl) 0 (fuel := 13) (listed' := (lb 14 1)) _ rfl krf krf rfl (Yl.move rfl) trivial rfl ?_
   refine HeldK.firstS (fun _ hw => hw.pick [9] (by decide) rfl rfl) 1 (fuel := 12) (listed' := (lb 14 3)) _ rfl krf krf rfl (Yl.move rfl) trivial rfl ?_
   refine HeldK.firstS (fun _ hw => hw.pick [9] (by decide) rfl rfl) 2 (fuel := 11) (listed' := (lb 14 7)) _ rfl krf krf rfl (Yl.nilCheck rfl) trivial rfl ?_
   refine HeldK.firstS (fun _ hw => hw.pick [9] (by decide) rfl rfl) 3 (fuel := 10) (listed' := (lb 14 15)) _ rfl krf krf rfl (Yl.fieldAddr fd75_0 rfl) trivial rfl ?_
   refine HeldK.firstS (fun _ hw => hw.pick [9] (by decide) rfl rfl) 4 (fuel := 9) (listed' := (lb 14 31)) _ rfl krf krf rfl (Yl.fieldAddr fd29_2 rfl) trivial rfl ?_
   refine HeldK.firstS (fun _ hw => hw.pick [9] (by decide) rfl rfl) 5 (fuel := 8) (listed' := (lb 14 63)) _ rfl krf krf rfl (Yl.loadBox on22 rfl bsp rfl) trivial rfl ?_
   refine HeldK.firstS (fun _ hw => hw.pick [9] (by decide) rfl rfl) 6 (fuel := 7) (listed' := (lb 14 127)) _ rfl krf krf rfl (Yl.move rfl) trivial rfl ?_
   refine HeldK.one 7 (fuel := 6) (listed' := (lb 14 255)) krf rfl krf ?_
   refine AK.call co70 rfl (fun w hw => s_clone w _ (G.getD x.1 []) (RdL.at (h2 x.1 (by omega)) hw) (by omega)) trivial rfl ?_
   rintro cv o ⟨⟨ca, cn, cc, rfl⟩, rfl⟩
   refine .nil ?_
   try (conv => enter [2, 2]; simp only [nrm])
   refine HeldK.backS (fun _ hw => hw.pick [9] (by decide) rfl rfl) ?_
   refine HeldK.one 8 (fuel := 5) (listed' := (lb 14 511)) krf rfl krf ?_
   refine AK.lit (xs := [.tmp 65]) sl22 el26 rfl rfl rfl (by simp [Value.cells]) (by decide) (by decide) trivial rfl (fun lv => ?_)
   refine .nil ?_
   try (conv => enter [2, 2]; simp only [nrm])
   refine HeldK.backS (fun _ hw => hw.pick [9] (by decide) rfl rfl) ?_
   refine HeldK.one 9 (fuel := 4) (listed' := (lb 14 1023)) krf rfl krf ?_
   refine AK.appendS 0 rfl sl22 el26 rfl (by decide) rfl rfl rfl rdp (one'_cons rfl one'_nil) (by omega) (by omega) trivial rfl (fun vG2 => ?_)
   refine AK.shape 0 rfl (fun svG2 => ?_)
   refine .nil ?_
   try (conv => enter [2, 2]; simp only [nrm])
   refine HeldK.backS (fun _ hw => hw.pick [9] (by decide) rfl rfl) ?_
   refine HeldK.firstS (fun _ hw => hw.pick [9] (by decide) rfl rfl) 10 (fuel := 3) (listed' := (lb 14 2047)) _ rfl krf krf rfl (Yl.nilCheck rfl) trivial rfl ?_
   refine HeldK.firstS (fun _ hw => hw.pick [9] (by decide) rfl rfl) 11 (fuel := 2) (listed' := (lb 14 4095)) _ rfl krf krf rfl (Yl.fieldAddr fd75_0 rfl) trivial rfl ?_
   refine HeldK.firstS (fun _ hw => hw.pick [9] (by decide) rfl rfl) 12 (fuel := 1) (listed' := (lb 14 8191)) _ rfl krf krf rfl (Yl.fieldAddr fd29_2 rfl) trivial rfl ?_
   refine HeldK.one 13 (fuel := 0) (listed' := (lb 14 16383)) krf rfl krf ?_
   refine AK.storeBox 9 (us := [vG2]) (cs' := [.int .i64 (n : Int), .bool mon, vG2, nilV, nilV, nilV, nilV, nilV, .int .i64 0, .map (some mb), nilV, nilV, nilV]) rfl sz22 rfl rfl (by rw [IsSl.cells svG2]) rfl oneP (leb rfl) rfl trivial ?_
   refine .nil ?_
   try (conv => enter [2, 2]; simp only [nrm])
   refine HeldK.backN 14 krf rfl krf ?_
   refine .nil ?_
   refine AK.fromQn ?_
   refine .block_normal ?_
   refine AK.then_ (hK11 _ ?_)
   refine AK.region ?_
   refine .v (.add rfl rfl (by omega)) ?_
   refine .mv rfl (.nil ?_)
   refine AK.then_ (hK8 _ _ ((x.1 + 1, vG2, x.2.2 ++ [.slice ca cn cc])) ⟨by dsimp only; omega, by simp [hg0.2.1], svG2⟩ (by dsimp only; omega) (slr) (fun w hw => by dsimp only; have h := HW.absorb (own := [_, _, _, _, _, _, _, _, _, _, _, _, _, _]) 1 rfl (hw.pick [0, 1, 2, 3, 4, 5, 6, 7, 8, 9, 10, 11, 12, 13, 14] (by decide) rfl rfl); rw [take_snocD [] G x.1 (by omega), matG_snoc (by rw [hg0.2.1, List.length_take]; omega), List.length_append]; exact h))
  ·have hkn : x.1 = G.length := by omega
   refine AK.own' [row x.2.1 26 1 (rn0 G mon).gens.length x.2.2, bigA (matG (Value.int .i64) 3 x.2.2 (rn0 G mon).gens), row nilV 26 1 (rn0 G mon).elems.length [], bigA (matG (Value.int .i64) 3 [] (rn0 G mon).elems), row nilV 3 1 (rn0 G mon).pre.length ((rn0 G mon).pre.map (Value.int .i64)), row nilV 3 1 (rn0 G mon).las.length ((rn0 G mon).las.map (Value.int .i64)), row nilV 26 1 (rn0 G mon).right.length [], bigA (matG (Value.int .i64) 3 [] (rn0 G mon).right), row nilV 39 2 (rn0 G mon).rules.length (rlc (rn0 G mon).rules), box rb 75 13 [.int .i64 ((rn0 G mon).pts : Int), .bool (rn0 G mon).mon, x.2.1, nilV, nilV, nilV, nilV, nilV, .int .i64 ((rn0 G mon).done : Int), .map (some mb), nilV, nilV, nilV], mapA mb (mkv sv (Value.int .i64) (numM (txs (rn0 G mon)))), row nilV 9 1 (rn0 G mon).words.length ((rn0 G mon).words.map sv), row nilV 3 1 (rn0 G mon).beh.length ((rn0 G mon).beh.map (Value.int .i64)), row nilV 3 1 (rn0 G mon).sing.length ((rn0 G mon).sing.map (Value.int .i64))] (fun w hw => by rw [hkn, List.take_length, ← hn] at hw; exact hw) ?_
   refine .exit (.then_exit (.then_exit (.block_exit ?_)))
   refine AK.then_ (hK6 _ ?_)
   refine .sr fun _ hK15 => ?_
   refine .as rfl (.nt hK15 ?_)
   refine AK.seqJ (X := EnM) [(6, _)] (fun u => [(9, .int .i64 (emp1 mon))]) (fun u => [row x.2.1 26 1 (begK G mon 0).gens.length x.2.2, bigA (matG (Value.int .i64) 3 x.2.2 (begK G mon 0).gens), row u.vE 26 1 (begK G mon 0).elems.length u.es, bigA (matG (Value.int .i64) 3 u.es (begK G mon 0).elems), row u.vP 3 1 (begK G mon 0).pre.length ((begK G mon 0).pre.map (Value.int .i64)), row u.vL 3 1 (begK G mon 0).las.length ((begK G mon 0).las.map (Value.int .i64)), row u.vR 26 1 (begK G mon 0).right.length u.rs, bigA (matG (Value.int .i64) 3 u.rs (begK G mon 0).right), row u.vU 39 2 (begK G mon 0).rules.length (rlc (begK G mon 0).rules), box rb 75 13 [.int .i64 ((begK G mon 0).pts : Int), .bool (begK G mon 0).mon, x.2.1, u.vE, u.vP, u.vL, u.vR, u.vU, .int .i64 ((begK G mon 0).done : Int), .map (some mb), u.vW, u.vB, u.vS], mapA mb (mkv sv (Value.int .i64) (numM (txs (begK G mon 0)))), row u.vW 9 1 (begK G mon 0).words.length ((begK G mon 0).words.map sv), row u.vB 3 1 (begK G mon 0).beh.length ((begK G mon 0).beh.map (Value.int .i64)), row u.vS 3 1 (begK G mon 0).sing.length ((begK G mon 0).sing.map (Value.int .i64))]) (fun u => EnF { u with vG := x.2.1, gs := x.2.2 } (begK G mon 0)) slr (fun _ hK16 => ?_) (fun u hg => ?_)
   ·refine .sr fun _ hK17 => ?_
    refine .mv rfl (.nt hK17 ?_)
    refine AK.cond rfl (fun hc3 => ?_) (fun hc3 => ?_)
    ·try simp only [bs] at hc3
     have hem : emp1 mon = (0 : Int) := by unfold emp1; rw [if_pos hc3]
     have hb0 : begK G mon 0 = (addN (rn0 G mon) (idF (rn0 G mon).pts) (-1) (-1) [] (-1)) := by show rn1 G mon = _; unfold rn1; rw [if_pos hc3]; rfl
     refine AK.region ?_
     refine .mv rfl (.mv rfl (.v (.nilCheck rfl) (.v (.fieldAddr fd75_0 rfl) (.v (.fieldAddr fd29_0 rfl) (.v (.loadBox on3 rfl bsp rfl) ?_)))))
     refine AK.call co72 rfl (fun w hw => s_ident w (rn0 G mon).pts (by show 1 ≤ (G.getD 0 []).length ∧ (G.getD 0 []).length ≤ 32; omega)) trivial rfl ?_
     rintro iv o ⟨siv, rfl⟩
     refine AK.own' [bigA (enO 75 26 3 39 9 rb mb ⟨x.2.1, nilV, nilV, nilV, nilV, nilV, nilV, nilV, nilV, x.2.2, [], []⟩ (rn0 G mon) ++ [row iv 3 1 (idF (rn0 G mon).pts).length ((idF (rn0 G mon).pts).map (Value.int .i64))])] (fun w hw => by have h := HW.unflat (l := enO 75 26 3 39 9 rb mb ⟨x.2.1, nilV, nilV, nilV, nilV, nilV, nilV, nilV, nilV, x.2.2, [], []⟩ (rn0 G mon) ++ [row iv 3 1 (idF (rn0 G mon).pts).length ((idF (rn0 G mon).pts).map (Value.int .i64))]) (own := []) (hw.pick [0, 1, 2, 3, 4, 5, 6, 7, 8, 9, 10, 11, 12, 13, 14] (by decide) rfl rfl); exact h) ?_
     refine AK.callN 0 rfl co71 rfl (fun w Fs hw hh hfr hal => s_eadd w (Fs 0) rb mb ⟨x.2.1, nilV, nilV, nilV, nilV, nilV, nilV, nilV, nilV, x.2.2, [], []⟩ (rn0 G mon) ⟨by show x.2.2.length = G.length; omega, rfl, rfl, hg0.2.2, nilSl, nilSl, nilSl, nilSl, nilSl, nilSl, nilSl, nilSl⟩ 0 0 (rn0_ok hG mon hn) iv (idF (rn0 G mon).pts) siv VF.id (by simp [txs, rn0]) (-1) (-1) [] (-1) (hh.at_ 0 _ rfl)) trivial rfl ?_
     rintro r A o ⟨rfl, rfl, m2, hF2, hv2, hs2, rfl⟩
     refine AK.own' [row x.2.1 26 1 (addN (rn0 G mon) (idF (rn0 G mon).pts) (-1) (-1) [] (-1)).gens.length x.2.2, bigA (matG (Value.int .i64) 3 x.2.2 (addN (rn0 G mon) (idF (rn0 G mon).pts) (-1) (-1) [] (-1)).gens), row m2.vE 26 1 (addN (rn0 G mon) (idF (rn0 G mon).pts) (-1) (-1) [] (-1)).elems.length m2.es, bigA (matG (Value.int .i64) 3 m2.es (addN (rn0 G mon) (idF (rn0 G mon).pts) (-1) (-1) [] (-1)).elems), row m2.vP 3 1 (addN (rn0 G mon) (idF (rn0 G mon).pts) (-1) (-1) [] (-1)).pre.length ((addN (rn0 G mon) (idF (rn0 G mon).pts) (-1) (-1) [] (-1)).pre.map (Value.int .i64)), row m2.vL 3 1 (addN (rn0 G mon) (idF (rn0 G mon).pts) (-1) (-1) [] (-1)).las.length ((addN (rn0 G mon) (idF (rn0 G mon).pts) (-1) (-1) [] (-1)).las.map (Value.int .i64)), row m2.vR 26 1 (addN (rn0 G mon) (idF (rn0 G mon).pts) (-1) (-1) [] (-1)).right.length m2.rs, bigA (matG (Value.int .i64) 3 m2.rs (addN (rn0 G mon) (idF (rn0 G mon).pts) (-1) (-1) [] (-1)).right), row m2.vU 39 2 (addN (rn0 G mon) (idF (rn0 G mon).pts) (-1) (-1) [] (-1)).rules.length (rlc (addN (rn0 G mon) (idF (rn0 G mon).pts) (-1) (-1) [] (-1)).rules), box rb 75 13 [.int .i64 ((addN (rn0 G mon) (idF (rn0 G mon).pts) (-1) (-1) [] (-1)).pts : Int), .bool (addN (rn0 G mon) (idF (rn0 G mon).pts) (-1) (-1) [] (-1)).mon, x.2.1, m2.vE, m2.vP, m2.vL, m2.vR, m2.vU, .int .i64 ((addN (rn0 G mon) (idF (rn0 G mon).pts) (-1) (-1) [] (-1)).done : Int), .map (some mb), m2.vW, m2.vB, m2.vS], mapA mb (mkv sv (Value.int .i64) (numM (txs (addN (rn0 G mon) (idF (rn0 G mon).pts) (-1) (-1) [] (-1))))), row m2.vW 9 1 (addN (rn0 G mon) (idF (rn0 G mon).pts) (-1) (-1) [] (-1)).words.length ((addN (rn0 G mon) (idF (rn0 G mon).pts) (-1) (-1) [] (-1)).words.map sv), row m2.vB 3 1 (addN (rn0 G mon) (idF (rn0 G mon).pts) (-1) (-1) [] (-1)).beh.length ((addN (rn0 G mon) (idF (rn0 G mon).pts) (-1) (-1) [] (-1)).beh.map (Value.int .i64)), row m2.vS 3 1 (addN (rn0 G mon) (idF (rn0 G mon).pts) (-1) (-1) [] (-1)).sing.length ((addN (rn0 G mon) (idF (rn0 G mon).pts) (-1) (-1) [] (-1)).sing.map (Value.int .i64))] (fun w hw => by have h := HW.flat (l := enO 75 26 3 39 9 rb mb m2 (addN (rn0 G mon) (idF (rn0 G mon).pts) (-1) (-1) [] (-1))) (own := []) hw; unfold enO enB at h; rw [hv2, hs2] at h; exact h) ?_
     refine AK.val (.int .i64 0) (Yl.valE (Yl.assign rfl) rfl) trivial rfl ?_
     refine .nil ?_
     refine AK.then_ (hK16 _ _ (m2) (by rw [hb0]; exact hF2.wG hv2 hs2) (.cons (slI rfl hem.symm) (slr)) (fun w hw => by rw [hb0]; exact hw))
    ·try simp only [bs] at hc3
     have hem : emp1 mon = (-1 : Int) := by unfold emp1; rw [hc3]; rfl
     have hb0 : begK G mon 0 = rn0 G mon := by show rn1 G mon = _; unfold rn1; rw [hc3]; rfl
     refine .skip ?_
     refine AK.then_ (hK16 _ _ (⟨x.2.1, nilV, nilV, nilV, nilV, nilV, nilV, nilV, nilV, x.2.2, [], []⟩) (by rw [hb0]; exact ⟨by show x.2.2.length = G.length; omega, rfl, rfl, hg0.2.2, nilSl, nilSl, nilSl, nilSl, nilSl, nilSl, nilSl, nilSl⟩) (.cons (slI rfl hem.symm) (slr)) (fun w hw => by rw [hb0]; exact hw))
   ·have hgl9 : (begK G mon 0).gens.length = G.length := by rw [(begK_ok hG mon hn 0 (Nat.zero_le _)).2.1]
    refine .seq fun _ hK18 => ?_
    refine .sr fun _ hK19 => ?_
    refine .mv rfl (.v (.nilCheck rfl) (.v (.fieldAddr fd75_0 rfl) (.v (.fieldAddr fd29_2 rfl) (.v (.loadBox on22 rfl bsp rfl) (.v (.lenR sl22 rfl rdp) (.mv rfl (.nt hK19 (.block ?_))))))))
    refine AK.loopK (X := Nat × EnM) [(6, _), (9, _), (85, _), (86, _)] (fun y => [(87, .int .i64 (y.1 : Int))]) (fun y => [row x.2.1 26 1 (begK G mon y.1).gens.length x.2.2, bigA (matG (Value.int .i64) 3 x.2.2 (begK G mon y.1).gens), row y.2.vE 26 1 (begK G mon y.1).elems.length y.2.es, bigA (matG (Value.int .i64) 3 y.2.es (begK G mon y.1).elems), row y.2.vP 3 1 (begK G mon y.1).pre.length ((begK G mon y.1).pre.map (Value.int .i64)), row y.2.vL 3 1 (begK G mon y.1).las.length ((begK G mon y.1).las.map (Value.int .i64)), row y.2.vR 26 1 (begK G mon y.1).right.length y.2.rs, bigA (matG (Value.int .i64) 3 y.2.rs (begK G mon y.1).right), row y.2.vU 39 2 (begK G mon y.1).rules.length (rlc (begK G mon y.1).rules), box rb 75 13 [.int .i64 ((begK G mon y.1).pts : Int), .bool (begK G mon y.1).mon, x.2.1, y.2.vE, y.2.vP, y.2.vL, y.2.vR, y.2.vU, .int .i64 ((begK G mon y.1).done : Int), .map (some mb), y.2.vW, y.2.vB, y.2.vS], mapA mb (mkv sv (Value.int .i64) (numM (txs (begK G mon y.1)))), row y.2.vW 9 1 (begK G mon y.1).words.length ((begK G mon y.1).words.map sv), row y.2.vB 3 1 (begK G mon y.1).beh.length ((begK G mon y.1).beh.map (Value.int .i64)), row y.2.vS 3 1 (begK G mon y.1).sing.length ((begK G mon y.1).sing.map (Value.int .i64))]) (fun y => y.1 ≤ G.length ∧ EnF { y.2 with vG := x.2.1, gs := x.2.2 } (begK G mon y.1)) (fun y => G.length - y.1) ((0, u)) slr ?_ ?_ ?_ ?_
    ·exact ⟨Nat.zero_le _, hg⟩
    ·exact slr
    ·exact fun w hw => hw
    ·intro y hg1 _ hK20
     refine .sr fun _ hK21 => ?_
     refine .v (.lss rfl rfl) (.nt hK21 ?_)
     refine .seq fun _ hK22 => ?_
     refine AK.condD rfl (fun hc4 => ?_) (fun hc4 => ?_)
     ·obtain ⟨hI1, hge, hel1⟩ := begK_ok hG mon hn y.1 (by omega)
      have hF := hg1.2
      have hFg : x.2.2.length = (begK G mon y.1).gens.length := hF.gl
      have hgl : (begK G mon y.1).gens.length = G.length := by rw [hge]
      have hle2 := hI1.le
      have hwl := hI1.wl
      have hsl := hI1.sl
      have hru := hI1.ru
      have hpt := hI1.g.pts
      have hfk : VF (begK G mon y.1).pts ((begK G mon y.1).gens.getD y.1 []) := hI1.g.fs _ (by omega)
      have hfl := hfk.1
      refine .skip ?_
      refine AK.then_ (hK22 _ ?_)
      refine .seq fun _ hK23 => ?_
      refine .block ?_
      refine .sr fun _ hK24 => ?_
      refine .mv rfl ?_
      first | refine .v (.iN sl22 rfl rfl) ?_ | refine .v (.iK sl22 rfl rfl) ?_
      refine .v (.loadV on26 rfl rdp (by omega)) ?_
      refine .as rfl (.as rfl (.nt hK24 ?_))
      refine .sr fun _ hK25 => ?_
      refine .mv rfl ?_
      refine .v (.add rfl rfl (by omega)) ?_
      refine .v (.convI (by kernel_rfl) un21 rfl (wrap_i32 (by omega))) ?_
      refine AK.val (sv [ltr y.1]) (Yl.valE (Yl.runeS (by kernel_rfl) un9 rfl (by omega)) (by rw [ofNat_ltr (by omega)])) trivial rfl ?_
      refine .as rfl (.nt hK25 ?_)
      refine .seq fun _ hK26 => ?_
      refine AK.quiet mixed krf ?_
      refine .mv rfl (.v (.nilCheck rfl) (.v (.fieldAddr fd75_1 rfl) (.v (.loadBox on73 rfl bsp rfl) (.mv rfl ?_))))
      refine QK.call (sv (textF ((begK G mon y.1).gens.getD y.1 []))) co73 rfl (fun w hw => s_text w (x.2.2.getD y.1 undef) ((begK G mon y.1).gens.getD y.1 []) (RdL.big (v := undef) 1 y.1 hw rfl hF.gl (by omega)) (by omega) (fun i hi => by have := hfk.2 i (by omega); omega)) (fun r o h => h.1) trivial rfl ?_
      refine .v (.lookup2I mp73 (keyStrT un9) el3 rfl rfl msp) (.mv rfl (.v (.extract rfl rfl) (.v (.extract rfl rfl) (.as rfl (.as rfl ?_)))))
      refine QK.nil (QK.fin ?_)
      refine AK.then_ (hK26 _ ?_)
      refine AK.seqJ (X := EnM) [(6, _), (9, _), (85, _), (86, _), (87, _)] (fun z => [(13, .int .i64 (genX (begK G mon y.1) y.1))]) (fun z => [row x.2.1 26 1 (genP (begK G mon y.1) (emp1 mon) y.1).gens.length x.2.2, bigA (matG (Value.int .i64) 3 x.2.2 (genP (begK G mon y.1) (emp1 mon) y.1).gens), row z.vE 26 1 (genP (begK G mon y.1) (emp1 mon) y.1).elems.length z.es, bigA (matG (Value.int .i64) 3 z.es (genP (begK G mon y.1) (emp1 mon) y.1).elems), row z.vP 3 1 (genP (begK G mon y.1) (emp1 mon) y.1).pre.length ((genP (begK G mon y.1) (emp1 mon) y.1).pre.map (Value.int .i64)), row z.vL 3 1 (genP (begK G mon y.1) (emp1 mon) y.1).las.length ((genP (begK G mon y.1) (emp1 mon) y.1).las.map (Value.int .i64)), row z.vR 26 1 (genP (begK G mon y.1) (emp1 mon) y.1).right.length z.rs, bigA (matG (Value.int .i64) 3 z.rs (genP (begK G mon y.1) (emp1 mon) y.1).right), row z.vU 39 2 (genP (begK G mon y.1) (emp1 mon) y.1).rules.length (rlc (genP (begK G mon y.1) (emp1 mon) y.1).rules), box rb 75 13 [.int .i64 ((genP (begK G mon y.1) (emp1 mon) y.1).pts : Int), .bool (genP (begK G mon y.1) (emp1 mon) y.1).mon, x.2.1, z.vE, z.vP, z.vL, z.vR, z.vU, .int .i64 ((genP (begK G mon y.1) (emp1 mon) y.1).done : Int), .map (some mb), z.vW, z.vB, z.vS], mapA mb (mkv sv (Value.int .i64) (numM (txs (genP (begK G mon y.1) (emp1 mon) y.1)))), row z.vW 9 1 (genP (begK G mon y.1) (emp1 mon) y.1).words.length ((genP (begK G mon y.1) (emp1 mon) y.1).words.map sv), row z.vB 3 1 (genP (begK G mon y.1) (emp1 mon) y.1).beh.length ((genP (begK G mon y.1) (emp1 mon) y.1).beh.map (Value.int .i64)), row z.vS 3 1 (genP (begK G mon y.1) (emp1 mon) y.1).sing.length ((genP (begK G mon y.1) (emp1 mon) y.1).sing.map (Value.int .i64))]) (fun z => EnF { z with vG := x.2.1, gs := x.2.2 } (genP (begK G mon y.1) (emp1 mon) y.1)) slr (fun _ hK27 => ?_) (fun z hg => ?_)
      ·refine .sr fun _ hK28 => ?_
       refine .mv rfl (.nt hK28 ?_)
       refine AK.cond rfl (fun hc5 => ?_) (fun hc5 => ?_)
       ·try simp only [bs] at hc5
        have hin : (textF ((begK G mon y.1).gens.getD y.1 [])) ∈ txs (begK G mon y.1) := by
         rcases Classical.em ((textF ((begK G mon y.1).gens.getD y.1 [])) ∈ txs (begK G mon y.1)) with h | h
         ·exact h
         ·rw [mget_numM, if_neg h] at hc5; cases hc5
        have hgi : (mget (numM (txs (begK G mon y.1))) (textF ((begK G mon y.1).gens.getD y.1 []))).getD 0 = (((posN (txs (begK G mon y.1)) (textF ((begK G mon y.1).gens.getD y.1 []))) : Nat) : Int) := by rw [mget_numM, if_pos hin]; rfl
        have hpos := posN_lt hin
        rw [txs_len] at hpos
        rw [hgi]
        have e1 : (genP (begK G mon y.1) (emp1 mon) y.1) = (ruleN (begK G mon y.1) [ltr y.1] ((begK G mon y.1).words.getD (posN (txs (begK G mon y.1)) (textF ((begK G mon y.1).gens.getD y.1 []))) [])) := if_pos hin
        have e2 : genX (begK G mon y.1) y.1 = (((posN (txs (begK G mon y.1)) (textF ((begK G mon y.1).gens.getD y.1 []))) : Nat) : Int) := if_pos hin
        try (conv => enter [2, 2]; simp only [nrm])
        refine AK.heldS _ 20 (fun _ hw => hw.pick [9, 11] (by decide) rfl rfl) mixed ?_
        refine HeldK.firstS (fun _ hw => hw.pick [9, 11] (by decide) rfl rfl) 0 (fuel := 20) (listed' := (lb 21 1)) _ rfl krf krf rfl (Yl.move rfl) trivial rfl ?_
        refine HeldK.firstS (fun _ hw => hw.pick [9, 11] (by decide) rfl rfl) 1 (fuel := 19) (listed' := (lb 21 3)) _ rfl krf krf rfl (Yl.move rfl) trivial rfl ?_
        refine HeldK.firstS (fun _ hw => hw.pick [9, 11] (by decide) rfl rfl) 2 (fuel := 18) (listed' := (lb 21 7)) _ rfl krf krf rfl (Yl.nilCheck rfl) trivial rfl ?_
        refine HeldK.firstS (fun _ hw => hw.pick [9, 11] (by decide) rfl rfl) 3 (fuel := 17) (listed' := (lb 21 15)) _ rfl krf krf rfl (Yl.fieldAddr fd75_0 rfl) trivial rfl ?_
        refine HeldK.firstS (fun _ hw => hw.pick [9, 11] (by decide) rfl rfl) 4 (fuel := 16) (listed' := (lb 21 31)) _ rfl krf krf rfl (Yl.fieldAddr fd29_7 rfl) trivial rfl ?_
        refine HeldK.firstS (fun _ hw => hw.pick [9, 11] (by decide) rfl rfl) 5 (fuel := 15) (listed' := (lb 21 63)) _ rfl krf krf rfl (Yl.loadBox on27 rfl bsp rfl) trivial rfl ?_
        refine HeldK.firstS (fun _ hw => hw.pick [9, 11] (by decide) rfl rfl) 6 (fuel := 14) (listed' := (lb 21 127)) _ rfl krf krf rfl (Yl.move rfl) trivial rfl ?_
        refine HeldK.firstS (fun _ hw => hw.pick [9, 11] (by decide) rfl rfl) 7 (fuel := 13) (listed' := (lb 21 255)) _ rfl krf krf rfl (Yl.move rfl) trivial rfl ?_
        refine HeldK.firstS (fun _ hw => hw.pick [9, 11] (by decide) rfl rfl) 8 (fuel := 12) (listed' := (lb 21 511)) _ rfl krf krf rfl (Yl.nilCheck rfl) trivial rfl ?_
        refine HeldK.firstS (fun _ hw => hw.pick [9, 11] (by decide) rfl rfl) 9 (fuel := 11) (listed' := (lb 21 1023)) _ rfl krf krf rfl (Yl.fieldAddr fd75_2 rfl) trivial rfl ?_
        refine HeldK.firstS (fun _ hw => hw.pick [9, 11] (by decide) rfl rfl) 10 (fuel := 10) (listed' := (lb 21 2047)) _ rfl krf krf rfl (Yl.loadBox on44 rfl bsp rfl) trivial rfl ?_
        refine HeldK.firstS (fun _ hw => hw.pick [9, 11] (by decide) rfl rfl) 11 (fuel := 9) (listed' := (lb 21 4095)) _ rfl krf krf rfl (Yl.move rfl) trivial rfl ?_
        first | refine HeldK.firstS (fun _ hw => hw.pick [9, 11] (by decide) rfl rfl) 12 (fuel := 8) (listed' := (lb 21 8191)) _ rfl krf krf rfl (.iN sl44 rfl rfl) trivial rfl ?_ | refine HeldK.firstS (fun _ hw => hw.pick [9, 11] (by decide) rfl rfl) 12 (fuel := 8) (listed' := (lb 21 8191)) _ rfl krf krf rfl (.iK sl44 rfl rfl) trivial rfl ?_
        refine HeldK.firstS (fun _ hw => hw.pick [9, 11] (by decide) rfl rfl) 13 (fuel := 7) (listed' := (lb 21 16383)) _ rfl krf krf rfl (Yl.loadS on9 rfl rdp (by omega)) trivial rfl ?_
        refine HeldK.firstS (fun _ hw => hw.pick [9, 11] (by decide) rfl rfl) 14 (fuel := 6) (listed' := (lb 21 32767)) _ rfl krf krf rfl (Yl.build (parts := [(0, .tmp 113), (1, .tmp 120)]) (cs := #[sv [ltr y.1], sv ((begK G mon y.1).words.getD (posN (txs (begK G mon y.1)) (textF ((begK G mon y.1).gens.getD y.1 []))) [])]) rfl (by kernel_rfl)) trivial rfl ?_
        refine HeldK.one 15 (fuel := 5) (listed' := (lb 21 65535)) krf rfl krf ?_
        refine AK.lit (xs := [.tmp 121]) sl27 el39 rfl rfl rfl (by simp [Value.cells]) (by decide) (by decide) trivial rfl (fun lw => ?_)
        refine .nil ?_
        try (conv => enter [2, 2]; simp only [nrm])
        refine HeldK.backS (fun _ hw => hw.pick [9, 11] (by decide) rfl rfl) ?_
        refine HeldK.one 16 (fuel := 4) (listed' := (lb 21 131071)) krf rfl krf ?_
        refine AK.appendS 8 rfl sl27 el39 rfl (by decide) rfl rfl rfl rdp (one'_cons rfl (one'_cons rfl one'_nil)) (by omega) (by omega) trivial rfl (fun vU2 => ?_)
        refine AK.shape 8 rfl (fun svU2 => ?_)
        refine .nil ?_
        try (conv => enter [2, 2]; simp only [nrm])
        refine HeldK.backS (fun _ hw => hw.pick [9, 11] (by decide) rfl rfl) ?_
        refine HeldK.firstS (fun _ hw => hw.pick [9, 11] (by decide) rfl rfl) 17 (fuel := 3) (listed' := (lb 21 262143)) _ rfl krf krf rfl (Yl.nilCheck rfl) trivial rfl ?_
        refine HeldK.firstS (fun _ hw => hw.pick [9, 11] (by decide) rfl rfl) 18 (fuel := 2) (listed' := (lb 21 524287)) _ rfl krf krf rfl (Yl.fieldAddr fd75_0 rfl) trivial rfl ?_
        refine HeldK.firstS (fun _ hw => hw.pick [9, 11] (by decide) rfl rfl) 19 (fuel := 1) (listed' := (lb 21 1048575)) _ rfl krf krf rfl (Yl.fieldAddr fd29_7 rfl) trivial rfl ?_
        refine HeldK.one 20 (fuel := 0) (listed' := (lb 21 2097151)) krf rfl krf ?_
        refine AK.storeBox 9 (us := [vU2]) (cs' := [.int .i64 ((begK G mon y.1).pts : Int), .bool (begK G mon y.1).mon, x.2.1, y.2.vE, y.2.vP, y.2.vL, y.2.vR, vU2, .int .i64 ((begK G mon y.1).done : Int), .map (some mb), y.2.vW, y.2.vB, y.2.vS]) rfl sz27 rfl rfl (by rw [IsSl.cells svU2]) rfl oneP (leb rfl) rfl trivial ?_
        refine .nil ?_
        try (conv => enter [2, 2]; simp only [nrm])
        refine HeldK.backN 21 krf rfl krf ?_
        refine .nil ?_
        refine AK.fromQn ?_
        refine AK.then_ (hK27 _ _ ({ y.2 with vU := vU2 }) (by rw [e1]; exact hF.rule _ _ svU2) (.cons (slI rfl e2.symm) (slr)) (fun w hw => by rw [e1]; simp only [ruleN, rlc_snoc, List.length_append, List.length_singleton]; exact hw.pick [0, 1, 2, 3, 4, 5, 6, 7, 8, 9, 10, 11, 12, 13] (by decide) rfl rfl))
       ·try simp only [bs] at hc5
        have hno : (textF ((begK G mon y.1).gens.getD y.1 [])) ∉ txs (begK G mon y.1) := fun h => by rw [mget_numM, if_pos h] at hc5; cases hc5
        have e1 : (genP (begK G mon y.1) (emp1 mon) y.1) = (addN (begK G mon y.1) ((begK G mon y.1).gens.getD y.1 []) (emp1 mon) (y.1 : Int) [ltr y.1] (emp1 mon)) := if_neg hno
        have e2 : genX (begK G mon y.1) y.1 = ((begK G mon y.1).elems.length : Int) := if_neg hno
        refine AK.region ?_
        refine .mv rfl (.mv rfl ?_)
        refine AK.call co70 rfl (fun w hw => s_clone w (x.2.2.getD y.1 undef) ((begK G mon y.1).gens.getD y.1 []) (RdL.big (v := undef) 1 y.1 hw rfl hF.gl (by omega)) (by omega)) trivial rfl ?_
        rintro cw o ⟨scw, rfl⟩
        refine .mv rfl (.mv rfl (.mv rfl (.mv rfl ?_)))
        refine AK.own' [bigA (enO 75 26 3 39 9 rb mb { y.2 with vG := x.2.1, gs := x.2.2 } (begK G mon y.1) ++ [row cw 3 1 ((begK G mon y.1).gens.getD y.1 []).length (((begK G mon y.1).gens.getD y.1 []).map (Value.int .i64))])] (fun w hw => by have h := HW.unflat (l := enO 75 26 3 39 9 rb mb { y.2 with vG := x.2.1, gs := x.2.2 } (begK G mon y.1) ++ [row cw 3 1 ((begK G mon y.1).gens.getD y.1 []).length (((begK G mon y.1).gens.getD y.1 []).map (Value.int .i64))]) (own := []) (hw.pick [0, 1, 2, 3, 4, 5, 6, 7, 8, 9, 10, 11, 12, 13, 14] (by decide) rfl rfl); exact h) ?_
        refine AK.callN 0 rfl co71 rfl (fun w Fs hw hh hfr hal => s_eadd w (Fs 0) rb mb { y.2 with vG := x.2.1, gs := x.2.2 } (begK G mon y.1) hF y.1 y.1 hI1 cw ((begK G mon y.1).gens.getD y.1 []) scw hfk hno (emp1 mon) (y.1 : Int) [ltr y.1] (emp1 mon) (hh.at_ 0 _ rfl)) trivial rfl ?_
        rintro r A o ⟨rfl, rfl, m3, hF3, hv3, hs3, rfl⟩
        refine AK.own' [row x.2.1 26 1 (addN (begK G mon y.1) ((begK G mon y.1).gens.getD y.1 []) (emp1 mon) (y.1 : Int) [ltr y.1] (emp1 mon)).gens.length x.2.2, bigA (matG (Value.int .i64) 3 x.2.2 (addN (begK G mon y.1) ((begK G mon y.1).gens.getD y.1 []) (emp1 mon) (y.1 : Int) [ltr y.1] (emp1 mon)).gens), row m3.vE 26 1 (addN (begK G mon y.1) ((begK G mon y.1).gens.getD y.1 []) (emp1 mon) (y.1 : Int) [ltr y.1] (emp1 mon)).elems.length m3.es, bigA (matG (Value.int .i64) 3 m3.es (addN (begK G mon y.1) ((begK G mon y.1).gens.getD y.1 []) (emp1 mon) (y.1 : Int) [ltr y.1] (emp1 mon)).elems), row m3.vP 3 1 (addN (begK G mon y.1) ((begK G mon y.1).gens.getD y.1 []) (emp1 mon) (y.1 : Int) [ltr y.1] (emp1 mon)).pre.length ((addN (begK G mon y.1) ((begK G mon y.1).gens.getD y.1 []) (emp1 mon) (y.1 : Int) [ltr y.1] (emp1 mon)).pre.map (Value.int .i64)), row m3.vL 3 1 (addN (begK G mon y.1) ((begK G mon y.1).gens.getD y.1 []) (emp1 mon) (y.1 : Int) [ltr y.1] (emp1 mon)).las.length ((addN (begK G mon y.1) ((begK G mon y.1).gens.getD y.1 []) (emp1 mon) (y.1 : Int) [ltr y.1] (emp1 mon)).las.map (Value.int .i64)), row m3.vR 26 1 (addN (begK G mon y.1) ((begK G mon y.1).gens.getD y.1 []) (emp1 mon) (y.1 : Int) [ltr y.1] (emp1 mon)).right.length m3.rs, bigA (matG (Value.int .i64) 3 m3.rs (addN (begK G mon y.1) ((begK G mon y.1).gens.getD y.1 []) (emp1 mon) (y.1 : Int) [ltr y.1] (emp1 mon)).right), row m3.vU 39 2 (addN (begK G mon y.1) ((begK G mon y.1).gens.getD y.1 []) (emp1 mon) (y.1 : Int) [ltr y.1] (emp1 mon)).rules.length (rlc (addN (begK G mon y.1) ((begK G mon y.1).gens.getD y.1 []) (emp1 mon) (y.1 : Int) [ltr y.1] (emp1 mon)).rules), box rb 75 13 [.int .i64 ((addN (begK G mon y.1) ((begK G mon y.1).gens.getD y.1 []) (emp1 mon) (y.1 : Int) [ltr y.1] (emp1 mon)).pts : Int), .bool (addN (begK G mon y.1) ((begK G mon y.1).gens.getD y.1 []) (emp1 mon) (y.1 : Int) [ltr y.1] (emp1 mon)).mon, x.2.1, m3.vE, m3.vP, m3.vL, m3.vR, m3.vU, .int .i64 ((addN (begK G mon y.1) ((begK G mon y.1).gens.getD y.1 []) (emp1 mon) (y.1 : Int) [ltr y.1] (emp1 mon)).done : Int), .map (some mb), m3.vW, m3.vB, m3.vS], mapA mb (mkv sv (Value.int .i64) (numM (txs (addN (begK G mon y.1) ((begK G mon y.1).gens.getD y.1 []) (emp1 mon) (y.1 : Int) [ltr y.1] (emp1 mon))))), row m3.vW 9 1 (addN (begK G mon y.1) ((begK G mon y.1).gens.getD y.1 []) (emp1 mon) (y.1 : Int) [ltr y.1] (emp1 mon)).words.length ((addN (begK G mon y.1) ((begK G mon y.1).gens.getD y.1 []) (emp1 mon) (y.1 : Int) [ltr y.1] (emp1 mon)).words.map sv), row m3.vB 3 1 (addN (begK G mon y.1) ((begK G mon y.1).gens.getD y.1 []) (emp1 mon) (y.1 : Int) [ltr y.1] (emp1 mon)).beh.length ((addN (begK G mon y.1) ((begK G mon y.1).gens.getD y.1 []) (emp1 mon) (y.1 : Int) [ltr y.1] (emp1 mon)).beh.map (Value.int .i64)), row m3.vS 3 1 (addN (begK G mon y.1) ((begK G mon y.1).gens.getD y.1 []) (emp1 mon) (y.1 : Int) [ltr y.1] (emp1 mon)).sing.length ((addN (begK G mon y.1) ((begK G mon y.1).gens.getD y.1 []) (emp1 mon) (y.1 : Int) [ltr y.1] (emp1 mon)).sing.map (Value.int .i64))] (fun w hw => by have h := HW.flat (l := enO 75 26 3 39 9 rb mb m3 (addN (begK G mon y.1) ((begK G mon y.1).gens.getD y.1 []) (emp1 mon) (y.1 : Int) [ltr y.1] (emp1 mon))) (own := []) hw; unfold enO enB at h; rw [hv3, hs3] at h; exact h) ?_
        refine .as rfl (.nil ?_)
        refine AK.then_ (hK27 _ _ (m3) (by rw [e1]; exact hF3.wG hv3 hs3) (.cons (slI rfl e2.symm) (slr)) (fun w hw => by rw [e1]; exact hw))
      ·have hgz := hg
       have hsl9 : (genP (begK G mon y.1) (emp1 mon) y.1).sing.length = (begK G mon y.1).sing.length := by rw [genP_sing]
       have e9 : begK G mon (y.1 + 1) = singN (genP (begK G mon y.1) (emp1 mon) y.1) (genX (begK G mon y.1) y.1) := genN_eq _ _ _
       refine AK.region ?_
       refine .mv rfl (.mv rfl (.v (.nilCheck rfl) (.v (.fieldAddr fd75_4 rfl) (.v (.loadBox on26 rfl bsp rfl) (.mv rfl ?_)))))
       refine AK.append1 13 rfl sl26 el3 rfl (by decide) rfl (by intro k hk; cases hk; rfl) rfl (by intro u hu; simp [Value.cells] at hu; subst hu; rfl) (by omega) (by omega) (by decide) rfl rfl (fun vS2 _ svS2 => ?_)
       refine .v (.nilCheck rfl) (.v (.fieldAddr fd75_4 rfl) ?_)
       refine AK.storeBox 9 (us := [vS2]) (cs' := [.int .i64 ((genP (begK G mon y.1) (emp1 mon) y.1).pts : Int), .bool (genP (begK G mon y.1) (emp1 mon) y.1).mon, x.2.1, z.vE, z.vP, z.vL, z.vR, z.vU, .int .i64 ((genP (begK G mon y.1) (emp1 mon) y.1).done : Int), .map (some mb), z.vW, z.vB, vS2]) rfl sz26 rfl rfl (by rw [IsSl.cells svS2]) rfl oneP (leb rfl) rfl trivial ?_
       refine .nil (.block_normal ?_)
       refine AK.then_ (hK23 _ ?_)
       refine AK.region ?_
       refine .v (.add rfl rfl (by omega)) ?_
       refine .mv rfl (.nil ?_)
       refine AK.then_ (hK20 _ _ ((y.1 + 1, { z with vS := vS2 })) ⟨by dsimp only; omega, by dsimp only; rw [e9]; exact hgz.sing _ svS2⟩ (by dsimp only; omega) (slr) (fun w hw => by dsimp only; rw [e9]; simp only [singN, List.length_append, List.length_singleton, List.map_append, List.map_cons, List.map_nil]; exact hw))
     ·refine .exit (.then_exit (.then_exit (.block_exit ?_)))
      refine AK.then_ (hK18 _ ?_)
      refine .sr fun _ hK29 => ?_
      refine .mv rfl (.as rfl (.as rfl (.nt hK29 (.ret ?_))))
      refine AK.own' [bigA (enO 75 26 3 39 9 rb mb { y.2 with vG := x.2.1, gs := x.2.2 } (begN G mon))] (fun w hw => by
       have hkk : y.1 = G.length := by omega
       rw [hkk] at hw
       have h := HW.unflat (l := enO 75 26 3 39 9 rb mb { y.2 with vG := x.2.1, gs := x.2.2 } (begN G mon)) (own := []) (hw.pick [0, 1, 2, 3, 4, 5, 6, 7, 8, 9, 10, 11, 12, 13] (by decide) rfl rfl)
       exact h) ?_
      refine AK.ret2 rfl rfl rfl (fun w hw => ⟨_, _, ?_, rfl, Ret.of (hw.pick [0] (by decide) rfl rfl)⟩)
      have hkk : y.1 = G.length := by omega
      have hF := hg1.2
      rw [hkk] at hF
      exact ⟨rb, mb, { y.2 with vG := x.2.1, gs := x.2.2 }, rfl, hF, rfl⟩

end Go.Proofs.YtdnhiinakhmhgaaGreatDoor

namespace Go.Sx
/-! ### a run held as one -/
theorem BoxS.big {C : Cx} {own l : List Asn} {b : Nat} {E : TypeId} {sz : Nat} {cs : List Value} (j i : Nat) (hj : own[j]? = some (bigA l)) (hi : l[i]? = some (box b E sz cs)) : BoxS C own b cs := fun w hw => by
  have h1 : HW C [bigA l] w := hw.pick [j] (by simp) (by simp [hj]) rfl
  have h2 : HW C (l ++ []) w := HW.flat (own := []) h1
  exact BoxS.own i (by rw [List.append_nil]; exact hi) w h2
theorem RnR.big {C : Cx} {own : List Asn} {w : World} {TR TRI TI TRU TS rb mb : Nat} {m : EnM} {r : Rn} (j : Nat) (hw : HW C own w) (hm : EnF m r) (hj : own[j]? = some (bigA (enO TR TRI TI TRU TS rb mb m r))) : RnR w rb mb m r := by
  have h1 : HW C [bigA (enO TR TRI TI TRU TS rb mb m r)] w := hw.pick [j] (by simp) (by simp [hj]) rfl
  have h2 := HW.flat (own := []) h1
  exact RnR.own h2 hm rfl
theorem enC_one {m : EnM} {r : Rn} (h : EnF m r) : one' (enC m r) := one'_cons rfl (one'_cons rfl (one'_cons (IsSl.one h.sG) (one'_cons (IsSl.one h.sE) (one'_cons (IsSl.one h.sP) (one'_cons (IsSl.one h.sL) (one'_cons (IsSl.one h.sR) (one'_cons (IsSl.one h.sU) (one'_cons rfl one'_nil))))))))
theorem HW.savedB {C : Cx} {own : List Asn} {w : World} {X : Asn} {TR TRI TI TRU TS rb mb : Nat} {m : EnM} {r : Rn} (j i : Nat) (hji : j ≠ i) (hw : HW C own w) (hj : own[j]? = some (bigA (enO TR TRI TI TRU TS rb mb m r))) (hi : own[i]? = some X) : HW C [bigA (enS TRI TI TRU m r), X] w := by
  have h1 : HW C [bigA (enO TR TRI TI TRU TS rb mb m r), X] w := hw.pick [j, i] (by simp [hji]) (by simp [hj, hi]) rfl
  have h2 := HW.flat (own := [X]) h1
  have h3 : HW C (enS TRI TI TRU m r ++ [X]) w := h2.pick [0, 1, 2, 3, 4, 5, 6, 7, 8, 14] (by decide) rfl rfl
  exact HW.unflat (own := [X]) h3
theorem Way.mid {q : Rn} (h : Way q) (i : Nat) : Way (runK (begN q.gens q.mon) i) := Way.run h.ok.g q.mon h.first i
theorem runK_next {r : Rn} {i : Nat} (h : ¬ finR (runK r i)) : runK r (i + 1) = procN (runK r i) := if_neg h
theorem Way.bnd {q : Rn} (h : Way q) : q.gens.length * (q.done + 1) ≤ 100000 := by
  have h1 := h.ok.g.len
  have h2 := h.ok.le
  have h3 := h.ok.dn
  have h4 : q.gens.length * (q.done + 1) ≤ 2 * 257 := Nat.mul_le_mul (by omega) (by omega)
  omega
theorem Way.lt {q : Rn} (h : Way q) (hf : ¬ finR q) : q.done < q.elems.length := Nat.lt_of_le_of_ne h.ok.dn hf
theorem runK_fin_le {r : Rn} {i j : Nat} (hf : finR (runK r i)) (h : i ≤ j) : runK r j = runK r i := by
  obtain ⟨k, rfl⟩ : ∃ k, j = i + k := ⟨j - i, by omega⟩
  rw [runK_add, runK_fin hf]
/-! ### b & 31 -/
section
variable {C : Cx} {sl : List (Nat × Value)} {own : List Asn} {dst : Option Nat} {ty : TypeId} {pos : String} {aft : Array Edge} {g : Option (Nat × Bool)}
end
end Go.Sx

namespace Go.Proofs.YtdnhiinakhmhgaaGreatDoor
open Go.Sx Go.RowKit
set_option maxHeartbeats 2000000 in
theorem s_replay (w : World) (v : Value) (q : Rn) (hv : RdEn (fun _ => False) w v q) (hW : Go.Sx.Way q) : CallS Tryz.prog 35 [v] w (fun r o => ∃ rb mb m, r = .tuple #[.pointer (some ⟨rb, 0, none⟩), .bool true] ∧ EnF m q ∧ o = [bigA (enO 75 26 3 39 9 rb mb m q)]) := by
 have hv0 := hv
 obtain ⟨vG, vE, vP, vL, vR, vU, rfl, h1, h2, h3, h4, h5, h6⟩ := hv
 refine spec_of Tryz.func35 rfl (leb rfl) ?_
 refine .sr fun _ hK1 => ?_
 refine AK.box_ (E := 29) (cs := [.int .i64 (q.pts : Int), .bool q.mon, vG, vE, vP, vL, vR, vU, .int .i64 (q.done : Int)]) rfl rfl rfl trivial rfl (fun bx1 => ?_)
 refine .as rfl (.as rfl (.nt hK1 ?_))
 refine .sr fun _ hK2 => ?_
 refine .v (.fieldAddr fd29_2 rfl) (.v (.loadBox on22 rfl bsp rfl) (.v (.fieldAddr fd29_1 rfl) (.v (.loadBox on4 rfl bsp rfl) ?_)))
 refine AK.call co34 rfl (fun w hw => s_ebegin w vG q.gens (h1.at hw) q.pts hW.ok.g hW.first q.mon) trivial rfl ?_
 rintro r o ⟨rb, mb, m, rfl, hF0, rfl⟩
 refine .mv rfl (.v (.extract rfl rfl) (.v (.extract rfl rfl) (.as rfl (.as rfl (.nt hK2 ?_)))))
 refine .seq fun _ hK3 => ?_
 refine .sr fun _ hK4 => ?_
 refine .mv rfl (.v (.neq rfl rfl) (.nt hK4 ?_))
 refine AK.cond_f rfl (rfl) ?_
 refine .skip ?_
 refine AK.then_ (hK3 _ ?_)
 refine .seq fun _ hK5 => ?_
 refine .block ?_
 refine AK.loopK (X := Nat × EnM) [(1, _), (4, _)] (fun y => []) (fun y => [box bx1 29 9 [.int .i64 (q.pts : Int), .bool q.mon, vG, vE, vP, vL, vR, vU, .int .i64 (q.done : Int)], bigA (enO 75 26 3 39 9 rb mb y.2 (runK (begN q.gens q.mon) y.1))]) (fun y => y.1 ≤ q.done ∧ EnF y.2 (runK (begN q.gens q.mon) y.1)) (fun y => q.done - y.1) ((0, m)) slr ?_ ?_ ?_ ?_
 ·exact ⟨Nat.zero_le _, hF0⟩
 ·exact slr
 ·exact fun w hw => hw
 ·intro y hg0 _ hK6
  refine .seq fun _ hK7 => ?_
  refine .seq fun _ hK8 => ?_
  refine AK.quiet mixed krf ?_
  refine .mv rfl (.v (.nilCheck rfl) (.v (.fieldAddr fd75_0 rfl) (.v (.fieldAddr fd29_8 rfl) (.v (.loadBox on3 rfl (BoxS.big 1 9 rfl rfl) rfl) (.v (.fieldAddr fd29_8 rfl) (.v (.loadBox on3 rfl bsp rfl) (.v (.lss rfl rfl) ?_)))))))
  refine QK.nil (QK.fin ?_)
  refine AK.then_ (hK8 _ ?_)
  refine AK.condD rfl (fun hc1 => ?_) (fun hc1 => ?_)
  ·have hF := hg0.2
   have hi : y.1 < q.done := by
    rcases Nat.lt_or_ge y.1 q.done with h | h
    ·exact h
    ·have e : y.1 = q.done := by omega
     rw [e, hW.is] at hc1; omega
   obtain ⟨hnf, hdn⟩ := hW.part hi
   have hwy := hW.mid y.1
   have hlt := hwy.lt hnf
   refine .skip ?_
   refine AK.then_ (hK7 _ ?_)
   refine .block ?_
   refine .sr fun _ hK9 => ?_
   refine .mv rfl ?_
   refine AK.call co36 rfl (fun w hw => s_efin w rb mb y.2 (runK (begN q.gens q.mon) y.1) (RnR.big (TR := 75) (TRI := 26) (TI := 3) (TRU := 39) (TS := 9) 1 hw hF rfl)) trivial rfl ?_
   rintro r o ⟨rfl, rfl⟩
   refine .mv rfl ?_
   refine AK.knownF (g := 26) rfl (decide_eq_false hnf) (fun hg_5_2 => ?_)
   refine AK.val _ (Yl.move rfl) ⟨_, rfl, gB hg_5_2⟩ rfl ?_
   refine AK.callN 1 rfl co37 rfl (fun w Fs hw hh hfr hal => s_eproc w (Fs 1) rb mb y.2 (runK (begN q.gens q.mon) y.1) hF _ hwy.ok hlt hwy.bnd (hh.at_ 1 _ rfl)) ⟨_, rfl, gB hg_5_2⟩ rfl ?_
   rintro r A o ⟨rfl, rfl, m2, hF2, rfl⟩
   refine AK.val _ (Yl.neq rfl rfl) ⟨_, rfl, gB hg_5_2⟩ rfl ?_
   refine .v (.pickF rfl (hg_5_2) rfl) (.nt hK9 ?_)
   refine AK.cond_f rfl (by first | rfl | decide) ?_
   refine .skip (.block_normal ?_)
   refine AK.then_ (hK6 _ _ ((y.1 + 1, m2)) ⟨by dsimp only; omega, by dsimp only; rw [runK_next hnf]; exact hF2⟩ (by dsimp only; omega) (slr) (fun w hw => by dsimp only; rw [runK_next hnf]; exact hw.pick [0, 1] (by decide) rfl rfl))
  ·have e : y.1 = q.done := by
    rcases Nat.lt_or_ge y.1 q.done with h | h
    ·have := (hW.part h).2; omega
    ·omega
   have hq : (runK (begN q.gens q.mon) y.1) = q := by rw [e]; exact hW.is
   have hF : EnF y.2 q := by have h := hg0.2; rw [hq] at h; exact h
   refine AK.own' [box bx1 29 9 [.int .i64 (q.pts : Int), .bool q.mon, vG, vE, vP, vL, vR, vU, .int .i64 (q.done : Int)], bigA (enO 75 26 3 39 9 rb mb y.2 q)] (fun w hw => by rw [hq] at hw; exact hw) ?_
   refine .exit (.then_exit (.then_exit (.block_exit ?_)))
   refine AK.then_ (hK5 _ ?_)
   refine .sr fun _ hK10 => ?_
   refine .mv rfl (.mv rfl (.v (.loadBoxG ag29 rfl bsp rfl rfl) ?_))
   refine AK.call co74 rfl (fun w hw => s_is w rb mb y.2 q (RnR.big (TR := 75) (TRI := 26) (TI := 3) (TRU := 39) (TS := 9) 1 hw hF rfl) _ (RdEn.at hv0 hw)) trivial rfl ?_
   rintro r o ⟨rfl, rfl⟩
   refine .as rfl (.as rfl (.nt hK10 (.ret ?_)))
   refine AK.ret2 rfl rfl rfl (fun w hw => ⟨_, _, ?_, rfl, Ret.of (hw.pick [1] (by decide) rfl rfl)⟩)
   exact ⟨rb, mb, y.2, rfl, hF, rfl⟩

set_option maxHeartbeats 800000 in
theorem s_eword (w : World) (v : Value) (q : Rn) (hv : RdEn (fun _ => False) w v q) (hW : Go.Sx.Way q) (i : Nat) (hi : i < q.elems.length) : CallS Tryz.prog 24 [v, .int .i64 (i : Int)] w (fun r o => r = sv (q.words.getD i []) ∧ o = []) := by
 have hv0 := hv
 obtain ⟨vG, vE, vP, vL, vR, vU, rfl, h1, h2, h3, h4, h5, h6⟩ := hv
 have hwl := hW.ok.wl
 have hle := hW.ok.le
 refine spec_of Tryz.func24 rfl (leb rfl) ?_
 refine .sr fun _ hK1 => ?_
 refine AK.box_ (E := 29) (cs := [.int .i64 (q.pts : Int), .bool q.mon, vG, vE, vP, vL, vR, vU, .int .i64 (q.done : Int)]) rfl rfl rfl trivial rfl (fun bx2 => ?_)
 refine .as rfl (.nt hK1 ?_)
 refine .sr fun _ hK2 => ?_
 refine .v (.loadBoxG ag29 rfl bsp rfl rfl) ?_
 refine AK.call co35 rfl (fun w hw => s_replay w _ q (RdEn.at hv0 hw) hW) trivial rfl ?_
 rintro r o ⟨rb, mb, m, rfl, hF, rfl⟩
 refine .mv rfl (.v (.extract rfl rfl) (.v (.extract rfl rfl) (.as rfl (.as rfl (.nt hK2 ?_)))))
 refine .seq fun _ hK3 => ?_
 refine .sr fun _ hK4 => ?_
 refine .mv rfl (.v (.not rfl) (.mv rfl ?_))
 refine AK.knownF (g := 14) rfl (rfl) (fun hg_2_2 => ?_)
 refine AK.val _ (Yl.move rfl) ⟨_, rfl, gB hg_2_2⟩ rfl ?_
 refine AK.val _ (Yl.lss rfl rfl) ⟨_, rfl, gB hg_2_2⟩ rfl ?_
 refine .v (.pickF rfl (hg_2_2) rfl) (.mv rfl ?_)
 refine AK.knownF (g := 18) rfl (by first | rfl | exact decide_eq_false (by omega)) (fun hg_2_6 => ?_)
 refine AK.val _ (Yl.move rfl) ⟨_, rfl, gB hg_2_6⟩ rfl ?_
 refine AK.val _ (Yl.move rfl) ⟨_, rfl, gB hg_2_6⟩ rfl ?_
 refine AK.val _ (Yl.nilCheck rfl) ⟨_, rfl, gB hg_2_6⟩ rfl ?_
 refine AK.val _ (Yl.fieldAddr fd75_0 rfl) ⟨_, rfl, gB hg_2_6⟩ rfl ?_
 refine AK.val _ (Yl.fieldAddr fd29_3 rfl) ⟨_, rfl, gB hg_2_6⟩ rfl ?_
 have hel := hF.el
 refine AK.val _ (Yl.loadBox on26 rfl (BoxS.big 1 9 rfl rfl) rfl) ⟨_, rfl, gB hg_2_6⟩ rfl ?_
 refine AK.val _ (Yl.lenR sl22 rfl (RdS.big 1 2 rfl rfl)) ⟨_, rfl, gB hg_2_6⟩ rfl ?_
 refine AK.val _ (Yl.geq rfl rfl) ⟨_, rfl, gB hg_2_6⟩ rfl ?_
 refine .v (.pickF rfl (hg_2_6) rfl) (.nt hK4 ?_)
 refine AK.cond_f rfl (by first | rfl | exact decide_eq_false (by omega)) ?_
 refine .skip ?_
 refine AK.then_ (hK3 _ ?_)
 refine .sr fun _ hK5 => ?_
 refine .mv rfl (.v (.nilCheck rfl) (.v (.fieldAddr fd75_2 rfl) (.v (.loadBox on44 rfl (BoxS.big 1 9 rfl rfl) rfl) (.mv rfl (.v (.iN sl44 rfl rfl (hr := RdS.big 1 11 rfl rfl)) ?_)))))
 refine .v (.loadS on9 rfl (RdS.big 1 11 rfl rfl) (by omega)) ?_
 refine .as rfl (.nt hK5 (.ret ?_))
 refine AK.ret1 rfl rfl (fun w hw => ⟨_, _, ?_, rfl, Ret.of (hw.pick [] (by decide) rfl rfl)⟩)
 exact ⟨rfl, rfl⟩

set_option maxHeartbeats 1600000 in
theorem s_ebuild (w : World) (v : Value) (G : List (List Int)) (h : RdLL (fun _ => False) (Value.int .i64) w v G) (n : Nat) (hG : VG G n) (hn : (G.getD 0 []).length = n) (mon : Bool) (q2 : Rn) (hq2 : runK (begN G mon) 257 = q2) : CallS Tryz.prog 11 [v, .bool mon] w (fun r o => ∃ m, r = .tuple #[.agg (enC m q2).toArray, .int .i64 0] ∧ EnF m q2 ∧ o = [bigA (enS 26 3 39 m q2)]) := by
 subst hq2
 have hb0 := begN_ok hG mon hn
 have hbI : RnI (begN G mon) (begN G mon).gens.length G.length := by rw [hb0.2]; exact hb0.1
 refine spec_of Tryz.func11 rfl (leb rfl) ?_
 refine .sr fun _ hK1 => ?_
 refine AK.alloc el29 rfl rfl trivial rfl (fun bx4 => ?_)
 refine .as rfl (.nt hK1 ?_)
 refine .sr fun _ hK2 => ?_
 refine .mv rfl (.mv rfl ?_)
 refine AK.call co34 rfl (fun w hw => s_ebegin w v G (h.at hw) n hG hn mon) trivial rfl ?_
 rintro r o ⟨rb, mb, m, rfl, hF0, rfl⟩
 refine .mv rfl (.v (.extract rfl rfl) (.v (.extract rfl rfl) (.as rfl (.as rfl (.nt hK2 ?_)))))
 refine .seq fun _ hK3 => ?_
 refine .sr fun _ hK4 => ?_
 refine .mv rfl (.v (.neq rfl rfl) (.nt hK4 ?_))
 refine AK.cond_f rfl (rfl) ?_
 refine .skip ?_
 refine AK.then_ (hK3 _ ?_)
 refine .seq fun _ hK5 => ?_
 refine .block ?_
 refine AK.loopK (X := Nat × EnM) [(4, _), (6, _)] (fun y => []) (fun y => [box bx4 29 9 [.int .i64 0, .bool false, .slice none 0 0, .slice none 0 0, .slice none 0 0, .slice none 0 0, .slice none 0 0, .slice none 0 0, .int .i64 0], bigA (enO 75 26 3 39 9 rb mb y.2 (runK (begN G mon) y.1))]) (fun y => y.1 ≤ 257 ∧ EnF y.2 (runK (begN G mon) y.1)) (fun y => 257 - y.1) ((0, m)) slr ?_ ?_ ?_ ?_
 ·exact ⟨Nat.zero_le _, hF0⟩
 ·exact slr
 ·exact fun w hw => hw
 ·intro y hg0 _ hK6
  refine .seq fun _ hK7 => ?_
  refine .sr fun _ hK8 => ?_
  refine .mv rfl ?_
  have hF := hg0.2
  have hwy := Go.Sx.Way.run hG mon hn y.1
  refine AK.call co36 rfl (fun w hw => s_efin w rb mb y.2 (runK (begN G mon) y.1) (RnR.big (TR := 75) (TRI := 26) (TI := 3) (TRU := 39) (TS := 9) 1 hw hF rfl)) trivial rfl ?_
  rintro r o ⟨rfl, rfl⟩
  refine .v (.not rfl) (.nt hK8 ?_)
  refine AK.condB rfl (fun hc1 => ?_) (fun hc1 => ?_)
  ·have hnf : ¬ finR (runK (begN G mon) y.1) := by simpa [finR] using hc1
   have hlt := hwy.lt hnf
   have hy : y.1 < 257 := by
    rcases Nat.lt_or_ge y.1 257 with h | h
    ·exact h
    ·exact absurd (runK_ends hbI h) hnf
   refine .skip ?_
   refine AK.then_ (hK7 _ ?_)
   refine .block ?_
   refine .sr fun _ hK9 => ?_
   refine .mv rfl ?_
   refine AK.callN 1 rfl co37 rfl (fun w Fs hw hh hfr hal => s_eproc w (Fs 1) rb mb y.2 (runK (begN G mon) y.1) hF _ hwy.ok hlt hwy.bnd (hh.at_ 1 _ rfl)) trivial rfl ?_
   rintro r A o ⟨rfl, rfl, m2, hF2, rfl⟩
   refine .as rfl (.nt hK9 ?_)
   refine .sr fun _ hK10 => ?_
   refine .mv rfl (.v (.neq rfl rfl) (.nt hK10 ?_))
   refine AK.cond_f rfl (rfl) ?_
   refine .skip (.block_normal ?_)
   refine AK.then_ (hK6 _ _ ((y.1 + 1, m2)) ⟨by dsimp only; omega, by dsimp only; rw [runK_next hnf]; exact hF2⟩ (by dsimp only; omega) (slr) (fun w hw => by dsimp only; rw [runK_next hnf]; exact hw.pick [0, 1] (by decide) rfl rfl))
  ·have hfn : finR (runK (begN G mon) y.1) := by simpa [finR] using hc1
   have hq : (runK (begN G mon) y.1) = (runK (begN G mon) 257) := (runK_fin_le hfn hg0.1).symm
   have hF : EnF y.2 (runK (begN G mon) 257) := by have h := hg0.2; rw [hq] at h; exact h
   refine AK.own' [box bx4 29 9 [.int .i64 0, .bool false, .slice none 0 0, .slice none 0 0, .slice none 0 0, .slice none 0 0, .slice none 0 0, .slice none 0 0, .int .i64 0], bigA (enO 75 26 3 39 9 rb mb y.2 (runK (begN G mon) 257))] (fun w hw => by rw [hq] at hw; exact hw) ?_
   refine .exit (.then_exit (.then_exit (.block_exit ?_)))
   refine AK.then_ (hK5 _ ?_)
   refine .sr fun _ hK11 => ?_
   refine .mv rfl (.v (.nilCheck rfl) (.v (.fieldAddr fd75_0 rfl) ?_))
   refine AK.val (.agg (enC y.2 (runK (begN G mon) 257)).toArray) (Yl.loadBoxG (cs := enB mb y.2 (runK (begN G mon) 257)) (us := enC y.2 (runK (begN G mon) 257)) ag29 rfl (BoxS.big 1 9 rfl rfl) rfl rfl) trivial rfl ?_
   refine AK.storeBox 0 (us := (enC y.2 (runK (begN G mon) 257))) (cs' := (enC y.2 (runK (begN G mon) 257))) rfl sz29 rfl rfl rfl rfl (enC_one hF) (leb rfl) rfl trivial ?_
   refine .as rfl (.nt hK11 (.ret ?_))
   refine AK.own' [bigA (enS 26 3 39 y.2 (runK (begN G mon) 257)), box bx4 29 9 (enC y.2 (runK (begN G mon) 257))] (fun w hw => hw.savedB (TR := 75) (TS := 9) (rb := rb) (mb := mb) 1 0 (by decide) rfl rfl) ?_
   refine AK.retG [.cell 4 29, .tmp 5] rfl (.cons (.cell ag29 rfl bsp rfl rfl) (.cons (.tmp rfl) (.nil))) (fun w hw => ⟨_, _, ?_, rfl, Ret.of (hw.pick [0] (by decide) rfl rfl)⟩)
   exact ⟨y.2, rfl, hF, rfl⟩

end Go.Proofs.YtdnhiinakhmhgaaGreatDoor
