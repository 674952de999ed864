import Derived.Test.YtaeojcaidcjnaaaXWc
import Derived.Test.YtaeojcaidcjnaaaXEf
import Derived.Test.YtaeojcaidcjnaaaXRR
set_option linter.unusedVariables false
set_option linter.unusedSimpArgs false
namespace Go.Proofs.Ytaeojcaidcjnaaa
open Go.Sx Go.RowKit
set_option maxHeartbeats 4000000 in
set_option maxRecDepth 100000 in
theorem s_refirred (w : World) (v : Value) (rs : List Rul) (h : RdR (fun _ => False) w v rs) (L : Int) (hV : VR L rs) (htot : tot (lfs rs) rs.length ≤ 64 ∨ 511 < tot (lfs rs) rs.length) : CallS Try.prog 25 [v, .int .i64 L] w (fun r o => ∃ (d : Dfa) (e : Int) (vF vN : Value) (ws : List Value), IrrP L rs d e ∧ r = .tuple #[.agg #[.int .i64 d.L, .int .i64 d.s, vF, vN], .int .i64 e] ∧ ws.length = d.nx.length ∧ IsSl vF ∧ IsSl vN ∧ o = dfaO 4 3 74 vF vN ws d) := by
 have h0 := h
 have hb := h.len
 have sv0 := Rd.sl h
 unfold RdR at h
 have hE := errR_iff.2 hV
 have hLL := hV.l
 have hrn := hV.n
 have hal := al_lfs hV
 have htb := tot_le hal rs.length (by rw [lfs_len]; exact Nat.le_refl _)
 have hll : ∀ k, k < rs.length → (rs.getD k ([], [])).1.length ≤ 2048 ∧ (rs.getD k ([], [])).2.length ≤ 2048 := fun k hk => by have h := hV.v _ (getD_mem (d := ([], [])) hk); exact ⟨(validW_al h.1).1, (validW_al h.2.1).1⟩
 refine spec_of Try.func25 rfl (Nat.le_of_ble_eq_true rfl) ?_
 refine .sr fun _ hK1 => ?_
 refine AK.alloc el36 rfl rfl trivial rfl (fun bx4 => ?_)
 refine .as rfl (.nt hK1 ?_)
 refine .sr fun _ hK2 => ?_
 refine .as rfl (.nt hK2 ?_)
 refine .seq fun _ hK3 => ?_
 refine .sr fun _ hK4 => ?_
 refine .mv rfl ?_
 refine .v (.lenR sl22 rfl rdp) ?_
 refine .mv rfl (.nt hK4 (.block ?_))
 refine AK.loopK (X := Nat) [(0, _), (1, _), (4, _), (29, _), (30, _)] (fun k => [(6, .int .i64 ((tot (lfs rs) k : Nat) : Int)), (31, .int .i64 (k : Int))]) (fun k => [box bx4 36 4 [.int .i64 0, .int .i64 0, .slice none 0 0, .slice none 0 0]]) (fun k => k ≤ rs.length) (fun k => rs.length - k) (0) slr ?_ ?_ ?_ ?_
 ·exact Nat.zero_le _
 ·exact slr
 ·exact fun w hw => hw
 ·intro k hg0 _ hK5
  refine .sr fun _ hK6 => ?_
  refine .v (.lss rfl rfl) ?_
  refine .nt hK6 ?_
  refine .seq fun _ hK7 => ?_
  refine AK.condD rfl (fun hc0 => ?_) (fun hc0 => ?_)
  ·have hts : tot (lfs rs) (k + 1) = tot (lfs rs) k + (rs.getD k ([], [])).1.length := (by show tot (lfs rs) k + _ = _; rw [lfs_get rs (by omega)])
   have htm := tot_mono (lfs rs) (k + 1) (rs.length - (k + 1))
   rw [show k + 1 + (rs.length - (k + 1)) = rs.length by omega] at htm
   refine .skip ?_
   refine AK.then_ (hK7 _ ?_)
   refine .seq fun _ hK8 => ?_
   refine .block ?_
   refine .sr fun _ hK9 => ?_
   first | refine .v (.iN sl22 rfl rfl) ?_ | refine .v (.iK sl22 rfl rfl) ?_
   refine .v (.loadRu ag41 rfl rdp (by omega)) ?_
   refine AK.alloc el41 rfl rfl trivial rfl (fun bx8 => ?_)
   refine AK.storeBox 1 (us := rcs (rs.getD k ([], []))) (cs' := rcs (rs.getD k ([], []))) rfl sz41 rfl rfl rfl rfl oneP (Nat.le_of_ble_eq_true rfl) rfl trivial ?_
   refine .nt hK9 ?_
   refine AK.region ?_
   refine .mv rfl ?_
   refine .v (.fieldAddr fd41_0 rfl) ?_
   refine .v (.loadBox on9 rfl bsp rfl) ?_
   refine .v (.lenS un9 rfl) ?_
   refine AK.val (.int .i64 ((tot (lfs rs) (k + 1) : Nat) : Int)) (Yl.valE (Yl.add rfl rfl (by omega)) (congrArg (Value.int .i64) (by rw [hts]; omega))) trivial rfl ?_
   refine .as rfl (.nil (.block_normal ?_))
   refine AK.then_ (hK8 _ ?_)
   refine AK.region ?_
   refine .v (.add rfl rfl (by omega)) ?_
   refine .mv rfl (.nil ?_)
   refine AK.then_ (hK5 _ _ (k + 1) (by omega) (by omega) (slr) (fun w hw => hw.pick [0] (by decide) rfl rfl))
  ·have hk : k = rs.length := (by omega)
   rw [hk]
   refine .exit (.then_exit (.then_exit (.block_exit ?_)))
   refine AK.then_ (hK3 _ ?_)
   refine .seq fun _ hK10 => ?_
   refine .sr fun _ hK11 => ?_
   refine .mv rfl ?_
   refine .v (.gtr rfl rfl) ?_
   refine .nt hK11 ?_
   refine AK.condD rfl (fun hc1 => ?_) (fun hc1 => ?_)
   ·refine .sr fun _ hK12 => ?_
    refine .v (.build (parts := []) (cs := #[.int .i64 0, .int .i64 0, .slice none 0 0, .slice none 0 0]) rfl (by kernel_rfl)) ?_
    refine AK.storeBox 0 (us := [.int .i64 0, .int .i64 0, .slice none 0 0, .slice none 0 0]) (cs' := [.int .i64 0, .int .i64 0, .slice none 0 0, .slice none 0 0]) rfl sz36 rfl rfl rfl rfl oneP (Nat.le_of_ble_eq_true rfl) rfl trivial ?_
    refine .as rfl (.nt hK12 (.ret (.then_ret ?_)))
    refine AK.own' (dfaO 4 3 74 (.slice none 0 0) (.slice none 0 0) [] nilD ++ [box bx4 36 4 [.int .i64 0, .int .i64 0, .slice none 0 0, .slice none 0 0]]) (fun w hw => by have h1 := (((hw.pick [0] (by decide) rfl rfl).ghost 4 1).ghost 74 1).ghostG (f := Value.int .i64) 3; exact h1.pick [1, 2, 3, 0] (by decide) rfl rfl) ?_
    refine AK.retG [.cell 4 36, .tmp 5] rfl (.cons (.cell ag36 rfl bsp rfl rfl) (.cons (.tmp rfl) (.nil))) (fun w hw => ⟨_, _, ?_, rfl, Ret.of (hw.pick [0, 1, 2] (by decide) rfl rfl)⟩)
    exact ⟨nilD, _, _, _, [], .inr (.inl ⟨hE, by omega, rfl, rfl⟩), rfl, rfl, nilSl, nilSl, rfl⟩
   ·have ht40 : tot (lfs rs) rs.length ≤ 64 := (by omega)
    refine .skip ?_
    refine AK.then_ (hK10 _ ?_)
    refine .sr fun _ hK13 => ?_
    refine AK.lit (xs := [.const (sv [])]) sl53 el9 rfl rfl rfl (by intro a ha; simp at ha; subst ha; rfl) (by decide) (by decide) trivial rfl (fun ls => ?_)
    refine AK.shape 1 rfl (fun sls => ?_)
    refine .as rfl (.nt hK13 ?_)
    refine .sr fun _ hK14 => ?_
    refine AK.makeMap trivial rfl (fun mb => ?_)
    refine AK.mapIns 2 (m := ([] : List (Wrd × Int))) (a := ([] : Wrd)) (v := 0) rfl mp76 (keyStr un9) rfl rfl rfl trivial ?_
    refine .mv rfl (.as rfl (.nt hK14 ?_))
    refine .seq fun _ hK15 => ?_
    refine .sr fun _ hK16 => ?_
    refine .mv rfl ?_
    refine .v (.lenR sl22 rfl rdp) ?_
    refine .mv rfl (.nt hK16 (.block ?_))
    refine AK.loopK (X := Nat × Value × List Wrd) [(0, _), (1, _), (4, _), (10, _), (47, _), (48, _)] (fun p => [(9, p.2.1), (49, .int .i64 (p.1 : Int))]) (fun p => [box bx4 36 4 [.int .i64 0, .int .i64 0, .slice none 0 0, .slice none 0 0], row p.2.1 9 1 p.2.2.length (p.2.2.map sv), mapA mb (mkv sv (Value.int .i64) (numM p.2.2))]) (fun p => PfI rs p.1 1 p.2.2 ∧ IsSl p.2.1) (fun p => rs.length - p.1) ((0, ls, [[]])) slr ?_ ?_ ?_ ?_
    ·exact ⟨PfI.init hV, sls⟩
    ·exact slr
    ·exact fun w hw => hw
    ·intro p hg1 _ hK17
     have hpil := hg1.1.il
     refine .sr fun _ hK18 => ?_
     refine .v (.lss rfl rfl) ?_
     refine .nt hK18 ?_
     refine .seq fun _ hK19 => ?_
     refine AK.condD rfl (fun hc2 => ?_) (fun hc2 => ?_)
     ·have hpl := (hll p.1 (by omega)).1
      have hpt := tot_mono (lfs rs) p.1 (rs.length - p.1)
      rw [show p.1 + (rs.length - p.1) = rs.length by omega] at hpt
      refine .skip ?_
      refine AK.then_ (hK19 _ ?_)
      refine .seq fun _ hK20 => ?_
      refine .block ?_
      refine .sr fun _ hK21 => ?_
      first | refine .v (.iN sl22 rfl rfl) ?_ | refine .v (.iK sl22 rfl rfl) ?_
      refine .v (.loadRu ag41 rfl rdp (by omega)) ?_
      refine AK.alloc el41 rfl rfl trivial rfl (fun bx12 => ?_)
      refine AK.storeBox 3 (us := rcs (rs.getD p.1 ([], []))) (cs' := rcs (rs.getD p.1 ([], []))) rfl sz41 rfl rfl rfl rfl oneP (Nat.le_of_ble_eq_true rfl) rfl trivial ?_
      refine .nt hK21 ?_
      refine .sr fun _ hK22 => ?_
      refine .as rfl (.nt hK22 (.block ?_))
      refine AK.loopK (X := Nat × Value × List Wrd) [(0, _), (1, _), (4, _), (10, _), (12, _), (47, _), (48, _), (49, _)] (fun y => [(9, y.2.1), (13, .int .i64 (y.1 : Int))]) (fun y => [box bx4 36 4 [.int .i64 0, .int .i64 0, .slice none 0 0, .slice none 0 0], row y.2.1 9 1 y.2.2.length (y.2.2.map sv), mapA mb (mkv sv (Value.int .i64) (numM y.2.2)), box bx12 41 2 (rcs (rs.getD p.1 ([], [])))]) (fun y => PfI rs p.1 y.1 y.2.2 ∧ IsSl y.2.1) (fun y => (rs.getD p.1 ([], [])).1.length - y.1) ((1, p.2)) slr ?_ ?_ ?_ ?_
      ·exact hg1
      ·exact slr
      ·exact fun w hw => hw
      ·intro y hg2 _ hK23
       refine .seq fun _ hK24 => ?_
       refine .sr fun _ hK25 => ?_
       refine .mv rfl ?_
       refine .v (.fieldAddr fd41_0 rfl) ?_
       refine .v (.loadBox on9 rfl bsp rfl) ?_
       refine .v (.lenS un9 rfl) ?_
       refine .v (.lss rfl rfl) ?_
       refine .nt hK25 ?_
       refine AK.condD rfl (fun hc3 => ?_) (fun hc3 => ?_)
       ·have hyl := hg2.1.len
        refine .skip ?_
        refine AK.then_ (hK24 _ ?_)
        refine .seq fun _ hK26 => ?_
        refine .block ?_
        refine .sr fun _ hK27 => ?_
        refine .mv rfl ?_
        refine .v (.fieldAddr fd41_0 rfl) ?_
        refine .v (.loadBox on9 rfl bsp rfl) ?_
        refine .mv rfl ?_
        refine .v (.valE (Yl.subTo un9 rfl rfl (by omega)) (show _ = sv ((rs.getD p.1 ([], [])).1.take y.1) from congrArg sv (by rw [Int.toNat_natCast]))) ?_
        refine .v (.lookup2I mp76 (keyStr un9) el3 rfl rfl msp) ?_
        refine .mv rfl ?_
        refine .v (.extract rfl rfl) ?_
        refine .v (.extract rfl rfl) ?_
        refine .as rfl (.as rfl (.nt hK27 ?_))
        refine .sr fun _ hK28 => ?_
        refine .mv rfl ?_
        refine .v (.not rfl) ?_
        refine .nt hK28 ?_
        refine AK.condB rfl (fun hc4 => ?_) (fun hc4 => ?_)
        ·have hx : (rs.getD p.1 ([], [])).1.take y.1 ∉ y.2.2 := by
          rw [mget_numM] at hc4; intro h; rw [if_pos h] at hc4; simp at hc4
         refine .sr fun _ hK29 => ?_
         refine .mv rfl ?_
         refine .v (.fieldAddr fd41_0 rfl) ?_
         refine .v (.loadBox on9 rfl bsp rfl) ?_
         refine .mv rfl ?_
         refine .v (.valE (Yl.subTo un9 rfl rfl (by omega)) (show _ = sv ((rs.getD p.1 ([], [])).1.take y.1) from congrArg sv (by rw [Int.toNat_natCast]))) ?_
         refine .mv rfl ?_
         refine .v (.lenR sl53 rfl rdp) ?_
         refine AK.mapSet 2 rfl mp76 (keyStr un9) rfl rfl rfl trivial ?_
         refine .nt hK29 ?_
         refine AK.region ?_
         refine .mv rfl ?_
         refine .v (.fieldAddr fd41_0 rfl) ?_
         refine .v (.loadBox on9 rfl bsp rfl) ?_
         refine .mv rfl ?_
         refine .v (.valE (Yl.subTo un9 rfl rfl (by omega)) (show _ = sv ((rs.getD p.1 ([], [])).1.take y.1) from congrArg sv (by rw [Int.toNat_natCast]))) ?_
         refine AK.append1 1 rfl sl53 el9 rfl (by decide) rfl (by intro k hk; cases hk; rfl) rfl (by intro u hu; replace hu : u ∈ [sv ((rs.getD p.1 ([], [])).1.take y.1)] := hu; rw [List.mem_singleton] at hu; subst hu; rfl) (by omega) (by omega) (by decide) rfl rfl (fun va _ ha => ?_)
         refine .as rfl (.nil (.block_normal ?_))
         refine AK.then_ (hK26 _ ?_)
         refine AK.region ?_
         refine .mv rfl ?_
         refine .v (.add rfl rfl (by omega)) ?_
         refine .as rfl (.nil ?_)
         first | refine AK.then_ (hK23 _ _ ((y.1 + 1, va, y.2.2 ++ [(rs.getD p.1 ([], [])).1.take y.1])) ⟨hg2.1.add (by omega) (by omega) hx, ha⟩ (by dsimp only; omega) (slr) (fun w hw => by dsimp only; rw [← mset_numM hx, List.map_append, List.length_append]; exact hw.pick [0, 1, 2, 3] (by decide) rfl rfl)) | refine AK.then_ (hK23 _ _ ((y.1 + 1, y.2)) ⟨hg2.1.skip (by omega) (by omega) hx, hg2.2⟩ (by dsimp only; omega) (slr) (fun w hw => hw.pick [0, 1, 2, 3] (by decide) rfl rfl))
        ·have hx : (rs.getD p.1 ([], [])).1.take y.1 ∈ y.2.2 := by
          rw [mget_numM] at hc4; by_cases h : (rs.getD p.1 ([], [])).1.take y.1 ∈ y.2.2
          ·exact h
          ·rw [if_neg h] at hc4; simp at hc4
         refine .skip (.block_normal ?_)
         refine AK.then_ (hK26 _ ?_)
         refine AK.region ?_
         refine .mv rfl ?_
         refine .v (.add rfl rfl (by omega)) ?_
         refine .as rfl (.nil ?_)
         first | refine AK.then_ (hK23 _ _ ((y.1 + 1, va, y.2.2 ++ [(rs.getD p.1 ([], [])).1.take y.1])) ⟨hg2.1.add (by omega) (by omega) hx, ha⟩ (by dsimp only; omega) (slr) (fun w hw => by dsimp only; rw [← mset_numM hx, List.map_append, List.length_append]; exact hw.pick [0, 1, 2, 3] (by decide) rfl rfl)) | refine AK.then_ (hK23 _ _ ((y.1 + 1, y.2)) ⟨hg2.1.skip (by omega) (by omega) hx, hg2.2⟩ (by dsimp only; omega) (slr) (fun w hw => hw.pick [0, 1, 2, 3] (by decide) rfl rfl))
       ·refine .exit (.then_exit (.then_exit (.block_exit (.block_normal ?_))))
        refine AK.then_ (hK20 _ ?_)
        refine AK.region ?_
        refine .v (.add rfl rfl (by omega)) ?_
        refine .mv rfl (.nil ?_)
        refine AK.then_ (hK17 _ _ ((p.1 + 1, y.2)) ⟨hg2.1.next hV (by omega) (by omega), hg2.2⟩ (by dsimp only; omega) (slr) (fun w hw => hw.pick [0, 1, 2] (by decide) rfl rfl))
     ·have hP : Pfx rs p.2.2 := hg1.1.done (by omega)
      have hSl := hg1.1.len
      have hpi := hg1.1.il
      have hpt := tot_mono (lfs rs) p.1 (rs.length - p.1)
      rw [show p.1 + (rs.length - p.1) = rs.length by omega] at hpt
      have hS0 : [] ∈ p.2.2 := (hP.mem []).2 (.inl rfl)
      have hvd : VD (refD L rs p.2.2) := refD_vd hP hLL (by omega)
      have hnxl : (refD L rs p.2.2).nx.length = p.2.2.length + 1 := refD_nx
      have hfnl : (refD L rs p.2.2).fin.length = p.2.2.length + 1 := refD_len
      refine .exit (.then_exit (.then_exit (.block_exit ?_)))
      refine AK.then_ (hK15 _ ?_)
      refine .sr fun _ hK30 => ?_
      refine .mv rfl ?_
      refine .v (.lenR sl53 rfl rdp) ?_
      refine .as rfl (.nt hK30 ?_)
      refine .sr fun _ hK31 => ?_
      refine .mv rfl ?_
      refine .v (.build (parts := [(0, .tmp 88)]) (cs := #[.int .i64 L, .int .i64 0, .slice none 0 0, .slice none 0 0]) rfl (by kernel_rfl)) ?_
      refine AK.alloc el36 rfl rfl trivial rfl (fun bx17 => ?_)
      refine AK.storeBox 3 (us := [.int .i64 L, .int .i64 0, .slice none 0 0, .slice none 0 0]) (cs' := [.int .i64 L, .int .i64 0, .slice none 0 0, .slice none 0 0]) rfl sz36 rfl rfl rfl rfl oneP (Nat.le_of_ble_eq_true rfl) rfl trivial ?_
      refine .nt hK31 ?_
      refine .seq fun _ hK32 => ?_
      refine .sr fun _ hK33 => ?_
      refine .mv rfl ?_
      refine .v (.lenR sl53 rfl rdp) ?_
      refine .mv rfl (.nt hK33 (.block ?_))
      refine AK.loopK (X := Nat × Value × Value × List Value) [(0, _), (1, _), (4, _), (10, _), (16, _), (17, _), (90, _), (91, _)] (fun q => [(92, .int .i64 (q.1 : Int))]) (fun q => [box bx4 36 4 [.int .i64 0, .int .i64 0, .slice none 0 0, .slice none 0 0], row p.2.1 9 1 p.2.2.length (p.2.2.map sv), mapA mb (mkv sv (Value.int .i64) (numM p.2.2)), box bx17 36 4 [.int .i64 L, .int .i64 0, q.2.1, q.2.2.1], row q.2.1 4 1 q.1 (((refD L rs p.2.2).fin.take q.1).map Value.bool), row q.2.2.1 74 1 q.1 q.2.2.2, bigA (matG (Value.int .i64) 3 q.2.2.2 ((refD L rs p.2.2).nx.take q.1))]) (fun q => q.1 ≤ p.2.2.length ∧ q.2.2.2.length = q.1 ∧ IsSl q.2.1 ∧ IsSl q.2.2.1) (fun q => p.2.2.length - q.1) ((0, .slice none 0 0, .slice none 0 0, [])) slr ?_ ?_ ?_ ?_
      ·exact ⟨Nat.zero_le _, rfl, nilSl, nilSl⟩
      ·exact slr
      ·exact fun w hw => by have h1 := ((hw.ghost 4 1).ghost 74 1).ghostG (f := Value.int .i64) 3; exact h1
      ·intro q hg3 _ hK34
       have hsF := hg3.2.2.1
       have hsN := hg3.2.2.2
       refine .sr fun _ hK35 => ?_
       refine .v (.lss rfl rfl) ?_
       refine .nt hK35 ?_
       refine .seq fun _ hK36 => ?_
       refine AK.condD rfl (fun hc5 => ?_) (fun hc5 => ?_)
       ·have hqm : (p.2.2.getD q.1 []) ∈ p.2.2 := getD_mem (by omega)
        refine .skip ?_
        refine AK.then_ (hK36 _ ?_)
        refine .seq fun _ hK37 => ?_
        refine .block ?_
        refine .sr fun _ hK38 => ?_
        first | refine .v (.iN sl53 rfl rfl) ?_ | refine .v (.iK sl53 rfl rfl) ?_
        refine .v (.loadS on9 rfl rdp (by omega)) ?_
        refine .as rfl (.nt hK38 ?_)
        refine .sr fun _ hK39 => ?_
        refine .as rfl (.nt hK39 ?_)
        refine .seq fun _ hK40 => ?_
        refine .sr fun _ hK41 => ?_
        refine .as rfl (.nt hK41 (.block ?_))
        refine AK.loopK (X := Nat × Value) [(0, _), (1, _), (4, _), (10, _), (16, _), (17, _), (19, _), (90, _), (91, _), (92, _)] (fun c => [(20, c.2), (21, .int .i64 (c.1 : Int))]) (fun c => [box bx4 36 4 [.int .i64 0, .int .i64 0, .slice none 0 0, .slice none 0 0], row p.2.1 9 1 p.2.2.length (p.2.2.map sv), mapA mb (mkv sv (Value.int .i64) (numM p.2.2)), box bx17 36 4 [.int .i64 L, .int .i64 0, q.2.1, q.2.2.1], row q.2.1 4 1 q.1 (((refD L rs p.2.2).fin.take q.1).map Value.bool), row q.2.2.1 74 1 q.1 q.2.2.2, bigA (matG (Value.int .i64) 3 q.2.2.2 ((refD L rs p.2.2).nx.take q.1)), row c.2 3 1 c.1 (((refR L rs p.2.2 (p.2.2.getD q.1 [])).take c.1).map (Value.int .i64))]) (fun c => c.1 ≤ L.toNat ∧ IsSl c.2) (fun c => L.toNat - c.1) ((0, .slice none 0 0)) slr ?_ ?_ ?_ ?_
        ·exact ⟨Nat.zero_le _, nilSl⟩
        ·exact slr
        ·exact fun w hw => by exact hw.ghost 3 1
        ·intro c hg4 _ hK42
         refine .seq fun _ hK43 => ?_
         refine .sr fun _ hK44 => ?_
         refine .mv rfl (.mv rfl ?_)
         refine .v (.lss rfl rfl) ?_
         refine .nt hK44 ?_
         refine AK.condD rfl (fun hc6 => ?_) (fun hc6 => ?_)
         ·have hWa := (hP.al hV hqm (x := c.1) (by omega)).1
          have hWl := hWa.1
          refine .skip ?_
          refine AK.then_ (hK43 _ ?_)
          refine .seq fun _ hK45 => ?_
          refine .block ?_
          refine .sr fun _ hK46 => ?_
          refine .mv rfl (.mv rfl ?_)
          refine .v (.add rfl rfl (by omega)) ?_
          refine AK.val (byv (ltr c.1)) (Yl.valE (Yl.convI (by kernel_rfl) un5 rfl (wrap_u8 (by omega))) (byv_ltr (by omega))) trivial rfl ?_
          refine AK.lit (xs := [.tmp 104]) sl78 el5 rfl rfl rfl (by intro a ha; simp at ha; subst ha; rfl) (by decide) (by decide) trivial rfl (fun lb => ?_)
          refine .v (.bytesS (l := [ltr c.1]) sl78.1 un5 un9 rfl (RdS.own (n := 1) 8 rfl)) ?_
          refine .v (.concat rfl rfl (by have h := hWl; simp only [List.length_append, List.length_cons, List.length_nil] at h; first | omega | (simp only [List.length_append, List.length_cons, List.length_nil]; omega))) ?_
          refine .as rfl (.nt hK46 ?_)
          refine .sr fun _ hK47 => ?_
          refine .mv rfl (.as rfl (.nt hK47 ?_))
          refine .seq fun _ hK48 => ?_
          refine .sr fun _ hK49 => ?_
          refine .mv rfl (.mv rfl ?_)
          refine AK.call co20 rfl (fun w hw => s_refreduced w v rs (h0.at hw) L hV ((p.2.2.getD q.1 []) ++ [ltr c.1]) (hP.al hV hqm (by omega)).1) trivial rfl ?_
          rintro r o ⟨rfl, rfl⟩
          refine .nt hK49 ?_
          refine AK.cond rfl (fun hc7 => ?_) (fun hc7 => ?_)
          ·try simp only [bs] at hc7
           refine .sr fun _ hK50 => ?_
           refine .as rfl (.nt hK50 (.block ?_))
           refine AK.loopK (X := Nat × Int) [(0, _), (1, _), (4, _), (10, _), (16, _), (17, _), (19, _), (20, _), (21, _), (22, _), (90, _), (91, _), (92, _)] (fun e => [(23, .int .i64 e.2), (24, .int .i64 (e.1 : Int))]) (fun e => [box bx4 36 4 [.int .i64 0, .int .i64 0, .slice none 0 0, .slice none 0 0], row p.2.1 9 1 p.2.2.length (p.2.2.map sv), mapA mb (mkv sv (Value.int .i64) (numM p.2.2)), box bx17 36 4 [.int .i64 L, .int .i64 0, q.2.1, q.2.2.1], row q.2.1 4 1 q.1 (((refD L rs p.2.2).fin.take q.1).map Value.bool), row q.2.2.1 74 1 q.1 q.2.2.2, bigA (matG (Value.int .i64) 3 q.2.2.2 ((refD L rs p.2.2).nx.take q.1)), row c.2 3 1 c.1 (((refR L rs p.2.2 (p.2.2.getD q.1 [])).take c.1).map (Value.int .i64))]) (fun e => LsI p.2.2 ((p.2.2.getD q.1 []) ++ [ltr c.1]) e.1 e.2 ∧ e.1 ≤ ((p.2.2.getD q.1 []) ++ [ltr c.1]).length + 1) (fun e => ((p.2.2.getD q.1 []) ++ [ltr c.1]).length + 1 - e.1) ((0, (p.2.2.length : Int))) slr ?_ ?_ ?_ ?_
           ·exact ⟨LsI.init _ _, Nat.zero_le _⟩
           ·exact slr
           ·exact fun w hw => hw.pick [0, 1, 2, 3, 4, 5, 6, 7] (by decide) rfl rfl
           ·intro e hg5 _ hK51
            refine .seq fun _ hK52 => ?_
            refine .sr fun _ hK53 => ?_
            refine .mv rfl (.mv rfl ?_)
            refine .v (.lenS un9 rfl) ?_
            refine .v (.leq rfl rfl) ?_
            refine .mv rfl ?_
            refine AK.splitB (g := 116) rfl (fun hg_35_4 => ?_) (fun hg_35_4 => ?_)
            ·have hg_35_4' := hg_35_4
             try simp only [bs] at hg_35_4'
             refine AK.val _ (Yl.move rfl) ⟨_, rfl, congrArg (fun b => some (Value.bool b)) hg_35_4⟩ rfl ?_
             refine AK.val _ (Yl.move rfl) ⟨_, rfl, congrArg (fun b => some (Value.bool b)) hg_35_4⟩ rfl ?_
             refine AK.val _ (Yl.eql rfl rfl) ⟨_, rfl, congrArg (fun b => some (Value.bool b)) hg_35_4⟩ rfl ?_
             refine .v (.pickT rfl (hg_35_4) rfl) ?_
             refine .nt hK53 ?_
             refine AK.condD rfl (fun hc8 => ?_) (fun hc8 => ?_)
             ·refine .skip ?_
              refine AK.then_ (hK52 _ ?_)
              refine .seq fun _ hK54 => ?_
              refine .block ?_
              refine .sr fun _ hK55 => ?_
              refine .mv rfl (.mv rfl (.mv rfl ?_))
              refine .v (.valE (Yl.subFr un9 rfl rfl (by omega)) (show _ = sv (((p.2.2.getD q.1 []) ++ [ltr c.1]).drop e.1) from congrArg sv (by rw [Int.toNat_natCast]))) ?_
              refine .v (.lookup2I mp76 (keyStr un9) el3 rfl rfl msp) ?_
              refine .mv rfl ?_
              refine .v (.extract rfl rfl) ?_
              refine .v (.extract rfl rfl) ?_
              refine .as rfl (.as rfl (.nt hK55 ?_))
              refine .sr fun _ hK56 => ?_
              refine .mv rfl (.nt hK56 ?_)
              refine AK.cond rfl (fun hc9 => ?_) (fun hc9 => ?_)
              ·try simp only [bs] at hc9
               have hdm : ((p.2.2.getD q.1 []) ++ [ltr c.1]).drop e.1 ∈ p.2.2 := by
                rw [mget_numM] at hc9; by_cases h : ((p.2.2.getD q.1 []) ++ [ltr c.1]).drop e.1 ∈ p.2.2
                ·exact h
                ·rw [if_neg h] at hc9; simp at hc9
               have hat : (mget (numM p.2.2) (((p.2.2.getD q.1 []) ++ [ltr c.1]).drop e.1)).getD 0 = ((posN p.2.2 (((p.2.2.getD q.1 []) ++ [ltr c.1]).drop e.1) : Nat) : Int) := (by rw [mget_numM, if_pos hdm]; rfl)
               refine AK.region ?_
               refine .mv rfl (.as rfl (.nil (.block_normal ?_)))
               refine AK.then_ (hK54 _ ?_)
               refine AK.region ?_
               refine .mv rfl ?_
               refine .v (.add rfl rfl (by omega)) ?_
               refine .as rfl (.nil ?_)
               first | refine AK.then_ (hK51 _ _ ((e.1 + 1, ((posN p.2.2 (((p.2.2.getD q.1 []) ++ [ltr c.1]).drop e.1) : Nat) : Int))) ⟨LsI.hit hS0 hg5.1 (by omega) hdm, by dsimp only; omega⟩ (by dsimp only; omega) (.cons (slI rfl hat) (slr)) (fun w hw => hw)) | refine AK.then_ (hK51 _ _ ((e.1 + 1, e.2)) ⟨LsI.miss hS0 hg5.1 (by omega) hdm, by dsimp only; omega⟩ (by dsimp only; omega) (slr) (fun w hw => hw))
              ·try simp only [bs] at hc9
               have hdm : ((p.2.2.getD q.1 []) ++ [ltr c.1]).drop e.1 ∉ p.2.2 := by
                rw [mget_numM] at hc9; intro h; rw [if_pos h] at hc9; simp at hc9
               refine .skip (.block_normal ?_)
               refine AK.then_ (hK54 _ ?_)
               refine AK.region ?_
               refine .mv rfl ?_
               refine .v (.add rfl rfl (by omega)) ?_
               refine .as rfl (.nil ?_)
               first | refine AK.then_ (hK51 _ _ ((e.1 + 1, ((posN p.2.2 (((p.2.2.getD q.1 []) ++ [ltr c.1]).drop e.1) : Nat) : Int))) ⟨LsI.hit hS0 hg5.1 (by omega) hdm, by dsimp only; omega⟩ (by dsimp only; omega) (.cons (slI rfl hat) (slr)) (fun w hw => hw)) | refine AK.then_ (hK51 _ _ ((e.1 + 1, e.2)) ⟨LsI.miss hS0 hg5.1 (by omega) hdm, by dsimp only; omega⟩ (by dsimp only; omega) (slr) (fun w hw => hw))
             ·refine .exit (.then_exit (.then_exit (.block_exit ?_)))
              refine AK.then_ (hK48 _ ?_)
              refine AK.region ?_
              refine .mv rfl (.mv rfl ?_)
              refine AK.append1 7 rfl sl74 el3 rfl (by decide) rfl (by intro k hk; cases hk; rfl) rfl (by intro u hu; simp [Value.cells] at hu; subst hu; rfl) (by omega) (by omega) (by decide) rfl rfl (fun vr _ hvr => ?_)
              refine .as rfl (.nil (.block_normal ?_))
              refine AK.then_ (hK45 _ ?_)
              refine AK.region ?_
              refine .mv rfl ?_
              refine .v (.add rfl rfl (by omega)) ?_
              refine .as rfl (.nil ?_)
              first | have hrv := hrv | have hrv : (refR L rs p.2.2 (p.2.2.getD q.1 [])).getD c.1 0 = e.2 := (by rw [refR_get (by omega), if_pos (by simpa using hc7)]; exact (LsI.out hS0 hg5.1 (by omega)).symm)
              refine AK.then_ (hK42 _ _ ((c.1 + 1, vr)) ⟨by dsimp only; omega, hvr⟩ (by dsimp only; omega) (slr) (fun w hw => by dsimp only; rw [take_snocD 0 (refR L rs p.2.2 (p.2.2.getD q.1 [])) c.1 (by rw [refR_len]; omega), List.map_append, hrv]; exact hw.pick [0, 1, 2, 3, 4, 5, 6, 7] (by decide) rfl rfl))
            ·have hg_35_4' := hg_35_4
             try simp only [bs] at hg_35_4'
             refine AK.pass rfl rfl (hg_35_4) rfl ?_
             refine AK.pass rfl rfl (hg_35_4) rfl ?_
             refine AK.pass rfl rfl (hg_35_4) rfl ?_
             refine .v (.pickF rfl (hg_35_4) rfl) ?_
             refine .nt hK53 ?_
             refine AK.cond_f rfl (rfl) ?_
             refine .exit (.then_exit (.then_exit (.block_exit ?_)))
             refine AK.then_ (hK48 _ ?_)
             refine AK.region ?_
             refine .mv rfl (.mv rfl ?_)
             refine AK.append1 7 rfl sl74 el3 rfl (by decide) rfl (by intro k hk; cases hk; rfl) rfl (by intro u hu; simp [Value.cells] at hu; subst hu; rfl) (by omega) (by omega) (by decide) rfl rfl (fun vr _ hvr => ?_)
             refine .as rfl (.nil (.block_normal ?_))
             refine AK.then_ (hK45 _ ?_)
             refine AK.region ?_
             refine .mv rfl ?_
             refine .v (.add rfl rfl (by omega)) ?_
             refine .as rfl (.nil ?_)
             first | have hrv := hrv | have hrv : (refR L rs p.2.2 (p.2.2.getD q.1 [])).getD c.1 0 = e.2 := (by rw [refR_get (by omega), if_pos (by simpa using hc7)]; exact (LsI.out hS0 hg5.1 (by omega)).symm)
             refine AK.then_ (hK42 _ _ ((c.1 + 1, vr)) ⟨by dsimp only; omega, hvr⟩ (by dsimp only; omega) (slr) (fun w hw => by dsimp only; rw [take_snocD 0 (refR L rs p.2.2 (p.2.2.getD q.1 [])) c.1 (by rw [refR_len]; omega), List.map_append, hrv]; exact hw.pick [0, 1, 2, 3, 4, 5, 6, 7] (by decide) rfl rfl))
          ·try simp only [bs] at hc7
           have hrv : (refR L rs p.2.2 (p.2.2.getD q.1 [])).getD c.1 0 = (p.2.2.length : Int) := (by rw [refR_get (by omega), if_neg (fun h => by rw [h] at hc7; simp at hc7)])
           refine .skip ?_
           refine AK.then_ (hK48 _ ?_)
           refine AK.region ?_
           refine .mv rfl (.mv rfl ?_)
           refine AK.append1 7 rfl sl74 el3 rfl (by decide) rfl (by intro k hk; cases hk; rfl) rfl (by intro u hu; simp [Value.cells] at hu; subst hu; rfl) (by omega) (by omega) (by decide) rfl rfl (fun vr _ hvr => ?_)
           refine .as rfl (.nil (.block_normal ?_))
           refine AK.then_ (hK45 _ ?_)
           refine AK.region ?_
           refine .mv rfl ?_
           refine .v (.add rfl rfl (by omega)) ?_
           refine .as rfl (.nil ?_)
           first | have hrv := hrv | have hrv : (refR L rs p.2.2 (p.2.2.getD q.1 [])).getD c.1 0 = e.2 := (by rw [refR_get (by omega), if_pos (by simpa using hc7)]; exact (LsI.out hS0 hg5.1 (by omega)).symm)
           refine AK.then_ (hK42 _ _ ((c.1 + 1, vr)) ⟨by dsimp only; omega, hvr⟩ (by dsimp only; omega) (slr) (fun w hw => by dsimp only; rw [take_snocD 0 (refR L rs p.2.2 (p.2.2.getD q.1 [])) c.1 (by rw [refR_len]; omega), List.map_append, hrv]; exact hw.pick [0, 1, 2, 3, 4, 5, 6, 7] (by decide) rfl rfl))
         ·have hg2c := hg4.2
          refine .exit (.then_exit (.then_exit (.block_exit ?_)))
          refine AK.then_ (hK40 _ ?_)
          refine AK.joinK (X := Value × Value) [(0, _), (1, _), (4, _), (10, _), (16, _), (17, _), (90, _), (91, _), (92, _)] (fun z => []) (fun z => [box bx4 36 4 [.int .i64 0, .int .i64 0, .slice none 0 0, .slice none 0 0], row p.2.1 9 1 p.2.2.length (p.2.2.map sv), mapA mb (mkv sv (Value.int .i64) (numM p.2.2)), box bx17 36 4 [.int .i64 L, .int .i64 0, z.1, z.2], row z.1 4 1 (q.1 + 1) (((refD L rs p.2.2).fin.take q.1).map Value.bool ++ [Value.bool (once rs (p.2.2.getD q.1 [])).isNone].flatMap (·.cells.toList)), row z.2 74 1 (q.1 + 1) (q.2.2.2 ++ [c.2].flatMap (·.cells.toList)), bigA (matG (Value.int .i64) 3 q.2.2.2 ((refD L rs p.2.2).nx.take q.1)), row c.2 3 1 c.1 (((refR L rs p.2.2 (p.2.2.getD q.1 [])).take c.1).map (Value.int .i64))]) (fun z => IsSl z.1 ∧ IsSl z.2) slr (fun _ hJ => ?_) (fun z hg => ?_)
          ·try (conv => enter [2, 2]; dsimp only [List.set_cons_zero, List.set_cons_succ, List.cons_append, List.nil_append])
           refine AK.held 13 mixed ?_
           refine HeldK.first 0 (fuel := 15) (listed' := (lb 16 1)) _ rfl krf krf rfl (Yl.fieldAddr fd36_3 rfl) trivial rfl ?_
           refine HeldK.first 1 (fuel := 14) (listed' := (lb 16 3)) _ rfl krf krf rfl (Yl.loadBox on34 rfl bsp rfl) trivial rfl ?_
           refine HeldK.first 2 (fuel := 13) (listed' := (lb 16 7)) _ rfl krf krf rfl (Yl.move rfl) trivial rfl ?_
           refine HeldK.first 5 (fuel := 12) (listed' := (lb 16 39)) _ rfl krf krf rfl (Yl.fieldAddr fd36_2 rfl) trivial rfl ?_
           refine HeldK.first 6 (fuel := 11) (listed' := (lb 16 103)) _ rfl krf krf rfl (Yl.loadBox on33 rfl bsp rfl) trivial rfl ?_
           refine HeldK.first 7 (fuel := 10) (listed' := (lb 16 231)) _ rfl krf krf rfl (Yl.move rfl) trivial rfl ?_
           refine HeldK.first 8 (fuel := 9) (listed' := (lb 16 487)) _ rfl krf krf rfl (Yl.move rfl) trivial rfl ?_
           refine HeldK.one 3 (fuel := 8) (listed' := (lb 16 495)) krf rfl krf ?_
           refine AK.lit (xs := [.tmp 139]) sl34 el74 rfl rfl rfl (by intro a ha; simp at ha; subst ha; rw [hg2c.cells]; rfl) (by decide) (by decide) trivial rfl (fun t1 => ?_)
           refine .nil ?_
           try (conv => enter [2, 2]; dsimp only [List.set_cons_zero, List.set_cons_succ, List.cons_append, List.nil_append])
           refine HeldK.back Go.Sx.hle ?_
           refine HeldK.one 4 (fuel := 7) (listed' := (lb 16 511)) krf rfl krf ?_
           refine AK.appendH 5 rfl sl34 el74 rfl (by decide) rfl rfl rfl rdp (by rw [show [c.2].flatMap (·.cells.toList) = [c.2] by simp [hg2c.cells]]; exact one'_cons hg2c.one one'_nil) (by omega) (by omega) trivial rfl (fun vn2 hn2 => ?_)
           refine .nil ?_
           try (conv => enter [2, 2]; dsimp only [List.set_cons_zero, List.set_cons_succ, List.cons_append, List.nil_append])
           refine HeldK.back Go.Sx.hle ?_
           refine HeldK.first 12 (fuel := 6) (listed' := (lb 16 4607)) _ rfl krf krf rfl (Yl.fieldAddr fd36_3 rfl) trivial rfl ?_
           refine HeldK.one 9 (fuel := 5) (listed' := (lb 16 5119)) krf rfl krf ?_
           refine AK.call co20 rfl (fun w hw => s_refreduced w v rs (h0.at hw) L hV (p.2.2.getD q.1 []) (hP.al hV hqm (x := 0) (by omega)).2) trivial rfl ?_
           rintro r o ⟨rfl, rfl⟩
           refine .nil ?_
           try (conv => enter [2, 2]; dsimp only [List.set_cons_zero, List.set_cons_succ, List.cons_append, List.nil_append])
           refine HeldK.back Go.Sx.hle ?_
           refine HeldK.one 10 (fuel := 4) (listed' := (lb 16 6143)) krf rfl krf ?_
           refine AK.lit (xs := [.tmp 146]) sl33 el4 rfl rfl rfl (by intro a ha; simp at ha; subst ha; rfl) (by decide) (by decide) trivial rfl (fun t2 => ?_)
           refine .nil ?_
           try (conv => enter [2, 2]; dsimp only [List.set_cons_zero, List.set_cons_succ, List.cons_append, List.nil_append])
           refine HeldK.back Go.Sx.hle ?_
           refine HeldK.one 11 (fuel := 3) (listed' := (lb 16 8191)) krf rfl krf ?_
           refine AK.appendH 4 rfl sl33 el4 rfl (by decide) rfl rfl rfl rdp oneP (by omega) (by omega) trivial rfl (fun vf2 hf2 => ?_)
           refine .nil ?_
           try (conv => enter [2, 2]; dsimp only [List.set_cons_zero, List.set_cons_succ, List.cons_append, List.nil_append])
           refine HeldK.back Go.Sx.hle ?_
           refine HeldK.one 13 (fuel := 2) (listed' := (lb 16 16383)) krf rfl krf ?_
           refine AK.storeBox 3 (us := [vn2]) (cs' := [.int .i64 L, .int .i64 0, q.2.1, vn2]) rfl sz34 rfl rfl (by rw [IsSl.cells (by assumption)]) rfl oneP (Nat.le_of_ble_eq_true rfl) rfl trivial ?_
           refine .nil ?_
           try (conv => enter [2, 2]; dsimp only [List.set_cons_zero, List.set_cons_succ, List.cons_append, List.nil_append])
           refine HeldK.backN 14 krf rfl krf ?_
           refine .v (.fieldAddr fd36_2 rfl) ?_
           refine AK.storeBox 3 (us := [vf2]) (cs' := [.int .i64 L, .int .i64 0, vf2, vn2]) rfl sz33 rfl rfl (by rw [IsSl.cells (by assumption)]) rfl oneP (Nat.le_of_ble_eq_true rfl) rfl trivial ?_
           refine .nil ?_
           refine AK.fromQn ?_
           exact hJ _ _ ((vf2, vn2)) ⟨hf2, hn2⟩ (slr) (fun w hw => by first | exact hw.pickLe [0, 1, 2, 3, 4, 5, 6, 7] (by decide) pkl)
          ·skip
           refine .block_normal ?_
           refine AK.then_ (hK37 _ ?_)
           refine AK.region ?_
           refine .v (.add rfl rfl (by omega)) ?_
           refine .mv rfl (.nil ?_)
           refine AK.then_ (hK34 _ _ ((q.1 + 1, z.1, z.2, q.2.2.2 ++ [c.2])) ⟨by dsimp only; omega, by dsimp only; rw [List.length_append, hg3.2.1]; rfl, hg.1, hg.2⟩ (by dsimp only; omega) (slr) (fun w hw => by
  dsimp only
  have e0 : c.1 = L.toNat := (by omega)
  rw [refD_F (by omega), refD_N (by omega), matG_snoc (by rw [List.length_take, hg3.2.1]; omega), refR_len, List.map_append]
  rw [e0, show (refR L rs p.2.2 (p.2.2.getD q.1 [])).take L.toNat = refR L rs p.2.2 (p.2.2.getD q.1 []) from List.take_of_length_le (by rw [refR_len]; exact Nat.le_refl _)] at hw
  rw [show [c.2].flatMap (·.cells.toList) = [c.2] by simp [hg2c.cells]] at hw
  exact HW.absorb (own := [_, _, _, _, _, _, _]) 6 rfl hw))
       ·have hq : q.1 = p.2.2.length := (by omega)
        rw [hq]
        have hql := hg3.2.1
        rw [hq] at hql
        refine .exit (.then_exit (.then_exit (.block_exit ?_)))
        refine AK.then_ (hK32 _ ?_)
        refine .sr fun _ hK57 => ?_
        refine .as rfl (.nt hK57 ?_)
        refine .seq fun _ hK58 => ?_
        refine .sr fun _ hK59 => ?_
        refine .as rfl (.nt hK59 (.block ?_))
        refine AK.loopK (X := Nat × Value) [(1, _), (4, _), (16, _), (17, _)] (fun g6 => [(27, g6.2), (28, .int .i64 (g6.1 : Int))]) (fun g6 => [box bx4 36 4 [.int .i64 0, .int .i64 0, .slice none 0 0, .slice none 0 0], row p.2.1 9 1 p.2.2.length (p.2.2.map sv), mapA mb (mkv sv (Value.int .i64) (numM p.2.2)), box bx17 36 4 [.int .i64 L, .int .i64 0, q.2.1, q.2.2.1], row q.2.1 4 1 p.2.2.length (((refD L rs p.2.2).fin.take p.2.2.length).map Value.bool), row q.2.2.1 74 1 p.2.2.length q.2.2.2, bigA (matG (Value.int .i64) 3 q.2.2.2 ((refD L rs p.2.2).nx.take p.2.2.length)), row g6.2 3 1 g6.1 ((List.replicate g6.1 (p.2.2.length : Int)).map (Value.int .i64))]) (fun g6 => g6.1 ≤ L.toNat ∧ IsSl g6.2) (fun g6 => L.toNat - g6.1) ((0, .slice none 0 0)) slr ?_ ?_ ?_ ?_
        ·exact ⟨Nat.zero_le _, nilSl⟩
        ·exact slr
        ·exact fun w hw => by exact hw.ghost 3 1
        ·intro g6 hg6 _ hK60
         refine .seq fun _ hK61 => ?_
         refine .sr fun _ hK62 => ?_
         refine .mv rfl (.mv rfl ?_)
         refine .v (.lss rfl rfl) ?_
         refine .nt hK62 ?_
         refine AK.condD rfl (fun hc10 => ?_) (fun hc10 => ?_)
         ·refine .skip ?_
          refine AK.then_ (hK61 _ ?_)
          refine .seq fun _ hK63 => ?_
          refine .block ?_
          refine AK.region ?_
          refine .mv rfl (.mv rfl ?_)
          refine AK.append1 7 rfl sl74 el3 rfl (by decide) rfl (by intro k hk; cases hk; rfl) rfl (by intro u hu; simp [Value.cells] at hu; subst hu; rfl) (by omega) (by omega) (by decide) rfl rfl (fun vr _ hvr => ?_)
          refine .as rfl (.nil (.block_normal ?_))
          refine AK.then_ (hK63 _ ?_)
          refine AK.region ?_
          refine .mv rfl ?_
          refine .v (.add rfl rfl (by omega)) ?_
          refine .as rfl (.nil ?_)
          refine AK.then_ (hK60 _ _ ((g6.1 + 1, vr)) ⟨by dsimp only; omega, hvr⟩ (by dsimp only; omega) (slr) (fun w hw => by dsimp only; rw [List.replicate_succ', List.map_append]; exact hw))
         ·have hg6c := hg6.2
          have hgL : g6.1 = L.toNat := (by omega)
          refine .exit (.then_exit (.then_exit (.block_exit ?_)))
          refine AK.then_ (hK58 _ ?_)
          refine .seq fun _ hK64 => ?_
          refine AK.joinK (X := Value × Value) [(4, _), (17, _)] (fun z => []) (fun z => [box bx4 36 4 [.int .i64 0, .int .i64 0, .slice none 0 0, .slice none 0 0], row p.2.1 9 1 p.2.2.length (p.2.2.map sv), mapA mb (mkv sv (Value.int .i64) (numM p.2.2)), box bx17 36 4 [.int .i64 L, .int .i64 0, z.1, z.2], row z.1 4 1 (p.2.2.length + 1) (((refD L rs p.2.2).fin.take p.2.2.length).map Value.bool ++ [Value.bool false].flatMap (·.cells.toList)), row z.2 74 1 (p.2.2.length + 1) (q.2.2.2 ++ [g6.2].flatMap (·.cells.toList)), bigA (matG (Value.int .i64) 3 q.2.2.2 ((refD L rs p.2.2).nx.take p.2.2.length)), row g6.2 3 1 g6.1 ((List.replicate g6.1 (p.2.2.length : Int)).map (Value.int .i64))]) (fun z => IsSl z.1 ∧ IsSl z.2) slr (fun _ hJ => ?_) (fun z hg => ?_)
          ·try (conv => enter [2, 2]; dsimp only [List.set_cons_zero, List.set_cons_succ, List.cons_append, List.nil_append])
           refine AK.held 10 mixed ?_
           refine HeldK.first 0 (fuel := 12) (listed' := (lb 13 1)) _ rfl krf krf rfl (Yl.fieldAddr fd36_3 rfl) trivial rfl ?_
           refine HeldK.first 1 (fuel := 11) (listed' := (lb 13 3)) _ rfl krf krf rfl (Yl.loadBox on34 rfl bsp rfl) trivial rfl ?_
           refine HeldK.first 2 (fuel := 10) (listed' := (lb 13 7)) _ rfl krf krf rfl (Yl.move rfl) trivial rfl ?_
           refine HeldK.first 5 (fuel := 9) (listed' := (lb 13 39)) _ rfl krf krf rfl (Yl.fieldAddr fd36_2 rfl) trivial rfl ?_
           refine HeldK.first 6 (fuel := 8) (listed' := (lb 13 103)) _ rfl krf krf rfl (Yl.loadBox on33 rfl bsp rfl) trivial rfl ?_
           refine HeldK.two 3 7 (fuel := 7) (listed1 := (lb 13 111)) (listed2 := (lb 13 231)) krf rfl rfl krf krf ?_ ?_
           ·refine AK.lit (xs := [.tmp 163]) sl34 el74 rfl rfl rfl (by intro a ha; simp at ha; subst ha; rw [hg6c.cells]; rfl) (by decide) (by decide) trivial rfl (fun t1 => ?_)
            refine .nil ?_
            try (conv => enter [2, 2]; dsimp only [List.set_cons_zero, List.set_cons_succ, List.cons_append, List.nil_append])
            refine HeldK.back Go.Sx.hle ?_
            refine HeldK.two 4 7 (fuel := 6) (listed1 := (lb 13 127)) (listed2 := (lb 13 239)) krf rfl rfl krf krf ?_ ?_
            ·refine AK.appendH 5 rfl sl34 el74 rfl (by decide) rfl rfl rfl rdp (by rw [show [g6.2].flatMap (·.cells.toList) = [g6.2] by simp [hg6c.cells]]; exact one'_cons hg6c.one one'_nil) (by omega) (by omega) trivial rfl (fun vn2 hn2 => ?_)
             refine .nil ?_
             try (conv => enter [2, 2]; dsimp only [List.set_cons_zero, List.set_cons_succ, List.cons_append, List.nil_append])
             refine HeldK.back Go.Sx.hle ?_
             refine HeldK.first 9 (fuel := 5) (listed' := (lb 13 639)) _ rfl krf krf rfl (Yl.fieldAddr fd36_3 rfl) trivial rfl ?_
             refine HeldK.one 7 (fuel := 4) (listed' := (lb 13 767)) krf rfl krf ?_
             refine AK.lit (xs := [.const (.bool false)]) sl33 el4 rfl rfl rfl (by intro a ha; simp at ha; subst ha; rfl) (by decide) (by decide) trivial rfl (fun t2 => ?_)
             refine .nil ?_
             try (conv => enter [2, 2]; dsimp only [List.set_cons_zero, List.set_cons_succ, List.cons_append, List.nil_append])
             refine HeldK.back Go.Sx.hle ?_
             refine HeldK.one 8 (fuel := 3) (listed' := (lb 13 1023)) krf rfl krf ?_
             refine AK.appendH 4 rfl sl33 el4 rfl (by decide) rfl rfl rfl rdp oneP (by omega) (by omega) trivial rfl (fun vf2 hf2 => ?_)
             refine .nil ?_
             try (conv => enter [2, 2]; dsimp only [List.set_cons_zero, List.set_cons_succ, List.cons_append, List.nil_append])
             refine HeldK.back Go.Sx.hle ?_
             refine HeldK.one 10 (fuel := 2) (listed' := (lb 13 2047)) krf rfl krf ?_
             refine AK.storeBox 3 (us := [vn2]) (cs' := [.int .i64 L, .int .i64 0, q.2.1, vn2]) rfl sz34 rfl rfl (by rw [IsSl.cells (by assumption)]) rfl oneP (Nat.le_of_ble_eq_true rfl) rfl trivial ?_
             refine .nil ?_
             try (conv => enter [2, 2]; dsimp only [List.set_cons_zero, List.set_cons_succ, List.cons_append, List.nil_append])
             refine HeldK.backN 11 krf rfl krf ?_
             refine .v (.fieldAddr fd36_2 rfl) ?_
             refine AK.storeBox 3 (us := [vf2]) (cs' := [.int .i64 L, .int .i64 0, vf2, vn2]) rfl sz33 rfl rfl (by rw [IsSl.cells (by assumption)]) rfl oneP (Nat.le_of_ble_eq_true rfl) rfl trivial ?_
             refine .nil ?_
             refine AK.fromQn ?_
             exact hJ _ _ ((vf2, vn2)) ⟨hf2, hn2⟩ (slr) (fun w hw => by first | exact hw.pickLe [0, 1, 2, 3, 4, 5, 6, 7] (by decide) pkl)
            ·refine AK.lit (xs := [.const (.bool false)]) sl33 el4 rfl rfl rfl (by intro a ha; simp at ha; subst ha; rfl) (by decide) (by decide) trivial rfl (fun t2 => ?_)
             refine .nil ?_
             try (conv => enter [2, 2]; dsimp only [List.set_cons_zero, List.set_cons_succ, List.cons_append, List.nil_append])
             refine HeldK.back Go.Sx.hle ?_
             refine HeldK.one 4 (fuel := 5) (listed' := (lb 13 255)) krf rfl krf ?_
             refine AK.appendH 5 rfl sl34 el74 rfl (by decide) rfl rfl rfl rdp (by rw [show [g6.2].flatMap (·.cells.toList) = [g6.2] by simp [hg6c.cells]]; exact one'_cons hg6c.one one'_nil) (by omega) (by omega) trivial rfl (fun vn2 hn2 => ?_)
             refine .nil ?_
             try (conv => enter [2, 2]; dsimp only [List.set_cons_zero, List.set_cons_succ, List.cons_append, List.nil_append])
             refine HeldK.back Go.Sx.hle ?_
             refine HeldK.first 9 (fuel := 4) (listed' := (lb 13 767)) _ rfl krf krf rfl (Yl.fieldAddr fd36_3 rfl) trivial rfl ?_
             refine HeldK.one 8 (fuel := 3) (listed' := (lb 13 1023)) krf rfl krf ?_
             refine AK.appendH 4 rfl sl33 el4 rfl (by decide) rfl rfl rfl rdp oneP (by omega) (by omega) trivial rfl (fun vf2 hf2 => ?_)
             refine .nil ?_
             try (conv => enter [2, 2]; dsimp only [List.set_cons_zero, List.set_cons_succ, List.cons_append, List.nil_append])
             refine HeldK.back Go.Sx.hle ?_
             refine HeldK.one 10 (fuel := 2) (listed' := (lb 13 2047)) krf rfl krf ?_
             refine AK.storeBox 3 (us := [vn2]) (cs' := [.int .i64 L, .int .i64 0, q.2.1, vn2]) rfl sz34 rfl rfl (by rw [IsSl.cells (by assumption)]) rfl oneP (Nat.le_of_ble_eq_true rfl) rfl trivial ?_
             refine .nil ?_
             try (conv => enter [2, 2]; dsimp only [List.set_cons_zero, List.set_cons_succ, List.cons_append, List.nil_append])
             refine HeldK.backN 11 krf rfl krf ?_
             refine .v (.fieldAddr fd36_2 rfl) ?_
             refine AK.storeBox 3 (us := [vf2]) (cs' := [.int .i64 L, .int .i64 0, vf2, vn2]) rfl sz33 rfl rfl (by rw [IsSl.cells (by assumption)]) rfl oneP (Nat.le_of_ble_eq_true rfl) rfl trivial ?_
             refine .nil ?_
             refine AK.fromQn ?_
             exact hJ _ _ ((vf2, vn2)) ⟨hf2, hn2⟩ (slr) (fun w hw => by first | exact hw.pickLe [0, 1, 2, 3, 4, 5, 6, 7] (by decide) pkl)
           ·refine AK.lit (xs := [.const (.bool false)]) sl33 el4 rfl rfl rfl (by intro a ha; simp at ha; subst ha; rfl) (by decide) (by decide) trivial rfl (fun t2 => ?_)
            refine .nil ?_
            try (conv => enter [2, 2]; dsimp only [List.set_cons_zero, List.set_cons_succ, List.cons_append, List.nil_append])
            refine HeldK.back Go.Sx.hle ?_
            refine HeldK.one 3 (fuel := 6) (listed' := (lb 13 239)) krf rfl krf ?_
            refine AK.lit (xs := [.tmp 163]) sl34 el74 rfl rfl rfl (by intro a ha; simp at ha; subst ha; rw [hg6c.cells]; rfl) (by decide) (by decide) trivial rfl (fun t1 => ?_)
            refine .nil ?_
            try (conv => enter [2, 2]; dsimp only [List.set_cons_zero, List.set_cons_succ, List.cons_append, List.nil_append])
            refine HeldK.back Go.Sx.hle ?_
            refine HeldK.one 4 (fuel := 5) (listed' := (lb 13 255)) krf rfl krf ?_
            refine AK.appendH 5 rfl sl34 el74 rfl (by decide) rfl rfl rfl rdp (by rw [show [g6.2].flatMap (·.cells.toList) = [g6.2] by simp [hg6c.cells]]; exact one'_cons hg6c.one one'_nil) (by omega) (by omega) trivial rfl (fun vn2 hn2 => ?_)
            refine .nil ?_
            try (conv => enter [2, 2]; dsimp only [List.set_cons_zero, List.set_cons_succ, List.cons_append, List.nil_append])
            refine HeldK.back Go.Sx.hle ?_
            refine HeldK.first 9 (fuel := 4) (listed' := (lb 13 767)) _ rfl krf krf rfl (Yl.fieldAddr fd36_3 rfl) trivial rfl ?_
            refine HeldK.one 8 (fuel := 3) (listed' := (lb 13 1023)) krf rfl krf ?_
            refine AK.appendH 4 rfl sl33 el4 rfl (by decide) rfl rfl rfl rdp oneP (by omega) (by omega) trivial rfl (fun vf2 hf2 => ?_)
            refine .nil ?_
            try (conv => enter [2, 2]; dsimp only [List.set_cons_zero, List.set_cons_succ, List.cons_append, List.nil_append])
            refine HeldK.back Go.Sx.hle ?_
            refine HeldK.one 10 (fuel := 2) (listed' := (lb 13 2047)) krf rfl krf ?_
            refine AK.storeBox 3 (us := [vn2]) (cs' := [.int .i64 L, .int .i64 0, q.2.1, vn2]) rfl sz34 rfl rfl (by rw [IsSl.cells (by assumption)]) rfl oneP (Nat.le_of_ble_eq_true rfl) rfl trivial ?_
            refine .nil ?_
            try (conv => enter [2, 2]; dsimp only [List.set_cons_zero, List.set_cons_succ, List.cons_append, List.nil_append])
            refine HeldK.backN 11 krf rfl krf ?_
            refine .v (.fieldAddr fd36_2 rfl) ?_
            refine AK.storeBox 3 (us := [vf2]) (cs' := [.int .i64 L, .int .i64 0, vf2, vn2]) rfl sz33 rfl rfl (by rw [IsSl.cells (by assumption)]) rfl oneP (Nat.le_of_ble_eq_true rfl) rfl trivial ?_
            refine .nil ?_
            refine AK.fromQn ?_
            exact hJ _ _ ((vf2, vn2)) ⟨hf2, hn2⟩ (slr) (fun w hw => by first | exact hw.pickLe [0, 1, 2, 3, 4, 5, 6, 7] (by decide) pkl)
          ·skip
           refine AK.then_ (hK64 _ ?_)
           refine .sr fun _ hK65 => ?_
           refine .v (.loadBoxG ag36 rfl bsp rfl rfl) ?_
           have hwl : (q.2.2.2 ++ [g6.2]).length = (refD L rs p.2.2).nx.length := (by rw [List.length_append, hql, hnxl]; rfl)
           refine AK.own' [box bx4 36 4 [.int .i64 0, .int .i64 0, .slice none 0 0, .slice none 0 0], row p.2.1 9 1 p.2.2.length (p.2.2.map sv), mapA mb (mkv sv (Value.int .i64) (numM p.2.2)), box bx17 36 4 [.int .i64 L, .int .i64 0, z.1, z.2], row z.1 4 1 (refD L rs p.2.2).fin.length ((refD L rs p.2.2).fin.map Value.bool), row z.2 74 1 (refD L rs p.2.2).nx.length (q.2.2.2 ++ [g6.2]), bigA (matG (Value.int .i64) 3 (q.2.2.2 ++ [g6.2]) (refD L rs p.2.2).nx)] (fun w hw => by
             rw [show [g6.2].flatMap (·.cells.toList) = [g6.2] by simp [hg6c.cells]] at hw
             rw [hnxl, hfnl, refD_Ne, matG_snoc (by rw [List.length_take, hql]; omega), refD_Fe, List.map_append, List.length_replicate]
             rw [hgL] at hw
             exact HW.absorb (own := [_, _, _, _, _, _, _]) 6 rfl hw) ?_
           refine AK.call co44 rfl (fun w hw => s_refmin w _ (refD L rs p.2.2) (RdD.own 4 hw hwl rfl rfl rfl) hvd) trivial rfl ?_
           rintro r o ⟨mF, mN, mrs, rfl, hmrs, smF, smN, rfl⟩
           refine AK.storeBox 0 (us := [.int .i64 (minD (refD L rs p.2.2)).L, .int .i64 (minD (refD L rs p.2.2)).s, mF, mN]) (cs' := [.int .i64 (minD (refD L rs p.2.2)).L, .int .i64 (minD (refD L rs p.2.2)).s, mF, mN]) rfl sz36 rfl rfl rfl rfl oneP (Nat.le_of_ble_eq_true rfl) rfl trivial ?_
           refine .as rfl (.nt hK65 (.ret ?_))
           refine AK.retG [.cell 4 36, .tmp 5] rfl (.cons (.cell ag36 rfl bsp rfl rfl) (.cons (.tmp rfl) (.nil))) (fun w hw => ⟨_, _, ?_, rfl, Ret.of (hw.pick [7, 8, 9] (by decide) rfl rfl)⟩)
           exact ⟨minD (refD L rs p.2.2), 0, mF, mN, mrs, .inr (.inr ⟨hE, by omega, rfl, (refD L rs p.2.2), hvd, rfl, rfl, refD_irr hP hV hLL⟩), rfl, hmrs, smF, smN, rfl⟩

end Go.Proofs.Ytaeojcaidcjnaaa
