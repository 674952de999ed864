import Derived.Test.YtdnhiinakhmhgaaGreatDoorXZk
import Derived.Test.YtdnhiinakhmhgaaGreatDoorXZd
import Derived.Test.YtdnhiinakhmhgaaGreatDoorXZe
import Derived.Test.YtdnhiinakhmhgaaGreatDoorXZc
set_option linter.unusedVariables false
set_option linter.unusedSimpArgs false
set_option maxRecDepth 100000
namespace Go.Proofs.YtdnhiinakhmhgaaGreatDoor
open Go.Sx Go.RowKit
set_option maxHeartbeats 1000000 in
theorem s_raut (w : World) (F : Nat → Prop) (B : Bs) (l : List Itm) (hB : BsOk B w F) (rb mb : Nat) (vE vN : Value) (es rs : List Value) (q : Run) (hq : RunF vE vN es rs q l) (hA : (bigA (runO 154 65 26 3 rb mb vE vN es rs q B l)).holds w F) : CallM Tryz.prog 62 [.pointer (some ⟨rb, 0, none⟩)] w F (fun r A o => ∃ vF, r = .agg #[.int .i64 (q.L : Int), .int .i64 0, vF, vN] ∧ IsSl vF ∧ A = bigA (dfaO 4 3 26 vF vN rs (autR q)) ∧ o = []) := by
 have heL := hq.eL
 have hle := hq.le
 have svN := hq.sN
 unfold runO at hA
 refine specM_of' Tryz.func62 rfl (leb rfl) hA ?_
 refine .sr fun _ hK1 => ?_
 refine AK.alloc el43 rfl rfl trivial rfl (fun bx2 => ?_)
 refine .nt hK1 ?_
 refine .seq fun _ hK2 => ?_
 try (conv => enter [2, 2]; simp only [nrm])
 refine AK.heldS _ 12 (fun _ hw => hw.pick [0] (by decide) rfl rfl) mixed ?_
 refine HeldK.firstS (fun _ hw => hw.pick [0] (by decide) rfl rfl) 0 (fuel := 12) (listed' := (lb 13 1)) _ rfl krf krf rfl (Yl.move rfl) trivial rfl ?_
 refine HeldK.firstS (fun _ hw => hw.pick [0] (by decide) rfl rfl) 1 (fuel := 11) (listed' := (lb 13 3)) _ rfl krf krf rfl (Yl.nilCheck rfl) trivial rfl ?_
 refine HeldK.firstS (fun _ hw => hw.pick [0] (by decide) rfl rfl) 2 (fuel := 10) (listed' := (lb 13 7)) _ rfl krf krf rfl (Yl.fieldAddr fd154_0 rfl) trivial rfl ?_
 refine HeldK.firstS (fun _ hw => hw.pick [0] (by decide) rfl rfl) 3 (fuel := 9) (listed' := (lb 13 15)) _ rfl krf krf rfl (Yl.fieldAddr fd152_0 rfl) trivial rfl ?_
 refine HeldK.firstS (fun _ hw => hw.pick [0] (by decide) rfl rfl) 4 (fuel := 8) (listed' := (lb 13 31)) _ rfl krf krf rfl (Yl.loadBox on3 rfl bsp rfl) trivial rfl ?_
 refine HeldK.firstS (fun _ hw => hw.pick [0] (by decide) rfl rfl) 5 (fuel := 7) (listed' := (lb 13 63)) _ rfl krf krf rfl (Yl.move rfl) trivial rfl ?_
 refine HeldK.firstS (fun _ hw => hw.pick [0] (by decide) rfl rfl) 6 (fuel := 6) (listed' := (lb 13 127)) _ rfl krf krf rfl (Yl.nilCheck rfl) trivial rfl ?_
 refine HeldK.firstS (fun _ hw => hw.pick [0] (by decide) rfl rfl) 7 (fuel := 5) (listed' := (lb 13 255)) _ rfl krf krf rfl (Yl.fieldAddr fd154_0 rfl) trivial rfl ?_
 refine HeldK.firstS (fun _ hw => hw.pick [0] (by decide) rfl rfl) 8 (fuel := 4) (listed' := (lb 13 511)) _ rfl krf krf rfl (Yl.fieldAddr fd152_2 rfl) trivial rfl ?_
 refine HeldK.firstS (fun _ hw => hw.pick [0] (by decide) rfl rfl) 9 (fuel := 3) (listed' := (lb 13 1023)) _ rfl krf krf rfl (Yl.loadBox on22 rfl bsp rfl) trivial rfl ?_
 refine HeldK.firstS (fun _ hw => hw.pick [0] (by decide) rfl rfl) 10 (fuel := 2) (listed' := (lb 13 2047)) _ rfl krf krf rfl (Yl.build (parts := [(0, .tmp 10), (3, .tmp 15)]) (cs := #[.int .i64 (q.L : Int), .int .i64 0, .slice none 0 0, vN]) rfl (by obtain ⟨_, _, _, rfl⟩ := svN; kernel_rfl)) trivial rfl ?_
 refine HeldK.one 11 (fuel := 1) (listed' := (lb 13 4095)) krf rfl krf ?_
 refine AK.alloc el43 rfl rfl trivial rfl (fun bx3 => ?_)
 refine .nil ?_
 try (conv => enter [2, 2]; simp only [nrm])
 refine HeldK.backS (fun _ hw => hw.pick [0] (by decide) rfl rfl) ?_
 refine HeldK.one 12 (fuel := 0) (listed' := (lb 13 8191)) krf rfl krf ?_
 refine AK.storeBox 7 (us := [.int .i64 (q.L : Int), .int .i64 0, .slice none 0 0, vN]) (cs' := [.int .i64 (q.L : Int), .int .i64 0, .slice none 0 0, vN]) rfl sz43 rfl rfl rfl rfl oneP (leb rfl) rfl trivial ?_
 refine .nil ?_
 try (conv => enter [2, 2]; simp only [nrm])
 refine HeldK.backN 13 krf rfl krf ?_
 refine .nil ?_
 refine AK.fromQn ?_
 refine AK.then_ (hK2 _ ?_)
 refine .seq fun _ hK3 => ?_
 refine .sr fun _ hK4 => ?_
 refine .mv rfl ?_
 refine .v (.nilCheck rfl) ?_
 refine .v (.fieldAddr fd154_0 rfl) ?_
 refine .v (.fieldAddr fd152_1 rfl) ?_
 refine .v (.loadBox on63 rfl bsp rfl) ?_
 refine .v (.lenR sl63 rfl rdp) ?_
 refine .mv rfl (.nt hK4 (.block ?_))
 refine AK.loopK (X := Nat × Value) [(2, _), (3, _), (21, _), (22, _)] (fun x => [(23, .int .i64 (x.1 : Int))]) (fun x => [box rb 154 5 [.int .i64 (q.L : Int), vE, vN, .int .i64 (q.dn : Int), .map (some mb)], row vE 65 3 q.ex.length (xcs q.ex es), row vN 26 1 q.nx.length rs, bigA (matG (Value.int .i64) 3 rs q.nx), mapA mb (mkv sv (Value.int .i64) q.num), forest B l, box bx2 43 4 [.int .i64 0, .int .i64 0, .slice none 0 0, .slice none 0 0], box bx3 43 4 [.int .i64 (q.L : Int), .int .i64 0, x.2, vN], row x.2 4 1 x.1 (((q.ex.take x.1).map hasU).map Value.bool)]) (fun x => x.1 ≤ q.ex.length ∧ IsSl x.2) (fun x => q.ex.length - x.1) ((0, .slice none 0 0)) slr ?_ ?_ ?_ ?_
 ·exact ⟨Nat.zero_le _, nilSl⟩
 ·exact slr
 ·exact fun w hw => by have h := hw.ghost 4 1; exact h
 ·intro x hg0 _ hK5
  refine .sr fun _ hK6 => ?_
  refine .v (.lss rfl rfl) ?_
  refine .nt hK6 ?_
  refine .seq fun _ hK7 => ?_
  refine AK.condD rfl (fun hc0 => ?_) (fun hc0 => ?_)
  ·have sk := hq.g.s x.1 (by omega)
   have sx := hg0.2
   refine .skip ?_
   refine AK.then_ (hK7 _ ?_)
   refine .seq fun _ hK8 => ?_
   refine .block ?_
   refine .sr fun _ hK9 => ?_
   first | refine .v (.iN sl63 rfl rfl) ?_ | refine .v (.iK sl63 rfl rfl) ?_
   refine .v (.loadE ag65 rfl rdp heL rfl (by omega)) ?_
   refine AK.alloc el65 rfl rfl trivial rfl (fun bx5 => ?_)
   refine AK.storeBox 9 (us := [.int .i64 (q.ex.getD x.1 default).op, .int .i64 (q.ex.getD x.1 default).lt, es.getD x.1 undef]) (cs' := [.int .i64 (q.ex.getD x.1 default).op, .int .i64 (q.ex.getD x.1 default).lt, es.getD x.1 undef]) rfl sz65 rfl rfl rfl rfl oneP (leb rfl) rfl trivial ?_
   refine .nt hK9 ?_
   refine AK.joinK (X := Value) [(2, _), (3, _), (21, _), (22, _), (23, _)] (fun z => []) (fun z => [box rb 154 5 [.int .i64 (q.L : Int), vE, vN, .int .i64 (q.dn : Int), .map (some mb)], row vE 65 3 q.ex.length (xcs q.ex es), row vN 26 1 q.nx.length rs, bigA (matG (Value.int .i64) 3 rs q.nx), mapA mb (mkv sv (Value.int .i64) q.num), forest B l, box bx2 43 4 [.int .i64 0, .int .i64 0, .slice none 0 0, .slice none 0 0], box bx3 43 4 [.int .i64 (q.L : Int), .int .i64 0, z, vN], row z 4 1 (x.1 + 1) (((q.ex.take (x.1 + 1)).map hasU).map Value.bool), box bx5 65 3 [.int .i64 (q.ex.getD x.1 default).op, .int .i64 (q.ex.getD x.1 default).lt, es.getD x.1 undef]]) (fun z => IsSl z) slr (fun _ hJ => ?_) (fun z hg => ?_)
   ·try (conv => enter [2, 2]; simp only [nrm])
    refine AK.heldS _ 7 (fun _ hw => hw.pick [7, 9] (by decide) rfl rfl) mixed ?_
    refine HeldK.firstS (fun _ hw => hw.pick [7, 9] (by decide) rfl rfl) 0 (fuel := 7) (listed' := (lb 8 1)) _ rfl krf krf rfl (Yl.fieldAddr fd43_2 rfl) trivial rfl ?_
    refine HeldK.firstS (fun _ hw => hw.pick [7, 9] (by decide) rfl rfl) 1 (fuel := 6) (listed' := (lb 8 3)) _ rfl krf krf rfl (Yl.loadBox on41 rfl bsp rfl) trivial rfl ?_
    refine HeldK.firstS (fun _ hw => hw.pick [7, 9] (by decide) rfl rfl) 2 (fuel := 5) (listed' := (lb 8 7)) _ rfl krf krf rfl (Yl.loadBoxG ag65 rfl bsp rfl rfl) trivial rfl ?_
    refine HeldK.one 3 (fuel := 4) (listed' := (lb 8 15)) krf rfl krf ?_
    refine AK.call co99 rfl (fun w hw => s_hasu _ w _ (hw.kidR hB 5 rfl (hq.g.d x.1 (by omega)))) trivial rfl ?_
    rintro r o ⟨rfl, rfl⟩
    refine .nil ?_
    try (conv => enter [2, 2]; simp only [nrm])
    refine HeldK.backS (fun _ hw => hw.pick [7, 9] (by decide) rfl rfl) ?_
    refine HeldK.one 4 (fuel := 3) (listed' := (lb 8 31)) krf rfl krf ?_
    refine AK.lit (xs := [.tmp 30]) sl41 el4 rfl rfl rfl (by simp [Value.cells]) (by decide) (by decide) trivial rfl (fun lv => ?_)
    refine .nil ?_
    try (conv => enter [2, 2]; simp only [nrm])
    refine HeldK.backS (fun _ hw => hw.pick [7, 9] (by decide) rfl rfl) ?_
    refine HeldK.one 5 (fuel := 2) (listed' := (lb 8 63)) krf rfl krf ?_
    refine AK.appendS 8 rfl sl41 el4 rfl (by decide) rfl rfl rfl rdp (one'_cons rfl one'_nil) (by omega) (by omega) trivial rfl (fun v2 => ?_)
    refine AK.shape 8 rfl (fun sv2 => ?_)
    refine .nil ?_
    try (conv => enter [2, 2]; simp only [nrm])
    refine HeldK.backS (fun _ hw => hw.pick [7, 9] (by decide) rfl rfl) ?_
    refine HeldK.firstS (fun _ hw => hw.pick [7, 9] (by decide) rfl rfl) 6 (fuel := 1) (listed' := (lb 8 127)) _ rfl krf krf rfl (Yl.fieldAddr fd43_2 rfl) trivial rfl ?_
    refine HeldK.one 7 (fuel := 0) (listed' := (lb 8 255)) krf rfl krf ?_
    refine AK.storeBox 7 (us := [v2]) (cs' := [.int .i64 (q.L : Int), .int .i64 0, v2, vN]) rfl sz41 rfl rfl (by rw [IsSl.cells sv2]) rfl oneP (leb rfl) rfl trivial ?_
    refine .nil ?_
    try (conv => enter [2, 2]; simp only [nrm])
    refine HeldK.backN 8 krf rfl krf ?_
    refine .nil ?_
    refine AK.fromQn ?_
    exact hJ _ _ (v2) sv2 (slr) (fun w hw => by rw [take_snocD default q.ex x.1 (by omega), List.map_append, List.map_append]; have h := hw.pick [0, 1, 2, 3, 4, 5, 6, 7, 8, 9] (by decide) rfl rfl; exact h)
   ·skip
    refine .block_normal ?_
    refine AK.then_ (hK8 _ ?_)
    refine AK.region ?_
    refine .v (.add rfl rfl (by omega)) ?_
    refine .mv rfl (.nil ?_)
    refine AK.then_ (hK5 _ _ ((x.1 + 1, z)) ⟨by dsimp only; omega, hg⟩ (by dsimp only; omega) (slr) (fun w hw => hw.pick [0, 1, 2, 3, 4, 5, 6, 7, 8] (by decide) rfl rfl))
  ·have sx := hg0.2
   refine .exit (.then_exit (.then_exit (.block_exit ?_)))
   refine AK.then_ (hK3 _ ?_)
   refine .sr fun _ hK10 => ?_
   refine .v (.loadBoxG ag43 rfl bsp rfl rfl) ?_
   refine AK.storeBox 6 (us := [.int .i64 (q.L : Int), .int .i64 0, x.2, vN]) (cs' := [.int .i64 (q.L : Int), .int .i64 0, x.2, vN]) rfl sz43 rfl rfl rfl rfl oneP (leb rfl) rfl trivial ?_
   refine .nt hK10 (.ret ?_)
   refine AK.retG [.cell 2 43] rfl (.cons (.cell ag43 rfl bsp rfl rfl) (.nil)) (fun w hw => ⟨_, _, _, ?_, rfl, Ret.ofBig0 (hw.pick [8, 2, 3] (by decide) rfl rfl)⟩)
   have e1 : x.1 = q.ex.length := by omega
   refine ⟨x.2, rfl, hg0.2, ?_, rfl⟩
   rw [e1, List.take_length]
   simp only [dfaO, autR, List.length_map]
   rfl

set_option maxHeartbeats 2000000 in
theorem s_build (w : World) (F : Nat → Prop) (B : Bs) (l : List Itm) (hB : BsOk B w F) (hA : (forest B l).holds w F) (e : Ex) (s : Value) (hm : Itm.deep s e.kids ∈ l) (n : Int) (res : Dfa × Int) (hb : buildE e n = some res) : CallM Tryz.prog 29 [.agg #[.int .i64 e.op, .int .i64 e.lt, s], .int .i64 n] w F (fun r A o => ∃ vF vN rs, r = .tuple #[.agg #[.int .i64 res.1.L, .int .i64 res.1.s, vF, vN], .int .i64 res.2] ∧ rs.length = res.1.nx.length ∧ IsSl vF ∧ IsSl vN ∧ A = bigA (dfaO 4 3 26 vF vN rs res.1) ∧ o = []) := by
 refine specM_of Tryz.func29 rfl (leb rfl) hA ?_
 refine .sr fun _ hK1 => ?_
 refine AK.box_ (E := 65) (cs := [.int .i64 e.op, .int .i64 e.lt, s]) rfl rfl rfl trivial rfl (fun bx2 => ?_)
 refine AK.alloc el43 rfl rfl trivial rfl (fun bx4 => ?_)
 refine .as rfl (.nt hK1 ?_)
 refine .seq fun _ hK2 => ?_
 refine .sr fun _ hK3 => ?_
 refine .v (.loadBoxG ag65 rfl bsp rfl rfl) ?_
 refine .mv rfl ?_
 refine AK.call co57 rfl (fun w hw => s_valid w e s n (hw.kidR hB 0 rfl hm)) trivial rfl ?_
 rintro r o ⟨rfl, rfl⟩
 refine .as rfl (.nt hK3 ?_)
 refine .sr fun _ hK4 => ?_
 refine .mv rfl ?_
 refine .v (.neq rfl rfl) ?_
 refine .nt hK4 ?_
 refine AK.condNe rfl (fun hc0 => ?_) (fun hc0 => ?_)
 ·have eres : res = (zeroD, validE e n) := by
   rcases buildE_some hb with ⟨_, h⟩ | ⟨h, _⟩
   ·exact h
   ·exact absurd h hc0
  refine .sr fun _ hK5 => ?_
  refine .v (.build (parts := []) (cs := #[.int .i64 0, .int .i64 0, .slice none 0 0, .slice none 0 0]) rfl (by kernel_rfl)) ?_
  refine .mv rfl ?_
  refine AK.storeBox 2 (us := [.int .i64 0, .int .i64 0, .slice none 0 0, .slice none 0 0]) (cs' := [.int .i64 0, .int .i64 0, .slice none 0 0, .slice none 0 0]) rfl sz43 rfl rfl rfl rfl oneP (leb rfl) rfl trivial ?_
  refine .as rfl (.nt hK5 (.ret (.then_ret ?_)))
  refine AK.ghost 4 1 ?_
  refine AK.ghost 26 1 ?_
  refine AK.own' _ (fun w hw => HW.ghostG (f := Value.int .i64) 3 hw) ?_
  refine AK.own' [bigA (dfaO 4 3 26 nilV nilV [] zeroD), box bx4 43 4 [.int .i64 0, .int .i64 0, .slice none 0 0, .slice none 0 0]] (fun w hw => by have h := HW.unflat (l := [_, _, _]) (own := [_]) (hw.pick [3, 4, 5, 2] (by decide) rfl rfl); exact h) ?_
  refine AK.retG [.cell 4 43, .tmp 5] rfl (.cons (.cell ag43 rfl bsp rfl rfl) (.cons (.tmp rfl) (.nil))) (fun w hw => ⟨_, _, _, ?_, rfl, Ret.of (hw.pick [0] (by decide) rfl rfl)⟩)
  subst eres
  exact ⟨nilV, nilV, [], rfl, rfl, nilSl, nilSl, rfl, rfl⟩
 ·obtain ⟨hv0, e1, q2, p, hn1, ha, hlp, hfin⟩ := (buildE_some hb).resolve_left (fun h => h.1 (by omega))
  have hLb := validE_letters hv0
  obtain ⟨L, rfl⟩ : ∃ L : Nat, n = L := ⟨n.toNat, by omega⟩
  rw [Int.toNat_natCast] at ha
  refine .skip ?_
  refine AK.then_ (hK2 _ ?_)
  refine .sr fun _ hK6 => ?_
  refine .v (.loadBoxG ag65 rfl bsp rfl rfl) ?_
  refine AK.callN 0 rfl co59 rfl (fun w Fs hw hh hfr hal => s_norm e w (Fs 0) B l (hB.later hfr hal 0) (hh.at_ 0 _ rfl) s hm e1 hn1) trivial rfl ?_
  rintro r A o ⟨sr, l2, rfl, ssr, rfl, hs2, hm2, rfl⟩
  refine .mv rfl ?_
  refine AK.callN 0 rfl co58 rfl (fun w Fs hw hh hfr hal => s_begin w (Fs 0) B l2 (hB.later hfr hal 0) (hh.at_ 0 _ rfl) e1 sr hm2 ssr L (by omega) q2 ha) trivial rfl ?_
  rintro r A o ⟨rb, mb, vE, es, rfl, hq0, rfl, rfl⟩
  refine .as rfl (.nt hK6 ?_)
  refine .seq fun _ hK7 => ?_
  refine .block ?_
  refine AK.loopK (X := Nat × Run × Value × Value × List Value × List Value × List Itm) [(4, _), (7, _)] (fun x => []) (fun x => [bigA (runO 154 65 26 3 rb mb x.2.2.1 x.2.2.2.1 x.2.2.2.2.1 x.2.2.2.2.2.1 x.2.1 B x.2.2.2.2.2.2), box bx2 65 3 [.int .i64 e.op, .int .i64 e.lt, s], box bx4 43 4 [.int .i64 0, .int .i64 0, .slice none 0 0, .slice none 0 0]]) (fun x => RunF x.2.2.1 x.2.2.2.1 x.2.2.2.2.1 x.2.2.2.2.2.1 x.2.1 x.2.2.2.2.2.2 ∧ loopR x.1 x.2.1 = some p) (fun x => x.1) ((600, q2, vE, nilV, es, [], l2)) slr ?_ ?_ ?_ ?_
  ·exact ⟨hq0, hlp⟩
  ·exact slr
  ·exact fun w hw => hw
  ·intro x hg0 _ hK8
   refine .seq fun _ hK9 => ?_
   refine .sr fun _ hK10 => ?_
   refine .mv rfl ?_
   refine AK.call co60 rfl (fun w hw => s_rfin w rb mb x.2.2.1 x.2.2.2.1 x.2.2.2.2.1 x.2.1 (runO_rd hw 0 rfl).1 (runO_rd hw 0 rfl).2) trivial rfl ?_
   rintro r o ⟨rfl, rfl⟩
   refine .v (.not rfl) ?_
   refine .nt hK10 ?_
   refine AK.condB rfl (fun hc1 => ?_) (fun hc1 => ?_)
   ·have hne : x.2.1.dn ≠ x.2.1.ex.length := by simpa using hc1
    have hdn : x.2.1.dn < x.2.1.ex.length := by have := hg0.1.dn; omega
    obtain ⟨m, hm1, hcs⟩ := loopR_some hg0.2
    obtain ⟨_, r2, hr2, hcs⟩ := hcs.resolve_left (fun h => hne h.1)
    refine .skip ?_
    refine AK.then_ (hK9 _ ?_)
    refine .block ?_
    refine .sr fun _ hK11 => ?_
    refine .mv rfl ?_
    refine AK.callN 0 rfl co61 rfl (fun w Fs hw hh hfr hal => s_rproc w (Fs 0) B x.2.2.2.2.2.2 (hB.later hfr hal 0) rb mb x.2.2.1 x.2.2.2.1 x.2.2.2.2.1 x.2.2.2.2.2.1 x.2.1 hg0.1 (hh.at_ 0 _ rfl) hdn r2 hr2) trivial rfl ?_
    rintro r A o ⟨rfl, rfl, hpost⟩
    refine .as rfl (.nt hK11 ?_)
    refine .sr fun _ hK12 => ?_
    refine .mv rfl ?_
    refine .v (.neq rfl rfl) ?_
    refine .nt hK12 ?_
    refine AK.condNe rfl (fun hc2 => ?_) (fun hc2 => ?_)
    ·have hp2 : p = r2 := by
      rcases hcs with ⟨_, h⟩ | ⟨h, _⟩
      ·exact h
      ·exact absurd h hc2
     subst hp2
     have eres : res = (zeroD, p.2) := by
      rcases hfin with ⟨_, h⟩ | ⟨h, _⟩
      ·exact h
      ·exact absurd h hc2
     refine .sr fun _ hK13 => ?_
     refine .v (.build (parts := []) (cs := #[.int .i64 0, .int .i64 0, .slice none 0 0, .slice none 0 0]) rfl (by kernel_rfl)) ?_
     refine .mv rfl ?_
     refine AK.storeBox 2 (us := [.int .i64 0, .int .i64 0, .slice none 0 0, .slice none 0 0]) (cs' := [.int .i64 0, .int .i64 0, .slice none 0 0, .slice none 0 0]) rfl sz43 rfl rfl rfl rfl oneP (leb rfl) rfl trivial ?_
     refine .as rfl (.nt hK13 (.ret (.block_ret (.then_ret (.block_ret (.then_ret ?_))))))
     refine AK.ghost 4 1 ?_
     refine AK.ghost 26 1 ?_
     refine AK.own' _ (fun w hw => HW.ghostG (f := Value.int .i64) 3 hw) ?_
     refine AK.own' [bigA (dfaO 4 3 26 nilV nilV [] zeroD), box bx4 43 4 [.int .i64 0, .int .i64 0, .slice none 0 0, .slice none 0 0]] (fun w hw => by have h := HW.unflat (l := [_, _, _]) (own := [_]) (hw.pick [3, 4, 5, 2] (by decide) rfl rfl); exact h) ?_
     refine AK.retG [.cell 4 43, .tmp 5] rfl (.cons (.cell ag43 rfl bsp rfl rfl) (.cons (.tmp rfl) (.nil))) (fun w hw => ⟨_, _, _, ?_, rfl, Ret.of (hw.pick [0] (by decide) rfl rfl)⟩)
     subst eres
     exact ⟨nilV, nilV, [], rfl, rfl, nilSl, nilSl, rfl, rfl⟩
    ·have hz : r2.2 = 0 := by omega
     have hlp2 : loopR m r2.1 = some p := by
      rcases hcs with ⟨h, _⟩ | ⟨_, h⟩
      ·exact absurd hz h
      ·exact h
     obtain ⟨vE2, vN2, es2, rs2, l3, hq3, rfl⟩ := hpost hz
     refine .skip (.block_normal ?_)
     refine AK.then_ (hK8 _ _ ((m, r2.1, vE2, vN2, es2, rs2, l3)) ⟨hq3, hlp2⟩ (by dsimp only; omega) (slr) (fun w hw => hw.pick [0, 1, 2] (by decide) rfl rfl))
   ·have heq : x.2.1.dn = x.2.1.ex.length := by simpa using hc1
    obtain ⟨m, hm1, hcs⟩ := loopR_some hg0.2
    have hpe : p = (x.2.1, 0) := by
     rcases hcs with ⟨_, h⟩ | ⟨h, _⟩
     ·exact h
     ·exact absurd heq h
    subst hpe
    have svN := hg0.1.sN
    refine .exit (.then_exit (.then_exit (.block_exit ?_)))
    refine AK.then_ (hK7 _ ?_)
    refine .sr fun _ hK14 => ?_
    refine .mv rfl ?_
    refine AK.callN 0 rfl co62 rfl (fun w Fs hw hh hfr hal => s_raut w (Fs 0) B x.2.2.2.2.2.2 (hB.later hfr hal 0) rb mb x.2.2.1 x.2.2.2.1 x.2.2.2.2.1 x.2.2.2.2.2.1 x.2.1 hg0.1 (hh.at_ 0 _ rfl)) trivial rfl ?_
    rintro r A o ⟨vF, rfl, svF, rfl, rfl⟩
    refine AK.storeBox 2 (us := [.int .i64 (x.2.1.L : Int), .int .i64 0, vF, x.2.2.2.1]) (cs' := [.int .i64 (x.2.1.L : Int), .int .i64 0, vF, x.2.2.2.1]) rfl sz43 rfl rfl rfl rfl oneP (leb rfl) rfl trivial ?_
    refine .as rfl (.nt hK14 (.ret ?_))
    refine AK.retG [.cell 4 43, .tmp 5] rfl (.cons (.cell ag43 rfl bsp rfl rfl) (.cons (.tmp rfl) (.nil))) (fun w hw => ⟨_, _, _, ?_, rfl, Ret.of (hw.pick [0] (by decide) rfl rfl)⟩)
    have eres : res = (autR x.2.1, 0) := by
     rcases hfin with ⟨h, _⟩ | ⟨_, h⟩
     ·exact absurd rfl h
     ·exact h
    subst eres
    exact ⟨vF, x.2.2.2.1, x.2.2.2.2.2.1, rfl, hg0.1.rl, svF, svN, rfl, rfl⟩

end Go.Proofs.YtdnhiinakhmhgaaGreatDoor

namespace Go.Sx
open Go.RowKit
/-! ### sets of offsets, of words of at most 62 letters -/
section
variable {C : Cx} {sl : List (Nat × Value)} {own : List Asn} {dst : Option Nat} {ty : TypeId} {pos : String} {aft : Array Edge} {g : Option (Nat × Bool)} {x y : Operand} {t t' : TypeId}
theorem Yl.shlI {k : IntKind} {m n : Int} (r : Int) (hx : opv ⟨sl, own⟩ x = some (.int .i64 m)) (hy : opv ⟨sl, own⟩ y = some (.int k n)) (hn : 0 ≤ n ∧ n ≤ 62) (e : m * 2 ^ n.toNat = r) (hr : -9223372036854775808 ≤ r ∧ r ≤ 9223372036854775807) :
    Yl C ⟨sl, own⟩ ⟨dst, .binOp .shl t x y t', ty, pos, aft, g⟩ (.int .i64 r) :=
  fun a w hs => by
    have h1 : Min.min n.toNat 64 = n.toNat := by omega
    have h2 : ¬ n < 0 := by omega
    simp only [execOp, opv_eval hs hx, opv_eval hs hy]
    simp [go_sem, binOp, Op.shift, IntKind.bits, h1, h2, e, wrap_in hr.1 hr.2]
end
theorem and63 {m : Nat} (h : m < 64) : andZ (m : Int) 63 = m := by
  have : ∀ k : Fin 64, andZ ((k.val : Nat) : Int) 63 = k.val := by decide
  exact this ⟨m, h⟩
theorem div64 {m : Nat} (h : m < 64) : (m : Int) / 2 ^ (6 : Int).toNat = 0 := by
  show (m : Int) / 64 = 0
  omega
/-- where the parts end that begin at i and match a leaf -/
def leafS (e : Ex) (wd : List UInt8) (i : Nat) : W64 :=
  if e.op = 2 then 0 ||| ((1 : W64) <<< i) else if e.op = 3 ∧ i < wd.length ∧ ((wd.getD i 0).toNat : Int) - 97 = e.lt then 0 ||| ((1 : W64) <<< (i + 1)) else 0
def leafOp (e : Ex) : Prop := e.op ≠ 4 ∧ e.op ≠ 5 ∧ e.op ≠ 6 ∧ e.op ≠ 7 ∧ e.op ≠ 8
theorem valid97 {wd : List UInt8} (h : validW 6 wd = true) {i : Nat} (hi : i < wd.length) : 97 ≤ ((wd.getD i 0).toNat : Int) ∧ ((wd.getD i 0).toNat : Int) ≤ 102 := by
  unfold validW at h
  rw [Bool.and_eq_true, List.all_eq_true] at h
  have := h.2 _ (List.getElem_mem hi)
  have e : wd.getD i 0 = wd[i] := by simp [List.getD_eq_getElem?_getD, hi]
  rw [e]
  unfold okB at this
  simp at this
  omega
theorem bit_shr (x : W64) (i : Nat) : decide (x >>> i &&& 1 = 1) = x.getLsbD i := by
  have e : (x >>> i &&& 1).toNat = (x.toNat >>> i) % 2 := by
    rw [BitVec.toNat_and, BitVec.toNat_ushiftRight]
    exact Nat.and_one_is_mod _
  have e2 : x.getLsbD i = decide ((x.toNat >>> i) % 2 = 1) := by
    show x.toNat.testBit i = _
    rw [Nat.testBit, Nat.and_comm, Nat.and_one_is_mod]
    rcases Nat.mod_two_eq_zero_or_one (x.toNat >>> i) with h | h <;> simp [h]
  rw [e2]
  apply decide_eq_decide.2
  constructor
  · intro h; rw [← e, h]; rfl
  · intro h; apply BitVec.eq_of_toNat_eq; rw [e, h]; rfl
theorem rep_get {n i : Nat} {v z d : Value} (hi : i < n) : ((List.replicate n z).set i v).getD i d = v := by
  simp [List.getD_eq_getElem?_getD, List.getElem?_set, hi]
end Go.Sx

namespace Go.Proofs.YtdnhiinakhmhgaaGreatDoor
open Go.Sx Go.RowKit
theorem s_validate (w : World) (v : Value) (d : Dfa) (h : RdD (fun _ => False) w v d) : CallS Tryz.prog 22 [v] w (fun r o => r = .int .i64 (errV d) ∧ o = []) := by
 have h0 := h
 obtain ⟨vF, vN, rfl, hF, hN⟩ := h
 obtain ⟨rs, hrl, hNr, hNi⟩ := hN
 have sF := hF.sl
 have sN := hNr.sl
 have hmf := hF.le
 have hmn := hNr.le
 unfold RdL at hF
 refine spec_of Tryz.func22 rfl (leb rfl) ?_
 refine .sr fun _ hK1 => ?_
 refine AK.box_ (E := 43) (cs := [.int .i64 d.L, .int .i64 d.s, vF, vN]) rfl rfl rfl trivial rfl (fun bx1 => ?_)
 refine .as rfl (.nt hK1 ?_)
 refine .seq fun _ hK2 => ?_
 refine .sr fun _ hK3 => ?_
 refine .v (.fieldAddr fd43_0 rfl) ?_
 refine .v (.loadBox on3 rfl bsp rfl) ?_
 refine .v (.lss rfl rfl) ?_
 refine .mv rfl ?_
 refine AK.splitB (g := 11) rfl (fun hg_1_3 => ?_) (fun hg_1_3 => ?_)
 ·have hg_1_3' := hg_1_3
  try simp only [bs] at hg_1_3'
  refine AK.pass rfl rfl (hg_1_3) rfl ?_
  refine AK.pass rfl rfl (hg_1_3) rfl ?_
  refine AK.pass rfl rfl (hg_1_3) rfl ?_
  refine .v (.pickT rfl (hg_1_3) rfl) ?_
  refine .nt hK3 ?_
  refine AK.cond_t rfl (rfl) ?_
  refine .sr fun _ hK4 => ?_
  refine .as rfl (.nt hK4 (.ret (.then_ret ?_)))
  refine AK.ret1 rfl rfl (fun w hw => ⟨_, _, ?_, rfl, Ret.of (hw.pick [] (by decide) rfl rfl)⟩)
  refine ⟨congrArg (Value.int .i64) ?_, rfl⟩; unfold errV; rw [if_pos (by omega)]
 ·have hg_1_3' := hg_1_3
  try simp only [bs] at hg_1_3'
  refine AK.val _ (Yl.fieldAddr fd43_0 rfl) ⟨_, rfl, gB hg_1_3⟩ rfl ?_
  refine AK.val _ (Yl.loadBox on3 rfl bsp rfl) ⟨_, rfl, gB hg_1_3⟩ rfl ?_
  refine AK.val _ (Yl.gtr rfl rfl) ⟨_, rfl, gB hg_1_3⟩ rfl ?_
  refine .v (.pickF rfl (hg_1_3) rfl) ?_
  refine .nt hK3 ?_
  refine AK.condD rfl (fun hc0 => ?_) (fun hc0 => ?_)
  ·refine .sr fun _ hK5 => ?_
   refine .as rfl (.nt hK5 (.ret (.then_ret ?_)))
   refine AK.ret1 rfl rfl (fun w hw => ⟨_, _, ?_, rfl, Ret.of (hw.pick [] (by decide) rfl rfl)⟩)
   refine ⟨congrArg (Value.int .i64) ?_, rfl⟩; unfold errV; rw [if_pos (by omega)]
  ·refine .skip ?_
   refine AK.then_ (hK2 _ ?_)
   refine .sr fun _ hK6 => ?_
   refine .v (.fieldAddr fd43_2 rfl) ?_
   refine .v (.loadBox on41 rfl bsp rfl) ?_
   refine .v (.lenR sl41 rfl (by first | exact rdp | exact .arg (hNi k (by omega)))) ?_
   refine .as rfl (.nt hK6 ?_)
   refine .seq fun _ hK7 => ?_
   refine .sr fun _ hK8 => ?_
   refine .mv rfl ?_
   refine .v (.gtr rfl rfl) ?_
   refine .nt hK8 ?_
   refine AK.condD rfl (fun hc1 => ?_) (fun hc1 => ?_)
   ·refine .sr fun _ hK9 => ?_
    refine .as rfl (.nt hK9 (.ret (.then_ret ?_)))
    refine AK.ret1 rfl rfl (fun w hw => ⟨_, _, ?_, rfl, Ret.of (hw.pick [] (by decide) rfl rfl)⟩)
    refine ⟨congrArg (Value.int .i64) ?_, rfl⟩; unfold errV; rw [if_neg (by omega), if_pos (by omega)]
   ·refine .skip ?_
    refine AK.then_ (hK7 _ ?_)
    refine .seq fun _ hK10 => ?_
    refine .sr fun _ hK11 => ?_
    refine .v (.fieldAddr fd43_3 rfl) ?_
    refine .v (.loadBox on22 rfl bsp rfl) ?_
    refine .v (.lenR sl22 rfl (by first | exact rdp | exact .arg (hNi k (by omega)))) ?_
    refine .mv rfl ?_
    refine .v (.neq rfl rfl) ?_
    refine .mv rfl ?_
    refine AK.splitB (g := 26) rfl (fun hg_6_5 => ?_) (fun hg_6_5 => ?_)
    ·have hg_6_5' := hg_6_5
     try simp only [bs] at hg_6_5'
     refine AK.pass rfl rfl (hg_6_5) rfl ?_
     refine AK.pass rfl rfl (hg_6_5) rfl ?_
     refine AK.pass rfl rfl (hg_6_5) rfl ?_
     refine .v (.pickT rfl (hg_6_5) rfl) ?_
     refine .mv rfl ?_
     refine AK.pass rfl rfl rfl rfl ?_
     refine AK.pass rfl rfl rfl rfl ?_
     refine AK.pass rfl rfl rfl rfl ?_
     refine AK.pass rfl rfl rfl rfl ?_
     refine .v (.pickT rfl (rfl) rfl) ?_
     refine .nt hK11 ?_
     refine AK.cond_t rfl (rfl) ?_
     refine .sr fun _ hK12 => ?_
     refine .as rfl (.nt hK12 (.ret (.then_ret ?_)))
     refine AK.ret1 rfl rfl (fun w hw => ⟨_, _, ?_, rfl, Ret.of (hw.pick [] (by decide) rfl rfl)⟩)
     refine ⟨congrArg (Value.int .i64) ?_, rfl⟩; unfold errV; rw [if_neg (by omega), if_neg (by omega), if_pos (by omega)]
    ·have hg_6_5' := hg_6_5
     try simp only [bs] at hg_6_5'
     refine AK.val _ (Yl.fieldAddr fd43_1 rfl) ⟨_, rfl, gB hg_6_5⟩ rfl ?_
     refine AK.val _ (Yl.loadBox on3 rfl bsp rfl) ⟨_, rfl, gB hg_6_5⟩ rfl ?_
     refine AK.val _ (Yl.lss rfl rfl) ⟨_, rfl, gB hg_6_5⟩ rfl ?_
     refine .v (.pickF rfl (hg_6_5) rfl) ?_
     refine .mv rfl ?_
     refine AK.splitB (g := 31) rfl (fun hg_6_10 => ?_) (fun hg_6_10 => ?_)
     ·have hg_6_10' := hg_6_10
      try simp only [bs] at hg_6_10'
      refine AK.pass rfl rfl (hg_6_10) rfl ?_
      refine AK.pass rfl rfl (hg_6_10) rfl ?_
      refine AK.pass rfl rfl (hg_6_10) rfl ?_
      refine AK.pass rfl rfl (hg_6_10) rfl ?_
      refine .v (.pickT rfl (hg_6_10) rfl) ?_
      refine .nt hK11 ?_
      refine AK.cond_t rfl (rfl) ?_
      refine .sr fun _ hK13 => ?_
      refine .as rfl (.nt hK13 (.ret (.then_ret ?_)))
      refine AK.ret1 rfl rfl (fun w hw => ⟨_, _, ?_, rfl, Ret.of (hw.pick [] (by decide) rfl rfl)⟩)
      refine ⟨congrArg (Value.int .i64) ?_, rfl⟩; unfold errV; rw [if_neg (by omega), if_neg (by omega), if_pos (by omega)]
     ·have hg_6_10' := hg_6_10
      try simp only [bs] at hg_6_10'
      refine AK.val _ (Yl.fieldAddr fd43_1 rfl) ⟨_, rfl, gB hg_6_10⟩ rfl ?_
      refine AK.val _ (Yl.loadBox on3 rfl bsp rfl) ⟨_, rfl, gB hg_6_10⟩ rfl ?_
      refine AK.val _ (Yl.move rfl) ⟨_, rfl, gB hg_6_10⟩ rfl ?_
      refine AK.val _ (Yl.geq rfl rfl) ⟨_, rfl, gB hg_6_10⟩ rfl ?_
      refine .v (.pickF rfl (hg_6_10) rfl) ?_
      refine .nt hK11 ?_
      refine AK.condD rfl (fun hc2 => ?_) (fun hc2 => ?_)
      ·refine .sr fun _ hK14 => ?_
       refine .as rfl (.nt hK14 (.ret (.then_ret ?_)))
       refine AK.ret1 rfl rfl (fun w hw => ⟨_, _, ?_, rfl, Ret.of (hw.pick [] (by decide) rfl rfl)⟩)
       refine ⟨congrArg (Value.int .i64) ?_, rfl⟩; unfold errV; rw [if_neg (by omega), if_neg (by omega), if_pos (by omega)]
      ·refine .skip ?_
       refine AK.then_ (hK10 _ ?_)
       refine .seq fun _ hK15 => ?_
       refine .sr fun _ hK16 => ?_
       refine .v (.fieldAddr fd43_3 rfl) ?_
       refine .v (.loadBox on22 rfl bsp rfl) ?_
       refine .v (.lenR sl22 rfl (by first | exact rdp | exact .arg (hNi k (by omega)))) ?_
       refine .mv rfl (.nt hK16 (.block ?_))
       refine AK.loopK (X := Nat) [(1, _), (3, _), (38, _), (39, _)] (fun k => [(40, .int .i64 (k : Int))]) (fun k => [box bx1 43 4 [.int .i64 d.L, .int .i64 d.s, vF, vN]]) (fun k => k ≤ d.nx.length ∧ (d.nx.take k).any (badRow d.fin.length d.L) = false) (fun k => d.nx.length - k) (0) slr ?_ ?_ ?_ ?_
       ·exact ⟨Nat.zero_le _, rfl⟩
       ·exact slr
       ·exact fun w hw => hw
       ·intro k hg0 _ hK17
        obtain ⟨hk, hg1⟩ := hg0
        have hrk := fun hk1 => (hNi k hk1).le
        refine .sr fun _ hK18 => ?_
        refine .v (.lss rfl rfl) ?_
        refine .nt hK18 ?_
        refine .seq fun _ hK19 => ?_
        refine AK.condD rfl (fun hc3 => ?_) (fun hc3 => ?_)
        ·refine .skip ?_
         refine AK.then_ (hK19 _ ?_)
         refine .seq fun _ hK20 => ?_
         refine .block ?_
         refine .sr fun _ hK21 => ?_
         first | refine .v (.iN sl22 rfl rfl (hr := (by first | exact rdp | exact .arg (hNi k (by omega))))) ?_ | refine .v (.iK sl22 rfl rfl (hr := (by first | exact rdp | exact .arg (hNi k (by omega))))) ?_
         refine .v (.loadV on26 rfl (by first | exact rdp | exact .arg (hNi k (by omega))) (by omega)) ?_
         refine .as rfl (.nt hK21 ?_)
         refine .seq fun _ hK22 => ?_
         refine .sr fun _ hK23 => ?_
         refine .mv rfl ?_
         refine .v (.lenR sl26 rfl (by first | exact rdp | exact .arg (hNi k (by omega)))) ?_
         refine .v (.fieldAddr fd43_0 rfl) ?_
         refine .v (.loadBox on3 rfl bsp rfl) ?_
         refine .v (.neq rfl rfl) ?_
         refine .nt hK23 ?_
         refine AK.condNe rfl (fun hc4 => ?_) (fun hc4 => ?_)
         ·refine .sr fun _ hK24 => ?_
          refine .as rfl (.nt hK24 (.ret (.then_ret (.block_ret (.then_ret (.then_ret (.block_ret (.then_ret ?_))))))))
          refine AK.ret1 rfl rfl (fun w hw => ⟨_, _, ?_, rfl, Ret.of (hw.pick [] (by decide) rfl rfl)⟩)
          refine ⟨congrArg (Value.int .i64) ?_, rfl⟩; unfold errV; rw [if_neg (by omega), if_neg (by omega), if_neg (by omega), if_pos (any_at _ [] (by omega : k < d.nx.length) ?_)]
          unfold badRow; rw [Bool.or_eq_true]; exact .inl (decide_eq_true (by omega))
         ·refine .skip ?_
          refine AK.then_ (hK22 _ ?_)
          refine .sr fun _ hK25 => ?_
          refine .mv rfl ?_
          refine .v (.lenR sl26 rfl (by first | exact rdp | exact .arg (hNi k (by omega)))) ?_
          refine .mv rfl (.nt hK25 (.block ?_))
          refine AK.loopK (X := Nat) [(1, _), (3, _), (38, _), (39, _), (40, _), (49, _), (50, _)] (fun j => [(51, .int .i64 (j : Int))]) (fun j => [box bx1 43 4 [.int .i64 d.L, .int .i64 d.s, vF, vN]]) (fun j => j ≤ (d.nx.getD k []).length ∧ ((d.nx.getD k []).take j).any (badQ d.fin.length) = false) (fun j => (d.nx.getD k []).length - j) (0) slr ?_ ?_ ?_ ?_
          ·exact ⟨Nat.zero_le _, rfl⟩
          ·exact slr
          ·exact fun w hw => hw
          ·intro j hg1 _ hK26
           obtain ⟨hj, hg2⟩ := hg1
           refine .sr fun _ hK27 => ?_
           refine .v (.lss rfl rfl) ?_
           refine .nt hK27 ?_
           refine .seq fun _ hK28 => ?_
           refine AK.condD rfl (fun hc5 => ?_) (fun hc5 => ?_)
           ·refine .skip ?_
            refine AK.then_ (hK28 _ ?_)
            refine .seq fun _ hK29 => ?_
            refine .block ?_
            refine .sr fun _ hK30 => ?_
            first | refine .v (.iN sl26 rfl rfl (hr := (by first | exact rdp | exact .arg (hNi k (by omega))))) ?_ | refine .v (.iK sl26 rfl rfl (hr := (by first | exact rdp | exact .arg (hNi k (by omega))))) ?_
            refine .v (.loadI on3 rfl (by first | exact rdp | exact .arg (hNi k (by omega))) (by omega)) ?_
            refine .as rfl (.nt hK30 ?_)
            refine .sr fun _ hK31 => ?_
            refine .mv rfl ?_
            refine .v (.lss rfl rfl) ?_
            refine .mv rfl ?_
            refine AK.splitB (g := 57) rfl (fun hg_16_2 => ?_) (fun hg_16_2 => ?_)
            ·have hg_16_2' := hg_16_2
             try simp only [bs] at hg_16_2'
             refine AK.pass rfl rfl (hg_16_2) rfl ?_
             refine AK.pass rfl rfl (hg_16_2) rfl ?_
             refine AK.pass rfl rfl (hg_16_2) rfl ?_
             refine .v (.pickT rfl (hg_16_2) rfl) ?_
             refine .nt hK31 ?_
             refine AK.cond_t rfl (rfl) ?_
             refine .sr fun _ hK32 => ?_
             refine .as rfl (.nt hK32 (.ret (.block_ret (.then_ret (.then_ret (.block_ret (.block_ret (.then_ret (.then_ret (.block_ret (.then_ret ?_)))))))))))
             refine AK.ret1 rfl rfl (fun w hw => ⟨_, _, ?_, rfl, Ret.of (hw.pick [] (by decide) rfl rfl)⟩)
             refine ⟨congrArg (Value.int .i64) ?_, rfl⟩; unfold errV; rw [if_neg (by omega), if_neg (by omega), if_neg (by omega), if_pos (any_at _ [] (by omega : k < d.nx.length) ?_)]
             unfold badRow; rw [Bool.or_eq_true]; refine .inr (any_at _ 0 (by omega : j < (d.nx.getD k []).length) ?_); unfold badQ; rw [Bool.or_eq_true, decide_eq_true_eq, decide_eq_true_eq]; omega
            ·have hg_16_2' := hg_16_2
             try simp only [bs] at hg_16_2'
             refine AK.val _ (Yl.move rfl) ⟨_, rfl, gB hg_16_2⟩ rfl ?_
             refine AK.val _ (Yl.move rfl) ⟨_, rfl, gB hg_16_2⟩ rfl ?_
             refine AK.val _ (Yl.geq rfl rfl) ⟨_, rfl, gB hg_16_2⟩ rfl ?_
             refine .v (.pickF rfl (hg_16_2) rfl) ?_
             refine .nt hK31 ?_
             refine AK.condD rfl (fun hc6 => ?_) (fun hc6 => ?_)
             ·refine .sr fun _ hK33 => ?_
              refine .as rfl (.nt hK33 (.ret (.block_ret (.then_ret (.then_ret (.block_ret (.block_ret (.then_ret (.then_ret (.block_ret (.then_ret ?_)))))))))))
              refine AK.ret1 rfl rfl (fun w hw => ⟨_, _, ?_, rfl, Ret.of (hw.pick [] (by decide) rfl rfl)⟩)
              refine ⟨congrArg (Value.int .i64) ?_, rfl⟩; unfold errV; rw [if_neg (by omega), if_neg (by omega), if_neg (by omega), if_pos (any_at _ [] (by omega : k < d.nx.length) ?_)]
              unfold badRow; rw [Bool.or_eq_true]; refine .inr (any_at _ 0 (by omega : j < (d.nx.getD k []).length) ?_); unfold badQ; rw [Bool.or_eq_true, decide_eq_true_eq, decide_eq_true_eq]; omega
             ·refine .skip (.block_normal ?_)
              refine AK.then_ (hK29 _ ?_)
              refine AK.region ?_
              refine .v (.add rfl rfl (by omega)) ?_
              refine .mv rfl (.nil ?_)
              refine AK.then_ (hK26 _ _ (j + 1) ⟨by omega, any_take_succ _ 0 (by omega) hg2 (by unfold badQ; rw [Bool.or_eq_false_iff, decide_eq_false_iff_not, decide_eq_false_iff_not]; omega)⟩ (by omega) (slr) (fun w hw => hw))
           ·refine .exit (.then_exit (.then_exit (.block_exit (.block_normal ?_))))
            refine AK.then_ (hK20 _ ?_)
            refine AK.region ?_
            refine .v (.add rfl rfl (by omega)) ?_
            refine .mv rfl (.nil ?_)
            refine AK.then_ (hK17 _ _ (k + 1) ⟨by omega, any_take_succ _ [] (by omega) hg1 (by unfold badRow; rw [show j = (d.nx.getD k []).length by omega, List.take_length] at hg2; rw [hg2, Bool.or_false]; exact decide_eq_false (by omega))⟩ (by omega) (slr) (fun w hw => hw))
        ·refine .exit (.then_exit (.then_exit (.block_exit ?_)))
         refine AK.then_ (hK15 _ ?_)
         refine .sr fun _ hK34 => ?_
         refine .as rfl (.nt hK34 (.ret ?_))
         refine AK.ret1 rfl rfl (fun w hw => ⟨_, _, ?_, rfl, Ret.of (hw.pick [] (by decide) rfl rfl)⟩)
         refine ⟨congrArg (Value.int .i64) ?_, rfl⟩; unfold errV; rw [if_neg (by omega), if_neg (by omega), if_neg (by omega), if_neg]; rw [show k = d.nx.length by omega, List.take_length] at hg1; rw [hg1]; exact Bool.false_ne_true

end Go.Proofs.YtdnhiinakhmhgaaGreatDoor

namespace Go.Proofs.YtdnhiinakhmhgaaGreatDoor
open Go.Sx Go.RowKit
theorem s_wvalid (w : World) (l : List UInt8) (L : Int) (hm : l.length ≤ 9223372036854775807) : CallS Tryz.prog 42 [sv l, .int .i64 L] w (fun r o => r = .bool (validW L l) ∧ o = []) := by
 refine spec_of Tryz.func42 rfl (leb rfl) ?_
 refine .sr fun _ hK1 => ?_
 refine .as rfl (.nt hK1 ?_)
 refine .seq fun _ hK2 => ?_
 refine .sr fun _ hK3 => ?_
 refine .mv rfl ?_
 refine .v (.lss rfl rfl) ?_
 refine .mv rfl ?_
 refine AK.splitB (g := 8) rfl (fun hg_1_2 => ?_) (fun hg_1_2 => ?_)
 ·have hg_1_2' := hg_1_2
  try simp only [bs] at hg_1_2'
  refine AK.pass rfl rfl (hg_1_2) rfl ?_
  refine AK.pass rfl rfl (hg_1_2) rfl ?_
  refine .v (.pickT rfl (hg_1_2) rfl) ?_
  refine .mv rfl ?_
  refine AK.pass rfl rfl rfl rfl ?_
  refine AK.pass rfl rfl rfl rfl ?_
  refine AK.pass rfl rfl rfl rfl ?_
  refine .v (.pickT rfl (rfl) rfl) ?_
  refine .nt hK3 ?_
  refine AK.cond_t rfl (rfl) ?_
  refine .sr fun _ hK4 => ?_
  refine .as rfl (.nt hK4 (.ret (.then_ret ?_)))
  refine AK.ret1 rfl rfl (fun w hw => ⟨_, _, ?_, rfl, Ret.of (hw.pick [] (by decide) rfl rfl)⟩)
  refine ⟨congrArg Value.bool ?_, rfl⟩
  symm; unfold validW; rw [decide_eq_false (by omega), Bool.false_and]
 ·have hg_1_2' := hg_1_2
  try simp only [bs] at hg_1_2'
  refine AK.val _ (Yl.move rfl) ⟨_, rfl, gB hg_1_2⟩ rfl ?_
  refine AK.val _ (Yl.gtr rfl rfl) ⟨_, rfl, gB hg_1_2⟩ rfl ?_
  refine .v (.pickF rfl (hg_1_2) rfl) ?_
  refine .mv rfl ?_
  refine AK.splitB (g := 12) rfl (fun hg_1_6 => ?_) (fun hg_1_6 => ?_)
  ·have hg_1_6' := hg_1_6
   try simp only [bs] at hg_1_6'
   refine AK.pass rfl rfl (hg_1_6) rfl ?_
   refine AK.pass rfl rfl (hg_1_6) rfl ?_
   refine AK.pass rfl rfl (hg_1_6) rfl ?_
   refine .v (.pickT rfl (hg_1_6) rfl) ?_
   refine .nt hK3 ?_
   refine AK.cond_t rfl (rfl) ?_
   refine .sr fun _ hK5 => ?_
   refine .as rfl (.nt hK5 (.ret (.then_ret ?_)))
   refine AK.ret1 rfl rfl (fun w hw => ⟨_, _, ?_, rfl, Ret.of (hw.pick [] (by decide) rfl rfl)⟩)
   refine ⟨congrArg Value.bool ?_, rfl⟩
   symm; unfold validW; rw [decide_eq_false (by omega), Bool.false_and]
  ·have hg_1_6' := hg_1_6
   try simp only [bs] at hg_1_6'
   refine AK.val _ (Yl.move rfl) ⟨_, rfl, gB hg_1_6⟩ rfl ?_
   refine AK.val _ (Yl.lenS un9 rfl) ⟨_, rfl, gB hg_1_6⟩ rfl ?_
   refine AK.val _ (Yl.gtr rfl rfl) ⟨_, rfl, gB hg_1_6⟩ rfl ?_
   refine .v (.pickF rfl (hg_1_6) rfl) ?_
   refine .nt hK3 ?_
   refine AK.condD rfl (fun hc0 => ?_) (fun hc0 => ?_)
   ·refine .sr fun _ hK6 => ?_
    refine .as rfl (.nt hK6 (.ret (.then_ret ?_)))
    refine AK.ret1 rfl rfl (fun w hw => ⟨_, _, ?_, rfl, Ret.of (hw.pick [] (by decide) rfl rfl)⟩)
    refine ⟨congrArg Value.bool ?_, rfl⟩
    symm; unfold validW; rw [decide_eq_false (by omega), Bool.false_and]
   ·refine .skip ?_
    refine AK.then_ (hK2 _ ?_)
    refine .seq fun _ hK7 => ?_
    refine .sr fun _ hK8 => ?_
    refine .mv rfl ?_
    refine .v (.lenS un9 rfl) ?_
    refine .mv rfl (.nt hK8 (.block ?_))
    refine AK.loopK (X := Nat) [(0, _), (1, _), (18, _)] (fun k => [(19, .int .i64 (k : Int))]) (fun k => []) (fun k => k ≤ l.length ∧ (1 ≤ L ∧ L ≤ 6 ∧ l.length ≤ 2048) ∧ (l.take k).all (okB L) = true) (fun k => l.length - k) (0) slr ?_ ?_ ?_ ?_
    ·exact ⟨Nat.zero_le _, by omega, rfl⟩
    ·exact slr
    ·exact fun w hw => hw
    ·intro k hg0 _ hK9
     obtain ⟨hk, hL, ha⟩ := hg0
     have hc8 := UInt8.toNat_lt (l.getD k 0)
     refine .sr fun _ hK10 => ?_
     refine .v (.lss rfl rfl) ?_
     refine .nt hK10 ?_
     refine .seq fun _ hK11 => ?_
     refine AK.condD rfl (fun hc1 => ?_) (fun hc1 => ?_)
     ·refine .skip ?_
      refine AK.then_ (hK11 _ ?_)
      refine .seq fun _ hK12 => ?_
      refine .block ?_
      refine .sr fun _ hK13 => ?_
      refine .mv rfl (.as rfl (.nt hK13 ?_))
      refine .sr fun _ hK14 => ?_
      refine .mv rfl (.mv rfl ?_)
      first | refine .v (.idxSN un9 rfl rfl (by omega)) ?_ | refine .v (.idxS un9 rfl rfl (by omega)) ?_
      refine .v (.lss rfl rfl) ?_
      refine .mv rfl ?_
      refine AK.splitB (g := 26) rfl (fun hg_6_4 => ?_) (fun hg_6_4 => ?_)
      ·have hg_6_4' := hg_6_4
       try simp only [bs] at hg_6_4'
       refine AK.pass rfl rfl (hg_6_4) rfl ?_
       refine AK.pass rfl rfl (hg_6_4) rfl ?_
       refine AK.pass rfl rfl (hg_6_4) rfl ?_
       refine AK.pass rfl rfl (hg_6_4) rfl ?_
       refine AK.pass rfl rfl (hg_6_4) rfl ?_
       refine AK.pass rfl rfl (hg_6_4) rfl ?_
       refine AK.pass rfl rfl (hg_6_4) rfl ?_
       refine .v (.pickT rfl (hg_6_4) rfl) ?_
       refine .nt hK14 ?_
       refine AK.cond_t rfl (rfl) ?_
       refine .sr fun _ hK15 => ?_
       refine .as rfl (.nt hK15 (.ret (.block_ret (.then_ret (.then_ret (.block_ret (.then_ret ?_)))))))
       refine AK.ret1 rfl rfl (fun w hw => ⟨_, _, ?_, rfl, Ret.of (hw.pick [] (by decide) rfl rfl)⟩)
       refine ⟨congrArg Value.bool ?_, rfl⟩
       symm; unfold validW; rw [all_at _ 0 (by omega : k < l.length) (by unfold okB; rw [decide_eq_false_iff_not]; omega), Bool.and_false]
      ·have hg_6_4' := hg_6_4
       try simp only [bs] at hg_6_4'
       refine AK.val _ (Yl.move rfl) ⟨_, rfl, gB hg_6_4⟩ rfl ?_
       refine AK.val _ (Yl.move rfl) ⟨_, rfl, gB hg_6_4⟩ rfl ?_
       first | refine AK.val _ (Yl.idxSN un9 rfl rfl (by omega)) ⟨_, rfl, gB hg_6_4⟩ rfl ?_ | refine AK.val _ (Yl.idxS un9 rfl rfl (by omega)) ⟨_, rfl, gB hg_6_4⟩ rfl ?_
       refine AK.val _ (Yl.subU8 rfl rfl (by omega)) ⟨_, rfl, gB hg_6_4⟩ rfl ?_
       refine AK.val _ (Yl.convI (by kernel_rfl) un3 rfl (wrap_i64 (by omega))) ⟨_, rfl, gB hg_6_4⟩ rfl ?_
       refine AK.val _ (Yl.move rfl) ⟨_, rfl, gB hg_6_4⟩ rfl ?_
       refine AK.val _ (Yl.geq rfl rfl) ⟨_, rfl, gB hg_6_4⟩ rfl ?_
       refine .v (.pickF rfl (hg_6_4) rfl) ?_
       refine .nt hK14 ?_
       refine AK.condD rfl (fun hc2 => ?_) (fun hc2 => ?_)
       ·refine .sr fun _ hK16 => ?_
        refine .as rfl (.nt hK16 (.ret (.block_ret (.then_ret (.then_ret (.block_ret (.then_ret ?_)))))))
        refine AK.ret1 rfl rfl (fun w hw => ⟨_, _, ?_, rfl, Ret.of (hw.pick [] (by decide) rfl rfl)⟩)
        refine ⟨congrArg Value.bool ?_, rfl⟩
        symm; unfold validW; rw [all_at _ 0 (by omega : k < l.length) (by unfold okB; rw [decide_eq_false_iff_not]; omega), Bool.and_false]
       ·refine .skip (.block_normal ?_)
        refine AK.then_ (hK12 _ ?_)
        refine AK.region ?_
        refine .v (.add rfl rfl (by omega)) ?_
        refine .mv rfl (.nil ?_)
        refine AK.then_ (hK9 _ _ (k + 1) ⟨by omega, hL, all_take_succ _ 0 (by omega) ha (by unfold okB; rw [decide_eq_true_eq]; omega)⟩ (by omega) (slr) (fun w hw => hw))
     ·refine .exit (.then_exit (.then_exit (.block_exit ?_)))
      refine AK.then_ (hK7 _ ?_)
      refine .sr fun _ hK17 => ?_
      refine .as rfl (.nt hK17 (.ret ?_))
      refine AK.ret1 rfl rfl (fun w hw => ⟨_, _, ?_, rfl, Ret.of (hw.pick [] (by decide) rfl rfl)⟩)
      refine ⟨congrArg Value.bool ?_, rfl⟩
      rw [show k = l.length by omega, List.take_length] at ha
      symm; unfold validW; rw [decide_eq_true hL, ha]; rfl

end Go.Proofs.YtdnhiinakhmhgaaGreatDoor

namespace Go.Proofs.YtdnhiinakhmhgaaGreatDoor
open Go.Sx Go.RowKit
theorem s_tz (w : World) (s : W64) (hT : TbA w) : CallS Tryz.prog 133 [uv s] w (fun r o => r = .int .i64 ((Lib.ctz 64 s.toNat : Nat) : Int) ∧ o = []) := by
 refine spec_of Tryz.func133 rfl (leb rfl) ?_
 refine .sr fun _ hK1 => ?_
 refine .as rfl (.nt hK1 ?_)
 refine .seq fun _ hK2 => ?_
 refine .sr fun _ hK3 => ?_
 refine .mv rfl ?_
 refine .v (.eqlU (b := 0) rfl rfl) ?_
 refine .nt hK3 ?_
 refine AK.condD rfl (fun hc0 => ?_) (fun hc0 => ?_)
 ·refine .sr fun _ hK4 => ?_
  refine .as rfl (.nt hK4 (.ret (.then_ret ?_)))
  refine AK.ret1 rfl rfl (fun w hw => ⟨_, _, ?_, rfl, Ret.of (hw.pick [] (by decide) rfl rfl)⟩)
  rw [hc0]
  exact ⟨rfl, rfl⟩
 ·obtain ⟨k, hk1, hk2, hk3⟩ := tz_key (s := s) hc0
  have hct := (low_bits hc0).1
  refine .skip ?_
  refine AK.then_ (hK2 _ ?_)
  refine .sr fun _ hK5 => ?_
  refine .mv rfl (.mv rfl ?_)
  refine .v (.negU rfl) ?_
  refine .v (.andU rfl rfl) ?_
  refine .v (.mulU (b := 285870213051353865) rfl rfl) ?_
  refine AK.val (.int .u64 (k : Int)) (Yl.valE (Yl.shrU (n := 58) rfl rfl (by omega)) (by show uv (((s &&& -s) * 285870213051353865) >>> 58) = _; rw [hk2]; exact uv_nat hk1)) trivial rfl ?_
  refine AK.val (.pointer (some ⟨0, k, none⟩)) (Yl.valE (Yl.idxArrU ar220 rfl rfl hk1) (by simp)) trivial rfl ?_
  refine AK.val (.int .u8 ((Lib.ctz 64 s.toNat : Nat) : Int)) (Yl.valE (Yl.loadTb on5 rfl hk1 hT) (by rw [hk3])) trivial rfl ?_
  refine .v (.convI (by kernel_rfl) un3 rfl (wrap_i64 (by omega))) ?_
  refine .as rfl (.nt hK5 (.ret ?_))
  refine AK.ret1 rfl rfl (fun w hw => ⟨_, _, ?_, rfl, Ret.of (hw.pick [] (by decide) rfl rfl)⟩)
  exact ⟨rfl, rfl⟩

theorem s_onone (w : World) (wd : List UInt8) (hl : wd.length ≤ 62) : CallS Tryz.prog 65 [.agg #[sv wd]] w (fun r o => IsSl r ∧ o = [row r 127 1 1 ([0].map uv)]) := by
 refine spec_of Tryz.func65 rfl (leb rfl) ?_
 refine .sr fun _ hK1 => ?_
 refine AK.box_ (E := 113) (cs := [sv wd]) rfl rfl rfl trivial rfl (fun bx1 => ?_)
 refine .as rfl (.nt hK1 ?_)
 refine .sr fun _ hK2 => ?_
 refine .v (.fieldAddr fd113_0 rfl) ?_
 refine .v (.loadBox on9 rfl bsp rfl) ?_
 refine .v (.lenS un9 rfl) ?_
 refine AK.val (.int .i64 0) (Yl.valE (Yl.shr (n := 6) rfl rfl (by omega) (by omega)) (by rw [div64 (by omega)])) trivial rfl ?_
 refine AK.val (.int .i64 ((1 : Nat) : Int)) (Yl.addE 1 rfl rfl (by omega) (by omega)) trivial rfl ?_
 refine AK.make1 sl115 el127 rfl rfl rfl (by omega) (by omega) trivial rfl (fun mv0 => ?_)
 refine .as rfl (.nt hK2 (.ret ?_))
 refine AK.shape 1 rfl (fun smv => ?_)
 refine AK.ret1 rfl rfl (fun w hw => ⟨_, _, ?_, rfl, Ret.of (hw.pick [1] (by decide) rfl rfl)⟩)
 exact ⟨smv, rfl⟩

theorem s_oadd (w : World) (F : Nat → Prop) (s : Value) (x : W64) (i : Nat) (hi : i < 64) (hA : (row s 127 1 1 ([x].map uv)).holds w F) : CallM Tryz.prog 66 [s, .int .i64 (i : Int)] w F (fun r A o => A = row s 127 1 1 ([(x ||| ((1 : W64) <<< i))].map uv) ∧ o = []) := by
 refine specM_of Tryz.func66 rfl (leb rfl) hA ?_
 try (conv => enter [2, 2]; simp only [nrm])
 refine AK.held 10 mixed ?_
 refine HeldK.first 0 (fuel := 10) (listed' := (lb 11 1)) _ rfl krf krf rfl (Yl.move rfl) trivial rfl ?_
 refine HeldK.first 1 (fuel := 9) (listed' := (lb 11 3)) _ rfl krf krf rfl (Yl.move rfl) trivial rfl ?_
 refine HeldK.first 2 (fuel := 8) (listed' := (lb 11 7)) _ rfl krf krf rfl (Yl.valE (Yl.shr (m := (i : Int)) (n := 6) rfl rfl (by omega) (by omega)) (show _ = Value.int .i64 ((0 : Nat) : Int) from by rw [div64 hi]; rfl)) trivial rfl ?_
 first | refine HeldK.first 3 (fuel := 7) (listed' := (lb 11 15)) _ rfl krf krf rfl (.iN sl115 rfl rfl) trivial rfl ?_ | refine HeldK.first 3 (fuel := 7) (listed' := (lb 11 15)) _ rfl krf krf rfl (.iK sl115 rfl rfl) trivial rfl ?_
 refine HeldK.first 4 (fuel := 6) (listed' := (lb 11 31)) _ rfl krf krf rfl (Yl.loadU on127 rfl rdp (leb rfl)) trivial rfl ?_
 refine HeldK.first 5 (fuel := 5) (listed' := (lb 11 63)) _ rfl krf krf rfl (Yl.move rfl) trivial rfl ?_
 refine HeldK.first 6 (fuel := 4) (listed' := (lb 11 127)) _ rfl krf krf rfl (Yl.valE (Yl.andAny rfl rfl) (show _ = Value.int .i64 (i : Int) from by rw [and63 hi])) trivial rfl ?_
 refine HeldK.first 7 (fuel := 3) (listed' := (lb 11 255)) _ rfl krf krf rfl (Yl.shlU (a := 1) (n := (i : Int)) rfl rfl (by omega)) trivial rfl ?_
 refine HeldK.first 8 (fuel := 2) (listed' := (lb 11 511)) _ rfl krf krf rfl (Yl.orU rfl rfl) trivial rfl ?_
 first | refine HeldK.first 9 (fuel := 1) (listed' := (lb 11 1023)) _ rfl krf krf rfl (.iN sl115 rfl rfl) trivial rfl ?_ | refine HeldK.first 9 (fuel := 1) (listed' := (lb 11 1023)) _ rfl krf krf rfl (.iK sl115 rfl rfl) trivial rfl ?_
 refine HeldK.one 10 (fuel := 0) (listed' := (lb 11 2047)) krf rfl krf ?_
 refine AK.store1e 0 rfl sz127 rfl rfl rfl rfl (by omega) (cs' := ([x ||| ((1 : W64) <<< i)].map uv)) (rfl) trivial ?_
 refine .nil ?_
 try (conv => enter [2, 2]; simp only [nrm])
 refine HeldK.backN 11 krf rfl krf ?_
 refine .nil ?_
 refine AK.fromQn ?_
 refine AK.endG [] rfl (.nil) (fun w hw => ⟨_, _, _, ?_, rfl, Ret.of (hw.pick [0] (by decide) rfl rfl)⟩)
 exact ⟨rfl, rfl⟩

theorem s_ohas (w : World) (s : Value) (x : W64) (i : Nat) (hi : i < 64) (hr : Rd (fun b => ¬ (fun _ => False) b) w s 1 1 ([x].map uv)) : CallS Tryz.prog 68 [s, .int .i64 (i : Int)] w (fun r o => r = .bool (x.getLsbD i) ∧ o = []) := by
 refine spec_of Tryz.func68 rfl (leb rfl) ?_
 refine .sr fun _ hK1 => ?_
 refine .as rfl (.nt hK1 ?_)
 refine .sr fun _ hK2 => ?_
 refine .mv rfl (.mv rfl ?_)
 refine .v (.valE (Yl.shr (m := (i : Int)) (n := 6) rfl rfl (by omega) (by omega)) (show _ = Value.int .i64 ((0 : Nat) : Int) from by rw [div64 hi]; rfl)) ?_
 first | refine .v (.iN sl115 rfl rfl) ?_ | refine .v (.iK sl115 rfl rfl) ?_
 refine .v (.loadU on127 rfl rdp (leb rfl)) ?_
 refine .mv rfl ?_
 refine .v (.valE (Yl.andAny rfl rfl) (show _ = Value.int .i64 (i : Int) from by rw [and63 hi])) ?_
 refine .v (.shrU (n := (i : Int)) rfl rfl (by omega)) ?_
 refine .v (.andU (b := 1) rfl rfl) ?_
 refine .v (.eqlU (b := 1) rfl rfl) ?_
 refine .as rfl (.nt hK2 (.ret ?_))
 refine AK.ret1 rfl rfl (fun w hw => ⟨_, _, ?_, rfl, Ret.of (hw.pick [] (by decide) rfl rfl)⟩)
 exact ⟨congrArg Value.bool (bit_shr x i), rfl⟩

set_option maxHeartbeats 1000000 in
theorem s_oeach (w : World) (F : Nat → Prop) (JP : List Nat → Asn → Prop) (A0 : Asn) (hJ0 : JP [] A0) (hA : A0.holds w F) (s : Value) (x : W64) (hr : Rd (fun b => ¬ F b) w s 1 1 ([x].map uv)) (hT : TbA w) (hF : ¬ F 0) (f : FuncId) (cs : List Value) (hco : CallOk Tryz.prog f) (hv : ∀ (w' : World) (F' : Nat → Prop) (A : Asn) (pre : List Nat) (i : Nat) (post : List Nat), pre ++ i :: post = mems x → JP pre A → A.holds w' F' → FrameX F w w' → (∀ b, F' b → w.heap.size ≤ b ∨ F b) → CallM Tryz.prog f (.int .i64 (i : Int) :: cs) w' F' (fun r A' o => JP (pre ++ [i]) A' ∧ o = [])) : CallM Tryz.prog 105 [s, .func (.func f) #[] cs.toArray] w F (fun r A o => JP (mems x) A ∧ o = []) := by
 have hml := mems_len x
 refine specM_of Tryz.func105 rfl (leb rfl) hA ?_
 refine .sr fun _ hK1 => ?_
 refine .mv rfl ?_
 refine .v (.lenR sl115 rfl rdp) ?_
 refine .mv rfl (.nt hK1 (.block ?_))
 refine AK.loopK (X := Nat × Asn × List Nat) [(1, _), (6, _), (7, _)] (fun z => [(8, .int .i64 (z.1 : Int))]) (fun z => [z.2.1]) (fun z => z.1 ≤ 1 ∧ JP z.2.2 z.2.1 ∧ (z.1 = 0 → z.2.2 = []) ∧ (z.1 = 1 → z.2.2 = mems x)) (fun z => 1 - z.1) ((0, A0, [])) slr ?_ ?_ ?_ ?_
 ·exact ⟨Nat.zero_le _, hJ0, fun _ => rfl, fun h => absurd h Nat.zero_ne_one⟩
 ·exact slr
 ·exact fun w hw => hw
 ·intro z hg0 _ hK2
  refine .sr fun _ hK3 => ?_
  refine .v (.lss rfl rfl) ?_
  refine .nt hK3 ?_
  refine .seq fun _ hK4 => ?_
  refine AK.condD rfl (fun hc0 => ?_) (fun hc0 => ?_)
  ·have hz : z.1 = 0 := by omega
   refine .skip ?_
   refine AK.then_ (hK4 _ ?_)
   refine .seq fun _ hK5 => ?_
   refine .block ?_
   refine .sr fun _ hK6 => ?_
   refine .mv rfl ?_
   first | refine .v (.iN sl115 rfl rfl) ?_ | refine .v (.iK sl115 rfl rfl) ?_
   refine AK.val (uv x) (Yl.valE (Yl.loadU (xs := [x]) on127 rfl rdp (by show z.1 < 1; omega)) (by rw [hz]; rfl)) trivial rfl ?_
   refine .as rfl (.as rfl (.nt hK6 (.block ?_)))
   refine AK.loopK (X := W64 × Asn × List Nat) [(1, _), (4, _), (6, _), (7, _), (8, _)] (fun y => [(5, uv y.1)]) (fun y => [y.2.1]) (fun y => y.2.2 ++ mems y.1 = mems x ∧ JP y.2.2 y.2.1) (fun y => (mems y.1).length) ((x, z.2.1, z.2.2)) slr ?_ ?_ ?_ ?_
   ·exact ⟨by dsimp only; rw [hg0.2.2.1 (by omega)]; rfl, hg0.2.1⟩
   ·exact slr
   ·exact fun w hw => hw
   ·intro y hg1 _ hK7
    refine .seq fun _ hK8 => ?_
    refine .sr fun _ hK9 => ?_
    refine .mv rfl ?_
    refine .v (.neqU (b := 0) rfl rfl) ?_
    refine .nt hK9 ?_
    refine AK.condNe rfl (fun hc1 => ?_) (fun hc1 => ?_)
    ·have hnx := mems_next hc1
     have hcb := (low_bits hc1).1
     refine .skip ?_
     refine AK.then_ (hK8 _ ?_)
     refine .seq fun _ hK10 => ?_
     refine .block ?_
     refine AK.region ?_
     refine .mv rfl (.mv rfl ?_)
     refine .v (.valE (Yl.shlI 0 rfl rfl (by omega) (by rw [hz]; rfl) (by omega)) (show _ = Value.int .i64 0 from rfl)) ?_
     refine .mv rfl ?_
     refine AK.call co133 rfl (fun w hw => s_tz w y.1 (hT.at hw hF)) trivial rfl ?_
     rintro r o ⟨rfl, rfl⟩
     refine AK.val (.int .i64 ((Lib.ctz 64 y.1.toNat : Nat) : Int)) (Yl.valE (Yl.add rfl rfl (by omega)) (by rw [Int.zero_add])) trivial rfl ?_
     refine AK.callVN 0 rfl (us := []) (cs := cs) hco rfl rfl (fun w Fs hw hh hfr hal => hv w (Fs 0) y.2.1 y.2.2 (Lib.ctz 64 y.1.toNat) (mems (y.1 &&& (y.1 - 1))) (by rw [← hnx]; exact hg1.1) hg1.2 (hh.at_ 0 _ rfl) hfr (hal 0)) trivial rfl ?_
     rintro r A o ⟨hJ1, rfl⟩
     refine .nil (.block_normal ?_)
     refine AK.then_ (hK10 _ ?_)
     refine AK.region ?_
     refine .mv rfl (.mv rfl ?_)
     refine .v (.subU (b := 1) rfl rfl) ?_
     refine .v (.andU rfl rfl) ?_
     refine .as rfl (.nil ?_)
     refine AK.then_ (hK7 _ _ ((y.1 &&& (y.1 - 1), A, y.2.2 ++ [Lib.ctz 64 y.1.toNat])) ⟨by dsimp only; rw [← hg1.1, hnx, List.append_assoc]; rfl, hJ1⟩ (by dsimp only; rw [hnx]; simp) (slr) (fun w hw => hw))
    ·refine .exit (.then_exit (.then_exit (.block_exit (.block_normal ?_))))
     refine AK.then_ (hK5 _ ?_)
     refine AK.region ?_
     refine .v (.add rfl rfl (by omega)) ?_
     refine .mv rfl (.nil ?_)
     refine AK.then_ (hK2 _ _ ((z.1 + 1, y.2.1, y.2.2)) ⟨by dsimp only; omega, hg1.2, fun h => absurd h (by dsimp only; omega), fun _ => by have h := hg1.1; rw [show y.1 = 0 by assumption, mems_zero, List.append_nil] at h; exact h⟩ (by dsimp only; omega) (slr) (fun w hw => hw))
  ·refine .exit (.then_exit (.then_exit (.block_exit ?_)))
   refine AK.endG [] rfl (.nil) (fun w hw => ⟨_, _, _, ?_, rfl, Ret.of (hw.pick [0] (by decide) rfl rfl)⟩)
   exact ⟨(hg0.2.2.2 (by omega)) ▸ hg0.2.1, rfl⟩

set_option maxHeartbeats 1000000 in
theorem s_ends1 (w : World) (F : Nat → Prop) (e : Ex) (s : Value) (wd : List UInt8) (hl : wd.length ≤ 62) (hv : validW 6 wd = true) (i : Nat) (hi : i ≤ wd.length) (bm be br : Nat) (vr : Value) (hA : (bigA [box bm 113 1 [sv wd], box be 65 3 [.int .i64 e.op, .int .i64 e.lt, s], box br 117 1 [vr], row vr 115 1 (wd.length + 1) (List.replicate (wd.length + 1) nilV)]).holds w F) : CallM Tryz.prog 106 [.int .i64 (i : Int), .pointer (some ⟨bm, 0, none⟩), .pointer (some ⟨br, 0, none⟩), .pointer (some ⟨be, 0, none⟩)] w F (fun r A o => ∃ nv, IsSl nv ∧ A = bigA [box bm 113 1 [sv wd], box be 65 3 [.int .i64 e.op, .int .i64 e.lt, s], box br 117 1 [vr], row vr 115 1 (wd.length + 1) ((List.replicate (wd.length + 1) nilV).set i nv), row nv 127 1 1 ([leafS e wd i].map uv)] ∧ o = []) := by
 refine specM_of' Tryz.func106 rfl (leb rfl) hA ?_
 refine .seq fun _ hK1 => ?_
 try (conv => enter [2, 2]; simp only [nrm])
 refine AK.held 5 mixed ?_
 refine HeldK.first 0 (fuel := 5) (listed' := (lb 6 1)) _ rfl krf krf rfl (Yl.loadBox on117 rfl bsp rfl) trivial rfl ?_
 refine HeldK.first 1 (fuel := 4) (listed' := (lb 6 3)) _ rfl krf krf rfl (Yl.move rfl) trivial rfl ?_
 refine HeldK.first 2 (fuel := 3) (listed' := (lb 6 7)) _ rfl krf krf rfl (Yl.loadBoxG ag113 rfl bsp rfl rfl) trivial rfl ?_
 refine HeldK.one 3 (fuel := 2) (listed' := (lb 6 15)) krf rfl krf ?_
 refine AK.call co65 rfl (fun w hw => s_onone w wd hl) trivial rfl ?_
 rintro nv o ⟨snv, rfl⟩
 refine .nil ?_
 try (conv => enter [2, 2]; simp only [nrm])
 refine HeldK.back Go.Sx.hle ?_
 first | refine HeldK.first 4 (fuel := 1) (listed' := (lb 6 31)) _ rfl krf krf rfl (.iN sl117 rfl rfl) trivial rfl ?_ | refine HeldK.first 4 (fuel := 1) (listed' := (lb 6 31)) _ rfl krf krf rfl (.iK sl117 rfl rfl) trivial rfl ?_
 refine HeldK.one 5 (fuel := 0) (listed' := (lb 6 63)) krf rfl krf ?_
 refine AK.store1 3 rfl sz115 rfl rfl (IsSl.cells snv) (IsSl.one snv) (by omega) trivial ?_
 refine .nil ?_
 try (conv => enter [2, 2]; simp only [nrm])
 refine HeldK.backN 6 krf rfl krf ?_
 refine .nil ?_
 refine AK.fromQn ?_
 refine AK.then_ (hK1 _ ?_)
 refine .block ?_
 refine .sr fun _ hK2 => ?_
 refine .v (.fieldAddr fd65_0 rfl) ?_
 refine .v (.loadBox on3 rfl bsp rfl) ?_
 refine .v (.eql rfl rfl) ?_
 refine .as rfl (.nt hK2 ?_)
 refine AK.condD rfl (fun hc0 => ?_) (fun hc0 => ?_)
 ·refine AK.region ?_
  refine .v (.loadBox on117 rfl bsp rfl) ?_
  refine .mv rfl ?_
  first | refine .v (.iN sl117 rfl rfl) ?_ | refine .v (.iK sl117 rfl rfl) ?_
  refine AK.val nv (Yl.valE (Yl.loadV on115 rfl rdp (by rw [List.length_set, List.length_replicate]; omega)) (rep_get (by omega))) trivial rfl ?_
  refine .mv rfl ?_
  refine AK.callN 4 rfl co66 rfl (fun w Fs hw hh hfr hal => s_oadd w (Fs 4) nv 0 i (by omega) (hh.at_ 4 _ rfl)) trivial rfl ?_
  rintro r A o ⟨rfl, rfl⟩
  refine .nil (.block_normal ?_)
  refine AK.endG [] rfl (.nil) (fun w hw => ⟨_, _, _, ?_, rfl, Ret.ofBig0 hw⟩)
  refine ⟨nv, snv, ?_, rfl⟩
  first | (rw [show leafS e wd i = 0 ||| (1 : W64) <<< i from if_pos hc0] <;> rfl) | (rw [show leafS e wd i = 0 ||| (1 : W64) <<< (i + 1) from by unfold leafS; rw [if_neg hc0, if_pos (by first | omega | grind)]] <;> rfl) | (rw [show leafS e wd i = 0 from by unfold leafS; rw [if_neg hc0, if_neg (by first | omega | grind)]] <;> rfl)
 ·refine .seq fun _ hK3 => ?_
  refine AK.quiet mixed krf ?_
  refine .v (.fieldAddr fd65_0 rfl) ?_
  refine .v (.loadBox on3 rfl bsp rfl) ?_
  refine .v (.eql rfl rfl) ?_
  refine .mv rfl ?_
  refine QK.splitB (g := 24) rfl (fun hg_3_3 => ?_) (fun hg_3_3 => ?_)
  ·have hg_3_3' := hg_3_3
   try simp only [bs] at hg_3_3'
   refine QK.val _ (Yl.move rfl) ⟨_, rfl, gB hg_3_3⟩ rfl ?_
   refine QK.val _ (Yl.fieldAddr fd113_0 rfl) ⟨_, rfl, gB hg_3_3⟩ rfl ?_
   refine QK.val _ (Yl.loadBox on9 rfl bsp rfl) ⟨_, rfl, gB hg_3_3⟩ rfl ?_
   refine QK.val _ (Yl.lenS un9 rfl) ⟨_, rfl, gB hg_3_3⟩ rfl ?_
   refine QK.val _ (Yl.lss rfl rfl) ⟨_, rfl, gB hg_3_3⟩ rfl ?_
   refine .v (.pickT rfl (hg_3_3) rfl) ?_
   refine .mv rfl ?_
   refine QK.splitB (g := 31) rfl (fun hg_3_10 => ?_) (fun hg_3_10 => ?_)
   ·have hg_3_10' := hg_3_10
    try simp only [bs] at hg_3_10'
    refine QK.val _ (Yl.fieldAddr fd113_0 rfl) ⟨_, rfl, gB hg_3_10⟩ rfl ?_
    refine QK.val _ (Yl.loadBox on9 rfl bsp rfl) ⟨_, rfl, gB hg_3_10⟩ rfl ?_
    refine QK.val _ (Yl.move rfl) ⟨_, rfl, gB hg_3_10⟩ rfl ?_
    first | refine QK.val _ (Yl.idxSN un9 rfl rfl (by omega)) ⟨_, rfl, gB hg_3_10⟩ rfl ?_ | refine QK.val _ (Yl.idxS un9 rfl rfl (by omega)) ⟨_, rfl, gB hg_3_10⟩ rfl ?_
    refine QK.val _ (Yl.subU8 rfl rfl (by have := valid97 hv (i := i) (by omega); omega)) ⟨_, rfl, gB hg_3_10⟩ rfl ?_
    refine QK.val _ (Yl.convI (by kernel_rfl) un3 rfl (wrap_i64 (by have := valid97 hv (i := i) (by omega); omega))) ⟨_, rfl, gB hg_3_10⟩ rfl ?_
    refine QK.val _ (Yl.fieldAddr fd65_1 rfl) ⟨_, rfl, gB hg_3_10⟩ rfl ?_
    refine QK.val _ (Yl.loadBox on3 rfl bsp rfl) ⟨_, rfl, gB hg_3_10⟩ rfl ?_
    refine QK.val _ (Yl.eql rfl rfl) ⟨_, rfl, gB hg_3_10⟩ rfl ?_
    refine .v (.pickT rfl (hg_3_10) rfl) ?_
    refine .as rfl ?_
    refine QK.nil (QK.fin ?_)
    refine AK.then_ (hK3 _ ?_)
    refine AK.condD rfl (fun hc1 => ?_) (fun hc1 => ?_)
    ·refine AK.region ?_
     refine .v (.loadBox on117 rfl bsp rfl) ?_
     refine .mv rfl ?_
     first | refine .v (.iN sl117 rfl rfl) ?_ | refine .v (.iK sl117 rfl rfl) ?_
     refine AK.val nv (Yl.valE (Yl.loadV on115 rfl rdp (by rw [List.length_set, List.length_replicate]; omega)) (rep_get (by omega))) trivial rfl ?_
     refine .mv rfl ?_
     refine .v (.add rfl rfl (by omega)) ?_
     refine AK.callN 4 rfl co66 rfl (fun w Fs hw hh hfr hal => s_oadd w (Fs 4) nv 0 (i + 1) (by omega) (hh.at_ 4 _ rfl)) trivial rfl ?_
     rintro r A o ⟨rfl, rfl⟩
     refine .nil (.block_normal ?_)
     refine AK.endG [] rfl (.nil) (fun w hw => ⟨_, _, _, ?_, rfl, Ret.ofBig0 hw⟩)
     refine ⟨nv, snv, ?_, rfl⟩
     first | (rw [show leafS e wd i = 0 ||| (1 : W64) <<< i from if_pos hc0] <;> rfl) | (rw [show leafS e wd i = 0 ||| (1 : W64) <<< (i + 1) from by unfold leafS; rw [if_neg hc0, if_pos (by first | omega | grind)]] <;> rfl) | (rw [show leafS e wd i = 0 from by unfold leafS; rw [if_neg hc0, if_neg (by first | omega | grind)]] <;> rfl)
    ·refine .skip (.block_normal ?_)
     refine AK.endG [] rfl (.nil) (fun w hw => ⟨_, _, _, ?_, rfl, Ret.ofBig0 hw⟩)
     refine ⟨nv, snv, ?_, rfl⟩
     first | (rw [show leafS e wd i = 0 ||| (1 : W64) <<< i from if_pos hc0] <;> rfl) | (rw [show leafS e wd i = 0 ||| (1 : W64) <<< (i + 1) from by unfold leafS; rw [if_neg hc0, if_pos (by first | omega | grind)]] <;> rfl) | (rw [show leafS e wd i = 0 from by unfold leafS; rw [if_neg hc0, if_neg (by first | omega | grind)]] <;> rfl)
   ·have hg_3_10' := hg_3_10
    try simp only [bs] at hg_3_10'
    refine QK.pass rfl rfl (hg_3_10) rfl ?_
    refine QK.pass rfl rfl (hg_3_10) rfl ?_
    refine QK.pass rfl rfl (hg_3_10) rfl ?_
    refine QK.pass rfl rfl (hg_3_10) rfl ?_
    refine QK.pass rfl rfl (hg_3_10) rfl ?_
    refine QK.pass rfl rfl (hg_3_10) rfl ?_
    refine QK.pass rfl rfl (hg_3_10) rfl ?_
    refine QK.pass rfl rfl (hg_3_10) rfl ?_
    refine QK.pass rfl rfl (hg_3_10) rfl ?_
    refine .v (.pickF rfl (hg_3_10) rfl) ?_
    refine .as rfl ?_
    refine QK.nil (QK.fin ?_)
    refine AK.then_ (hK3 _ ?_)
    refine AK.cond_f rfl (rfl) ?_
    refine .skip (.block_normal ?_)
    refine AK.endG [] rfl (.nil) (fun w hw => ⟨_, _, _, ?_, rfl, Ret.ofBig0 hw⟩)
    refine ⟨nv, snv, ?_, rfl⟩
    first | (rw [show leafS e wd i = 0 ||| (1 : W64) <<< i from if_pos hc0] <;> rfl) | (rw [show leafS e wd i = 0 ||| (1 : W64) <<< (i + 1) from by unfold leafS; rw [if_neg hc0, if_pos (by first | omega | grind)]] <;> rfl) | (rw [show leafS e wd i = 0 from by unfold leafS; rw [if_neg hc0, if_neg (by first | omega | grind)]] <;> rfl)
  ·have hg_3_3' := hg_3_3
   try simp only [bs] at hg_3_3'
   refine QK.pass rfl rfl (hg_3_3) rfl ?_
   refine QK.pass rfl rfl (hg_3_3) rfl ?_
   refine QK.pass rfl rfl (hg_3_3) rfl ?_
   refine QK.pass rfl rfl (hg_3_3) rfl ?_
   refine QK.pass rfl rfl (hg_3_3) rfl ?_
   refine .v (.pickF rfl (hg_3_3) rfl) ?_
   refine .mv rfl ?_
   refine QK.pass rfl rfl rfl rfl ?_
   refine QK.pass rfl rfl rfl rfl ?_
   refine QK.pass rfl rfl rfl rfl ?_
   refine QK.pass rfl rfl rfl rfl ?_
   refine QK.pass rfl rfl rfl rfl ?_
   refine QK.pass rfl rfl rfl rfl ?_
   refine QK.pass rfl rfl rfl rfl ?_
   refine QK.pass rfl rfl rfl rfl ?_
   refine QK.pass rfl rfl rfl rfl ?_
   refine .v (.pickF rfl (rfl) rfl) ?_
   refine .as rfl ?_
   refine QK.nil (QK.fin ?_)
   refine AK.then_ (hK3 _ ?_)
   refine AK.cond_f rfl (rfl) ?_
   refine .skip (.block_normal ?_)
   refine AK.endG [] rfl (.nil) (fun w hw => ⟨_, _, _, ?_, rfl, Ret.ofBig0 hw⟩)
   refine ⟨nv, snv, ?_, rfl⟩
   first | (rw [show leafS e wd i = 0 ||| (1 : W64) <<< i from if_pos hc0] <;> rfl) | (rw [show leafS e wd i = 0 ||| (1 : W64) <<< (i + 1) from by unfold leafS; rw [if_neg hc0, if_pos (by first | omega | grind)]] <;> rfl) | (rw [show leafS e wd i = 0 from by unfold leafS; rw [if_neg hc0, if_neg (by first | omega | grind)]] <;> rfl)

theorem leaf_visit (e : Ex) (s : Value) (wd : List UInt8) (hl : wd.length ≤ 62) (hv : validW 6 wd = true) (bm be br : Nat) (vr : Value) (x : W64) (hx : mems x = [0]) (w : World) (F : Nat → Prop) (A : Asn) (pre : List Nat) (i : Nat) (post : List Nat) (hp : pre ++ i :: post = mems x) (hJ : (fun (l : List Nat) (A : Asn) => (l = [] ∧ A = bigA [box bm 113 1 [sv wd], box be 65 3 [.int .i64 e.op, .int .i64 e.lt, s], box br 117 1 [vr], row vr 115 1 (wd.length + 1) (List.replicate (wd.length + 1) nilV)]) ∨ (l = [0] ∧ ∃ nv, IsSl nv ∧ A = bigA [box bm 113 1 [sv wd], box be 65 3 [.int .i64 e.op, .int .i64 e.lt, s], box br 117 1 [vr], row vr 115 1 (wd.length + 1) ((List.replicate (wd.length + 1) nilV).set 0 nv), row nv 127 1 1 ([leafS e wd 0].map uv)])) pre A) (hA : A.holds w F) :
    CallM Tryz.prog 106 [.int .i64 (i : Int), .pointer (some ⟨bm, 0, none⟩), .pointer (some ⟨br, 0, none⟩), .pointer (some ⟨be, 0, none⟩)] w F (fun r A' o => (fun (l : List Nat) (A : Asn) => (l = [] ∧ A = bigA [box bm 113 1 [sv wd], box be 65 3 [.int .i64 e.op, .int .i64 e.lt, s], box br 117 1 [vr], row vr 115 1 (wd.length + 1) (List.replicate (wd.length + 1) nilV)]) ∨ (l = [0] ∧ ∃ nv, IsSl nv ∧ A = bigA [box bm 113 1 [sv wd], box be 65 3 [.int .i64 e.op, .int .i64 e.lt, s], box br 117 1 [vr], row vr 115 1 (wd.length + 1) ((List.replicate (wd.length + 1) nilV).set 0 nv), row nv 127 1 1 ([leafS e wd 0].map uv)])) (pre ++ [i]) A' ∧ o = []) := by
  rw [hx] at hp
  obtain ⟨rfl, rfl, rfl⟩ : pre = [] ∧ i = 0 ∧ post = [] := by
    cases pre with
    | nil => simpa using hp
    | cons a t => simp at hp
  obtain ⟨_, rfl⟩ : _ ∧ _ := by
    rcases hJ with h | ⟨h, _⟩
    · exact h
    · cases h
  refine (s_ends1 w F e s wd hl hv 0 (Nat.zero_le _) bm be br vr hA).mono ?_
  rintro E w' ⟨v, A', own', ⟨nv, snv, hA', ho⟩, h1, h2⟩
  exact ⟨v, A', own', ⟨.inr ⟨rfl, nv, snv, hA'⟩, ho⟩, h1, h2⟩
set_option maxHeartbeats 1000000 in
theorem s_ends (w : World) (e : Ex) (s : Value) (wd : List UInt8) (hl : wd.length ≤ 62) (hv : validW 6 wd = true) (hlf : leafOp e) (f : Value) (x : W64) (hx : mems x = [0]) (hr : RdL (fun _ => False) uv w f [x]) (hT : TbA w) : CallS Tryz.prog 67 [.agg #[sv wd], .agg #[.int .i64 e.op, .int .i64 e.lt, s], f] w (fun r o => ∃ nv, IsSl nv ∧ o = [row r 115 1 (wd.length + 1) ((List.replicate (wd.length + 1) nilV).set 0 nv), row nv 127 1 1 ([leafS e wd 0].map uv)]) := by
 obtain ⟨n4, n5, n6, n7, n8⟩ := hlf
 refine spec_of Tryz.func67 rfl (leb rfl) ?_
 refine .sr fun _ hK1 => ?_
 refine AK.box_ (E := 113) (cs := [sv wd]) rfl rfl rfl trivial rfl (fun bx3 => ?_)
 refine AK.box_ (E := 65) (cs := [.int .i64 e.op, .int .i64 e.lt, s]) rfl rfl rfl trivial rfl (fun bx4 => ?_)
 refine .as rfl (.nt hK1 ?_)
 refine .seq fun _ hK2 => ?_
 refine .sr fun _ hK3 => ?_
 refine .v (.fieldAddr fd65_0 rfl) ?_
 refine .v (.loadBox on3 rfl bsp rfl) ?_
 refine .nt hK3 (.block ?_)
 refine .sr fun _ hK4 => ?_
 refine .v (.eql rfl rfl) ?_
 refine .as rfl (.nt hK4 ?_)
 refine AK.cond_f rfl (decide_eq_false n5) ?_
 refine .sr fun _ hK5 => ?_
 refine .v (.eql rfl rfl) ?_
 refine .as rfl (.nt hK5 ?_)
 refine AK.cond_f rfl (decide_eq_false n7) ?_
 refine .seq fun _ hK6 => ?_
 refine .sr fun _ hK7 => ?_
 refine .v (.eql rfl rfl) ?_
 refine .as rfl (.nt hK7 ?_)
 refine AK.cond_f rfl (decide_eq_false n4) ?_
 refine AK.region ?_
 refine .v (.eql rfl rfl) ?_
 refine .as rfl (.nt hK6 ?_)
 refine AK.cond_f rfl (decide_eq_false n6) ?_
 refine .sr fun _ hK8 => ?_
 refine .v (.eql rfl rfl) ?_
 refine .as rfl (.nt hK8 ?_)
 refine AK.cond_f rfl (decide_eq_false n8) ?_
 refine .skip (.block_normal ?_)
 refine AK.then_ (hK2 _ ?_)
 refine .sr fun _ hK9 => ?_
 refine .v (.fieldAddr fd113_0 rfl) ?_
 refine .v (.loadBox on9 rfl bsp rfl) ?_
 refine .v (.lenS un9 rfl) ?_
 refine AK.val (.int .i64 ((wd.length + 1 : Nat) : Int)) (Yl.addE (wd.length + 1) rfl rfl (by omega) (by omega)) trivial rfl ?_
 refine AK.make1 sl117 el115 rfl rfl rfl (by omega) (by omega) trivial rfl (fun mv0 => ?_)
 refine AK.shape 2 rfl (fun smv => ?_)
 refine AK.alloc el117 rfl rfl trivial rfl (fun bx7 => ?_)
 refine AK.storeBox 3 (us := [mv0]) (cs' := [mv0]) rfl sz117 rfl rfl (by rw [IsSl.cells smv]) rfl oneP (leb rfl) rfl trivial ?_
 refine .nt hK9 ?_
 refine .sr fun _ hK10 => ?_
 refine .mv rfl ?_
 refine .v (.makeFunc (first := []) (captured := [.tmp 3, .tmp 7, .tmp 4]) rfl rfl) ?_
 refine AK.own' [bigA [box bx3 113 1 [sv wd], box bx4 65 3 [.int .i64 e.op, .int .i64 e.lt, s], box bx7 117 1 [mv0], row mv0 115 1 (wd.length + 1) (List.replicate (wd.length + 1) nilV)]] (fun w hw => by have h := HW.unflat (l := [box bx3 113 1 [sv wd], box bx4 65 3 [.int .i64 e.op, .int .i64 e.lt, s], box bx7 117 1 [mv0], row mv0 115 1 (wd.length + 1) (List.replicate (wd.length + 1) nilV)]) (own := []) (hw.pick [0, 1, 3, 2] (by decide) rfl rfl); exact h) ?_
 refine AK.callN 0 rfl co105 rfl (fun w Fs hw hh hfr hal => s_oeach w (Fs 0) (fun (l : List Nat) (A : Asn) => (l = [] ∧ A = bigA [box bx3 113 1 [sv wd], box bx4 65 3 [.int .i64 e.op, .int .i64 e.lt, s], box bx7 117 1 [mv0], row mv0 115 1 (wd.length + 1) (List.replicate (wd.length + 1) nilV)]) ∨ (l = [0] ∧ ∃ nv, IsSl nv ∧ A = bigA [box bx3 113 1 [sv wd], box bx4 65 3 [.int .i64 e.op, .int .i64 e.lt, s], box bx7 117 1 [mv0], row mv0 115 1 (wd.length + 1) ((List.replicate (wd.length + 1) nilV).set 0 nv), row nv 127 1 1 ([leafS e wd 0].map uv)])) (bigA [box bx3 113 1 [sv wd], box bx4 65 3 [.int .i64 e.op, .int .i64 e.lt, s], box bx7 117 1 [mv0], row mv0 115 1 (wd.length + 1) (List.replicate (wd.length + 1) nilV)]) (.inl ⟨rfl, rfl⟩) (hh.at_ 0 _ rfl) f x (RdL.off (f := uv) (xs := [x]) hr hfr hal) (hT.at hw) (fun h0 => by rcases hal 0 0 h0 with h | h; exact absurd h (Nat.not_le.2 hT.lt); exact h) 106 [.pointer (some ⟨bx3, 0, none⟩), .pointer (some ⟨bx7, 0, none⟩), .pointer (some ⟨bx4, 0, none⟩)] co106 (fun w' F' A pre i post hp hJ hA _ _ => leaf_visit e s wd hl hv bx3 bx4 bx7 mv0 x hx w' F' A pre i post hp hJ hA)) trivial rfl ?_
 rintro r A o ⟨hJ, rfl⟩
 obtain ⟨nv, snv, rfl⟩ : ∃ nv, IsSl nv ∧ A = bigA [box bx3 113 1 [sv wd], box bx4 65 3 [.int .i64 e.op, .int .i64 e.lt, s], box bx7 117 1 [mv0], row mv0 115 1 (wd.length + 1) ((List.replicate (wd.length + 1) nilV).set 0 nv), row nv 127 1 1 ([leafS e wd 0].map uv)] := by
  rcases hJ with ⟨h, _⟩ | ⟨_, h⟩
  ·rw [hx] at h; cases h
  ·exact h
 refine AK.flat0 rfl ?_
 refine .nt hK10 ?_
 refine .sr fun _ hK11 => ?_
 refine .v (.loadBox on117 rfl bsp rfl) ?_
 refine .as rfl (.nt hK11 (.ret ?_))
 refine AK.ret1 rfl rfl (fun w hw => ⟨_, _, ?_, rfl, Ret.of (hw.pick [3, 4] (by decide) rfl rfl)⟩)
 exact ⟨nv, snv, rfl⟩

set_option maxHeartbeats 1000000 in
theorem s_match (w : World) (e : Ex) (s : Value) (h : RdK (cellR (fun _ => False) w) s e.kids) (wd : List UInt8) (hl : wd.length ≤ 62) (hv : validW 6 wd = true) (he : validE e 6 = 0) (hlf : leafOp e) (hT : TbA w) : CallS Tryz.prog 33 [.agg #[.int .i64 e.op, .int .i64 e.lt, s], sv wd] w (fun r o => r = .bool ((leafS e wd 0).getLsbD wd.length) ∧ o = []) := by
 refine spec_of Tryz.func33 rfl (leb rfl) ?_
 refine .sr fun _ hK1 => ?_
 refine AK.box_ (E := 65) (cs := [.int .i64 e.op, .int .i64 e.lt, s]) rfl rfl rfl trivial rfl (fun bx2 => ?_)
 refine .as rfl (.nt hK1 ?_)
 refine .seq fun _ hK2 => ?_
 refine .sr fun _ hK3 => ?_
 refine .v (.loadBoxG ag65 rfl bsp rfl rfl) ?_
 refine AK.call co64 rfl (fun w hw => s_val6 w e s (h.at hw)) trivial rfl ?_
 rintro r o ⟨rfl, rfl⟩
 refine .v (.not rfl) ?_
 refine .mv rfl ?_
 refine AK.knownF (g := 10) rfl (by rw [he]; rfl) (fun hg_1_3 => ?_)
 refine AK.val _ (Yl.move rfl) ⟨_, rfl, gB hg_1_3⟩ rfl ?_
 refine AK.call co42 rfl (fun w hw => s_wvalid w wd 6 (by omega)) ⟨_, rfl, gB hg_1_3⟩ rfl ?_
 rintro r o ⟨rfl, rfl⟩
 refine AK.val _ (Yl.not rfl) ⟨_, rfl, gB hg_1_3⟩ rfl ?_
 refine .v (.pickF rfl (hg_1_3) rfl) ?_
 refine .nt hK3 ?_
 refine AK.cond_f rfl (by rw [hv]; rfl) ?_
 refine .skip ?_
 refine AK.then_ (hK2 _ ?_)
 refine .sr fun _ hK4 => ?_
 refine .mv rfl ?_
 refine .v (.build (parts := [(0, .tmp 15)]) (cs := #[sv wd]) rfl (by kernel_rfl)) ?_
 refine AK.alloc el113 rfl rfl trivial rfl (fun bx5 => ?_)
 refine AK.storeBox 1 (us := [sv wd]) (cs' := [sv wd]) rfl sz113 rfl rfl rfl rfl oneP (leb rfl) rfl trivial ?_
 refine .nt hK4 ?_
 refine .sr fun _ hK5 => ?_
 refine .v (.loadBoxG ag113 rfl bsp rfl rfl) ?_
 refine AK.call co65 rfl (fun w hw => s_onone w wd hl) trivial rfl ?_
 rintro fv o ⟨sfv, rfl⟩
 refine .as rfl (.nt hK5 ?_)
 refine .sr fun _ hK6 => ?_
 refine .mv rfl ?_
 refine AK.callN 2 rfl co66 rfl (fun w Fs hw hh hfr hal => s_oadd w (Fs 2) fv 0 0 (by omega) (hh.at_ 2 _ rfl)) trivial rfl ?_
 rintro r A o ⟨rfl, rfl⟩
 refine .nt hK6 ?_
 refine .sr fun _ hK7 => ?_
 refine .v (.loadBoxG ag113 rfl bsp rfl rfl) ?_
 refine .v (.loadBoxG ag65 rfl bsp rfl rfl) ?_
 refine .mv rfl ?_
 refine AK.call co67 rfl (fun w hw => s_ends w e s wd hl hv hlf fv (0 ||| (1 : W64) <<< 0) (by decide +kernel) (Rd.mono (RdS.own 2 rfl w hw) (fun b _ _ => ⟨id, rfl⟩)) (hT.at hw)) trivial rfl ?_
 rintro rv o ⟨nv, snv, rfl⟩
 refine .v (.idxN (k := 0) sl117 rfl rfl rdp (by decide) (by omega)) ?_
 refine AK.val nv (Yl.valE (Yl.loadV on115 rfl rdp (by rw [List.length_set, List.length_replicate]; omega)) (rep_get (by omega))) trivial rfl ?_
 refine .mv rfl ?_
 refine .v (.lenS un9 rfl) ?_
 refine AK.call co68 rfl (fun w hw => s_ohas w nv (leafS e wd 0) wd.length (by omega) (Rd.mono (RdS.own 4 rfl w hw) (fun b _ _ => ⟨id, rfl⟩))) trivial rfl ?_
 rintro r o ⟨rfl, rfl⟩
 refine .as rfl (.nt hK7 (.ret ?_))
 refine AK.ret1 rfl rfl (fun w hw => ⟨_, _, ?_, rfl, Ret.of (hw.pick [] (by decide) rfl rfl)⟩)
 exact ⟨rfl, rfl⟩

end Go.Proofs.YtdnhiinakhmhgaaGreatDoor
