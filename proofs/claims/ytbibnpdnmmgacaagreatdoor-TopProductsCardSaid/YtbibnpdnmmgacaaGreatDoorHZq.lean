import Derived.Test.YtbibnpdnmmgacaaGreatDoorHZp
import Derived.Test.YtbibnpdnmmgacaaGreatDoorHZe
import Derived.Test.YtbibnpdnmmgacaaGreatDoorHZj
import Derived.Test.YtbibnpdnmmgacaaGreatDoorHZd
import Derived.Test.YtbibnpdnmmgacaaGreatDoorHZf
set_option linter.unusedVariables false
set_option linter.unusedSimpArgs false
set_option maxRecDepth 100000
namespace Go.Proofs.YtbibnpdnmmgacaaGreatDoor
open Go.Sx Go.RowKit
theorem two_kids {R : Addr → Value → Prop} {s t : Value} {a b : Ex} (h1 : RdK R s a.kids) (h2 : RdK R t b.kids) : ∀ k, k < [a, b].length → RdK R ([s, t].getD k undef) ([a, b].getD k default).kids
  | 0, _ => h1
  | 1, _ => h2
  | k + 2, h => absurd h (by simp)
theorem one_kid {R : Addr → Value → Prop} {s : Value} {a : Ex} (h1 : RdK R s a.kids) : ∀ k, k < [a].length → RdK R ([s].getD k undef) ([a].getD k default).kids
  | 0, _ => h1
  | k + 1, h => absurd h (by simp)
theorem s_buildS (w : World) (e : Ex) (s : Value) (h : RdK (cellR (fun _ => False) w) s e.kids) (n : Int) (res : Dfa × Int) (hb : buildE e n = some res) : CallS Tryz.prog 11 [.agg #[.int .i64 e.op, .int .i64 e.lt, s], .int .i64 n] w (fun r o => ∃ vF vN rs, r = .tuple #[.agg #[.int .i64 res.1.L, .int .i64 res.1.s, vF, vN], .int .i64 res.2] ∧ rs.length = res.1.nx.length ∧ IsSl vF ∧ IsSl vN ∧ o = dfaO 4 3 67 vF vN rs res.1) :=
  CallS.post (CallS.ofM (s_build w (fun _ => False) (baseB w) [.deep s e.kids] (baseOk w) (base_forest (fun x hx => by rw [List.mem_singleton.1 hx]; exact base_deep h)) e s List.mem_cons_self n res hb)) (fun v o w' hp hr => by
    obtain ⟨A', o', ⟨vF, vN, rs, e1, e2, e3, e4, rfl, rfl⟩, rfl⟩ := hp
    exact ⟨_, ⟨vF, vN, rs, e1, e2, e3, e4, rfl⟩, hr.flat⟩)
set_option maxHeartbeats 1000000 in
theorem s_built (w : World) (e : Ex) (s : Value) (h : RdK (cellR (fun _ => False) w) s e.kids) (hv : validE e 2 = 0) (hs : szE e ≤ 20) : CallS Tryz.prog 19 [.agg #[.int .i64 e.op, .int .i64 e.lt, s]] w (fun r o => ∃ (d9 : Dfa) (e9 : Int) (vF vN : Value) (rs : List Value), LngOk 2 (LE e) d9 e9 ∧ rs.length = d9.nx.length ∧ IsSl vF ∧ IsSl vN ∧ r = .tuple #[.agg #[.int .i64 d9.L, .int .i64 d9.s, vF, vN], .int .i64 e9] ∧ o = dfaO 4 3 67 vF vN rs d9) := by
 have sk := h.sl
 obtain ⟨d, er, hbe, hok⟩ := build_ok hv hs
 refine spec_of Tryz.func19 rfl (leb rfl) ?_
 refine .sr fun _ hK1 => ?_
 refine AK.box_ (E := 24) (cs := [.int .i64 e.op, .int .i64 e.lt, s]) rfl rfl rfl trivial rfl (fun bx1 => ?_)
 refine AK.alloc el32 rfl rfl trivial rfl (fun bx2 => ?_)
 refine .as rfl (.nt hK1 ?_)
 refine .sr fun _ hK2 => ?_
 refine .v (.loadBoxG ag24 rfl bsp rfl rfl) ?_
 refine AK.call co11 rfl (fun w hw => s_buildS w e s (h.at hw) 2 (d, er) hbe) trivial rfl ?_
 rintro r o ⟨vF, vN, rs, rfl, hrs, svF, svN, rfl⟩
 conv => enter [2, 2]; dsimp only [dfaO, List.set_cons_zero, List.set_cons_succ, List.cons_append, List.nil_append]
 refine .mv rfl (.v (.extract rfl rfl) (.v (.extract rfl rfl) ?_))
 refine AK.alloc el32 rfl rfl trivial rfl (fun bx4 => ?_)
 refine AK.storeBox 5 (us := [.int .i64 d.L, .int .i64 d.s, vF, vN]) (cs' := [.int .i64 d.L, .int .i64 d.s, vF, vN]) rfl sz32 rfl rfl rfl rfl oneP (leb rfl) rfl trivial ?_
 refine .as rfl (.nt hK2 ?_)
 refine .seq fun _ hK3 => ?_
 refine .sr fun _ hK4 => ?_
 refine .mv rfl (.v (.neq rfl rfl) (.nt hK4 ?_))
 refine AK.condNe rfl (fun hc0 => ?_) (fun hc0 => ?_)
 ·have her : er = 3 := by rcases hok with h | h; exact h.1; exact absurd h.1 (by omega)
  refine .sr fun _ hK5 => ?_
  refine .v (.build (parts := []) (cs := #[.int .i64 0, .int .i64 0, .slice none 0 0, .slice none 0 0]) rfl (by kernel_rfl)) ?_
  refine .mv rfl ?_
  refine AK.storeBox 1 (us := [.int .i64 0, .int .i64 0, .slice none 0 0, .slice none 0 0]) (cs' := [.int .i64 0, .int .i64 0, .slice none 0 0, .slice none 0 0]) rfl sz32 rfl rfl rfl rfl oneP (leb rfl) rfl trivial ?_
  refine .as rfl (.nt hK5 (.ret (.then_ret ?_)))
  refine AK.own' (dfaO 4 3 67 (.slice none 0 0) (.slice none 0 0) [] nilD ++ [box bx2 32 4 [.int .i64 0, .int .i64 0, .slice none 0 0, .slice none 0 0]]) (fun w hw => by have h1 := (((hw.pick [1] (by decide) rfl rfl).ghost 4 1).ghost 67 1).ghostG (f := Value.int .i64) 3; exact h1.pick [1, 2, 3, 0] (by decide) rfl rfl) ?_
  refine AK.retG [.cell 2 32, .tmp 3] rfl (.cons (.cell ag32 rfl bsp rfl rfl) (.cons (.tmp rfl) (.nil))) (fun w hw => ⟨_, _, ?_, rfl, Ret.of (hw.pick [0, 1, 2] (by decide) rfl rfl)⟩)
  exact ⟨nilD, er, _, _, [], .inl ⟨her, rfl⟩, rfl, nilSl, nilSl, rfl, rfl⟩
 ·obtain ⟨_, hvd, hL2, hlg⟩ := hok.resolve_left (fun h => by have := h.1; omega)
  refine .skip ?_
  refine AK.then_ (hK3 _ ?_)
  refine .sr fun _ hK6 => ?_
  refine .v (.loadBoxG ag32 rfl bsp rfl rfl) ?_
  refine AK.call co15 rfl (fun w hw => s_min w _ d (RdD.own 2 hw hrs rfl rfl rfl)) trivial rfl ?_
  rintro r o ⟨mF, mN, mrs, rfl, hmrs, smF, smN, rfl⟩
  rw [show MinV d = minD d from if_pos hvd] at hmrs ⊢
  conv => enter [2, 2]; dsimp only [dfaO, List.set_cons_zero, List.set_cons_succ, List.cons_append, List.nil_append]
  refine AK.storeBox 1 (us := [.int .i64 (minD d).L, .int .i64 (minD d).s, mF, mN]) (cs' := [.int .i64 (minD d).L, .int .i64 (minD d).s, mF, mN]) rfl sz32 rfl rfl rfl rfl oneP (leb rfl) rfl trivial ?_
  refine .as rfl (.nt hK6 (.ret ?_))
  refine AK.retG [.cell 2 32, .tmp 3] rfl (.cons (.cell ag32 rfl bsp rfl rfl) (.cons (.tmp rfl) (.nil))) (fun w hw => ⟨_, _, ?_, rfl, Ret.of (hw.pick [6, 7, 8] (by decide) rfl rfl)⟩)
  exact ⟨minD d, 0, mF, mN, mrs, lng_build hvd hL2 hlg, hmrs, smF, smN, rfl, rfl⟩

theorem a_concat (w : World) (u v : Value) (a b : Dfa) (hu : RdD (fun _ => False) w u a) (hw0 : RdD (fun _ => False) w v b) (ha : VD a) (hb : VD b) (hL : a.L = b.L) (hT : TbA w) : CallS Tryz.prog 21 [u, v] w (fun r o => ∃ (d : Dfa) (e : Int) (vF vN : Value) (rs : List Value), LngOk a.L (fun l => ∃ u v : List UInt8, l = u ++ v ∧ okL a u ∧ okL b v) d e ∧ rs.length = d.nx.length ∧ IsSl vF ∧ IsSl vN ∧ r = .tuple #[.agg #[.int .i64 d.L, .int .i64 d.s, vF, vN], .int .i64 e] ∧ o = dfaO 4 3 67 vF vN rs d) :=
  (Nat.lt_or_ge 64 ((minD a).fin.length + (minD b).fin.length)).elim (fun h => a_cat3 w u v a b hu hw0 ha hb hL hT h) (fun h => a_cat w u v a b hu hw0 ha hb hL hT h)
theorem a_star (w : World) (v : Value) (d : Dfa) (h : RdD (fun _ => False) w v d) (hv : VD d) (hT : TbA w) : CallS Tryz.prog 22 [v] w (fun r o => ∃ (d9 : Dfa) (e9 : Int) (vF vN : Value) (rs : List Value), LngOk d.L (fun l => StarL (okL d) l) d9 e9 ∧ rs.length = d9.nx.length ∧ IsSl vF ∧ IsSl vN ∧ r = .tuple #[.agg #[.int .i64 d9.L, .int .i64 d9.s, vF, vN], .int .i64 e9] ∧ o = dfaO 4 3 67 vF vN rs d9) :=
  (Nat.lt_or_ge 64 ((minD d).fin.length + 1)).elim (fun hS => a_sta3 w v d h hv hT hS) (fun hS => a_sta w v d h hv hT hS)
set_option maxHeartbeats 600000 in
theorem s_sameD (w : World) (u v : Value) (a b : Dfa) (hu : RdD (fun _ => False) w u a) (hv : RdD (fun _ => False) w v b) : CallS Tryz.prog 24 [u, v] w (fun r o => r = .bool (decide (a = b)) ∧ o = []) := by
 obtain ⟨uF, uN, rfl, huF, huN⟩ := hu
 obtain ⟨vF, vN, rfl, hvF, hvN⟩ := hv
 obtain ⟨ru, hru, huNr, huNi⟩ := huN
 obtain ⟨rv, hrv, hvNr, hvNi⟩ := hvN
 have mu1 := huF.le
 have mu2 := huNr.le
 unfold RdL at huF hvF
 refine spec_of Tryz.func24 rfl (leb rfl) ?_
 refine .sr fun _ hK1 => ?_
 refine AK.box_ (E := 32) (cs := [.int .i64 a.L, .int .i64 a.s, uF, uN]) rfl rfl rfl trivial rfl (fun bx2 => ?_)
 refine AK.box_ (E := 32) (cs := [.int .i64 b.L, .int .i64 b.s, vF, vN]) rfl rfl rfl trivial rfl (fun bx3 => ?_)
 refine .as rfl (.nt hK1 ?_)
 refine .seq fun _ hK2 => ?_
 refine .sr fun _ hK3 => ?_
 refine .v (.fieldAddr fd32_0 rfl) (.v (.loadBox on3 rfl bsp rfl) (.v (.fieldAddr fd32_0 rfl) (.v (.loadBox on3 rfl bsp rfl) (.v (.neq rfl rfl) (.mv rfl ?_)))))
 refine AK.splitB (g := 13) rfl (fun hg_1_5 => ?_) (fun hg_1_5 => ?_)
 ·have hg_1_5' := hg_1_5
  try simp only [bs] at hg_1_5'
  refine AK.pass rfl rfl (hg_1_5) rfl ?_
  refine AK.pass rfl rfl (hg_1_5) rfl ?_
  refine AK.pass rfl rfl (hg_1_5) rfl ?_
  refine AK.pass rfl rfl (hg_1_5) rfl ?_
  refine AK.pass rfl rfl (hg_1_5) rfl ?_
  refine .v (.pickT rfl (hg_1_5) rfl) (.mv rfl ?_)
  refine AK.pass rfl rfl rfl rfl ?_
  refine AK.pass rfl rfl rfl rfl ?_
  refine AK.pass rfl rfl rfl rfl ?_
  refine AK.pass rfl rfl rfl rfl ?_
  refine AK.pass rfl rfl rfl rfl ?_
  refine AK.pass rfl rfl rfl rfl ?_
  refine AK.pass rfl rfl rfl rfl ?_
  refine .v (.pickT rfl (rfl) rfl) (.mv rfl ?_)
  refine AK.pass rfl rfl rfl rfl ?_
  refine AK.pass rfl rfl rfl rfl ?_
  refine AK.pass rfl rfl rfl rfl ?_
  refine AK.pass rfl rfl rfl rfl ?_
  refine AK.pass rfl rfl rfl rfl ?_
  refine AK.pass rfl rfl rfl rfl ?_
  refine AK.pass rfl rfl rfl rfl ?_
  refine .v (.pickT rfl (rfl) rfl) (.nt hK3 ?_)
  refine AK.cond_t rfl (rfl) ?_
  refine .sr fun _ hK4 => ?_
  refine .as rfl (.nt hK4 (.ret (.then_ret ?_)))
  refine AK.ret1 rfl rfl (fun w hw => ⟨_, _, ?_, rfl, Ret.of (hw.pick [] (by decide) rfl rfl)⟩)
  refine ⟨congrArg Value.bool ?_, rfl⟩
  symm; rw [decide_eq_false_iff_not]; intro e; subst e
  omega
 ·have hg_1_5' := hg_1_5
  try simp only [bs] at hg_1_5'
  refine AK.val _ (Yl.fieldAddr fd32_1 rfl) ⟨_, rfl, gB hg_1_5⟩ rfl ?_
  refine AK.val _ (Yl.loadBox on3 rfl bsp rfl) ⟨_, rfl, gB hg_1_5⟩ rfl ?_
  refine AK.val _ (Yl.fieldAddr fd32_1 rfl) ⟨_, rfl, gB hg_1_5⟩ rfl ?_
  refine AK.val _ (Yl.loadBox on3 rfl bsp rfl) ⟨_, rfl, gB hg_1_5⟩ rfl ?_
  refine AK.val _ (Yl.neq rfl rfl) ⟨_, rfl, gB hg_1_5⟩ rfl ?_
  refine .v (.pickF rfl (hg_1_5) rfl) (.mv rfl ?_)
  refine AK.splitB (g := 20) rfl (fun hg_1_12 => ?_) (fun hg_1_12 => ?_)
  ·have hg_1_12' := hg_1_12
   try simp only [bs] at hg_1_12'
   refine AK.pass rfl rfl (hg_1_12) rfl ?_
   refine AK.pass rfl rfl (hg_1_12) rfl ?_
   refine AK.pass rfl rfl (hg_1_12) rfl ?_
   refine AK.pass rfl rfl (hg_1_12) rfl ?_
   refine AK.pass rfl rfl (hg_1_12) rfl ?_
   refine AK.pass rfl rfl (hg_1_12) rfl ?_
   refine AK.pass rfl rfl (hg_1_12) rfl ?_
   refine .v (.pickT rfl (hg_1_12) rfl) (.mv rfl ?_)
   refine AK.pass rfl rfl rfl rfl ?_
   refine AK.pass rfl rfl rfl rfl ?_
   refine AK.pass rfl rfl rfl rfl ?_
   refine AK.pass rfl rfl rfl rfl ?_
   refine AK.pass rfl rfl rfl rfl ?_
   refine AK.pass rfl rfl rfl rfl ?_
   refine AK.pass rfl rfl rfl rfl ?_
   refine .v (.pickT rfl (rfl) rfl) (.nt hK3 ?_)
   refine AK.cond_t rfl (rfl) ?_
   refine .sr fun _ hK5 => ?_
   refine .as rfl (.nt hK5 (.ret (.then_ret ?_)))
   refine AK.ret1 rfl rfl (fun w hw => ⟨_, _, ?_, rfl, Ret.of (hw.pick [] (by decide) rfl rfl)⟩)
   refine ⟨congrArg Value.bool ?_, rfl⟩
   symm; rw [decide_eq_false_iff_not]; intro e; subst e
   omega
  ·have hg_1_12' := hg_1_12
   try simp only [bs] at hg_1_12'
   refine AK.val _ (Yl.fieldAddr fd32_2 rfl) ⟨_, rfl, gB hg_1_12⟩ rfl ?_
   refine AK.val _ (Yl.loadBox on29 rfl bsp rfl) ⟨_, rfl, gB hg_1_12⟩ rfl ?_
   refine AK.val _ (Yl.lenR sl29 rfl (by first | exact rdp | exact .arg huF | exact .arg hvF | exact .arg huNr | exact .arg hvNr | exact .arg (huNi _ (by omega)) | exact .arg (hvNi _ (by omega)))) ⟨_, rfl, gB hg_1_12⟩ rfl ?_
   refine AK.val _ (Yl.fieldAddr fd32_2 rfl) ⟨_, rfl, gB hg_1_12⟩ rfl ?_
   refine AK.val _ (Yl.loadBox on29 rfl bsp rfl) ⟨_, rfl, gB hg_1_12⟩ rfl ?_
   refine AK.val _ (Yl.lenR sl29 rfl (by first | exact rdp | exact .arg huF | exact .arg hvF | exact .arg huNr | exact .arg hvNr | exact .arg (huNi _ (by omega)) | exact .arg (hvNi _ (by omega)))) ⟨_, rfl, gB hg_1_12⟩ rfl ?_
   refine AK.val _ (Yl.neq rfl rfl) ⟨_, rfl, gB hg_1_12⟩ rfl ?_
   refine .v (.pickF rfl (hg_1_12) rfl) (.mv rfl ?_)
   refine AK.splitB (g := 29) rfl (fun hg_1_21 => ?_) (fun hg_1_21 => ?_)
   ·have hg_1_21' := hg_1_21
    try simp only [bs] at hg_1_21'
    refine AK.pass rfl rfl (hg_1_21) rfl ?_
    refine AK.pass rfl rfl (hg_1_21) rfl ?_
    refine AK.pass rfl rfl (hg_1_21) rfl ?_
    refine AK.pass rfl rfl (hg_1_21) rfl ?_
    refine AK.pass rfl rfl (hg_1_21) rfl ?_
    refine AK.pass rfl rfl (hg_1_21) rfl ?_
    refine AK.pass rfl rfl (hg_1_21) rfl ?_
    refine .v (.pickT rfl (hg_1_21) rfl) (.nt hK3 ?_)
    refine AK.cond_t rfl (rfl) ?_
    refine .sr fun _ hK6 => ?_
    refine .as rfl (.nt hK6 (.ret (.then_ret ?_)))
    refine AK.ret1 rfl rfl (fun w hw => ⟨_, _, ?_, rfl, Ret.of (hw.pick [] (by decide) rfl rfl)⟩)
    refine ⟨congrArg Value.bool ?_, rfl⟩
    symm; rw [decide_eq_false_iff_not]; intro e; subst e
    omega
   ·have hg_1_21' := hg_1_21
    try simp only [bs] at hg_1_21'
    refine AK.val _ (Yl.fieldAddr fd32_3 rfl) ⟨_, rfl, gB hg_1_21⟩ rfl ?_
    refine AK.val _ (Yl.loadBox on30 rfl bsp rfl) ⟨_, rfl, gB hg_1_21⟩ rfl ?_
    refine AK.val _ (Yl.lenR sl30 rfl (by first | exact rdp | exact .arg huF | exact .arg hvF | exact .arg huNr | exact .arg hvNr | exact .arg (huNi _ (by omega)) | exact .arg (hvNi _ (by omega)))) ⟨_, rfl, gB hg_1_21⟩ rfl ?_
    refine AK.val _ (Yl.fieldAddr fd32_3 rfl) ⟨_, rfl, gB hg_1_21⟩ rfl ?_
    refine AK.val _ (Yl.loadBox on30 rfl bsp rfl) ⟨_, rfl, gB hg_1_21⟩ rfl ?_
    refine AK.val _ (Yl.lenR sl30 rfl (by first | exact rdp | exact .arg huF | exact .arg hvF | exact .arg huNr | exact .arg hvNr | exact .arg (huNi _ (by omega)) | exact .arg (hvNi _ (by omega)))) ⟨_, rfl, gB hg_1_21⟩ rfl ?_
    refine AK.val _ (Yl.neq rfl rfl) ⟨_, rfl, gB hg_1_21⟩ rfl ?_
    refine .v (.pickF rfl (hg_1_21) rfl) (.nt hK3 ?_)
    refine AK.condNe rfl (fun hc0 => ?_) (fun hc0 => ?_)
    ·refine .sr fun _ hK7 => ?_
     refine .as rfl (.nt hK7 (.ret (.then_ret ?_)))
     refine AK.ret1 rfl rfl (fun w hw => ⟨_, _, ?_, rfl, Ret.of (hw.pick [] (by decide) rfl rfl)⟩)
     refine ⟨congrArg Value.bool ?_, rfl⟩
     symm; rw [decide_eq_false_iff_not]; intro e; subst e
     omega
    ·have hL : a.L = b.L := (by simpa using hg_1_5')
     have hs : a.s = b.s := (by simpa using hg_1_12')
     have hlF : a.fin.length = b.fin.length := (by have := hg_1_21'; omega)
     have hlN : a.nx.length = b.nx.length := (by omega)
     refine .skip ?_
     refine AK.then_ (hK2 _ ?_)
     refine .seq fun _ hK8 => ?_
     refine .sr fun _ hK9 => ?_
     refine .v (.fieldAddr fd32_2 rfl) (.v (.loadBox on29 rfl bsp rfl) ?_)
     refine .v (.lenR sl29 rfl (by first | exact rdp | exact .arg huF | exact .arg hvF | exact .arg huNr | exact .arg hvNr | exact .arg (huNi _ (by omega)) | exact .arg (hvNi _ (by omega)))) ?_
     refine .mv rfl (.nt hK9 (.block ?_))
     refine AK.loopK (X := Nat) [(2, _), (3, _), (40, _)] (fun k => [(41, .int .i64 (k : Int))]) (fun k => [box bx2 32 4 [.int .i64 a.L, .int .i64 a.s, uF, uN], box bx3 32 4 [.int .i64 b.L, .int .i64 b.s, vF, vN]]) (fun k => k ≤ a.fin.length ∧ a.fin.take k = b.fin.take k) (fun k => a.fin.length - k) (0) slr ?_ ?_ ?_ ?_
     ·exact ⟨Nat.zero_le _, by simp⟩
     ·exact slr
     ·exact fun w hw => hw
     ·intro k hg0 _ hK10
      obtain ⟨hk, ht⟩ := hg0
      refine .sr fun _ hK11 => ?_
      refine .v (.lss rfl rfl) (.nt hK11 ?_)
      refine .seq fun _ hK12 => ?_
      refine AK.condD rfl (fun hc1 => ?_) (fun hc1 => ?_)
      ·refine .skip ?_
       refine AK.then_ (hK12 _ ?_)
       refine .seq fun _ hK13 => ?_
       refine .block ?_
       refine .sr fun _ hK14 => ?_
       refine .mv rfl (.as rfl (.nt hK14 ?_))
       refine .seq fun _ hK15 => ?_
       refine AK.quiet mixed krf ?_
       refine .v (.fieldAddr fd32_2 rfl) (.v (.loadBox on29 rfl bsp rfl) (.mv rfl ?_))
       first | refine .v (.iN sl29 rfl rfl (hr := (by first | exact rdp | exact .arg huF | exact .arg hvF | exact .arg huNr | exact .arg hvNr | exact .arg (huNi _ (by omega)) | exact .arg (hvNi _ (by omega))))) ?_ | refine .v (.iK sl29 rfl rfl (hr := (by first | exact rdp | exact .arg huF | exact .arg hvF | exact .arg huNr | exact .arg hvNr | exact .arg (huNi _ (by omega)) | exact .arg (hvNi _ (by omega))))) ?_
       refine .v (.loadB on4 rfl (by first | exact rdp | exact .arg huF | exact .arg hvF | exact .arg huNr | exact .arg hvNr | exact .arg (huNi _ (by omega)) | exact .arg (hvNi _ (by omega))) (by omega)) ?_
       refine .v (.fieldAddr fd32_2 rfl) (.v (.loadBox on29 rfl bsp rfl) (.mv rfl ?_))
       first | refine .v (.iN sl29 rfl rfl (hr := (by first | exact rdp | exact .arg huF | exact .arg hvF | exact .arg huNr | exact .arg hvNr | exact .arg (huNi _ (by omega)) | exact .arg (hvNi _ (by omega))))) ?_ | refine .v (.iK sl29 rfl rfl (hr := (by first | exact rdp | exact .arg huF | exact .arg hvF | exact .arg huNr | exact .arg hvNr | exact .arg (huNi _ (by omega)) | exact .arg (hvNi _ (by omega))))) ?_
       refine .v (.loadB on4 rfl (by first | exact rdp | exact .arg huF | exact .arg hvF | exact .arg huNr | exact .arg hvNr | exact .arg (huNi _ (by omega)) | exact .arg (hvNi _ (by omega))) (by omega)) ?_
       refine .v (.neqB bo4 rfl rfl) ?_
       refine QK.nil (QK.fin ?_)
       refine AK.then_ (hK15 _ ?_)
       refine AK.cond rfl (fun hc2 => ?_) (fun hc2 => ?_)
       ·try simp only [bs] at hc2
        refine .sr fun _ hK16 => ?_
        refine .as rfl (.nt hK16 (.ret (.block_ret (.then_ret (.then_ret (.block_ret (.then_ret ?_)))))))
        refine AK.ret1 rfl rfl (fun w hw => ⟨_, _, ?_, rfl, Ret.of (hw.pick [] (by decide) rfl rfl)⟩)
        refine ⟨congrArg Value.bool ?_, rfl⟩
        symm; rw [decide_eq_false_iff_not]; intro e; subst e
        simp at hc2
       ·try simp only [bs] at hc2
        refine .skip (.block_normal ?_)
        refine AK.then_ (hK13 _ ?_)
        refine AK.region ?_
        refine .v (.add rfl rfl (by omega)) ?_
        refine .mv rfl (.nil ?_)
        refine AK.then_ (hK10 _ _ (k + 1) ⟨by omega, (beq_takeD false hlF k (by omega) ht).2 (by simpa using hc2)⟩ (by omega) (slr) (fun w hw => hw))
      ·have hFin : a.fin = b.fin := (by rw [show k = a.fin.length by omega, List.take_length, hlF, List.take_length] at ht; exact ht)
       refine .exit (.then_exit (.then_exit (.block_exit ?_)))
       refine AK.then_ (hK8 _ ?_)
       refine .seq fun _ hK17 => ?_
       refine .sr fun _ hK18 => ?_
       refine .v (.fieldAddr fd32_3 rfl) (.v (.loadBox on30 rfl bsp rfl) ?_)
       refine .v (.lenR sl30 rfl (by first | exact rdp | exact .arg huF | exact .arg hvF | exact .arg huNr | exact .arg hvNr | exact .arg (huNi _ (by omega)) | exact .arg (hvNi _ (by omega)))) ?_
       refine .mv rfl (.nt hK18 (.block ?_))
       refine AK.loopK (X := Nat) [(2, _), (3, _), (58, _)] (fun k => [(59, .int .i64 (k : Int))]) (fun k => [box bx2 32 4 [.int .i64 a.L, .int .i64 a.s, uF, uN], box bx3 32 4 [.int .i64 b.L, .int .i64 b.s, vF, vN]]) (fun k => k ≤ a.nx.length ∧ a.nx.take k = b.nx.take k) (fun k => a.nx.length - k) (0) slr ?_ ?_ ?_ ?_
       ·exact ⟨Nat.zero_le _, by simp⟩
       ·exact slr
       ·exact fun w hw => hw
       ·intro k hg1 _ hK19
        obtain ⟨hk2, ht2⟩ := hg1
        have hmr := fun h => (huNi k h).le
        refine .sr fun _ hK20 => ?_
        refine .v (.lss rfl rfl) (.nt hK20 ?_)
        refine .seq fun _ hK21 => ?_
        refine AK.condD rfl (fun hc3 => ?_) (fun hc3 => ?_)
        ·refine .skip ?_
         refine AK.then_ (hK21 _ ?_)
         refine .seq fun _ hK22 => ?_
         refine .block ?_
         refine .sr fun _ hK23 => ?_
         refine .mv rfl (.as rfl (.nt hK23 ?_))
         refine .seq fun _ hK24 => ?_
         refine .seq fun _ hK25 => ?_
         refine AK.quiet mixed krf ?_
         refine .v (.fieldAddr fd32_3 rfl) (.v (.loadBox on30 rfl bsp rfl) (.mv rfl ?_))
         first | refine .v (.iN sl30 rfl rfl (hr := (by first | exact rdp | exact .arg huF | exact .arg hvF | exact .arg huNr | exact .arg hvNr | exact .arg (huNi _ (by omega)) | exact .arg (hvNi _ (by omega))))) ?_ | refine .v (.iK sl30 rfl rfl (hr := (by first | exact rdp | exact .arg huF | exact .arg hvF | exact .arg huNr | exact .arg hvNr | exact .arg (huNi _ (by omega)) | exact .arg (hvNi _ (by omega))))) ?_
         refine .v (.loadV on67 rfl (by first | exact rdp | exact .arg huF | exact .arg hvF | exact .arg huNr | exact .arg hvNr | exact .arg (huNi _ (by omega)) | exact .arg (hvNi _ (by omega))) (by omega)) ?_
         refine .v (.lenR sl67 rfl (by first | exact rdp | exact .arg huF | exact .arg hvF | exact .arg huNr | exact .arg hvNr | exact .arg (huNi _ (by omega)) | exact .arg (hvNi _ (by omega)))) ?_
         refine .v (.fieldAddr fd32_3 rfl) (.v (.loadBox on30 rfl bsp rfl) (.mv rfl ?_))
         first | refine .v (.iN sl30 rfl rfl (hr := (by first | exact rdp | exact .arg huF | exact .arg hvF | exact .arg huNr | exact .arg hvNr | exact .arg (huNi _ (by omega)) | exact .arg (hvNi _ (by omega))))) ?_ | refine .v (.iK sl30 rfl rfl (hr := (by first | exact rdp | exact .arg huF | exact .arg hvF | exact .arg huNr | exact .arg hvNr | exact .arg (huNi _ (by omega)) | exact .arg (hvNi _ (by omega))))) ?_
         refine .v (.loadV on67 rfl (by first | exact rdp | exact .arg huF | exact .arg hvF | exact .arg huNr | exact .arg hvNr | exact .arg (huNi _ (by omega)) | exact .arg (hvNi _ (by omega))) (by omega)) ?_
         refine .v (.lenR sl67 rfl (by first | exact rdp | exact .arg huF | exact .arg hvF | exact .arg huNr | exact .arg hvNr | exact .arg (huNi _ (by omega)) | exact .arg (hvNi _ (by omega)))) ?_
         refine .v (.neq rfl rfl) ?_
         refine QK.nil (QK.fin ?_)
         refine AK.then_ (hK25 _ ?_)
         refine AK.condNe rfl (fun hc4 => ?_) (fun hc4 => ?_)
         ·refine .sr fun _ hK26 => ?_
          refine .as rfl (.nt hK26 (.ret (.then_ret (.block_ret (.then_ret (.then_ret (.block_ret (.then_ret ?_))))))))
          refine AK.ret1 rfl rfl (fun w hw => ⟨_, _, ?_, rfl, Ret.of (hw.pick [] (by decide) rfl rfl)⟩)
          refine ⟨congrArg Value.bool ?_, rfl⟩
          symm; rw [decide_eq_false_iff_not]; intro e; subst e
          omega
         ·refine .skip ?_
          refine AK.then_ (hK24 _ ?_)
          refine .sr fun _ hK27 => ?_
          refine .v (.fieldAddr fd32_3 rfl) (.v (.loadBox on30 rfl bsp rfl) (.mv rfl ?_))
          first | refine .v (.iN sl30 rfl rfl (hr := (by first | exact rdp | exact .arg huF | exact .arg hvF | exact .arg huNr | exact .arg hvNr | exact .arg (huNi _ (by omega)) | exact .arg (hvNi _ (by omega))))) ?_ | refine .v (.iK sl30 rfl rfl (hr := (by first | exact rdp | exact .arg huF | exact .arg hvF | exact .arg huNr | exact .arg hvNr | exact .arg (huNi _ (by omega)) | exact .arg (hvNi _ (by omega))))) ?_
          refine .v (.loadV on67 rfl (by first | exact rdp | exact .arg huF | exact .arg hvF | exact .arg huNr | exact .arg hvNr | exact .arg (huNi _ (by omega)) | exact .arg (hvNi _ (by omega))) (by omega)) ?_
          refine .v (.lenR sl67 rfl (by first | exact rdp | exact .arg huF | exact .arg hvF | exact .arg huNr | exact .arg hvNr | exact .arg (huNi _ (by omega)) | exact .arg (hvNi _ (by omega)))) ?_
          refine .mv rfl (.nt hK27 (.block ?_))
          refine AK.loopK (X := Nat) [(2, _), (3, _), (6, _), (58, _), (59, _), (80, _)] (fun j => [(81, .int .i64 (j : Int))]) (fun j => [box bx2 32 4 [.int .i64 a.L, .int .i64 a.s, uF, uN], box bx3 32 4 [.int .i64 b.L, .int .i64 b.s, vF, vN]]) (fun j => j ≤ (a.nx.getD k []).length ∧ (a.nx.getD k []).take j = (b.nx.getD k []).take j) (fun j => (a.nx.getD k []).length - j) (0) slr ?_ ?_ ?_ ?_
          ·exact ⟨Nat.zero_le _, by simp⟩
          ·exact slr
          ·exact fun w hw => hw
          ·intro j hg2 _ hK28
           obtain ⟨hj, ht3⟩ := hg2
           have hmr2 := hmr (by omega)
           refine .sr fun _ hK29 => ?_
           refine .v (.lss rfl rfl) (.nt hK29 ?_)
           refine .seq fun _ hK30 => ?_
           refine AK.condD rfl (fun hc5 => ?_) (fun hc5 => ?_)
           ·refine .skip ?_
            refine AK.then_ (hK30 _ ?_)
            refine .seq fun _ hK31 => ?_
            refine .block ?_
            refine .sr fun _ hK32 => ?_
            refine .mv rfl (.as rfl (.nt hK32 ?_))
            refine .seq fun _ hK33 => ?_
            refine AK.quiet mixed krf ?_
            refine .v (.fieldAddr fd32_3 rfl) (.v (.loadBox on30 rfl bsp rfl) (.mv rfl ?_))
            first | refine .v (.iN sl30 rfl rfl (hr := (by first | exact rdp | exact .arg huF | exact .arg hvF | exact .arg huNr | exact .arg hvNr | exact .arg (huNi _ (by omega)) | exact .arg (hvNi _ (by omega))))) ?_ | refine .v (.iK sl30 rfl rfl (hr := (by first | exact rdp | exact .arg huF | exact .arg hvF | exact .arg huNr | exact .arg hvNr | exact .arg (huNi _ (by omega)) | exact .arg (hvNi _ (by omega))))) ?_
            refine .v (.loadV on67 rfl (by first | exact rdp | exact .arg huF | exact .arg hvF | exact .arg huNr | exact .arg hvNr | exact .arg (huNi _ (by omega)) | exact .arg (hvNi _ (by omega))) (by omega)) ?_
            refine .mv rfl ?_
            first | refine .v (.iN sl67 rfl rfl (hr := (by first | exact rdp | exact .arg huF | exact .arg hvF | exact .arg huNr | exact .arg hvNr | exact .arg (huNi _ (by omega)) | exact .arg (hvNi _ (by omega))))) ?_ | refine .v (.iK sl67 rfl rfl (hr := (by first | exact rdp | exact .arg huF | exact .arg hvF | exact .arg huNr | exact .arg hvNr | exact .arg (huNi _ (by omega)) | exact .arg (hvNi _ (by omega))))) ?_
            refine .v (.loadI on3 rfl (by first | exact rdp | exact .arg huF | exact .arg hvF | exact .arg huNr | exact .arg hvNr | exact .arg (huNi _ (by omega)) | exact .arg (hvNi _ (by omega))) (by omega)) ?_
            refine .v (.fieldAddr fd32_3 rfl) (.v (.loadBox on30 rfl bsp rfl) (.mv rfl ?_))
            first | refine .v (.iN sl30 rfl rfl (hr := (by first | exact rdp | exact .arg huF | exact .arg hvF | exact .arg huNr | exact .arg hvNr | exact .arg (huNi _ (by omega)) | exact .arg (hvNi _ (by omega))))) ?_ | refine .v (.iK sl30 rfl rfl (hr := (by first | exact rdp | exact .arg huF | exact .arg hvF | exact .arg huNr | exact .arg hvNr | exact .arg (huNi _ (by omega)) | exact .arg (hvNi _ (by omega))))) ?_
            refine .v (.loadV on67 rfl (by first | exact rdp | exact .arg huF | exact .arg hvF | exact .arg huNr | exact .arg hvNr | exact .arg (huNi _ (by omega)) | exact .arg (hvNi _ (by omega))) (by omega)) ?_
            refine .mv rfl ?_
            first | refine .v (.iN sl67 rfl rfl (hr := (by first | exact rdp | exact .arg huF | exact .arg hvF | exact .arg huNr | exact .arg hvNr | exact .arg (huNi _ (by omega)) | exact .arg (hvNi _ (by omega))))) ?_ | refine .v (.iK sl67 rfl rfl (hr := (by first | exact rdp | exact .arg huF | exact .arg hvF | exact .arg huNr | exact .arg hvNr | exact .arg (huNi _ (by omega)) | exact .arg (hvNi _ (by omega))))) ?_
            refine .v (.loadI on3 rfl (by first | exact rdp | exact .arg huF | exact .arg hvF | exact .arg huNr | exact .arg hvNr | exact .arg (huNi _ (by omega)) | exact .arg (hvNi _ (by omega))) (by omega)) ?_
            refine .v (.neq rfl rfl) ?_
            refine QK.nil (QK.fin ?_)
            refine AK.then_ (hK33 _ ?_)
            refine AK.condNe rfl (fun hc6 => ?_) (fun hc6 => ?_)
            ·refine .sr fun _ hK34 => ?_
             refine .as rfl (.nt hK34 (.ret (.block_ret (.then_ret (.then_ret (.block_ret (.block_ret (.then_ret (.then_ret (.block_ret (.then_ret ?_)))))))))))
             refine AK.ret1 rfl rfl (fun w hw => ⟨_, _, ?_, rfl, Ret.of (hw.pick [] (by decide) rfl rfl)⟩)
             refine ⟨congrArg Value.bool ?_, rfl⟩
             symm; rw [decide_eq_false_iff_not]; intro e; subst e
             omega
            ·refine .skip (.block_normal ?_)
             refine AK.then_ (hK31 _ ?_)
             refine AK.region ?_
             refine .v (.add rfl rfl (by omega)) ?_
             refine .mv rfl (.nil ?_)
             refine AK.then_ (hK28 _ _ (j + 1) ⟨by omega, (beq_takeD 0 (by omega) j (by omega) ht3).2 (by omega)⟩ (by omega) (slr) (fun w hw => hw))
           ·refine .exit (.then_exit (.then_exit (.block_exit (.block_normal ?_))))
            refine AK.then_ (hK22 _ ?_)
            refine AK.region ?_
            refine .v (.add rfl rfl (by omega)) ?_
            refine .mv rfl (.nil ?_)
            refine AK.then_ (hK19 _ _ (k + 1) ⟨by omega, (beq_takeD [] hlN k (by omega) ht2).2 (by have e : j = (a.nx.getD k []).length := (by omega); have h1 := ht3; rw [e, List.take_length] at h1; rw [h1]; rw [show (a.nx.getD k []).length = (b.nx.getD k []).length by omega, List.take_length])⟩ (by omega) (slr) (fun w hw => hw))
        ·refine .exit (.then_exit (.then_exit (.block_exit ?_)))
         refine AK.then_ (hK17 _ ?_)
         refine .sr fun _ hK35 => ?_
         refine .as rfl (.nt hK35 (.ret ?_))
         refine AK.ret1 rfl rfl (fun w hw => ⟨_, _, ?_, rfl, Ret.of (hw.pick [] (by decide) rfl rfl)⟩)
         refine ⟨congrArg Value.bool ?_, rfl⟩
         symm; rw [decide_eq_true_eq]
         rw [show k = a.nx.length by omega, List.take_length, hlN, List.take_length] at ht2
         have h3 := hFin
         obtain ⟨aL, aS, af, an⟩ := a
         obtain ⟨bL, bS, bf, bn⟩ := b
         simp only at hL hs h3 ht2
         subst hL hs h3 ht2; rfl

set_option maxHeartbeats 8000000 in
theorem l_products (w : World) (a b : Ex) (s t : Value) (h : RdK (cellR (fun _ => False) w) s a.kids) (h2 : RdK (cellR (fun _ => False) w) t b.kids) (hT : TbA w) : CallS Tryz.prog 4 [.agg #[.int .i64 a.op, .int .i64 a.lt, s], .agg #[.int .i64 b.op, .int .i64 b.lt, t]] w (fun r o => r = .bool true ∧ o = []) := by
 have ss := h.sl
 have st := h2.sl
 refine spec_of Tryz.func4 rfl (leb rfl) ?_
 refine .sr fun _ hK1 => ?_
 refine AK.box_ (E := 24) (cs := [.int .i64 a.op, .int .i64 a.lt, s]) rfl rfl rfl trivial rfl (fun bx2 => ?_)
 refine AK.box_ (E := 24) (cs := [.int .i64 b.op, .int .i64 b.lt, t]) rfl rfl rfl trivial rfl (fun bx3 => ?_)
 refine .as rfl (.nt hK1 ?_)
 refine .seq fun _ hK2 => ?_
 refine .sr fun _ hK3 => ?_
 refine .v (.loadBoxG ag24 rfl bsp rfl rfl) ?_
 refine AK.call co7 rfl (fun w hw => s_little w a s 6 (by decide) (h.at hw)) trivial rfl ?_
 rintro r o ⟨⟨b0, rfl, hb0⟩, rfl⟩
 refine .v (.not rfl) (.mv rfl ?_)
 refine AK.splitB (g := 20) rfl (fun hg_1_3 => ?_) (fun hg_1_3 => ?_)
 ·have hg_1_3' := hg_1_3
  try simp only [bs] at hg_1_3'
  refine AK.pass rfl rfl (hg_1_3) rfl ?_
  refine AK.pass rfl rfl (hg_1_3) rfl ?_
  refine AK.pass rfl rfl (hg_1_3) rfl ?_
  refine .v (.pickT rfl (hg_1_3) rfl) (.nt hK3 ?_)
  refine AK.cond_t rfl (rfl) ?_
  refine .sr fun _ hK4 => ?_
  refine AK.call co9 rfl (fun w hw => s_awake w (hT.at hw)) trivial rfl ?_
  rintro r o ⟨rfl, rfl⟩
  refine .as rfl (.nt hK4 (.ret (.then_ret ?_)))
  refine AK.ret1 rfl rfl (fun w hw => ⟨_, _, ?_, rfl, Ret.of (hw.pick [] (by decide) rfl rfl)⟩)
  exact ⟨rfl, rfl⟩
 ·have hg_1_3' := hg_1_3
  try simp only [bs] at hg_1_3'
  refine AK.val _ (Yl.loadBoxG ag24 rfl bsp rfl rfl) ⟨_, rfl, gB hg_1_3⟩ rfl ?_
  refine AK.call co7 rfl (fun w hw => s_little w b t 6 (by decide) (h2.at hw)) ⟨_, rfl, gB hg_1_3⟩ rfl ?_
  rintro r o ⟨⟨b1, rfl, hb1⟩, rfl⟩
  refine AK.val _ (Yl.not rfl) ⟨_, rfl, gB hg_1_3⟩ rfl ?_
  refine .v (.pickF rfl (hg_1_3) rfl) (.nt hK3 ?_)
  refine AK.condB rfl (fun hc0 => ?_) (fun hc0 => ?_)
  ·refine .sr fun _ hK5 => ?_
   refine AK.call co9 rfl (fun w hw => s_awake w (hT.at hw)) trivial rfl ?_
   rintro r o ⟨rfl, rfl⟩
   refine .as rfl (.nt hK5 (.ret (.then_ret ?_)))
   refine AK.ret1 rfl rfl (fun w hw => ⟨_, _, ?_, rfl, Ret.of (hw.pick [] (by decide) rfl rfl)⟩)
   exact ⟨rfl, rfl⟩
  ·have hav := hb0 (by simpa using hg_1_3)
   have hbv := hb1 (by simpa using hc0)
   refine .skip ?_
   refine AK.then_ (hK2 _ ?_)
   refine .sr fun _ hK6 => ?_
   refine .v (.loadBoxG ag24 rfl bsp rfl rfl) ?_
   refine AK.call co19 rfl (fun w hw => s_built w a s (h.at hw) hav.1 (by omega)) trivial rfl ?_
   rintro r o ⟨d1, e1, F1, N1, rs1, hL1, hrs1, sF1, sN1, rfl, rfl⟩
   conv => enter [2, 2]; dsimp only [dfaO, List.set_cons_zero, List.set_cons_succ, List.cons_append, List.nil_append]
   refine .mv rfl (.v (.extract rfl rfl) (.v (.extract rfl rfl) ?_))
   refine AK.alloc el32 rfl rfl trivial rfl (fun bx5 => ?_)
   refine AK.storeBox 5 (us := [.int .i64 d1.L, .int .i64 d1.s, F1, N1]) (cs' := [.int .i64 d1.L, .int .i64 d1.s, F1, N1]) rfl sz32 rfl rfl rfl rfl oneP (leb rfl) rfl trivial ?_
   refine .as rfl (.nt hK6 ?_)
   refine .sr fun _ hK7 => ?_
   refine .v (.loadBoxG ag24 rfl bsp rfl rfl) ?_
   refine AK.call co19 rfl (fun w hw => s_built w b t (h2.at hw) hbv.1 (by omega)) trivial rfl ?_
   rintro r o ⟨d2, e2, F2, N2, rs2, hL2, hrs2, sF2, sN2, rfl, rfl⟩
   conv => enter [2, 2]; dsimp only [dfaO, List.set_cons_zero, List.set_cons_succ, List.cons_append, List.nil_append]
   refine .mv rfl (.v (.extract rfl rfl) (.v (.extract rfl rfl) ?_))
   refine AK.alloc el32 rfl rfl trivial rfl (fun bx7 => ?_)
   refine AK.storeBox 9 (us := [.int .i64 d2.L, .int .i64 d2.s, F2, N2]) (cs' := [.int .i64 d2.L, .int .i64 d2.s, F2, N2]) rfl sz32 rfl rfl rfl rfl oneP (leb rfl) rfl trivial ?_
   refine .as rfl (.nt hK7 ?_)
   refine .sr fun _ hK8 => ?_
   refine .v (.loadBoxG ag24 rfl bsp rfl rfl) (.v (.loadBoxG ag24 rfl bsp rfl rfl) ?_)
   refine AK.lit (xs := [.tmp 37, .tmp 38]) sl22 el24 rfl rfl rfl (by simp [Value.cells]) (by decide) (by decide) trivial rfl (fun lv => ?_)
   refine AK.shape 10 rfl (fun slv => ?_)
   refine AK.call co20 rfl (fun w hw => s_node w 5 lv slv) trivial rfl ?_
   rintro r o ⟨rfl, rfl⟩
   conv => enter [2, 2]; dsimp only [dfaO, List.set_cons_zero, List.set_cons_succ, List.cons_append, List.nil_append]
   refine AK.call co19 rfl (fun w hw => s_built w (.mk 5 0 [a, b]) lv (RdK.ownRow (ks := [a, b]) (ss := [s, t]) 10 hw rfl rfl (two_kids (h.at hw) (h2.at hw))) (val_cat hav hbv).1 (val_cat hav hbv).2) trivial rfl ?_
   rintro r o ⟨d3, e3, F3, N3, rs3, hL3, hrs3, sF3, sN3, rfl, rfl⟩
   conv => enter [2, 2]; dsimp only [dfaO, List.set_cons_zero, List.set_cons_succ, List.cons_append, List.nil_append]
   refine .mv rfl (.v (.extract rfl rfl) (.v (.extract rfl rfl) ?_))
   refine AK.alloc el32 rfl rfl trivial rfl (fun bx9 => ?_)
   refine AK.storeBox 14 (us := [.int .i64 d3.L, .int .i64 d3.s, F3, N3]) (cs' := [.int .i64 d3.L, .int .i64 d3.s, F3, N3]) rfl sz32 rfl rfl rfl rfl oneP (leb rfl) rfl trivial ?_
   refine .as rfl (.nt hK8 ?_)
   refine .sr fun _ hK9 => ?_
   refine .v (.loadBoxG ag24 rfl bsp rfl rfl) ?_
   refine AK.lit (xs := [.tmp 45]) sl22 el24 rfl rfl rfl (by simp [Value.cells]) (by decide) (by decide) trivial rfl (fun lw => ?_)
   refine AK.shape 15 rfl (fun slw => ?_)
   refine AK.call co20 rfl (fun w hw => s_node w 7 lw slw) trivial rfl ?_
   rintro r o ⟨rfl, rfl⟩
   conv => enter [2, 2]; dsimp only [dfaO, List.set_cons_zero, List.set_cons_succ, List.cons_append, List.nil_append]
   refine AK.call co19 rfl (fun w hw => s_built w (.mk 7 0 [a]) lw (RdK.ownRow (ks := [a]) (ss := [s]) 15 hw rfl rfl (one_kid (h.at hw))) (val_sta hav).1 (val_sta hav).2) trivial rfl ?_
   rintro r o ⟨d4, e4, F4, N4, rs4, hL4, hrs4, sF4, sN4, rfl, rfl⟩
   conv => enter [2, 2]; dsimp only [dfaO, List.set_cons_zero, List.set_cons_succ, List.cons_append, List.nil_append]
   refine .mv rfl (.v (.extract rfl rfl) (.v (.extract rfl rfl) ?_))
   refine AK.alloc el32 rfl rfl trivial rfl (fun bx11 => ?_)
   refine AK.storeBox 19 (us := [.int .i64 d4.L, .int .i64 d4.s, F4, N4]) (cs' := [.int .i64 d4.L, .int .i64 d4.s, F4, N4]) rfl sz32 rfl rfl rfl rfl oneP (leb rfl) rfl trivial ?_
   refine .as rfl (.nt hK9 ?_)
   refine .seq fun _ hK10 => ?_
   refine .sr fun _ hK11 => ?_
   refine .mv rfl (.v (.neq rfl rfl) (.mv rfl ?_))
   refine AK.splitB (g := 53) rfl (fun hg_7_2 => ?_) (fun hg_7_2 => ?_)
   ·have hg_7_2' := hg_7_2
    try simp only [bs] at hg_7_2'
    refine AK.pass rfl rfl (hg_7_2) rfl ?_
    refine AK.pass rfl rfl (hg_7_2) rfl ?_
    refine .v (.pickT rfl (hg_7_2) rfl) (.mv rfl ?_)
    refine AK.pass rfl rfl rfl rfl ?_
    refine AK.pass rfl rfl rfl rfl ?_
    refine .v (.pickT rfl (rfl) rfl) (.mv rfl ?_)
    refine AK.pass rfl rfl rfl rfl ?_
    refine AK.pass rfl rfl rfl rfl ?_
    refine .v (.pickT rfl (rfl) rfl) (.nt hK11 ?_)
    refine AK.cond_t rfl (rfl) ?_
    refine .sr fun _ hK12 => ?_
    refine .mv rfl ?_
    refine AK.call co13 rfl (fun w hw => s_lim w e1 (by rcases hL1 with h | h; exact .inr h.1; exact .inl h.1)) trivial rfl ?_
    rintro r o ⟨rfl, rfl⟩
    refine .mv rfl ?_
    refine AK.knownT (g := 67) rfl (rfl) (fun hg_8_2 => ?_)
    refine AK.val _ (Yl.move rfl) ⟨_, rfl, gB hg_8_2⟩ rfl ?_
    refine AK.call co13 rfl (fun w hw => s_lim w e2 (by rcases hL2 with h | h; exact .inr h.1; exact .inl h.1)) ⟨_, rfl, gB hg_8_2⟩ rfl ?_
    rintro r o ⟨rfl, rfl⟩
    refine .v (.pickT rfl (hg_8_2) rfl) (.mv rfl ?_)
    refine AK.knownT (g := 71) rfl (rfl) (fun hg_8_6 => ?_)
    refine AK.val _ (Yl.move rfl) ⟨_, rfl, gB hg_8_6⟩ rfl ?_
    refine AK.call co13 rfl (fun w hw => s_lim w e3 (by rcases hL3 with h | h; exact .inr h.1; exact .inl h.1)) ⟨_, rfl, gB hg_8_6⟩ rfl ?_
    rintro r o ⟨rfl, rfl⟩
    refine .v (.pickT rfl (hg_8_6) rfl) (.mv rfl ?_)
    refine AK.knownT (g := 75) rfl (rfl) (fun hg_8_10 => ?_)
    refine AK.val _ (Yl.move rfl) ⟨_, rfl, gB hg_8_10⟩ rfl ?_
    refine AK.call co13 rfl (fun w hw => s_lim w e4 (by rcases hL4 with h | h; exact .inr h.1; exact .inl h.1)) ⟨_, rfl, gB hg_8_10⟩ rfl ?_
    rintro r o ⟨rfl, rfl⟩
    refine .v (.pickT rfl (hg_8_10) rfl) (.mv rfl ?_)
    refine AK.knownT (g := 79) rfl (rfl) (fun hg_8_14 => ?_)
    refine AK.call co9 rfl (fun w hw => s_awake w (hT.at hw)) ⟨_, rfl, gB hg_8_14⟩ rfl ?_
    rintro r o ⟨rfl, rfl⟩
    refine .v (.pickT rfl (hg_8_14) rfl) (.as rfl (.nt hK12 (.ret (.then_ret ?_))))
    refine AK.ret1 rfl rfl (fun w hw => ⟨_, _, ?_, rfl, Ret.of (hw.pick [] (by decide) rfl rfl)⟩)
    exact ⟨rfl, rfl⟩
   ·have hg_7_2' := hg_7_2
    try simp only [bs] at hg_7_2'
    refine AK.val _ (Yl.move rfl) ⟨_, rfl, gB hg_7_2⟩ rfl ?_
    refine AK.val _ (Yl.neq rfl rfl) ⟨_, rfl, gB hg_7_2⟩ rfl ?_
    refine .v (.pickF rfl (hg_7_2) rfl) (.mv rfl ?_)
    refine AK.splitB (g := 57) rfl (fun hg_7_6 => ?_) (fun hg_7_6 => ?_)
    ·have hg_7_6' := hg_7_6
     try simp only [bs] at hg_7_6'
     refine AK.pass rfl rfl (hg_7_6) rfl ?_
     refine AK.pass rfl rfl (hg_7_6) rfl ?_
     refine .v (.pickT rfl (hg_7_6) rfl) (.mv rfl ?_)
     refine AK.pass rfl rfl rfl rfl ?_
     refine AK.pass rfl rfl rfl rfl ?_
     refine .v (.pickT rfl (rfl) rfl) (.nt hK11 ?_)
     refine AK.cond_t rfl (rfl) ?_
     refine .sr fun _ hK13 => ?_
     refine .mv rfl ?_
     refine AK.call co13 rfl (fun w hw => s_lim w e1 (by rcases hL1 with h | h; exact .inr h.1; exact .inl h.1)) trivial rfl ?_
     rintro r o ⟨rfl, rfl⟩
     refine .mv rfl ?_
     refine AK.knownT (g := 67) rfl (rfl) (fun hg_8_2 => ?_)
     refine AK.val _ (Yl.move rfl) ⟨_, rfl, gB hg_8_2⟩ rfl ?_
     refine AK.call co13 rfl (fun w hw => s_lim w e2 (by rcases hL2 with h | h; exact .inr h.1; exact .inl h.1)) ⟨_, rfl, gB hg_8_2⟩ rfl ?_
     rintro r o ⟨rfl, rfl⟩
     refine .v (.pickT rfl (hg_8_2) rfl) (.mv rfl ?_)
     refine AK.knownT (g := 71) rfl (rfl) (fun hg_8_6 => ?_)
     refine AK.val _ (Yl.move rfl) ⟨_, rfl, gB hg_8_6⟩ rfl ?_
     refine AK.call co13 rfl (fun w hw => s_lim w e3 (by rcases hL3 with h | h; exact .inr h.1; exact .inl h.1)) ⟨_, rfl, gB hg_8_6⟩ rfl ?_
     rintro r o ⟨rfl, rfl⟩
     refine .v (.pickT rfl (hg_8_6) rfl) (.mv rfl ?_)
     refine AK.knownT (g := 75) rfl (rfl) (fun hg_8_10 => ?_)
     refine AK.val _ (Yl.move rfl) ⟨_, rfl, gB hg_8_10⟩ rfl ?_
     refine AK.call co13 rfl (fun w hw => s_lim w e4 (by rcases hL4 with h | h; exact .inr h.1; exact .inl h.1)) ⟨_, rfl, gB hg_8_10⟩ rfl ?_
     rintro r o ⟨rfl, rfl⟩
     refine .v (.pickT rfl (hg_8_10) rfl) (.mv rfl ?_)
     refine AK.knownT (g := 79) rfl (rfl) (fun hg_8_14 => ?_)
     refine AK.call co9 rfl (fun w hw => s_awake w (hT.at hw)) ⟨_, rfl, gB hg_8_14⟩ rfl ?_
     rintro r o ⟨rfl, rfl⟩
     refine .v (.pickT rfl (hg_8_14) rfl) (.as rfl (.nt hK13 (.ret (.then_ret ?_))))
     refine AK.ret1 rfl rfl (fun w hw => ⟨_, _, ?_, rfl, Ret.of (hw.pick [] (by decide) rfl rfl)⟩)
     exact ⟨rfl, rfl⟩
    ·have hg_7_6' := hg_7_6
     try simp only [bs] at hg_7_6'
     refine AK.val _ (Yl.move rfl) ⟨_, rfl, gB hg_7_6⟩ rfl ?_
     refine AK.val _ (Yl.neq rfl rfl) ⟨_, rfl, gB hg_7_6⟩ rfl ?_
     refine .v (.pickF rfl (hg_7_6) rfl) (.mv rfl ?_)
     refine AK.splitB (g := 61) rfl (fun hg_7_10 => ?_) (fun hg_7_10 => ?_)
     ·have hg_7_10' := hg_7_10
      try simp only [bs] at hg_7_10'
      refine AK.pass rfl rfl (hg_7_10) rfl ?_
      refine AK.pass rfl rfl (hg_7_10) rfl ?_
      refine .v (.pickT rfl (hg_7_10) rfl) (.nt hK11 ?_)
      refine AK.cond_t rfl (rfl) ?_
      refine .sr fun _ hK14 => ?_
      refine .mv rfl ?_
      refine AK.call co13 rfl (fun w hw => s_lim w e1 (by rcases hL1 with h | h; exact .inr h.1; exact .inl h.1)) trivial rfl ?_
      rintro r o ⟨rfl, rfl⟩
      refine .mv rfl ?_
      refine AK.knownT (g := 67) rfl (rfl) (fun hg_8_2 => ?_)
      refine AK.val _ (Yl.move rfl) ⟨_, rfl, gB hg_8_2⟩ rfl ?_
      refine AK.call co13 rfl (fun w hw => s_lim w e2 (by rcases hL2 with h | h; exact .inr h.1; exact .inl h.1)) ⟨_, rfl, gB hg_8_2⟩ rfl ?_
      rintro r o ⟨rfl, rfl⟩
      refine .v (.pickT rfl (hg_8_2) rfl) (.mv rfl ?_)
      refine AK.knownT (g := 71) rfl (rfl) (fun hg_8_6 => ?_)
      refine AK.val _ (Yl.move rfl) ⟨_, rfl, gB hg_8_6⟩ rfl ?_
      refine AK.call co13 rfl (fun w hw => s_lim w e3 (by rcases hL3 with h | h; exact .inr h.1; exact .inl h.1)) ⟨_, rfl, gB hg_8_6⟩ rfl ?_
      rintro r o ⟨rfl, rfl⟩
      refine .v (.pickT rfl (hg_8_6) rfl) (.mv rfl ?_)
      refine AK.knownT (g := 75) rfl (rfl) (fun hg_8_10 => ?_)
      refine AK.val _ (Yl.move rfl) ⟨_, rfl, gB hg_8_10⟩ rfl ?_
      refine AK.call co13 rfl (fun w hw => s_lim w e4 (by rcases hL4 with h | h; exact .inr h.1; exact .inl h.1)) ⟨_, rfl, gB hg_8_10⟩ rfl ?_
      rintro r o ⟨rfl, rfl⟩
      refine .v (.pickT rfl (hg_8_10) rfl) (.mv rfl ?_)
      refine AK.knownT (g := 79) rfl (rfl) (fun hg_8_14 => ?_)
      refine AK.call co9 rfl (fun w hw => s_awake w (hT.at hw)) ⟨_, rfl, gB hg_8_14⟩ rfl ?_
      rintro r o ⟨rfl, rfl⟩
      refine .v (.pickT rfl (hg_8_14) rfl) (.as rfl (.nt hK14 (.ret (.then_ret ?_))))
      refine AK.ret1 rfl rfl (fun w hw => ⟨_, _, ?_, rfl, Ret.of (hw.pick [] (by decide) rfl rfl)⟩)
      exact ⟨rfl, rfl⟩
     ·have hg_7_10' := hg_7_10
      try simp only [bs] at hg_7_10'
      refine AK.val _ (Yl.move rfl) ⟨_, rfl, gB hg_7_10⟩ rfl ?_
      refine AK.val _ (Yl.neq rfl rfl) ⟨_, rfl, gB hg_7_10⟩ rfl ?_
      refine .v (.pickF rfl (hg_7_10) rfl) (.nt hK11 ?_)
      refine AK.condNe rfl (fun hc1 => ?_) (fun hc1 => ?_)
      ·refine .sr fun _ hK15 => ?_
       refine .mv rfl ?_
       refine AK.call co13 rfl (fun w hw => s_lim w e1 (by rcases hL1 with h | h; exact .inr h.1; exact .inl h.1)) trivial rfl ?_
       rintro r o ⟨rfl, rfl⟩
       refine .mv rfl ?_
       refine AK.knownT (g := 67) rfl (rfl) (fun hg_8_2 => ?_)
       refine AK.val _ (Yl.move rfl) ⟨_, rfl, gB hg_8_2⟩ rfl ?_
       refine AK.call co13 rfl (fun w hw => s_lim w e2 (by rcases hL2 with h | h; exact .inr h.1; exact .inl h.1)) ⟨_, rfl, gB hg_8_2⟩ rfl ?_
       rintro r o ⟨rfl, rfl⟩
       refine .v (.pickT rfl (hg_8_2) rfl) (.mv rfl ?_)
       refine AK.knownT (g := 71) rfl (rfl) (fun hg_8_6 => ?_)
       refine AK.val _ (Yl.move rfl) ⟨_, rfl, gB hg_8_6⟩ rfl ?_
       refine AK.call co13 rfl (fun w hw => s_lim w e3 (by rcases hL3 with h | h; exact .inr h.1; exact .inl h.1)) ⟨_, rfl, gB hg_8_6⟩ rfl ?_
       rintro r o ⟨rfl, rfl⟩
       refine .v (.pickT rfl (hg_8_6) rfl) (.mv rfl ?_)
       refine AK.knownT (g := 75) rfl (rfl) (fun hg_8_10 => ?_)
       refine AK.val _ (Yl.move rfl) ⟨_, rfl, gB hg_8_10⟩ rfl ?_
       refine AK.call co13 rfl (fun w hw => s_lim w e4 (by rcases hL4 with h | h; exact .inr h.1; exact .inl h.1)) ⟨_, rfl, gB hg_8_10⟩ rfl ?_
       rintro r o ⟨rfl, rfl⟩
       refine .v (.pickT rfl (hg_8_10) rfl) (.mv rfl ?_)
       refine AK.knownT (g := 79) rfl (rfl) (fun hg_8_14 => ?_)
       refine AK.call co9 rfl (fun w hw => s_awake w (hT.at hw)) ⟨_, rfl, gB hg_8_14⟩ rfl ?_
       rintro r o ⟨rfl, rfl⟩
       refine .v (.pickT rfl (hg_8_14) rfl) (.as rfl (.nt hK15 (.ret (.then_ret ?_))))
       refine AK.ret1 rfl rfl (fun w hw => ⟨_, _, ?_, rfl, Ret.of (hw.pick [] (by decide) rfl rfl)⟩)
       exact ⟨rfl, rfl⟩
      ·have he1 : e1 = 0 := by simpa using hg_7_2
       have he2 : e2 = 0 := by simpa using hg_7_6
       have he3 : e3 = 0 := by simpa using hg_7_10
       have he4 : e4 = 0 := by omega
       have m1 := hL1.at0 he1
       have m2 := hL2.at0 he2
       have m3 := hL3.at0 he3
       have m4 := hL4.at0 he4
       refine .skip ?_
       refine AK.then_ (hK10 _ ?_)
       refine .sr fun _ hK16 => ?_
       refine .v (.loadBoxG ag32 rfl bsp rfl rfl) (.v (.loadBoxG ag32 rfl bsp rfl rfl) ?_)
       refine AK.call co21 rfl (fun w hw => a_concat w _ _ d1 d2 (RdD.own 2 hw hrs1 rfl rfl rfl) (RdD.own 6 hw hrs2 rfl rfl rfl) m1.1 m2.1 (m1.2.1.trans m2.2.1.symm) (hT.at hw)) trivial rfl ?_
       rintro r o ⟨d5, e5, F5, N5, rs5, hL5, hrs5, sF5, sN5, rfl, rfl⟩
       conv => enter [2, 2]; dsimp only [dfaO, List.set_cons_zero, List.set_cons_succ, List.cons_append, List.nil_append]
       refine .mv rfl (.v (.extract rfl rfl) (.v (.extract rfl rfl) ?_))
       refine AK.alloc el32 rfl rfl trivial rfl (fun bx13 => ?_)
       refine AK.storeBox 23 (us := [.int .i64 d5.L, .int .i64 d5.s, F5, N5]) (cs' := [.int .i64 d5.L, .int .i64 d5.s, F5, N5]) rfl sz32 rfl rfl rfl rfl oneP (leb rfl) rfl trivial ?_
       refine .as rfl (.nt hK16 ?_)
       refine .sr fun _ hK17 => ?_
       refine .v (.loadBoxG ag32 rfl bsp rfl rfl) ?_
       refine AK.call co22 rfl (fun w hw => a_star w _ d1 (RdD.own 2 hw hrs1 rfl rfl rfl) m1.1 (hT.at hw)) trivial rfl ?_
       rintro r o ⟨d6, e6, F6, N6, rs6, hL6, hrs6, sF6, sN6, rfl, rfl⟩
       conv => enter [2, 2]; dsimp only [dfaO, List.set_cons_zero, List.set_cons_succ, List.cons_append, List.nil_append]
       refine .mv rfl (.v (.extract rfl rfl) (.v (.extract rfl rfl) ?_))
       refine AK.alloc el32 rfl rfl trivial rfl (fun bx15 => ?_)
       refine AK.storeBox 27 (us := [.int .i64 d6.L, .int .i64 d6.s, F6, N6]) (cs' := [.int .i64 d6.L, .int .i64 d6.s, F6, N6]) rfl sz32 rfl rfl rfl rfl oneP (leb rfl) rfl trivial ?_
       refine .as rfl (.nt hK17 ?_)
       refine .seq fun _ hK18 => ?_
       refine .sr fun _ hK19 => ?_
       refine .mv rfl (.v (.neq rfl rfl) (.mv rfl ?_))
       refine AK.splitB (g := 95) rfl (fun hg_11_2 => ?_) (fun hg_11_2 => ?_)
       ·have hg_11_2' := hg_11_2
        try simp only [bs] at hg_11_2'
        refine AK.pass rfl rfl (hg_11_2) rfl ?_
        refine AK.pass rfl rfl (hg_11_2) rfl ?_
        refine .v (.pickT rfl (hg_11_2) rfl) (.nt hK19 ?_)
        refine AK.cond_t rfl (rfl) ?_
        refine .sr fun _ hK20 => ?_
        refine .mv rfl ?_
        refine AK.call co13 rfl (fun w hw => s_lim w e5 (by rcases hL5 with h | h; exact .inr h.1; exact .inl h.1)) trivial rfl ?_
        rintro r o ⟨rfl, rfl⟩
        refine .mv rfl ?_
        refine AK.knownT (g := 101) rfl (rfl) (fun hg_12_2 => ?_)
        refine AK.val _ (Yl.move rfl) ⟨_, rfl, gB hg_12_2⟩ rfl ?_
        refine AK.call co13 rfl (fun w hw => s_lim w e6 (by rcases hL6 with h | h; exact .inr h.1; exact .inl h.1)) ⟨_, rfl, gB hg_12_2⟩ rfl ?_
        rintro r o ⟨rfl, rfl⟩
        refine .v (.pickT rfl (hg_12_2) rfl) (.mv rfl ?_)
        refine AK.knownT (g := 105) rfl (rfl) (fun hg_12_6 => ?_)
        refine AK.call co9 rfl (fun w hw => s_awake w (hT.at hw)) ⟨_, rfl, gB hg_12_6⟩ rfl ?_
        rintro r o ⟨rfl, rfl⟩
        refine .v (.pickT rfl (hg_12_6) rfl) (.as rfl (.nt hK20 (.ret (.then_ret ?_))))
        refine AK.ret1 rfl rfl (fun w hw => ⟨_, _, ?_, rfl, Ret.of (hw.pick [] (by decide) rfl rfl)⟩)
        exact ⟨rfl, rfl⟩
       ·have hg_11_2' := hg_11_2
        try simp only [bs] at hg_11_2'
        refine AK.val _ (Yl.move rfl) ⟨_, rfl, gB hg_11_2⟩ rfl ?_
        refine AK.val _ (Yl.neq rfl rfl) ⟨_, rfl, gB hg_11_2⟩ rfl ?_
        refine .v (.pickF rfl (hg_11_2) rfl) (.nt hK19 ?_)
        refine AK.condNe rfl (fun hc2 => ?_) (fun hc2 => ?_)
        ·refine .sr fun _ hK21 => ?_
         refine .mv rfl ?_
         refine AK.call co13 rfl (fun w hw => s_lim w e5 (by rcases hL5 with h | h; exact .inr h.1; exact .inl h.1)) trivial rfl ?_
         rintro r o ⟨rfl, rfl⟩
         refine .mv rfl ?_
         refine AK.knownT (g := 101) rfl (rfl) (fun hg_12_2 => ?_)
         refine AK.val _ (Yl.move rfl) ⟨_, rfl, gB hg_12_2⟩ rfl ?_
         refine AK.call co13 rfl (fun w hw => s_lim w e6 (by rcases hL6 with h | h; exact .inr h.1; exact .inl h.1)) ⟨_, rfl, gB hg_12_2⟩ rfl ?_
         rintro r o ⟨rfl, rfl⟩
         refine .v (.pickT rfl (hg_12_2) rfl) (.mv rfl ?_)
         refine AK.knownT (g := 105) rfl (rfl) (fun hg_12_6 => ?_)
         refine AK.call co9 rfl (fun w hw => s_awake w (hT.at hw)) ⟨_, rfl, gB hg_12_6⟩ rfl ?_
         rintro r o ⟨rfl, rfl⟩
         refine .v (.pickT rfl (hg_12_6) rfl) (.as rfl (.nt hK21 (.ret (.then_ret ?_))))
         refine AK.ret1 rfl rfl (fun w hw => ⟨_, _, ?_, rfl, Ret.of (hw.pick [] (by decide) rfl rfl)⟩)
         exact ⟨rfl, rfl⟩
        ·have he5 : e5 = 0 := by simpa using hg_11_2
         have he6 : e6 = 0 := by omega
         have m5 := hL5.at0 he5
         have m6 := hL6.at0 he6
         have q1 := prod_cat m1 m2 m3 m5
         have q2 := prod_sta m1 m4 m6
         refine .skip ?_
         refine AK.then_ (hK18 _ ?_)
         refine .sr fun _ hK22 => ?_
         refine .v (.loadBoxG ag32 rfl bsp rfl rfl) ?_
         refine AK.call co23 rfl (fun w hw => s_validate w _ d3 (RdD.own 11 hw hrs3 rfl rfl rfl)) trivial rfl ?_
         rintro r o ⟨rfl, rfl⟩
         refine .v (.eql rfl rfl) (.mv rfl ?_)
         refine AK.knownT (g := 111) rfl (decide_eq_true ((errV_iff _).2 m3.1)) (fun hg_13_3 => ?_)
         refine AK.val _ (Yl.loadBoxG ag32 rfl bsp rfl rfl) ⟨_, rfl, gB hg_13_3⟩ rfl ?_
         refine AK.val _ (Yl.loadBoxG ag32 rfl bsp rfl rfl) ⟨_, rfl, gB hg_13_3⟩ rfl ?_
         refine AK.call co24 rfl (fun w hw => s_sameD w _ _ d3 d5 (RdD.own 11 hw hrs3 rfl rfl rfl) (RdD.own 20 hw hrs5 rfl rfl rfl)) ⟨_, rfl, gB hg_13_3⟩ rfl ?_
         rintro r o ⟨rfl, rfl⟩
         refine .v (.pickT rfl (hg_13_3) rfl) (.mv rfl ?_)
         refine AK.knownT (g := 116) rfl (decide_eq_true q1) (fun hg_13_8 => ?_)
         refine AK.val _ (Yl.loadBoxG ag32 rfl bsp rfl rfl) ⟨_, rfl, gB hg_13_8⟩ rfl ?_
         refine AK.val _ (Yl.loadBoxG ag32 rfl bsp rfl rfl) ⟨_, rfl, gB hg_13_8⟩ rfl ?_
         refine AK.call co24 rfl (fun w hw => s_sameD w _ _ d4 d6 (RdD.own 16 hw hrs4 rfl rfl rfl) (RdD.own 24 hw hrs6 rfl rfl rfl)) ⟨_, rfl, gB hg_13_8⟩ rfl ?_
         rintro r o ⟨rfl, rfl⟩
         refine .v (.pickT rfl (hg_13_8) rfl) (.mv rfl ?_)
         refine AK.knownT (g := 121) rfl (decide_eq_true q2) (fun hg_13_13 => ?_)
         refine AK.call co9 rfl (fun w hw => s_awake w (hT.at hw)) ⟨_, rfl, gB hg_13_13⟩ rfl ?_
         rintro r o ⟨rfl, rfl⟩
         refine .v (.pickT rfl (hg_13_13) rfl) (.as rfl (.nt hK22 (.ret ?_)))
         refine AK.ret1 rfl rfl (fun w hw => ⟨_, _, ?_, rfl, Ret.of (hw.pick [] (by decide) rfl rfl)⟩)
         exact ⟨rfl, rfl⟩

end Go.Proofs.YtbibnpdnmmgacaaGreatDoor

namespace Go.Sx
open Go.ChangeShapes Go.WideShapes Go.ChangeAt Go.RowKit
section
variable {H : Type} {enc : TypeId × Value → H} {P : Program} {W : World}
/-- the struct of an expression: a kind, a letter, a row of its own type -/
def exTB (P : Program) (t : TypeId) : Bool := match P.underlying t with
  | some (.struct fs) => match fs[0]?, fs[1]?, fs[2]? with
    | some a, some b, some c =>
      (a.offset == 0 && b.offset == 1 && c.offset == 2) && (P.cellsOf a.type == 1 && P.cellsOf b.type == 1 && P.cellsOf c.type == 1) &&
      (match P.underlying a.type, P.underlying b.type with | some (.int .i64), some (.int .i64) => true | _, _ => false) &&
      (match P.underlying c.type with | some (.slice q) => q == t | _ => false) &&
      (P.cellsOf t == 3)
    | _, _, _ => false
  | _ => false
theorem op_ex {t : TypeId} (hB : exTB P t = true) : ∀ (fuel : Nat) (cs : List Value) (x : DataW H × List MemPlace), DataW.trod enc P W 0 (fun _ => true) true fuel t cs = some x →
    ∃ (e : Ex) (s : Value), cs = [.int .i64 e.op, .int .i64 e.lt, s] ∧ RdK (cellR (fun _ => False) W) s e.kids := by
  unfold exTB at hB
  split at hB
  case h_2 => cases hB
  rename_i fs hu
  split at hB
  case h_2 => cases hB
  rename_i a b c ha hb hc
  simp only [Bool.and_eq_true, beq_iff_eq] at hB
  obtain ⟨⟨⟨⟨⟨⟨oa, ob⟩, oc⟩, ⟨⟨ca, cb⟩, cc⟩⟩, hI⟩, hS⟩, ht3⟩ := hB
  split at hI
  case h_2 => cases hI
  rename_i uA uB
  split at hS
  case h_2 => cases hS
  rename_i q uq
  obtain rfl : q = t := by simpa using hS
  intro fuel
  induction fuel using Nat.strongRecOn with
  | _ fuel ih =>
  intro cs x h
  obtain ⟨xs, n, hfn, _, hl, _, hf⟩ := DataW.trod_struct hu h
  have fa := hf 0 a ha
  have fb := hf 1 b hb
  have fc := hf 2 c hc
  have some_of : ∀ (i : Nat) (g : Field), fs[i]? = some g → ∃ y, xs[i]? = some y := fun i g hg => by
    have : i < xs.length := by
      have h1 := (Array.getElem?_eq_some_iff.1 hg).1
      omega
    exact ⟨xs[i], List.getElem?_eq_getElem this⟩
  obtain ⟨ya, ea⟩ := some_of 0 a ha
  obtain ⟨yb, eb⟩ := some_of 1 b hb
  obtain ⟨yc, ec⟩ := some_of 2 c hc
  rw [ea, oa, ca] at fa
  rw [eb, ob, cb] at fb
  rw [ec, oc, cc] at fc
  rw [ht3] at hl
  obtain ⟨v0, v1, v2, rfl⟩ : ∃ v0 v1 v2, cs = [v0, v1, v2] := by
    match cs, hl with
    | [v0, v1, v2], _ => exact ⟨_, _, _, rfl⟩
  simp at fa fb fc
  obtain ⟨z0, h0, _, _⟩ := DataW.trod_int uA fa
  obtain ⟨z1, h1, _, _⟩ := DataW.trod_int uB fb
  cases h0; cases h1
  rcases DataW.trod_slice uq fc with ⟨e2, _⟩ | ⟨y, len, cap, elems, rest, m, hnm, e2, _, _, hlc, hcm, hlen, hel, _, _⟩
  · cases e2
    exact ⟨.mk z0 z1 [], _, rfl, RdK.nil _⟩
  · cases e2
    have hx : ∀ i, i < len → ∃ p : Ex × Value, (W.cell? (y.add (i * 3)) = some (.int .i64 p.1.op) ∧ W.cell? (y.add (i * 3 + 1)) = some (.int .i64 p.1.lt) ∧ W.cell? (y.add (i * 3 + 2)) = some p.2) ∧ RdK (cellR (fun _ => False) W) p.2 p.1.kids := fun i hi => by
      have key := hel i hi
      rw [List.getElem?_eq_getElem (by omega)] at key
      obtain ⟨cs', h1, h2⟩ := Option.bind_eq_some_iff.1 key
      obtain ⟨e, s, rfl, hr⟩ := ih m (by omega) cs' _ h2
      rw [ht3] at h1
      obtain ⟨_, hlen', hcell⟩ := World.cells?_some h1
      have c0 := hcell 0 (by simp)
      have c1 := hcell 1 (by simp)
      have c2 := hcell 2 (by simp)
      rw [Go.Deep.add_add] at c0 c1 c2
      simp at c0 c1 c2
      exact ⟨(e, s), ⟨c0, c1, c2⟩, hr⟩
    letI : Inhabited Value := ⟨undef⟩
    obtain ⟨B, hBB⟩ := Go.Deep.choose_lt hx
    have hkl : ((List.range len).map fun i => (B i).1).length = len := by simp
    have hsl : ((List.range len).map fun i => (B i).2).length = len := by simp
    have hkg : ∀ i, i < len → ((List.range len).map fun i => (B i).1).getD i default = (B i).1 := fun i hi => by simp [List.getD_eq_getElem?_getD, hi]
    have hsg : ∀ i, i < len → ((List.range len).map fun i => (B i).2).getD i undef = (B i).2 := fun i hi => by simp [List.getD_eq_getElem?_getD, hi]
    refine ⟨.mk z0 z1 ((List.range len).map fun i => (B i).1), _, rfl, RdK.mk _ ((List.range len).map fun i => (B i).2) _ (by rw [hsl]; exact hkl.symm) ?_ fun i hi => ?_⟩
    · show Rdx _ (.slice (some y) len cap) 3 ((List.range len).map fun i => (B i).1).length _
      rw [hkl]
      refine ⟨some y, cap, rfl, hlc, by omega, ?_, fun _ _ => rfl, ?_⟩
      · show (xcs ((List.range len).map fun i => (B i).1) _).length = _
        rw [xcs_length _ _ (by rw [hsl, hkl]), hkl]
      · intro ad j u had hj
        cases had
        refine ⟨id, ?_⟩
        have hj : (xcs ((List.range len).map fun i => (B i).1) ((List.range len).map fun i => (B i).2))[j]? = some u := hj
        have hjn : j < len * 3 := by
          have := (List.getElem?_eq_some_iff.1 hj).1
          rw [xcs_length _ _ (by rw [hsl, hkl]), hkl] at this; exact this
        have hdiv : j / 3 < len := by omega
        have e := xcs_at (j / 3) ((List.range len).map fun i => (B i).1) ((List.range len).map fun i => (B i).2) (by rw [hsl, hkl]) (by rw [hkl]; exact hdiv)
        have e' := congrArg (fun q => q[j % 3]?) e
        simp only [List.getElem?_take, List.getElem?_drop] at e'
        rw [if_pos (Nat.mod_lt _ (by omega)), show j / 3 * 3 + j % 3 = j from by omega, hj, hkg _ hdiv, hsg _ hdiv] at e'
        obtain ⟨⟨b1, b2, b3⟩, _⟩ := hBB (j / 3) hdiv
        have h3 : j % 3 = 0 ∨ j % 3 = 1 ∨ j % 3 = 2 := by omega
        rcases h3 with hm0 | hm1 | hm2
        · rw [hm0] at e'
          simp at e'
          rw [show j = j / 3 * 3 from by omega, b1, e']
        · rw [hm1] at e'
          simp at e'
          rw [show j = j / 3 * 3 + 1 from by omega, b2, e']
        · rw [hm2] at e'
          simp at e'
          rw [show j = j / 3 * 3 + 2 from by omega, b3, e']
    · have hi' : i < len := by rw [← hkl]; exact hi
      rw [hsg i hi']
      show RdK _ _ (((List.range len).map fun i => (B i).1).getD i default).kids
      rw [hkg i hi']
      exact (hBB i hi').2
theorem open_ex {t : TypeId} (hB : exTB P t = true) {v : Value} {d : DataW H} {p : List MemPlace} (hval : Value.okWide P W .any 0 t v) (h : DataW.Trod enc P W 0 (fun _ => true) true t v d p) :
    ∃ (e : Ex) (s : Value), v = .agg #[.int .i64 e.op, .int .i64 e.lt, s] ∧ RdK (cellR (fun _ => False) W) s e.kids := by
  obtain ⟨fuel, hf⟩ := h
  have hst : ∃ fs, P.underlying t = some (.struct fs) := by
    unfold exTB at hB
    split at hB
    · exact ⟨_, ‹_›⟩
    · cases hB
  obtain ⟨fs, hu⟩ := hst
  obtain ⟨cs, rfl, _⟩ := okWide_struct hu hval
  have hf' : DataW.trod enc P W 0 (fun _ => true) true fuel t cs.toList = some (d, p) := by simpa [Value.cells] using hf
  obtain ⟨e, s, h1, h2⟩ := op_ex hB fuel _ _ hf'
  have this : cs = #[.int .i64 e.op, .int .i64 e.lt, s] := by
    apply Array.toList_inj.1; simpa using h1
  exact ⟨e, s, by rw [this], h2⟩
end
end Go.Sx
