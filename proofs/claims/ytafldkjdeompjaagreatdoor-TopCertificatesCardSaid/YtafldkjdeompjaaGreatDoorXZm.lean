import Derived.Test.YtafldkjdeompjaaGreatDoorXZl
import Derived.Test.YtafldkjdeompjaaGreatDoorXZj
import Derived.Test.YtafldkjdeompjaaGreatDoorXZk
import Derived.Test.YtafldkjdeompjaaGreatDoorXZc
import Derived.Test.YtafldkjdeompjaaGreatDoorXZi
import Derived.Test.YtafldkjdeompjaaGreatDoorXZd
set_option linter.unusedVariables false
set_option linter.unusedSimpArgs false
set_option linter.unusedSectionVars false
set_option maxRecDepth 100000
namespace Go.Sx.Pt
/-! ### isomorphisms -/
def Full (d : Dfa) : Prop := (TSt d).length = d.fin.length
instance (d : Dfa) : Decidable (Full d) := inferInstanceAs (Decidable (_ = _))
theorem numT_len (d : Dfa) : (numT d).length = d.fin.length := numK_len _ _ _
theorem trim_fl (d : Dfa) : (trimD d).fin.length = (TSt d).length := by simp [trimD]
/-! ### an automaton whose states are turned -/
end Go.Sx.Pt

namespace Go.Sx
/-! ### the certificates of an automaton fit together -/
theorem map_run {d m : Dfa} {mp : List Int} {ac ts : List (List UInt8)} (h : ChkP d m mp ac ts) : ∀ (l : List UInt8) (p : Int), InR d p → 0 ≤ mp.getD p.toNat 0 → Okw d l → mp.getD (runI d p l).toNat 0 = runI m (mp.getD p.toNat 0) l ∧ 0 ≤ mp.getD (runI d p l).toNat 0 := by
  intro l
  induction l with
  | nil => intro p _ h0 _; exact ⟨rfl, h0⟩
  | cons c l ih =>
    intro p hp h0 hl
    obtain ⟨h4, h5⟩ := okw_cons.1 hl
    have hx := okB_num h4
    have p1 := hp.1; have p2 := hp.2
    have h6 := (h.map.hom p.toNat (by omega) h0).2 _ hx
    rw [Int.toNat_of_nonneg p1] at h6
    have hmr : InR m (mp.getD p.toNat 0) := ⟨h0, (h.map.bd p.toNat (by rw [h.map.len]; omega)).2⟩
    have h7 := stepQ_inr h.vm hmr (x := ((c.toNat : Int) - 97).toNat) (by rw [← h.L]; exact hx)
    rw [runI_cons, runI_cons, ← h6]
    exact ih _ (stepQ_inr h.vd hp hx) (by rw [h6]; exact h7.1) h5
structure CertOK (d t m : Dfa) (nu mp : List Int) (ac ts : List (List UInt8)) : Prop where
  chk : ChkP d m mp ac ts
  num : nu.length = d.fin.length
  mapl : mp.length = d.fin.length
  pair : pairE t m = 0
  find : Pt.FindB t m = true
  word : Pt.FindW t m = []
  bis : Pt.ChkP t m (Pt.FindP t m)
  tl : t.fin.length ≤ 512
  ml : m.fin.length ≤ 512
  at_ : ∀ i, i < d.fin.length → nu.getD i 0 = -1 ∨ (0 ≤ nu.getD i 0 ∧ nu.getD i 0 < t.fin.length ∧ 0 ≤ mp.getD i 0 ∧ mp.getD i 0 < m.fin.length ∧
    (Pt.FindP t m).getD (nu.getD i 0).toNat 0 = (Pt.FindP t m).getD ((t.fin.length : Int) + mp.getD i 0).toNat 0)
end Go.Sx
namespace Go.Sx
theorem cert_ok {d : Dfa} (hv : VD d) {ts : List (List UInt8)} (hts : TestsOK (minD d) ts) : CertOK d (trimD d) (minD d) (numT d) (mapM d) (AccW (minD d)) ts := by
  have hck := prove_ok hv hts
  have ht := trim_vd hv
  have hm := min_vd hv
  have hL : (trimD d).L = (minD d).L := rfl
  have hp : pairE (trimD d) (minD d) = 0 := Pt.pairE_mk ht hm hL
  have hlg : Lng (trimD d) (minD d) := (trim_lng hv).trans (b := d) rfl ((min_lng hv).symm rfl)
  have hf : Pt.FindB (trimD d) (minD d) = true := (Pt.find_iff hp).2 hlg
  have hb := Pt.chk_find hp hf
  have hml := (mapM_ok hv).len
  refine ⟨hck, Pt.numT_len d, hml, hp, hf, ?_, hb, ht.n, hm.n, fun i hi => ?_⟩
  · rw [(Pt.find_ok hp).2]
    exact Pt.dif_false ((Pt.dif6_iff ht hm hL).2 hlg)
  · have hT := TSt_ok hv
    have ei : ((i : Nat) : Int).toNat = i := by omega
    rcases Classical.em (((i : Nat) : Int) ∈ TSt d) with hq | hq
    · have h1 := numT_mem hv hq
      rw [ei] at h1
      have hpl := posN_lt hq
      obtain ⟨hw, hr⟩ := two_ok hv hpl
      rw [getD_posN 0 hq] at hr
      have hok : Okw d ((TWo d).getD (posN (TSt d) ((i : Nat) : Int)) []) := by
        unfold validW at hw; rw [Bool.and_eq_true] at hw; exact hw.2
      have h2 := trim_run hv hw
      rw [hr] at h2
      have h3 : runI (trimD d) 0 ((TWo d).getD (posN (TSt d) ((i : Nat) : Int)) []) = ((posN (TSt d) ((i : Nat) : Int) : Nat) : Int) := by
        rw [← (RunV_bd (by rw [h2]; omega)).2.1]; exact h2
      have hs := (mapM_ok hv).st
      have h4 := map_run hck _ d.s hv.s (by rw [hs]; exact hm.s.1) hok
      rw [hr, ei, hs] at h4
      obtain ⟨h4, h5⟩ := h4
      have h6 := (mapM_ok hv).bd i (by omega)
      have h7 := hb.clo.word ht hm hL _ _ _ ht.s hm.s hb.clo.start hok
      have h8 : runI (trimD d) (trimD d).s ((TWo d).getD (posN (TSt d) ((i : Nat) : Int)) []) = ((posN (TSt d) ((i : Nat) : Int) : Nat) : Int) := h3
      rw [h8, ← h4] at h7
      have hfl : (trimD d).fin.length = (TSt d).length := Pt.trim_fl d
      rw [h1]
      refine .inr ⟨by omega, by omega, h5, h6.2, ?_⟩
      rcases h7 with h7 | h7
      · rw [h7]
      · exact h7.2.2
    · left
      have h := numK_get hT.1 hT.2.1 (TSt d).length (Nat.le_refl _) (i : Int) ⟨by omega, by omega⟩
      rw [ei, posN_not hq, if_neg (Nat.lt_irrefl _)] at h
      exact h
end Go.Sx

namespace Go.Proofs.YtafldkjdeompjaaGreatDoor
open Go.Sx Go.RowKit
end Go.Proofs.YtafldkjdeompjaaGreatDoor

namespace Go.Proofs.YtafldkjdeompjaaGreatDoor
open Go.Sx Go.RowKit

end Go.Proofs.YtafldkjdeompjaaGreatDoor

namespace Go.Proofs.YtafldkjdeompjaaGreatDoor
open Go.Sx Go.RowKit Go.Sx.Pt
theorem q_canonI (w : World) (v : Value) (xs : List Int) (h : RdI w v xs) (hn : xs.length ≤ 4096) : CallS Tryz.prog 73 [v] w (fun r o => o = [row r 3 1 xs.length ((canon xs).map (Value.int .i64))]) := by
 unfold RdI at h
 refine spec_of Tryz.func73 rfl (leb rfl) ?_
 refine .sr fun _ hK1 => ?_
 refine .as rfl (.nt hK1 ?_)
 refine .sr fun _ hK2 => ?_
 refine .mv rfl ?_
 refine .v (.lenR sl28 rfl rdp) ?_
 refine AK.make1 sl28 el3 rfl rfl rfl (by omega) (by omega) trivial rfl (fun mv0 => ?_)
 refine .as rfl (.nt hK2 ?_)
 refine .sr fun _ hK3 => ?_
 refine AK.makeMap trivial rfl (fun mb => ?_)
 refine .as rfl (.nt hK3 ?_)
 refine .seq fun _ hK4 => ?_
 refine .sr fun _ hK5 => ?_
 refine .mv rfl ?_
 refine .v (.lenR sl28 rfl rdp) ?_
 refine .mv rfl (.nt hK5 (.block ?_))
 refine AK.loopK (X := Nat) [(3, _), (4, _), (13, _), (14, _)] (fun k => [(15, .int .i64 (k : Int))]) (fun k => [row mv0 3 1 xs.length ((canon (xs.take k) ++ List.replicate (xs.length - k) 0).map (Value.int .i64)), mapA mb (mkv (Value.int .i64) (Value.int .i64) (cst (xs.take k)).2)]) (fun k => k ≤ xs.length) (fun k => xs.length - k) (0) slr ?_ ?_ ?_ ?_
 ·exact Nat.zero_le _
 ·exact slr
 ·exact fun w hw => by simpa [canon, cst, mkv] using hw
 ·intro k hg0 _ hK6
  have hcl := cst_le (xs.take k)
  rw [List.length_take] at hcl
  refine .sr fun _ hK7 => ?_
  refine .v (.lss rfl rfl) ?_
  refine .nt hK7 ?_
  refine .seq fun _ hK8 => ?_
  refine AK.condD rfl (fun hc0 => ?_) (fun hc0 => ?_)
  ·refine .skip ?_
   refine AK.then_ (hK8 _ ?_)
   refine .seq fun _ hK9 => ?_
   refine .block ?_
   refine .sr fun _ hK10 => ?_
   refine .mv rfl ?_
   first | refine .v (.iN sl28 rfl rfl) ?_ | refine .v (.iK sl28 rfl rfl) ?_
   refine .v (.loadI on3 rfl rdp (by omega)) ?_
   refine .as rfl (.as rfl (.nt hK10 ?_))
   refine .sr fun _ hK11 => ?_
   refine .mv rfl (.mv rfl ?_)
   refine .v (.lookup2I mp89 (keyInt un3) el3 rfl rfl msp) ?_
   refine .mv rfl ?_
   refine .v (.extract rfl rfl) ?_
   refine .v (.extract rfl rfl) ?_
   refine .as rfl (.as rfl (.nt hK11 ?_))
   refine .seq fun _ hK12 => ?_
   refine .sr fun _ hK13 => ?_
   refine .mv rfl ?_
   refine .v (.not rfl) ?_
   refine .nt hK13 ?_
   refine AK.condB rfl (fun hc1 => ?_) (fun hc1 => ?_)
   ·refine .sr fun _ hK14 => ?_
    refine .mv rfl ?_
    refine .v (.lenM mp89 rfl msp) ?_
    refine .as rfl (.nt hK14 ?_)
    refine AK.region ?_
    refine .mv rfl (.mv rfl (.mv rfl ?_))
    refine AK.mapSet 1 rfl mp89 (keyInt un3) rfl rfl rfl trivial ?_
    refine .nt hK12 ?_
    refine AK.region ?_
    refine .mv rfl (.mv rfl (.mv rfl ?_))
    first | refine .v (.iN sl28 rfl rfl) ?_ | refine .v (.iK sl28 rfl rfl) ?_
    refine AK.store1e 0 rfl sz3 rfl rfl rfl rfl (by omega) (cs' := ((canon (xs.take (k + 1)) ++ List.replicate (xs.length - (k + 1)) 0).map (Value.int .i64))) (by first | exact canon_fill_none 0 hc0 hc1 | exact canon_fill_some 0 hc0 hc1) trivial ?_
    refine .nil (.block_normal ?_)
    refine AK.then_ (hK9 _ ?_)
    refine AK.region ?_
    refine .v (.add rfl rfl (by omega)) ?_
    refine .mv rfl (.nil ?_)
    refine AK.then_ (hK6 _ _ (k + 1) (by omega) (by omega) (slr) (fun w hw => by first | (rw [cst_map_none 0 hc0 hc1]; exact hw) | (rw [cst_map_some 0 hc0 hc1]; exact hw)))
   ·refine .skip ?_
    refine AK.then_ (hK12 _ ?_)
    refine AK.region ?_
    refine .mv rfl (.mv rfl (.mv rfl ?_))
    first | refine .v (.iN sl28 rfl rfl) ?_ | refine .v (.iK sl28 rfl rfl) ?_
    refine AK.store1e 0 rfl sz3 rfl rfl rfl rfl (by omega) (cs' := ((canon (xs.take (k + 1)) ++ List.replicate (xs.length - (k + 1)) 0).map (Value.int .i64))) (by first | exact canon_fill_none 0 hc0 hc1 | exact canon_fill_some 0 hc0 hc1) trivial ?_
    refine .nil (.block_normal ?_)
    refine AK.then_ (hK9 _ ?_)
    refine AK.region ?_
    refine .v (.add rfl rfl (by omega)) ?_
    refine .mv rfl (.nil ?_)
    refine AK.then_ (hK6 _ _ (k + 1) (by omega) (by omega) (slr) (fun w hw => by first | (rw [cst_map_none 0 hc0 hc1]; exact hw) | (rw [cst_map_some 0 hc0 hc1]; exact hw)))
  ·refine .exit (.then_exit (.then_exit (.block_exit ?_)))
   refine AK.then_ (hK4 _ ?_)
   refine .sr fun _ hK15 => ?_
   refine .mv rfl (.as rfl (.nt hK15 (.ret ?_)))
   refine AK.ret1 rfl rfl (fun w hw => ⟨_, _, ?_, rfl, Ret.of (hw.pick [0] (by decide) rfl rfl)⟩)
   have hk : k = xs.length := by omega
   subst hk
   simp

theorem q_canon (w : World) (v : Value) (xs : List Int) (h : RdI w v xs) : CallS Tryz.prog 55 [v] w (fun r o => o = [row r 3 1 (canonB xs).length ((canonB xs).map (Value.int .i64))]) := by
 have h0 := h
 unfold RdI at h
 refine spec_of Tryz.func55 rfl (leb rfl) ?_
 refine .sr fun _ hK1 => ?_
 refine .as rfl (.nt hK1 ?_)
 refine .seq fun _ hK2 => ?_
 refine .sr fun _ hK3 => ?_
 refine .mv rfl ?_
 refine .v (.lenR sl28 rfl rdp) ?_
 refine .v (.gtr rfl rfl) ?_
 refine .nt hK3 ?_
 refine AK.condD rfl (fun hc0 => ?_) (fun hc0 => ?_)
 ·refine .sr fun _ hK4 => ?_
  refine .as rfl (.nt hK4 (.ret (.then_ret ?_)))
  refine AK.ghost 3 1 ?_
  refine AK.ret1 rfl rfl (fun w hw => ⟨_, _, ?_, rfl, Ret.of (hw.pick [0] (by decide) rfl rfl)⟩)
  have e : canonB xs = [] := by unfold canonB; rw [if_neg (by omega)]
  rw [e]; rfl
 ·refine .skip ?_
  refine AK.then_ (hK2 _ ?_)
  refine .sr fun _ hK5 => ?_
  refine .mv rfl ?_
  refine AK.call co73 rfl (fun w hw => q_canonI w v xs (RdI.at h0 hw) (by omega)) trivial rfl ?_
  rintro r o rfl
  refine .as rfl (.nt hK5 (.ret ?_))
  refine AK.ret1 rfl rfl (fun w hw => ⟨_, _, ?_, rfl, Ret.of (hw.pick [0] (by decide) rfl rfl)⟩)
  have e : canonB xs = canon xs := by unfold canonB; rw [if_pos (by omega)]
  rw [e, canon_length]; rfl

theorem q_valid (w : World) (v : Value) (xs : List Int) (h : RdI w v xs) : CallS Tryz.prog 31 [v] w (fun r o => r = .bool (decide (ValidP xs)) ∧ o = []) := by
 unfold RdI at h
 refine spec_of Tryz.func31 rfl (leb rfl) ?_
 refine .sr fun _ hK1 => ?_
 refine .as rfl (.nt hK1 ?_)
 refine .seq fun _ hK2 => ?_
 refine .sr fun _ hK3 => ?_
 refine .mv rfl ?_
 refine .v (.lenR sl28 rfl rdp) ?_
 refine .v (.gtr rfl rfl) ?_
 refine .nt hK3 ?_
 refine AK.condD rfl (fun hc0 => ?_) (fun hc0 => ?_)
 ·refine .sr fun _ hK4 => ?_
  refine .as rfl (.nt hK4 (.ret (.then_ret ?_)))
  refine AK.ret1 rfl rfl (fun w hw => ⟨_, _, ?_, rfl, Ret.of (hw.pick [] (by decide) rfl rfl)⟩)
  exact ⟨congrArg Value.bool (refvalid_F (by omega)), rfl⟩
 ·refine .skip ?_
  refine AK.then_ (hK2 _ ?_)
  refine .sr fun _ hK5 => ?_
  refine .as rfl (.nt hK5 ?_)
  refine .seq fun _ hK6 => ?_
  refine .sr fun _ hK7 => ?_
  refine .mv rfl ?_
  refine .v (.lenR sl28 rfl rdp) ?_
  refine .mv rfl (.nt hK7 (.block ?_))
  refine AK.loopK (X := Nat) [(9, _), (10, _)] (fun k => [(3, .int .i64 ((vst (xs.take k)).getD 0)), (11, .int .i64 (k : Int))]) (fun k => []) (fun k => k ≤ xs.length ∧ (vst (xs.take k)).isSome = true) (fun k => xs.length - k) (0) slr ?_ ?_ ?_ ?_
  ·exact ⟨Nat.zero_le _, rfl⟩
  ·exact slr
  ·exact fun w hw => hw
  ·intro k hg0 _ hK8
   obtain ⟨hk, hs⟩ := hg0
   obtain ⟨c, hc⟩ := Option.isSome_iff_exists.1 hs
   have hcl := vst_le _ _ hc
   rw [List.length_take] at hcl
   have hcv : (vst (xs.take k)).getD 0 = c := by rw [hc]; rfl
   refine .sr fun _ hK9 => ?_
   refine .v (.lss rfl rfl) ?_
   refine .nt hK9 ?_
   refine .seq fun _ hK10 => ?_
   refine AK.condD rfl (fun hc1 => ?_) (fun hc1 => ?_)
   ·refine .skip ?_
    refine AK.then_ (hK10 _ ?_)
    refine .seq fun _ hK11 => ?_
    refine .block ?_
    refine .sr fun _ hK12 => ?_
    first | refine .v (.iN sl28 rfl rfl) ?_ | refine .v (.iK sl28 rfl rfl) ?_
    refine .v (.loadI on3 rfl rdp (by omega)) ?_
    refine .as rfl (.nt hK12 ?_)
    refine .seq fun _ hK13 => ?_
    refine .sr fun _ hK14 => ?_
    refine .mv rfl ?_
    refine .v (.lss rfl rfl) ?_
    refine .mv rfl ?_
    refine AK.splitB (g := 17) rfl (fun hg_7_2 => ?_) (fun hg_7_2 => ?_)
    ·have hg_7_2' := hg_7_2
     try simp only [bs] at hg_7_2'
     refine AK.pass rfl rfl (hg_7_2) rfl ?_
     refine AK.pass rfl rfl (hg_7_2) rfl ?_
     refine AK.pass rfl rfl (hg_7_2) rfl ?_
     refine .v (.pickT rfl (hg_7_2) rfl) ?_
     refine .nt hK14 ?_
     refine AK.cond_t rfl (rfl) ?_
     refine .sr fun _ hK15 => ?_
     refine .as rfl (.nt hK15 (.ret (.then_ret (.block_ret (.then_ret (.then_ret (.block_ret (.then_ret ?_))))))))
     refine AK.ret1 rfl rfl (fun w hw => ⟨_, _, ?_, rfl, Ret.of (hw.pick [] (by decide) rfl rfl)⟩)
     refine ⟨congrArg Value.bool ?_, rfl⟩
     symm; rw [decide_eq_false_iff_not]
     rintro ⟨_, e⟩
     exact vst_none_step (xs := xs) (k := k) (by omega) hc (by first | exact .inl hg_7_2' | exact .inr (by omega)) e
    ·have hg_7_2' := hg_7_2
     try simp only [bs] at hg_7_2'
     refine AK.val _ (Yl.move rfl) ⟨_, rfl, gB hg_7_2⟩ rfl ?_
     refine AK.val _ (Yl.move rfl) ⟨_, rfl, gB hg_7_2⟩ rfl ?_
     refine AK.val _ (Yl.gtr rfl rfl) ⟨_, rfl, gB hg_7_2⟩ rfl ?_
     refine .v (.pickF rfl (hg_7_2) rfl) ?_
     refine .nt hK14 ?_
     refine AK.condD rfl (fun hc2 => ?_) (fun hc2 => ?_)
     ·refine .sr fun _ hK16 => ?_
      refine .as rfl (.nt hK16 (.ret (.then_ret (.block_ret (.then_ret (.then_ret (.block_ret (.then_ret ?_))))))))
      refine AK.ret1 rfl rfl (fun w hw => ⟨_, _, ?_, rfl, Ret.of (hw.pick [] (by decide) rfl rfl)⟩)
      refine ⟨congrArg Value.bool ?_, rfl⟩
      symm; rw [decide_eq_false_iff_not]
      rintro ⟨_, e⟩
      exact vst_none_step (xs := xs) (k := k) (by omega) hc (by first | exact .inl hg_7_2' | exact .inr (by omega)) e
     ·refine .skip ?_
      refine AK.then_ (hK13 _ ?_)
      refine .sr fun _ hK17 => ?_
      refine .mv rfl (.mv rfl ?_)
      refine .v (.eql rfl rfl) ?_
      refine .nt hK17 ?_
      refine AK.condD rfl (fun hc3 => ?_) (fun hc3 => ?_)
      ·refine AK.region ?_
       refine .mv rfl ?_
       refine .v (.add rfl rfl (by omega)) ?_
       refine .as rfl (.nil (.block_normal ?_))
       refine AK.then_ (hK11 _ ?_)
       refine AK.region ?_
       refine .v (.add rfl rfl (by omega)) ?_
       refine .mv rfl (.nil ?_)
       refine AK.then_ (hK8 _ _ (k + 1) ⟨by omega, by rw [vst_step hc1 hc (by omega) (by omega)]; rfl⟩ (by omega) (.cons (slI rfl (by rw [vst_step hc1 hc (by omega) (by omega)]; show _ = ite _ _ _; split <;> omega)) (slr)) (fun w hw => hw))
      ·refine .skip (.block_normal ?_)
       refine AK.then_ (hK11 _ ?_)
       refine AK.region ?_
       refine .v (.add rfl rfl (by omega)) ?_
       refine .mv rfl (.nil ?_)
       refine AK.then_ (hK8 _ _ (k + 1) ⟨by omega, by rw [vst_step hc1 hc (by omega) (by omega)]; rfl⟩ (by omega) (.cons (slI rfl (by rw [vst_step hc1 hc (by omega) (by omega)]; show _ = ite _ _ _; split <;> omega)) (slr)) (fun w hw => hw))
   ·refine .exit (.then_exit (.then_exit (.block_exit ?_)))
    refine AK.then_ (hK6 _ ?_)
    refine .sr fun _ hK18 => ?_
    refine .as rfl (.nt hK18 (.ret ?_))
    refine AK.ret1 rfl rfl (fun w hw => ⟨_, _, ?_, rfl, Ret.of (hw.pick [] (by decide) rfl rfl)⟩)
    have hk' : k = xs.length := by omega
    subst hk'
    refine ⟨congrArg Value.bool ?_, rfl⟩
    symm; rw [decide_eq_true_eq]
    rw [List.take_length] at hs
    exact ⟨by omega, (vst_iff _).1 hs⟩

theorem q_disc (w : World) (n : Int) : CallS Tryz.prog 52 [.int .i64 n] w (fun r o => o = [row r 3 1 (discB n).length ((discB n).map (Value.int .i64))]) := by
 refine spec_of Tryz.func52 rfl (leb rfl) ?_
 refine .sr fun _ hK1 => ?_
 refine .as rfl (.nt hK1 ?_)
 refine .seq fun _ hK2 => ?_
 refine .sr fun _ hK3 => ?_
 refine .mv rfl ?_
 refine .v (.lss rfl rfl) ?_
 refine .mv rfl ?_
 refine AK.splitB (g := 7) rfl (fun hg_1_2 => ?_) (fun hg_1_2 => ?_)
 ·have hg_1_2' := hg_1_2
  try simp only [bs] at hg_1_2'
  refine AK.pass rfl rfl (hg_1_2) rfl ?_
  refine AK.pass rfl rfl (hg_1_2) rfl ?_
  refine .v (.pickT rfl (hg_1_2) rfl) ?_
  refine .nt hK3 ?_
  refine AK.cond_t rfl (rfl) ?_
  refine .sr fun _ hK4 => ?_
  refine .as rfl (.nt hK4 (.ret (.then_ret ?_)))
  refine AK.ghost 3 1 ?_
  refine AK.ret1 rfl rfl (fun w hw => ⟨_, _, ?_, rfl, Ret.of (hw.pick [0] (by decide) rfl rfl)⟩)
  have e : discB n = [] := by unfold discB; rw [if_neg (by omega)]
  rw [e]; rfl
 ·have hg_1_2' := hg_1_2
  try simp only [bs] at hg_1_2'
  refine AK.val _ (Yl.move rfl) ⟨_, rfl, gB hg_1_2⟩ rfl ?_
  refine AK.val _ (Yl.gtr rfl rfl) ⟨_, rfl, gB hg_1_2⟩ rfl ?_
  refine .v (.pickF rfl (hg_1_2) rfl) ?_
  refine .nt hK3 ?_
  refine AK.condD rfl (fun hc0 => ?_) (fun hc0 => ?_)
  ·refine .sr fun _ hK5 => ?_
   refine .as rfl (.nt hK5 (.ret (.then_ret ?_)))
   refine AK.ghost 3 1 ?_
   refine AK.ret1 rfl rfl (fun w hw => ⟨_, _, ?_, rfl, Ret.of (hw.pick [0] (by decide) rfl rfl)⟩)
   have e : discB n = [] := by unfold discB; rw [if_neg (by omega)]
   rw [e]; rfl
  ·refine .skip ?_
   refine AK.then_ (hK2 _ ?_)
   refine .sr fun _ hK6 => ?_
   refine .mv rfl ?_
   refine AK.make1Z sl28 el3 rfl rfl rfl (by omega) (by omega) (by omega) trivial rfl (fun mv0 => ?_)
   refine .as rfl (.nt hK6 ?_)
   refine .seq fun _ hK7 => ?_
   refine .sr fun _ hK8 => ?_
   refine .mv rfl (.mv rfl (.nt hK8 (.block ?_)))
   refine AK.loopK (X := Nat) [(3, _), (13, _)] (fun k => [(14, .int .i64 (k : Int))]) (fun k => [row mv0 3 1 n.toNat ((idl k ++ List.replicate (n.toNat - k) 0).map (Value.int .i64))]) (fun k => k ≤ n.toNat) (fun k => n.toNat - k) (0) slr ?_ ?_ ?_ ?_
   ·exact Nat.zero_le _
   ·exact slr
   ·exact fun w hw => by simpa [idl] using hw
   ·intro k hg0 _ hK9
    refine .sr fun _ hK10 => ?_
    refine .v (.lss rfl rfl) ?_
    refine .nt hK10 ?_
    refine .seq fun _ hK11 => ?_
    refine AK.condD rfl (fun hc1 => ?_) (fun hc1 => ?_)
    ·refine .skip ?_
     refine AK.then_ (hK11 _ ?_)
     refine .seq fun _ hK12 => ?_
     refine .block ?_
     refine .sr fun _ hK13 => ?_
     refine .mv rfl (.as rfl (.nt hK13 ?_))
     refine AK.region ?_
     refine .mv rfl (.mv rfl (.mv rfl ?_))
     first | refine .v (.iN sl28 rfl rfl) ?_ | refine .v (.iK sl28 rfl rfl) ?_
     refine AK.store1e 0 rfl sz3 rfl rfl rfl rfl (by omega) (cs' := ((idl (k + 1) ++ List.replicate (n.toNat - (k + 1)) 0).map (Value.int .i64))) (by rw [idl_succ]; exact fill_set (Value.int .i64) (idl k) 0 _ n.toNat k (idl_length k) (by omega)) trivial ?_
     refine .nil (.block_normal ?_)
     refine AK.then_ (hK12 _ ?_)
     refine AK.region ?_
     refine .v (.add rfl rfl (by omega)) ?_
     refine .mv rfl (.nil ?_)
     refine AK.then_ (hK9 _ _ (k + 1) (by omega) (by omega) (slr) (fun w hw => hw))
    ·refine .exit (.then_exit (.then_exit (.block_exit ?_)))
     refine AK.then_ (hK7 _ ?_)
     refine .sr fun _ hK14 => ?_
     refine .mv rfl (.as rfl (.nt hK14 (.ret ?_)))
     refine AK.ret1 rfl rfl (fun w hw => ⟨_, _, ?_, rfl, Ret.of (hw.pick [0] (by decide) rfl rfl)⟩)
     have hk : k = n.toNat := by omega
     subst hk
     have e : discB n = idl n.toNat := by unfold discB; rw [if_pos (by omega)]
     rw [e, idl_length]
     simp

theorem q_count (w : World) (v : Value) (xs : List Int) (h : RdI w v xs) : CallS Tryz.prog 57 [v] w (fun r o => r = .int .i64 (countB xs) ∧ o = []) := by
 have h0 := h
 unfold RdI at h
 refine spec_of Tryz.func57 rfl (leb rfl) ?_
 refine .sr fun _ hK1 => ?_
 refine .as rfl (.nt hK1 ?_)
 refine .seq fun _ hK2 => ?_
 refine .sr fun _ hK3 => ?_
 refine .mv rfl ?_
 refine AK.call co31 rfl (fun w hw => q_valid w v xs (RdI.at h0 hw)) trivial rfl ?_
 rintro r o ⟨rfl, rfl⟩
 refine .v (.not rfl) ?_
 refine .nt hK3 ?_
 refine AK.condB rfl (fun hc0 => ?_) (fun hc0 => ?_)
 ·refine .sr fun _ hK4 => ?_
  refine .as rfl (.nt hK4 (.ret (.then_ret ?_)))
  refine AK.ret1 rfl rfl (fun w hw => ⟨_, _, ?_, rfl, Ret.of (hw.pick [] (by decide) rfl rfl)⟩)
  exact ⟨by unfold countB; rw [if_neg (of_decide_eq_false hc0)], rfl⟩
 ·have hvp := of_decide_eq_true hc0
  have hv := valid_cnt hvp
  have hl := hvp.1
  refine .skip ?_
  refine AK.then_ (hK2 _ ?_)
  refine .sr fun _ hK5 => ?_
  refine .as rfl (.nt hK5 ?_)
  refine .seq fun _ hK6 => ?_
  refine .sr fun _ hK7 => ?_
  refine .mv rfl ?_
  refine .v (.lenR sl28 rfl rdp) ?_
  refine .mv rfl (.nt hK7 (.block ?_))
  refine AK.loopK (X := Nat) [(9, _), (10, _)] (fun k => [(3, .int .i64 (cntL (xs.take k))), (11, .int .i64 (k : Int))]) (fun k => []) (fun k => k ≤ xs.length) (fun k => xs.length - k) (0) slr ?_ ?_ ?_ ?_
  ·exact Nat.zero_le _
  ·exact slr
  ·exact fun w hw => hw
  ·intro k hg0 _ hK8
   have hb := cntL_nonneg (xs.take k)
   have hb2 := cntL_take_le xs k
   have hm : k < xs.length → 0 ≤ xs.getD k 0 ∧ xs.getD k 0 < cntL xs := fun h => hv.2.2 _ (mem_getD 0 h)
   refine .sr fun _ hK9 => ?_
   refine .v (.lss rfl rfl) ?_
   refine .nt hK9 ?_
   refine .seq fun _ hK10 => ?_
   refine AK.condD rfl (fun hc1 => ?_) (fun hc1 => ?_)
   ·refine .skip ?_
    refine AK.then_ (hK10 _ ?_)
    refine .seq fun _ hK11 => ?_
    refine .block ?_
    refine .sr fun _ hK12 => ?_
    first | refine .v (.iN sl28 rfl rfl) ?_ | refine .v (.iK sl28 rfl rfl) ?_
    refine .v (.loadI on3 rfl rdp (by omega)) ?_
    refine .as rfl (.nt hK12 ?_)
    refine AK.region ?_
    refine .mv rfl (.mv rfl ?_)
    refine .v (.add rfl rfl (by omega)) ?_
    refine .v (.max rfl rfl) ?_
    refine .as rfl (.nil (.block_normal ?_))
    refine AK.then_ (hK11 _ ?_)
    refine AK.region ?_
    refine .v (.add rfl rfl (by omega)) ?_
    refine .mv rfl (.nil ?_)
    refine AK.then_ (hK8 _ _ (k + 1) (by omega) (by omega) (.cons (slI rfl (by rw [take_snocD 0 xs k (by omega), cntL_snoc])) (slr)) (fun w hw => hw))
   ·refine .exit (.then_exit (.then_exit (.block_exit ?_)))
    refine AK.then_ (hK6 _ ?_)
    refine .sr fun _ hK13 => ?_
    refine .mv rfl (.as rfl (.nt hK13 (.ret ?_)))
    refine AK.ret1 rfl rfl (fun w hw => ⟨_, _, ?_, rfl, Ret.of (hw.pick [] (by decide) rfl rfl)⟩)
    have hk : k = xs.length := (by omega)
    exact ⟨by unfold countB; rw [if_pos hvp, hk, List.take_length], rfl⟩

theorem q_classes (w : World) (v : Value) (xs : List Int) (h : RdI w v xs) : CallS Tryz.prog 32 [v] w (fun r o => ∃ rs, rs.length = (classB xs).length ∧ o = [row r 28 1 (classB xs).length rs, bigA (matL 3 rs (classB xs))]) := by
 have h0 := h
 unfold RdI at h
 refine spec_of Tryz.func32 rfl (leb rfl) ?_
 refine .sr fun _ hK1 => ?_
 refine .as rfl (.nt hK1 ?_)
 refine .seq fun _ hK2 => ?_
 refine .sr fun _ hK3 => ?_
 refine .mv rfl ?_
 refine AK.call co31 rfl (fun w hw => q_valid w v xs (RdI.at h0 hw)) trivial rfl ?_
 rintro r o ⟨rfl, rfl⟩
 refine .v (.not rfl) ?_
 refine .nt hK3 ?_
 refine AK.condB rfl (fun hc0 => ?_) (fun hc0 => ?_)
 ·refine .sr fun _ hK4 => ?_
  refine .as rfl (.nt hK4 (.ret (.then_ret ?_)))
  refine AK.ghost 28 1 ?_
  refine AK.ghostM 3 ?_
  refine AK.ret1 rfl rfl (fun w hw => ⟨_, _, ?_, rfl, Ret.of (hw.pick [0, 1] (by decide) rfl rfl)⟩)
  have e : classB xs = [] := (by unfold classB; rw [if_neg (of_decide_eq_false hc0)])
  refine ⟨[], by rw [e]; rfl, ?_⟩
  rw [e]; rfl
 ·have hvp := of_decide_eq_true hc0
  have hv := valid_cnt hvp
  have hl := hvp.1
  refine .skip ?_
  refine AK.then_ (hK2 _ ?_)
  refine .sr fun _ hK5 => ?_
  refine .mv rfl ?_
  refine AK.call co57 rfl (fun w hw => q_count w v xs (RdI.at h0 hw)) trivial rfl ?_
  rintro r o ⟨rfl, rfl⟩
  have hce : countB xs = cntL xs := (by unfold countB; rw [if_pos hvp])
  rw [hce]
  refine AK.make1Z sl23 el28 rfl rfl rfl (by omega) (by omega) (by omega) trivial rfl (fun mv0 => ?_)
  refine .as rfl (.nt hK5 ?_)
  refine .seq fun _ hK6 => ?_
  refine .sr fun _ hK7 => ?_
  refine .mv rfl ?_
  refine .v (.lenR sl28 rfl rdp) ?_
  refine .mv rfl (.nt hK7 (.block ?_))
  refine AK.loopK (X := Nat × List Value) [(3, _), (12, _), (13, _)] (fun x => [(14, .int .i64 (x.1 : Int))]) (fun x => [row mv0 28 1 (cntL xs).toNat x.2, bigA (matL 3 x.2 (clsK (cntL xs).toNat (xs.take x.1)))]) (fun x => x.1 ≤ xs.length ∧ x.2.length = (cntL xs).toNat) (fun x => xs.length - x.1) ((0, List.replicate (cntL xs).toNat (.slice none 0 0))) slr ?_ ?_ ?_ ?_
  ·exact ⟨Nat.zero_le _, by simp⟩
  ·exact slr
  ·exact fun w hw => by have := hw.ghostMat 3 (cntL xs).toNat; rw [← clsK_nil] at this; exact this
  ·intro x hg0 _ hK8
   obtain ⟨hk1, hrl⟩ := hg0
   have hm : x.1 < xs.length → 0 ≤ xs.getD x.1 0 ∧ xs.getD x.1 0 < cntL xs := fun h => hv.2.2 _ (mem_getD 0 h)
   have hcl := clsK_length (cntL xs).toNat (xs.take x.1)
   refine .sr fun _ hK9 => ?_
   refine .v (.lss rfl rfl) ?_
   refine .nt hK9 ?_
   refine .seq fun _ hK10 => ?_
   refine AK.condD rfl (fun hc1 => ?_) (fun hc1 => ?_)
   ·refine .skip ?_
    refine AK.then_ (hK10 _ ?_)
    refine .seq fun _ hK11 => ?_
    refine .block ?_
    refine .sr fun _ hK12 => ?_
    refine .mv rfl ?_
    first | refine .v (.iN sl28 rfl rfl) ?_ | refine .v (.iK sl28 rfl rfl) ?_
    refine .v (.loadI on3 rfl rdp (by omega)) ?_
    refine .as rfl (.as rfl (.nt hK12 ?_))
    refine AK.region ?_
    refine .mv rfl (.mv rfl (.mv rfl (.mv rfl ?_)))
    first | refine .v (.iN sl23 rfl rfl) ?_ | refine .v (.iK sl23 rfl rfl) ?_
    refine .v (.loadV on28 rfl rdp (by omega)) ?_
    refine .mv rfl ?_
    refine AK.append1In 1 (xs.getD x.1 0).toNat rfl (matL_get (by rw [hrl, hcl]) (by rw [hcl]; omega)) sl28 el3 rfl (by decide) rfl (by intro k hk; cases hk; rfl) rfl (by intro u hu; simp [Value.cells] at hu; subst hu; rfl) (by rw [clsK_get (by omega)]; have := posL_length_le (((xs.getD x.1 0).toNat : Nat) : Int) (xs.take x.1); rw [List.length_take] at this; omega) (by rw [clsK_get (by omega)]; have := posL_length_le (((xs.getD x.1 0).toNat : Nat) : Int) (xs.take x.1); rw [List.length_take] at this; omega) (by decide) rfl rfl (fun av _ hsl => ?_)
    first | refine .v (.iN sl23 rfl rfl) ?_ | refine .v (.iK sl23 rfl rfl) ?_
    refine AK.store1 0 rfl sz28 rfl rfl hsl.cells hsl.one (by omega) trivial ?_
    refine .nil (.block_normal ?_)
    refine AK.then_ (hK11 _ ?_)
    refine AK.region ?_
    refine .v (.add rfl rfl (by omega)) ?_
    refine .mv rfl (.nil ?_)
    refine AK.then_ (hK8 _ _ ((x.1 + 1, x.2.set (xs.getD x.1 0).toNat av)) ⟨by dsimp only; omega, by simpa using hrl⟩ (by dsimp only; omega) (slr) (fun w hw => cls_own hrl (by omega) rfl (by omega) rfl hw))
   ·refine .exit (.then_exit (.then_exit (.block_exit ?_)))
    refine AK.then_ (hK6 _ ?_)
    refine .sr fun _ hK13 => ?_
    refine .mv rfl (.as rfl (.nt hK13 (.ret ?_)))
    refine AK.ret1 rfl rfl (fun w hw => ⟨_, _, ?_, rfl, Ret.of (hw.pick [0, 1] (by decide) rfl rfl)⟩)
    have hk : x.1 = xs.length := (by omega)
    have e : classB xs = clsK (cntL xs).toNat xs := (by unfold classB; rw [if_pos hvp])
    refine ⟨x.2, by rw [e, clsK_length]; exact hrl, ?_⟩
    rw [e, clsK_length, hk, List.take_length]; rfl

end Go.Proofs.YtafldkjdeompjaaGreatDoor

namespace Go.Proofs.YtafldkjdeompjaaGreatDoor
open Go.Sx Go.RowKit Go.Sx.Pt
theorem on92 : OneT Tryz.prog 92 := by unfold OneT; kernel_rfl
theorem ur_snoc (m : Nat) (qs : List (Int × Int)) (p : Int × Int) : UR m (qs ++ [p]) = ufstep (UR m qs) p.1.toNat ((m : Int) + p.2).toNat := by unfold UR; rw [List.map_append]; exact ufs_snoc _ _
theorem s_root (w : World) (F : Nat → Prop) (b6 : Nat) (pv : Value) (f : List Int) (ρ : Nat → Nat) (n : Nat) (i : Int) (hA : (bigA [box b6 28 1 [pv], row pv 3 1 n (f.map (Value.int .i64))]).holds w F) (hr : Rep ρ f n) (hi : 0 ≤ i ∧ i < n) (hn : n ≤ 4096) : CallM Tryz.prog 53 [.int .i64 i, .pointer (some ⟨b6, 0, none⟩)] w F (fun r A o => ∃ f', Rep ρ f' n ∧ AtR ρ f f' n ∧ r = .int .i64 ((ρ i.toNat : Nat) : Int) ∧ A = bigA [box b6 28 1 [pv], row pv 3 1 n (f'.map (Value.int .i64))] ∧ o = []) := by
 refine specM_of' Tryz.func53 rfl (leb rfl) hA ?_
 refine .sr fun _ hK1 => ?_
 refine .as rfl (.nt hK1 ?_)
 refine .seq fun _ hK2 => ?_
 refine .block ?_
 refine AK.loopK (X := Nat × List Int) [(1, _)] (fun x => [(0, .int .i64 (x.1 : Int))]) (fun x => [box b6 28 1 [pv], row pv 3 1 n (x.2.map (Value.int .i64))]) (fun x => Rep ρ x.2 n ∧ x.1 < n ∧ ρ x.1 = ρ i.toNat ∧ AtR ρ f x.2 n) (fun x => x.1) ((i.toNat, f)) slr ?_ ?_ ?_ ?_
 ·exact ⟨hr, by dsimp only; omega, rfl, fun j _ h => h⟩
 ·exact .cons (slI rfl (by dsimp only; omega)) (slr)
 ·exact fun w hw => hw
 ·intro x hg0 _ hK3
  obtain ⟨hr1, hi1, hp, hat⟩ := hg0
  have hl := hr1.1
  obtain ⟨a1, a2, a3, a4, a5⟩ := hr1.2 x.1 hi1
  have b := hr1.2 (x.2.getD x.1 0).toNat (by omega)
  refine .seq fun _ hK4 => ?_
  refine .sr fun _ hK5 => ?_
  refine .v (.loadBox on28 rfl bsp rfl) ?_
  refine .mv rfl ?_
  first | refine .v (.iN sl28 rfl rfl) ?_ | refine .v (.iK sl28 rfl rfl) ?_
  refine .v (.loadI on3 rfl rdp (by omega)) ?_
  refine .mv rfl ?_
  refine .v (.neq rfl rfl) ?_
  refine .nt hK5 ?_
  refine AK.condNe rfl (fun hc0 => ?_) (fun hc0 => ?_)
  ·refine .skip ?_
   refine AK.then_ (hK4 _ ?_)
   refine .block ?_
   refine .seq fun _ hK6 => ?_
   refine AK.stillTail 10 mixed krf (fun _ hws => ?_)
   refine .v hws (.loadBox on28 rfl bsp rfl) ?_
   refine .v hws (.move rfl) ?_
   refine .v hws (.loadBox on28 rfl bsp rfl) ?_
   refine .v hws (.loadBox on28 rfl bsp rfl) ?_
   refine .v hws (.move rfl) ?_
   first | refine .v hws (.iN sl28 rfl rfl) ?_ | refine .v hws (.iK sl28 rfl rfl) ?_
   refine .v hws (.loadI on3 rfl rdp (by omega)) ?_
   first | refine .v hws (.iN sl28 rfl rfl) ?_ | refine .v hws (.iK sl28 rfl rfl) ?_
   refine .v hws (.loadI on3 rfl rdp (by omega)) ?_
   first | refine .v hws (.iN sl28 rfl rfl) ?_ | refine .v hws (.iK sl28 rfl rfl) ?_
   refine SK.nil (SK.fin hws ?_)
   refine AK.store1e 1 rfl sz3 rfl rfl rfl rfl (by omega) (cs' := ((x.2.set x.1 (x.2.getD (x.2.getD x.1 0).toNat 0)).map (Value.int .i64))) (by rw [List.map_set]) trivial ?_
   refine .nt hK6 ?_
   refine AK.region ?_
   refine .v (.loadBox on28 rfl bsp rfl) ?_
   refine .mv rfl ?_
   first | refine .v (.iN sl28 rfl rfl) ?_ | refine .v (.iK sl28 rfl rfl) ?_
   refine .v (.loadI on3 rfl rdp (by rw [List.length_set]; omega)) ?_
   refine .as rfl (.nil (.block_normal ?_))
   refine AK.then_ (hK3 _ _ (((x.2.getD (x.2.getD x.1 0).toNat 0).toNat, x.2.set x.1 (x.2.getD (x.2.getD x.1 0).toNat 0))) ⟨hr1.halve hi1 hc0, by dsimp only; omega, by show ρ _ = _; rw [b.2.2.1, a3, hp], hat.halve hr1 hi1⟩ (by dsimp only; omega) (.cons (slI rfl (by rw [Pt.getD_set_same (by omega)]; dsimp only; omega)) (slr)) (fun w hw => hw))
  ·refine .exit (.then_exit (.then_exit (.block_exit ?_)))
   refine AK.then_ (hK2 _ ?_)
   refine .sr fun _ hK7 => ?_
   refine .mv rfl (.as rfl (.nt hK7 (.ret ?_)))
   refine AK.ret1 rfl rfl (fun w hw => ⟨_, _, _, ?_, rfl, Ret.ofBig0 (hw.pick [0, 1] (by decide) rfl rfl)⟩)
   exact ⟨x.2, hr1, hat, by rw [← hp, a4.1 hc0], rfl, rfl⟩

set_option maxHeartbeats 600000 in
theorem s_meet (w : World) (F : Nat → Prop) (b2 b3 b6 b7 b8 b9 : Nat) (pv qv aF aN bF bN : Value) (f : List Int) (a b : Dfa) (st : USt) (p q : Int) (hA : (bigA [box b6 28 1 [pv], row pv 3 1 (a.fin.length + b.fin.length) (f.map (Value.int .i64)), box b8 98 1 [qv], row qv 99 2 st.1.length (pcs st.1), box b9 4 1 [.bool st.2]]).holds w F) (h2 : BxA w b2 [.int .i64 a.L, .int .i64 a.s, aF, aN]) (n2 : ¬ F b2) (h3 : BxA w b3 [.int .i64 b.L, .int .i64 b.s, bF, bN]) (n3 : ¬ F b3) (h7 : BxA w b7 [.func (.func 53) #[] #[.pointer (some ⟨b6, 0, none⟩)]]) (n7 : ¬ F b7) (haF : RdL F Value.bool w aF a.fin) (hbF : RdL F Value.bool w bF b.fin) (hr : Rep (UR a.fin.length st.1) f (a.fin.length + b.fin.length)) (hp : InR a p) (hq : InR b q) (ha : VD a) (hb : VD b) (hls : st.1.length ≤ 262144) (sq : IsSl qv) : CallM Tryz.prog 54 [.int .i64 p, .int .i64 q, .pointer (some ⟨b7, 0, none⟩), .pointer (some ⟨b2, 0, none⟩), .pointer (some ⟨b6, 0, none⟩), .pointer (some ⟨b8, 0, none⟩), .pointer (some ⟨b9, 0, none⟩), .pointer (some ⟨b3, 0, none⟩)] w F (fun r A o => ∃ f' qv', IsSl qv' ∧ Rep (UR a.fin.length (meetS a b st (p, q)).1) f' (a.fin.length + b.fin.length) ∧ A = bigA [box b6 28 1 [pv], row pv 3 1 (a.fin.length + b.fin.length) (f'.map (Value.int .i64)), box b8 98 1 [qv'], row qv' 99 2 (meetS a b st (p, q)).1.length (pcs (meetS a b st (p, q)).1), box b9 4 1 [.bool (meetS a b st (p, q)).2]] ∧ r = .tuple #[] ∧ o = []) := by
 unfold RdL at haF hbF
 have hp1 := hp.1
 have hp2 := hp.2
 have hq1 := hq.1
 have hq2 := hq.2
 have hna := ha.n
 have hnb := hb.n
 have hri : (UR a.fin.length st.1) p.toNat < (a.fin.length + b.fin.length) := by have := (hr.2 p.toNat (by omega)).2.2.2.2; omega
 have hrj : (UR a.fin.length st.1) ((a.fin.length : Int) + q).toNat < (a.fin.length + b.fin.length) := by have := (hr.2 ((a.fin.length : Int) + q).toNat (by omega)).2.2.2.2; omega
 refine specM_of' Tryz.func54 rfl (leb rfl) hA ?_
 refine .seq fun _ hK1 => ?_
 try (conv => enter [2, 2]; simp only [nrm])
 refine AK.heldS _ 12 (fun _ hw => hw.pick [] (by decide) rfl rfl) mixed ?_
 refine HeldK.firstS (fun _ hw => hw.pick [] (by decide) rfl rfl) 0 (fuel := 11) (listed' := (lb 12 1)) _ rfl krf krf rfl (Yl.loadBox on92 rfl bsp rfl) trivial rfl ?_
 refine HeldK.firstS (fun _ hw => hw.pick [] (by decide) rfl rfl) 1 (fuel := 10) (listed' := (lb 12 3)) _ rfl krf krf rfl (Yl.move rfl) trivial rfl ?_
 refine HeldK.firstS (fun _ hw => hw.pick [] (by decide) rfl rfl) 3 (fuel := 9) (listed' := (lb 12 11)) _ rfl krf krf rfl (Yl.loadBox on92 rfl bsp rfl) trivial rfl ?_
 refine HeldK.firstS (fun _ hw => hw.pick [] (by decide) rfl rfl) 4 (fuel := 8) (listed' := (lb 12 27)) _ rfl krf krf rfl (Yl.fieldAddr fd25_2 rfl) trivial rfl ?_
 refine HeldK.firstS (fun _ hw => hw.pick [] (by decide) rfl rfl) 5 (fuel := 7) (listed' := (lb 12 59)) _ rfl krf krf rfl (Yl.loadBox on22 rfl bsp rfl) trivial rfl ?_
 refine HeldK.firstS (fun _ hw => hw.pick [] (by decide) rfl rfl) 6 (fuel := 6) (listed' := (lb 12 123)) _ rfl krf krf rfl (Yl.lenR sl22 rfl rdp) trivial rfl ?_
 refine HeldK.firstS (fun _ hw => hw.pick [] (by decide) rfl rfl) 7 (fuel := 5) (listed' := (lb 12 251)) _ rfl krf krf rfl (Yl.move rfl) trivial rfl ?_
 refine HeldK.firstS (fun _ hw => hw.pick [] (by decide) rfl rfl) 8 (fuel := 4) (listed' := (lb 12 507)) _ rfl krf krf rfl (Yl.add rfl rfl (by omega)) trivial rfl ?_
 refine HeldK.one 2 (fuel := 3) (listed' := (lb 12 511)) krf rfl krf ?_
 refine AK.own' [bigA [box b6 28 1 [pv], row pv 3 1 (a.fin.length + b.fin.length) (f.map (Value.int .i64))], box b8 98 1 [qv], row qv 99 2 st.1.length (pcs st.1), box b9 4 1 [.bool st.2]] (fun w hw => HW.unflat (l := [_, _]) (own := [_, _, _]) hw) ?_
 refine AK.callVN 0 rfl (us := []) (cs := [.pointer (some ⟨b6, 0, none⟩)]) co53 rfl rfl (fun w Fs hw hh hfr hal => s_root w (Fs 0) b6 pv f (UR a.fin.length st.1) (a.fin.length + b.fin.length) p (hh.at_ 0 _ rfl) hr (by omega) (by omega)) trivial rfl ?_
 rintro r A o ⟨f1, hr1, _, rfl, rfl, rfl⟩
 refine AK.flat0 rfl ?_
 refine .nil ?_
 try (conv => enter [2, 2]; simp only [nrm])
 refine HeldK.backS (fun _ hw => hw.pick [] (by decide) rfl rfl) ?_
 refine HeldK.one 9 (fuel := 2) (listed' := (lb 12 1023)) krf rfl krf ?_
 refine AK.own' [bigA [box b6 28 1 [pv], row pv 3 1 (a.fin.length + b.fin.length) (f1.map (Value.int .i64))], box b8 98 1 [qv], row qv 99 2 st.1.length (pcs st.1), box b9 4 1 [.bool st.2]] (fun w hw => HW.unflat (l := [_, _]) (own := [_, _, _]) hw) ?_
 refine AK.callVN 0 rfl (us := []) (cs := [.pointer (some ⟨b6, 0, none⟩)]) co53 rfl rfl (fun w Fs hw hh hfr hal => s_root w (Fs 0) b6 pv f1 (UR a.fin.length st.1) (a.fin.length + b.fin.length) ((a.fin.length : Int) + q) (hh.at_ 0 _ rfl) hr1 (by omega) (by omega)) trivial rfl ?_
 rintro r A o ⟨f2, hr2, _, rfl, rfl, rfl⟩
 refine AK.flat0 rfl ?_
 refine .nil ?_
 try (conv => enter [2, 2]; simp only [nrm])
 refine HeldK.backS (fun _ hw => hw.pick [] (by decide) rfl rfl) ?_
 refine HeldK.firstS (fun _ hw => hw.pick [] (by decide) rfl rfl) 10 (fuel := 1) (listed' := (lb 12 2047)) _ rfl krf krf rfl (Yl.assign rfl) trivial rfl ?_
 refine HeldK.firstS (fun _ hw => hw.pick [] (by decide) rfl rfl) 11 (fuel := 0) (listed' := (lb 12 4095)) _ rfl krf krf rfl (Yl.assign rfl) trivial rfl ?_
 refine HeldK.done krf ?_
 refine AK.then_ (hK1 _ ?_)
 refine .sr fun _ hK2 => ?_
 refine .mv rfl (.mv rfl ?_)
 refine .v (.neq rfl rfl) ?_
 refine .nt hK2 ?_
 refine AK.condNe rfl (fun hc0 => ?_) (fun hc0 => ?_)
 ·refine .sr fun _ hK3 => ?_
  refine .v (.loadBox on28 rfl bsp rfl) ?_
  refine .mv rfl (.mv rfl ?_)
  refine .v (.max rfl rfl) ?_
  refine .mv rfl (.mv rfl ?_)
  refine .v (.min rfl rfl) ?_
  first | refine .v (.iN sl28 rfl rfl) ?_ | refine .v (.iK sl28 rfl rfl) ?_
  refine AK.store1e 1 rfl sz3 rfl rfl rfl rfl (by omega) (cs' := ((f2.set (max ((UR a.fin.length st.1) p.toNat) ((UR a.fin.length st.1) ((a.fin.length : Int) + q).toNat)) (((min ((UR a.fin.length st.1) p.toNat) ((UR a.fin.length st.1) ((a.fin.length : Int) + q).toNat)) : Nat) : Int)).map (Value.int .i64))) (by rw [List.map_set, show (max (((UR a.fin.length st.1) p.toNat : Nat) : Int) (((UR a.fin.length st.1) ((a.fin.length : Int) + q).toNat : Nat) : Int)).toNat = (max ((UR a.fin.length st.1) p.toNat) ((UR a.fin.length st.1) ((a.fin.length : Int) + q).toNat)) from by omega, show min (((UR a.fin.length st.1) p.toNat : Nat) : Int) (((UR a.fin.length st.1) ((a.fin.length : Int) + q).toNat : Nat) : Int) = (((min ((UR a.fin.length st.1) p.toNat) ((UR a.fin.length st.1) ((a.fin.length : Int) + q).toNat)) : Nat) : Int) from by omega]) trivial ?_
  refine .nt hK3 ?_
  refine .sr fun _ hK4 => ?_
  refine .v (.loadBox on98 rfl bsp rfl) ?_
  refine .mv rfl (.mv rfl ?_)
  refine .v (.build (parts := [(0, .tmp 34), (1, .tmp 35)]) (cs := #[.int .i64 p, .int .i64 q]) rfl (by kernel_rfl)) ?_
  refine AK.append1 3 rfl sl98 el99 rfl (by decide) rfl (by intro k hk; cases hk; rfl) rfl (by intro u hu; simp [Value.cells] at hu; rcases hu with rfl | rfl <;> rfl) (by omega) (by omega) (by decide) rfl rfl (fun av _ hav => ?_)
  refine AK.storeBox 2 (us := [av]) (cs' := [av]) rfl sz98 rfl rfl (by rw [IsSl.cells (by assumption)]) rfl oneP (leb rfl) rfl trivial ?_
  refine .nt hK4 ?_
  refine AK.stillTail 14 mixed krf (fun _ hws => ?_)
  refine .v hws (.loadBox on4 rfl bsp rfl) ?_
  refine .v hws (.move rfl) ?_
  refine SK.splitB (g := 40) rfl (fun hg_4_1 => ?_) (fun hg_4_1 => ?_)
  ·have hg_4_1' := hg_4_1
   try simp only [bs] at hg_4_1'
   refine SK.val hws _ (Yl.fieldAddr fd25_2 rfl) ⟨_, rfl, gB hg_4_1⟩ rfl ?_
   refine SK.val hws _ (Yl.loadBox on22 rfl bsp rfl) ⟨_, rfl, gB hg_4_1⟩ rfl ?_
   refine SK.val hws _ (Yl.move rfl) ⟨_, rfl, gB hg_4_1⟩ rfl ?_
   first | refine SK.val hws _ (.iN sl22 rfl rfl) ⟨_, rfl, gB hg_4_1⟩ rfl ?_ | refine SK.val hws _ (.iK sl22 rfl rfl) ⟨_, rfl, gB hg_4_1⟩ rfl ?_
   refine SK.val hws _ (Yl.loadB on4 rfl rdp (by omega)) ⟨_, rfl, gB hg_4_1⟩ rfl ?_
   refine SK.val hws _ (Yl.fieldAddr fd25_2 rfl) ⟨_, rfl, gB hg_4_1⟩ rfl ?_
   refine SK.val hws _ (Yl.loadBox on22 rfl bsp rfl) ⟨_, rfl, gB hg_4_1⟩ rfl ?_
   refine SK.val hws _ (Yl.move rfl) ⟨_, rfl, gB hg_4_1⟩ rfl ?_
   first | refine SK.val hws _ (.iN sl22 rfl rfl) ⟨_, rfl, gB hg_4_1⟩ rfl ?_ | refine SK.val hws _ (.iK sl22 rfl rfl) ⟨_, rfl, gB hg_4_1⟩ rfl ?_
   refine SK.val hws _ (Yl.loadB on4 rfl rdp (by omega)) ⟨_, rfl, gB hg_4_1⟩ rfl ?_
   refine SK.val hws _ (Yl.eqlB bo4 rfl rfl) ⟨_, rfl, gB hg_4_1⟩ rfl ?_
   refine .v hws (.pickT rfl (hg_4_1) rfl) ?_
   refine SK.nil (SK.fin hws ?_)
   first | refine AK.storeBox 4 (us := [.bool (a.fin.getD p.toNat false == b.fin.getD q.toNat false)]) (cs' := [.bool (a.fin.getD p.toNat false == b.fin.getD q.toNat false)]) rfl sz4 rfl rfl rfl rfl oneP (leb rfl) rfl trivial ?_ | refine AK.storeBox 4 (us := [.bool false]) (cs' := [.bool false]) rfl sz4 rfl rfl rfl rfl oneP (leb rfl) rfl trivial ?_
   refine .nil ?_
   refine AK.endG [] rfl (.nil) (fun w hw => ⟨_, _, _, ?_, rfl, Ret.ofBig0 hw⟩)
   have em : (meetS a b st (p, q)) = (st.1 ++ [(p, q)], st.2 && (finQ a p == finQ b q)) := if_neg (fun e => hc0 (congrArg (fun (n : Nat) => (n : Int)) e))
   rw [em]
   refine ⟨_, av, hav, by rw [ur_snoc]; exact hr2.union (by omega) (by omega), ?_, rfl, rfl⟩
   rw [pcs_append, List.length_append, hg_4_1]
   rfl
  ·have hg_4_1' := hg_4_1
   try simp only [bs] at hg_4_1'
   refine SK.pass rfl rfl (hg_4_1) rfl ?_
   refine SK.pass rfl rfl (hg_4_1) rfl ?_
   refine SK.pass rfl rfl (hg_4_1) rfl ?_
   refine SK.pass rfl rfl (hg_4_1) rfl ?_
   refine SK.pass rfl rfl (hg_4_1) rfl ?_
   refine SK.pass rfl rfl (hg_4_1) rfl ?_
   refine SK.pass rfl rfl (hg_4_1) rfl ?_
   refine SK.pass rfl rfl (hg_4_1) rfl ?_
   refine SK.pass rfl rfl (hg_4_1) rfl ?_
   refine SK.pass rfl rfl (hg_4_1) rfl ?_
   refine SK.pass rfl rfl (hg_4_1) rfl ?_
   refine .v hws (.pickF rfl (hg_4_1) rfl) ?_
   refine SK.nil (SK.fin hws ?_)
   first | refine AK.storeBox 4 (us := [.bool (a.fin.getD p.toNat false == b.fin.getD q.toNat false)]) (cs' := [.bool (a.fin.getD p.toNat false == b.fin.getD q.toNat false)]) rfl sz4 rfl rfl rfl rfl oneP (leb rfl) rfl trivial ?_ | refine AK.storeBox 4 (us := [.bool false]) (cs' := [.bool false]) rfl sz4 rfl rfl rfl rfl oneP (leb rfl) rfl trivial ?_
   refine .nil ?_
   refine AK.endG [] rfl (.nil) (fun w hw => ⟨_, _, _, ?_, rfl, Ret.ofBig0 hw⟩)
   have em : (meetS a b st (p, q)) = (st.1 ++ [(p, q)], st.2 && (finQ a p == finQ b q)) := if_neg (fun e => hc0 (congrArg (fun (n : Nat) => (n : Int)) e))
   rw [em]
   refine ⟨_, av, hav, by rw [ur_snoc]; exact hr2.union (by omega) (by omega), ?_, rfl, rfl⟩
   rw [pcs_append, List.length_append, hg_4_1]
   rfl
 ·refine .skip ?_
  refine AK.endG [] rfl (.nil) (fun w hw => ⟨_, _, _, ?_, rfl, Ret.ofBig0 hw⟩)
  have em : (meetS a b st (p, q)) = st := if_pos (by dsimp only; omega)
  rw [em]
  exact ⟨f2, qv, sq, hr2, rfl, rfl, rfl⟩

set_option maxHeartbeats 2000000 in
theorem s_unite (w : World) (u v : Value) (a b : Dfa) (hu : RdD (fun _ => False) w u a) (hv : RdD (fun _ => False) w v b) (ha : VD a) (hb : VD b) (hL : a.L = b.L) : CallS Tryz.prog 28 [u, v] w (fun r o => ∃ cv lst sm, r = .tuple #[cv, .bool sm] ∧ IsSl cv ∧ o = [row cv 3 1 lst.length (lst.map (Value.int .i64))] ∧ (sm = true → Lng a b ∧ lst = leastL a b) ∧ (sm = false → ¬ Lng a b ∧ lst = [])) := by
 have hu0 := hu
 have hv0 := hv
 obtain ⟨aF, aN, rfl, haF, haN⟩ := hu
 obtain ⟨bF, bN, rfl, hbF, hbN⟩ := hv
 have haF0 := haF
 have hbF0 := hbF
 have haN0 := haN
 have hbN0 := hbN
 obtain ⟨ra, hra, haNr, haNi⟩ := haN
 obtain ⟨rb, hrb, hbNr, hbNi⟩ := hbN
 unfold RdL at haF hbF
 have m1 := haF.le
 have m2 := hbF.le
 have hna := ha.n
 have hnb := hb.n
 have has := ha.s
 have hbs := hb.s
 have haL := ha.L
 have hax := ha.nx
 have hbx := hb.nx
 obtain ⟨em0, hin0⟩ := UInv.init ha hb
 have hmb : a.fin.length * b.fin.length ≤ 262144 := Nat.mul_le_mul hna hnb
 refine spec_of Tryz.func28 rfl (leb rfl) ?_
 refine .sr fun _ hK1 => ?_
 refine AK.box_ (E := 25) (cs := [.int .i64 a.L, .int .i64 a.s, aF, aN]) rfl rfl rfl trivial rfl (fun bx2 => ?_)
 refine AK.box_ (E := 25) (cs := [.int .i64 b.L, .int .i64 b.s, bF, bN]) rfl rfl rfl trivial rfl (fun bx3 => ?_)
 refine .as rfl (.as rfl (.nt hK1 ?_))
 refine .sr fun _ hK2 => ?_
 refine .v (.fieldAddr fd25_2 rfl) ?_
 refine .v (.loadBox on22 rfl bsp rfl) ?_
 refine .v (.lenR sl22 rfl (by first | exact rdp | exact .arg (haNi _ (by omega)) | exact .arg (hbNi _ (by omega)))) ?_
 refine .v (.fieldAddr fd25_2 rfl) ?_
 refine .v (.loadBox on22 rfl bsp rfl) ?_
 refine .v (.lenR sl22 rfl (by first | exact rdp | exact .arg (haNi _ (by omega)) | exact .arg (hbNi _ (by omega)))) ?_
 refine .v (.add rfl rfl (by omega)) ?_
 refine AK.call co52 rfl (fun w hw => q_disc w ((a.fin.length : Int) + b.fin.length)) trivial rfl ?_
 rintro dv o rfl
 have edl : discB ((a.fin.length : Int) + b.fin.length) = idl (a.fin.length + b.fin.length) := by unfold discB; rw [if_pos (by omega)]; congr 1
 rw [edl, idl_length]
 refine AK.shape 2 rfl (fun sdv => ?_)
 refine AK.alloc el28 rfl rfl trivial rfl (fun bx6 => ?_)
 refine AK.storeBox 3 (us := [dv]) (cs' := [dv]) rfl sz28 rfl rfl (by rw [IsSl.cells (by assumption)]) rfl oneP (leb rfl) rfl trivial ?_
 refine .nt hK2 ?_
 refine .sr fun _ hK3 => ?_
 refine .v (.makeFunc (first := []) (captured := [.tmp 6]) rfl rfl) ?_
 refine AK.alloc el92 rfl rfl trivial rfl (fun bx7 => ?_)
 refine AK.storeBox 4 (us := [.func (.func 53) #[] #[.pointer (some ⟨bx6, 0, none⟩)]]) (cs' := [.func (.func 53) #[] #[.pointer (some ⟨bx6, 0, none⟩)]]) rfl sz92 rfl rfl rfl rfl oneP (leb rfl) rfl trivial ?_
 refine .nt hK3 ?_
 refine .sr fun _ hK4 => ?_
 refine AK.alloc el98 rfl rfl trivial rfl (fun bx8 => ?_)
 refine .nt hK4 ?_
 refine .sr fun _ hK5 => ?_
 refine AK.alloc el4 rfl rfl trivial rfl (fun bx9 => ?_)
 refine AK.storeBox 6 (us := [.bool true]) (cs' := [.bool true]) rfl sz4 rfl rfl rfl rfl oneP (leb rfl) rfl trivial ?_
 refine .nt hK5 ?_
 refine .sr fun _ hK6 => ?_
 refine .v (.makeFunc (first := []) (captured := [.tmp 7, .tmp 2, .tmp 6, .tmp 8, .tmp 9, .tmp 3]) rfl rfl) ?_
 refine .as rfl (.nt hK6 ?_)
 refine .sr fun _ hK7 => ?_
 refine .mv rfl ?_
 refine .v (.fieldAddr fd25_1 rfl) ?_
 refine .v (.loadBox on3 rfl bsp rfl) ?_
 refine .v (.fieldAddr fd25_1 rfl) ?_
 refine .v (.loadBox on3 rfl bsp rfl) ?_
 refine AK.own' [bigA [box bx6 28 1 [dv], row dv 3 1 (a.fin.length + b.fin.length) ((idl (a.fin.length + b.fin.length)).map (Value.int .i64)), box bx8 98 1 [(.slice none 0 0)], row (.slice none 0 0) 99 2 0 [], box bx9 4 1 [.bool true]], box bx2 25 4 [.int .i64 a.L, .int .i64 a.s, aF, aN], box bx3 25 4 [.int .i64 b.L, .int .i64 b.s, bF, bN], box bx7 92 1 [.func (.func 53) #[] #[.pointer (some ⟨bx6, 0, none⟩)]]] (fun w hw => HW.unflat (l := [_, _, _, _, _]) (own := [_, _, _]) ((hw.ghost 99 2).pick [3, 2, 5, 7, 6, 0, 1, 4] (by decide) rfl rfl)) ?_
 refine AK.callVN 0 rfl (us := []) (cs := [.pointer (some ⟨bx7, 0, none⟩), .pointer (some ⟨bx2, 0, none⟩), .pointer (some ⟨bx6, 0, none⟩), .pointer (some ⟨bx8, 0, none⟩), .pointer (some ⟨bx9, 0, none⟩), .pointer (some ⟨bx3, 0, none⟩)]) co54 rfl rfl (fun w Fs hw hh hfr hal => s_meet w (Fs 0) bx2 bx3 bx6 bx7 bx8 bx9 dv (.slice none 0 0) aF aN bF bN (idl (a.fin.length + b.fin.length)) a b (([] : List (Int × Int)), true) a.s b.s (hh.at_ 0 _ rfl) (BxA.own 1 hw rfl) (hh.boxN 1 rfl (by decide)) (BxA.own 2 hw rfl) (hh.boxN 2 rfl (by decide)) (BxA.own 3 hw rfl) (hh.boxN 3 rfl (by decide)) (haF0.off hfr hal) (hbF0.off hfr hal) (rep_id _) has hbs ha hb (Nat.zero_le _) nilSl) trivial rfl ?_
 rintro r A o ⟨f1, qv1, sq1, hr1, rfl, rfl, rfl⟩
 refine AK.flat0 rfl ?_
 refine .nt hK7 ?_
 refine .seq fun _ hK8 => ?_
 refine .sr fun _ hK9 => ?_
 refine .as rfl (.nt hK9 (.block ?_))
 refine AK.loopK (X := Nat × USt × List Int × Value) [(2, _), (3, _), (6, _), (7, _), (8, _), (9, _), (10, _)] (fun x => [(11, .int .i64 (x.1 : Int))]) (fun x => [box bx6 28 1 [dv], row dv 3 1 (a.fin.length + b.fin.length) (x.2.2.1.map (Value.int .i64)), box bx8 98 1 [x.2.2.2], row x.2.2.2 99 2 x.2.1.1.length (pcs x.2.1.1), box bx9 4 1 [.bool x.2.1.2], box bx2 25 4 [.int .i64 a.L, .int .i64 a.s, aF, aN], box bx3 25 4 [.int .i64 b.L, .int .i64 b.s, bF, bN], box bx7 92 1 [.func (.func 53) #[] #[.pointer (some ⟨bx6, 0, none⟩)]]]) (fun x => x.1 ≤ x.2.1.1.length ∧ UInv a b x.1 0 x.2.1 ∧ Rep (UR a.fin.length x.2.1.1) x.2.2.1 (a.fin.length + b.fin.length) ∧ IsSl x.2.2.2) (fun x => a.fin.length * b.fin.length - x.1) ((0, (meetS a b (([] : List (Int × Int)), true) (a.s, b.s)), f1, qv1)) slr ?_ ?_ ?_ ?_
 ·exact ⟨Nat.zero_le _, hin0, hr1, sq1⟩
 ·exact slr
 ·exact fun w hw => hw
 ·intro x hg0 _ hK10
  have hxl := hg0.2.1.len ha hb hL
  have hxr := hg0.2.2.1.1
  refine .seq fun _ hK11 => ?_
  refine .sr fun _ hK12 => ?_
  refine .mv rfl ?_
  refine .v (.loadBox on98 rfl bsp rfl) ?_
  refine .v (.lenR sl98 rfl (by first | exact rdp | exact .arg (haNi _ (by omega)) | exact .arg (hbNi _ (by omega)))) ?_
  refine .v (.lss rfl rfl) ?_
  refine .mv rfl ?_
  refine AK.splitB (g := 36) rfl (fun hg_8_4 => ?_) (fun hg_8_4 => ?_)
  ·have hg_8_4' := hg_8_4
   try simp only [bs] at hg_8_4'
   refine AK.val _ (Yl.loadBox on4 rfl bsp rfl) ⟨_, rfl, gB hg_8_4⟩ rfl ?_
   refine .v (.pickT rfl (hg_8_4) rfl) ?_
   refine .nt hK12 ?_
   refine AK.cond rfl (fun hc0 => ?_) (fun hc0 => ?_)
   ·try simp only [bs] at hc0
    have hlt : x.1 < x.2.1.1.length := by omega
    obtain ⟨⟨hp1, hp2⟩, hp3, hp4⟩ := hg0.2.1.bd ha hb hL (getD_mem (d := (0, 0)) hlt)
    refine .skip ?_
    refine AK.then_ (hK11 _ ?_)
    refine .seq fun _ hK13 => ?_
    refine .block ?_
    refine .seq fun _ hK14 => ?_
    refine AK.quiet mixed krf ?_
    refine .v (.loadBox on98 rfl bsp rfl) ?_
    refine .mv rfl ?_
    first | refine .v (.iN sl98 rfl rfl (hr := (by first | exact rdp | exact .arg (haNi _ (by omega)) | exact .arg (hbNi _ (by omega))))) ?_ | refine .v (.iK sl98 rfl rfl (hr := (by first | exact rdp | exact .arg (haNi _ (by omega)) | exact .arg (hbNi _ (by omega))))) ?_
    refine .v (.idxArrA 0 ar99 rfl rfl (by decide)) ?_
    refine QK.val (.int .i64 (x.2.1.1.getD x.1 (0, 0)).1) (Yl.loadPart (sz := 2) on3 rfl (RdS.own 3 rfl) (pcs_part hlt).1) trivial rfl ?_
    refine .v (.loadBox on98 rfl bsp rfl) ?_
    refine .mv rfl ?_
    first | refine .v (.iN sl98 rfl rfl (hr := (by first | exact rdp | exact .arg (haNi _ (by omega)) | exact .arg (hbNi _ (by omega))))) ?_ | refine .v (.iK sl98 rfl rfl (hr := (by first | exact rdp | exact .arg (haNi _ (by omega)) | exact .arg (hbNi _ (by omega))))) ?_
    refine .v (.idxArrA 1 ar99 rfl rfl (by decide)) ?_
    refine QK.val (.int .i64 (x.2.1.1.getD x.1 (0, 0)).2) (Yl.loadPart (sz := 2) on3 rfl (RdS.own 3 rfl) (pcs_part hlt).2) trivial rfl ?_
    refine .as rfl (.as rfl ?_)
    refine QK.nil (QK.fin ?_)
    refine AK.then_ (hK14 _ ?_)
    refine .sr fun _ hK15 => ?_
    refine .v (.fieldAddr fd25_0 rfl) ?_
    refine .v (.loadBox on3 rfl bsp rfl) ?_
    refine .mv rfl (.nt hK15 (.block ?_))
    refine AK.loopK (X := Nat × USt × List Int × Value) [(2, _), (3, _), (6, _), (7, _), (8, _), (9, _), (10, _), (11, _), (12, _), (13, _), (52, _)] (fun y => [(53, .int .i64 (y.1 : Int))]) (fun y => [box bx6 28 1 [dv], row dv 3 1 (a.fin.length + b.fin.length) (y.2.2.1.map (Value.int .i64)), box bx8 98 1 [y.2.2.2], row y.2.2.2 99 2 y.2.1.1.length (pcs y.2.1.1), box bx9 4 1 [.bool y.2.1.2], box bx2 25 4 [.int .i64 a.L, .int .i64 a.s, aF, aN], box bx3 25 4 [.int .i64 b.L, .int .i64 b.s, bF, bN], box bx7 92 1 [.func (.func 53) #[] #[.pointer (some ⟨bx6, 0, none⟩)]]]) (fun y => (y.1 : Int) ≤ a.L ∧ UInv a b x.1 y.1 y.2.1 ∧ Rep (UR a.fin.length y.2.1.1) y.2.2.1 (a.fin.length + b.fin.length) ∧ IsSl y.2.2.2 ∧ x.1 < y.2.1.1.length ∧ y.2.1.1.getD x.1 (0, 0) = (x.2.1.1.getD x.1 (0, 0))) (fun y => a.L.toNat - y.1) ((0, x.2)) slr ?_ ?_ ?_ ?_
    ·exact ⟨by dsimp only; omega, hg0.2.1, hg0.2.2.1, hg0.2.2.2, hlt, rfl⟩
    ·exact slr
    ·exact fun w hw => hw
    ·intro y hg1 _ hK16
     refine .sr fun _ hK17 => ?_
     refine .v (.lss rfl rfl) ?_
     refine .nt hK17 ?_
     refine .seq fun _ hK18 => ?_
     refine AK.condD rfl (fun hc1 => ?_) (fun hc1 => ?_)
     ·have hyL : (y.1 : Int) < a.L := by omega
      have hrwa := ha.row (x.2.1.1.getD x.1 (0, 0)).1.toNat (by omega)
      have hrwb := hb.row (x.2.1.1.getD x.1 (0, 0)).2.toNat (by omega)
      have hyl := hg1.2.1.len ha hb hL
      refine .skip ?_
      refine AK.then_ (hK18 _ ?_)
      refine .seq fun _ hK19 => ?_
      refine .block ?_
      refine .sr fun _ hK20 => ?_
      refine .mv rfl (.as rfl (.nt hK20 ?_))
      refine AK.stillTail 17 mixed krf (fun _ hws => ?_)
      refine .v hws (.move rfl) ?_
      refine .v hws (.fieldAddr fd25_3 rfl) ?_
      refine .v hws (.loadBox on23 rfl bsp rfl) ?_
      refine .v hws (.move rfl) ?_
      first | refine .v hws (.iN sl23 rfl rfl (hr := (by first | exact rdp | exact .arg (haNi _ (by omega)) | exact .arg (hbNi _ (by omega))))) ?_ | refine .v hws (.iK sl23 rfl rfl (hr := (by first | exact rdp | exact .arg (haNi _ (by omega)) | exact .arg (hbNi _ (by omega))))) ?_
      refine .v hws (.loadV on28 rfl (by first | exact rdp | exact .arg (haNi _ (by omega)) | exact .arg (hbNi _ (by omega))) (by omega)) ?_
      refine .v hws (.move rfl) ?_
      first | refine .v hws (.iN sl28 rfl rfl (hr := (by first | exact rdp | exact .arg (haNi _ (by omega)) | exact .arg (hbNi _ (by omega))))) ?_ | refine .v hws (.iK sl28 rfl rfl (hr := (by first | exact rdp | exact .arg (haNi _ (by omega)) | exact .arg (hbNi _ (by omega))))) ?_
      refine .v hws (.loadI on3 rfl (by first | exact rdp | exact .arg (haNi _ (by omega)) | exact .arg (hbNi _ (by omega))) (by omega)) ?_
      refine .v hws (.fieldAddr fd25_3 rfl) ?_
      refine .v hws (.loadBox on23 rfl bsp rfl) ?_
      refine .v hws (.move rfl) ?_
      first | refine .v hws (.iN sl23 rfl rfl (hr := (by first | exact rdp | exact .arg (haNi _ (by omega)) | exact .arg (hbNi _ (by omega))))) ?_ | refine .v hws (.iK sl23 rfl rfl (hr := (by first | exact rdp | exact .arg (haNi _ (by omega)) | exact .arg (hbNi _ (by omega))))) ?_
      refine .v hws (.loadV on28 rfl (by first | exact rdp | exact .arg (haNi _ (by omega)) | exact .arg (hbNi _ (by omega))) (by omega)) ?_
      refine .v hws (.move rfl) ?_
      first | refine .v hws (.iN sl28 rfl rfl (hr := (by first | exact rdp | exact .arg (haNi _ (by omega)) | exact .arg (hbNi _ (by omega))))) ?_ | refine .v hws (.iK sl28 rfl rfl (hr := (by first | exact rdp | exact .arg (haNi _ (by omega)) | exact .arg (hbNi _ (by omega))))) ?_
      refine .v hws (.loadI on3 rfl (by first | exact rdp | exact .arg (haNi _ (by omega)) | exact .arg (hbNi _ (by omega))) (by omega)) ?_
      refine SK.nil (SK.fin hws ?_)
      refine AK.own' [bigA [box bx6 28 1 [dv], row dv 3 1 (a.fin.length + b.fin.length) (y.2.2.1.map (Value.int .i64)), box bx8 98 1 [y.2.2.2], row y.2.2.2 99 2 y.2.1.1.length (pcs y.2.1.1), box bx9 4 1 [.bool y.2.1.2]], box bx2 25 4 [.int .i64 a.L, .int .i64 a.s, aF, aN], box bx3 25 4 [.int .i64 b.L, .int .i64 b.s, bF, bN], box bx7 92 1 [.func (.func 53) #[] #[.pointer (some ⟨bx6, 0, none⟩)]]] (fun w hw => HW.unflat (l := [_, _, _, _, _]) (own := [_, _, _]) (hw)) ?_
      refine AK.callVN 0 rfl (us := []) (cs := [.pointer (some ⟨bx7, 0, none⟩), .pointer (some ⟨bx2, 0, none⟩), .pointer (some ⟨bx6, 0, none⟩), .pointer (some ⟨bx8, 0, none⟩), .pointer (some ⟨bx9, 0, none⟩), .pointer (some ⟨bx3, 0, none⟩)]) co54 rfl rfl (fun w Fs hw hh hfr hal => s_meet w (Fs 0) bx2 bx3 bx6 bx7 bx8 bx9 dv y.2.2.2 aF aN bF bN y.2.2.1 a b y.2.1 (stepQ a (x.2.1.1.getD x.1 (0, 0)).1 y.1) (stepQ b (x.2.1.1.getD x.1 (0, 0)).2 y.1) (hh.at_ 0 _ rfl) (BxA.own 1 hw rfl) (hh.boxN 1 rfl (by decide)) (BxA.own 2 hw rfl) (hh.boxN 2 rfl (by decide)) (BxA.own 3 hw rfl) (hh.boxN 3 rfl (by decide)) (haF0.off hfr hal) (hbF0.off hfr hal) hg1.2.2.1 (stepQ_inr ha ⟨hp1, hp2⟩ hyL) (stepQ_inr hb ⟨hp3, hp4⟩ (by omega)) ha hb (by omega) hg1.2.2.2.1) trivial rfl ?_
      rintro r A o ⟨f2, qv2, sq2, hr2, rfl, rfl, rfl⟩
      refine AK.flat0 rfl ?_
      refine .nil (.block_normal ?_)
      refine AK.then_ (hK19 _ ?_)
      refine AK.region ?_
      refine .v (.add rfl rfl (by omega)) ?_
      refine .mv rfl (.nil ?_)
      refine AK.then_ (hK16 _ _ ((y.1 + 1, meetS a b y.2.1 (stepP a b (x.2.1.1.getD x.1 (0, 0)) y.1), f2, qv2)) ⟨by dsimp only; omega, (by have h := hg1.2.1.meet ha hg1.2.2.2.2.1 hyL; rw [hg1.2.2.2.2.2] at h; exact h), hr2, sq2, (by dsimp only; obtain ⟨ys, e⟩ := meet_pre a b y.2.1 (stepP a b (x.2.1.1.getD x.1 (0, 0)) y.1); rw [e, List.length_append]; omega), (by dsimp only; obtain ⟨ys, e⟩ := meet_pre a b y.2.1 (stepP a b (x.2.1.1.getD x.1 (0, 0)) y.1); rw [e, getD_app _ hg1.2.2.2.2.1]; exact hg1.2.2.2.2.2)⟩ (by dsimp only; omega) (slr) (fun w hw => hw))
     ·refine .exit (.then_exit (.then_exit (.block_exit (.block_normal ?_))))
      refine AK.then_ (hK13 _ ?_)
      refine AK.region ?_
      refine .mv rfl ?_
      refine .v (.add rfl rfl (by omega)) ?_
      refine .as rfl (.nil ?_)
      refine AK.then_ (hK10 _ _ ((x.1 + 1, y.2)) ⟨by dsimp only; omega, hg1.2.1.next (by omega), hg1.2.2.1, hg1.2.2.2.1⟩ (by dsimp only; omega) (slr) (fun w hw => hw))
   ·try simp only [bs] at hc0
    refine .exit (.then_exit (.then_exit (.block_exit ?_)))
    refine AK.then_ (hK8 _ ?_)
    refine .seq fun _ hK21 => ?_
    refine .sr fun _ hK22 => ?_
    refine .v (.loadBox on4 rfl bsp rfl) ?_
    refine .v (.not rfl) ?_
    refine .nt hK22 ?_
    refine AK.condB rfl (fun hc2 => ?_) (fun hc2 => ?_)
    ·have hsf : x.2.1.2 = false := by simpa using hc2
     refine .sr fun _ hK23 => ?_
     refine .as rfl (.as rfl (.nt hK23 (.ret (.then_ret ?_))))
     refine AK.ghost 3 1 ?_
     refine AK.ret2 rfl rfl rfl (fun w hw => ⟨_, _, ?_, rfl, Ret.of (hw.pick [8] (by decide) rfl rfl)⟩)
     exact ⟨_, [], false, rfl, nilSl, rfl, fun h => (by cases h), fun _ => ⟨hg0.2.1.differ hsf, rfl⟩⟩
    ·have hst : x.2.1.2 = true := by simpa using hc2
     have hdn := hg0.2.1.done ha hb hL (by first | omega | (rw [hst] at *; simp_all; done)) hst
     refine .skip ?_
     refine AK.then_ (hK21 _ ?_)
     refine .seq fun _ hK24 => ?_
     refine .sr fun _ hK25 => ?_
     refine .v (.loadBox on28 rfl bsp rfl) ?_
     refine .v (.lenR sl28 rfl (by first | exact rdp | exact .arg (haNi _ (by omega)) | exact .arg (hbNi _ (by omega)))) ?_
     refine .mv rfl (.nt hK25 (.block ?_))
     refine AK.loopK (X := Nat × List Int) [(6, _), (7, _), (78, _)] (fun z => [(79, .int .i64 (z.1 : Int))]) (fun z => [box bx6 28 1 [dv], row dv 3 1 (a.fin.length + b.fin.length) (z.2.map (Value.int .i64)), box bx8 98 1 [x.2.2.2], row x.2.2.2 99 2 x.2.1.1.length (pcs x.2.1.1), box bx9 4 1 [.bool x.2.1.2], box bx2 25 4 [.int .i64 a.L, .int .i64 a.s, aF, aN], box bx3 25 4 [.int .i64 b.L, .int .i64 b.s, bF, bN], box bx7 92 1 [.func (.func 53) #[] #[.pointer (some ⟨bx6, 0, none⟩)]]]) (fun z => z.1 ≤ (a.fin.length + b.fin.length) ∧ Rep (UR a.fin.length x.2.1.1) z.2 (a.fin.length + b.fin.length) ∧ ∀ j, j < z.1 → z.2.getD j 0 = (((UR a.fin.length x.2.1.1) j : Nat) : Int)) (fun z => (a.fin.length + b.fin.length) - z.1) ((0, x.2.2.1)) slr ?_ ?_ ?_ ?_
     ·exact ⟨Nat.zero_le _, hg0.2.2.1, fun j hj => by cases hj⟩
     ·exact slr
     ·exact fun w hw => hw
     ·intro z hg2 _ hK26
      refine .sr fun _ hK27 => ?_
      refine .v (.lss rfl rfl) ?_
      refine .nt hK27 ?_
      refine .seq fun _ hK28 => ?_
      refine AK.condD rfl (fun hc3 => ?_) (fun hc3 => ?_)
      ·refine .skip ?_
       refine AK.then_ (hK28 _ ?_)
       refine .seq fun _ hK29 => ?_
       refine .block ?_
       refine .sr fun _ hK30 => ?_
       refine .mv rfl (.as rfl (.nt hK30 ?_))
       try (conv => enter [2, 2]; simp only [nrm])
       refine AK.heldS _ 6 (fun _ hw => hw.pick [0, 7] (by decide) rfl rfl) mixed ?_
       refine HeldK.firstS (fun _ hw => hw.pick [0, 7] (by decide) rfl rfl) 0 (fuel := 6) (listed' := (lb 7 1)) _ rfl krf krf rfl (Yl.loadBox on28 rfl bsp rfl) trivial rfl ?_
       refine HeldK.firstS (fun _ hw => hw.pick [0, 7] (by decide) rfl rfl) 1 (fuel := 5) (listed' := (lb 7 3)) _ rfl krf krf rfl (Yl.move rfl) trivial rfl ?_
       refine HeldK.firstS (fun _ hw => hw.pick [0, 7] (by decide) rfl rfl) 2 (fuel := 4) (listed' := (lb 7 7)) _ rfl krf krf rfl (Yl.loadBox on92 rfl bsp rfl) trivial rfl ?_
       refine HeldK.firstS (fun _ hw => hw.pick [0, 7] (by decide) rfl rfl) 3 (fuel := 3) (listed' := (lb 7 15)) _ rfl krf krf rfl (Yl.move rfl) trivial rfl ?_
       refine HeldK.one 4 (fuel := 2) (listed' := (lb 7 31)) krf rfl krf ?_
       refine AK.own' [bigA [box bx6 28 1 [dv], row dv 3 1 (a.fin.length + b.fin.length) (z.2.map (Value.int .i64))], box bx8 98 1 [x.2.2.2], row x.2.2.2 99 2 x.2.1.1.length (pcs x.2.1.1), box bx9 4 1 [.bool x.2.1.2], box bx2 25 4 [.int .i64 a.L, .int .i64 a.s, aF, aN], box bx3 25 4 [.int .i64 b.L, .int .i64 b.s, bF, bN], box bx7 92 1 [.func (.func 53) #[] #[.pointer (some ⟨bx6, 0, none⟩)]]] (fun w hw => HW.unflat (l := [_, _]) (own := [_, _, _, _, _, _]) hw) ?_
       refine AK.callVN 0 rfl (us := []) (cs := [.pointer (some ⟨bx6, 0, none⟩)]) co53 rfl rfl (fun w Fs hw hh hfr hal => s_root w (Fs 0) bx6 dv z.2 (UR a.fin.length x.2.1.1) (a.fin.length + b.fin.length) (z.1 : Int) (hh.at_ 0 _ rfl) hg2.2.1 (by omega) (by omega)) trivial rfl ?_
       rintro r A o ⟨f2, hr2, hat, rfl, rfl, rfl⟩
       refine AK.flat0 rfl ?_
       refine .nil ?_
       try (conv => enter [2, 2]; simp only [nrm])
       refine HeldK.backS (fun _ hw => hw.pick [0, 7] (by decide) rfl rfl) ?_
       refine HeldK.one 5 (fuel := 1) (listed' := (lb 7 63)) krf rfl krf ?_
       first | refine .v (.iN sl28 rfl rfl (hr := (by first | exact rdp | exact .arg (haNi _ (by omega)) | exact .arg (hbNi _ (by omega))))) ?_ | refine .v (.iK sl28 rfl rfl (hr := (by first | exact rdp | exact .arg (haNi _ (by omega)) | exact .arg (hbNi _ (by omega))))) ?_
       refine .nil ?_
       try (conv => enter [2, 2]; simp only [nrm])
       refine HeldK.backS (fun _ hw => hw.pick [0, 7] (by decide) rfl rfl) ?_
       refine HeldK.one 6 (fuel := 0) (listed' := (lb 7 127)) krf rfl krf ?_
       refine AK.store1e 1 rfl sz3 rfl rfl rfl rfl (by omega) (cs' := ((f2.set z.1 (((UR a.fin.length x.2.1.1) z.1 : Nat) : Int)).map (Value.int .i64))) (by rw [List.map_set]; simp only [Int.toNat_natCast]) trivial ?_
       refine .nil ?_
       try (conv => enter [2, 2]; simp only [nrm])
       refine HeldK.backN 7 krf rfl krf ?_
       refine .nil ?_
       refine AK.fromQn ?_
       refine .block_normal ?_
       refine AK.then_ (hK29 _ ?_)
       refine AK.region ?_
       refine .v (.add rfl rfl (by omega)) ?_
       refine .mv rfl (.nil ?_)
       refine AK.then_ (hK26 _ _ ((z.1 + 1, f2.set z.1 (((UR a.fin.length x.2.1.1) z.1 : Nat) : Int))) ⟨by dsimp only; omega, hr2.setRoot (by omega), fun j hj => by
      dsimp only at hj ⊢
      by_cases e : z.1 = j
      ·subst e; exact Pt.getD_set_same (by rw [hr2.1]; omega) _
      ·rw [Pt.getD_set_other e]; exact hat j (by omega) (hg2.2.2 j (by omega))⟩ (by dsimp only; omega) (slr) (fun w hw => hw))
      ·have hall : z.2 = rhoL (a.fin.length + b.fin.length) (UR a.fin.length x.2.1.1) := all_root hg2.2.1.1 (fun j hj => hg2.2.2 j (by omega))
       refine .exit (.then_exit (.then_exit (.block_exit ?_)))
       refine AK.then_ (hK24 _ ?_)
       refine .sr fun _ hK31 => ?_
       refine .v (.loadBox on28 rfl bsp rfl) ?_
       refine AK.call co55 rfl (fun w hw => q_canon w dv (rhoL (a.fin.length + b.fin.length) (UR a.fin.length x.2.1.1)) (RdI.ownE 1 hw rfl (rhoL_length _ _).symm (by rw [hall]))) trivial rfl ?_
       rintro cv o rfl
       refine AK.shape 8 rfl (fun scv => ?_)
       refine .as rfl (.as rfl (.nt hK31 (.ret ?_)))
       refine AK.ret2 rfl rfl rfl (fun w hw => ⟨_, _, ?_, rfl, Ret.of (hw.pick [8] (by decide) rfl rfl)⟩)
       have ecb : canonB (rhoL (a.fin.length + b.fin.length) (UR a.fin.length x.2.1.1)) = leastL a b := by unfold canonB; rw [if_pos (by rw [rhoL_length]; omega)]; exact hdn.2
       rw [ecb]
       exact ⟨cv, leastL a b, true, rfl, scv, rfl, fun _ => ⟨hdn.1, rfl⟩, fun h => (by cases h)⟩
  ·have hg_8_4' := hg_8_4
   try simp only [bs] at hg_8_4'
   refine AK.pass rfl rfl (hg_8_4) rfl ?_
   refine .v (.pickF rfl (hg_8_4) rfl) ?_
   refine .nt hK12 ?_
   refine AK.cond_f rfl (rfl) ?_
   refine .exit (.then_exit (.then_exit (.block_exit ?_)))
   refine AK.then_ (hK8 _ ?_)
   refine .seq fun _ hK32 => ?_
   refine .sr fun _ hK33 => ?_
   refine .v (.loadBox on4 rfl bsp rfl) ?_
   refine .v (.not rfl) ?_
   refine .nt hK33 ?_
   refine AK.condB rfl (fun hc2 => ?_) (fun hc2 => ?_)
   ·have hsf : x.2.1.2 = false := by simpa using hc2
    refine .sr fun _ hK34 => ?_
    refine .as rfl (.as rfl (.nt hK34 (.ret (.then_ret ?_))))
    refine AK.ghost 3 1 ?_
    refine AK.ret2 rfl rfl rfl (fun w hw => ⟨_, _, ?_, rfl, Ret.of (hw.pick [8] (by decide) rfl rfl)⟩)
    exact ⟨_, [], false, rfl, nilSl, rfl, fun h => (by cases h), fun _ => ⟨hg0.2.1.differ hsf, rfl⟩⟩
   ·have hst : x.2.1.2 = true := by simpa using hc2
    have hdn := hg0.2.1.done ha hb hL (by first | omega | (rw [hst] at *; simp_all; done)) hst
    refine .skip ?_
    refine AK.then_ (hK32 _ ?_)
    refine .seq fun _ hK35 => ?_
    refine .sr fun _ hK36 => ?_
    refine .v (.loadBox on28 rfl bsp rfl) ?_
    refine .v (.lenR sl28 rfl (by first | exact rdp | exact .arg (haNi _ (by omega)) | exact .arg (hbNi _ (by omega)))) ?_
    refine .mv rfl (.nt hK36 (.block ?_))
    refine AK.loopK (X := Nat × List Int) [(6, _), (7, _), (78, _)] (fun z => [(79, .int .i64 (z.1 : Int))]) (fun z => [box bx6 28 1 [dv], row dv 3 1 (a.fin.length + b.fin.length) (z.2.map (Value.int .i64)), box bx8 98 1 [x.2.2.2], row x.2.2.2 99 2 x.2.1.1.length (pcs x.2.1.1), box bx9 4 1 [.bool x.2.1.2], box bx2 25 4 [.int .i64 a.L, .int .i64 a.s, aF, aN], box bx3 25 4 [.int .i64 b.L, .int .i64 b.s, bF, bN], box bx7 92 1 [.func (.func 53) #[] #[.pointer (some ⟨bx6, 0, none⟩)]]]) (fun z => z.1 ≤ (a.fin.length + b.fin.length) ∧ Rep (UR a.fin.length x.2.1.1) z.2 (a.fin.length + b.fin.length) ∧ ∀ j, j < z.1 → z.2.getD j 0 = (((UR a.fin.length x.2.1.1) j : Nat) : Int)) (fun z => (a.fin.length + b.fin.length) - z.1) ((0, x.2.2.1)) slr ?_ ?_ ?_ ?_
    ·exact ⟨Nat.zero_le _, hg0.2.2.1, fun j hj => by cases hj⟩
    ·exact slr
    ·exact fun w hw => hw
    ·intro z hg2 _ hK37
     refine .sr fun _ hK38 => ?_
     refine .v (.lss rfl rfl) ?_
     refine .nt hK38 ?_
     refine .seq fun _ hK39 => ?_
     refine AK.condD rfl (fun hc3 => ?_) (fun hc3 => ?_)
     ·refine .skip ?_
      refine AK.then_ (hK39 _ ?_)
      refine .seq fun _ hK40 => ?_
      refine .block ?_
      refine .sr fun _ hK41 => ?_
      refine .mv rfl (.as rfl (.nt hK41 ?_))
      try (conv => enter [2, 2]; simp only [nrm])
      refine AK.heldS _ 6 (fun _ hw => hw.pick [0, 7] (by decide) rfl rfl) mixed ?_
      refine HeldK.firstS (fun _ hw => hw.pick [0, 7] (by decide) rfl rfl) 0 (fuel := 6) (listed' := (lb 7 1)) _ rfl krf krf rfl (Yl.loadBox on28 rfl bsp rfl) trivial rfl ?_
      refine HeldK.firstS (fun _ hw => hw.pick [0, 7] (by decide) rfl rfl) 1 (fuel := 5) (listed' := (lb 7 3)) _ rfl krf krf rfl (Yl.move rfl) trivial rfl ?_
      refine HeldK.firstS (fun _ hw => hw.pick [0, 7] (by decide) rfl rfl) 2 (fuel := 4) (listed' := (lb 7 7)) _ rfl krf krf rfl (Yl.loadBox on92 rfl bsp rfl) trivial rfl ?_
      refine HeldK.firstS (fun _ hw => hw.pick [0, 7] (by decide) rfl rfl) 3 (fuel := 3) (listed' := (lb 7 15)) _ rfl krf krf rfl (Yl.move rfl) trivial rfl ?_
      refine HeldK.one 4 (fuel := 2) (listed' := (lb 7 31)) krf rfl krf ?_
      refine AK.own' [bigA [box bx6 28 1 [dv], row dv 3 1 (a.fin.length + b.fin.length) (z.2.map (Value.int .i64))], box bx8 98 1 [x.2.2.2], row x.2.2.2 99 2 x.2.1.1.length (pcs x.2.1.1), box bx9 4 1 [.bool x.2.1.2], box bx2 25 4 [.int .i64 a.L, .int .i64 a.s, aF, aN], box bx3 25 4 [.int .i64 b.L, .int .i64 b.s, bF, bN], box bx7 92 1 [.func (.func 53) #[] #[.pointer (some ⟨bx6, 0, none⟩)]]] (fun w hw => HW.unflat (l := [_, _]) (own := [_, _, _, _, _, _]) hw) ?_
      refine AK.callVN 0 rfl (us := []) (cs := [.pointer (some ⟨bx6, 0, none⟩)]) co53 rfl rfl (fun w Fs hw hh hfr hal => s_root w (Fs 0) bx6 dv z.2 (UR a.fin.length x.2.1.1) (a.fin.length + b.fin.length) (z.1 : Int) (hh.at_ 0 _ rfl) hg2.2.1 (by omega) (by omega)) trivial rfl ?_
      rintro r A o ⟨f2, hr2, hat, rfl, rfl, rfl⟩
      refine AK.flat0 rfl ?_
      refine .nil ?_
      try (conv => enter [2, 2]; simp only [nrm])
      refine HeldK.backS (fun _ hw => hw.pick [0, 7] (by decide) rfl rfl) ?_
      refine HeldK.one 5 (fuel := 1) (listed' := (lb 7 63)) krf rfl krf ?_
      first | refine .v (.iN sl28 rfl rfl (hr := (by first | exact rdp | exact .arg (haNi _ (by omega)) | exact .arg (hbNi _ (by omega))))) ?_ | refine .v (.iK sl28 rfl rfl (hr := (by first | exact rdp | exact .arg (haNi _ (by omega)) | exact .arg (hbNi _ (by omega))))) ?_
      refine .nil ?_
      try (conv => enter [2, 2]; simp only [nrm])
      refine HeldK.backS (fun _ hw => hw.pick [0, 7] (by decide) rfl rfl) ?_
      refine HeldK.one 6 (fuel := 0) (listed' := (lb 7 127)) krf rfl krf ?_
      refine AK.store1e 1 rfl sz3 rfl rfl rfl rfl (by omega) (cs' := ((f2.set z.1 (((UR a.fin.length x.2.1.1) z.1 : Nat) : Int)).map (Value.int .i64))) (by rw [List.map_set]; simp only [Int.toNat_natCast]) trivial ?_
      refine .nil ?_
      try (conv => enter [2, 2]; simp only [nrm])
      refine HeldK.backN 7 krf rfl krf ?_
      refine .nil ?_
      refine AK.fromQn ?_
      refine .block_normal ?_
      refine AK.then_ (hK40 _ ?_)
      refine AK.region ?_
      refine .v (.add rfl rfl (by omega)) ?_
      refine .mv rfl (.nil ?_)
      refine AK.then_ (hK37 _ _ ((z.1 + 1, f2.set z.1 (((UR a.fin.length x.2.1.1) z.1 : Nat) : Int))) ⟨by dsimp only; omega, hr2.setRoot (by omega), fun j hj => by
      dsimp only at hj ⊢
      by_cases e : z.1 = j
      ·subst e; exact Pt.getD_set_same (by rw [hr2.1]; omega) _
      ·rw [Pt.getD_set_other e]; exact hat j (by omega) (hg2.2.2 j (by omega))⟩ (by dsimp only; omega) (slr) (fun w hw => hw))
     ·have hall : z.2 = rhoL (a.fin.length + b.fin.length) (UR a.fin.length x.2.1.1) := all_root hg2.2.1.1 (fun j hj => hg2.2.2 j (by omega))
      refine .exit (.then_exit (.then_exit (.block_exit ?_)))
      refine AK.then_ (hK35 _ ?_)
      refine .sr fun _ hK42 => ?_
      refine .v (.loadBox on28 rfl bsp rfl) ?_
      refine AK.call co55 rfl (fun w hw => q_canon w dv (rhoL (a.fin.length + b.fin.length) (UR a.fin.length x.2.1.1)) (RdI.ownE 1 hw rfl (rhoL_length _ _).symm (by rw [hall]))) trivial rfl ?_
      rintro cv o rfl
      refine AK.shape 8 rfl (fun scv => ?_)
      refine .as rfl (.as rfl (.nt hK42 (.ret ?_)))
      refine AK.ret2 rfl rfl rfl (fun w hw => ⟨_, _, ?_, rfl, Ret.of (hw.pick [8] (by decide) rfl rfl)⟩)
      have ecb : canonB (rhoL (a.fin.length + b.fin.length) (UR a.fin.length x.2.1.1)) = leastL a b := by unfold canonB; rw [if_pos (by rw [rhoL_length]; omega)]; exact hdn.2
      rw [ecb]
      exact ⟨cv, leastL a b, true, rfl, scv, rfl, fun _ => ⟨hdn.1, rfl⟩, fun h => (by cases h)⟩

end Go.Proofs.YtafldkjdeompjaaGreatDoor

namespace Go.Proofs.YtafldkjdeompjaaGreatDoor
open Go.Sx Go.RowKit
theorem s_revb (w : World) (F : Nat → Prop) (v : Value) (l : List UInt8) (hm : l.length ≤ 9223372036854775807) (hA : (rowZ v 5 l.length (l.map byv)).holds w F) : CallM Tryz.prog 74 [v] w F (fun r A o => A = rowZ v 5 l.length (l.reverse.map byv) ∧ r = .tuple #[] ∧ o = []) := by
 refine specM_of Tryz.func74 rfl (leb rfl) hA ?_
 have hrl := rvK_len l
 refine .sr fun _ hK1 => ?_
 refine .mv rfl ?_
 refine .v (.lenR sl95 rfl (by first | exact rdp | exact (RdS.ownZ 0 rfl))) ?_
 refine .v (.sub rfl rfl (by omega)) ?_
 refine .as rfl (.as rfl (.nt hK1 (.block ?_)))
 refine AK.loopK (X := Nat) [(0, _)] (fun k => [(2, .int .i64 (k : Int)), (3, .int .i64 ((l.length : Int) - 1 - (k : Int)))]) (fun k => [rowZ v 5 l.length ((rvK l k).map byv)]) (fun k => (k : Int) ≤ (l.length : Int) - (k : Int) + 1) (fun k => l.length - k) (0) slr ?_ ?_ ?_ ?_
 ·omega
 ·exact .cons (rfl) (.cons (slI rfl (by omega)) (slr))
 ·exact fun w hw => by rw [rvK_zero]; exact hw
 ·intro k hg0 _ hK2
  refine .seq fun _ hK3 => ?_
  refine .sr fun _ hK4 => ?_
  refine .mv rfl (.mv rfl ?_)
  refine .v (.lss rfl rfl) ?_
  refine .nt hK4 ?_
  refine AK.condD rfl (fun hc0 => ?_) (fun hc0 => ?_)
  ·have hrk := rvK_len l k
   have ej : ((l.length : Int) - 1 - (k : Int)).toNat = l.length - 1 - k := by omega
   have hst := rvK_step (l := l) (k := k) (m := l.length - 1 - k) rfl (by omega)
   refine .skip ?_
   refine AK.then_ (hK3 _ ?_)
   refine .seq fun _ hK5 => ?_
   refine .block ?_
   try (conv => enter [2, 2]; simp only [nrm])
   refine AK.held 13 mixed ?_
   refine HeldK.first 0 (fuel := 15) (listed' := (lb 16 1)) _ rfl krf krf rfl (Yl.move rfl) trivial rfl ?_
   refine HeldK.first 1 (fuel := 14) (listed' := (lb 16 3)) _ rfl krf krf rfl (Yl.move rfl) trivial rfl ?_
   refine HeldK.firstP 2 (fuel := 13) (listed' := (lb 16 7)) _ rfl krf krf rfl (PY.move rfl) trivial rfl ?_
   refine HeldK.firstP 3 (fuel := 12) (listed' := (lb 16 15)) _ rfl krf krf rfl (PY.move rfl) trivial rfl ?_
   refine HeldK.first 4 (fuel := 11) (listed' := (lb 16 31)) _ rfl krf krf rfl (Yl.move rfl) trivial rfl ?_
   refine HeldK.first 5 (fuel := 10) (listed' := (lb 16 63)) _ rfl krf krf rfl (Yl.move rfl) trivial rfl ?_
   first | refine HeldK.first 6 (fuel := 9) (listed' := (lb 16 127)) _ rfl krf krf rfl (.iN sl95 rfl rfl (hr := (by first | exact rdp | exact (RdS.ownZ 0 rfl)))) trivial rfl ?_ | refine HeldK.first 6 (fuel := 9) (listed' := (lb 16 127)) _ rfl krf krf rfl (.iK sl95 rfl rfl (hr := (by first | exact rdp | exact (RdS.ownZ 0 rfl)))) trivial rfl ?_
   refine HeldK.first 7 (fuel := 8) (listed' := (lb 16 255)) _ rfl krf krf rfl (Yl.loadBy on5 rfl (by first | exact rdp | exact (RdS.ownZ 0 rfl)) (by omega)) trivial rfl ?_
   refine HeldK.first 8 (fuel := 7) (listed' := (lb 16 511)) _ rfl krf krf rfl (Yl.move rfl) trivial rfl ?_
   refine HeldK.first 9 (fuel := 6) (listed' := (lb 16 1023)) _ rfl krf krf rfl (Yl.move rfl) trivial rfl ?_
   first | refine HeldK.first 10 (fuel := 5) (listed' := (lb 16 2047)) _ rfl krf krf rfl (.iN sl95 rfl rfl (hr := (by first | exact rdp | exact (RdS.ownZ 0 rfl)))) trivial rfl ?_ | refine HeldK.first 10 (fuel := 5) (listed' := (lb 16 2047)) _ rfl krf krf rfl (.iK sl95 rfl rfl (hr := (by first | exact rdp | exact (RdS.ownZ 0 rfl)))) trivial rfl ?_
   refine HeldK.first 11 (fuel := 4) (listed' := (lb 16 4095)) _ rfl krf krf rfl (Yl.loadBy on5 rfl (by first | exact rdp | exact (RdS.ownZ 0 rfl)) (by omega)) trivial rfl ?_
   first | refine HeldK.first 12 (fuel := 3) (listed' := (lb 16 8191)) _ rfl krf krf rfl (.iN sl95 rfl rfl (hr := (by first | exact rdp | exact (RdS.ownZ 0 rfl)))) trivial rfl ?_ | refine HeldK.first 12 (fuel := 3) (listed' := (lb 16 8191)) _ rfl krf krf rfl (.iK sl95 rfl rfl (hr := (by first | exact rdp | exact (RdS.ownZ 0 rfl)))) trivial rfl ?_
   refine HeldK.one 13 (fuel := 2) (listed' := (lb 16 16383)) krf rfl krf ?_
   refine AK.storeZ 0 rfl sz5 rfl rfl rfl rfl (by omega) rfl trivial ?_
   refine .nil ?_
   try (conv => enter [2, 2]; simp only [nrm])
   refine HeldK.backN 14 krf rfl krf ?_
   first | refine .v (.iN sl95 rfl rfl (hr := (by first | exact rdp | exact (RdS.ownZ 0 rfl)))) ?_ | refine .v (.iK sl95 rfl rfl (hr := (by first | exact rdp | exact (RdS.ownZ 0 rfl)))) ?_
   refine AK.storeZ 0 (cs' := (rvK l (k + 1)).map byv) rfl sz5 rfl rfl rfl rfl (by omega) (by rw [ej]; exact hst) trivial ?_
   refine .nil ?_
   refine AK.fromQn ?_
   refine .block_normal ?_
   refine AK.then_ (hK5 _ ?_)
   refine AK.region ?_
   refine .mv rfl ?_
   refine .v (.add rfl rfl (by omega)) ?_
   refine .mv rfl ?_
   refine .v (.sub rfl rfl (by omega)) ?_
   refine .as rfl (.as rfl (.nil ?_))
   refine AK.then_ (hK2 _ _ (k + 1) (by omega) (by omega) (.cons (rfl) (.cons (slI rfl (by omega)) (slr))) (fun w hw => hw))
  ·refine .exit (.then_exit (.then_exit (.block_exit ?_)))
   refine AK.endG [] rfl (.nil) (fun w hw => ⟨_, _, _, ?_, rfl, Ret.of (hw.pick [0] (by decide) rfl rfl)⟩)
   rw [rvK_end hc0]
   exact ⟨rfl, rfl, rfl⟩

theorem s_reverse (w : World) (l : List UInt8) (hm : l.length ≤ 9223372036854775807) : CallS Tryz.prog 56 [sv l] w (fun r o => r = sv l.reverse ∧ o = []) := by
 refine spec_of Tryz.func56 rfl (leb rfl) ?_
 refine .sr fun _ hK1 => ?_
 refine .as rfl (.nt hK1 ?_)
 refine .sr fun _ hK2 => ?_
 refine .mv rfl ?_
 refine AK.toBytes un9 sl95.1 un5 rfl hm trivial rfl (fun bz => ?_)
 refine .as rfl (.nt hK2 ?_)
 refine .sr fun _ hK3 => ?_
 refine .mv rfl ?_
 refine AK.callM 0 rfl co74 rfl (fun w F hw hA => s_revb w F bz l hm hA) trivial rfl ?_
 rintro r A o ⟨rfl, rfl, rfl⟩
 refine .nt hK3 ?_
 refine .sr fun _ hK4 => ?_
 refine .mv rfl ?_
 refine .v (.bytesS sl95.1 un5 un9 rfl (by first | exact rdp | exact (RdS.ownZ 0 rfl))) ?_
 refine .as rfl (.nt hK4 (.ret ?_))
 refine AK.ret1 rfl rfl (fun w hw => ⟨_, _, ?_, rfl, Ret.of (hw.pick [] (by decide) rfl rfl)⟩)
 exact ⟨rfl, rfl⟩

end Go.Proofs.YtafldkjdeompjaaGreatDoor

namespace Go.Proofs.YtafldkjdeompjaaGreatDoor
open Go.Sx Go.RowKit
set_option maxHeartbeats 4000000 in
theorem s_search (w : World) (u v : Value) (a b : Dfa) (hu : RdD (fun _ => False) w u a) (hv : RdD (fun _ => False) w v b) (ha : VD a) (hb : VD b) (hL : a.L = b.L) (fw : FuncId) (us cs : List Value) (wd : Int × Int → Bool) (hco : CallOk Tryz.prog fw) (hW : ∀ w', FrameX (fun _ => False) w w' → ∀ p ∈ univ2 a.fin.length b.fin.length, CallS Tryz.prog fw (us ++ [.int .i64 p.1, .int .i64 p.2] ++ cs) w' (fun r o => r = .bool (wd p) ∧ o = [])) : CallS Tryz.prog 29 [u, v, .func (.func fw) us.toArray cs.toArray] w (fun r o => r = .tuple #[sv (SrcV (stepP a b) a.L.toNat (a.s, b.s) (0, 0) (univ2 a.fin.length b.fin.length).length wd).1, .bool (SrcV (stepP a b) a.L.toNat (a.s, b.s) (0, 0) (univ2 a.fin.length b.fin.length).length wd).2] ∧ o = []) := by
 have hu0 := hu
 have hv0 := hv
 obtain ⟨aF, aN, rfl, haF, haN⟩ := hu
 obtain ⟨bF, bN, rfl, hbF, hbN⟩ := hv
 have haF0 := haF
 have hbF0 := hbF
 have haN0 := haN
 have hbN0 := hbN
 obtain ⟨ra, hra, haNr, haNi⟩ := haN
 obtain ⟨rb, hrb, hbNr, hbNi⟩ := hbN
 unfold RdL at haF hbF
 have m1 := haF.le
 have m2 := hbF.le
 have haL := ha.L
 have hax := ha.nx
 have hbx := hb.nx
 have ha5 := ha.n
 have hb5 := hb.n
 have has := ha.s
 have hbs := hb.s
 have hnn : (a.fin.length * b.fin.length) ≤ 262144 := Nat.mul_le_mul ha5 hb5
 have hst := start_univ2 ha hb
 have hcl := step_univ2 ha hb hL
 have hok := exI_ok (z := (0, 0)) hst hcl
 have hbd := exI_bd (z := (0, 0)) hst hcl
 rw [univ2_len] at hbd
 have hcp : 0 ≤ a.s * (b.fin.length : Int) ∧ a.s * (b.fin.length : Int) ≤ (((a.fin.length * b.fin.length) : Nat) : Int) ∧ 0 ≤ a.s * (b.fin.length : Int) + b.s ∧ a.s * (b.fin.length : Int) + b.s < (((a.fin.length * b.fin.length) : Nat) : Int) := cd_bd (p := (a.s, b.s)) (m := a.fin.length) (n := b.fin.length) ⟨has, hbs⟩
 refine spec_of Tryz.func29 rfl (leb rfl) ?_
 refine .sr fun _ hK1 => ?_
 refine AK.box_ (E := 25) (cs := [.int .i64 a.L, .int .i64 a.s, aF, aN]) rfl rfl rfl trivial rfl (fun bx3 => ?_)
 refine AK.box_ (E := 25) (cs := [.int .i64 b.L, .int .i64 b.s, bF, bN]) rfl rfl rfl trivial rfl (fun bx4 => ?_)
 refine .as rfl (.as rfl (.nt hK1 ?_))
 refine .sr fun _ hK2 => ?_
 refine .v (.fieldAddr fd25_1 rfl) ?_
 refine .v (.loadBox on3 rfl bsp rfl) ?_
 refine .v (.fieldAddr fd25_1 rfl) ?_
 refine .v (.loadBox on3 rfl bsp rfl) ?_
 refine .v (.build (parts := [(0, .tmp 18), (1, .tmp 20), (2, .const (.int .i64 (-1))), (3, .const (.int .i64 0))]) (cs := #[.int .i64 a.s, .int .i64 b.s, .int .i64 (-1), .int .i64 0]) rfl (by kernel_rfl)) ?_
 refine AK.lit (xs := [.tmp 21]) sl104 el103 rfl rfl rfl (by intro a ha; simp at ha; subst ha; rfl) (by decide) (by decide) trivial rfl (fun qv => ?_)
 refine AK.shape 2 rfl (fun sqv => ?_)
 refine .as rfl (.nt hK2 ?_)
 refine .sr fun _ hK3 => ?_
 refine .v (.fieldAddr fd25_2 rfl) ?_
 refine .v (.loadBox on22 rfl bsp rfl) ?_
 refine .v (.lenR sl22 rfl (by first | exact rdp | exact .arg (haNi _ (by omega)) | exact .arg (hbNi _ (by omega)))) ?_
 refine .v (.fieldAddr fd25_2 rfl) ?_
 refine .v (.loadBox on22 rfl bsp rfl) ?_
 refine .v (.lenR sl22 rfl (by first | exact rdp | exact .arg (haNi _ (by omega)) | exact .arg (hbNi _ (by omega)))) ?_
 refine .v (.mulE ((((a.fin.length * b.fin.length) : Nat) : Int)) rfl rfl (Int.natCast_mul _ _).symm (by omega)) ?_
 refine AK.make1 (n := (a.fin.length * b.fin.length)) sl22 el4 rfl rfl rfl (by omega) (by omega) trivial rfl (fun mv => ?_)
 refine .as rfl (.nt hK3 ?_)
 refine .sr fun _ hK4 => ?_
 refine .mv rfl ?_
 refine .v (.fieldAddr fd25_1 rfl) ?_
 refine .v (.loadBox on3 rfl bsp rfl) ?_
 refine .v (.fieldAddr fd25_2 rfl) ?_
 refine .v (.loadBox on22 rfl bsp rfl) ?_
 refine .v (.lenR sl22 rfl (by first | exact rdp | exact .arg (haNi _ (by omega)) | exact .arg (hbNi _ (by omega)))) ?_
 refine .v (.mul rfl rfl (by omega)) ?_
 refine .v (.fieldAddr fd25_1 rfl) ?_
 refine .v (.loadBox on3 rfl bsp rfl) ?_
 refine .v (.add rfl rfl (by omega)) ?_
 first | refine .v (.iN sl22 rfl rfl (hr := (by first | exact rdp | exact .arg (haNi _ (by omega)) | exact .arg (hbNi _ (by omega))))) ?_ | refine .v (.iK sl22 rfl rfl (hr := (by first | exact rdp | exact .arg (haNi _ (by omega)) | exact .arg (hbNi _ (by omega))))) ?_
 refine AK.store1e 3 rfl sz4 rfl rfl rfl rfl (by omega) (cs' := ((metL (a.fin.length * b.fin.length) [cd b.fin.length (a.s, b.s)]).map Value.bool)) (by exact met_first ⟨hcp.2.2.1, hcp.2.2.2⟩) trivial ?_
 refine .nt hK4 ?_
 refine .seq fun _ hK5 => ?_
 refine .sr fun _ hK6 => ?_
 refine .as rfl (.nt hK6 (.block ?_))
 refine AK.loopK (X := Nat × Value) [(2, _), (3, _), (4, _), (9, _)] (fun x => [(8, x.2), (10, .int .i64 (x.1 : Int))]) (fun x => [box bx3 25 4 [.int .i64 a.L, .int .i64 a.s, aF, aN], box bx4 25 4 [.int .i64 b.L, .int .i64 b.s, bF, bN], row x.2 103 4 (exI (stepP a b) a.L.toNat (a.s, b.s) (0, 0) x.1).length (qcs ((exI (stepP a b) a.L.toNat (a.s, b.s) (0, 0) x.1).zip (exIb (stepP a b) a.L.toNat (a.s, b.s) (0, 0) x.1))), row mv 4 1 (a.fin.length * b.fin.length) ((metL (a.fin.length * b.fin.length) ((exI (stepP a b) a.L.toNat (a.s, b.s) (0, 0) x.1).map (cd b.fin.length))).map Value.bool)]) (fun x => x.1 ≤ (exI (stepP a b) a.L.toNat (a.s, b.s) (0, 0) x.1).length ∧ IsSl x.2 ∧ ∀ j, j < x.1 → wd ((exI (stepP a b) a.L.toNat (a.s, b.s) (0, 0) x.1).getD j (0, 0)) = false) (fun x => (a.fin.length * b.fin.length) - x.1) ((0, qv)) slr ?_ ?_ ?_ ?_
 ·exact ⟨Nat.zero_le _, sqv, fun j hj => by cases hj⟩
 ·exact slr
 ·exact fun w hw => hw
 ·intro x hg0 _ hK7
  have hb0 := hbd x.1
  have sx2 := hg0.2.1
  refine .seq fun _ hK8 => ?_
  refine .sr fun _ hK9 => ?_
  refine .mv rfl (.mv rfl ?_)
  refine .v (.lenR sl104 rfl (by first | exact rdp | exact .arg (haNi _ (by omega)) | exact .arg (hbNi _ (by omega)))) ?_
  refine .v (.lss rfl rfl) ?_
  refine .nt hK9 ?_
  refine AK.condD rfl (fun hc0 => ?_) (fun hc0 => ?_)
  ·have hlt : x.1 < (exI (stepP a b) a.L.toNat (a.s, b.s) (0, 0) x.1).length := by omega
   have hql := exIb_len (f := (stepP a b)) (L := a.L.toNat) (s := (a.s, b.s)) (z := (0, 0)) x.1
   have hzl := zipQ_len hql
   have hbk := exIb_bk (f := (stepP a b)) (L := a.L.toNat) (by omega) (s := (a.s, b.s)) (z := (0, 0)) x.1
   have hin := fun y hy => inB_univ2.1 ((hok x.1).2 y hy)
   obtain ⟨⟨hp1, hp2⟩, hp3, hp4⟩ := hin _ (getD_mem (d := (0, 0)) hlt)
   have hwl := exIw_wd (f := (stepP a b)) (L := a.L.toNat) (s := (a.s, b.s)) (z := (0, 0)) x.1 x.1 (by rw [exIw_len]; exact hlt)
   refine .skip ?_
   refine AK.then_ (hK8 _ ?_)
   refine .seq fun _ hK10 => ?_
   refine .block ?_
   refine .sr fun _ hK11 => ?_
   refine .mv rfl (.mv rfl ?_)
   first | refine .v (.iN sl104 rfl rfl (hr := (by first | exact rdp | exact .arg (haNi _ (by omega)) | exact .arg (hbNi _ (by omega))))) ?_ | refine .v (.iK sl104 rfl rfl (hr := (by first | exact rdp | exact .arg (haNi _ (by omega)) | exact .arg (hbNi _ (by omega))))) ?_
   refine AK.val (q4v (((exI (stepP a b) a.L.toNat (a.s, b.s) (0, 0) x.1).getD x.1 (0, 0)), ((exIb (stepP a b) a.L.toNat (a.s, b.s) (0, 0) x.1).getD x.1 (0, 0)))) (Yl.valE (Yl.loadQ ag103 rfl (RdS.own 2 rfl) (by rw [hzl]; omega)) (congrArg q4v (zipQ_get hql (by omega)))) trivial rfl ?_
   refine AK.alloc el103 rfl rfl trivial rfl (fun bx11 => ?_)
   refine AK.storeBox 4 (us := [.int .i64 ((exI (stepP a b) a.L.toNat (a.s, b.s) (0, 0) x.1).getD x.1 (0, 0)).1, .int .i64 ((exI (stepP a b) a.L.toNat (a.s, b.s) (0, 0) x.1).getD x.1 (0, 0)).2, .int .i64 ((exIb (stepP a b) a.L.toNat (a.s, b.s) (0, 0) x.1).getD x.1 (0, 0)).1, .int .i64 ((exIb (stepP a b) a.L.toNat (a.s, b.s) (0, 0) x.1).getD x.1 (0, 0)).2]) (cs' := [.int .i64 ((exI (stepP a b) a.L.toNat (a.s, b.s) (0, 0) x.1).getD x.1 (0, 0)).1, .int .i64 ((exI (stepP a b) a.L.toNat (a.s, b.s) (0, 0) x.1).getD x.1 (0, 0)).2, .int .i64 ((exIb (stepP a b) a.L.toNat (a.s, b.s) (0, 0) x.1).getD x.1 (0, 0)).1, .int .i64 ((exIb (stepP a b) a.L.toNat (a.s, b.s) (0, 0) x.1).getD x.1 (0, 0)).2]) rfl sz103 rfl rfl rfl rfl oneP (leb rfl) rfl trivial ?_
   refine .nt hK11 ?_
   refine .seq fun _ hK12 => ?_
   refine .sr fun _ hK13 => ?_
   refine .mv rfl ?_
   refine .v (.fieldAddr fd103_0 rfl) ?_
   refine .v (.loadBox on3 rfl bsp rfl) ?_
   refine .v (.fieldAddr fd103_1 rfl) ?_
   refine .v (.loadBox on3 rfl bsp rfl) ?_
   refine AK.callV (us := us) (cs := cs) hco rfl rfl (fun w hw => hW w hw.frame ((exI (stepP a b) a.L.toNat (a.s, b.s) (0, 0) x.1).getD x.1 (0, 0)) ((hok x.1).2 _ (getD_mem (d := (0, 0)) hlt))) trivial rfl ?_
   rintro r o ⟨rfl, rfl⟩
   refine .nt hK13 ?_
   refine AK.cond rfl (fun hc1 => ?_) (fun hc1 => ?_)
   ·try simp only [bs] at hc1
    have hwt : wd ((exI (stepP a b) a.L.toNat (a.s, b.s) (0, 0) x.1).getD x.1 (0, 0)) = true := hc1
    refine .sr fun _ hK14 => ?_
    refine .as rfl (.nt hK14 ?_)
    refine .seq fun _ hK15 => ?_
    refine .block ?_
    refine AK.loopK (X := Nat × List UInt8 × Value) [(8, _), (11, _)] (fun y => [(12, y.2.2)]) (fun y => [box bx3 25 4 [.int .i64 a.L, .int .i64 a.s, aF, aN], box bx4 25 4 [.int .i64 b.L, .int .i64 b.s, bF, bN], row x.2 103 4 (exI (stepP a b) a.L.toNat (a.s, b.s) (0, 0) x.1).length (qcs ((exI (stepP a b) a.L.toNat (a.s, b.s) (0, 0) x.1).zip (exIb (stepP a b) a.L.toNat (a.s, b.s) (0, 0) x.1))), row mv 4 1 (a.fin.length * b.fin.length) ((metL (a.fin.length * b.fin.length) ((exI (stepP a b) a.L.toNat (a.s, b.s) (0, 0) x.1).map (cd b.fin.length))).map Value.bool), box bx11 103 4 [.int .i64 ((exI (stepP a b) a.L.toNat (a.s, b.s) (0, 0) x.1).getD y.1 (0, 0)).1, .int .i64 ((exI (stepP a b) a.L.toNat (a.s, b.s) (0, 0) x.1).getD y.1 (0, 0)).2, .int .i64 ((exIb (stepP a b) a.L.toNat (a.s, b.s) (0, 0) x.1).getD y.1 (0, 0)).1, .int .i64 ((exIb (stepP a b) a.L.toNat (a.s, b.s) (0, 0) x.1).getD y.1 (0, 0)).2], row y.2.2 5 1 y.2.1.length (y.2.1.map byv)]) (fun y => y.1 < (exI (stepP a b) a.L.toNat (a.s, b.s) (0, 0) x.1).length ∧ (exIw (stepP a b) a.L.toNat (a.s, b.s) (0, 0) x.1).getD y.1 [] ++ y.2.1.reverse = (exIw (stepP a b) a.L.toNat (a.s, b.s) (0, 0) x.1).getD x.1 [] ∧ IsSl y.2.2) (fun y => y.1) ((x.1, [], .slice none 0 0)) slr ?_ ?_ ?_ ?_
    ·exact ⟨hlt, by simp, nilSl⟩
    ·exact slr
    ·exact fun w hw => by exact hw.ghost 5 1
    ·intro y hg1 _ hK16
     have hal : y.2.1.length ≤ 2 * (x.1 + 1) * 8 := by
      have h := congrArg List.length hg1.2.1
      rw [List.length_append, List.length_reverse] at h; omega
     have hgy := hg1.1
     refine .seq fun _ hK17 => ?_
     refine .sr fun _ hK18 => ?_
     refine .v (.fieldAddr fd103_2 rfl) ?_
     refine .v (.loadBox on3 rfl bsp rfl) ?_
     refine .v (.geq rfl rfl) ?_
     refine .nt hK18 ?_
     refine AK.condD rfl (fun hc2 => ?_) (fun hc2 => ?_)
     ·have hj0 : 0 < y.1 := by
       rcases Nat.eq_zero_or_pos y.1 with h | h
       ·rw [h, hbk.2.2.1] at hc2; exact absurd hc2 (by decide)
       ·exact h
      obtain ⟨g1, g2, g3, g4, g5, g6⟩ := hbk.2.1 y.1 hj0 (by omega)
      refine .skip ?_
      refine AK.then_ (hK17 _ ?_)
      refine .seq fun _ hK19 => ?_
      refine .block ?_
      refine AK.region ?_
      refine .mv rfl ?_
      refine .v (.fieldAddr fd103_3 rfl) ?_
      refine .v (.loadBox on3 rfl bsp rfl) ?_
      refine .v (.convI (by kernel_rfl) un5 rfl (wrap_u8 (by omega))) ?_
      refine .v (.addU8 rfl rfl (by omega)) ?_
      refine AK.append1 5 rfl sl95 el5 rfl (by decide) rfl (by intro k hk; cases hk; rfl) rfl (by intro u hu; simp [Value.cells] at hu; subst hu; rfl) (by omega) (by omega) (by decide) rfl rfl (fun vr _ hr => ?_)
      refine .as rfl (.nil (.block_normal ?_))
      refine AK.then_ (hK19 _ ?_)
      refine AK.region ?_
      refine .mv rfl ?_
      refine .v (.fieldAddr fd103_2 rfl) ?_
      refine .v (.loadBox on3 rfl bsp rfl) ?_
      first | refine .v (.iN sl104 rfl rfl (hr := (by first | exact rdp | exact .arg (haNi _ (by omega)) | exact .arg (hbNi _ (by omega))))) ?_ | refine .v (.iK sl104 rfl rfl (hr := (by first | exact rdp | exact .arg (haNi _ (by omega)) | exact .arg (hbNi _ (by omega))))) ?_
      refine AK.val (q4v (((exI (stepP a b) a.L.toNat (a.s, b.s) (0, 0) x.1).getD (((exIb (stepP a b) a.L.toNat (a.s, b.s) (0, 0) x.1).getD y.1 (0, 0)).1).toNat (0, 0)), ((exIb (stepP a b) a.L.toNat (a.s, b.s) (0, 0) x.1).getD (((exIb (stepP a b) a.L.toNat (a.s, b.s) (0, 0) x.1).getD y.1 (0, 0)).1).toNat (0, 0)))) (Yl.valE (Yl.loadQ ag103 rfl (RdS.own 2 rfl) (by rw [hzl]; omega)) (congrArg q4v (zipQ_get hql (by omega)))) trivial rfl ?_
      refine AK.storeBox 4 (us := [.int .i64 ((exI (stepP a b) a.L.toNat (a.s, b.s) (0, 0) x.1).getD (((exIb (stepP a b) a.L.toNat (a.s, b.s) (0, 0) x.1).getD y.1 (0, 0)).1).toNat (0, 0)).1, .int .i64 ((exI (stepP a b) a.L.toNat (a.s, b.s) (0, 0) x.1).getD (((exIb (stepP a b) a.L.toNat (a.s, b.s) (0, 0) x.1).getD y.1 (0, 0)).1).toNat (0, 0)).2, .int .i64 ((exIb (stepP a b) a.L.toNat (a.s, b.s) (0, 0) x.1).getD (((exIb (stepP a b) a.L.toNat (a.s, b.s) (0, 0) x.1).getD y.1 (0, 0)).1).toNat (0, 0)).1, .int .i64 ((exIb (stepP a b) a.L.toNat (a.s, b.s) (0, 0) x.1).getD (((exIb (stepP a b) a.L.toNat (a.s, b.s) (0, 0) x.1).getD y.1 (0, 0)).1).toNat (0, 0)).2]) (cs' := [.int .i64 ((exI (stepP a b) a.L.toNat (a.s, b.s) (0, 0) x.1).getD (((exIb (stepP a b) a.L.toNat (a.s, b.s) (0, 0) x.1).getD y.1 (0, 0)).1).toNat (0, 0)).1, .int .i64 ((exI (stepP a b) a.L.toNat (a.s, b.s) (0, 0) x.1).getD (((exIb (stepP a b) a.L.toNat (a.s, b.s) (0, 0) x.1).getD y.1 (0, 0)).1).toNat (0, 0)).2, .int .i64 ((exIb (stepP a b) a.L.toNat (a.s, b.s) (0, 0) x.1).getD (((exIb (stepP a b) a.L.toNat (a.s, b.s) (0, 0) x.1).getD y.1 (0, 0)).1).toNat (0, 0)).1, .int .i64 ((exIb (stepP a b) a.L.toNat (a.s, b.s) (0, 0) x.1).getD (((exIb (stepP a b) a.L.toNat (a.s, b.s) (0, 0) x.1).getD y.1 (0, 0)).1).toNat (0, 0)).2]) rfl sz103 rfl rfl rfl rfl oneP (leb rfl) rfl trivial ?_
      refine .nil ?_
      refine AK.then_ (hK16 _ _ (((((exIb (stepP a b) a.L.toNat (a.s, b.s) (0, 0) x.1).getD y.1 (0, 0)).1).toNat, y.2.1 ++ [ltr (((exIb (stepP a b) a.L.toNat (a.s, b.s) (0, 0) x.1).getD y.1 (0, 0)).2).toNat], vr)) ⟨by dsimp only; omega, by dsimp only; rw [List.reverse_append, List.reverse_singleton, ← List.append_assoc, ← g6]; exact hg1.2.1, hr⟩ (by dsimp only; omega) (slr) (fun w hw => by dsimp only; rw [List.length_append, List.map_append, List.map_cons, List.map_nil, ← byv_ltr (by omega), Int.toNat_of_nonneg g4]; exact hw))
     ·have hj0 : y.1 = 0 := by
       rcases Nat.eq_zero_or_pos y.1 with h | h
       ·exact h
       ·have := hbk.2.1 y.1 h (by omega)
        omega
      have hw0 : y.2.1.reverse = (exIw (stepP a b) a.L.toNat (a.s, b.s) (0, 0) x.1).getD x.1 [] := by
       have h := hg1.2.1
       rw [hj0, hbk.2.2.2.1] at h; simpa using h
      refine .exit (.then_exit (.then_exit (.block_exit ?_)))
      refine AK.then_ (hK15 _ ?_)
      refine .sr fun _ hK20 => ?_
      refine .mv rfl ?_
      refine .v (.bytesS sl95.1 un5 un9 rfl (by first | exact rdp | exact .arg (haNi _ (by omega)) | exact .arg (hbNi _ (by omega)))) ?_
      refine AK.call co56 rfl (fun w hw => s_reverse w y.2.1 (by omega)) trivial rfl ?_
      rintro r o ⟨rfl, rfl⟩
      refine .as rfl (.as rfl (.nt hK20 (.ret (.then_ret (.block_ret (.then_ret (.then_ret (.block_ret (.then_ret ?_)))))))))
      refine AK.ret2 rfl rfl rfl (fun w hw => ⟨_, _, ?_, rfl, Ret.of (hw.pick [] (by decide) rfl rfl)⟩)
      rw [show (SrcV (stepP a b) a.L.toNat (a.s, b.s) (0, 0) (univ2 a.fin.length b.fin.length).length wd) = _ from src_some hst hcl hlt hg0.2.2 hwt, hw0]
      exact ⟨rfl, rfl⟩
   ·try simp only [bs] at hc1
    have hwf : wd ((exI (stepP a b) a.L.toNat (a.s, b.s) (0, 0) x.1).getD x.1 (0, 0)) = false := hc1
    have hrw1 := ha.row ((exI (stepP a b) a.L.toNat (a.s, b.s) (0, 0) x.1).getD x.1 (0, 0)).1.toNat (by omega)
    have hrw2 := hb.row ((exI (stepP a b) a.L.toNat (a.s, b.s) (0, 0) x.1).getD x.1 (0, 0)).2.toNat (by omega)
    refine .skip ?_
    refine AK.then_ (hK12 _ ?_)
    refine .sr fun _ hK21 => ?_
    refine .v (.fieldAddr fd25_0 rfl) ?_
    refine .v (.loadBox on3 rfl bsp rfl) ?_
    refine .mv rfl (.nt hK21 (.block ?_))
    refine AK.loopK (X := Nat × Value) [(2, _), (3, _), (4, _), (9, _), (10, _), (11, _), (77, _)] (fun y => [(8, y.2), (78, .int .i64 (y.1 : Int))]) (fun y => [box bx3 25 4 [.int .i64 a.L, .int .i64 a.s, aF, aN], box bx4 25 4 [.int .i64 b.L, .int .i64 b.s, bF, bN], row y.2 103 4 (exR (stepP a b) ((exI (stepP a b) a.L.toNat (a.s, b.s) (0, 0) x.1).getD x.1 (0, 0)) (exI (stepP a b) a.L.toNat (a.s, b.s) (0, 0) x.1) y.1).length (qcs ((exR (stepP a b) ((exI (stepP a b) a.L.toNat (a.s, b.s) (0, 0) x.1).getD x.1 (0, 0)) (exI (stepP a b) a.L.toNat (a.s, b.s) (0, 0) x.1) y.1).zip (exRb (stepP a b) ((exI (stepP a b) a.L.toNat (a.s, b.s) (0, 0) x.1).getD x.1 (0, 0)) x.1 (exI (stepP a b) a.L.toNat (a.s, b.s) (0, 0) x.1) (exIb (stepP a b) a.L.toNat (a.s, b.s) (0, 0) x.1) y.1))), row mv 4 1 (a.fin.length * b.fin.length) ((metL (a.fin.length * b.fin.length) ((exR (stepP a b) ((exI (stepP a b) a.L.toNat (a.s, b.s) (0, 0) x.1).getD x.1 (0, 0)) (exI (stepP a b) a.L.toNat (a.s, b.s) (0, 0) x.1) y.1).map (cd b.fin.length))).map Value.bool), box bx11 103 4 [.int .i64 ((exI (stepP a b) a.L.toNat (a.s, b.s) (0, 0) x.1).getD x.1 (0, 0)).1, .int .i64 ((exI (stepP a b) a.L.toNat (a.s, b.s) (0, 0) x.1).getD x.1 (0, 0)).2, .int .i64 ((exIb (stepP a b) a.L.toNat (a.s, b.s) (0, 0) x.1).getD x.1 (0, 0)).1, .int .i64 ((exIb (stepP a b) a.L.toNat (a.s, b.s) (0, 0) x.1).getD x.1 (0, 0)).2]]) (fun y => (y.1 : Int) ≤ a.L ∧ IsSl y.2) (fun y => a.L.toNat - y.1) ((0, x.2)) slr ?_ ?_ ?_ ?_
    ·exact ⟨by dsimp only; omega, sx2⟩
    ·exact slr
    ·exact fun w hw => hw
    ·intro y hg2 _ hK22
     have sy2 := hg2.2
     refine .sr fun _ hK23 => ?_
     refine .v (.lss rfl rfl) ?_
     refine .nt hK23 ?_
     refine .seq fun _ hK24 => ?_
     refine AK.condD rfl (fun hc3 => ?_) (fun hc3 => ?_)
     ·have hyL : y.1 < a.L.toNat := by omega
      have hNU : (stepP a b ((exI (stepP a b) a.L.toNat (a.s, b.s) (0, 0) x.1).getD x.1 (0, 0)) y.1) ∈ univ2 a.fin.length b.fin.length := hcl _ ((hok x.1).2 _ (getD_mem (d := (0, 0)) hlt)) y.1 hyL
      have hNB := inB_univ2.1 hNU
      have hcb : 0 ≤ ((a.nx.getD ((exI (stepP a b) a.L.toNat (a.s, b.s) (0, 0) x.1).getD x.1 (0, 0)).1.toNat []).getD y.1 0) * (b.fin.length : Int) ∧ ((a.nx.getD ((exI (stepP a b) a.L.toNat (a.s, b.s) (0, 0) x.1).getD x.1 (0, 0)).1.toNat []).getD y.1 0) * (b.fin.length : Int) ≤ (((a.fin.length * b.fin.length) : Nat) : Int) ∧ 0 ≤ ((a.nx.getD ((exI (stepP a b) a.L.toNat (a.s, b.s) (0, 0) x.1).getD x.1 (0, 0)).1.toNat []).getD y.1 0) * (b.fin.length : Int) + ((b.nx.getD ((exI (stepP a b) a.L.toNat (a.s, b.s) (0, 0) x.1).getD x.1 (0, 0)).2.toNat []).getD y.1 0) ∧ ((a.nx.getD ((exI (stepP a b) a.L.toNat (a.s, b.s) (0, 0) x.1).getD x.1 (0, 0)).1.toNat []).getD y.1 0) * (b.fin.length : Int) + ((b.nx.getD ((exI (stepP a b) a.L.toNat (a.s, b.s) (0, 0) x.1).getD x.1 (0, 0)).2.toNat []).getD y.1 0) < (((a.fin.length * b.fin.length) : Nat) : Int) := cd_bd hNB
      have hRin : ∀ u ∈ (exR (stepP a b) ((exI (stepP a b) a.L.toNat (a.s, b.s) (0, 0) x.1).getD x.1 (0, 0)) (exI (stepP a b) a.L.toNat (a.s, b.s) (0, 0) x.1) y.1), InB a.fin.length b.fin.length u := fun u hu => inB_univ2.1 (exR_sub (fun u hu => (hok x.1).2 u hu) (fun k hk => hcl _ ((hok x.1).2 _ (getD_mem (d := (0, 0)) hlt)) k hk) y.1 (by omega) u hu)
      have hmg : (metL (a.fin.length * b.fin.length) ((exR (stepP a b) ((exI (stepP a b) a.L.toNat (a.s, b.s) (0, 0) x.1).getD x.1 (0, 0)) (exI (stepP a b) a.L.toNat (a.s, b.s) (0, 0) x.1) y.1).map (cd b.fin.length))).getD (((a.nx.getD ((exI (stepP a b) a.L.toNat (a.s, b.s) (0, 0) x.1).getD x.1 (0, 0)).1.toNat []).getD y.1 0) * (b.fin.length : Int) + ((b.nx.getD ((exI (stepP a b) a.L.toNat (a.s, b.s) (0, 0) x.1).getD x.1 (0, 0)).2.toNat []).getD y.1 0)).toNat false = decide ((stepP a b ((exI (stepP a b) a.L.toNat (a.s, b.s) (0, 0) x.1).getD x.1 (0, 0)) y.1) ∈ (exR (stepP a b) ((exI (stepP a b) a.L.toNat (a.s, b.s) (0, 0) x.1).getD x.1 (0, 0)) (exI (stepP a b) a.L.toNat (a.s, b.s) (0, 0) x.1) y.1)) := (metL_get ⟨hcb.2.2.1, hcb.2.2.2⟩).trans (decide_eq_decide.2 (cd_mem hRin hNB))
      have hrl := exR_bd (z := (0, 0)) hst hcl hlt (k := y.1) (by omega)
      rw [univ2_len] at hrl
      have hbl := exRb_len (f := (stepP a b)) (q := ((exI (stepP a b) a.L.toNat (a.s, b.s) (0, 0) x.1).getD x.1 (0, 0))) (i := x.1) hql y.1
      have hml := metL_len (a.fin.length * b.fin.length) ((exR (stepP a b) ((exI (stepP a b) a.L.toNat (a.s, b.s) (0, 0) x.1).getD x.1 (0, 0)) (exI (stepP a b) a.L.toNat (a.s, b.s) (0, 0) x.1) y.1).map (cd b.fin.length))
      refine .skip ?_
      refine AK.then_ (hK24 _ ?_)
      refine .seq fun _ hK25 => ?_
      refine .block ?_
      refine .sr fun _ hK26 => ?_
      refine .mv rfl (.as rfl (.nt hK26 ?_))
      refine .seq fun _ hK27 => ?_
      refine AK.quiet mixed krf ?_
      refine .v (.fieldAddr fd25_3 rfl) ?_
      refine .v (.loadBox on23 rfl bsp rfl) ?_
      refine .v (.fieldAddr fd103_0 rfl) ?_
      refine .v (.loadBox on3 rfl bsp rfl) ?_
      first | refine .v (.iN sl23 rfl rfl (hr := (by first | exact rdp | exact .arg (haNi _ (by omega)) | exact .arg (hbNi _ (by omega))))) ?_ | refine .v (.iK sl23 rfl rfl (hr := (by first | exact rdp | exact .arg (haNi _ (by omega)) | exact .arg (hbNi _ (by omega))))) ?_
      refine .v (.loadV on28 rfl (by first | exact rdp | exact .arg (haNi _ (by omega)) | exact .arg (hbNi _ (by omega))) (by omega)) ?_
      refine .mv rfl ?_
      first | refine .v (.iN sl28 rfl rfl (hr := (by first | exact rdp | exact .arg (haNi _ (by omega)) | exact .arg (hbNi _ (by omega))))) ?_ | refine .v (.iK sl28 rfl rfl (hr := (by first | exact rdp | exact .arg (haNi _ (by omega)) | exact .arg (hbNi _ (by omega))))) ?_
      refine .v (.loadI on3 rfl (by first | exact rdp | exact .arg (haNi _ (by omega)) | exact .arg (hbNi _ (by omega))) (by omega)) ?_
      refine .v (.fieldAddr fd25_3 rfl) ?_
      refine .v (.loadBox on23 rfl bsp rfl) ?_
      refine .v (.fieldAddr fd103_1 rfl) ?_
      refine .v (.loadBox on3 rfl bsp rfl) ?_
      first | refine .v (.iN sl23 rfl rfl (hr := (by first | exact rdp | exact .arg (haNi _ (by omega)) | exact .arg (hbNi _ (by omega))))) ?_ | refine .v (.iK sl23 rfl rfl (hr := (by first | exact rdp | exact .arg (haNi _ (by omega)) | exact .arg (hbNi _ (by omega))))) ?_
      refine .v (.loadV on28 rfl (by first | exact rdp | exact .arg (haNi _ (by omega)) | exact .arg (hbNi _ (by omega))) (by omega)) ?_
      refine .mv rfl ?_
      first | refine .v (.iN sl28 rfl rfl (hr := (by first | exact rdp | exact .arg (haNi _ (by omega)) | exact .arg (hbNi _ (by omega))))) ?_ | refine .v (.iK sl28 rfl rfl (hr := (by first | exact rdp | exact .arg (haNi _ (by omega)) | exact .arg (hbNi _ (by omega))))) ?_
      refine .v (.loadI on3 rfl (by first | exact rdp | exact .arg (haNi _ (by omega)) | exact .arg (hbNi _ (by omega))) (by omega)) ?_
      refine .as rfl (.as rfl ?_)
      refine QK.nil (QK.fin ?_)
      refine AK.then_ (hK27 _ ?_)
      refine .sr fun _ hK28 => ?_
      refine .mv rfl ?_
      refine .v (.fieldAddr fd25_2 rfl) ?_
      refine .v (.loadBox on22 rfl bsp rfl) ?_
      refine .v (.lenR sl22 rfl (by first | exact rdp | exact .arg (haNi _ (by omega)) | exact .arg (hbNi _ (by omega)))) ?_
      refine .v (.mul rfl rfl (by omega)) ?_
      refine .mv rfl ?_
      refine .v (.add rfl rfl (by omega)) ?_
      refine .as rfl (.nt hK28 ?_)
      refine .sr fun _ hK29 => ?_
      refine .mv rfl (.mv rfl ?_)
      first | refine .v (.iN sl22 rfl rfl (hr := (by first | exact rdp | exact .arg (haNi _ (by omega)) | exact .arg (hbNi _ (by omega))))) ?_ | refine .v (.iK sl22 rfl rfl (hr := (by first | exact rdp | exact .arg (haNi _ (by omega)) | exact .arg (hbNi _ (by omega))))) ?_
      refine .v (.loadB on4 rfl (by first | exact rdp | exact .arg (haNi _ (by omega)) | exact .arg (hbNi _ (by omega))) (by omega)) ?_
      refine .v (.not rfl) ?_
      refine .nt hK29 ?_
      refine AK.condB rfl (fun hc4 => ?_) (fun hc4 => ?_)
      ·have hni : (stepP a b ((exI (stepP a b) a.L.toNat (a.s, b.s) (0, 0) x.1).getD x.1 (0, 0)) y.1) ∉ (exR (stepP a b) ((exI (stepP a b) a.L.toNat (a.s, b.s) (0, 0) x.1).getD x.1 (0, 0)) (exI (stepP a b) a.L.toNat (a.s, b.s) (0, 0) x.1) y.1) := by rw [hmg] at hc4; exact of_decide_eq_false hc4
       refine .sr fun _ hK30 => ?_
       refine .mv rfl (.mv rfl ?_)
       first | refine .v (.iN sl22 rfl rfl (hr := (by first | exact rdp | exact .arg (haNi _ (by omega)) | exact .arg (hbNi _ (by omega))))) ?_ | refine .v (.iK sl22 rfl rfl (hr := (by first | exact rdp | exact .arg (haNi _ (by omega)) | exact .arg (hbNi _ (by omega))))) ?_
       refine AK.store1e 3 rfl sz4 rfl rfl rfl rfl (by omega) (cs' := ((metL (a.fin.length * b.fin.length) (((exR (stepP a b) ((exI (stepP a b) a.L.toNat (a.s, b.s) (0, 0) x.1).getD x.1 (0, 0)) (exI (stepP a b) a.L.toNat (a.s, b.s) (0, 0) x.1) y.1) ++ [(stepP a b ((exI (stepP a b) a.L.toNat (a.s, b.s) (0, 0) x.1).getD x.1 (0, 0)) y.1)]).map (cd b.fin.length))).map Value.bool)) (by rw [List.map_append]; exact met_next ⟨hcb.2.2.1, hcb.2.2.2⟩) trivial ?_
       refine .nt hK30 ?_
       refine AK.region ?_
       refine .mv rfl (.mv rfl (.mv rfl (.mv rfl (.mv rfl ?_))))
       refine .v (.build (parts := [(0, .tmp 115), (1, .tmp 116), (2, .tmp 117), (3, .tmp 118)]) (cs := #[.int .i64 ((a.nx.getD ((exI (stepP a b) a.L.toNat (a.s, b.s) (0, 0) x.1).getD x.1 (0, 0)).1.toNat []).getD y.1 0), .int .i64 ((b.nx.getD ((exI (stepP a b) a.L.toNat (a.s, b.s) (0, 0) x.1).getD x.1 (0, 0)).2.toNat []).getD y.1 0), .int .i64 (x.1 : Int), .int .i64 (y.1 : Int)]) rfl (by kernel_rfl)) ?_
       refine AK.append1 2 rfl sl104 el103 rfl (by decide) rfl (by intro k hk; cases hk; rfl) rfl (by intro u hu; simp [Value.cells] at hu; rcases hu with rfl | rfl | rfl | rfl <;> rfl) (by omega) (by omega) (by decide) rfl rfl (fun va _ ha2 => ?_)
       refine .as rfl (.nil (.block_normal ?_))
       refine AK.then_ (hK25 _ ?_)
       refine AK.region ?_
       refine .v (.add rfl rfl (by omega)) ?_
       refine .mv rfl (.nil ?_)
       first | refine AK.then_ (hK22 _ _ ((y.1 + 1, va)) ⟨by dsimp only; omega, ha2⟩ (by dsimp only; omega) (slr) (fun w hw => by dsimp only; rw [show (exR (stepP a b) ((exI (stepP a b) a.L.toNat (a.s, b.s) (0, 0) x.1).getD x.1 (0, 0)) (exI (stepP a b) a.L.toNat (a.s, b.s) (0, 0) x.1) (y.1 + 1)) = (exR (stepP a b) ((exI (stepP a b) a.L.toNat (a.s, b.s) (0, 0) x.1).getD x.1 (0, 0)) (exI (stepP a b) a.L.toNat (a.s, b.s) (0, 0) x.1) y.1) ++ [(stepP a b ((exI (stepP a b) a.L.toNat (a.s, b.s) (0, 0) x.1).getD x.1 (0, 0)) y.1)] from if_neg hni, show (exRb (stepP a b) ((exI (stepP a b) a.L.toNat (a.s, b.s) (0, 0) x.1).getD x.1 (0, 0)) x.1 (exI (stepP a b) a.L.toNat (a.s, b.s) (0, 0) x.1) (exIb (stepP a b) a.L.toNat (a.s, b.s) (0, 0) x.1) (y.1 + 1)) = (exRb (stepP a b) ((exI (stepP a b) a.L.toNat (a.s, b.s) (0, 0) x.1).getD x.1 (0, 0)) x.1 (exI (stepP a b) a.L.toNat (a.s, b.s) (0, 0) x.1) (exIb (stepP a b) a.L.toNat (a.s, b.s) (0, 0) x.1) y.1) ++ [((x.1 : Int), (y.1 : Int))] from if_neg hni, zipQ_snoc hbl, qcs_snoc, List.length_append]; exact hw)) | refine AK.then_ (hK22 _ _ ((y.1 + 1, y.2)) ⟨by dsimp only; omega, sy2⟩ (by dsimp only; omega) (slr) (fun w hw => by dsimp only; rw [show (exR (stepP a b) ((exI (stepP a b) a.L.toNat (a.s, b.s) (0, 0) x.1).getD x.1 (0, 0)) (exI (stepP a b) a.L.toNat (a.s, b.s) (0, 0) x.1) (y.1 + 1)) = (exR (stepP a b) ((exI (stepP a b) a.L.toNat (a.s, b.s) (0, 0) x.1).getD x.1 (0, 0)) (exI (stepP a b) a.L.toNat (a.s, b.s) (0, 0) x.1) y.1) from if_pos hin2, show (exRb (stepP a b) ((exI (stepP a b) a.L.toNat (a.s, b.s) (0, 0) x.1).getD x.1 (0, 0)) x.1 (exI (stepP a b) a.L.toNat (a.s, b.s) (0, 0) x.1) (exIb (stepP a b) a.L.toNat (a.s, b.s) (0, 0) x.1) (y.1 + 1)) = (exRb (stepP a b) ((exI (stepP a b) a.L.toNat (a.s, b.s) (0, 0) x.1).getD x.1 (0, 0)) x.1 (exI (stepP a b) a.L.toNat (a.s, b.s) (0, 0) x.1) (exIb (stepP a b) a.L.toNat (a.s, b.s) (0, 0) x.1) y.1) from if_pos hin2]; exact hw))
      ·have hin2 : (stepP a b ((exI (stepP a b) a.L.toNat (a.s, b.s) (0, 0) x.1).getD x.1 (0, 0)) y.1) ∈ (exR (stepP a b) ((exI (stepP a b) a.L.toNat (a.s, b.s) (0, 0) x.1).getD x.1 (0, 0)) (exI (stepP a b) a.L.toNat (a.s, b.s) (0, 0) x.1) y.1) := by rw [hmg] at hc4; exact of_decide_eq_true hc4
       refine .skip (.block_normal ?_)
       refine AK.then_ (hK25 _ ?_)
       refine AK.region ?_
       refine .v (.add rfl rfl (by omega)) ?_
       refine .mv rfl (.nil ?_)
       first | refine AK.then_ (hK22 _ _ ((y.1 + 1, va)) ⟨by dsimp only; omega, ha2⟩ (by dsimp only; omega) (slr) (fun w hw => by dsimp only; rw [show (exR (stepP a b) ((exI (stepP a b) a.L.toNat (a.s, b.s) (0, 0) x.1).getD x.1 (0, 0)) (exI (stepP a b) a.L.toNat (a.s, b.s) (0, 0) x.1) (y.1 + 1)) = (exR (stepP a b) ((exI (stepP a b) a.L.toNat (a.s, b.s) (0, 0) x.1).getD x.1 (0, 0)) (exI (stepP a b) a.L.toNat (a.s, b.s) (0, 0) x.1) y.1) ++ [(stepP a b ((exI (stepP a b) a.L.toNat (a.s, b.s) (0, 0) x.1).getD x.1 (0, 0)) y.1)] from if_neg hni, show (exRb (stepP a b) ((exI (stepP a b) a.L.toNat (a.s, b.s) (0, 0) x.1).getD x.1 (0, 0)) x.1 (exI (stepP a b) a.L.toNat (a.s, b.s) (0, 0) x.1) (exIb (stepP a b) a.L.toNat (a.s, b.s) (0, 0) x.1) (y.1 + 1)) = (exRb (stepP a b) ((exI (stepP a b) a.L.toNat (a.s, b.s) (0, 0) x.1).getD x.1 (0, 0)) x.1 (exI (stepP a b) a.L.toNat (a.s, b.s) (0, 0) x.1) (exIb (stepP a b) a.L.toNat (a.s, b.s) (0, 0) x.1) y.1) ++ [((x.1 : Int), (y.1 : Int))] from if_neg hni, zipQ_snoc hbl, qcs_snoc, List.length_append]; exact hw)) | refine AK.then_ (hK22 _ _ ((y.1 + 1, y.2)) ⟨by dsimp only; omega, sy2⟩ (by dsimp only; omega) (slr) (fun w hw => by dsimp only; rw [show (exR (stepP a b) ((exI (stepP a b) a.L.toNat (a.s, b.s) (0, 0) x.1).getD x.1 (0, 0)) (exI (stepP a b) a.L.toNat (a.s, b.s) (0, 0) x.1) (y.1 + 1)) = (exR (stepP a b) ((exI (stepP a b) a.L.toNat (a.s, b.s) (0, 0) x.1).getD x.1 (0, 0)) (exI (stepP a b) a.L.toNat (a.s, b.s) (0, 0) x.1) y.1) from if_pos hin2, show (exRb (stepP a b) ((exI (stepP a b) a.L.toNat (a.s, b.s) (0, 0) x.1).getD x.1 (0, 0)) x.1 (exI (stepP a b) a.L.toNat (a.s, b.s) (0, 0) x.1) (exIb (stepP a b) a.L.toNat (a.s, b.s) (0, 0) x.1) (y.1 + 1)) = (exRb (stepP a b) ((exI (stepP a b) a.L.toNat (a.s, b.s) (0, 0) x.1).getD x.1 (0, 0)) x.1 (exI (stepP a b) a.L.toNat (a.s, b.s) (0, 0) x.1) (exIb (stepP a b) a.L.toNat (a.s, b.s) (0, 0) x.1) y.1) from if_pos hin2]; exact hw))
     ·refine .exit (.then_exit (.then_exit (.block_exit (.block_normal ?_))))
      refine AK.then_ (hK10 _ ?_)
      refine AK.region ?_
      refine .mv rfl ?_
      refine .v (.add rfl rfl (by omega)) ?_
      refine .as rfl (.nil ?_)
      refine AK.then_ (hK7 _ _ ((x.1 + 1, y.2)) ⟨by dsimp only; rw [exI_next hlt]; obtain ⟨ys, e⟩ := exR_pre (stepP a b) ((exI (stepP a b) a.L.toNat (a.s, b.s) (0, 0) x.1).getD x.1 (0, 0)) (exI (stepP a b) a.L.toNat (a.s, b.s) (0, 0) x.1) a.L.toNat; rw [e, List.length_append]; omega, hg2.2, src_next hlt hg0.2.2 hwf⟩ (by dsimp only; omega) (slr) (fun w hw => by dsimp only; rw [exI_next hlt, exIb_next hlt]; rw [show y.1 = a.L.toNat by omega] at hw; exact hw.pick [0, 1, 2, 3] (by decide) rfl rfl))
  ·refine .exit (.then_exit (.then_exit (.block_exit ?_)))
   refine AK.then_ (hK5 _ ?_)
   refine .sr fun _ hK31 => ?_
   refine .as rfl (.as rfl (.nt hK31 (.ret ?_)))
   refine AK.ret2 rfl rfl rfl (fun w hw => ⟨_, _, ?_, rfl, Ret.of (hw.pick [] (by decide) rfl rfl)⟩)
   rw [show (SrcV (stepP a b) a.L.toNat (a.s, b.s) (0, 0) (univ2 a.fin.length b.fin.length).length wd) = _ from src_none hst hcl (show x.1 = (exI (stepP a b) a.L.toNat (a.s, b.s) (0, 0) x.1).length by omega) hg0.2.2]
   exact ⟨rfl, rfl⟩

end Go.Proofs.YtafldkjdeompjaaGreatDoor
