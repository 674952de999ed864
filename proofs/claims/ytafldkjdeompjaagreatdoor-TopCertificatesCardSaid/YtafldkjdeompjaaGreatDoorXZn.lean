import Derived.Test.YtafldkjdeompjaaGreatDoorXZi
import Derived.Test.YtafldkjdeompjaaGreatDoorXZl
import Derived.Test.YtafldkjdeompjaaGreatDoorXZm
import Derived.Test.YtafldkjdeompjaaGreatDoorXZj
import Derived.Test.YtafldkjdeompjaaGreatDoorXZb
import Derived.Test.YtafldkjdeompjaaGreatDoorXZk
import Derived.Test.YtafldkjdeompjaaGreatDoorXZa
import Derived.ProofKit
import Derived.OpenShut
import Derived.Deep.Slices
import Derived.WideShapes
set_option linter.unusedVariables false
set_option linter.unusedSimpArgs false
set_option maxRecDepth 100000
namespace Go.Proofs.YtafldkjdeompjaaGreatDoor
open Go.Sx Go.RowKit
theorem s_bvalid (w : World) (u v : Value) (a b : Dfa) (hu : RdD (fun _ => False) w u a) (hv : RdD (fun _ => False) w v b) : CallS Tryz.prog 27 [u, v] w (fun r o => r = .int .i64 (pairE a b) ∧ o = []) := by
 have hu0 := hu
 have hv0 := hv
 obtain ⟨aF, aN, rfl, haF, haN⟩ := hu
 obtain ⟨bF, bN, rfl, hbF, hbN⟩ := hv
 have haF0 := haF
 have hbF0 := hbF
 have haN0 := haN
 have hbN0 := hbN
 obtain ⟨ra, hra, haNr, haNi⟩ := haN
 obtain ⟨rb, hrb, hbNr, hbNi⟩ := hbN
 unfold RdL at haF hbF
 have m1 := haF.le
 have m2 := hbF.le
 refine spec_of Tryz.func27 rfl (leb rfl) ?_
 refine .sr fun _ hK1 => ?_
 refine AK.box_ (E := 25) (cs := [.int .i64 a.L, .int .i64 a.s, aF, aN]) rfl rfl rfl trivial rfl (fun bx2 => ?_)
 refine AK.box_ (E := 25) (cs := [.int .i64 b.L, .int .i64 b.s, bF, bN]) rfl rfl rfl trivial rfl (fun bx3 => ?_)
 refine .as rfl (.nt hK1 ?_)
 refine .seq fun _ hK2 => ?_
 refine .sr fun _ hK3 => ?_
 refine .v (.loadBoxG ag25 rfl bsp rfl rfl) ?_
 refine AK.call co17 rfl (fun w hw => s_validate w _ a (hu0.at hw)) trivial rfl ?_
 rintro r o ⟨rfl, rfl⟩
 refine .as rfl (.nt hK3 ?_)
 refine .sr fun _ hK4 => ?_
 refine .mv rfl ?_
 refine .v (.neq rfl rfl) ?_
 refine .nt hK4 ?_
 refine AK.condNe rfl (fun hc0 => ?_) (fun hc0 => ?_)
 ·refine .sr fun _ hK5 => ?_
  refine .mv rfl (.as rfl (.nt hK5 (.ret (.then_ret ?_))))
  refine AK.ret1 rfl rfl (fun w hw => ⟨_, _, ?_, rfl, Ret.of (hw.pick [] (by decide) rfl rfl)⟩)
  refine ⟨congrArg (Value.int .i64) ?_, rfl⟩
  unfold pairE
  rw [if_pos hc0]
 ·refine .skip ?_
  refine AK.then_ (hK2 _ ?_)
  refine .seq fun _ hK6 => ?_
  refine .sr fun _ hK7 => ?_
  refine .v (.loadBoxG ag25 rfl bsp rfl rfl) ?_
  refine AK.call co17 rfl (fun w hw => s_validate w _ b (hv0.at hw)) trivial rfl ?_
  rintro r o ⟨rfl, rfl⟩
  refine .as rfl (.nt hK7 ?_)
  refine .sr fun _ hK8 => ?_
  refine .mv rfl ?_
  refine .v (.neq rfl rfl) ?_
  refine .nt hK8 ?_
  refine AK.condNe rfl (fun hc1 => ?_) (fun hc1 => ?_)
  ·refine .sr fun _ hK9 => ?_
   refine .mv rfl (.as rfl (.nt hK9 (.ret (.then_ret ?_))))
   refine AK.ret1 rfl rfl (fun w hw => ⟨_, _, ?_, rfl, Ret.of (hw.pick [] (by decide) rfl rfl)⟩)
   refine ⟨congrArg (Value.int .i64) ?_, rfl⟩
   unfold pairE
   rw [if_neg (by omega), if_pos hc1]
  ·refine .skip ?_
   refine AK.then_ (hK6 _ ?_)
   refine .seq fun _ hK10 => ?_
   refine .sr fun _ hK11 => ?_
   refine .v (.fieldAddr fd25_0 rfl) ?_
   refine .v (.loadBox on3 rfl bsp rfl) ?_
   refine .v (.fieldAddr fd25_0 rfl) ?_
   refine .v (.loadBox on3 rfl bsp rfl) ?_
   refine .v (.neq rfl rfl) ?_
   refine .nt hK11 ?_
   refine AK.condNe rfl (fun hc2 => ?_) (fun hc2 => ?_)
   ·refine .sr fun _ hK12 => ?_
    refine .as rfl (.nt hK12 (.ret (.then_ret ?_)))
    refine AK.ret1 rfl rfl (fun w hw => ⟨_, _, ?_, rfl, Ret.of (hw.pick [] (by decide) rfl rfl)⟩)
    refine ⟨congrArg (Value.int .i64) ?_, rfl⟩
    unfold pairE
    rw [if_neg (by omega), if_neg (by omega), if_pos hc2]
   ·refine .skip ?_
    refine AK.then_ (hK10 _ ?_)
    refine .sr fun _ hK13 => ?_
    refine .as rfl (.nt hK13 (.ret ?_))
    refine AK.ret1 rfl rfl (fun w hw => ⟨_, _, ?_, rfl, Ret.of (hw.pick [] (by decide) rfl rfl)⟩)
    refine ⟨congrArg (Value.int .i64) ?_, rfl⟩
    unfold pairE
    rw [if_neg (by omega), if_neg (by omega), if_neg (by omega)]

theorem s_find1 (w : World) (p q : Int) (b2 b3 : Nat) (a b : Dfa) (aF aN bF bN : Value) (h2 : BxA w b2 [.int .i64 a.L, .int .i64 a.s, aF, aN]) (h3 : BxA w b3 [.int .i64 b.L, .int .i64 b.s, bF, bN]) (haF0 : RdL (fun _ => False) Value.bool w aF a.fin) (hbF0 : RdL (fun _ => False) Value.bool w bF b.fin) (hp : InR a p) (hq : InR b q) : CallS Tryz.prog 30 [.int .i64 p, .int .i64 q, .pointer (some ⟨b2, 0, none⟩), .pointer (some ⟨b3, 0, none⟩)] w (fun r o => r = .bool (finQ a p != finQ b q) ∧ o = []) := by
 have haF := haF0
 have hbF := hbF0
 unfold RdL at haF hbF
 have hp1 := hp.1
 have hp2 := hp.2
 have hq1 := hq.1
 have hq2 := hq.2
 refine spec_of Tryz.func30 rfl (leb rfl) ?_
 refine .sr fun _ hK1 => ?_
 refine .as rfl (.nt hK1 ?_)
 refine .seq fun _ hK2 => ?_
 refine AK.quiet mixed krf ?_
 refine .v (.fieldAddr fd25_2 rfl) ?_
 refine .v (.loadBox on22 rfl bsp rfl) ?_
 refine .mv rfl ?_
 first | refine .v (.iN sl22 rfl rfl) ?_ | refine .v (.iK sl22 rfl rfl) ?_
 refine .v (.loadB on4 rfl rdp (by omega)) ?_
 refine .v (.fieldAddr fd25_2 rfl) ?_
 refine .v (.loadBox on22 rfl bsp rfl) ?_
 refine .mv rfl ?_
 first | refine .v (.iN sl22 rfl rfl) ?_ | refine .v (.iK sl22 rfl rfl) ?_
 refine .v (.loadB on4 rfl rdp (by omega)) ?_
 refine .v (.neqB bo4 rfl rfl) ?_
 refine .as rfl ?_
 refine QK.nil (QK.fin ?_)
 refine AK.then_ (hK2 _ ?_)
 refine .ret ?_
 refine AK.ret1 rfl rfl (fun w hw => ⟨_, _, ?_, rfl, Ret.of (hw.pick [] (by decide) rfl rfl)⟩)
 exact ⟨rfl, rfl⟩

end Go.Proofs.YtafldkjdeompjaaGreatDoor

namespace Go.Proofs.YtafldkjdeompjaaGreatDoor
open Go.Sx Go.RowKit Go.Sx.Pt
set_option maxHeartbeats 400000 in
theorem s_find (w : World) (u v : Value) (a b : Dfa) (hu : RdD (fun _ => False) w u a) (hv : RdD (fun _ => False) w v b) : CallS Tryz.prog 9 [u, v] w (fun r o => ∃ pv, r = .tuple #[pv, sv (FindW a b), .bool (FindB a b), .int .i64 (pairE a b)] ∧ IsSl pv ∧ o = [row pv 3 1 (FindP a b).length ((FindP a b).map (Value.int .i64))]) := by
 have hu0 := hu
 have hv0 := hv
 obtain ⟨aF, aN, rfl, haF, haN⟩ := hu
 obtain ⟨bF, bN, rfl, hbF, hbN⟩ := hv
 have haF0 := haF
 have hbF0 := hbF
 have haN0 := haN
 have hbN0 := hbN
 obtain ⟨ra, hra, haNr, haNi⟩ := haN
 obtain ⟨rb, hrb, hbNr, hbNi⟩ := hbN
 unfold RdL at haF hbF
 have m1 := haF.le
 have m2 := hbF.le
 refine spec_of Tryz.func9 rfl (leb rfl) ?_
 refine .sr fun _ hK1 => ?_
 refine AK.box_ (E := 25) (cs := [.int .i64 a.L, .int .i64 a.s, aF, aN]) rfl rfl rfl trivial rfl (fun bx2 => ?_)
 refine AK.box_ (E := 25) (cs := [.int .i64 b.L, .int .i64 b.s, bF, bN]) rfl rfl rfl trivial rfl (fun bx3 => ?_)
 refine .as rfl (.as rfl (.as rfl (.as rfl (.nt hK1 ?_))))
 refine .seq fun _ hK2 => ?_
 refine .sr fun _ hK3 => ?_
 refine .v (.loadBoxG ag25 rfl bsp rfl rfl) ?_
 refine .v (.loadBoxG ag25 rfl bsp rfl rfl) ?_
 refine AK.call co27 rfl (fun w hw => s_bvalid w _ _ a b (hu0.at hw) (hv0.at hw)) trivial rfl ?_
 rintro r o ⟨rfl, rfl⟩
 refine .as rfl (.nt hK3 ?_)
 refine .sr fun _ hK4 => ?_
 refine .mv rfl ?_
 refine .v (.neq rfl rfl) ?_
 refine .nt hK4 ?_
 refine AK.condNe rfl (fun hc0 => ?_) (fun hc0 => ?_)
 ·have hE : pairE a b ≠ 0 := by omega
  refine .sr fun _ hK5 => ?_
  refine .mv rfl (.as rfl (.as rfl (.as rfl (.as rfl (.nt hK5 (.ret (.then_ret ?_)))))))
  refine AK.ghost 3 1 ?_
  refine AK.retG [.tmp 4, .tmp 5, .tmp 6, .tmp 7] rfl (.cons (.tmp rfl) (.cons (.tmp rfl) (.cons (.tmp rfl) (.cons (.tmp rfl) (.nil))))) (fun w hw => ⟨_, _, ?_, rfl, Ret.of (hw.pick [2] (by decide) rfl rfl)⟩)
  obtain ⟨e1, e2, e3⟩ := find_bad hE
  rw [e1, e2, e3]
  exact ⟨_, rfl, nilSl, rfl⟩
 ·have hE : pairE a b = 0 := by omega
  obtain ⟨ha, hb, hL⟩ := pairE_zero hE
  refine .skip ?_
  refine AK.then_ (hK2 _ ?_)
  refine .seq fun _ hK6 => ?_
  refine .sr fun _ hK7 => ?_
  refine .v (.loadBoxG ag25 rfl bsp rfl rfl) ?_
  refine .v (.loadBoxG ag25 rfl bsp rfl rfl) ?_
  refine AK.call co28 rfl (fun w hw => s_unite w _ _ a b (hu0.at hw) (hv0.at hw) ha hb hL) trivial rfl ?_
  rintro r o ⟨cv, lst, sm, rfl, scv, rfl, hs1, hs2⟩
  refine .mv rfl ?_
  refine .v (.extract rfl rfl) ?_
  refine .v (.extract rfl rfl) ?_
  refine .as rfl (.as rfl (.nt hK7 ?_))
  refine .sr fun _ hK8 => ?_
  refine .mv rfl (.nt hK8 ?_)
  refine AK.cond rfl (fun hc1 => ?_) (fun hc1 => ?_)
  ·try simp only [bs] at hc1
   refine .sr fun _ hK9 => ?_
   refine .mv rfl (.as rfl (.as rfl (.as rfl (.as rfl (.nt hK9 (.ret (.then_ret ?_)))))))
   refine AK.retG [.tmp 4, .tmp 5, .tmp 6, .tmp 7] rfl (.cons (.tmp rfl) (.cons (.tmp rfl) (.cons (.tmp rfl) (.cons (.tmp rfl) (.nil))))) (fun w hw => ⟨_, _, ?_, rfl, Ret.of (hw.pick [2] (by decide) rfl rfl)⟩)
   obtain ⟨hlng, rfl⟩ := hs1 hc1
   have e1 : FindB a b = true := (find_iff hE).2 hlng
   have e0 : (DifD a b 6).2 = false := (dif6_iff ha hb hL).2 hlng
   rw [(find_ok hE).2, dif_false e0, hE, show FindP a b = leastL a b from if_pos e1, e1]
   exact ⟨cv, rfl, scv, rfl⟩
  ·try simp only [bs] at hc1
   refine .skip ?_
   refine AK.then_ (hK6 _ ?_)
   refine .sr fun _ hK10 => ?_
   refine .v (.loadBoxG ag25 rfl bsp rfl rfl) ?_
   refine .v (.loadBoxG ag25 rfl bsp rfl rfl) ?_
   refine .v (.makeFunc (first := []) (captured := [.tmp 2, .tmp 3]) rfl rfl) ?_
   refine AK.call co29 rfl (fun w hw => (by have h := s_search w _ _ a b (hu0.at hw) (hv0.at hw) ha hb hL 30 [] [.pointer (some ⟨bx2, 0, none⟩), .pointer (some ⟨bx3, 0, none⟩)] (finP a b 6) co30 (fun w' hfr p hp => by obtain ⟨i1, i2⟩ := mem_univ2.1 hp; rw [finP6]; exact s_find1 w' p.1 p.2 bx2 bx3 a b aF aN bF bN ((BxA.own 0 hw rfl).fr hfr) ((BxA.own 1 hw rfl).fr hfr) ((haF0.at hw).fr hfr) ((hbF0.at hw).fr hfr) i1 i2); exact h)) trivial rfl ?_
   rintro r o ⟨rfl, rfl⟩
   refine .mv rfl ?_
   refine .v (.extract rfl rfl) ?_
   refine .v (.extract rfl rfl) ?_
   refine .as rfl (.as rfl (.nt hK10 ?_))
   refine .sr fun _ hK11 => ?_
   refine .mv rfl (.as rfl (.as rfl (.as rfl (.as rfl (.nt hK11 (.ret ?_))))))
   refine AK.ghost 3 1 ?_
   refine AK.retG [.tmp 4, .tmp 5, .tmp 6, .tmp 7] rfl (.cons (.tmp rfl) (.cons (.tmp rfl) (.cons (.tmp rfl) (.cons (.tmp rfl) (.nil))))) (fun w hw => ⟨_, _, ?_, rfl, Ret.of (hw.pick [3] (by decide) rfl rfl)⟩)
   obtain ⟨hnl, _⟩ := hs2 hc1
   have e1 : FindB a b = false := by
    cases e : FindB a b with
    | false => rfl
    | true => exact absurd ((find_iff hE).1 e) hnl
   rw [(find_ok hE).2, hE, show FindP a b = [] from if_neg (by rw [e1]; decide), e1]
   exact ⟨_, rfl, nilSl, rfl⟩

end Go.Proofs.YtafldkjdeompjaaGreatDoor

namespace Go.Proofs.YtafldkjdeompjaaGreatDoor
open Go.Sx Go.RowKit Go.Sx.Pt
section
variable {C : Cx} {sl : List (Nat × Value)} {own : List Asn} {dst : Option Nat} {ty : TypeId} {pos : String} {aft : Array Edge} {g : Option (Nat × Bool)}
def slFrom (sz : Nat) (v : Value) (k : Nat) : Value := match v with
  | .slice a n c => .slice (if c = k then a else a.map (·.add (k * sz))) (n - k) (c - k)
  | v => v
def CapOk (C : Cx) (own : List Asn) (v : Value) (n : Nat) : Prop := ∀ w, HW C own w → ∃ ao c, v = .slice ao n c ∧ n ≤ c
theorem CapOk.big {l : List Asn} {v : Value} {E : TypeId} {sz n : Nat} {cs : List Value} (j i : Nat) (hj : own[j]? = some (bigA l)) (hi : l[i]? = some (row v E sz n cs)) : CapOk C own v n := fun w hw => by
  obtain ⟨_, Fs, hh, _⟩ := hw
  obtain ⟨Gs, gh, _⟩ := hh.at_ j _ hj
  obtain ⟨hown, _⟩ := gh.at_ i _ hi
  rcases hown.2 with ⟨rfl, rfl⟩ | ⟨gb, cp, cur, rfl, _, _, hnc, _⟩
  · exact ⟨none, 0, rfl, Nat.le_refl _⟩
  · exact ⟨_, cp, rfl, hnc⟩
theorem Yl.sliceFrom (k : Nat) {x h : Operand} {t E : TypeId} {sz n : Nat} {v : Value} (hc : CapOk C own v n) (ht : SlT C.P t E sz) (hx : opv ⟨sl, own⟩ x = some v) (hh : opv ⟨sl, own⟩ h = some (.int .i64 (k : Int))) (hk : k ≤ n) :
    Yl C ⟨sl, own⟩ ⟨dst, .slice t x (some h) none none, ty, pos, aft, g⟩ (slFrom sz v k) :=
  fun a w hs => by
    obtain ⟨inf, hi1, hi2⟩ := ht.inf
    obtain ⟨ao, c, rfl, hnc⟩ := hc w hs.world
    have h1 : (0 : Int) ≤ (k : Int) ∧ (k : Int) ≤ (n : Int) := by omega
    simp only [execOp, opv_eval hs hx, Option.map_none, Option.map_some, opv_eval hs hh]
    simp [Instr.sliceAt, Instr.slice, Instr.sliceBounds, Instr.sliceBound, asIntOf, run_underlying ht.1, h1.1, h1.2, sizeOf, typeInfo, hi1, slFrom, hi2, hk]
theorem RdS.from {sz n : Nat} {v : Value} {cs : List Value} {k : Nat} (hr : RdS C own v sz n cs) (hc : CapOk C own v n) (hk : k ≤ n) : RdS C own (slFrom sz v k) sz (n - k) (cs.drop (k * sz)) := fun w hw => by
  obtain ⟨oa, cap, rfl, h1, h2, h3, h4⟩ := hr w hw
  obtain ⟨ao, c, e, hnc⟩ := hc w hw
  cases e
  refine ⟨_, _, rfl, by omega, by rw [List.length_drop, h2, ← Nat.sub_mul], fun h5 h6 => ?_, fun a j u ha hj => ?_⟩
  · have := h3 (by omega) h6
    split
    · exact this
    · simpa using this
  · by_cases e : cap = k
    · have : n - k = 0 := by omega
      have hl : (cs.drop (k * sz)).length = 0 := by rw [List.length_drop, h2, ← Nat.sub_mul, this, Nat.zero_mul]
      rw [List.eq_nil_of_length_eq_zero hl] at hj
      cases hj
    · rw [if_neg e] at ha
      cases oa with
      | none => cases ha
      | some a0 =>
        simp only [Option.map_some, Option.some.injEq] at ha
        subst ha
        rw [List.getElem?_drop] at hj
        have := h4 a0 (k * sz + j) u rfl hj
        refine ⟨trivial, ?_⟩
        rw [Addr.add_add]; exact this.2
/-- a row of its own, or nothing -/
def rowX (E : TypeId) (b : Bool) (v : Value) (ys : List Int) : Asn := if b = true then bigA [] else row v E 1 ys.length (ys.map (Value.int .i64))
theorem RdS.rowX {E : TypeId} {b : Bool} {v : Value} {ys : List Int} (i : Nat) (hi : own[i]? = some (rowX E b v ys)) (h : b = true → RdS C own v 1 ys.length (ys.map (Value.int .i64))) : RdS C own v 1 ys.length (ys.map (Value.int .i64)) := by
  cases b with
  | true => exact h rfl
  | false => exact RdS.own (E := E) i hi
theorem Rd.at0 {v : Value} {sz n : Nat} {cs : List Value} {w : World} (h : Rd (fun b => ¬ C.S b) C.W0 v sz n cs) (hw : HW C own w) : Rd (fun b => ¬ (fun _ => False) b) w v sz n cs := Rd.keep h hw.frame (fun _ _ _ => id)
theorem AK.ghostE {K : Act → World → Prop} (h : AK C ⟨sl, own ++ [bigA []]⟩ K) : AK C ⟨sl, own⟩ K := fun a w hs => h a w ⟨hs.size, hs.defers, hs.slot, hs.world.ghostBig [] (fun i A h => by simp at h)⟩
end
set_option maxHeartbeats 1000000 in
theorem s_row (w : World) (a b : Dfa) (aF aN bF bN : Value) (ra rb : List Value) (haF : Rd (fun b => ¬ (fun _ => False) b) w aF 1 a.fin.length (a.fin.map Value.bool)) (hbF : Rd (fun b => ¬ (fun _ => False) b) w bF 1 b.fin.length (b.fin.map Value.bool)) (haNr : Rd (fun b => ¬ (fun _ => False) b) w aN 1 a.nx.length ra) (hbNr : Rd (fun b => ¬ (fun _ => False) b) w bN 1 b.nx.length rb) (haNi : ∀ i, i < a.nx.length → RdL (fun _ => False) (Value.int .i64) w (ra.getD i undef) (a.nx.getD i [])) (hbNi : ∀ i, i < b.nx.length → RdL (fun _ => False) (Value.int .i64) w (rb.getD i undef) (b.nx.getD i [])) (hra : ra.length = a.nx.length) (hrb0 : rb.length = b.nx.length) (ha : VD a) (hb : VD b) (s : Int) (hs : 0 ≤ s ∧ s < a.fin.length + b.fin.length) : CallS Tryz.prog 33 [.agg #[.int .i64 a.L, .int .i64 a.s, aF, aN], .agg #[.int .i64 b.L, .int .i64 b.s, bF, bN], .int .i64 s] w (fun r o => ∃ nv, r = .tuple #[.bool (fB a b s.toNat), nv] ∧ (s < a.fin.length → nv = ra.getD s.toNat undef) ∧ o = [rowX 3 (decide (s < a.fin.length)) nv ((bothD a b).nx.getD s.toNat [])]) := by
 have hax := ha.nx
 have hbx := hb.nx
 have hna := ha.n
 have hnb := hb.n
 have hbL := hb.L
 have hs1 := hs.1
 have hs2 := hs.2
 refine spec_of Tryz.func33 rfl (leb rfl) ?_
 refine .sr fun _ hK1 => ?_
 refine AK.box_ (E := 25) (cs := [.int .i64 a.L, .int .i64 a.s, aF, aN]) rfl rfl rfl trivial rfl (fun bx3 => ?_)
 refine AK.box_ (E := 25) (cs := [.int .i64 b.L, .int .i64 b.s, bF, bN]) rfl rfl rfl trivial rfl (fun bx4 => ?_)
 refine .as rfl (.as rfl (.nt hK1 ?_))
 refine .seq fun _ hK2 => ?_
 refine .sr fun _ hK3 => ?_
 refine .mv rfl ?_
 refine .v (.fieldAddr fd25_2 rfl) ?_
 refine .v (.loadBox on22 rfl bsp rfl) ?_
 refine .v (.lenR sl22 rfl (by first | exact rdp | exact .arg (haNi _ (by omega)) | exact .arg (hbNi _ (by omega)))) ?_
 refine .v (.lss rfl rfl) ?_
 refine .nt hK3 ?_
 refine AK.condD rfl (fun hc0 => ?_) (fun hc0 => ?_)
 ·refine .seq fun _ hK4 => ?_
  refine AK.quiet mixed krf ?_
  refine .v (.fieldAddr fd25_2 rfl) ?_
  refine .v (.loadBox on22 rfl bsp rfl) ?_
  refine .mv rfl ?_
  first | refine .v (.iN sl22 rfl rfl (hr := (by first | exact rdp | exact .arg (haNi _ (by omega)) | exact .arg (hbNi _ (by omega))))) ?_ | refine .v (.iK sl22 rfl rfl (hr := (by first | exact rdp | exact .arg (haNi _ (by omega)) | exact .arg (hbNi _ (by omega))))) ?_
  refine .v (.loadB on4 rfl (by first | exact rdp | exact .arg (haNi _ (by omega)) | exact .arg (hbNi _ (by omega))) (by omega)) ?_
  refine .v (.fieldAddr fd25_3 rfl) ?_
  refine .v (.loadBox on23 rfl bsp rfl) ?_
  refine .mv rfl ?_
  first | refine .v (.iN sl23 rfl rfl (hr := (by first | exact rdp | exact .arg (haNi _ (by omega)) | exact .arg (hbNi _ (by omega))))) ?_ | refine .v (.iK sl23 rfl rfl (hr := (by first | exact rdp | exact .arg (haNi _ (by omega)) | exact .arg (hbNi _ (by omega))))) ?_
  refine .v (.loadV on28 rfl (by first | exact rdp | exact .arg (haNi _ (by omega)) | exact .arg (hbNi _ (by omega))) (by omega)) ?_
  refine .as rfl (.as rfl ?_)
  refine QK.nil (QK.fin ?_)
  refine AK.then_ (hK4 _ ?_)
  refine .ret (.then_ret ?_)
  refine AK.ghostE ?_
  refine AK.ret2 rfl rfl rfl (fun w hw => ⟨_, _, ?_, rfl, Ret.of (hw.pick [2] (by decide) rfl rfl)⟩)
  refine ⟨_, ?_, fun _ => rfl, ?_⟩
  ·have e : fB a b s.toNat = a.fin.getD s.toNat false := by unfold fB finQ; rw [if_pos (by omega), Int.toNat_natCast]
   rw [e]
  ·unfold rowX; rw [if_pos (decide_eq_true hc0)]; rfl
 ·have hrb := hb.row (s.toNat - a.fin.length) (by omega)
  have ei : (s - (a.fin.length : Int)).toNat = s.toNat - a.fin.length := by omega
  refine .skip ?_
  refine AK.then_ (hK2 _ ?_)
  refine .sr fun _ hK5 => ?_
  refine .v (.fieldAddr fd25_0 rfl) ?_
  refine AK.val (.int .i64 (((b.nx.getD (s.toNat - a.fin.length) []).length : Nat) : Int)) (Yl.valE (Yl.loadBox on3 rfl bsp rfl) (congrArg (Value.int .i64) hrb.symm)) trivial rfl ?_
  refine AK.make1 (n := (b.nx.getD (s.toNat - a.fin.length) []).length) sl28 el3 rfl rfl rfl (by omega) (by omega) trivial rfl (fun mv => ?_)
  refine .as rfl (.nt hK5 ?_)
  refine .seq fun _ hK6 => ?_
  refine .sr fun _ hK7 => ?_
  refine .v (.fieldAddr fd25_3 rfl) ?_
  refine .v (.loadBox on23 rfl bsp rfl) ?_
  refine .mv rfl ?_
  refine .v (.fieldAddr fd25_2 rfl) ?_
  refine .v (.loadBox on22 rfl bsp rfl) ?_
  refine .v (.lenR sl22 rfl (by first | exact rdp | exact .arg (haNi _ (by omega)) | exact .arg (hbNi _ (by omega)))) ?_
  refine .v (.sub rfl rfl (by omega)) ?_
  first | refine .v (.iN sl23 rfl rfl (hr := (by first | exact rdp | exact .arg (haNi _ (by omega)) | exact .arg (hbNi _ (by omega))))) ?_ | refine .v (.iK sl23 rfl rfl (hr := (by first | exact rdp | exact .arg (haNi _ (by omega)) | exact .arg (hbNi _ (by omega))))) ?_
  refine AK.val (rb.getD (s.toNat - a.fin.length) undef) (Yl.valE (Yl.loadV on28 rfl rdp (by omega)) (by rw [ei])) trivial rfl ?_
  refine .v (.lenR sl28 rfl (by first | exact rdp | exact .arg (haNi _ (by omega)) | exact .arg (hbNi _ (by omega)))) ?_
  refine .mv rfl (.nt hK7 (.block ?_))
  refine AK.loopK (X := Nat) [(2, _), (3, _), (4, _), (8, _), (37, _), (38, _)] (fun k => [(39, .int .i64 (k : Int))]) (fun k => [box bx3 25 4 [.int .i64 a.L, .int .i64 a.s, aF, aN], box bx4 25 4 [.int .i64 b.L, .int .i64 b.s, bF, bN], row mv 3 1 (b.nx.getD (s.toNat - a.fin.length) []).length ((((b.nx.getD (s.toNat - a.fin.length) []).take k).map (fun t => (a.fin.length : Int) + t) ++ List.replicate ((b.nx.getD (s.toNat - a.fin.length) []).length - k) 0).map (Value.int .i64))]) (fun k => k ≤ (b.nx.getD (s.toNat - a.fin.length) []).length) (fun k => (b.nx.getD (s.toNat - a.fin.length) []).length - k) (0) slr ?_ ?_ ?_ ?_
  ·exact Nat.zero_le _
  ·exact slr
  ·exact fun w hw => by simpa using hw
  ·intro k hg0 _ hK8
   refine .sr fun _ hK9 => ?_
   refine .v (.lss rfl rfl) ?_
   refine .nt hK9 ?_
   refine .seq fun _ hK10 => ?_
   refine AK.condD rfl (fun hc1 => ?_) (fun hc1 => ?_)
   ·have htb := hb.to (s.toNat - a.fin.length) k (by omega) (by omega)
    refine .skip ?_
    refine AK.then_ (hK10 _ ?_)
    refine .seq fun _ hK11 => ?_
    refine .block ?_
    refine .sr fun _ hK12 => ?_
    refine .mv rfl ?_
    first | refine .v (.iN sl28 rfl rfl (hr := (by first | exact rdp | exact .arg (haNi _ (by omega)) | exact .arg (hbNi _ (by omega))))) ?_ | refine .v (.iK sl28 rfl rfl (hr := (by first | exact rdp | exact .arg (haNi _ (by omega)) | exact .arg (hbNi _ (by omega))))) ?_
    refine .v (.loadI on3 rfl (by first | exact rdp | exact .arg (haNi _ (by omega)) | exact .arg (hbNi _ (by omega))) (by omega)) ?_
    refine .as rfl (.as rfl (.nt hK12 ?_))
    refine AK.region ?_
    refine .mv rfl (.mv rfl ?_)
    refine .v (.fieldAddr fd25_2 rfl) ?_
    refine .v (.loadBox on22 rfl bsp rfl) ?_
    refine .v (.lenR sl22 rfl (by first | exact rdp | exact .arg (haNi _ (by omega)) | exact .arg (hbNi _ (by omega)))) ?_
    refine .mv rfl ?_
    refine .v (.add rfl rfl (by omega)) ?_
    first | refine .v (.iN sl28 rfl rfl (hr := (by first | exact rdp | exact .arg (haNi _ (by omega)) | exact .arg (hbNi _ (by omega))))) ?_ | refine .v (.iK sl28 rfl rfl (hr := (by first | exact rdp | exact .arg (haNi _ (by omega)) | exact .arg (hbNi _ (by omega))))) ?_
    refine AK.store1e 2 rfl sz3 rfl rfl rfl rfl (by omega) (cs' := ((((b.nx.getD (s.toNat - a.fin.length) []).take (k + 1)).map (fun t => (a.fin.length : Int) + t) ++ List.replicate ((b.nx.getD (s.toNat - a.fin.length) []).length - (k + 1)) 0).map (Value.int .i64))) (by rw [take_snocD 0 (b.nx.getD (s.toNat - a.fin.length) []) k (by omega), List.map_append (f := (fun t => (a.fin.length : Int) + t))]; exact fill_set (Value.int .i64) ((b.nx.getD (s.toNat - a.fin.length) []).take k |>.map (fun t => (a.fin.length : Int) + t)) 0 ((a.fin.length : Int) + (b.nx.getD (s.toNat - a.fin.length) []).getD k 0) (b.nx.getD (s.toNat - a.fin.length) []).length k (by rw [List.length_map, List.length_take]; omega) (by omega)) trivial ?_
    refine .nil (.block_normal ?_)
    refine AK.then_ (hK11 _ ?_)
    refine AK.region ?_
    refine .v (.add rfl rfl (by omega)) ?_
    refine .mv rfl (.nil ?_)
    refine AK.then_ (hK8 _ _ (k + 1) (by omega) (by omega) (slr) (fun w hw => hw))
   ·refine .exit (.then_exit (.then_exit (.block_exit ?_)))
    refine AK.then_ (hK6 _ ?_)
    refine .sr fun _ hK13 => ?_
    refine .v (.fieldAddr fd25_2 rfl) ?_
    refine .v (.loadBox on22 rfl bsp rfl) ?_
    refine .mv rfl ?_
    refine .v (.fieldAddr fd25_2 rfl) ?_
    refine .v (.loadBox on22 rfl bsp rfl) ?_
    refine .v (.lenR sl22 rfl (by first | exact rdp | exact .arg (haNi _ (by omega)) | exact .arg (hbNi _ (by omega)))) ?_
    refine .v (.sub rfl rfl (by omega)) ?_
    first | refine .v (.iN sl22 rfl rfl (hr := (by first | exact rdp | exact .arg (haNi _ (by omega)) | exact .arg (hbNi _ (by omega))))) ?_ | refine .v (.iK sl22 rfl rfl (hr := (by first | exact rdp | exact .arg (haNi _ (by omega)) | exact .arg (hbNi _ (by omega))))) ?_
    refine .v (.loadB on4 rfl (by first | exact rdp | exact .arg (haNi _ (by omega)) | exact .arg (hbNi _ (by omega))) (by omega)) ?_
    refine .mv rfl (.as rfl (.as rfl (.nt hK13 (.ret ?_))))
    refine AK.ret2 rfl rfl rfl (fun w hw => ⟨_, _, ?_, rfl, Ret.of (hw.pick [2] (by decide) rfl rfl)⟩)
    have e : k = (b.nx.getD (s.toNat - a.fin.length) []).length := by omega
    refine ⟨mv, ?_, fun h => absurd h hc0, ?_⟩
    ·have e2 : fB a b s.toNat = b.fin.getD (s.toNat - a.fin.length) false := by unfold fB finQ; rw [if_neg (by omega), show (((s.toNat : Nat) : Int) - (a.fin.length : Int)).toNat = s.toNat - a.fin.length by omega]
     rw [e2, ← ei]
    ·unfold rowX
     have e3 : ((bothD a b).nx.getD s.toNat []) = (b.nx.getD (s.toNat - a.fin.length) []).map (fun t => (a.fin.length : Int) + t) := by rw [← both_nr ha hb (show s.toNat - a.fin.length < b.fin.length by omega)]; congr 1; omega
     rw [if_neg (by rw [decide_eq_false hc0]; decide), e3, List.length_map, e, List.take_length, Nat.sub_self, List.replicate_zero, List.append_nil]
     rfl

end Go.Proofs.YtafldkjdeompjaaGreatDoor

namespace Go.Proofs.YtafldkjdeompjaaGreatDoor
open Go.Sx Go.RowKit Go.Sx.Pt
theorem RdS.from1 {C : Cx} {own : List Asn} {v : Value} {xs : List Int} {k : Nat} (hr : RdS C own v 1 xs.length (xs.map (Value.int .i64))) (hc : CapOk C own v xs.length) (hk : k ≤ xs.length) : RdS C own (slFrom 1 v k) 1 (xs.drop k).length ((xs.drop k).map (Value.int .i64)) := by
  have h := RdS.from hr hc hk
  rw [List.length_drop, List.map_drop]
  simpa using h
theorem getD_drop1 {xs : List Int} {m : Nat} : (xs.drop 1).getD m 0 = xs.getD (m + 1) 0 := by
  simp [List.getD_eq_getElem?_getD, Nat.add_comm]
set_option maxHeartbeats 2000000 in
theorem s_bcheck (w : World) (u v : Value) (a b : Dfa) (hu : RdD (fun _ => False) w u a) (hv : RdD (fun _ => False) w v b) (vp : Value) (p : List Int) (hp : RdI w vp p) : CallS Tryz.prog 10 [u, v, vp] w (fun r o => ∃ bb, r = .bool bb ∧ (bb = true ↔ ChkP a b p) ∧ o = []) := by
 have hu0 := hu
 have hv0 := hv
 obtain ⟨aF, aN, rfl, haF, haN⟩ := hu
 obtain ⟨bF, bN, rfl, hbF, hbN⟩ := hv
 obtain ⟨ra, hra, haNr, haNi⟩ := haN
 obtain ⟨rb, hrb, hbNr, hbNi⟩ := hbN
 unfold RdL at haF hbF
 have m1 := haF.le
 have m2 := hbF.le
 have hp0 := hp
 unfold RdI at hp
 have m3 := Rd.le hp
 refine spec_of Tryz.func10 rfl (leb rfl) ?_
 refine .sr fun _ hK1 => ?_
 refine AK.box_ (E := 25) (cs := [.int .i64 a.L, .int .i64 a.s, aF, aN]) rfl rfl rfl trivial rfl (fun bx3 => ?_)
 refine AK.box_ (E := 25) (cs := [.int .i64 b.L, .int .i64 b.s, bF, bN]) rfl rfl rfl trivial rfl (fun bx4 => ?_)
 refine .as rfl (.nt hK1 ?_)
 refine .seq fun _ hK2 => ?_
 refine .sr fun _ hK3 => ?_
 refine .v (.loadBoxG ag25 rfl bsp rfl rfl) ?_
 refine .v (.loadBoxG ag25 rfl bsp rfl rfl) ?_
 refine AK.call co27 rfl (fun w hw => s_bvalid w _ _ a b (hu0.at hw) (hv0.at hw)) trivial rfl ?_
 rintro r o ⟨rfl, rfl⟩
 refine .v (.neq rfl rfl) ?_
 refine .mv rfl ?_
 refine AK.splitB (g := 21) rfl (fun hg_1_4 => ?_) (fun hg_1_4 => ?_)
 ·have hg_1_4' := hg_1_4
  try simp only [bs] at hg_1_4'
  refine AK.pass rfl rfl (hg_1_4) rfl ?_
  refine AK.pass rfl rfl (hg_1_4) rfl ?_
  refine AK.pass rfl rfl (hg_1_4) rfl ?_
  refine AK.pass rfl rfl (hg_1_4) rfl ?_
  refine AK.pass rfl rfl (hg_1_4) rfl ?_
  refine AK.pass rfl rfl (hg_1_4) rfl ?_
  refine AK.pass rfl rfl (hg_1_4) rfl ?_
  refine AK.pass rfl rfl (hg_1_4) rfl ?_
  refine AK.pass rfl rfl (hg_1_4) rfl ?_
  refine AK.pass rfl rfl (hg_1_4) rfl ?_
  refine .v (.pickT rfl (hg_1_4) rfl) ?_
  refine .mv rfl ?_
  refine AK.pass rfl rfl rfl rfl ?_
  refine AK.pass rfl rfl rfl rfl ?_
  refine AK.pass rfl rfl rfl rfl ?_
  refine .v (.pickT rfl (rfl) rfl) ?_
  refine .nt hK3 ?_
  refine AK.cond_t rfl (rfl) ?_
  refine .sr fun _ hK4 => ?_
  refine .as rfl (.nt hK4 (.ret (.then_ret ?_)))
  refine AK.ret1 rfl rfl (fun w hw => ⟨_, _, ?_, rfl, Ret.of (hw.pick [] (by decide) rfl rfl)⟩)
  refine ⟨_, rfl, ⟨fun h => (by cases h), fun h => ?_⟩, rfl⟩
  have h1 := h.ok
  have h2 := h.len
  have h3 := h.valid
  first | omega | (simp_all; done)
 ·have hg_1_4' := hg_1_4
  try simp only [bs] at hg_1_4'
  refine AK.val _ (Yl.move rfl) ⟨_, rfl, gB hg_1_4⟩ rfl ?_
  refine AK.val _ (Yl.lenR sl28 rfl (by first | exact rdp | exact .big 3 x rfl (matL_get hrl (by omega)))) ⟨_, rfl, gB hg_1_4⟩ rfl ?_
  refine AK.val _ (Yl.fieldAddr fd25_2 rfl) ⟨_, rfl, gB hg_1_4⟩ rfl ?_
  refine AK.val _ (Yl.loadBox on22 rfl bsp rfl) ⟨_, rfl, gB hg_1_4⟩ rfl ?_
  refine AK.val _ (Yl.lenR sl22 rfl (by first | exact rdp | exact .big 3 x rfl (matL_get hrl (by omega)))) ⟨_, rfl, gB hg_1_4⟩ rfl ?_
  refine AK.val _ (Yl.fieldAddr fd25_2 rfl) ⟨_, rfl, gB hg_1_4⟩ rfl ?_
  refine AK.val _ (Yl.loadBox on22 rfl bsp rfl) ⟨_, rfl, gB hg_1_4⟩ rfl ?_
  refine AK.val _ (Yl.lenR sl22 rfl (by first | exact rdp | exact .big 3 x rfl (matL_get hrl (by omega)))) ⟨_, rfl, gB hg_1_4⟩ rfl ?_
  refine AK.val _ (Yl.add rfl rfl (by have hE : pairE a b = 0 := (by omega); obtain ⟨ha, hb, hL⟩ := pairE_zero hE; have h1 := ha.n; have h2 := hb.n; omega)) ⟨_, rfl, gB hg_1_4⟩ rfl ?_
  refine AK.val _ (Yl.neq rfl rfl) ⟨_, rfl, gB hg_1_4⟩ rfl ?_
  refine .v (.pickF rfl (hg_1_4) rfl) ?_
  refine .mv rfl ?_
  refine AK.splitB (g := 33) rfl (fun hg_1_16 => ?_) (fun hg_1_16 => ?_)
  ·have hg_1_16' := hg_1_16
   try simp only [bs] at hg_1_16'
   refine AK.pass rfl rfl (hg_1_16) rfl ?_
   refine AK.pass rfl rfl (hg_1_16) rfl ?_
   refine AK.pass rfl rfl (hg_1_16) rfl ?_
   refine .v (.pickT rfl (hg_1_16) rfl) ?_
   refine .nt hK3 ?_
   refine AK.cond_t rfl (rfl) ?_
   refine .sr fun _ hK5 => ?_
   refine .as rfl (.nt hK5 (.ret (.then_ret ?_)))
   refine AK.ret1 rfl rfl (fun w hw => ⟨_, _, ?_, rfl, Ret.of (hw.pick [] (by decide) rfl rfl)⟩)
   refine ⟨_, rfl, ⟨fun h => (by cases h), fun h => ?_⟩, rfl⟩
   have h1 := h.ok
   have h2 := h.len
   have h3 := h.valid
   first | omega | (simp_all; done)
  ·have hg_1_16' := hg_1_16
   try simp only [bs] at hg_1_16'
   refine AK.val _ (Yl.move rfl) ⟨_, rfl, gB hg_1_16⟩ rfl ?_
   refine AK.call co31 rfl (fun w hw => q_valid w vp p (RdI.at hp0 hw)) ⟨_, rfl, gB hg_1_16⟩ rfl ?_
   rintro r o ⟨rfl, rfl⟩
   refine AK.val _ (Yl.not rfl) ⟨_, rfl, gB hg_1_16⟩ rfl ?_
   refine .v (.pickF rfl (hg_1_16) rfl) ?_
   refine .nt hK3 ?_
   refine AK.condB rfl (fun hc0 => ?_) (fun hc0 => ?_)
   ·refine .sr fun _ hK6 => ?_
    refine .as rfl (.nt hK6 (.ret (.then_ret ?_)))
    refine AK.ret1 rfl rfl (fun w hw => ⟨_, _, ?_, rfl, Ret.of (hw.pick [] (by decide) rfl rfl)⟩)
    refine ⟨_, rfl, ⟨fun h => (by cases h), fun h => ?_⟩, rfl⟩
    have h1 := h.ok
    have h2 := h.len
    have h3 := h.valid
    first | omega | (simp_all; done)
   ·have hE : pairE a b = 0 := by omega
    obtain ⟨ha, hb, hL⟩ := pairE_zero hE
    have hna := ha.n
    have hnb := hb.n
    have has := ha.s
    have hbs := hb.s
    have haL := ha.L
    have hax := ha.nx
    have hbx := hb.nx
    have hpl : p.length = (a.fin.length + b.fin.length) := by omega
    have hvp : ValidP p := by simpa using hc0
    have hcn : (classB p).length ≤ p.length := by have h1 := classB_len hvp; have h2 := valid_cnt hvp; omega
    refine .skip ?_
    refine AK.then_ (hK2 _ ?_)
    refine .sr fun _ hK7 => ?_
    refine .v (.fieldAddr fd25_2 rfl) ?_
    refine .v (.loadBox on22 rfl bsp rfl) ?_
    refine .v (.lenR sl22 rfl (by first | exact rdp | exact .big 3 x rfl (matL_get hrl (by omega)))) ?_
    refine .as rfl (.nt hK7 ?_)
    refine .seq fun _ hK8 => ?_
    refine .seq fun _ hK9 => ?_
    refine AK.quiet mixed krf ?_
    refine .mv rfl ?_
    refine .v (.fieldAddr fd25_1 rfl) ?_
    refine .v (.loadBox on3 rfl bsp rfl) ?_
    first | refine .v (.iN sl28 rfl rfl (hr := (by first | exact rdp | exact .big 3 x rfl (matL_get hrl (by omega))))) ?_ | refine .v (.iK sl28 rfl rfl (hr := (by first | exact rdp | exact .big 3 x rfl (matL_get hrl (by omega))))) ?_
    refine .v (.loadI on3 rfl (by first | exact rdp | exact .big 3 x rfl (matL_get hrl (by omega))) (by omega)) ?_
    refine .mv rfl (.mv rfl ?_)
    refine .v (.fieldAddr fd25_1 rfl) ?_
    refine .v (.loadBox on3 rfl bsp rfl) ?_
    refine .v (.add rfl rfl (by omega)) ?_
    first | refine .v (.iN sl28 rfl rfl (hr := (by first | exact rdp | exact .big 3 x rfl (matL_get hrl (by omega))))) ?_ | refine .v (.iK sl28 rfl rfl (hr := (by first | exact rdp | exact .big 3 x rfl (matL_get hrl (by omega))))) ?_
    refine .v (.loadI on3 rfl (by first | exact rdp | exact .big 3 x rfl (matL_get hrl (by omega))) (by omega)) ?_
    refine .v (.neq rfl rfl) ?_
    refine QK.nil (QK.fin ?_)
    refine AK.then_ (hK9 _ ?_)
    refine AK.condNe rfl (fun hc1 => ?_) (fun hc1 => ?_)
    ·refine .sr fun _ hK10 => ?_
     refine .as rfl (.nt hK10 (.ret (.then_ret ?_)))
     refine AK.ret1 rfl rfl (fun w hw => ⟨_, _, ?_, rfl, Ret.of (hw.pick [] (by decide) rfl rfl)⟩)
     refine ⟨_, rfl, ⟨fun h => (by cases h), fun h => ?_⟩, rfl⟩
     exact absurd h.start hc1
    ·have hst : p.getD a.s.toNat 0 = p.getD ((a.fin.length : Int) + b.s).toNat 0 := hc1
     refine .skip ?_
     refine AK.then_ (hK8 _ ?_)
     refine .seq fun _ hK11 => ?_
     refine .sr fun _ hK12 => ?_
     refine .mv rfl ?_
     refine AK.call co32 rfl (fun w hw => q_classes w vp p (RdI.at hp0 hw)) trivial rfl ?_
     rintro cv o ⟨rs, hrl, rfl⟩
     refine .v (.lenR sl23 rfl (by first | exact rdp | exact .big 3 x rfl (matL_get hrl (by omega)))) ?_
     refine .mv rfl (.nt hK12 (.block ?_))
     refine AK.loopK (X := Nat) [(2, _), (3, _), (4, _), (55, _), (56, _)] (fun x => [(57, .int .i64 (x : Int))]) (fun x => [box bx3 25 4 [.int .i64 a.L, .int .i64 a.s, aF, aN], box bx4 25 4 [.int .i64 b.L, .int .i64 b.s, bF, bN], row cv 28 1 (classB p).length rs, bigA (matL 3 rs (classB p))]) (fun x => x ≤ (classB p).length ∧ ∀ c m, c < x → m < ((classB p).getD c []).length → Pk a b p c m) (fun x => (classB p).length - x) (0) slr ?_ ?_ ?_ ?_
     ·exact ⟨Nat.zero_le _, fun c m hc => by omega⟩
     ·exact slr
     ·exact fun w hw => hw
     ·intro x hg0 _ hK13
      refine .sr fun _ hK14 => ?_
      refine .v (.lss rfl rfl) ?_
      refine .nt hK14 ?_
      refine .seq fun _ hK15 => ?_
      refine AK.condD rfl (fun hc2 => ?_) (fun hc2 => ?_)
      ·have hcp := class_pos hvp (c := x) (by omega)
       have hc0f := cl_at hvp (a := x) (by omega) (m := 0) hcp
       have hdl : (((classB p).getD x []).drop 1).length = ((classB p).getD x []).length - 1 := List.length_drop
       have hr1 := both_row ha hb hL (show (((classB p).getD x []).getD 0 0).toNat < (a.fin.length + b.fin.length) by omega)
       have hcll := cl_len hvp (a := x) (by omega)
       refine .skip ?_
       refine AK.then_ (hK15 _ ?_)
       refine .seq fun _ hK16 => ?_
       refine .block ?_
       refine .sr fun _ hK17 => ?_
       first | refine .v (.iN sl23 rfl rfl (hr := (by first | exact rdp | exact .big 3 x rfl (matL_get hrl (by omega))))) ?_ | refine .v (.iK sl23 rfl rfl (hr := (by first | exact rdp | exact .big 3 x rfl (matL_get hrl (by omega))))) ?_
       refine .v (.loadV on28 rfl (by first | exact rdp | exact .big 3 x rfl (matL_get hrl (by omega))) (by omega)) ?_
       refine .as rfl (.nt hK17 ?_)
       refine .seq fun _ hK18 => ?_
       try (conv => enter [2, 2]; simp only [nrm])
       refine AK.held 11 mixed ?_
       refine HeldK.first 0 (fuel := 10) (listed' := (lb 11 1)) _ rfl krf krf rfl (Yl.loadBoxG ag25 rfl bsp rfl rfl) trivial rfl ?_
       refine HeldK.first 1 (fuel := 9) (listed' := (lb 11 3)) _ rfl krf krf rfl (Yl.loadBoxG ag25 rfl bsp rfl rfl) trivial rfl ?_
       refine HeldK.first 2 (fuel := 8) (listed' := (lb 11 7)) _ rfl krf krf rfl (Yl.move rfl) trivial rfl ?_
       refine HeldK.first 3 (fuel := 7) (listed' := (lb 11 15)) _ rfl krf krf rfl (Yl.idxN (k := 0) sl28 rfl rfl (by first | exact rdp | exact .big 3 x rfl (matL_get hrl (by omega))) (by decide) (by omega)) trivial rfl ?_
       refine HeldK.first 4 (fuel := 6) (listed' := (lb 11 31)) _ rfl krf krf rfl (Yl.loadI on3 rfl (by first | exact rdp | exact .big 3 x rfl (matL_get hrl (by omega))) (by omega)) trivial rfl ?_
       refine HeldK.one 5 (fuel := 5) (listed' := (lb 11 63)) krf rfl krf ?_
       refine AK.call co33 rfl (fun w hw => s_row w a b aF aN bF bN ra rb (Rd.at0 haF hw) (Rd.at0 hbF hw) (Rd.at0 haNr hw) (Rd.at0 hbNr hw) (fun i hi => (haNi i hi).at hw) (fun i hi => (hbNi i hi).at hw) hra hrb ha hb (((classB p).getD x []).getD 0 0) (by omega)) trivial rfl ?_
       rintro r o ⟨nv1, rfl, hn1, rfl⟩
       have hA1 : decide ((((classB p).getD x []).getD 0 0) < a.fin.length) = true → Rd (fun b => ¬ (fun _ => False) b) w nv1 1 ((bothD a b).nx.getD (((classB p).getD x []).getD 0 0).toNat []).length (((bothD a b).nx.getD (((classB p).getD x []).getD 0 0).toNat []).map (Value.int .i64)) := fun h => by
        have h1 := of_decide_eq_true h
        rw [hn1 h1, both_nl ha (show (((classB p).getD x []).getD 0 0).toNat < a.fin.length by omega)]
        exact haNi _ (by omega)
       refine .nil ?_
       try (conv => enter [2, 2]; simp only [nrm])
       refine HeldK.back Go.Sx.hle ?_
       refine HeldK.first 6 (fuel := 4) (listed' := (lb 11 127)) _ rfl krf krf rfl (Yl.move rfl) trivial rfl ?_
       refine HeldK.first 7 (fuel := 3) (listed' := (lb 11 255)) _ rfl krf krf rfl (Yl.extract rfl rfl) trivial rfl ?_
       refine HeldK.first 8 (fuel := 2) (listed' := (lb 11 511)) _ rfl krf krf rfl (Yl.extract rfl rfl) trivial rfl ?_
       refine HeldK.first 9 (fuel := 1) (listed' := (lb 11 1023)) _ rfl krf krf rfl (Yl.assign rfl) trivial rfl ?_
       refine HeldK.first 10 (fuel := 0) (listed' := (lb 11 2047)) _ rfl krf krf rfl (Yl.assign rfl) trivial rfl ?_
       refine HeldK.done krf ?_
       refine AK.then_ (hK18 _ ?_)
       refine .sr fun _ hK19 => ?_
       refine .mv rfl ?_
       refine AK.val (slFrom 1 (rs.getD x undef) 1) (Yl.sliceFrom 1 (CapOk.big 3 x rfl (matL_get hrl (by omega))) sl28 rfl rfl (by omega)) trivial rfl ?_
       refine AK.val (.int .i64 (((((classB p).getD x []).drop 1).length : Nat) : Int)) (Yl.lenR sl28 rfl (RdS.from1 (.big 3 x rfl (matL_get hrl (by omega))) (CapOk.big 3 x rfl (matL_get hrl (by omega))) (by omega))) trivial rfl ?_
       refine .mv rfl (.nt hK19 (.block ?_))
       refine AK.loopK (X := Nat) [(2, _), (3, _), (4, _), (10, _), (11, _), (55, _), (56, _), (57, _), (71, _), (72, _)] (fun y => [(73, .int .i64 (y : Int))]) (fun y => [box bx3 25 4 [.int .i64 a.L, .int .i64 a.s, aF, aN], box bx4 25 4 [.int .i64 b.L, .int .i64 b.s, bF, bN], row cv 28 1 (classB p).length rs, bigA (matL 3 rs (classB p)), rowX 3 (decide ((((classB p).getD x []).getD 0 0) < a.fin.length)) nv1 ((bothD a b).nx.getD (((classB p).getD x []).getD 0 0).toNat [])]) (fun y => y ≤ (((classB p).getD x []).drop 1).length ∧ ∀ m, m < y → Pk a b p x (m + 1)) (fun y => (((classB p).getD x []).drop 1).length - y) (0) slr ?_ ?_ ?_ ?_
       ·exact ⟨Nat.zero_le _, fun m hm => by omega⟩
       ·exact slr
       ·exact fun w hw => hw
       ·intro y hg1 _ hK20
        refine .sr fun _ hK21 => ?_
        refine .v (.lss rfl rfl) ?_
        refine .nt hK21 ?_
        refine .seq fun _ hK22 => ?_
        refine AK.condD rfl (fun hc3 => ?_) (fun hc3 => ?_)
        ·have hcmf := cl_at hvp (a := x) (by omega) (m := y + 1) (by omega)
         have hr2 := both_row ha hb hL (show (((classB p).getD x []).getD (y + 1) 0).toNat < (a.fin.length + b.fin.length) by omega)
         refine .skip ?_
         refine AK.then_ (hK22 _ ?_)
         refine .seq fun _ hK23 => ?_
         refine .block ?_
         refine .sr fun _ hK24 => ?_
         refine .v (.iN sl28 rfl rfl (hr := (RdS.from1 (.big 3 x rfl (matL_get hrl (by omega))) (CapOk.big 3 x rfl (matL_get hrl (by omega))) (by omega)))) ?_
         refine AK.val (.int .i64 (((classB p).getD x []).getD (y + 1) 0)) (Yl.valE (Yl.loadI on3 rfl (RdS.from1 (.big 3 x rfl (matL_get hrl (by omega))) (CapOk.big 3 x rfl (matL_get hrl (by omega))) (by omega)) (by omega)) (congrArg (Value.int .i64) getD_drop1)) trivial rfl ?_
         refine .as rfl (.nt hK24 ?_)
         refine .sr fun _ hK25 => ?_
         refine .v (.loadBoxG ag25 rfl bsp rfl rfl) ?_
         refine .v (.loadBoxG ag25 rfl bsp rfl rfl) ?_
         refine .mv rfl ?_
         refine AK.call co33 rfl (fun w hw => s_row w a b aF aN bF bN ra rb (Rd.at0 haF hw) (Rd.at0 hbF hw) (Rd.at0 haNr hw) (Rd.at0 hbNr hw) (fun i hi => (haNi i hi).at hw) (fun i hi => (hbNi i hi).at hw) hra hrb ha hb (((classB p).getD x []).getD (y + 1) 0) (by omega)) trivial rfl ?_
         rintro r o ⟨nv2, rfl, hn2, rfl⟩
         have hA2 : decide ((((classB p).getD x []).getD (y + 1) 0) < a.fin.length) = true → Rd (fun b => ¬ (fun _ => False) b) w nv2 1 ((bothD a b).nx.getD (((classB p).getD x []).getD (y + 1) 0).toNat []).length (((bothD a b).nx.getD (((classB p).getD x []).getD (y + 1) 0).toNat []).map (Value.int .i64)) := fun h => by
          have h1 := of_decide_eq_true h
          rw [hn2 h1, both_nl ha (show (((classB p).getD x []).getD (y + 1) 0).toNat < a.fin.length by omega)]
          exact haNi _ (by omega)
         refine .mv rfl ?_
         refine .v (.extract rfl rfl) ?_
         refine .v (.extract rfl rfl) ?_
         refine .as rfl (.as rfl (.nt hK25 ?_))
         refine .seq fun _ hK26 => ?_
         refine .sr fun _ hK27 => ?_
         refine .mv rfl (.mv rfl ?_)
         refine .v (.neqB bo4 rfl rfl) ?_
         refine .nt hK27 ?_
         refine AK.cond rfl (fun hc4 => ?_) (fun hc4 => ?_)
         ·try simp only [bs] at hc4
          refine .sr fun _ hK28 => ?_
          refine .as rfl (.nt hK28 (.ret (.then_ret (.block_ret (.then_ret (.then_ret (.block_ret (.block_ret (.then_ret (.then_ret (.block_ret ?_)))))))))))
          refine .then_ret ?_
          refine AK.ret1 rfl rfl (fun w hw => ⟨_, _, ?_, rfl, Ret.of (hw.pick [] (by decide) rfl rfl)⟩)
          refine ⟨_, rfl, ⟨fun h => (by cases h), fun h => ?_⟩, rfl⟩
          have h2 := (chk_pk h (c := x) (m := y + 1) (by omega) (by omega)).1
          simp_all
         ·try simp only [bs] at hc4
          have hfe : fB a b (((classB p).getD x []).getD 0 0).toNat = fB a b (((classB p).getD x []).getD (y + 1) 0).toNat := by simpa using hc4
          refine .skip ?_
          refine AK.then_ (hK26 _ ?_)
          refine .sr fun _ hK29 => ?_
          refine .mv rfl ?_
          refine AK.val (.int .i64 ((((bothD a b).nx.getD (((classB p).getD x []).getD 0 0).toNat []).length : Nat) : Int)) (Yl.lenR sl28 rfl (RdS.rowX 4 rfl (fun h => .arg (hA1 h)))) trivial rfl ?_
          refine .mv rfl (.nt hK29 (.block ?_))
          refine AK.loopK (X := Nat × Unit) [(2, _), (3, _), (4, _), (10, _), (11, _), (15, _), (55, _), (56, _), (57, _), (71, _), (72, _), (73, _), (88, _)] (fun z => [(89, .int .i64 (z.1 : Int))]) (fun z => [box bx3 25 4 [.int .i64 a.L, .int .i64 a.s, aF, aN], box bx4 25 4 [.int .i64 b.L, .int .i64 b.s, bF, bN], row cv 28 1 (classB p).length rs, bigA (matL 3 rs (classB p)), rowX 3 (decide ((((classB p).getD x []).getD 0 0) < a.fin.length)) nv1 ((bothD a b).nx.getD (((classB p).getD x []).getD 0 0).toNat []), rowX 3 (decide ((((classB p).getD x []).getD (y + 1) 0) < a.fin.length)) nv2 ((bothD a b).nx.getD (((classB p).getD x []).getD (y + 1) 0).toNat [])]) (fun z => (z.1 : Int) ≤ a.L ∧ ∀ k : Nat, k < z.1 → p.getD (sB a b k (((classB p).getD x []).getD 0 0).toNat) 0 = p.getD (sB a b k (((classB p).getD x []).getD (y + 1) 0).toNat) 0) (fun z => a.L.toNat - z.1) ((0, ())) slr ?_ ?_ ?_ ?_
          ·exact ⟨by dsimp only; omega, fun k hk => by cases hk⟩
          ·exact slr
          ·exact fun w hw => hw
          ·intro z hg2 _ hK30
           refine .sr fun _ hK31 => ?_
           refine .v (.lss rfl rfl) ?_
           refine .nt hK31 ?_
           refine .seq fun _ hK32 => ?_
           refine AK.condD rfl (fun hc5 => ?_) (fun hc5 => ?_)
           ·have hzL : ((z.1 : Nat) : Int) < a.L := by omega
            have hs1 := sB_lt ha hb hL (show (((classB p).getD x []).getD 0 0).toNat < (a.fin.length + b.fin.length) by omega) hzL
            have hs2 := sB_lt ha hb hL (show (((classB p).getD x []).getD (y + 1) 0).toNat < (a.fin.length + b.fin.length) by omega) hzL
            refine .skip ?_
            refine AK.then_ (hK32 _ ?_)
            refine .seq fun _ hK33 => ?_
            refine .block ?_
            refine .sr fun _ hK34 => ?_
            refine .mv rfl (.as rfl (.nt hK34 ?_))
            refine .seq fun _ hK35 => ?_
            refine AK.quiet mixed krf ?_
            refine .mv rfl (.mv rfl (.mv rfl ?_))
            refine .v (.iN sl28 rfl rfl (hr := (RdS.rowX 4 rfl (fun h => .arg (hA1 h))))) ?_
            refine QK.val (.int .i64 ((sB a b z.1 (((classB p).getD x []).getD 0 0).toNat : Nat) : Int)) (Yl.valE (Yl.loadI on3 rfl (RdS.rowX 4 rfl (fun h => .arg (hA1 h))) (by omega)) (congrArg (Value.int .i64) (both_step (u := (((classB p).getD x []).getD 0 0).toNat) ha hb hL (by omega) hzL))) trivial rfl ?_
            first | refine .v (.iN sl28 rfl rfl (hr := (by first | exact rdp | exact .big 3 x rfl (matL_get hrl (by omega))))) ?_ | refine .v (.iK sl28 rfl rfl (hr := (by first | exact rdp | exact .big 3 x rfl (matL_get hrl (by omega))))) ?_
            refine .v (.loadI on3 rfl (by first | exact rdp | exact .big 3 x rfl (matL_get hrl (by omega))) (by omega)) ?_
            refine .mv rfl (.mv rfl (.mv rfl ?_))
            refine .v (.iN sl28 rfl rfl (hr := (RdS.rowX 5 rfl (fun h => .arg (hA2 h))))) ?_
            refine QK.val (.int .i64 ((sB a b z.1 (((classB p).getD x []).getD (y + 1) 0).toNat : Nat) : Int)) (Yl.valE (Yl.loadI on3 rfl (RdS.rowX 5 rfl (fun h => .arg (hA2 h))) (by omega)) (congrArg (Value.int .i64) (both_step (u := (((classB p).getD x []).getD (y + 1) 0).toNat) ha hb hL (by omega) hzL))) trivial rfl ?_
            first | refine .v (.iN sl28 rfl rfl (hr := (by first | exact rdp | exact .big 3 x rfl (matL_get hrl (by omega))))) ?_ | refine .v (.iK sl28 rfl rfl (hr := (by first | exact rdp | exact .big 3 x rfl (matL_get hrl (by omega))))) ?_
            refine .v (.loadI on3 rfl (by first | exact rdp | exact .big 3 x rfl (matL_get hrl (by omega))) (by omega)) ?_
            refine .v (.neq rfl rfl) ?_
            refine QK.nil (QK.fin ?_)
            refine AK.then_ (hK35 _ ?_)
            refine AK.condNe rfl (fun hc6 => ?_) (fun hc6 => ?_)
            ·refine .sr fun _ hK36 => ?_
             refine .as rfl (.nt hK36 (.ret (.block_ret (.then_ret (.then_ret (.block_ret (.block_ret (.then_ret (.then_ret (.block_ret (.block_ret ?_)))))))))))
             refine .then_ret (.then_ret (.block_ret (.then_ret ?_)))
             refine AK.ret1 rfl rfl (fun w hw => ⟨_, _, ?_, rfl, Ret.of (hw.pick [] (by decide) rfl rfl)⟩)
             refine ⟨_, rfl, ⟨fun h => (by cases h), fun h => ?_⟩, rfl⟩
             exact absurd ((chk_pk h (c := x) (m := y + 1) (by omega) (by omega)).2 z.1 hzL) hc6
            ·refine .skip (.block_normal ?_)
             refine AK.then_ (hK33 _ ?_)
             refine AK.region ?_
             refine .v (.add rfl rfl (by omega)) ?_
             refine .mv rfl (.nil ?_)
             refine AK.then_ (hK30 _ _ ((z.1 + 1, ())) ⟨by dsimp only; omega, fun k hk => by dsimp only at hk; rcases Nat.lt_or_eq_of_le (Nat.le_of_lt_succ hk) with h | h; (exact hg2.2 k h); (rw [h]; exact hc6)⟩ (by dsimp only; omega) (slr) (fun w hw => hw))
           ·refine .exit (.then_exit (.then_exit (.block_exit (.block_normal ?_))))
            refine AK.then_ (hK23 _ ?_)
            refine AK.region ?_
            refine .v (.add rfl rfl (by omega)) ?_
            refine .mv rfl (.nil ?_)
            refine AK.then_ (hK20 _ _ (y + 1) ⟨by omega, fun m hm => by rcases Nat.lt_or_eq_of_le (Nat.le_of_lt_succ hm) with h | h; (exact hg1.2 m h); (subst h; exact ⟨hfe, fun k hk => hg2.2 k (by omega)⟩)⟩ (by omega) (slr) (fun w hw => hw.pick [0, 1, 2, 3, 4] (by decide) rfl rfl))
        ·refine .exit (.then_exit (.then_exit (.block_exit (.block_normal ?_))))
         refine AK.then_ (hK16 _ ?_)
         refine AK.region ?_
         refine .v (.add rfl rfl (by omega)) ?_
         refine .mv rfl (.nil ?_)
         refine AK.then_ (hK13 _ _ (x + 1) ⟨by omega, fun c m hc hm => by rcases Nat.lt_or_eq_of_le (Nat.le_of_lt_succ hc) with h | h; (exact hg0.2 c m h hm); (subst h; rcases Nat.eq_zero_or_pos m with h0 | h0; (subst h0; exact Pk.refl a b p c); (have h2 := hg1.2 (m - 1) (by omega); rw [show m - 1 + 1 = m by omega] at h2; exact h2))⟩ (by omega) (slr) (fun w hw => hw.pick [0, 1, 2, 3] (by decide) rfl rfl))
      ·refine .exit (.then_exit (.then_exit (.block_exit ?_)))
       refine AK.then_ (hK11 _ ?_)
       refine .sr fun _ hK37 => ?_
       refine .as rfl (.nt hK37 (.ret ?_))
       refine AK.ret1 rfl rfl (fun w hw => ⟨_, _, ?_, rfl, Ret.of (hw.pick [] (by decide) rfl rfl)⟩)
       refine ⟨_, rfl, ⟨fun _ => ?_, fun _ => rfl⟩, rfl⟩
       exact chk_cls hE hpl hvp hst (fun c m hc hm => hg0.2 c m (by omega) hm)

end Go.Proofs.YtafldkjdeompjaaGreatDoor

namespace Go.Proofs.YtafldkjdeompjaaGreatDoor
open Go.Sx Go.RowKit
set_option maxHeartbeats 1000000 in
theorem s_checkmap (w : World) (v : Value) (d : Dfa) (h : RdD (fun _ => False) w v d) (vm : Value) (m : Dfa) (k : RdD (fun _ => False) w vm m) (hv : VD d) (hvm : VD m) (hLL : d.L = m.L) (vp : Value) (mp : List Int) (hp : RdL (fun _ => False) (Value.int .i64) w vp mp) : CallS Tryz.prog 24 [v, vm, vp] w (fun r o => ∃ b, r = .bool b ∧ (b = true ↔ MapOK d m mp) ∧ o = []) := by
 have h0 := h
 obtain ⟨vF, vN, rfl, hF, hN⟩ := h
 have hF0 := hF
 have hN0 := hN
 obtain ⟨rs, hrl, hNr, hNi⟩ := hN
 have sF := hF.sl
 have sN := hNr.sl
 have hmf := hF.le
 have hmn := hNr.le
 unfold RdL at hF
 have k0 := k
 obtain ⟨uF, uN, rfl, gF, gN⟩ := k
 have gF0 := gF
 have gN0 := gN
 obtain ⟨ss, gsl, gNr, gNi⟩ := gN
 have tF := gF.sl
 have tN := gNr.sl
 have gmf := gF.le
 have gmn := gNr.le
 unfold RdL at gF
 have hdL := hv.L
 have hdnx := hv.nx
 have hdn := hv.n
 have hds := hv.s
 have hmL := hvm.L
 have hmnx := hvm.nx
 have hmn5 := hvm.n
 have hms := hvm.s
 have hpl := hp.le
 unfold RdL at hp
 refine spec_of Tryz.func24 rfl (leb rfl) ?_
 refine .sr fun _ hK1 => ?_
 refine AK.box_ (E := 25) (cs := [.int .i64 d.L, .int .i64 d.s, vF, vN]) rfl rfl rfl trivial rfl (fun bx3 => ?_)
 refine AK.box_ (E := 25) (cs := [.int .i64 m.L, .int .i64 m.s, uF, uN]) rfl rfl rfl trivial rfl (fun bx4 => ?_)
 refine .as rfl (.nt hK1 ?_)
 refine .seq fun _ hK2 => ?_
 refine .seq fun _ hK3 => ?_
 refine AK.quiet mixed krf ?_
 refine .mv rfl ?_
 refine .v (.lenR sl28 rfl (by first | exact rdp | exact .arg (hNi _ (by omega)) | exact .arg (gNi _ (by omega)))) ?_
 refine .v (.fieldAddr fd25_2 rfl) ?_
 refine .v (.loadBox on22 rfl bsp rfl) ?_
 refine .v (.lenR sl22 rfl (by first | exact rdp | exact .arg (hNi _ (by omega)) | exact .arg (gNi _ (by omega)))) ?_
 refine .v (.neq rfl rfl) ?_
 refine .mv rfl ?_
 refine QK.splitB (g := 19) rfl (fun hg_1_6 => ?_) (fun hg_1_6 => ?_)
 ·have hg_1_6' := hg_1_6
  try simp only [bs] at hg_1_6'
  refine QK.pass rfl rfl (hg_1_6) rfl ?_
  refine QK.pass rfl rfl (hg_1_6) rfl ?_
  refine QK.pass rfl rfl (hg_1_6) rfl ?_
  refine QK.pass rfl rfl (hg_1_6) rfl ?_
  refine QK.pass rfl rfl (hg_1_6) rfl ?_
  refine QK.pass rfl rfl (hg_1_6) rfl ?_
  refine QK.pass rfl rfl (hg_1_6) rfl ?_
  refine QK.pass rfl rfl (hg_1_6) rfl ?_
  refine .v (.pickT rfl (hg_1_6) rfl) ?_
  refine QK.nil (QK.fin ?_)
  refine AK.then_ (hK3 _ ?_)
  refine AK.cond_t rfl (rfl) ?_
  refine .sr fun _ hK4 => ?_
  refine .as rfl (.nt hK4 (.ret (.then_ret ?_)))
  refine AK.ret1 rfl rfl (fun w hw => ⟨_, _, ?_, rfl, Ret.of (hw.pick [] (by decide) rfl rfl)⟩)
  refine ⟨false, rfl, ⟨fun h => (by cases h), fun h => ?_⟩, rfl⟩
  exfalso
  have h1 := h.len
  have h2 := h.st
  first | omega | exact hc0 h2
 ·have hg_1_6' := hg_1_6
  try simp only [bs] at hg_1_6'
  refine QK.val _ (Yl.move rfl) ⟨_, rfl, gB hg_1_6⟩ rfl ?_
  refine QK.val _ (Yl.fieldAddr fd25_1 rfl) ⟨_, rfl, gB hg_1_6⟩ rfl ?_
  refine QK.val _ (Yl.loadBox on3 rfl bsp rfl) ⟨_, rfl, gB hg_1_6⟩ rfl ?_
  first | refine QK.val _ (.iN sl28 rfl rfl (hr := (by first | exact rdp | exact .arg (hNi _ (by omega)) | exact .arg (gNi _ (by omega))))) ⟨_, rfl, gB hg_1_6⟩ rfl ?_ | refine QK.val _ (.iK sl28 rfl rfl (hr := (by first | exact rdp | exact .arg (hNi _ (by omega)) | exact .arg (gNi _ (by omega))))) ⟨_, rfl, gB hg_1_6⟩ rfl ?_
  refine QK.val _ (Yl.loadI on3 rfl (by first | exact rdp | exact .arg (hNi _ (by omega)) | exact .arg (gNi _ (by omega))) (by omega)) ⟨_, rfl, gB hg_1_6⟩ rfl ?_
  refine QK.val _ (Yl.fieldAddr fd25_1 rfl) ⟨_, rfl, gB hg_1_6⟩ rfl ?_
  refine QK.val _ (Yl.loadBox on3 rfl bsp rfl) ⟨_, rfl, gB hg_1_6⟩ rfl ?_
  refine QK.val _ (Yl.neq rfl rfl) ⟨_, rfl, gB hg_1_6⟩ rfl ?_
  refine .v (.pickF rfl (hg_1_6) rfl) ?_
  refine QK.nil (QK.fin ?_)
  refine AK.then_ (hK3 _ ?_)
  refine AK.condNe rfl (fun hc0 => ?_) (fun hc0 => ?_)
  ·refine .sr fun _ hK5 => ?_
   refine .as rfl (.nt hK5 (.ret (.then_ret ?_)))
   refine AK.ret1 rfl rfl (fun w hw => ⟨_, _, ?_, rfl, Ret.of (hw.pick [] (by decide) rfl rfl)⟩)
   refine ⟨false, rfl, ⟨fun h => (by cases h), fun h => ?_⟩, rfl⟩
   exfalso
   have h1 := h.len
   have h2 := h.st
   first | omega | exact hc0 h2
  ·have hml : mp.length = d.fin.length := by omega
   have hst0 : mp.getD d.s.toNat 0 = m.s := by first | exact hc0 | exact Classical.not_not.1 hc0
   refine .skip ?_
   refine AK.then_ (hK2 _ ?_)
   refine .seq fun _ hK6 => ?_
   refine .sr fun _ hK7 => ?_
   refine .mv rfl ?_
   refine .v (.lenR sl28 rfl (by first | exact rdp | exact .arg (hNi _ (by omega)) | exact .arg (gNi _ (by omega)))) ?_
   refine .mv rfl (.nt hK7 (.block ?_))
   refine AK.loopK (X := Nat) [(2, _), (3, _), (4, _), (29, _), (30, _)] (fun j => [(31, .int .i64 (j : Int))]) (fun j => [box bx3 25 4 [.int .i64 d.L, .int .i64 d.s, vF, vN], box bx4 25 4 [.int .i64 m.L, .int .i64 m.s, uF, uN]]) (fun j => j ≤ mp.length ∧ ∀ i, i < j → -1 ≤ mp.getD i 0 ∧ mp.getD i 0 < m.fin.length) (fun j => mp.length - j) (0) slr ?_ ?_ ?_ ?_
   ·exact ⟨Nat.zero_le _, fun i hi => (by cases hi)⟩
   ·exact slr
   ·exact fun w hw => hw
   ·intro j hg0 _ hK8
    refine .sr fun _ hK9 => ?_
    refine .v (.lss rfl rfl) ?_
    refine .nt hK9 ?_
    refine .seq fun _ hK10 => ?_
    refine AK.condD rfl (fun hc1 => ?_) (fun hc1 => ?_)
    ·refine .skip ?_
     refine AK.then_ (hK10 _ ?_)
     refine .seq fun _ hK11 => ?_
     refine .block ?_
     refine .sr fun _ hK12 => ?_
     first | refine .v (.iN sl28 rfl rfl (hr := (by first | exact rdp | exact .arg (hNi _ (by omega)) | exact .arg (gNi _ (by omega))))) ?_ | refine .v (.iK sl28 rfl rfl (hr := (by first | exact rdp | exact .arg (hNi _ (by omega)) | exact .arg (gNi _ (by omega))))) ?_
     refine .v (.loadI on3 rfl (by first | exact rdp | exact .arg (hNi _ (by omega)) | exact .arg (gNi _ (by omega))) (by omega)) ?_
     refine .as rfl (.nt hK12 ?_)
     refine .sr fun _ hK13 => ?_
     refine .mv rfl ?_
     refine .v (.lss rfl rfl) ?_
     refine .mv rfl ?_
     refine AK.splitB (g := 37) rfl (fun hg_6_2 => ?_) (fun hg_6_2 => ?_)
     ·have hg_6_2' := hg_6_2
      try simp only [bs] at hg_6_2'
      refine AK.pass rfl rfl (hg_6_2) rfl ?_
      refine AK.pass rfl rfl (hg_6_2) rfl ?_
      refine AK.pass rfl rfl (hg_6_2) rfl ?_
      refine AK.pass rfl rfl (hg_6_2) rfl ?_
      refine AK.pass rfl rfl (hg_6_2) rfl ?_
      refine .v (.pickT rfl (hg_6_2) rfl) ?_
      refine .nt hK13 ?_
      refine AK.cond_t rfl (rfl) ?_
      refine .sr fun _ hK14 => ?_
      refine .as rfl (.nt hK14 (.ret (.block_ret (.then_ret (.then_ret (.block_ret (.then_ret ?_)))))))
      refine AK.ret1 rfl rfl (fun w hw => ⟨_, _, ?_, rfl, Ret.of (hw.pick [] (by decide) rfl rfl)⟩)
      refine ⟨false, rfl, ⟨fun h => (by cases h), fun h => ?_⟩, rfl⟩
      exfalso
      have h1 := h.bd j (by omega)
      omega
     ·have hg_6_2' := hg_6_2
      try simp only [bs] at hg_6_2'
      refine AK.val _ (Yl.move rfl) ⟨_, rfl, gB hg_6_2⟩ rfl ?_
      refine AK.val _ (Yl.fieldAddr fd25_2 rfl) ⟨_, rfl, gB hg_6_2⟩ rfl ?_
      refine AK.val _ (Yl.loadBox on22 rfl bsp rfl) ⟨_, rfl, gB hg_6_2⟩ rfl ?_
      refine AK.val _ (Yl.lenR sl22 rfl (by first | exact rdp | exact .arg (hNi _ (by omega)) | exact .arg (gNi _ (by omega)))) ⟨_, rfl, gB hg_6_2⟩ rfl ?_
      refine AK.val _ (Yl.geq rfl rfl) ⟨_, rfl, gB hg_6_2⟩ rfl ?_
      refine .v (.pickF rfl (hg_6_2) rfl) ?_
      refine .nt hK13 ?_
      refine AK.condD rfl (fun hc2 => ?_) (fun hc2 => ?_)
      ·refine .sr fun _ hK15 => ?_
       refine .as rfl (.nt hK15 (.ret (.block_ret (.then_ret (.then_ret (.block_ret (.then_ret ?_)))))))
       refine AK.ret1 rfl rfl (fun w hw => ⟨_, _, ?_, rfl, Ret.of (hw.pick [] (by decide) rfl rfl)⟩)
       refine ⟨false, rfl, ⟨fun h => (by cases h), fun h => ?_⟩, rfl⟩
       exfalso
       have h1 := h.bd j (by omega)
       omega
      ·refine .skip (.block_normal ?_)
       refine AK.then_ (hK11 _ ?_)
       refine AK.region ?_
       refine .v (.add rfl rfl (by omega)) ?_
       refine .mv rfl (.nil ?_)
       refine AK.then_ (hK8 _ _ (j + 1) ⟨by omega, all_succ hg0.2 (by omega)⟩ (by omega) (slr) (fun w hw => hw))
    ·have hbd : ∀ i, i < mp.length → -1 ≤ mp.getD i 0 ∧ mp.getD i 0 < m.fin.length := fun i hi => hg0.2 i (by omega)
     refine .exit (.then_exit (.then_exit (.block_exit ?_)))
     refine AK.then_ (hK6 _ ?_)
     refine .seq fun _ hK16 => ?_
     refine .sr fun _ hK17 => ?_
     refine .mv rfl ?_
     refine .v (.lenR sl28 rfl (by first | exact rdp | exact .arg (hNi _ (by omega)) | exact .arg (gNi _ (by omega)))) ?_
     refine .mv rfl (.nt hK17 (.block ?_))
     refine AK.loopK (X := Nat) [(2, _), (3, _), (4, _), (45, _), (46, _)] (fun q => [(47, .int .i64 (q : Int))]) (fun q => [box bx3 25 4 [.int .i64 d.L, .int .i64 d.s, vF, vN], box bx4 25 4 [.int .i64 m.L, .int .i64 m.s, uF, uN]]) (fun q => q ≤ mp.length ∧ ∀ i, i < q → HomAt d m mp i) (fun q => mp.length - q) (0) slr ?_ ?_ ?_ ?_
     ·exact ⟨Nat.zero_le _, fun i hi => (by cases hi)⟩
     ·exact slr
     ·exact fun w hw => hw
     ·intro q hg1 _ hK18
      refine .sr fun _ hK19 => ?_
      refine .v (.lss rfl rfl) ?_
      refine .nt hK19 ?_
      refine .seq fun _ hK20 => ?_
      refine AK.condD rfl (fun hc3 => ?_) (fun hc3 => ?_)
      ·have hqn : q < d.fin.length := by omega
       have hrw := hv.row q hqn
       have hbq := hbd q (by omega)
       refine .skip ?_
       refine AK.then_ (hK20 _ ?_)
       refine .seq fun _ hK21 => ?_
       refine .block ?_
       refine .sr fun _ hK22 => ?_
       refine .mv rfl ?_
       first | refine .v (.iN sl28 rfl rfl (hr := (by first | exact rdp | exact .arg (hNi _ (by omega)) | exact .arg (gNi _ (by omega))))) ?_ | refine .v (.iK sl28 rfl rfl (hr := (by first | exact rdp | exact .arg (hNi _ (by omega)) | exact .arg (gNi _ (by omega))))) ?_
       refine .v (.loadI on3 rfl (by first | exact rdp | exact .arg (hNi _ (by omega)) | exact .arg (gNi _ (by omega))) (by omega)) ?_
       refine .as rfl (.as rfl (.nt hK22 ?_))
       refine .seq fun _ hK23 => ?_
       refine .sr fun _ hK24 => ?_
       refine .mv rfl ?_
       refine .v (.lss rfl rfl) ?_
       refine .nt hK24 ?_
       refine AK.condD rfl (fun hc4 => ?_) (fun hc4 => ?_)
       ·refine .exit (.then_exit (.block_exit ?_))
        refine AK.then_ (hK21 _ ?_)
        refine AK.region ?_
        refine .v (.add rfl rfl (by omega)) ?_
        refine .mv rfl (.nil ?_)
        first | refine AK.then_ (hK18 _ _ (q + 1) ⟨by omega, all_succ hg1.2 (fun h0 => by omega)⟩ (by omega) (slr) (fun w hw => hw)) | refine AK.then_ (hK18 _ _ (q + 1) ⟨by omega, all_succ hg1.2 (fun _ => ⟨hfe, fun x hx => hg2.2 x (by omega)⟩)⟩ (by omega) (slr) (fun w hw => hw))
       ·refine .skip ?_
        refine AK.then_ (hK23 _ ?_)
        refine .seq fun _ hK25 => ?_
        refine .seq fun _ hK26 => ?_
        refine AK.quiet mixed krf ?_
        refine .v (.fieldAddr fd25_2 rfl) ?_
        refine .v (.loadBox on22 rfl bsp rfl) ?_
        refine .mv rfl ?_
        first | refine .v (.iN sl22 rfl rfl (hr := (by first | exact rdp | exact .arg (hNi _ (by omega)) | exact .arg (gNi _ (by omega))))) ?_ | refine .v (.iK sl22 rfl rfl (hr := (by first | exact rdp | exact .arg (hNi _ (by omega)) | exact .arg (gNi _ (by omega))))) ?_
        refine .v (.loadB on4 rfl (by first | exact rdp | exact .arg (hNi _ (by omega)) | exact .arg (gNi _ (by omega))) (by omega)) ?_
        refine .v (.fieldAddr fd25_2 rfl) ?_
        refine .v (.loadBox on22 rfl bsp rfl) ?_
        refine .mv rfl ?_
        first | refine .v (.iN sl22 rfl rfl (hr := (by first | exact rdp | exact .arg (hNi _ (by omega)) | exact .arg (gNi _ (by omega))))) ?_ | refine .v (.iK sl22 rfl rfl (hr := (by first | exact rdp | exact .arg (hNi _ (by omega)) | exact .arg (gNi _ (by omega))))) ?_
        refine .v (.loadB on4 rfl (by first | exact rdp | exact .arg (hNi _ (by omega)) | exact .arg (gNi _ (by omega))) (by omega)) ?_
        refine .v (.neqB bo4 rfl rfl) ?_
        refine QK.nil (QK.fin ?_)
        refine AK.then_ (hK26 _ ?_)
        refine AK.cond rfl (fun hc5 => ?_) (fun hc5 => ?_)
        ·try simp only [bs] at hc5
         refine .sr fun _ hK27 => ?_
         refine .as rfl (.nt hK27 (.ret (.then_ret (.block_ret (.then_ret (.then_ret (.block_ret (.then_ret ?_))))))))
         refine AK.ret1 rfl rfl (fun w hw => ⟨_, _, ?_, rfl, Ret.of (hw.pick [] (by decide) rfl rfl)⟩)
         refine ⟨false, rfl, ⟨fun h => (by cases h), fun h => ?_⟩, rfl⟩
         exfalso
         have h1 := (h.at hqn (by omega)).1
         unfold finQ at h1
         rw [Int.toNat_natCast] at h1
         first | (simp [h1] at hc5; done) | (rw [h1] at hc5; simp at hc5)
        ·try simp only [bs] at hc5
         have hfe : finQ d (q : Int) = finQ m (mp.getD q 0) := by unfold finQ; rw [Int.toNat_natCast]; simpa using hc5
         have hrm := hvm.row (mp.getD q 0).toNat (by omega)
         refine .skip ?_
         refine AK.then_ (hK25 _ ?_)
         refine .sr fun _ hK28 => ?_
         refine .v (.fieldAddr fd25_3 rfl) ?_
         refine .v (.loadBox on23 rfl bsp rfl) ?_
         refine .mv rfl ?_
         first | refine .v (.iN sl23 rfl rfl (hr := (by first | exact rdp | exact .arg (hNi _ (by omega)) | exact .arg (gNi _ (by omega))))) ?_ | refine .v (.iK sl23 rfl rfl (hr := (by first | exact rdp | exact .arg (hNi _ (by omega)) | exact .arg (gNi _ (by omega))))) ?_
         refine .v (.loadV on28 rfl (by first | exact rdp | exact .arg (hNi _ (by omega)) | exact .arg (gNi _ (by omega))) (by omega)) ?_
         refine .v (.lenR sl28 rfl (by first | exact rdp | exact .arg (hNi _ (by omega)) | exact .arg (gNi _ (by omega)))) ?_
         refine .mv rfl (.nt hK28 (.block ?_))
         refine AK.loopK (X := Nat) [(2, _), (3, _), (4, _), (10, _), (45, _), (46, _), (47, _), (69, _), (70, _)] (fun x => [(71, .int .i64 (x : Int))]) (fun x => [box bx3 25 4 [.int .i64 d.L, .int .i64 d.s, vF, vN], box bx4 25 4 [.int .i64 m.L, .int .i64 m.s, uF, uN]]) (fun x => x ≤ (d.nx.getD q []).length ∧ ∀ y, y < x → StepAt d m mp q y) (fun x => (d.nx.getD q []).length - x) (0) slr ?_ ?_ ?_ ?_
         ·exact ⟨Nat.zero_le _, fun i hi => (by cases hi)⟩
         ·exact slr
         ·exact fun w hw => hw
         ·intro x hg2 _ hK29
          refine .sr fun _ hK30 => ?_
          refine .v (.lss rfl rfl) ?_
          refine .nt hK30 ?_
          refine .seq fun _ hK31 => ?_
          refine AK.condD rfl (fun hc6 => ?_) (fun hc6 => ?_)
          ·have hto := hv.to q x hqn (by omega)
           refine .skip ?_
           refine AK.then_ (hK31 _ ?_)
           refine .seq fun _ hK32 => ?_
           refine .block ?_
           refine .sr fun _ hK33 => ?_
           refine .mv rfl ?_
           first | refine .v (.iN sl28 rfl rfl (hr := (by first | exact rdp | exact .arg (hNi _ (by omega)) | exact .arg (gNi _ (by omega))))) ?_ | refine .v (.iK sl28 rfl rfl (hr := (by first | exact rdp | exact .arg (hNi _ (by omega)) | exact .arg (gNi _ (by omega))))) ?_
           refine .v (.loadI on3 rfl (by first | exact rdp | exact .arg (hNi _ (by omega)) | exact .arg (gNi _ (by omega))) (by omega)) ?_
           refine .as rfl (.as rfl (.nt hK33 ?_))
           refine .seq fun _ hK34 => ?_
           refine AK.quiet mixed krf ?_
           refine .mv rfl (.mv rfl ?_)
           first | refine .v (.iN sl28 rfl rfl (hr := (by first | exact rdp | exact .arg (hNi _ (by omega)) | exact .arg (gNi _ (by omega))))) ?_ | refine .v (.iK sl28 rfl rfl (hr := (by first | exact rdp | exact .arg (hNi _ (by omega)) | exact .arg (gNi _ (by omega))))) ?_
           refine .v (.loadI on3 rfl (by first | exact rdp | exact .arg (hNi _ (by omega)) | exact .arg (gNi _ (by omega))) (by omega)) ?_
           refine .v (.fieldAddr fd25_3 rfl) ?_
           refine .v (.loadBox on23 rfl bsp rfl) ?_
           refine .mv rfl ?_
           first | refine .v (.iN sl23 rfl rfl (hr := (by first | exact rdp | exact .arg (hNi _ (by omega)) | exact .arg (gNi _ (by omega))))) ?_ | refine .v (.iK sl23 rfl rfl (hr := (by first | exact rdp | exact .arg (hNi _ (by omega)) | exact .arg (gNi _ (by omega))))) ?_
           refine .v (.loadV on28 rfl (by first | exact rdp | exact .arg (hNi _ (by omega)) | exact .arg (gNi _ (by omega))) (by omega)) ?_
           refine .mv rfl ?_
           first | refine .v (.iN sl28 rfl rfl (hr := (by first | exact rdp | exact .arg (hNi _ (by omega)) | exact .arg (gNi _ (by omega))))) ?_ | refine .v (.iK sl28 rfl rfl (hr := (by first | exact rdp | exact .arg (hNi _ (by omega)) | exact .arg (gNi _ (by omega))))) ?_
           refine .v (.loadI on3 rfl (by first | exact rdp | exact .arg (hNi _ (by omega)) | exact .arg (gNi _ (by omega))) (by omega)) ?_
           refine .v (.neq rfl rfl) ?_
           refine QK.nil (QK.fin ?_)
           refine AK.then_ (hK34 _ ?_)
           refine AK.condNe rfl (fun hc7 => ?_) (fun hc7 => ?_)
           ·refine .sr fun _ hK35 => ?_
            refine .as rfl (.nt hK35 (.ret (.block_ret (.then_ret (.then_ret (.block_ret (.block_ret (.then_ret (.then_ret (.block_ret (.then_ret ?_)))))))))))
            refine AK.ret1 rfl rfl (fun w hw => ⟨_, _, ?_, rfl, Ret.of (hw.pick [] (by decide) rfl rfl)⟩)
            refine ⟨false, rfl, ⟨fun h => (by cases h), fun h => ?_⟩, rfl⟩
            exfalso
            exact hc7 ((h.at hqn (by omega)).2 x (by omega))
           ·have hst : StepAt d m mp q x := hc7
            refine .skip (.block_normal ?_)
            refine AK.then_ (hK32 _ ?_)
            refine AK.region ?_
            refine .v (.add rfl rfl (by omega)) ?_
            refine .mv rfl (.nil ?_)
            refine AK.then_ (hK29 _ _ (x + 1) ⟨by omega, all_succ hg2.2 hst⟩ (by omega) (slr) (fun w hw => hw))
          ·refine .exit (.then_exit (.then_exit (.block_exit (.block_normal ?_))))
           refine AK.then_ (hK21 _ ?_)
           refine AK.region ?_
           refine .v (.add rfl rfl (by omega)) ?_
           refine .mv rfl (.nil ?_)
           first | refine AK.then_ (hK18 _ _ (q + 1) ⟨by omega, all_succ hg1.2 (fun h0 => by omega)⟩ (by omega) (slr) (fun w hw => hw)) | refine AK.then_ (hK18 _ _ (q + 1) ⟨by omega, all_succ hg1.2 (fun _ => ⟨hfe, fun x hx => hg2.2 x (by omega)⟩)⟩ (by omega) (slr) (fun w hw => hw))
      ·refine .exit (.then_exit (.then_exit (.block_exit ?_)))
       refine AK.then_ (hK16 _ ?_)
       refine .sr fun _ hK36 => ?_
       refine .as rfl (.nt hK36 (.ret ?_))
       refine AK.ret1 rfl rfl (fun w hw => ⟨_, _, ?_, rfl, Ret.of (hw.pick [] (by decide) rfl rfl)⟩)
       refine ⟨true, rfl, ⟨fun _ => MapOK.mk' hml hbd hst0 (fun i hi => hg1.2 i (by omega)), fun _ => rfl⟩, rfl⟩

set_option maxHeartbeats 400000 in
theorem s_checkacc (w : World) (vm : Value) (m : Dfa) (k : RdD (fun _ => False) w vm m) (hvm : VD m) (va : Value) (ac : List (List UInt8)) (ha : RdL (fun _ => False) sv w va ac) (hla : ∀ a ∈ ac, a.length ≤ 9223372036854775807) : CallS Tryz.prog 25 [vm, va] w (fun r o => ∃ b, r = .bool b ∧ (b = true ↔ AccOK m ac) ∧ o = []) := by
 have k0 := k
 obtain ⟨uF, uN, rfl, gF, gN⟩ := k
 have gF0 := gF
 have gN0 := gN
 obtain ⟨ss, gsl, gNr, gNi⟩ := gN
 have tF := gF.sl
 have tN := gNr.sl
 have gmf := gF.le
 have gmn := gNr.le
 unfold RdL at gF
 have hmL := hvm.L
 have hmnx := hvm.nx
 have hmn5 := hvm.n
 have hms := hvm.s
 have hal := ha.le
 unfold RdL at ha
 refine spec_of Tryz.func25 rfl (leb rfl) ?_
 refine .sr fun _ hK1 => ?_
 refine AK.box_ (E := 25) (cs := [.int .i64 m.L, .int .i64 m.s, uF, uN]) rfl rfl rfl trivial rfl (fun bx2 => ?_)
 refine .as rfl (.nt hK1 ?_)
 refine .seq fun _ hK2 => ?_
 refine .sr fun _ hK3 => ?_
 refine .mv rfl ?_
 refine .v (.lenR sl29 rfl rdp) ?_
 refine .v (.fieldAddr fd25_2 rfl) ?_
 refine .v (.loadBox on22 rfl bsp rfl) ?_
 refine .v (.lenR sl22 rfl rdp) ?_
 refine .v (.neq rfl rfl) ?_
 refine .nt hK3 ?_
 refine AK.condNe rfl (fun hc0 => ?_) (fun hc0 => ?_)
 ·refine .sr fun _ hK4 => ?_
  refine .as rfl (.nt hK4 (.ret (.then_ret ?_)))
  refine AK.ret1 rfl rfl (fun w hw => ⟨_, _, ?_, rfl, Ret.of (hw.pick [] (by decide) rfl rfl)⟩)
  refine ⟨false, rfl, ⟨fun h => (by cases h), fun h => ?_⟩, rfl⟩
  exfalso
  have h1 := h.len
  omega
 ·refine .skip ?_
  refine AK.then_ (hK2 _ ?_)
  refine .seq fun _ hK5 => ?_
  refine .sr fun _ hK6 => ?_
  refine .mv rfl ?_
  refine .v (.lenR sl29 rfl rdp) ?_
  refine .mv rfl (.nt hK6 (.block ?_))
  refine AK.loopK (X := Nat) [(2, _), (13, _), (14, _)] (fun j => [(15, .int .i64 (j : Int))]) (fun j => [box bx2 25 4 [.int .i64 m.L, .int .i64 m.s, uF, uN]]) (fun j => j ≤ ac.length ∧ ∀ i, i < j → RunV m m.s (ac.getD i []) = (i : Int)) (fun j => ac.length - j) (0) slr ?_ ?_ ?_ ?_
  ·exact ⟨Nat.zero_le _, fun i hi => (by cases hi)⟩
  ·exact slr
  ·exact fun w hw => hw
  ·intro j hg0 _ hK7
   refine .sr fun _ hK8 => ?_
   refine .v (.lss rfl rfl) ?_
   refine .nt hK8 ?_
   refine .seq fun _ hK9 => ?_
   refine AK.condD rfl (fun hc1 => ?_) (fun hc1 => ?_)
   ·refine .skip ?_
    refine AK.then_ (hK9 _ ?_)
    refine .seq fun _ hK10 => ?_
    refine .block ?_
    refine .sr fun _ hK11 => ?_
    refine .mv rfl ?_
    first | refine .v (.iN sl29 rfl rfl) ?_ | refine .v (.iK sl29 rfl rfl) ?_
    refine .v (.loadS on9 rfl rdp (by omega)) ?_
    refine .as rfl (.as rfl (.nt hK11 ?_))
    refine .sr fun _ hK12 => ?_
    refine .v (.loadBoxG ag25 rfl bsp rfl rfl) ?_
    refine .v (.fieldAddr fd25_1 rfl) ?_
    refine .v (.loadBox on3 rfl bsp rfl) ?_
    refine .mv rfl ?_
    refine AK.call co51 rfl (fun w hw => s_run w _ m (k0.at hw) m.s (ac.getD j []) (hla _ (getD_mem (by omega)))) trivial rfl ?_
    rintro r o ⟨rfl, rfl⟩
    refine .mv rfl ?_
    refine .v (.neq rfl rfl) ?_
    refine .nt hK12 ?_
    refine AK.condNe rfl (fun hc2 => ?_) (fun hc2 => ?_)
    ·refine .sr fun _ hK13 => ?_
     refine .as rfl (.nt hK13 (.ret (.block_ret (.then_ret (.then_ret (.block_ret (.then_ret ?_)))))))
     refine AK.ret1 rfl rfl (fun w hw => ⟨_, _, ?_, rfl, Ret.of (hw.pick [] (by decide) rfl rfl)⟩)
     refine ⟨false, rfl, ⟨fun h => (by cases h), fun h => ?_⟩, rfl⟩
     exfalso
     exact hc2 (h.run j (by omega))
    ·refine .skip (.block_normal ?_)
     refine AK.then_ (hK10 _ ?_)
     refine AK.region ?_
     refine .v (.add rfl rfl (by omega)) ?_
     refine .mv rfl (.nil ?_)
     refine AK.then_ (hK7 _ _ (j + 1) ⟨by omega, all_succ hg0.2 (by first | exact hc2 | exact Classical.not_not.1 hc2)⟩ (by omega) (slr) (fun w hw => hw))
   ·refine .exit (.then_exit (.then_exit (.block_exit ?_)))
    refine AK.then_ (hK5 _ ?_)
    refine .sr fun _ hK14 => ?_
    refine .as rfl (.nt hK14 (.ret ?_))
    refine AK.ret1 rfl rfl (fun w hw => ⟨_, _, ?_, rfl, Ret.of (hw.pick [] (by decide) rfl rfl)⟩)
    refine ⟨true, rfl, ⟨fun _ => ⟨by omega, fun i hi => hg0.2 i (by omega)⟩, fun _ => rfl⟩, rfl⟩

theorem bbeq (a b : List UInt8) : ((⟨a.toArray⟩ : ByteArray) == ⟨b.toArray⟩) = decide (a = b) := by
  show (a.toArray == b.toArray) = decide (a = b)
  rw [Bool.eq_iff_iff, beq_iff_eq, decide_eq_true_eq]
  constructor
  · intro h; simpa using h
  · intro h; rw [h]
theorem keyStr {P : Program} {kt : TypeId} (hk : P.underlying kt = some .string) : KeyL P kt sv where
  find := by
    intro a es ks w h
    have now : ∀ (es : List MapEntry) (ks : List (List UInt8)) (j : Nat), es.map (·.key) = ks.map sv → Instr.findNow .string (sv a) es j = some ((fidx a ks).bind fun i => (es[i]?).map fun e => (j + i, e.val)) := by
      intro es
      induction es with
      | nil => intro ks j h; cases ks with
        | nil => simp [Instr.findNow, fidx]
        | cons k ks => simp at h
      | cons e es ih =>
        intro ks j h
        cases ks with
        | nil => simp at h
        | cons k ks =>
          simp at h
          have hq : Instr.sameNow .string (sv a) (sv k) = some (decide (a = k)) := by
            show some ((⟨a.toArray⟩ : ByteArray) == ⟨k.toArray⟩) = _
            rw [bbeq]
          simp only [Instr.findNow, h.1, hq, fidx]
          by_cases hak : a = k
          · simp [hak]
          · simp only [hak, decide_false, if_false]
            rw [ih ks (j + 1) (by simpa using h.2)]
            cases fidx a ks with
            | none => simp
            | some i =>
              simp only [Option.map_some, Option.bind_some, List.getElem?_cons_succ]
              cases es[i]? with
              | none => rfl
              | some e' => simp; omega
    simp only [Instr.findKey, Sem.run_bind, run_underlying hk, Result.andThen_ok, now es ks 0 h]
    simp
  check := by
    intro e a w
    have : ∀ n, (Instr.checkKey e (n + 1) kt (sv a)).run P w = .ok () w := fun n => by simp [Instr.checkKey, run_underlying hk, sv]
    exact this 9999
  same := by
    intro a
    have : ∀ n, Instr.sameBits (n + 1) (sv a) (sv a) = true := fun n => by
      show ((⟨a.toArray⟩ : ByteArray) == ⟨a.toArray⟩) = true
      rw [bbeq]; simp
    exact this 9999
theorem matR_nil {m : Dfa} {ts : List (List UInt8)} : matR m (ts.take 0) = List.replicate m.fin.length [] := by
  unfold matR
  rw [List.take_zero, show rowB m [] = (fun _ => []) from funext fun q => rfl, List.map_const', List.length_range]
theorem matG_nil {E : TypeId} {c : Nat} {w : World} (i : Nat) (A : Asn) (h : (matG byv E (List.replicate c (.slice none 0 0)) (List.replicate c []))[i]? = some A) : A.holds w (fun _ => False) := by
  have hlen : (matG byv E (List.replicate c (.slice none 0 0)) (List.replicate c [])).length = c := by rw [matG_length (by simp)]; simp
  have hi : i < c := by rw [← hlen]; exact (List.getElem?_eq_some_iff.1 h).1
  rw [matG_get (by simp) (by simpa using hi)] at h
  have e1 : (List.replicate c (Value.slice none 0 0)).getD i undef = .slice none 0 0 := by simp [List.getD_eq_getElem?_getD, hi]
  have e2 : (List.replicate c ([] : List UInt8)).getD i [] = [] := by simp [List.getD_eq_getElem?_getD, hi]
  rw [e1, e2] at h
  cases h
  exact ⟨⟨rfl, .inl ⟨rfl, rfl⟩⟩, fun b => by simp [Value.ownBlock]⟩
theorem matG_set {E : TypeId} {rs : List Value} {xss : List (List UInt8)} (h : rs.length = xss.length) {i : Nat} (hi : i < xss.length) (v : Value) (ys : List UInt8) : (matG byv E rs xss).set i (row v E 1 ys.length (ys.map byv)) = matG byv E (rs.set i v) (xss.set i ys) := by
  unfold matG
  apply List.ext_getElem
  · simp
  · intro k h1 h2
    simp only [List.getElem_set, List.getElem_map, List.getElem_zip]
    by_cases e : i = k
    · subst e; simp
    · simp [e]
theorem rows_own {C : Cx} {w : World} {mv : Value} {EB : TypeId} {m : Dfa} {ts : List (List UInt8)} {l : List UInt8} {q : Nat} {rs : List Value} {av : Value} {b0 : Asn} {E : TypeId} (hrl : rs.length = m.fin.length) (hq : q < m.fin.length) {c : UInt8} (hc : bitT m (q : Int) l = c)
    (hw : HW C [b0, row mv EB 1 m.fin.length (rs.set q av), bigA ((matG byv E rs (matB m ts l q)).set q (row av E 1 (((matB m ts l q).getD q []).length + 1) (((matB m ts l q).getD q []).map byv ++ (byv c).cells.toList)))] w) :
    HW C [b0, row mv EB 1 m.fin.length (rs.set q av), bigA (matG byv E (rs.set q av) (matB m ts l (q + 1)))] w := by
  have hml := matB_len m ts l q
  have e : (((matB m ts l q).getD q []).map byv ++ (byv c).cells.toList) = (rowB m ts q ++ [bitT m (q : Int) l]).map byv := by rw [matB_get hq, hc]; simp [byv, Value.cells]
  have e2 : ((matB m ts l q).getD q []).length + 1 = (rowB m ts q ++ [bitT m (q : Int) l]).length := by rw [matB_get hq]; simp
  rw [e, e2, matG_set (by rw [hml]; exact hrl) (by rw [hml]; exact hq), matB_set hq] at hw
  exact hw
set_option maxHeartbeats 2000000 in
theorem s_checktests (w : World) (vm : Value) (m : Dfa) (k : RdD (fun _ => False) w vm m) (hvm : VD m) (vt : Value) (ts : List (List UInt8)) (ht : RdL (fun _ => False) sv w vt ts) (hlt : ∀ a ∈ ts, a.length ≤ 9223372036854775807) : CallS Tryz.prog 26 [vm, vt] w (fun r o => ∃ b, r = .bool b ∧ (b = true ↔ TestsOK m ts) ∧ o = []) := by
 have k0 := k
 obtain ⟨uF, uN, rfl, gF, gN⟩ := k
 have gF0 := gF
 have gN0 := gN
 obtain ⟨ss, gsl, gNr, gNi⟩ := gN
 have tF := gF.sl
 have tN := gNr.sl
 have gmf := gF.le
 have gmn := gNr.le
 unfold RdL at gF
 have hmL := hvm.L
 have hmnx := hvm.nx
 have hmn5 := hvm.n
 have hms := hvm.s
 have htl := ht.le
 unfold RdL at ht
 refine spec_of Tryz.func26 rfl (leb rfl) ?_
 refine .sr fun _ hK1 => ?_
 refine AK.box_ (E := 25) (cs := [.int .i64 m.L, .int .i64 m.s, uF, uN]) rfl rfl rfl trivial rfl (fun bx2 => ?_)
 refine .as rfl (.nt hK1 ?_)
 refine .seq fun _ hK2 => ?_
 refine .sr fun _ hK3 => ?_
 refine .mv rfl ?_
 refine .v (.lenR sl29 rfl (by first | exact rdp | exact .arg (gNi _ (by omega)))) ?_
 refine .v (.fieldAddr fd25_2 rfl) ?_
 refine .v (.loadBox on22 rfl bsp rfl) ?_
 refine .v (.lenR sl22 rfl (by first | exact rdp | exact .arg (gNi _ (by omega)))) ?_
 refine .v (.geq rfl rfl) ?_
 refine .nt hK3 ?_
 refine AK.condD rfl (fun hc0 => ?_) (fun hc0 => ?_)
 ·refine .sr fun _ hK4 => ?_
  refine .as rfl (.nt hK4 (.ret (.then_ret ?_)))
  refine AK.ret1 rfl rfl (fun w hw => ⟨_, _, ?_, rfl, Ret.of (hw.pick [] (by decide) rfl rfl)⟩)
  refine ⟨false, rfl, ⟨fun h => (by cases h), fun h => ?_⟩, rfl⟩
  exfalso
  have h1 := h.len
  omega
 ·refine .skip ?_
  refine AK.then_ (hK2 _ ?_)
  refine .sr fun _ hK5 => ?_
  refine .v (.fieldAddr fd25_2 rfl) ?_
  refine .v (.loadBox on22 rfl bsp rfl) ?_
  refine .v (.lenR sl22 rfl (by first | exact rdp | exact .arg (gNi _ (by omega)))) ?_
  refine AK.make1 (n := m.fin.length) sl94 el95 rfl rfl rfl (by omega) (by omega) trivial rfl (fun mv => ?_)
  refine AK.shape 1 rfl (fun smv => ?_)
  refine .as rfl (.nt hK5 ?_)
  refine .seq fun _ hK6 => ?_
  refine .sr fun _ hK7 => ?_
  refine .mv rfl ?_
  refine .v (.lenR sl29 rfl (by first | exact rdp | exact .arg (gNi _ (by omega)))) ?_
  refine .mv rfl (.nt hK7 (.block ?_))
  refine AK.loopK (X := Nat × List Value) [(2, _), (5, _), (25, _), (26, _)] (fun x => [(27, .int .i64 (x.1 : Int))]) (fun x => [box bx2 25 4 [.int .i64 m.L, .int .i64 m.s, uF, uN], row mv 95 1 m.fin.length x.2, bigA (matG byv 5 x.2 (matR m (ts.take x.1)))]) (fun x => x.1 ≤ ts.length ∧ x.2.length = m.fin.length ∧ ∀ i, i < x.1 → validW m.L (ts.getD i []) = true) (fun x => ts.length - x.1) ((0, List.replicate m.fin.length (.slice none 0 0))) slr ?_ ?_ ?_ ?_
  ·exact ⟨Nat.zero_le _, (by simp), fun i hi => (by cases hi)⟩
  ·exact slr
  ·exact fun w hw => by dsimp only; rw [matR_nil]; exact hw.ghostBig _ (matG_nil (E := 5))
  ·intro x hg0 _ hK8
   refine .sr fun _ hK9 => ?_
   refine .v (.lss rfl rfl) ?_
   refine .nt hK9 ?_
   refine .seq fun _ hK10 => ?_
   refine AK.condD rfl (fun hc1 => ?_) (fun hc1 => ?_)
   ·refine .skip ?_
    refine AK.then_ (hK10 _ ?_)
    refine .seq fun _ hK11 => ?_
    refine .block ?_
    refine .sr fun _ hK12 => ?_
    first | refine .v (.iN sl29 rfl rfl (hr := (by first | exact rdp | exact .arg (gNi _ (by omega))))) ?_ | refine .v (.iK sl29 rfl rfl (hr := (by first | exact rdp | exact .arg (gNi _ (by omega))))) ?_
    refine .v (.loadS on9 rfl (by first | exact rdp | exact .arg (gNi _ (by omega))) (by omega)) ?_
    refine .as rfl (.nt hK12 ?_)
    refine .seq fun _ hK13 => ?_
    refine .sr fun _ hK14 => ?_
    refine .mv rfl ?_
    refine .v (.fieldAddr fd25_0 rfl) ?_
    refine .v (.loadBox on3 rfl bsp rfl) ?_
    refine AK.call co42 rfl (fun w hw => s_wvalid w (ts.getD x.1 []) m.L (hlt _ (getD_mem (by omega)))) trivial rfl ?_
    rintro r o ⟨rfl, rfl⟩
    refine .v (.not rfl) ?_
    refine .nt hK14 ?_
    refine AK.condB rfl (fun hc2 => ?_) (fun hc2 => ?_)
    ·refine .sr fun _ hK15 => ?_
     refine .as rfl (.nt hK15 (.ret (.then_ret (.block_ret (.then_ret (.then_ret (.block_ret (.then_ret ?_))))))))
     refine AK.ret1 rfl rfl (fun w hw => ⟨_, _, ?_, rfl, Ret.of (hw.pick [] (by decide) rfl rfl)⟩)
     refine ⟨false, rfl, ⟨fun h => (by cases h), fun h => ?_⟩, rfl⟩
     exfalso
     have h1 := h.ok _ (getD_mem (d := []) (xs := ts) (k := x.1) (by omega))
     rw [h1] at hc2; cases hc2
    ·have hwv : validW m.L (ts.getD x.1 []) = true := by simpa using hc2
     have hok := (validW_iff.1 hwv).2
     have hwl := hlt (ts.getD x.1 []) (getD_mem (by omega))
     refine .skip ?_
     refine AK.then_ (hK13 _ ?_)
     refine .sr fun _ hK16 => ?_
     refine .mv rfl ?_
     refine .v (.lenR sl94 rfl (by first | exact rdp | exact .arg (gNi _ (by omega)))) ?_
     refine .mv rfl (.nt hK16 (.block ?_))
     refine AK.loopK (X := Nat × List Value) [(2, _), (5, _), (7, _), (25, _), (26, _), (27, _), (37, _)] (fun y => [(38, .int .i64 (y.1 : Int))]) (fun y => [box bx2 25 4 [.int .i64 m.L, .int .i64 m.s, uF, uN], row mv 95 1 m.fin.length y.2, bigA (matG byv 5 y.2 (matB m (ts.take x.1) (ts.getD x.1 []) y.1))]) (fun y => y.1 ≤ m.fin.length ∧ y.2.length = m.fin.length) (fun y => m.fin.length - y.1) ((0, x.2)) slr ?_ ?_ ?_ ?_
     ·exact ⟨Nat.zero_le _, hg0.2.1⟩
     ·exact slr
     ·exact fun w hw => by dsimp only; rw [matB_zero]; exact hw
     ·intro y hg1 _ hK17
      have hyl := hg1.2
      have hmbl := matB_len m (ts.take x.1) (ts.getD x.1 []) y.1
      refine .sr fun _ hK18 => ?_
      refine .v (.lss rfl rfl) ?_
      refine .nt hK18 ?_
      refine .seq fun _ hK19 => ?_
      refine AK.condD rfl (fun hc3 => ?_) (fun hc3 => ?_)
      ·refine .skip ?_
       refine AK.then_ (hK19 _ ?_)
       refine .seq fun _ hK20 => ?_
       refine .block ?_
       refine .sr fun _ hK21 => ?_
       refine .mv rfl (.as rfl (.nt hK21 ?_))
       refine .sr fun _ hK22 => ?_
       refine .mv rfl (.as rfl (.nt hK22 ?_))
       refine .seq fun _ hK23 => ?_
       refine .sr fun _ hK24 => ?_
       refine .mv rfl ?_
       refine .v (.lenS un9 rfl) ?_
       refine .mv rfl (.nt hK24 (.block ?_))
       refine AK.loopK (X := Nat) [(2, _), (5, _), (7, _), (8, _), (25, _), (26, _), (27, _), (37, _), (38, _), (43, _)] (fun z => [(9, .int .i64 (runI m (y.1 : Int) ((ts.getD x.1 []).take z))), (44, .int .i64 (z : Int))]) (fun z => [box bx2 25 4 [.int .i64 m.L, .int .i64 m.s, uF, uN], row mv 95 1 m.fin.length y.2, bigA (matG byv 5 y.2 (matB m (ts.take x.1) (ts.getD x.1 []) y.1))]) (fun z => z ≤ (ts.getD x.1 []).length) (fun z => (ts.getD x.1 []).length - z) (0) slr ?_ ?_ ?_ ?_
       ·exact Nat.zero_le _
       ·exact slr
       ·exact fun w hw => hw
       ·intro z hg2 _ hK25
        have hb := runI_bd hvm (q := (y.1 : Int)) ⟨by omega, by omega⟩ hwv z
        have hrw := hvm.row (runI m (y.1 : Int) ((ts.getD x.1 []).take z)).toNat (by omega)
        have hc8 := UInt8.toNat_lt ((ts.getD x.1 []).getD z 0)
        refine .sr fun _ hK26 => ?_
        refine .v (.lss rfl rfl) ?_
        refine .nt hK26 ?_
        refine .seq fun _ hK27 => ?_
        refine AK.condD rfl (fun hc4 => ?_) (fun hc4 => ?_)
        ·have hok1 := hok z (by omega)
         refine .skip ?_
         refine AK.then_ (hK27 _ ?_)
         refine .seq fun _ hK28 => ?_
         refine .block ?_
         refine .sr fun _ hK29 => ?_
         refine .mv rfl (.as rfl (.nt hK29 ?_))
         refine AK.quiet mixed krf ?_
         refine .v (.fieldAddr fd25_3 rfl) ?_
         refine .v (.loadBox on23 rfl bsp rfl) ?_
         refine .mv rfl ?_
         first | refine .v (.iN sl23 rfl rfl (hr := (by first | exact rdp | exact .arg (gNi _ (by omega))))) ?_ | refine .v (.iK sl23 rfl rfl (hr := (by first | exact rdp | exact .arg (gNi _ (by omega))))) ?_
         refine .v (.loadV on28 rfl (by first | exact rdp | exact .arg (gNi _ (by omega))) (by omega)) ?_
         refine .mv rfl (.mv rfl ?_)
         first | refine .v (.idxSN un9 rfl rfl (by omega)) ?_ | refine .v (.idxS un9 rfl rfl (by omega)) ?_
         refine .v (.subU8 rfl rfl (by omega)) ?_
         first | refine .v (.iN sl28 rfl rfl (hr := (by first | exact rdp | exact .arg (gNi _ (by omega))))) ?_ | refine .v (.iK sl28 rfl rfl (hr := (by first | exact rdp | exact .arg (gNi _ (by omega))))) ?_
         refine .v (.loadI on3 rfl (by first | exact rdp | exact .arg (gNi _ (by omega))) (by omega)) ?_
         refine .as rfl ?_
         refine QK.nil (QK.fin ?_)
         refine .block_normal ?_
         refine AK.then_ (hK28 _ ?_)
         refine AK.region ?_
         refine .v (.add rfl rfl (by omega)) ?_
         refine .mv rfl (.nil ?_)
         refine AK.then_ (hK25 _ _ (z + 1) (by omega) (by omega) (.cons (slI rfl (by rw [runI_snoc m (y.1 : Int) (ts.getD x.1 []) z (by omega)]; rfl)) (slr)) (fun w hw => hw))
        ·have hze : runI m (y.1 : Int) ((ts.getD x.1 []).take z) = runI m (y.1 : Int) (ts.getD x.1 []) := by rw [show z = (ts.getD x.1 []).length by omega, List.take_length]
         rw [hze]
         have hb := runI_bdw hvm (q := (y.1 : Int)) ⟨by omega, by omega⟩ hwv
         refine .exit (.then_exit (.then_exit (.block_exit ?_)))
         refine AK.then_ (hK23 _ ?_)
         refine .sr fun _ hK30 => ?_
         refine .as rfl (.nt hK30 ?_)
         refine .seq fun _ hK31 => ?_
         refine .sr fun _ hK32 => ?_
         refine .v (.fieldAddr fd25_2 rfl) ?_
         refine .v (.loadBox on22 rfl bsp rfl) ?_
         refine .mv rfl ?_
         first | refine .v (.iN sl22 rfl rfl (hr := (by first | exact rdp | exact .arg (gNi _ (by omega))))) ?_ | refine .v (.iK sl22 rfl rfl (hr := (by first | exact rdp | exact .arg (gNi _ (by omega))))) ?_
         refine .v (.loadB on4 rfl (by first | exact rdp | exact .arg (gNi _ (by omega))) (by omega)) ?_
         refine .nt hK32 ?_
         refine AK.cond rfl (fun hc5 => ?_) (fun hc5 => ?_)
         ·try simp only [bs] at hc5
          have hbv : bitT m (y.1 : Int) (ts.getD x.1 []) = 1 := by unfold bitT finQ; rw [if_pos hc5]
          refine AK.region ?_
          refine .as rfl (.nt hK31 ?_)
          refine AK.region ?_
          refine .mv rfl (.mv rfl (.mv rfl (.mv rfl ?_)))
          first | refine .v (.iN sl94 rfl rfl (hr := (by first | exact rdp | exact .arg (gNi _ (by omega))))) ?_ | refine .v (.iK sl94 rfl rfl (hr := (by first | exact rdp | exact .arg (gNi _ (by omega))))) ?_
          refine .v (.loadV on95 rfl (by first | exact rdp | exact .arg (gNi _ (by omega))) (by omega)) ?_
          refine .mv rfl ?_
          refine AK.append1In 2 y.1 rfl (matG_get (by rw [hmbl]; exact hyl) (by rw [hmbl]; omega)) sl95 el5 rfl (by decide) rfl (by intro k hk; cases hk; rfl) rfl (by intro u hu; simp [Value.cells] at hu; subst hu; rfl) (by rw [matB_get (by omega), rowB_len, List.length_take]; omega) (by rw [matB_get (by omega), rowB_len, List.length_take]; omega) (by decide) rfl rfl (fun av _ hsl => ?_)
          first | refine .v (.iN sl94 rfl rfl (hr := (by first | exact rdp | exact .arg (gNi _ (by omega))))) ?_ | refine .v (.iK sl94 rfl rfl (hr := (by first | exact rdp | exact .arg (gNi _ (by omega))))) ?_
          refine AK.store1 1 rfl sz95 rfl rfl hsl.cells hsl.one (by omega) trivial ?_
          refine .nil (.block_normal ?_)
          refine AK.then_ (hK20 _ ?_)
          refine AK.region ?_
          refine .v (.add rfl rfl (by omega)) ?_
          refine .mv rfl (.nil ?_)
          refine AK.then_ (hK17 _ _ ((y.1 + 1, y.2.set y.1 av)) ⟨by dsimp only; omega, by dsimp only; rw [List.length_set]; exact hyl⟩ (by dsimp only; omega) (slr) (fun w hw => rows_own hyl (by omega) hbv hw))
         ·try simp only [bs] at hc5
          have hbv : bitT m (y.1 : Int) (ts.getD x.1 []) = 0 := by unfold bitT finQ; rw [if_neg (by simpa using hc5)]
          refine .skip ?_
          refine AK.then_ (hK31 _ ?_)
          refine AK.region ?_
          refine .mv rfl (.mv rfl (.mv rfl (.mv rfl ?_)))
          first | refine .v (.iN sl94 rfl rfl (hr := (by first | exact rdp | exact .arg (gNi _ (by omega))))) ?_ | refine .v (.iK sl94 rfl rfl (hr := (by first | exact rdp | exact .arg (gNi _ (by omega))))) ?_
          refine .v (.loadV on95 rfl (by first | exact rdp | exact .arg (gNi _ (by omega))) (by omega)) ?_
          refine .mv rfl ?_
          refine AK.append1In 2 y.1 rfl (matG_get (by rw [hmbl]; exact hyl) (by rw [hmbl]; omega)) sl95 el5 rfl (by decide) rfl (by intro k hk; cases hk; rfl) rfl (by intro u hu; simp [Value.cells] at hu; subst hu; rfl) (by rw [matB_get (by omega), rowB_len, List.length_take]; omega) (by rw [matB_get (by omega), rowB_len, List.length_take]; omega) (by decide) rfl rfl (fun av _ hsl => ?_)
          first | refine .v (.iN sl94 rfl rfl (hr := (by first | exact rdp | exact .arg (gNi _ (by omega))))) ?_ | refine .v (.iK sl94 rfl rfl (hr := (by first | exact rdp | exact .arg (gNi _ (by omega))))) ?_
          refine AK.store1 1 rfl sz95 rfl rfl hsl.cells hsl.one (by omega) trivial ?_
          refine .nil (.block_normal ?_)
          refine AK.then_ (hK20 _ ?_)
          refine AK.region ?_
          refine .v (.add rfl rfl (by omega)) ?_
          refine .mv rfl (.nil ?_)
          refine AK.then_ (hK17 _ _ ((y.1 + 1, y.2.set y.1 av)) ⟨by dsimp only; omega, by dsimp only; rw [List.length_set]; exact hyl⟩ (by dsimp only; omega) (slr) (fun w hw => rows_own hyl (by omega) hbv hw))
      ·refine .exit (.then_exit (.then_exit (.block_exit (.block_normal ?_))))
       refine AK.then_ (hK11 _ ?_)
       refine AK.region ?_
       refine .v (.add rfl rfl (by omega)) ?_
       refine .mv rfl (.nil ?_)
       refine AK.then_ (hK8 _ _ ((x.1 + 1, y.2)) ⟨by dsimp only; omega, hg1.2, all_succ hg0.2.2 hwv⟩ (by dsimp only; omega) (slr) (fun w hw => by dsimp only; rw [take_snocD [] ts x.1 (by omega), ← matB_full, show m.fin.length = y.1 by omega]; rw [show m.fin.length = y.1 by omega] at hw; exact hw))
   ·have hmrl := matR_len m ts
    have hx2l := hg0.2.1
    refine .exit (.then_exit (.then_exit (.block_exit ?_)))
    refine AK.then_ (hK6 _ ?_)
    refine .sr fun _ hK33 => ?_
    refine AK.makeMap trivial rfl (fun mb => ?_)
    refine .as rfl (.nt hK33 ?_)
    refine .seq fun _ hK34 => ?_
    refine .sr fun _ hK35 => ?_
    refine .mv rfl ?_
    refine .v (.lenR sl94 rfl (by first | exact rdp | exact .arg (gNi _ (by omega)))) ?_
    refine .mv rfl (.nt hK35 (.block ?_))
    refine AK.loopK (X := Nat) [(2, _), (12, _), (77, _), (78, _)] (fun u => [(79, .int .i64 (u : Int))]) (fun u => [box bx2 25 4 [.int .i64 m.L, .int .i64 m.s, uF, uN], row mv 95 1 m.fin.length x.2, bigA (matG byv 5 x.2 (matR m ts)), mapA mb (mkv sv Value.bool (metS ((matR m ts).take u)))]) (fun u => u ≤ m.fin.length) (fun u => m.fin.length - u) (0) slr ?_ ?_ ?_ ?_
    ·exact Nat.zero_le _
    ·exact slr
    ·exact fun w hw => by rw [show x.1 = ts.length by omega, List.take_length] at hw; exact hw
    ·intro u hg3 _ hK36
     refine .sr fun _ hK37 => ?_
     refine .v (.lss rfl rfl) ?_
     refine .nt hK37 ?_
     refine .seq fun _ hK38 => ?_
     refine AK.condD rfl (fun hc6 => ?_) (fun hc6 => ?_)
     ·refine .skip ?_
      refine AK.then_ (hK38 _ ?_)
      refine .seq fun _ hK39 => ?_
      refine .block ?_
      refine .sr fun _ hK40 => ?_
      first | refine .v (.iN sl94 rfl rfl (hr := (by first | exact rdp | exact .arg (gNi _ (by omega))))) ?_ | refine .v (.iK sl94 rfl rfl (hr := (by first | exact rdp | exact .arg (gNi _ (by omega))))) ?_
      refine .v (.loadV on95 rfl (by first | exact rdp | exact .arg (gNi _ (by omega))) (by omega)) ?_
      refine .as rfl (.nt hK40 ?_)
      refine AK.region ?_
      refine .mv rfl (.mv rfl ?_)
      refine .v (.bytesS (l := (matR m ts).getD u []) sl95.1 un5 un9 rfl (RdS.big 2 _ rfl (matG_get (by rw [hmrl]; exact hx2l) (by rw [hmrl]; omega)))) ?_
      refine AK.mapSet 3 (fk := sv) (fv := Value.bool) (m := metS ((matR m ts).take u)) (a := (matR m ts).getD u []) (v := true) rfl mp96 (keyStr un9) rfl rfl rfl trivial ?_
      refine .nil (.block_normal ?_)
      refine AK.then_ (hK39 _ ?_)
      refine AK.region ?_
      refine .v (.add rfl rfl (by omega)) ?_
      refine .mv rfl (.nil ?_)
      refine AK.then_ (hK36 _ _ (u + 1) (by omega) (by omega) (slr) (fun w hw => by rw [take_snocD [] (matR m ts) u (by rw [hmrl]; omega), ← metS_set]; exact hw))
     ·refine .exit (.then_exit (.then_exit (.block_exit ?_)))
      refine AK.then_ (hK34 _ ?_)
      refine .sr fun _ hK41 => ?_
      refine .mv rfl ?_
      refine .v (.lenM mp96 rfl msp) ?_
      refine .v (.fieldAddr fd25_2 rfl) ?_
      refine .v (.loadBox on22 rfl bsp rfl) ?_
      refine .v (.lenR sl22 rfl (by first | exact rdp | exact .arg (gNi _ (by omega)))) ?_
      refine .v (.eql rfl rfl) ?_
      refine .as rfl (.nt hK41 (.ret ?_))
      refine AK.ret1 rfl rfl (fun w hw => ⟨_, _, ?_, rfl, Ret.of (hw.pick [] (by decide) rfl rfl)⟩)
      have hue : u = m.fin.length := by omega
      have hmsl := metS_len ((matR m ts).take u)
      refine ⟨_, rfl, ?_, rfl⟩
      rw [hue, ← hmrl, List.take_length, decide_eq_true_eq]
      have hmsl2 := metS_len (matR m ts)
      constructor
      ·intro h
       exact ⟨by omega, fun a ha => by obtain ⟨i, hi, e⟩ := mem_getD [] ha; rw [← e]; exact hg0.2.2 i (by omega), rows_diff.1 (by omega)⟩
      ·intro h
       have h2 := rows_diff.2 h.sep
       omega

end Go.Proofs.YtafldkjdeompjaaGreatDoor

namespace Go.Proofs.YtafldkjdeompjaaGreatDoor
open Go.Sx Go.RowKit
end Go.Proofs.YtafldkjdeompjaaGreatDoor

namespace Go.Proofs.YtafldkjdeompjaaGreatDoor
open Go.Sx Go.RowKit
end Go.Proofs.YtafldkjdeompjaaGreatDoor

namespace Go.Sx
open Go.ChangeShapes Go.WideShapes Go.ChangeAt Go.RowKit
/-! ### what came in, opened -/
def Wf64 (x : Int) : Prop := -9223372036854775808 ≤ x ∧ x ≤ 9223372036854775807

theorem wf64_of {x : Int} (h : (Lit.int .i64 x).wf = true) : Wf64 x := by
  have := bounds_i64 h
  exact this

end Go.Sx

namespace Go.Sx
open Go.ChangeShapes Go.WideShapes Go.ChangeAt Go.RowKit
section
variable {H : Type} {enc : TypeId × Value → H} {P : Program} {W : World}
open Go.Deep (open_slice1 choose_lt) in
theorem op_list {α : Type} [Inhabited α] {f : α → Value} {ok : α → Prop} {t e : TypeId} (ht : P.underlying t = some (.slice e)) (hc : P.cellsOf e = 1)
    (he : ∀ n v x, DataW.trod enc P W 0 (fun _ => true) true n e [v] = some x → ∃ a, v = f a ∧ ok a) {fuel : Nat} {cs : List Value} {x : DataW H × List MemPlace}
    (h : DataW.trod enc P W 0 (fun _ => true) true fuel t cs = some x) : ∃ v xs, cs = [v] ∧ RdL (fun _ => False) f W v xs ∧ ∀ a ∈ xs, ok a := by
  rcases open_slice1 ht hc h with ⟨rfl, _⟩ | ⟨y, l, cp, m, k, V, D, Pl, rfl, _, hl, hm, hmm, _, hx⟩
  · exact ⟨_, [], rfl, ⟨none, 0, rfl, by simp [maxLen], rfl, fun h => by simp at h, fun a j u ha => by cases ha⟩, by simp⟩
  · have hmc : m = cp := by simpa using hmm
    subst hmc
    obtain ⟨B, hB⟩ := choose_lt (n := m) (p := fun i (b : α) => V i = f b ∧ ok b) (fun i hi => he _ _ _ (hx i hi).2)
    refine ⟨_, (List.range l).map B, rfl, ⟨some y, m, ?_, ?_, ?_, fun _ _ => rfl, ?_⟩, ?_⟩
    · simp
    · simp [maxLen] at hm ⊢; omega
    · simp
    · intro ad j u had hj
      cases had
      refine ⟨id, ?_⟩
      have hjn : j < l := by
        have := (List.getElem?_eq_some_iff.1 hj).1
        simpa using this
      simp [hjn] at hj
      have := (hx j (by omega)).1
      rw [this, (hB j (by omega)).1, hj]
    · intro a ha
      simp at ha
      obtain ⟨i, hi, rfl⟩ := ha
      exact (hB i (by omega)).2
open Go.Deep (open_slice1 choose_lt) in
theorem op_rows {α : Type} {f : α → Value} {ok : α → Prop} {t e : TypeId} (ht : P.underlying t = some (.slice e)) (hc : P.cellsOf e = 1)
    (he : ∀ n cs x, DataW.trod enc P W 0 (fun _ => true) true n e cs = some x → ∃ v xs, cs = [v] ∧ RdL (fun _ => False) f W v xs ∧ ∀ a ∈ xs, ok a) {fuel : Nat} {cs : List Value} {x : DataW H × List MemPlace}
    (h : DataW.trod enc P W 0 (fun _ => true) true fuel t cs = some x) : ∃ v xss, cs = [v] ∧ RdLL (fun _ => False) f W v xss ∧ ∀ xs ∈ xss, ∀ a ∈ xs, ok a := by
  rcases open_slice1 ht hc h with ⟨rfl, _⟩ | ⟨y, l, cp, m, k, V, D, Pl, rfl, _, hl, hm, hmm, _, hx⟩
  · exact ⟨_, [], rfl, ⟨[], rfl, ⟨none, 0, rfl, by simp [maxLen], rfl, fun h => by simp at h, fun a j u ha => by cases ha⟩, fun i hi => by simp at hi⟩, by simp⟩
  · have hmc : m = cp := by simpa using hmm
    subst hmc
    obtain ⟨B, hB⟩ := choose_lt (n := m) (p := fun i (xs : List α) => RdL (fun _ => False) f W (V i) xs ∧ ∀ a ∈ xs, ok a) (fun i hi => by
      obtain ⟨v, xs, e1, e2, e3⟩ := he _ _ _ (hx i hi).2
      cases e1
      exact ⟨xs, e2, e3⟩)
    refine ⟨_, (List.range l).map B, rfl, ⟨(List.range l).map V, by simp, ⟨some y, m, ?_, ?_, ?_, fun _ _ => rfl, ?_⟩, ?_⟩, ?_⟩
    · simp
    · simp [maxLen] at hm ⊢; omega
    · simp
    · intro ad j u had hj
      cases had
      refine ⟨id, ?_⟩
      have hjn : j < l := by
        have := (List.getElem?_eq_some_iff.1 hj).1
        simpa using this
      simp [hjn] at hj
      rw [(hx j (by omega)).1, hj]
    · intro i hi
      have hi' : i < l := by simpa using hi
      have := (hB i (by omega)).1
      simpa [List.getD_eq_getElem?_getD, hi'] using this
    · intro xs hxs
      simp at hxs
      obtain ⟨i, hi, rfl⟩ := hxs
      exact (hB i (by omega)).2
theorem op_ints {t e : TypeId} (ht : P.underlying t = some (.slice e)) (he : P.underlying e = some (.int .i64)) (hc : P.cellsOf e = 1) {fuel : Nat} {cs : List Value} {x : DataW H × List MemPlace}
    (h : DataW.trod enc P W 0 (fun _ => true) true fuel t cs = some x) : ∃ v xs, cs = [v] ∧ RdL (fun _ => False) (Value.int .i64) W v xs ∧ ∀ a ∈ xs, Wf64 a :=
  op_list ht hc (fun n v x hx => by obtain ⟨a, h1, _, h3⟩ := DataW.trod_int he hx; cases h1; exact ⟨a, rfl, wf64_of h3⟩) h
theorem op_bools {t e : TypeId} (ht : P.underlying t = some (.slice e)) (he : P.underlying e = some .bool) (hc : P.cellsOf e = 1) {fuel : Nat} {cs : List Value} {x : DataW H × List MemPlace}
    (h : DataW.trod enc P W 0 (fun _ => true) true fuel t cs = some x) : ∃ v xs, cs = [v] ∧ RdL (fun _ => False) Value.bool W v xs ∧ ∀ a ∈ xs, True :=
  op_list ht hc (fun n v x hx => by obtain ⟨a, h1, _⟩ := DataW.trod_bool he hx; cases h1; exact ⟨a, rfl, trivial⟩) h
theorem op_intss {t e ee : TypeId} (ht : P.underlying t = some (.slice e)) (hc : P.cellsOf e = 1) (he : P.underlying e = some (.slice ee)) (hee : P.underlying ee = some (.int .i64)) (hcc : P.cellsOf ee = 1) {fuel : Nat} {cs : List Value} {x : DataW H × List MemPlace}
    (h : DataW.trod enc P W 0 (fun _ => true) true fuel t cs = some x) : ∃ v xss, cs = [v] ∧ RdLL (fun _ => False) (Value.int .i64) W v xss ∧ ∀ xs ∈ xss, ∀ a ∈ xs, Wf64 a :=
  op_rows ht hc (fun n cs x hx => op_ints he hee hcc hx) h
/-- the struct of an automaton: its fields, as the table of types has them -/
def dfaTB (P : Program) (t : TypeId) : Bool := match P.underlying t with
  | some (.struct fs) => match fs[0]?, fs[1]?, fs[2]?, fs[3]? with
    | some a, some b, some c, some d =>
      (a.offset == 0 && b.offset == 1 && c.offset == 2 && d.offset == 3) && (P.cellsOf a.type == 1 && P.cellsOf b.type == 1 && P.cellsOf c.type == 1 && P.cellsOf d.type == 1) &&
      (match P.underlying a.type, P.underlying b.type with | some (.int .i64), some (.int .i64) => true | _, _ => false) &&
      (match P.underlying c.type with | some (.slice e) => P.cellsOf e == 1 && (match P.underlying e with | some .bool => true | _ => false) | _ => false) &&
      (match P.underlying d.type with | some (.slice e) => P.cellsOf e == 1 && (match P.underlying e with | some (.slice ee) => P.cellsOf ee == 1 && (match P.underlying ee with | some (.int .i64) => true | _ => false) | _ => false) | _ => false) &&
      (P.cellsOf t == 4)
    | _, _, _, _ => false
  | _ => false
theorem op_dfa {t : TypeId} (hB : dfaTB P t = true) {fuel : Nat} {cs : List Value} {x : DataW H × List MemPlace} (h : DataW.trod enc P W 0 (fun _ => true) true fuel t cs = some x) :
    ∃ (d : Dfa) (vF vN : Value), cs = [.int .i64 d.L, .int .i64 d.s, vF, vN] ∧ RdL (fun _ => False) Value.bool W vF d.fin ∧ RdLL (fun _ => False) (Value.int .i64) W vN d.nx ∧ Wf64 d.L ∧ Wf64 d.s ∧ ∀ xs ∈ d.nx, ∀ a ∈ xs, Wf64 a := by
  unfold dfaTB at hB
  split at hB
  case h_2 => cases hB
  rename_i fs hu
  split at hB
  case h_2 => cases hB
  rename_i a b c d ha hb hc hd
  simp only [Bool.and_eq_true, beq_iff_eq] at hB
  obtain ⟨⟨⟨⟨⟨⟨⟨⟨oa, ob⟩, oc⟩, od⟩, ⟨⟨ca, cb⟩, cc⟩, cd⟩, hi⟩, hF⟩, hN⟩, ht4⟩ := hB
  obtain ⟨xs, n, _, _, hl, _, hf⟩ := DataW.trod_struct hu h
  have fa := hf 0 a ha
  have fb := hf 1 b hb
  have fc := hf 2 c hc
  have fd := hf 3 d hd
  have some_of : ∀ (i : Nat) (g : Field), fs[i]? = some g → ∃ y, xs[i]? = some y := fun i g hg => by
    have : i < xs.length := by
      have h1 := (Array.getElem?_eq_some_iff.1 hg).1
      omega
    exact ⟨xs[i], List.getElem?_eq_getElem this⟩
  obtain ⟨ya, ea⟩ := some_of 0 a ha
  obtain ⟨yb, eb⟩ := some_of 1 b hb
  obtain ⟨yc, ec⟩ := some_of 2 c hc
  obtain ⟨yd, ed⟩ := some_of 3 d hd
  rw [ea, oa, ca] at fa
  rw [eb, ob, cb] at fb
  rw [ec, oc, cc] at fc
  rw [ed, od, cd] at fd
  rw [ht4] at hl
  split at hi
  case h_2 => cases hi
  rename_i ua ub
  split at hF
  case h_2 => cases hF
  rename_i eF uF
  simp only [Bool.and_eq_true, beq_iff_eq] at hF
  obtain ⟨cF, hF⟩ := hF
  split at hF
  case h_2 => cases hF
  rename_i ueF
  split at hN
  case h_2 => cases hN
  rename_i eN uN
  simp only [Bool.and_eq_true, beq_iff_eq] at hN
  obtain ⟨cN, hN⟩ := hN
  split at hN
  case h_2 => cases hN
  rename_i eNN ueN
  simp only [Bool.and_eq_true, beq_iff_eq] at hN
  obtain ⟨cNN, hN⟩ := hN
  split at hN
  case h_2 => cases hN
  rename_i ueNN
  match cs, hl with
  | [v0, v1, v2, v3], _ =>
    simp at fa fb fc fd
    obtain ⟨L, h0, _, w0⟩ := DataW.trod_int ua fa
    obtain ⟨s, h1, _, w1⟩ := DataW.trod_int ub fb
    obtain ⟨vF, fin, h2, r2, _⟩ := op_bools uF ueF cF fc
    obtain ⟨vN, nx, h3, r3, w3⟩ := op_intss uN cN ueN ueNN cNN fd
    cases h0; cases h1; cases h2; cases h3
    exact ⟨⟨L, s, fin, nx⟩, _, _, rfl, r2, r3, wf64_of w0, wf64_of w1, w3⟩
theorem open_dfa {t : TypeId} (hB : dfaTB P t = true) {v : Value} {d : DataW H} {p : List MemPlace} (hval : Value.okWide P W .any 0 t v) (h : DataW.Trod enc P W 0 (fun _ => true) true t v d p) :
    ∃ d : Dfa, RdD (fun _ => False) W v d ∧ Wf64 d.L ∧ Wf64 d.s ∧ ∀ xs ∈ d.nx, ∀ a ∈ xs, Wf64 a := by
  obtain ⟨fuel, hf⟩ := h
  have hst : ∃ fs, P.underlying t = some (.struct fs) := by
    unfold dfaTB at hB
    split at hB
    · exact ⟨_, ‹_›⟩
    · cases hB
  obtain ⟨fs, hu⟩ := hst
  obtain ⟨cs, rfl, _⟩ := okWide_struct hu hval
  have hf' : DataW.trod enc P W 0 (fun _ => true) true fuel t cs.toList = some (d, p) := by simpa [Value.cells] using hf
  obtain ⟨d, vF, vN, e, r2, r3, w0, w1, w3⟩ := op_dfa hB hf'
  have this : cs = #[.int .i64 d.L, .int .i64 d.s, vF, vN] := by
    apply Array.toList_inj.1; simpa using e
  exact ⟨d, ⟨vF, vN, by rw [this], r2, r3⟩, w0, w1, w3⟩
end
end Go.Sx

namespace Go.Proofs.YtafldkjdeompjaaGreatDoor
open Go.Sx Go.RowKit
set_option maxHeartbeats 400000 in
theorem s_check (w : World) (v : Value) (d : Dfa) (h : RdD (fun _ => False) w v d) (vm : Value) (m : Dfa) (k : RdD (fun _ => False) w vm m) (vp va vt : Value) (mp : List Int) (ac ts : List (List UInt8)) (hp : RdL (fun _ => False) (Value.int .i64) w vp mp) (ha : RdL (fun _ => False) sv w va ac) (hla : ∀ a ∈ ac, a.length ≤ 9223372036854775807) (ht : RdL (fun _ => False) sv w vt ts) (hlt : ∀ a ∈ ts, a.length ≤ 9223372036854775807) : CallS Tryz.prog 8 [v, vm, .agg #[vp, va, vt]] w (fun r o => ∃ b, r = .bool b ∧ (b = true ↔ ChkP d m mp ac ts) ∧ o = []) := by
 have h0 := h
 obtain ⟨vF, vN, rfl, hF, hN⟩ := h
 have hF0 := hF
 have hN0 := hN
 obtain ⟨rs, hrl, hNr, hNi⟩ := hN
 have sF := hF.sl
 have sN := hNr.sl
 have hmf := hF.le
 have hmn := hNr.le
 unfold RdL at hF
 have k0 := k
 obtain ⟨uF, uN, rfl, gF, gN⟩ := k
 have gF0 := gF
 have gN0 := gN
 obtain ⟨ss, gsl, gNr, gNi⟩ := gN
 have tF := gF.sl
 have tN := gNr.sl
 have gmf := gF.le
 have gmn := gNr.le
 unfold RdL at gF
 have hp0 := hp
 have ha0 := ha
 have ht0 := ht
 have hps := hp.sl
 have has := ha.sl
 have hts := ht.sl
 have hpl := hp.le
 have hal := ha.le
 have htl := ht.le
 unfold RdL at hp ha ht
 refine spec_of Tryz.func8 rfl (leb rfl) ?_
 refine .sr fun _ hK1 => ?_
 refine AK.box_ (E := 25) (cs := [.int .i64 d.L, .int .i64 d.s, vF, vN]) rfl rfl rfl trivial rfl (fun bx3 => ?_)
 refine AK.box_ (E := 25) (cs := [.int .i64 m.L, .int .i64 m.s, uF, uN]) rfl rfl rfl trivial rfl (fun bx4 => ?_)
 refine AK.box_ (E := 31) (cs := [vp, va, vt]) rfl rfl rfl trivial rfl (fun bx5 => ?_)
 refine .as rfl (.nt hK1 ?_)
 refine .seq fun _ hK2 => ?_
 refine .sr fun _ hK3 => ?_
 refine .v (.loadBoxG ag25 rfl bsp rfl rfl) ?_
 refine AK.call co17 rfl (fun w hw => s_validate w _ d (h0.at hw)) trivial rfl ?_
 rintro r o ⟨rfl, rfl⟩
 refine .v (.neq rfl rfl) ?_
 refine .mv rfl ?_
 refine AK.splitB (g := 10) rfl (fun hg_1_3 => ?_) (fun hg_1_3 => ?_)
 ·have hg_1_3' := hg_1_3
  try simp only [bs] at hg_1_3'
  refine AK.pass rfl rfl (hg_1_3) rfl ?_
  refine AK.pass rfl rfl (hg_1_3) rfl ?_
  refine AK.pass rfl rfl (hg_1_3) rfl ?_
  refine .v (.pickT rfl (hg_1_3) rfl) ?_
  refine .mv rfl ?_
  refine AK.pass rfl rfl rfl rfl ?_
  refine AK.pass rfl rfl rfl rfl ?_
  refine AK.pass rfl rfl rfl rfl ?_
  refine AK.pass rfl rfl rfl rfl ?_
  refine AK.pass rfl rfl rfl rfl ?_
  refine .v (.pickT rfl (rfl) rfl) ?_
  refine .nt hK3 ?_
  refine AK.cond_t rfl (rfl) ?_
  refine .sr fun _ hK4 => ?_
  refine .as rfl (.nt hK4 (.ret (.then_ret ?_)))
  refine AK.ret1 rfl rfl (fun w hw => ⟨_, _, ?_, rfl, Ret.of (hw.pick [] (by decide) rfl rfl)⟩)
  refine ⟨false, rfl, ⟨fun h => (by cases h), fun h => ?_⟩, rfl⟩
  exfalso
  have k1 := (errV_iff d).2 h.vd
  have k2 := (errV_iff m).2 h.vm
  have k3 := h.L
  first | (simp_all; done) | omega
 ·have hg_1_3' := hg_1_3
  try simp only [bs] at hg_1_3'
  refine AK.val _ (Yl.loadBoxG ag25 rfl bsp rfl rfl) ⟨_, rfl, gB hg_1_3⟩ rfl ?_
  refine AK.call co17 rfl (fun w hw => s_validate w _ m (k0.at hw)) ⟨_, rfl, gB hg_1_3⟩ rfl ?_
  rintro r o ⟨rfl, rfl⟩
  refine AK.val _ (Yl.neq rfl rfl) ⟨_, rfl, gB hg_1_3⟩ rfl ?_
  refine .v (.pickF rfl (hg_1_3) rfl) ?_
  refine .mv rfl ?_
  refine AK.splitB (g := 15) rfl (fun hg_1_8 => ?_) (fun hg_1_8 => ?_)
  ·have hg_1_8' := hg_1_8
   try simp only [bs] at hg_1_8'
   refine AK.pass rfl rfl (hg_1_8) rfl ?_
   refine AK.pass rfl rfl (hg_1_8) rfl ?_
   refine AK.pass rfl rfl (hg_1_8) rfl ?_
   refine AK.pass rfl rfl (hg_1_8) rfl ?_
   refine AK.pass rfl rfl (hg_1_8) rfl ?_
   refine .v (.pickT rfl (hg_1_8) rfl) ?_
   refine .nt hK3 ?_
   refine AK.cond_t rfl (rfl) ?_
   refine .sr fun _ hK5 => ?_
   refine .as rfl (.nt hK5 (.ret (.then_ret ?_)))
   refine AK.ret1 rfl rfl (fun w hw => ⟨_, _, ?_, rfl, Ret.of (hw.pick [] (by decide) rfl rfl)⟩)
   refine ⟨false, rfl, ⟨fun h => (by cases h), fun h => ?_⟩, rfl⟩
   exfalso
   have k1 := (errV_iff d).2 h.vd
   have k2 := (errV_iff m).2 h.vm
   have k3 := h.L
   first | (simp_all; done) | omega
  ·have hg_1_8' := hg_1_8
   try simp only [bs] at hg_1_8'
   refine AK.val _ (Yl.fieldAddr fd25_0 rfl) ⟨_, rfl, gB hg_1_8⟩ rfl ?_
   refine AK.val _ (Yl.loadBox on3 rfl bsp rfl) ⟨_, rfl, gB hg_1_8⟩ rfl ?_
   refine AK.val _ (Yl.fieldAddr fd25_0 rfl) ⟨_, rfl, gB hg_1_8⟩ rfl ?_
   refine AK.val _ (Yl.loadBox on3 rfl bsp rfl) ⟨_, rfl, gB hg_1_8⟩ rfl ?_
   refine AK.val _ (Yl.neq rfl rfl) ⟨_, rfl, gB hg_1_8⟩ rfl ?_
   refine .v (.pickF rfl (hg_1_8) rfl) ?_
   refine .nt hK3 ?_
   refine AK.condNe rfl (fun hc0 => ?_) (fun hc0 => ?_)
   ·refine .sr fun _ hK6 => ?_
    refine .as rfl (.nt hK6 (.ret (.then_ret ?_)))
    refine AK.ret1 rfl rfl (fun w hw => ⟨_, _, ?_, rfl, Ret.of (hw.pick [] (by decide) rfl rfl)⟩)
    refine ⟨false, rfl, ⟨fun h => (by cases h), fun h => ?_⟩, rfl⟩
    exfalso
    have k1 := (errV_iff d).2 h.vd
    have k2 := (errV_iff m).2 h.vm
    have k3 := h.L
    first | (simp_all; done) | omega
   ·have hv : VD d := (errV_iff d).1 (by simpa using hg_1_3')
    have hvm : VD m := (errV_iff m).1 (by simpa using hg_1_8')
    have hLL : d.L = m.L := by simpa using hc0
    refine .skip ?_
    refine AK.then_ (hK2 _ ?_)
    refine .sr fun _ hK7 => ?_
    refine .v (.loadBoxG ag25 rfl bsp rfl rfl) ?_
    refine .v (.loadBoxG ag25 rfl bsp rfl rfl) ?_
    refine .v (.fieldAddr fd31_0 rfl) ?_
    refine .v (.loadBox on28 rfl bsp rfl) ?_
    refine AK.call co24 rfl (fun w hw => s_checkmap w _ d (h0.at hw) _ m (k0.at hw) hv hvm hLL _ mp (hp0.at hw)) trivial rfl ?_
    rintro r o ⟨b1, rfl, hb1, rfl⟩
    refine .mv rfl ?_
    refine AK.splitB (g := 27) rfl (fun hg_3_5 => ?_) (fun hg_3_5 => ?_)
    ·have hg_3_5' := hg_3_5
     try simp only [bs] at hg_3_5'
     refine AK.val _ (Yl.loadBoxG ag25 rfl bsp rfl rfl) ⟨_, rfl, gB hg_3_5⟩ rfl ?_
     refine AK.val _ (Yl.fieldAddr fd31_1 rfl) ⟨_, rfl, gB hg_3_5⟩ rfl ?_
     refine AK.val _ (Yl.loadBox on29 rfl bsp rfl) ⟨_, rfl, gB hg_3_5⟩ rfl ?_
     refine AK.call co25 rfl (fun w hw => s_checkacc w _ m (k0.at hw) hvm _ ac (ha0.at hw) hla) ⟨_, rfl, gB hg_3_5⟩ rfl ?_
     rintro r o ⟨b2, rfl, hb2, rfl⟩
     refine .v (.pickT rfl (hg_3_5) rfl) ?_
     refine .mv rfl ?_
     refine AK.splitB (g := 33) rfl (fun hg_3_11 => ?_) (fun hg_3_11 => ?_)
     ·have hg_3_11' := hg_3_11
      try simp only [bs] at hg_3_11'
      refine AK.val _ (Yl.loadBoxG ag25 rfl bsp rfl rfl) ⟨_, rfl, gB hg_3_11⟩ rfl ?_
      refine AK.val _ (Yl.fieldAddr fd31_2 rfl) ⟨_, rfl, gB hg_3_11⟩ rfl ?_
      refine AK.val _ (Yl.loadBox on29 rfl bsp rfl) ⟨_, rfl, gB hg_3_11⟩ rfl ?_
      refine AK.call co26 rfl (fun w hw => s_checktests w _ m (k0.at hw) hvm _ ts (ht0.at hw) hlt) ⟨_, rfl, gB hg_3_11⟩ rfl ?_
      rintro r o ⟨b3, rfl, hb3, rfl⟩
      refine .v (.pickT rfl (hg_3_11) rfl) ?_
      refine .as rfl (.nt hK7 (.ret ?_))
      refine AK.ret1 rfl rfl (fun w hw => ⟨_, _, ?_, rfl, Ret.of (hw.pick [] (by decide) rfl rfl)⟩)
      exact ⟨_, rfl, ⟨fun h => (by first | (cases h; done) | exact ⟨hv, hvm, hLL, hb1.1 (by assumption), hb2.1 (by assumption), hb3.1 h⟩), fun h => (by have k1 := hb1.2 h.map; first | exact nomatch k1.symm.trans (‹b1 = false›) | (have k2 := hb2.2 h.acc; first | exact nomatch k2.symm.trans (‹b2 = false›) | exact hb3.2 h.tst))⟩, rfl⟩
     ·have hg_3_11' := hg_3_11
      try simp only [bs] at hg_3_11'
      refine AK.pass rfl rfl (hg_3_11) rfl ?_
      refine AK.pass rfl rfl (hg_3_11) rfl ?_
      refine AK.pass rfl rfl (hg_3_11) rfl ?_
      refine AK.pass rfl rfl (hg_3_11) rfl ?_
      refine .v (.pickF rfl (hg_3_11) rfl) ?_
      refine .as rfl (.nt hK7 (.ret ?_))
      refine AK.ret1 rfl rfl (fun w hw => ⟨_, _, ?_, rfl, Ret.of (hw.pick [] (by decide) rfl rfl)⟩)
      exact ⟨_, rfl, ⟨fun h => (by first | (cases h; done) | exact ⟨hv, hvm, hLL, hb1.1 (by assumption), hb2.1 (by assumption), hb3.1 h⟩), fun h => (by have k1 := hb1.2 h.map; first | exact nomatch k1.symm.trans (‹b1 = false›) | (have k2 := hb2.2 h.acc; first | exact nomatch k2.symm.trans (‹b2 = false›) | exact hb3.2 h.tst))⟩, rfl⟩
    ·have hg_3_5' := hg_3_5
     try simp only [bs] at hg_3_5'
     refine AK.pass rfl rfl (hg_3_5) rfl ?_
     refine AK.pass rfl rfl (hg_3_5) rfl ?_
     refine AK.pass rfl rfl (hg_3_5) rfl ?_
     refine AK.pass rfl rfl (hg_3_5) rfl ?_
     refine .v (.pickF rfl (hg_3_5) rfl) ?_
     refine .mv rfl ?_
     refine AK.pass rfl rfl rfl rfl ?_
     refine AK.pass rfl rfl rfl rfl ?_
     refine AK.pass rfl rfl rfl rfl ?_
     refine AK.pass rfl rfl rfl rfl ?_
     refine .v (.pickF rfl (rfl) rfl) ?_
     refine .as rfl (.nt hK7 (.ret ?_))
     refine AK.ret1 rfl rfl (fun w hw => ⟨_, _, ?_, rfl, Ret.of (hw.pick [] (by decide) rfl rfl)⟩)
     exact ⟨_, rfl, ⟨fun h => (by first | (cases h; done) | exact ⟨hv, hvm, hLL, hb1.1 (by assumption), hb2.1 (by assumption), hb3.1 h⟩), fun h => (by have k1 := hb1.2 h.map; first | exact nomatch k1.symm.trans (‹b1 = false›) | (have k2 := hb2.2 h.acc; first | exact nomatch k2.symm.trans (‹b2 = false›) | exact hb3.2 h.tst))⟩, rfl⟩

section
open Go.ChangeShapes Go.WideShapes Go.ChangeAt
variable {H : Type} {enc : TypeId × Value → H} {P : Program} {W : World}
end

end Go.Proofs.YtafldkjdeompjaaGreatDoor
