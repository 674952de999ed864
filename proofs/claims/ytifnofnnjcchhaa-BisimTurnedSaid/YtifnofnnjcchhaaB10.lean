import Derived.Test.YtifnofnnjcchhaaQ1
import Derived.Test.YtifnofnnjcchhaaD2
import Derived.Test.YtifnofnnjcchhaaBd
set_option linter.unusedVariables false
set_option linter.unusedSimpArgs false
namespace Go.Proofs.Ytifnofnnjcchhaa
open Go.Sx Go.RowKit Go.Sx.Pt
section
variable {C : Cx} {sl : List (Nat × Value)} {own : List Asn} {dst : Option Nat} {ty : TypeId} {pos : String} {aft : Array Edge} {g : Option (Nat × Bool)}
def slFrom (sz : Nat) (v : Value) (k : Nat) : Value := match v with
  | .slice a n c => .slice (if c = k then a else a.map (·.add (k * sz))) (n - k) (c - k)
  | v => v
def CapOk (C : Cx) (own : List Asn) (v : Value) (n : Nat) : Prop := ∀ w, HW C own w → ∃ ao c, v = .slice ao n c ∧ n ≤ c
theorem CapOk.big {l : List Asn} {v : Value} {E : TypeId} {sz n : Nat} {cs : List Value} (j i : Nat) (hj : own[j]? = some (bigA l)) (hi : l[i]? = some (row v E sz n cs)) : CapOk C own v n := fun w hw => by
  obtain ⟨_, Fs, hh, _⟩ := hw
  obtain ⟨Gs, gh, _⟩ := hh.at_ j _ hj
  obtain ⟨hown, _⟩ := gh.at_ i _ hi
  rcases hown.2 with ⟨rfl, rfl⟩ | ⟨gb, cp, cur, rfl, _, _, hnc, _⟩
  · exact ⟨none, 0, rfl, Nat.le_refl _⟩
  · exact ⟨_, cp, rfl, hnc⟩
theorem Yl.sliceFrom (k : Nat) {x h : Operand} {t E : TypeId} {sz n : Nat} {v : Value} (hc : CapOk C own v n) (ht : SlT C.P t E sz) (hx : opv ⟨sl, own⟩ x = some v) (hh : opv ⟨sl, own⟩ h = some (.int .i64 (k : Int))) (hk : k ≤ n) :
    Yl C ⟨sl, own⟩ ⟨dst, .slice t x (some h) none none, ty, pos, aft, g⟩ (slFrom sz v k) :=
  fun a w hs => by
    obtain ⟨inf, hi1, hi2⟩ := ht.inf
    obtain ⟨ao, c, rfl, hnc⟩ := hc w hs.world
    have h1 : (0 : Int) ≤ (k : Int) ∧ (k : Int) ≤ (n : Int) := by omega
    simp only [execOp, opv_eval hs hx, Option.map_none, Option.map_some, opv_eval hs hh]
    simp [Instr.sliceAt, Instr.slice, Instr.sliceBounds, Instr.sliceBound, asIntOf, run_underlying ht.1, h1.1, h1.2, sizeOf, typeInfo, hi1, slFrom, hi2, hk]
theorem RdS.from {sz n : Nat} {v : Value} {cs : List Value} {k : Nat} (hr : RdS C own v sz n cs) (hc : CapOk C own v n) (hk : k ≤ n) : RdS C own (slFrom sz v k) sz (n - k) (cs.drop (k * sz)) := fun w hw => by
  obtain ⟨oa, cap, rfl, h1, h2, h3, h4⟩ := hr w hw
  obtain ⟨ao, c, e, hnc⟩ := hc w hw
  cases e
  refine ⟨_, _, rfl, by omega, by rw [List.length_drop, h2, ← Nat.sub_mul], fun h5 h6 => ?_, fun a j u ha hj => ?_⟩
  · have := h3 (by omega) h6
    split
    · exact this
    · simpa using this
  · by_cases e : cap = k
    · have : n - k = 0 := by omega
      have hl : (cs.drop (k * sz)).length = 0 := by rw [List.length_drop, h2, ← Nat.sub_mul, this, Nat.zero_mul]
      rw [List.eq_nil_of_length_eq_zero hl] at hj
      cases hj
    · rw [if_neg e] at ha
      cases oa with
      | none => cases ha
      | some a0 =>
        simp only [Option.map_some, Option.some.injEq] at ha
        subst ha
        rw [List.getElem?_drop] at hj
        have := h4 a0 (k * sz + j) u rfl hj
        refine ⟨trivial, ?_⟩
        rw [Addr.add_add]; exact this.2
/-- a row of its own, or nothing -/
def rowX (E : TypeId) (b : Bool) (v : Value) (ys : List Int) : Asn := if b = true then bigA [] else row v E 1 ys.length (ys.map (Value.int .i64))
theorem RdS.rowX {E : TypeId} {b : Bool} {v : Value} {ys : List Int} (i : Nat) (hi : own[i]? = some (rowX E b v ys)) (h : b = true → RdS C own v 1 ys.length (ys.map (Value.int .i64))) : RdS C own v 1 ys.length (ys.map (Value.int .i64)) := by
  cases b with
  | true => exact h rfl
  | false => exact RdS.own (E := E) i hi
theorem Rd.at0 {v : Value} {sz n : Nat} {cs : List Value} {w : World} (h : Rd (fun b => ¬ C.S b) C.W0 v sz n cs) (hw : HW C own w) : Rd (fun b => ¬ (fun _ => False) b) w v sz n cs := Rd.keep h hw.frame (fun _ _ _ => id)
theorem AK.ghostE {K : Act → World → Prop} (h : AK C ⟨sl, own ++ [bigA []]⟩ K) : AK C ⟨sl, own⟩ K := fun a w hs => h a w ⟨hs.size, hs.defers, hs.slot, hs.world.ghostBig [] (fun i A h => by simp at h)⟩
end
set_option maxHeartbeats 1000000 in
set_option maxRecDepth 100000 in
theorem s_row (w : World) (a b : Dfa) (aF aN bF bN : Value) (ra rb : List Value) (haF : Rd (fun b => ¬ (fun _ => False) b) w aF 1 a.fin.length (a.fin.map Value.bool)) (hbF : Rd (fun b => ¬ (fun _ => False) b) w bF 1 b.fin.length (b.fin.map Value.bool)) (haNr : Rd (fun b => ¬ (fun _ => False) b) w aN 1 a.nx.length ra) (hbNr : Rd (fun b => ¬ (fun _ => False) b) w bN 1 b.nx.length rb) (haNi : ∀ i, i < a.nx.length → RdL (fun _ => False) (Value.int .i64) w (ra.getD i undef) (a.nx.getD i [])) (hbNi : ∀ i, i < b.nx.length → RdL (fun _ => False) (Value.int .i64) w (rb.getD i undef) (b.nx.getD i [])) (hra : ra.length = a.nx.length) (hrb0 : rb.length = b.nx.length) (ha : VD a) (hb : VD b) (s : Int) (hs : 0 ≤ s ∧ s < a.fin.length + b.fin.length) : CallS Try.prog 47 [.agg #[.int .i64 a.L, .int .i64 a.s, aF, aN], .agg #[.int .i64 b.L, .int .i64 b.s, bF, bN], .int .i64 s] w (fun r o => ∃ nv, r = .tuple #[.bool (fB a b s.toNat), nv] ∧ (s < a.fin.length → nv = ra.getD s.toNat undef) ∧ o = [rowX 3 (decide (s < a.fin.length)) nv ((bothD a b).nx.getD s.toNat [])]) := by
 have hax := ha.nx
 have hbx := hb.nx
 have hna := ha.n
 have hnb := hb.n
 have hbL := hb.L
 have hs1 := hs.1
 have hs2 := hs.2
 refine spec_of Try.func47 rfl (Nat.le_of_ble_eq_true rfl) ?_
 refine .sr fun _ hK1 => ?_
 refine AK.box_ (E := 25) (cs := [.int .i64 a.L, .int .i64 a.s, aF, aN]) rfl rfl rfl trivial rfl (fun bx3 => ?_)
 refine AK.box_ (E := 25) (cs := [.int .i64 b.L, .int .i64 b.s, bF, bN]) rfl rfl rfl trivial rfl (fun bx4 => ?_)
 refine .as rfl (.as rfl (.nt hK1 ?_))
 refine .seq fun _ hK2 => ?_
 refine .sr fun _ hK3 => ?_
 refine .mv rfl ?_
 refine .v (.fieldAddr fd25_2 rfl) ?_
 refine .v (.loadBox on22 rfl bsp rfl) ?_
 refine .v (.lenR sl22 rfl (by first | exact rdp | exact .arg (haNi _ (by omega)) | exact .arg (hbNi _ (by omega)))) ?_
 refine .v (.lss rfl rfl) ?_
 refine .nt hK3 ?_
 refine AK.condD rfl (fun hc0 => ?_) (fun hc0 => ?_)
 ·refine .seq fun _ hK4 => ?_
  refine AK.quiet mixed krf ?_
  refine .v (.fieldAddr fd25_2 rfl) ?_
  refine .v (.loadBox on22 rfl bsp rfl) ?_
  refine .mv rfl ?_
  first | refine .v (.iN sl22 rfl rfl (hr := (by first | exact rdp | exact .arg (haNi _ (by omega)) | exact .arg (hbNi _ (by omega))))) ?_ | refine .v (.iK sl22 rfl rfl (hr := (by first | exact rdp | exact .arg (haNi _ (by omega)) | exact .arg (hbNi _ (by omega))))) ?_
  refine .v (.loadB on4 rfl (by first | exact rdp | exact .arg (haNi _ (by omega)) | exact .arg (hbNi _ (by omega))) (by omega)) ?_
  refine .v (.fieldAddr fd25_3 rfl) ?_
  refine .v (.loadBox on23 rfl bsp rfl) ?_
  refine .mv rfl ?_
  first | refine .v (.iN sl23 rfl rfl (hr := (by first | exact rdp | exact .arg (haNi _ (by omega)) | exact .arg (hbNi _ (by omega))))) ?_ | refine .v (.iK sl23 rfl rfl (hr := (by first | exact rdp | exact .arg (haNi _ (by omega)) | exact .arg (hbNi _ (by omega))))) ?_
  refine .v (.loadV on26 rfl (by first | exact rdp | exact .arg (haNi _ (by omega)) | exact .arg (hbNi _ (by omega))) (by omega)) ?_
  refine .as rfl (.as rfl ?_)
  refine QK.nil (QK.fin ?_)
  refine AK.then_ (hK4 _ ?_)
  refine .ret (.then_ret ?_)
  refine AK.ghostE ?_
  refine AK.ret2 rfl rfl rfl (fun w hw => ⟨_, _, ?_, rfl, Ret.of (hw.pick [2] (by decide) rfl rfl)⟩)
  refine ⟨_, ?_, fun _ => rfl, ?_⟩
  ·have e : fB a b s.toNat = a.fin.getD s.toNat false := by unfold fB finQ; rw [if_pos (by omega), Int.toNat_natCast]
   rw [e]
  ·unfold rowX; rw [if_pos (decide_eq_true hc0)]; rfl
 ·have hrb := hb.row (s.toNat - a.fin.length) (by omega)
  have ei : (s - (a.fin.length : Int)).toNat = s.toNat - a.fin.length := by omega
  refine .skip ?_
  refine AK.then_ (hK2 _ ?_)
  refine .sr fun _ hK5 => ?_
  refine .v (.fieldAddr fd25_0 rfl) ?_
  refine AK.val (.int .i64 (((b.nx.getD (s.toNat - a.fin.length) []).length : Nat) : Int)) (Yl.valE (Yl.loadBox on3 rfl bsp rfl) (congrArg (Value.int .i64) hrb.symm)) trivial rfl ?_
  refine AK.make1 (n := (b.nx.getD (s.toNat - a.fin.length) []).length) sl26 el3 rfl rfl rfl (by omega) (by omega) trivial rfl (fun mv => ?_)
  refine .as rfl (.nt hK5 ?_)
  refine .seq fun _ hK6 => ?_
  refine .sr fun _ hK7 => ?_
  refine .v (.fieldAddr fd25_3 rfl) ?_
  refine .v (.loadBox on23 rfl bsp rfl) ?_
  refine .mv rfl ?_
  refine .v (.fieldAddr fd25_2 rfl) ?_
  refine .v (.loadBox on22 rfl bsp rfl) ?_
  refine .v (.lenR sl22 rfl (by first | exact rdp | exact .arg (haNi _ (by omega)) | exact .arg (hbNi _ (by omega)))) ?_
  refine .v (.sub rfl rfl (by omega)) ?_
  first | refine .v (.iN sl23 rfl rfl (hr := (by first | exact rdp | exact .arg (haNi _ (by omega)) | exact .arg (hbNi _ (by omega))))) ?_ | refine .v (.iK sl23 rfl rfl (hr := (by first | exact rdp | exact .arg (haNi _ (by omega)) | exact .arg (hbNi _ (by omega))))) ?_
  refine AK.val (rb.getD (s.toNat - a.fin.length) undef) (Yl.valE (Yl.loadV on26 rfl rdp (by omega)) (by rw [ei])) trivial rfl ?_
  refine .v (.lenR sl26 rfl (by first | exact rdp | exact .arg (haNi _ (by omega)) | exact .arg (hbNi _ (by omega)))) ?_
  refine .mv rfl (.nt hK7 (.block ?_))
  refine AK.loopK (X := Nat) [(2, _), (3, _), (4, _), (8, _), (37, _), (38, _)] (fun k => [(39, .int .i64 (k : Int))]) (fun k => [box bx3 25 4 [.int .i64 a.L, .int .i64 a.s, aF, aN], box bx4 25 4 [.int .i64 b.L, .int .i64 b.s, bF, bN], row mv 3 1 (b.nx.getD (s.toNat - a.fin.length) []).length ((((b.nx.getD (s.toNat - a.fin.length) []).take k).map (fun t => (a.fin.length : Int) + t) ++ List.replicate ((b.nx.getD (s.toNat - a.fin.length) []).length - k) 0).map (Value.int .i64))]) (fun k => k ≤ (b.nx.getD (s.toNat - a.fin.length) []).length) (fun k => (b.nx.getD (s.toNat - a.fin.length) []).length - k) (0) slr ?_ ?_ ?_ ?_
  ·exact Nat.zero_le _
  ·exact slr
  ·exact fun w hw => by simpa using hw
  ·intro k hg0 _ hK8
   refine .sr fun _ hK9 => ?_
   refine .v (.lss rfl rfl) ?_
   refine .nt hK9 ?_
   refine .seq fun _ hK10 => ?_
   refine AK.condD rfl (fun hc1 => ?_) (fun hc1 => ?_)
   ·have htb := hb.to (s.toNat - a.fin.length) k (by omega) (by omega)
    refine .skip ?_
    refine AK.then_ (hK10 _ ?_)
    refine .seq fun _ hK11 => ?_
    refine .block ?_
    refine .sr fun _ hK12 => ?_
    refine .mv rfl ?_
    first | refine .v (.iN sl26 rfl rfl (hr := (by first | exact rdp | exact .arg (haNi _ (by omega)) | exact .arg (hbNi _ (by omega))))) ?_ | refine .v (.iK sl26 rfl rfl (hr := (by first | exact rdp | exact .arg (haNi _ (by omega)) | exact .arg (hbNi _ (by omega))))) ?_
    refine .v (.loadI on3 rfl (by first | exact rdp | exact .arg (haNi _ (by omega)) | exact .arg (hbNi _ (by omega))) (by omega)) ?_
    refine .as rfl (.as rfl (.nt hK12 ?_))
    refine AK.region ?_
    refine .mv rfl (.mv rfl ?_)
    refine .v (.fieldAddr fd25_2 rfl) ?_
    refine .v (.loadBox on22 rfl bsp rfl) ?_
    refine .v (.lenR sl22 rfl (by first | exact rdp | exact .arg (haNi _ (by omega)) | exact .arg (hbNi _ (by omega)))) ?_
    refine .mv rfl ?_
    refine .v (.add rfl rfl (by omega)) ?_
    first | refine .v (.iN sl26 rfl rfl (hr := (by first | exact rdp | exact .arg (haNi _ (by omega)) | exact .arg (hbNi _ (by omega))))) ?_ | refine .v (.iK sl26 rfl rfl (hr := (by first | exact rdp | exact .arg (haNi _ (by omega)) | exact .arg (hbNi _ (by omega))))) ?_
    refine AK.store1e 2 rfl sz3 rfl rfl rfl rfl (by omega) (cs' := ((((b.nx.getD (s.toNat - a.fin.length) []).take (k + 1)).map (fun t => (a.fin.length : Int) + t) ++ List.replicate ((b.nx.getD (s.toNat - a.fin.length) []).length - (k + 1)) 0).map (Value.int .i64))) (by rw [take_snocD 0 (b.nx.getD (s.toNat - a.fin.length) []) k (by omega), List.map_append (f := (fun t => (a.fin.length : Int) + t))]; exact fill_set (Value.int .i64) ((b.nx.getD (s.toNat - a.fin.length) []).take k |>.map (fun t => (a.fin.length : Int) + t)) 0 ((a.fin.length : Int) + (b.nx.getD (s.toNat - a.fin.length) []).getD k 0) (b.nx.getD (s.toNat - a.fin.length) []).length k (by rw [List.length_map, List.length_take]; omega) (by omega)) trivial ?_
    refine .nil (.block_normal ?_)
    refine AK.then_ (hK11 _ ?_)
    refine AK.region ?_
    refine .v (.add rfl rfl (by omega)) ?_
    refine .mv rfl (.nil ?_)
    refine AK.then_ (hK8 _ _ (k + 1) (by omega) (by omega) (slr) (fun w hw => hw))
   ·refine .exit (.then_exit (.then_exit (.block_exit ?_)))
    refine AK.then_ (hK6 _ ?_)
    refine .sr fun _ hK13 => ?_
    refine .v (.fieldAddr fd25_2 rfl) ?_
    refine .v (.loadBox on22 rfl bsp rfl) ?_
    refine .mv rfl ?_
    refine .v (.fieldAddr fd25_2 rfl) ?_
    refine .v (.loadBox on22 rfl bsp rfl) ?_
    refine .v (.lenR sl22 rfl (by first | exact rdp | exact .arg (haNi _ (by omega)) | exact .arg (hbNi _ (by omega)))) ?_
    refine .v (.sub rfl rfl (by omega)) ?_
    first | refine .v (.iN sl22 rfl rfl (hr := (by first | exact rdp | exact .arg (haNi _ (by omega)) | exact .arg (hbNi _ (by omega))))) ?_ | refine .v (.iK sl22 rfl rfl (hr := (by first | exact rdp | exact .arg (haNi _ (by omega)) | exact .arg (hbNi _ (by omega))))) ?_
    refine .v (.loadB on4 rfl (by first | exact rdp | exact .arg (haNi _ (by omega)) | exact .arg (hbNi _ (by omega))) (by omega)) ?_
    refine .mv rfl (.as rfl (.as rfl (.nt hK13 (.ret ?_))))
    refine AK.ret2 rfl rfl rfl (fun w hw => ⟨_, _, ?_, rfl, Ret.of (hw.pick [2] (by decide) rfl rfl)⟩)
    have e : k = (b.nx.getD (s.toNat - a.fin.length) []).length := by omega
    refine ⟨mv, ?_, fun h => absurd h hc0, ?_⟩
    ·have e2 : fB a b s.toNat = b.fin.getD (s.toNat - a.fin.length) false := by unfold fB finQ; rw [if_neg (by omega), show (((s.toNat : Nat) : Int) - (a.fin.length : Int)).toNat = s.toNat - a.fin.length by omega]
     rw [e2, ← ei]
    ·unfold rowX
     have e3 : ((bothD a b).nx.getD s.toNat []) = (b.nx.getD (s.toNat - a.fin.length) []).map (fun t => (a.fin.length : Int) + t) := by rw [← both_nr ha hb (show s.toNat - a.fin.length < b.fin.length by omega)]; congr 1; omega
     rw [if_neg (by rw [decide_eq_false hc0]; decide), e3, List.length_map, e, List.take_length, Nat.sub_self, List.replicate_zero, List.append_nil]
     rfl

end Go.Proofs.Ytifnofnnjcchhaa
