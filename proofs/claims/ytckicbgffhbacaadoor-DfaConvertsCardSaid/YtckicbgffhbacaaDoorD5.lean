import Derived.Test.YtckicbgffhbacaaDoorD4
set_option linter.unusedVariables false
set_option linter.unusedSimpArgs false
namespace Go.Proofs.YtckicbgffhbacaaDoor
open Go.Sx Go.RowKit
set_option maxRecDepth 100000 in
theorem s_sameS (w : World) (u v : Value) (xs ys : List (List UInt8)) (hu : RdL (fun _ => False) sv w u xs) (hv : RdL (fun _ => False) sv w v ys) : CallS Tryd.prog 21 [u, v] w (fun r o => r = .bool (decide (xs = ys)) ∧ o = []) := by
 have hb := hu.le
 unfold RdL at hu hv
 refine spec_of Tryd.func21 rfl (Nat.le_of_ble_eq_true rfl) ?_
 refine .sr fun _ hK1 => ?_
 refine .as rfl (.nt hK1 ?_)
 refine .seq fun _ hK2 => ?_
 refine .sr fun _ hK3 => ?_
 refine .mv rfl ?_
 refine .v (.lenR sl54 rfl rdp) ?_
 refine .mv rfl ?_
 refine .v (.lenR sl54 rfl rdp) ?_
 refine .v (.neq rfl rfl) ?_
 refine .nt hK3 ?_
 refine AK.condNe rfl (fun hc0 => ?_) (fun hc0 => ?_)
 ·refine .sr fun _ hK4 => ?_
  refine .as rfl (.nt hK4 (.ret (.then_ret ?_)))
  refine AK.ret1 rfl rfl (fun w hw => ⟨_, _, ?_, rfl, Ret.of (hw.pick [] (by decide) rfl rfl)⟩)
  exact ⟨by simp; intro e; subst e; omega, rfl⟩
 ·refine .skip ?_
  refine AK.then_ (hK2 _ ?_)
  refine .seq fun _ hK5 => ?_
  refine .sr fun _ hK6 => ?_
  refine .mv rfl ?_
  refine .v (.lenR sl54 rfl rdp) ?_
  refine .mv rfl (.nt hK6 (.block ?_))
  refine AK.loopK (X := Nat) [(0, _), (1, _), (12, _)] (fun k => [(13, .int .i64 (k : Int))]) (fun k => []) (fun k => k ≤ xs.length ∧ xs.length = ys.length ∧ xs.take k = ys.take k) (fun k => xs.length - k) (0) slr ?_ ?_ ?_ ?_
  ·exact ⟨Nat.zero_le _, by omega, by simp⟩
  ·exact slr
  ·exact fun w hw => hw
  ·intro k hg0 _ hK7
   obtain ⟨hk, hl, ht⟩ := hg0
   refine .sr fun _ hK8 => ?_
   refine .v (.lss rfl rfl) ?_
   refine .nt hK8 ?_
   refine .seq fun _ hK9 => ?_
   refine AK.condD rfl (fun hc1 => ?_) (fun hc1 => ?_)
   ·refine .skip ?_
    refine AK.then_ (hK9 _ ?_)
    refine .seq fun _ hK10 => ?_
    refine .block ?_
    refine .sr fun _ hK11 => ?_
    refine .mv rfl (.as rfl (.nt hK11 ?_))
    refine .seq fun _ hK12 => ?_
    refine AK.quiet mixed krf ?_
    refine .mv rfl (.mv rfl ?_)
    first | refine .v (.iN sl54 rfl rfl) ?_ | refine .v (.iK sl54 rfl rfl) ?_
    refine .v (.loadS on9 rfl rdp (by omega)) ?_
    refine .mv rfl (.mv rfl ?_)
    first | refine .v (.iN sl54 rfl rfl) ?_ | refine .v (.iK sl54 rfl rfl) ?_
    refine .v (.loadS on9 rfl rdp (by omega)) ?_
    refine .v (.neqS un9 rfl rfl) ?_
    refine QK.nil (QK.fin ?_)
    refine AK.then_ (hK12 _ ?_)
    refine AK.condNe rfl (fun hc2 => ?_) (fun hc2 => ?_)
    ·refine .sr fun _ hK13 => ?_
     refine .as rfl (.nt hK13 (.ret (.block_ret (.then_ret (.then_ret (.block_ret (.then_ret ?_)))))))
     refine AK.ret1 rfl rfl (fun w hw => ⟨_, _, ?_, rfl, Ret.of (hw.pick [] (by decide) rfl rfl)⟩)
     exact ⟨by simp; intro e; subst e; simp at *, rfl⟩
    ·refine .skip (.block_normal ?_)
     refine AK.then_ (hK10 _ ?_)
     refine AK.region ?_
     refine .v (.add rfl rfl (by omega)) ?_
     refine .mv rfl (.nil ?_)
     refine AK.then_ (hK7 _ _ (k + 1) ⟨by omega, by omega, (beq_takeD [] hl k (by omega) ht).2 (by assumption)⟩ (by omega) (slr) (fun w hw => hw))
   ·refine .exit (.then_exit (.then_exit (.block_exit ?_)))
    refine AK.then_ (hK5 _ ?_)
    refine .sr fun _ hK14 => ?_
    refine .as rfl (.nt hK14 (.ret ?_))
    refine AK.ret1 rfl rfl (fun w hw => ⟨_, _, ?_, rfl, Ret.of (hw.pick [] (by decide) rfl rfl)⟩)
    have : k = xs.length := by omega
    subst this
    exact ⟨by simp; rw [List.take_length, hl, List.take_length] at ht; exact ht, rfl⟩

def oddD : Dfa := ⟨2, 0, [false, true], [[1, 0], [0, 1]]⟩
set_option maxRecDepth 100000 in
theorem s_odd (w : World) : CallS Tryd.prog 23 [] w (fun r o => DfaR 4 3 41 r o oddD) := by
 refine spec_of Tryd.func23 rfl (Nat.le_of_ble_eq_true rfl) ?_
 refine .sr fun _ hK1 => ?_
 refine AK.alloc el32 rfl rfl trivial rfl (fun bx0 => ?_)
 refine .nt hK1 ?_
 refine .sr fun _ hK2 => ?_
 refine AK.lit (xs := [.const (.bool false), .const (.bool true)]) sl29 el4 rfl rfl rfl (by simp [Value.cells]) (by decide) (by decide) trivial rfl (fun vf => ?_)
 refine AK.shape 1 rfl (fun sf => ?_)
 refine AK.lit (xs := [.const (.int .i64 1), .const (.int .i64 0)]) sl41 el3 rfl rfl rfl (by simp [Value.cells]) (by decide) (by decide) trivial rfl (fun r1 => ?_)
 refine AK.shape 2 rfl (fun s1 => ?_)
 refine AK.lit (xs := [.const (.int .i64 0), .const (.int .i64 1)]) sl41 el3 rfl rfl rfl (by simp [Value.cells]) (by decide) (by decide) trivial rfl (fun r2 => ?_)
 refine AK.shape 3 rfl (fun s2 => ?_)
 refine AK.lit (xs := [.tmp 2, .tmp 3]) sl30 el41 rfl rfl rfl (by intro a ha; simp at ha; rcases ha with rfl | rfl; (rw [s1.cells]; rfl); (rw [s2.cells]; rfl)) (by decide) (by decide) trivial rfl (fun vn => ?_)
 refine AK.shape 4 rfl (fun sn => ?_)
 refine .v (.build (parts := [(0, .const (.int .i64 2)), (2, .tmp 1), (3, .tmp 4)]) (cs := #[.int .i64 2, .int .i64 0, vf, vn]) rfl (by obtain ⟨_, _, _, rfl⟩ := sf; obtain ⟨_, _, _, rfl⟩ := sn; kernel_rfl)) ?_
 refine AK.storeBox 0 (us := [.int .i64 2, .int .i64 0, vf, vn]) (cs' := [.int .i64 2, .int .i64 0, vf, vn]) rfl sz32 rfl rfl rfl rfl oneP (Nat.le_of_ble_eq_true rfl) rfl trivial ?_
 refine .nt hK2 (.ret ?_)
 refine AK.own' (dfaO 4 3 41 vf vn [r1, r2] oddD ++ [box bx0 32 4 [.int .i64 2, .int .i64 0, vf, vn]]) (fun w hw => by have e : [r1, r2].flatMap (·.cells.toList) = [r1, r2] := (by simp [s1.cells, s2.cells]); rw [e] at hw; have h2 := hw.pick [1, 4, 0, 2, 3] (by decide) rfl rfl; have h3 := HW.pick (HW.unflat (l := [_, _]) (own := [_, _, _]) (HW.pick h2 [3, 4, 0, 1, 2] (by decide) rfl rfl)) [1, 2, 0, 3] (by decide) rfl rfl; exact h3) ?_
 refine AK.retG [.cell 0 32] rfl (.cons (.cell ag32 rfl bsp rfl rfl) (.nil)) (fun w hw => ⟨_, _, ?_, rfl, Ret.of (hw.pick [0, 1, 2] (by decide) rfl rfl)⟩)
 exact ⟨vf, vn, [r1, r2], rfl, rfl, sf, sn, rfl⟩

def oddW : List (List UInt8) := [[97], [97, 98], [98, 97]]
theorem wk_small {d : Dfa} {n k : Nat} (h : n ≤ (wk d n k).length) (hk : k ≤ 2049) : wk d n 2049 = wk d n k := wk_end hk (.inr h)
theorem odd_words : WordsV oddD 3 = oddW := by
  unfold WordsV
  rw [if_pos (by decide)]
  show wk oddD 3 2049 = oddW
  rw [wk_small (k := 3) (by decide) (by decide)]
  decide
set_option maxRecDepth 100000 in
theorem s_awake (w : World) : CallS Tryd.prog 7 [] w (fun r o => r = .bool true ∧ o = []) := by
 refine spec_of Tryd.func7 rfl (Nat.le_of_ble_eq_true rfl) ?_
 refine .sr fun _ hK1 => ?_
 refine .as rfl (.nt hK1 ?_)
 refine .sr fun _ hK2 => ?_
 refine AK.call co23 rfl (fun w hw => s_odd w) trivial rfl ?_
 rintro r o ⟨vF, vN, rs, rfl, hrl, sF, sN, rfl⟩
 refine AK.call co22 rfl (fun w hw => s_words w _ oddD (RdD.own 0 hw hrl rfl rfl rfl) 3) trivial rfl ?_
 rintro r o rfl
 refine AK.lit (xs := [.const (sv [97]), .const (sv [97, 98]), .const (sv [98, 97])]) sl54 el9 rfl rfl rfl (by intro a ha; simp at ha; rcases ha with rfl | rfl | rfl <;> rfl) (by decide) (by decide) trivial rfl (fun lv => ?_)
 refine AK.call co21 rfl (fun w hw => s_sameS w r lv (WordsV oddD 3) oddW (RdL.own 3 hw rfl) (RdL.own 4 hw rfl)) trivial rfl ?_
 rintro r2 o2 ⟨rfl, rfl⟩
 refine .as rfl (.nt hK2 (.ret ?_))
 refine AK.ret1 rfl rfl (fun w hw => ⟨_, _, ?_, rfl, Ret.of (hw.pick [] (by decide) rfl rfl)⟩)
 exact ⟨congrArg Value.bool (decide_eq_true odd_words), rfl⟩

end Go.Proofs.YtckicbgffhbacaaDoor
