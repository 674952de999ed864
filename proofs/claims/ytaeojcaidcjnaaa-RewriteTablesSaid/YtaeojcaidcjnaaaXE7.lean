import Derived.Test.YtaeojcaidcjnaaaXTy
import Derived.Test.YtaeojcaidcjnaaaXMP
set_option linter.unusedVariables false
set_option linter.unusedSimpArgs false
namespace Go.Proofs.Ytaeojcaidcjnaaa
open Go.Sx Go.RowKit
set_option maxRecDepth 100000 in
theorem s_revb (w : World) (F : Nat → Prop) (v : Value) (l : List UInt8) (hm : l.length ≤ 9223372036854775807) (hA : (rowZ v 5 l.length (l.map byv)).holds w F) : CallM Try.prog 69 [v] w F (fun r A o => A = rowZ v 5 l.length (l.reverse.map byv) ∧ r = .tuple #[] ∧ o = []) := by
 refine specM_of Try.func69 rfl (Nat.le_of_ble_eq_true rfl) hA ?_
 have hrl := rvK_len l
 refine .sr fun _ hK1 => ?_
 refine .mv rfl ?_
 refine .v (.lenR sl78 rfl (by first | exact rdp | exact (RdS.ownZ 0 rfl))) ?_
 refine .v (.sub rfl rfl (by omega)) ?_
 refine .as rfl (.as rfl (.nt hK1 (.block ?_)))
 refine AK.loopK (X := Nat) [(0, _)] (fun k => [(2, .int .i64 (k : Int)), (3, .int .i64 ((l.length : Int) - 1 - (k : Int)))]) (fun k => [rowZ v 5 l.length ((rvK l k).map byv)]) (fun k => (k : Int) ≤ (l.length : Int) - (k : Int) + 1) (fun k => l.length - k) (0) slr ?_ ?_ ?_ ?_
 ·omega
 ·exact .cons (rfl) (.cons (slI rfl (by omega)) (slr))
 ·exact fun w hw => by rw [rvK_zero]; exact hw
 ·intro k hg0 _ hK2
  refine .seq fun _ hK3 => ?_
  refine .sr fun _ hK4 => ?_
  refine .mv rfl (.mv rfl ?_)
  refine .v (.lss rfl rfl) ?_
  refine .nt hK4 ?_
  refine AK.condD rfl (fun hc0 => ?_) (fun hc0 => ?_)
  ·have hrk := rvK_len l k
   have ej : ((l.length : Int) - 1 - (k : Int)).toNat = l.length - 1 - k := by omega
   have hst := rvK_step (l := l) (k := k) (m := l.length - 1 - k) rfl (by omega)
   refine .skip ?_
   refine AK.then_ (hK3 _ ?_)
   refine .seq fun _ hK5 => ?_
   refine .block ?_
   try (conv => enter [2, 2]; dsimp only [List.set_cons_zero, List.set_cons_succ, List.cons_append, List.nil_append])
   refine AK.held 13 mixed ?_
   refine HeldK.first 0 (fuel := 15) (listed' := (lb 16 1)) _ rfl krf krf rfl (Yl.move rfl) trivial rfl ?_
   refine HeldK.first 1 (fuel := 14) (listed' := (lb 16 3)) _ rfl krf krf rfl (Yl.move rfl) trivial rfl ?_
   refine HeldK.firstP 2 (fuel := 13) (listed' := (lb 16 7)) _ rfl krf krf rfl (PY.move rfl) trivial rfl ?_
   refine HeldK.firstP 3 (fuel := 12) (listed' := (lb 16 15)) _ rfl krf krf rfl (PY.move rfl) trivial rfl ?_
   refine HeldK.first 4 (fuel := 11) (listed' := (lb 16 31)) _ rfl krf krf rfl (Yl.move rfl) trivial rfl ?_
   refine HeldK.first 5 (fuel := 10) (listed' := (lb 16 63)) _ rfl krf krf rfl (Yl.move rfl) trivial rfl ?_
   first | refine HeldK.first 6 (fuel := 9) (listed' := (lb 16 127)) _ rfl krf krf rfl (.iN sl78 rfl rfl (hr := (by first | exact rdp | exact (RdS.ownZ 0 rfl)))) trivial rfl ?_ | refine HeldK.first 6 (fuel := 9) (listed' := (lb 16 127)) _ rfl krf krf rfl (.iK sl78 rfl rfl (hr := (by first | exact rdp | exact (RdS.ownZ 0 rfl)))) trivial rfl ?_
   refine HeldK.first 7 (fuel := 8) (listed' := (lb 16 255)) _ rfl krf krf rfl (Yl.loadBy on5 rfl (by first | exact rdp | exact (RdS.ownZ 0 rfl)) (by omega)) trivial rfl ?_
   refine HeldK.first 8 (fuel := 7) (listed' := (lb 16 511)) _ rfl krf krf rfl (Yl.move rfl) trivial rfl ?_
   refine HeldK.first 9 (fuel := 6) (listed' := (lb 16 1023)) _ rfl krf krf rfl (Yl.move rfl) trivial rfl ?_
   first | refine HeldK.first 10 (fuel := 5) (listed' := (lb 16 2047)) _ rfl krf krf rfl (.iN sl78 rfl rfl (hr := (by first | exact rdp | exact (RdS.ownZ 0 rfl)))) trivial rfl ?_ | refine HeldK.first 10 (fuel := 5) (listed' := (lb 16 2047)) _ rfl krf krf rfl (.iK sl78 rfl rfl (hr := (by first | exact rdp | exact (RdS.ownZ 0 rfl)))) trivial rfl ?_
   refine HeldK.first 11 (fuel := 4) (listed' := (lb 16 4095)) _ rfl krf krf rfl (Yl.loadBy on5 rfl (by first | exact rdp | exact (RdS.ownZ 0 rfl)) (by omega)) trivial rfl ?_
   first | refine HeldK.first 12 (fuel := 3) (listed' := (lb 16 8191)) _ rfl krf krf rfl (.iN sl78 rfl rfl (hr := (by first | exact rdp | exact (RdS.ownZ 0 rfl)))) trivial rfl ?_ | refine HeldK.first 12 (fuel := 3) (listed' := (lb 16 8191)) _ rfl krf krf rfl (.iK sl78 rfl rfl (hr := (by first | exact rdp | exact (RdS.ownZ 0 rfl)))) trivial rfl ?_
   refine HeldK.one 13 (fuel := 2) (listed' := (lb 16 16383)) krf rfl krf ?_
   refine AK.storeZ 0 rfl sz5 rfl rfl rfl rfl (by omega) rfl trivial ?_
   refine .nil ?_
   try (conv => enter [2, 2]; dsimp only [List.set_cons_zero, List.set_cons_succ, List.cons_append, List.nil_append])
   refine HeldK.backN 14 krf rfl krf ?_
   first | refine .v (.iN sl78 rfl rfl (hr := (by first | exact rdp | exact (RdS.ownZ 0 rfl)))) ?_ | refine .v (.iK sl78 rfl rfl (hr := (by first | exact rdp | exact (RdS.ownZ 0 rfl)))) ?_
   refine AK.storeZ 0 (cs' := (rvK l (k + 1)).map byv) rfl sz5 rfl rfl rfl rfl (by omega) (by rw [ej]; exact hst) trivial ?_
   refine .nil ?_
   refine AK.fromQn ?_
   refine .block_normal ?_
   refine AK.then_ (hK5 _ ?_)
   refine AK.region ?_
   refine .mv rfl ?_
   refine .v (.add rfl rfl (by omega)) ?_
   refine .mv rfl ?_
   refine .v (.sub rfl rfl (by omega)) ?_
   refine .as rfl (.as rfl (.nil ?_))
   refine AK.then_ (hK2 _ _ (k + 1) (by omega) (by omega) (.cons (rfl) (.cons (slI rfl (by omega)) (slr))) (fun w hw => hw))
  ·refine .exit (.then_exit (.then_exit (.block_exit ?_)))
   refine AK.endG [] rfl (.nil) (fun w hw => ⟨_, _, _, ?_, rfl, Ret.of (hw.pick [0] (by decide) rfl rfl)⟩)
   rw [rvK_end hc0]
   exact ⟨rfl, rfl, rfl⟩

set_option maxRecDepth 100000 in
theorem s_reverse (w : World) (l : List UInt8) (hm : l.length ≤ 9223372036854775807) : CallS Try.prog 53 [sv l] w (fun r o => r = sv l.reverse ∧ o = []) := by
 refine spec_of Try.func53 rfl (Nat.le_of_ble_eq_true rfl) ?_
 refine .sr fun _ hK1 => ?_
 refine .as rfl (.nt hK1 ?_)
 refine .sr fun _ hK2 => ?_
 refine .mv rfl ?_
 refine AK.toBytes un9 sl78.1 un5 rfl hm trivial rfl (fun bz => ?_)
 refine .as rfl (.nt hK2 ?_)
 refine .sr fun _ hK3 => ?_
 refine .mv rfl ?_
 refine AK.callM 0 rfl co69 rfl (fun w F hw hA => s_revb w F bz l hm hA) trivial rfl ?_
 rintro r A o ⟨rfl, rfl, rfl⟩
 refine .nt hK3 ?_
 refine .sr fun _ hK4 => ?_
 refine .mv rfl ?_
 refine .v (.bytesS sl78.1 un5 un9 rfl (by first | exact rdp | exact (RdS.ownZ 0 rfl))) ?_
 refine .as rfl (.nt hK4 (.ret ?_))
 refine AK.ret1 rfl rfl (fun w hw => ⟨_, _, ?_, rfl, Ret.of (hw.pick [] (by decide) rfl rfl)⟩)
 exact ⟨rfl, rfl⟩

end Go.Proofs.Ytaeojcaidcjnaaa
