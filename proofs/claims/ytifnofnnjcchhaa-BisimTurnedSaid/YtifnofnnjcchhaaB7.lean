import Derived.Test.YtifnofnnjcchhaaQ1
import Derived.Test.YtifnofnnjcchhaaBP
set_option linter.unusedVariables false
set_option linter.unusedSimpArgs false
namespace Go.Proofs.Ytifnofnnjcchhaa
open Go.Sx Go.RowKit Go.Sx.Pt
theorem HWle.setA {own : List Asn} : ∀ {i : Nat} {A B : Asn}, own[i]? = some B → Ale A B → HWle (own.set i A) own := by
  have refl : ∀ l : List Asn, HWle l l := fun l => by
    induction l with
    | nil => exact .nil
    | cons a l ih => exact .cons Ale.rfl ih
  induction own with
  | nil => intro i A B h _; simp at h
  | cons a l ih =>
    intro i A B h hA
    cases i with
    | zero => simp at h; subst h; exact .cons hA (refl l)
    | succ i => exact .cons Ale.rfl (ih (by simpa using h) hA)
theorem AK.snd2 {C : Cx} {sl : List (Nat × Value)} {own : List Asn} {K : Act → World → Prop} (i : Nat) {v v' : Value} {E : TypeId} {sz n m : Nat} {cs cs' : List Value} (hi : own[i]? = some (row2 v v' E sz n m cs cs')) (h : AK C ⟨sl, own.set i (row v' E sz m cs')⟩ K) : AK C ⟨sl, own⟩ K :=
  AK.own' _ (fun w hw => (HWle.setA hi Ale.snd).hw hw) h
set_option maxHeartbeats 400000 in
set_option maxRecDepth 100000 in
theorem s_copy (w : World) (v : Value) (xss : List (List Int)) (h : RdLL (fun _ => False) (Value.int .i64) w v xss) (hb : xss.length ≤ 1000) (hb2 : ∀ r ∈ xss, r.length ≤ 1000) : CallS Try.prog 59 [v] w (fun r o => ∃ rs, IsSl r ∧ rs.length = xss.length ∧ o = [row r 26 1 xss.length rs, bigA (matG (Value.int .i64) 3 rs xss)]) := by
 obtain ⟨ra, hra, hNr, hNi⟩ := h
 have m1 := hNr.le
 refine spec_of Try.func59 rfl (Nat.le_of_ble_eq_true rfl) ?_
 refine .sr fun _ hK1 => ?_
 refine .as rfl (.nt hK1 ?_)
 refine .sr fun _ hK2 => ?_
 refine .as rfl (.nt hK2 ?_)
 refine .seq fun _ hK3 => ?_
 refine .sr fun _ hK4 => ?_
 refine .mv rfl ?_
 refine .v (.lenR sl23 rfl rdp) ?_
 refine .mv rfl (.nt hK4 (.block ?_))
 refine AK.loopK (X := Nat × Value × List Value) [(6, _), (7, _)] (fun x => [(3, x.2.1), (8, .int .i64 (x.1 : Int))]) (fun x => [row x.2.1 26 1 x.1 x.2.2, bigA (matG (Value.int .i64) 3 x.2.2 (xss.take x.1))]) (fun x => x.1 ≤ xss.length ∧ IsSl x.2.1 ∧ x.2.2.length = x.1) (fun x => xss.length - x.1) ((0, .slice none 0 0, [])) slr ?_ ?_ ?_ ?_
 ·exact ⟨Nat.zero_le _, nilSl, rfl⟩
 ·exact slr
 ·exact fun w hw => by exact (hw.ghost 26 1).ghostG (f := (Value.int .i64)) 3
 ·intro x hg0 _ hK5
  refine .sr fun _ hK6 => ?_
  refine .v (.lss rfl rfl) ?_
  refine .nt hK6 ?_
  refine .seq fun _ hK7 => ?_
  refine AK.condD rfl (fun hc0 => ?_) (fun hc0 => ?_)
  ·refine .skip ?_
   refine AK.then_ (hK7 _ ?_)
   refine .seq fun _ hK8 => ?_
   refine .block ?_
   refine .sr fun _ hK9 => ?_
   first | refine .v (.iN sl23 rfl rfl) ?_ | refine .v (.iK sl23 rfl rfl) ?_
   refine .v (.loadV on26 rfl rdp (by omega)) ?_
   refine .as rfl (.nt hK9 ?_)
   refine AK.region ?_
   refine .mv rfl ?_
   refine AK.lit (xs := []) sl26 el3 rfl rfl rfl (by intro a ha; cases ha) (by decide) (by decide) trivial rfl (fun t13 => ?_)
   refine .mv rfl ?_
   refine AK.appendS 2 rfl sl26 el3 rfl (by decide) rfl rfl rfl (.arg (hNi _ (by omega))) (one'_map _ (fun _ => rfl) _) (by have := hb2 _ (getD_mem (d := []) (show x.1 < xss.length by omega)); omega) (by have := hb2 _ (getD_mem (d := []) (show x.1 < xss.length by omega)); omega) trivial rfl (fun vc => ?_)
   refine AK.shape 2 rfl (fun hvc => ?_)
   refine AK.append1 0 rfl sl23 el26 rfl (by decide) rfl (by intro k hk; cases hk; rfl) (by rw [hvc.cells]; rfl) (by rw [hvc.cells]; exact one'_cons hvc.one one'_nil) (by omega) (by omega) (by decide) rfl rfl (fun av _ hav => ?_)
   refine .as rfl (.nil (.block_normal ?_))
   refine AK.then_ (hK8 _ ?_)
   refine AK.region ?_
   refine .v (.add rfl rfl (by omega)) ?_
   refine .mv rfl (.nil ?_)
   refine AK.then_ (hK5 _ _ ((x.1 + 1, av, x.2.2 ++ [vc])) ⟨by dsimp only; omega, hav, by dsimp only; rw [List.length_append, hg0.2.2]; rfl⟩ (by dsimp only; omega) (slr) (fun w hw => by dsimp only; rw [take_snocD [] xss x.1 (by omega), matG_snoc (by rw [hg0.2.2, List.length_take]; omega)]; have e3 : vc.cells.toList = [vc] := (by rw [hvc.cells]); rw [e3, Nat.zero_add] at hw; exact HW.absorb (own := [_, _]) 1 rfl hw))
  ·refine .exit (.then_exit (.then_exit (.block_exit ?_)))
   refine AK.then_ (hK3 _ ?_)
   refine .sr fun _ hK10 => ?_
   refine .mv rfl (.as rfl (.nt hK10 (.ret ?_)))
   refine AK.ret1 rfl rfl (fun w hw => ⟨_, _, ?_, rfl, Ret.of (hw.pick [0, 1] (by decide) rfl rfl)⟩)
   have e : x.1 = xss.length := by omega
   refine ⟨x.2.2, hg0.2.1, by rw [hg0.2.2]; exact e, ?_⟩
   rw [e, List.take_length]
   rfl

set_option maxHeartbeats 2000000 in
set_option maxRecDepth 100000 in
theorem s_refboth (w : World) (u v : Value) (a b : Dfa) (hu : RdD (fun _ => False) w u a) (hv : RdD (fun _ => False) w v b) (ha : VD a) (hb : VD b) : CallS Try.prog 41 [u, v] w (fun r o => ∃ (vF vN : Value) (rs : List Value), r = .agg #[.int .i64 (bothD a b).L, .int .i64 (bothD a b).s, vF, vN] ∧ rs.length = (bothD a b).nx.length ∧ IsSl vF ∧ IsSl vN ∧ o = dfaO 4 3 26 vF vN rs (bothD a b)) := by
 have hu0 := hu
 have hv0 := hv
 obtain ⟨aF, aN, rfl, haF, haN⟩ := hu
 obtain ⟨bF, bN, rfl, hbF, hbN⟩ := hv
 have haF0 := haF
 have hbF0 := hbF
 have haN0 := haN
 have hbN0 := hbN
 obtain ⟨ra, hra, haNr, haNi⟩ := haN
 obtain ⟨rb, hrb, hbNr, hbNi⟩ := hbN
 unfold RdL at haF hbF
 have m1 := haF.le
 have m2 := hbF.le
 have hna := ha.n
 have hnb := hb.n
 have hax := ha.nx
 have hbx := hb.nx
 have haL := ha.L
 have hbL := hb.L
 refine spec_of Try.func41 rfl (Nat.le_of_ble_eq_true rfl) ?_
 refine .sr fun _ hK1 => ?_
 refine AK.box_ (E := 25) (cs := [.int .i64 a.L, .int .i64 a.s, aF, aN]) rfl rfl rfl trivial rfl (fun bx2 => ?_)
 refine AK.box_ (E := 25) (cs := [.int .i64 b.L, .int .i64 b.s, bF, bN]) rfl rfl rfl trivial rfl (fun bx3 => ?_)
 refine AK.alloc el25 rfl rfl trivial rfl (fun bx4 => ?_)
 refine .nt hK1 ?_
 refine .sr fun _ hK2 => ?_
 refine .v (.fieldAddr fd25_2 rfl) ?_
 refine .v (.loadBox on22 rfl bsp rfl) ?_
 refine .v (.lenR sl22 rfl (by first | exact rdp | exact .arg (hbNi _ (by omega)))) ?_
 refine .as rfl (.nt hK2 ?_)
 refine .seq fun _ hK3 => ?_
 refine AK.joinK (X := Value × Nat) [(2, _), (3, _), (4, _), (5, _)] (fun z => [(6, .pointer (some ⟨z.2, 0, none⟩))]) (fun z => [box bx2 25 4 [.int .i64 a.L, .int .i64 a.s, aF, aN], box bx3 25 4 [.int .i64 b.L, .int .i64 b.s, bF, bN], box bx4 25 4 [.int .i64 0, .int .i64 0, .slice none 0 0, .slice none 0 0], row z.1 4 1 (0 + a.fin.length + b.fin.length) ([] ++ a.fin.map Value.bool ++ b.fin.map Value.bool), box z.2 25 4 [.int .i64 a.L, .int .i64 a.s, z.1, .slice none 0 0]]) (fun z => IsSl z.1) slr (fun _ hJ => ?_) (fun z hg => ?_)
 ·try (conv => enter [2, 2]; dsimp only [List.set_cons_zero, List.set_cons_succ, List.cons_append, List.nil_append])
  refine AK.heldS _ 13 (fun _ hw => hw.pick [0, 1] (by decide) rfl rfl) mixed ?_
  refine HeldK.firstS (fun _ hw => hw.pick [0, 1] (by decide) rfl rfl) 0 (fuel := 13) (listed' := (lb 14 1)) _ rfl krf krf rfl (Yl.fieldAddr fd25_0 rfl) trivial rfl ?_
  refine HeldK.firstS (fun _ hw => hw.pick [0, 1] (by decide) rfl rfl) 1 (fuel := 12) (listed' := (lb 14 3)) _ rfl krf krf rfl (Yl.loadBox on3 rfl bsp rfl) trivial rfl ?_
  refine HeldK.firstS (fun _ hw => hw.pick [0, 1] (by decide) rfl rfl) 2 (fuel := 11) (listed' := (lb 14 7)) _ rfl krf krf rfl (Yl.fieldAddr fd25_1 rfl) trivial rfl ?_
  refine HeldK.firstS (fun _ hw => hw.pick [0, 1] (by decide) rfl rfl) 3 (fuel := 10) (listed' := (lb 14 15)) _ rfl krf krf rfl (Yl.loadBox on3 rfl bsp rfl) trivial rfl ?_
  refine HeldK.firstS (fun _ hw => hw.pick [0, 1] (by decide) rfl rfl) 5 (fuel := 9) (listed' := (lb 14 47)) _ rfl krf krf rfl (Yl.fieldAddr fd25_2 rfl) trivial rfl ?_
  refine HeldK.firstS (fun _ hw => hw.pick [0, 1] (by decide) rfl rfl) 6 (fuel := 8) (listed' := (lb 14 111)) _ rfl krf krf rfl (Yl.loadBox on22 rfl bsp rfl) trivial rfl ?_
  refine HeldK.firstS (fun _ hw => hw.pick [0, 1] (by decide) rfl rfl) 8 (fuel := 7) (listed' := (lb 14 367)) _ rfl krf krf rfl (Yl.fieldAddr fd25_2 rfl) trivial rfl ?_
  refine HeldK.firstS (fun _ hw => hw.pick [0, 1] (by decide) rfl rfl) 9 (fuel := 6) (listed' := (lb 14 879)) _ rfl krf krf rfl (Yl.loadBox on22 rfl bsp rfl) trivial rfl ?_
  refine HeldK.two 4 12 (fuel := 5) (listed1 := (lb 14 895)) (listed2 := (lb 14 4975)) krf rfl rfl krf krf ?_ ?_
  ·refine AK.lit (xs := []) sl22 el4 rfl rfl rfl (by intro a ha; cases ha) (by decide) (by decide) trivial rfl (fun t19 => ?_)
   refine .nil ?_
   try (conv => enter [2, 2]; dsimp only [List.set_cons_zero, List.set_cons_succ, List.cons_append, List.nil_append])
   refine HeldK.backS (fun _ hw => hw.pick [0, 1] (by decide) rfl rfl) ?_
   refine HeldK.two 7 12 (fuel := 4) (listed1 := (lb 14 1023)) (listed2 := (lb 14 4991)) krf rfl rfl krf krf ?_ ?_
   ·first | (refine AK.appendH 3 rfl sl22 el4 rfl (by decide) rfl rfl rfl (.arg haF) (one'_map _ (fun _ => rfl) _) (by omega) (by omega) trivial rfl (fun v1 h1 => ?_); refine AK.snd2 3 rfl ?_) | (refine AK.appendH 4 rfl sl22 el4 rfl (by decide) rfl rfl rfl (.arg haF) (one'_map _ (fun _ => rfl) _) (by omega) (by omega) trivial rfl (fun v1 h1 => ?_); refine AK.snd2 4 rfl ?_)
    refine .nil ?_
    try (conv => enter [2, 2]; dsimp only [List.set_cons_zero, List.set_cons_succ, List.cons_append, List.nil_append])
    refine HeldK.backS (fun _ hw => hw.pick [0, 1] (by decide) rfl rfl) ?_
    refine HeldK.two 10 12 (fuel := 3) (listed1 := (lb 14 2047)) (listed2 := (lb 14 5119)) krf rfl rfl krf krf ?_ ?_
    ·first | (refine AK.appendH 3 rfl sl22 el4 rfl (by decide) rfl rfl rfl (.arg hbF) (one'_map _ (fun _ => rfl) _) (by omega) (by omega) trivial rfl (fun v2 h2 => ?_); refine AK.snd2 3 rfl ?_) | (refine AK.appendH 4 rfl sl22 el4 rfl (by decide) rfl rfl rfl (.arg hbF) (one'_map _ (fun _ => rfl) _) (by omega) (by omega) trivial rfl (fun v2 h2 => ?_); refine AK.snd2 4 rfl ?_)
     refine .nil ?_
     try (conv => enter [2, 2]; dsimp only [List.set_cons_zero, List.set_cons_succ, List.cons_append, List.nil_append])
     refine HeldK.backS (fun _ hw => hw.pick [0, 1] (by decide) rfl rfl) ?_
     refine HeldK.firstS (fun _ hw => hw.pick [0, 1] (by decide) rfl rfl) 11 (fuel := 2) (listed' := (lb 14 4095)) _ rfl krf krf rfl (Yl.build (parts := [(0, .tmp 16), (1, .tmp 18), (2, .tmp 25)]) (cs := #[.int .i64 a.L, .int .i64 a.s, v2, .slice none 0 0]) rfl (by obtain ⟨_, _, _, rfl⟩ := h2; kernel_rfl)) trivial rfl ?_
     refine HeldK.one 12 (fuel := 1) (listed' := (lb 14 8191)) krf rfl krf ?_
     refine AK.alloc el25 rfl rfl trivial rfl (fun bx6 => ?_)
     refine .nil ?_
     try (conv => enter [2, 2]; dsimp only [List.set_cons_zero, List.set_cons_succ, List.cons_append, List.nil_append])
     refine HeldK.backS (fun _ hw => hw.pick [0, 1] (by decide) rfl rfl) ?_
     refine HeldK.one 13 (fuel := 0) (listed' := (lb 14 16383)) krf rfl krf ?_
     first | refine AK.storeBox 3 (us := [.int .i64 a.L, .int .i64 a.s, v2, .slice none 0 0]) (cs' := [.int .i64 a.L, .int .i64 a.s, v2, .slice none 0 0]) rfl sz25 rfl rfl rfl rfl oneP (Nat.le_of_ble_eq_true rfl) rfl trivial ?_ | refine AK.storeBox 4 (us := [.int .i64 a.L, .int .i64 a.s, v2, .slice none 0 0]) (cs' := [.int .i64 a.L, .int .i64 a.s, v2, .slice none 0 0]) rfl sz25 rfl rfl rfl rfl oneP (Nat.le_of_ble_eq_true rfl) rfl trivial ?_
     refine .nil ?_
     try (conv => enter [2, 2]; dsimp only [List.set_cons_zero, List.set_cons_succ, List.cons_append, List.nil_append])
     refine HeldK.backN 14 krf rfl krf ?_
     refine .nil ?_
     refine AK.fromQn ?_
     exact hJ _ _ ((v2, bx6)) h2 (slr) (fun w hw => by first | exact hw.pick [0, 1, 2, 3, 4] (by decide) rfl rfl | exact hw.pick [0, 1, 2, 4, 3] (by decide) rfl rfl)
    ·refine AK.alloc el25 rfl rfl trivial rfl (fun bx6 => ?_)
     refine .nil ?_
     try (conv => enter [2, 2]; dsimp only [List.set_cons_zero, List.set_cons_succ, List.cons_append, List.nil_append])
     refine HeldK.backS (fun _ hw => hw.pick [0, 1] (by decide) rfl rfl) ?_
     refine HeldK.one 10 (fuel := 2) (listed' := (lb 14 6143)) krf rfl krf ?_
     first | (refine AK.appendH 3 rfl sl22 el4 rfl (by decide) rfl rfl rfl (.arg hbF) (one'_map _ (fun _ => rfl) _) (by omega) (by omega) trivial rfl (fun v2 h2 => ?_); refine AK.snd2 3 rfl ?_) | (refine AK.appendH 4 rfl sl22 el4 rfl (by decide) rfl rfl rfl (.arg hbF) (one'_map _ (fun _ => rfl) _) (by omega) (by omega) trivial rfl (fun v2 h2 => ?_); refine AK.snd2 4 rfl ?_)
     refine .nil ?_
     try (conv => enter [2, 2]; dsimp only [List.set_cons_zero, List.set_cons_succ, List.cons_append, List.nil_append])
     refine HeldK.backS (fun _ hw => hw.pick [0, 1] (by decide) rfl rfl) ?_
     refine HeldK.firstS (fun _ hw => hw.pick [0, 1] (by decide) rfl rfl) 11 (fuel := 1) (listed' := (lb 14 8191)) _ rfl krf krf rfl (Yl.build (parts := [(0, .tmp 16), (1, .tmp 18), (2, .tmp 25)]) (cs := #[.int .i64 a.L, .int .i64 a.s, v2, .slice none 0 0]) rfl (by obtain ⟨_, _, _, rfl⟩ := h2; kernel_rfl)) trivial rfl ?_
     refine HeldK.one 13 (fuel := 0) (listed' := (lb 14 16383)) krf rfl krf ?_
     first | refine AK.storeBox 3 (us := [.int .i64 a.L, .int .i64 a.s, v2, .slice none 0 0]) (cs' := [.int .i64 a.L, .int .i64 a.s, v2, .slice none 0 0]) rfl sz25 rfl rfl rfl rfl oneP (Nat.le_of_ble_eq_true rfl) rfl trivial ?_ | refine AK.storeBox 4 (us := [.int .i64 a.L, .int .i64 a.s, v2, .slice none 0 0]) (cs' := [.int .i64 a.L, .int .i64 a.s, v2, .slice none 0 0]) rfl sz25 rfl rfl rfl rfl oneP (Nat.le_of_ble_eq_true rfl) rfl trivial ?_
     refine .nil ?_
     try (conv => enter [2, 2]; dsimp only [List.set_cons_zero, List.set_cons_succ, List.cons_append, List.nil_append])
     refine HeldK.backN 14 krf rfl krf ?_
     refine .nil ?_
     refine AK.fromQn ?_
     exact hJ _ _ ((v2, bx6)) h2 (slr) (fun w hw => by first | exact hw.pick [0, 1, 2, 3, 4] (by decide) rfl rfl | exact hw.pick [0, 1, 2, 4, 3] (by decide) rfl rfl)
   ·refine AK.alloc el25 rfl rfl trivial rfl (fun bx6 => ?_)
    refine .nil ?_
    try (conv => enter [2, 2]; dsimp only [List.set_cons_zero, List.set_cons_succ, List.cons_append, List.nil_append])
    refine HeldK.backS (fun _ hw => hw.pick [0, 1] (by decide) rfl rfl) ?_
    refine HeldK.one 7 (fuel := 3) (listed' := (lb 14 5119)) krf rfl krf ?_
    first | (refine AK.appendH 3 rfl sl22 el4 rfl (by decide) rfl rfl rfl (.arg haF) (one'_map _ (fun _ => rfl) _) (by omega) (by omega) trivial rfl (fun v1 h1 => ?_); refine AK.snd2 3 rfl ?_) | (refine AK.appendH 4 rfl sl22 el4 rfl (by decide) rfl rfl rfl (.arg haF) (one'_map _ (fun _ => rfl) _) (by omega) (by omega) trivial rfl (fun v1 h1 => ?_); refine AK.snd2 4 rfl ?_)
    refine .nil ?_
    try (conv => enter [2, 2]; dsimp only [List.set_cons_zero, List.set_cons_succ, List.cons_append, List.nil_append])
    refine HeldK.backS (fun _ hw => hw.pick [0, 1] (by decide) rfl rfl) ?_
    refine HeldK.one 10 (fuel := 2) (listed' := (lb 14 6143)) krf rfl krf ?_
    first | (refine AK.appendH 3 rfl sl22 el4 rfl (by decide) rfl rfl rfl (.arg hbF) (one'_map _ (fun _ => rfl) _) (by omega) (by omega) trivial rfl (fun v2 h2 => ?_); refine AK.snd2 3 rfl ?_) | (refine AK.appendH 4 rfl sl22 el4 rfl (by decide) rfl rfl rfl (.arg hbF) (one'_map _ (fun _ => rfl) _) (by omega) (by omega) trivial rfl (fun v2 h2 => ?_); refine AK.snd2 4 rfl ?_)
    refine .nil ?_
    try (conv => enter [2, 2]; dsimp only [List.set_cons_zero, List.set_cons_succ, List.cons_append, List.nil_append])
    refine HeldK.backS (fun _ hw => hw.pick [0, 1] (by decide) rfl rfl) ?_
    refine HeldK.firstS (fun _ hw => hw.pick [0, 1] (by decide) rfl rfl) 11 (fuel := 1) (listed' := (lb 14 8191)) _ rfl krf krf rfl (Yl.build (parts := [(0, .tmp 16), (1, .tmp 18), (2, .tmp 25)]) (cs := #[.int .i64 a.L, .int .i64 a.s, v2, .slice none 0 0]) rfl (by obtain ⟨_, _, _, rfl⟩ := h2; kernel_rfl)) trivial rfl ?_
    refine HeldK.one 13 (fuel := 0) (listed' := (lb 14 16383)) krf rfl krf ?_
    first | refine AK.storeBox 3 (us := [.int .i64 a.L, .int .i64 a.s, v2, .slice none 0 0]) (cs' := [.int .i64 a.L, .int .i64 a.s, v2, .slice none 0 0]) rfl sz25 rfl rfl rfl rfl oneP (Nat.le_of_ble_eq_true rfl) rfl trivial ?_ | refine AK.storeBox 4 (us := [.int .i64 a.L, .int .i64 a.s, v2, .slice none 0 0]) (cs' := [.int .i64 a.L, .int .i64 a.s, v2, .slice none 0 0]) rfl sz25 rfl rfl rfl rfl oneP (Nat.le_of_ble_eq_true rfl) rfl trivial ?_
    refine .nil ?_
    try (conv => enter [2, 2]; dsimp only [List.set_cons_zero, List.set_cons_succ, List.cons_append, List.nil_append])
    refine HeldK.backN 14 krf rfl krf ?_
    refine .nil ?_
    refine AK.fromQn ?_
    exact hJ _ _ ((v2, bx6)) h2 (slr) (fun w hw => by first | exact hw.pick [0, 1, 2, 3, 4] (by decide) rfl rfl | exact hw.pick [0, 1, 2, 4, 3] (by decide) rfl rfl)
  ·refine AK.alloc el25 rfl rfl trivial rfl (fun bx6 => ?_)
   refine .nil ?_
   try (conv => enter [2, 2]; dsimp only [List.set_cons_zero, List.set_cons_succ, List.cons_append, List.nil_append])
   refine HeldK.backS (fun _ hw => hw.pick [0, 1] (by decide) rfl rfl) ?_
   refine HeldK.one 4 (fuel := 4) (listed' := (lb 14 4991)) krf rfl krf ?_
   refine AK.lit (xs := []) sl22 el4 rfl rfl rfl (by intro a ha; cases ha) (by decide) (by decide) trivial rfl (fun t19 => ?_)
   refine .nil ?_
   try (conv => enter [2, 2]; dsimp only [List.set_cons_zero, List.set_cons_succ, List.cons_append, List.nil_append])
   refine HeldK.backS (fun _ hw => hw.pick [0, 1] (by decide) rfl rfl) ?_
   refine HeldK.one 7 (fuel := 3) (listed' := (lb 14 5119)) krf rfl krf ?_
   first | (refine AK.appendH 3 rfl sl22 el4 rfl (by decide) rfl rfl rfl (.arg haF) (one'_map _ (fun _ => rfl) _) (by omega) (by omega) trivial rfl (fun v1 h1 => ?_); refine AK.snd2 3 rfl ?_) | (refine AK.appendH 4 rfl sl22 el4 rfl (by decide) rfl rfl rfl (.arg haF) (one'_map _ (fun _ => rfl) _) (by omega) (by omega) trivial rfl (fun v1 h1 => ?_); refine AK.snd2 4 rfl ?_)
   refine .nil ?_
   try (conv => enter [2, 2]; dsimp only [List.set_cons_zero, List.set_cons_succ, List.cons_append, List.nil_append])
   refine HeldK.backS (fun _ hw => hw.pick [0, 1] (by decide) rfl rfl) ?_
   refine HeldK.one 10 (fuel := 2) (listed' := (lb 14 6143)) krf rfl krf ?_
   first | (refine AK.appendH 3 rfl sl22 el4 rfl (by decide) rfl rfl rfl (.arg hbF) (one'_map _ (fun _ => rfl) _) (by omega) (by omega) trivial rfl (fun v2 h2 => ?_); refine AK.snd2 3 rfl ?_) | (refine AK.appendH 4 rfl sl22 el4 rfl (by decide) rfl rfl rfl (.arg hbF) (one'_map _ (fun _ => rfl) _) (by omega) (by omega) trivial rfl (fun v2 h2 => ?_); refine AK.snd2 4 rfl ?_)
   refine .nil ?_
   try (conv => enter [2, 2]; dsimp only [List.set_cons_zero, List.set_cons_succ, List.cons_append, List.nil_append])
   refine HeldK.backS (fun _ hw => hw.pick [0, 1] (by decide) rfl rfl) ?_
   refine HeldK.firstS (fun _ hw => hw.pick [0, 1] (by decide) rfl rfl) 11 (fuel := 1) (listed' := (lb 14 8191)) _ rfl krf krf rfl (Yl.build (parts := [(0, .tmp 16), (1, .tmp 18), (2, .tmp 25)]) (cs := #[.int .i64 a.L, .int .i64 a.s, v2, .slice none 0 0]) rfl (by obtain ⟨_, _, _, rfl⟩ := h2; kernel_rfl)) trivial rfl ?_
   refine HeldK.one 13 (fuel := 0) (listed' := (lb 14 16383)) krf rfl krf ?_
   first | refine AK.storeBox 3 (us := [.int .i64 a.L, .int .i64 a.s, v2, .slice none 0 0]) (cs' := [.int .i64 a.L, .int .i64 a.s, v2, .slice none 0 0]) rfl sz25 rfl rfl rfl rfl oneP (Nat.le_of_ble_eq_true rfl) rfl trivial ?_ | refine AK.storeBox 4 (us := [.int .i64 a.L, .int .i64 a.s, v2, .slice none 0 0]) (cs' := [.int .i64 a.L, .int .i64 a.s, v2, .slice none 0 0]) rfl sz25 rfl rfl rfl rfl oneP (Nat.le_of_ble_eq_true rfl) rfl trivial ?_
   refine .nil ?_
   try (conv => enter [2, 2]; dsimp only [List.set_cons_zero, List.set_cons_succ, List.cons_append, List.nil_append])
   refine HeldK.backN 14 krf rfl krf ?_
   refine .nil ?_
   refine AK.fromQn ?_
   exact hJ _ _ ((v2, bx6)) h2 (slr) (fun w hw => by first | exact hw.pick [0, 1, 2, 3, 4] (by decide) rfl rfl | exact hw.pick [0, 1, 2, 4, 3] (by decide) rfl rfl)
 ·skip
  refine AK.then_ (hK3 _ ?_)
  refine .sr fun _ hK4 => ?_
  refine .v (.fieldAddr fd25_3 rfl) ?_
  refine .v (.loadBox on23 rfl bsp rfl) ?_
  refine AK.call co59 rfl (fun w hw => s_copy w aN a.nx (haN0.at hw) (by omega) (fun r hr => by obtain ⟨j, hj, e⟩ := List.getElem_of_mem hr; have h1 := ha.row j (by omega); rw [List.getD_eq_getElem?_getD, List.getElem?_eq_getElem hj] at h1; simp only [Option.getD_some, e] at h1; omega)) trivial rfl ?_
  rintro cv o ⟨cr, scv, hcr, rfl⟩
  refine .v (.fieldAddr fd25_3 rfl) ?_
  refine AK.storeBox 4 (us := [cv]) (cs' := [.int .i64 a.L, .int .i64 a.s, z.1, cv]) rfl sz23 rfl rfl (by rw [IsSl.cells (by assumption)]) rfl oneP (Nat.le_of_ble_eq_true rfl) rfl trivial ?_
  refine .nt hK4 ?_
  refine .seq fun _ hK5 => ?_
  refine .sr fun _ hK6 => ?_
  refine .v (.fieldAddr fd25_3 rfl) ?_
  refine .v (.loadBox on23 rfl bsp rfl) ?_
  refine .v (.lenR sl23 rfl (by first | exact rdp | exact .arg (hbNi _ (by omega)))) ?_
  refine .mv rfl (.nt hK6 (.block ?_))
  refine AK.loopK (X := Nat × Value × List Value) [(4, _), (5, _), (6, _), (32, _), (33, _)] (fun x => [(34, .int .i64 (x.1 : Int))]) (fun x => [box bx2 25 4 [.int .i64 a.L, .int .i64 a.s, aF, aN], box bx3 25 4 [.int .i64 b.L, .int .i64 b.s, bF, bN], box bx4 25 4 [.int .i64 0, .int .i64 0, .slice none 0 0, .slice none 0 0], row z.1 4 1 (0 + a.fin.length + b.fin.length) ([] ++ a.fin.map Value.bool ++ b.fin.map Value.bool), box z.2 25 4 [.int .i64 a.L, .int .i64 a.s, z.1, x.2.1], row x.2.1 26 1 (a.nx.length + x.1) x.2.2, bigA (matG (Value.int .i64) 3 x.2.2 (a.nx ++ (b.nx.take x.1).map (fun r => r.map (fun t => (a.fin.length : Int) + t))))]) (fun x => x.1 ≤ b.nx.length ∧ IsSl x.2.1 ∧ x.2.2.length = a.nx.length + x.1) (fun x => b.nx.length - x.1) ((0, cv, cr)) slr ?_ ?_ ?_ ?_
  ·exact ⟨Nat.zero_le _, scv, by dsimp only; omega⟩
  ·exact slr
  ·exact fun w hw => by dsimp only; rw [List.take_zero, List.map_nil, List.append_nil]; exact hw
  ·intro x hg0 _ hK7
   have sxv := hg0.2.1
   refine .sr fun _ hK8 => ?_
   refine .v (.lss rfl rfl) ?_
   refine .nt hK8 ?_
   refine .seq fun _ hK9 => ?_
   refine AK.condD rfl (fun hc0 => ?_) (fun hc0 => ?_)
   ·have hrb := hb.row x.1 (by omega)
    refine .skip ?_
    refine AK.then_ (hK9 _ ?_)
    refine .seq fun _ hK10 => ?_
    refine .block ?_
    refine .sr fun _ hK11 => ?_
    first | refine .v (.iN sl23 rfl rfl (hr := (by first | exact rdp | exact .arg (hbNi _ (by omega))))) ?_ | refine .v (.iK sl23 rfl rfl (hr := (by first | exact rdp | exact .arg (hbNi _ (by omega))))) ?_
    refine .v (.loadV on26 rfl (by first | exact rdp | exact .arg (hbNi _ (by omega))) (by omega)) ?_
    refine .as rfl (.nt hK11 ?_)
    refine .sr fun _ hK12 => ?_
    refine .as rfl (.nt hK12 ?_)
    refine .seq fun _ hK13 => ?_
    refine .sr fun _ hK14 => ?_
    refine .mv rfl ?_
    refine .v (.lenR sl26 rfl (by first | exact rdp | exact .arg (hbNi _ (by omega)))) ?_
    refine .mv rfl (.nt hK14 (.block ?_))
    refine AK.loopK (X := Nat × Value) [(4, _), (5, _), (6, _), (32, _), (33, _), (34, _), (38, _), (39, _)] (fun y => [(9, y.2), (40, .int .i64 (y.1 : Int))]) (fun y => [box bx2 25 4 [.int .i64 a.L, .int .i64 a.s, aF, aN], box bx3 25 4 [.int .i64 b.L, .int .i64 b.s, bF, bN], box bx4 25 4 [.int .i64 0, .int .i64 0, .slice none 0 0, .slice none 0 0], row z.1 4 1 (0 + a.fin.length + b.fin.length) ([] ++ a.fin.map Value.bool ++ b.fin.map Value.bool), box z.2 25 4 [.int .i64 a.L, .int .i64 a.s, z.1, x.2.1], row x.2.1 26 1 (a.nx.length + x.1) x.2.2, bigA (matG (Value.int .i64) 3 x.2.2 (a.nx ++ (b.nx.take x.1).map (fun r => r.map (fun t => (a.fin.length : Int) + t)))), row y.2 3 1 y.1 ((((b.nx.getD x.1 []).take y.1).map (fun t => (a.fin.length : Int) + t)).map (Value.int .i64))]) (fun y => y.1 ≤ (b.nx.getD x.1 []).length ∧ IsSl y.2) (fun y => (b.nx.getD x.1 []).length - y.1) ((0, .slice none 0 0)) slr ?_ ?_ ?_ ?_
    ·exact ⟨Nat.zero_le _, nilSl⟩
    ·exact slr
    ·exact fun w hw => by exact hw.ghost 3 1
    ·intro y hg1 _ hK15
     refine .sr fun _ hK16 => ?_
     refine .v (.lss rfl rfl) ?_
     refine .nt hK16 ?_
     refine .seq fun _ hK17 => ?_
     refine AK.condD rfl (fun hc1 => ?_) (fun hc1 => ?_)
     ·have htb := hb.to x.1 y.1 (by omega) (by omega)
      refine .skip ?_
      refine AK.then_ (hK17 _ ?_)
      refine .seq fun _ hK18 => ?_
      refine .block ?_
      refine .sr fun _ hK19 => ?_
      first | refine .v (.iN sl26 rfl rfl (hr := (by first | exact rdp | exact .arg (hbNi _ (by omega))))) ?_ | refine .v (.iK sl26 rfl rfl (hr := (by first | exact rdp | exact .arg (hbNi _ (by omega))))) ?_
      refine .v (.loadI on3 rfl (by first | exact rdp | exact .arg (hbNi _ (by omega))) (by omega)) ?_
      refine .as rfl (.nt hK19 ?_)
      refine AK.region ?_
      refine .mv rfl (.mv rfl (.mv rfl ?_))
      refine .v (.add rfl rfl (by omega)) ?_
      refine AK.append1 7 rfl sl26 el3 rfl (by decide) rfl (by intro k hk; cases hk; rfl) rfl (by intro u hu; simp [Value.cells] at hu; subst hu; rfl) (by omega) (by omega) (by decide) rfl rfl (fun rv2 _ hrv2 => ?_)
      refine .as rfl (.nil (.block_normal ?_))
      refine AK.then_ (hK18 _ ?_)
      refine AK.region ?_
      refine .v (.add rfl rfl (by omega)) ?_
      refine .mv rfl (.nil ?_)
      refine AK.then_ (hK15 _ _ ((y.1 + 1, rv2)) ⟨by dsimp only; omega, hrv2⟩ (by dsimp only; omega) (slr) (fun w hw => by dsimp only; rw [take_snocD 0 (b.nx.getD x.1 []) y.1 (by omega), List.map_append, List.map_append]; exact hw))
     ·have hyv := hg1.2
      refine .exit (.then_exit (.then_exit (.block_exit ?_)))
      refine AK.then_ (hK13 _ ?_)
      refine AK.region ?_
      refine .v (.fieldAddr fd25_3 rfl) ?_
      refine .v (.loadBox on23 rfl bsp rfl) ?_
      refine .mv rfl ?_
      refine AK.append1 5 rfl sl23 el26 rfl (by decide) rfl (by intro k hk; cases hk; rfl) (by rw [hyv.cells]; rfl) (by rw [hyv.cells]; exact one'_cons hyv.one one'_nil) (by omega) (by omega) (by decide) rfl rfl (fun av _ hav => ?_)
      refine .v (.fieldAddr fd25_3 rfl) ?_
      refine AK.storeBox 4 (us := [av]) (cs' := [.int .i64 a.L, .int .i64 a.s, z.1, av]) rfl sz23 rfl rfl (by rw [IsSl.cells (by assumption)]) rfl oneP (Nat.le_of_ble_eq_true rfl) rfl trivial ?_
      refine .nil (.block_normal ?_)
      refine AK.then_ (hK10 _ ?_)
      refine AK.region ?_
      refine .v (.add rfl rfl (by omega)) ?_
      refine .mv rfl (.nil ?_)
      refine AK.then_ (hK7 _ _ ((x.1 + 1, av, x.2.2 ++ [y.2])) ⟨by dsimp only; omega, hav, by dsimp only; rw [List.length_append, hg0.2.2]; rfl⟩ (by dsimp only; omega) (slr) (fun w hw => by dsimp only; rw [take_snocD [] b.nx x.1 (by omega), List.map_append, ← List.append_assoc, List.map_singleton, matG_snoc (by rw [hg0.2.2, List.length_append, List.length_map, List.length_take]; omega)]; have e3 : y.2.cells.toList = [y.2] := (by rw [hyv.cells]); rw [e3, show y.1 = (b.nx.getD x.1 []).length by omega, List.take_length] at hw; rw [List.length_map]; exact HW.absorb (own := [_, _, _, _, _, _, _]) 6 rfl hw))
   ·refine .exit (.then_exit (.then_exit (.block_exit ?_)))
    refine AK.then_ (hK5 _ ?_)
    refine .sr fun _ hK20 => ?_
    refine .v (.loadBoxG ag25 rfl bsp rfl rfl) ?_
    refine AK.storeBox 2 (us := [.int .i64 a.L, .int .i64 a.s, z.1, x.2.1]) (cs' := [.int .i64 a.L, .int .i64 a.s, z.1, x.2.1]) rfl sz25 rfl rfl rfl rfl oneP (Nat.le_of_ble_eq_true rfl) rfl trivial ?_
    refine .nt hK20 (.ret ?_)
    refine AK.retG [.cell 4 25] rfl (.cons (.cell ag25 rfl bsp rfl rfl) (.nil)) (fun w hw => ⟨_, _, ?_, rfl, Ret.of (hw.pick [3, 5, 6] (by decide) rfl rfl)⟩)
    have e : x.1 = b.nx.length := by omega
    have e2 : (bothD a b).nx = a.nx ++ b.nx.map fun r => r.map (fun t => (a.fin.length : Int) + t) := rfl
    refine ⟨z.1, x.2.1, x.2.2, rfl, by rw [e2, List.length_append, List.length_map, hg0.2.2, e], hg, hg0.2.1, ?_⟩
    unfold dfaO
    rw [both_len, e2, e, List.take_length, List.length_append, List.length_map, Nat.zero_add, List.nil_append, ← List.map_append]
    rfl

end Go.Proofs.Ytifnofnnjcchhaa
