import Derived.Test.YtmfakjfkjoichaaD20
import Derived.Test.YtmfakjfkjoichaaD6
set_option linter.unusedVariables false
set_option linter.unusedSimpArgs false
namespace Go.Proofs.Ytmfakjfkjoichaa
open Go.Sx Go.RowKit
def stD (d : Dfa) (q : Int) : Dfa := ⟨d.L, q, d.fin, d.nx⟩
theorem st_vd {d : Dfa} (hv : VD d) {q : Int} (hq : InR d q) : VD (stD d q) := ⟨hv.L, hv.n, hv.nx, hq, hv.row, hv.to⟩
theorem st_run (d : Dfa) (p : Int) (l : List UInt8) : ∀ q, runI (stD d p) q l = runI d q l := by
  induction l with
  | nil => intro q; rfl
  | cons c l ih => intro q; exact ih _
theorem tst_rch {d : Dfa} (hv : VD d) {q : Int} (h : q ∈ TSt d) : Rch d d.s q := by
  rw [← two_run hv] at h
  obtain ⟨l, hl, e⟩ := List.mem_map.1 h
  obtain ⟨h1, h2, h3⟩ := tst_fix hv
  have hL := hv.L
  have ha := exIw_let (f := stepQ d) (L := d.L.toNat) (by omega) (s := d.s) (z := 0) (TSt d).length l (by rw [h3]; exact hl)
  have e2 : ((d.L.toNat : Nat) : Int) = d.L := by omega
  rw [e2] at ha
  exact ⟨l, ha, e⟩
theorem rch_tst {d : Dfa} (hv : VD d) : ∀ {l : List UInt8} {q : Int}, q ∈ TSt d → Okw d l → runI d q l ∈ TSt d
  | [], q, hq, _ => hq
  | c :: l, q, hq, h => by
    unfold Okw at h; rw [List.all_cons, Bool.and_eq_true] at h
    have hc := h.1
    simp only [okB, decide_eq_true_eq] at hc
    exact rch_tst hv (l := l) (TSt_closed hv hq (x := ((c.toNat : Int) - 97).toNat) (by omega)) h.2
theorem liv_back {d : Dfa} (hv : VD d) {r : Int} {x : Nat} (hx : (x : Int) < d.L) (h : Liv d (stepQ d r x)) : Liv d r := by
  have hL := hv.L
  obtain ⟨w, h1, h2⟩ := h
  refine ⟨ltr x :: w, ?_, ?_⟩
  · unfold Okw at *; rw [List.all_cons, h1, okB_ltr hL hx]; rfl
  · show finQ d (runI d (stepI d r (ltr x)) w) = true
    rw [stepI_ltr (by omega)]; exact h2
/-- no way back to q through a live state -/
def Non (d : Dfa) (q : Int) : Prop := Liv d q → ∀ r ∈ TSt (stD d q), ∀ x : Nat, (x : Int) < d.L → stepQ d r x = q → ¬ Liv d r
theorem inf_found {d : Dfa} (hv : VD d) {q r : Int} {x : Nat} (hq : q ∈ TSt d) (hl : Liv d q) (hr : r ∈ TSt (stD d q)) (hx : (x : Int) < d.L) (e : stepQ d r x = q) : InfV d = true := by
  have hL := hv.L
  have hqr : InR d q := (TSt_ok hv).2.1 q hq
  obtain ⟨l, h1, h2⟩ := tst_rch (st_vd hv hqr) hr
  have h2' : runI d q l = r := by rw [← st_run d q]; exact h2
  refine infV_iff.2 ⟨hv, q, tst_rch hv hq, hl, l ++ [ltr x], by simp, ?_, ?_⟩
  · refine Okw.app (d := d) h1 ?_
    unfold Okw; rw [List.all_cons, okB_ltr hL hx]; rfl
  · rw [runI_append, h2']
    show stepI d r (ltr x) = q
    rw [stepI_ltr (by omega)]; exact e
theorem inf_none {d : Dfa} (hv : VD d) (h : ∀ i, i < (TSt d).length → Non d ((TSt d).getD i 0)) : InfV d = false := by
  rw [Bool.eq_false_iff]
  intro hc
  obtain ⟨_, q, ⟨u, hu, hq⟩, hl, c, hne, ho, hr⟩ := infV_iff.1 hc
  have hqm : q ∈ TSt d := by rw [← hq]; exact rch_tst hv (tst_start hv).1 hu
  have hn := h _ (posN_lt hqm)
  rw [getD_posN 0 hqm] at hn
  obtain ⟨b, c', e⟩ : ∃ b c', c = c' ++ [b] := ⟨c.getLast hne, c.dropLast, (List.dropLast_concat_getLast hne).symm⟩
  subst e
  have hqr : InR d q := (TSt_ok hv).2.1 q hqm
  have hb : okB d.L b = true := by have := ho.right; unfold Okw at this; simpa using this
  have hbx := hb
  simp only [okB, decide_eq_true_eq] at hbx
  have hrm : runI d q c' ∈ TSt (stD d q) := by
    rw [← st_run d q]
    exact rch_tst (st_vd hv hqr) (tst_start (st_vd hv hqr)).1 ho.left
  rw [runI_append] at hr
  have hs : stepQ d (runI d q c') ((b.toNat : Int) - 97).toNat = q := hr
  have hx : (((b.toNat : Int) - 97).toNat : Int) < d.L := by omega
  exact hn hl _ hrm _ hx hs (liv_back hv hx (by rw [hs]; exact hl))
theorem non_of {d : Dfa} {q : Int} (hvq : VD (stD d q)) {y : Nat} (hy : y = (TSt (stD d q)).length) (h : ∀ i, i < y → ∀ j : Nat, (j : Int) < d.L → stepQ d ((TSt (stD d q)).getD i 0) j = q → ¬ Liv d ((TSt (stD d q)).getD i 0)) : Non d q := by
  intro _ r hr x hx e
  have h1 := h _ (by rw [hy]; exact posN_lt hr) x hx
  rw [getD_posN 0 hr] at h1
  exact h1 e
set_option maxHeartbeats 2000000 in
set_option maxRecDepth 100000 in
theorem s_refinfinite (w : World) (v : Value) (d : Dfa) (h : RdD (fun _ => False) w v d) (hv : VD d) : CallS Try.prog 29 [v] w (fun r o => r = .bool (InfV d) ∧ o = []) := by
  have h0 := h
  obtain ⟨vF, vN, rfl, hF, hN⟩ := h
  have hF0 := hF
  have hN0 := hN
  obtain ⟨rs, hrl, hNr, hNi⟩ := hN
  have sF := hF.sl
  have sN := hNr.sl
  have hmf := hF.le
  have hmn := hNr.le
  unfold RdL at hF
  have hnx := hv.nx
  have hn5 := hv.n
  have hL := hv.L
  have hT := TSt_ok hv
  refine spec_of Try.func29 rfl (Nat.le_of_ble_eq_true rfl) ?_
  refine AK.seq (fun _ hK1 => ?_)
  refine AK.region ?_
  refine AK.box_ (E := 25) (cs := [.int .i64 d.L, .int .i64 d.s, vF, vN]) rfl rfl rfl trivial rfl (fun bx1 => ?_)
  refine AK.val _ (Yl.assign rfl) trivial rfl ?_
  refine AK.nil ?_
  refine AK.then_ (hK1 _ ?_)
  refine AK.seq (fun _ hK2 => ?_)
  refine AK.region ?_
  refine AK.val _ (Yl.loadBoxG ag25 rfl (by first | exact .own 0 rfl | exact .own 1 rfl | exact .own 2 rfl | exact .own 3 rfl | exact .own 4 rfl | exact .own 5 rfl | exact .own 6 rfl | exact .own 7 rfl | exact .own 8 rfl | exact .own 9 rfl | exact .own 10 rfl | exact .own 11 rfl | exact .own 12 rfl | assumption | exact BoxS.arg (by assumption)) rfl rfl) trivial rfl ?_
  refine AK.call co51 rfl (fun w hw => s_live w _ d (h0.at hw) hv) trivial rfl ?_
  rintro lvv o ⟨ll, hll, hlv, slvv, rfl⟩
  refine AK.val _ (Yl.assign rfl) trivial rfl ?_
  refine AK.nil ?_
  refine AK.then_ (hK2 _ ?_)
  refine AK.seq (fun _ hK3 => ?_)
  refine AK.region ?_
  refine AK.val _ (Yl.loadBoxG ag25 rfl (by first | exact .own 0 rfl | exact .own 1 rfl | exact .own 2 rfl | exact .own 3 rfl | exact .own 4 rfl | exact .own 5 rfl | exact .own 6 rfl | exact .own 7 rfl | exact .own 8 rfl | exact .own 9 rfl | exact .own 10 rfl | exact .own 11 rfl | exact .own 12 rfl | assumption | exact BoxS.arg (by assumption)) rfl rfl) trivial rfl ?_
  refine AK.call co52 rfl (fun w hw => s_refaccess w _ d (h0.at hw) hv) trivial rfl ?_
  rintro r o ⟨vs, vw, svs, svw, rfl, rfl⟩
  refine AK.val _ (Yl.move rfl) trivial rfl ?_
  refine AK.val _ (Yl.extract rfl rfl) trivial rfl ?_
  refine AK.val _ (Yl.extract rfl rfl) trivial rfl ?_
  refine AK.val _ (Yl.assign rfl) trivial rfl ?_
  refine AK.val _ (Yl.assign rfl) trivial rfl ?_
  refine AK.nil ?_
  refine AK.then_ (hK3 _ ?_)
  refine AK.seq (fun _ hK4 => ?_)
  refine AK.seq (fun _ hK5 => ?_)
  refine AK.region ?_
  refine AK.val _ (Yl.move rfl) trivial rfl ?_
  refine AK.val _ (Yl.lenR sl38 rfl (by first | exact .arg ‹_› | exact .own 0 rfl | exact .own 1 rfl | exact .own 2 rfl | exact .own 3 rfl | exact .own 4 rfl | exact .own 5 rfl | exact .own 6 rfl | exact .own 7 rfl | exact .own 8 rfl | assumption | exact .own 9 rfl | exact .own 10 rfl | exact .own 11 rfl | exact .own 12 rfl | exact .arg (hNi _ (by omega)))) trivial rfl ?_
  refine AK.val _ (Yl.move rfl) trivial rfl ?_
  refine AK.nil ?_
  refine AK.then_ (hK5 _ ?_)
  refine AK.block ?_
  refine AK.loopK (X := Nat) [(1, _), (3, _), (22, _), (23, _)] (fun x => [(24, .int .i64 (x : Int))]) (fun x => [box bx1 25 4 [.int .i64 d.L, .int .i64 d.s, vF, vN], row lvv 4 1 d.fin.length (ll.map Value.bool), row vs 3 1 (TSt d).length ((TSt d).map (Value.int .i64)), row vw 9 1 (TWo d).length ((TWo d).map sv)]) (fun x => x ≤ (TSt d).length ∧ ∀ i, i < x → Non d ((TSt d).getD i 0)) (fun x => (TSt d).length - x) (0) (.cons rfl (.cons rfl (.cons rfl (.cons rfl (.nil))))) ?_ ?_ ?_ ?_
  · exact ⟨Nat.zero_le _, fun i hi => by omega⟩
  · exact .cons (rfl) (.nil)
  · exact fun w hw => hw
  · intro x hg0 _ hK6
    refine AK.seq (fun _ hK7 => ?_)
    refine AK.region ?_
    refine AK.val _ (Yl.lss rfl rfl) trivial rfl ?_
    refine AK.nil ?_
    refine AK.then_ (hK7 _ ?_)
    refine AK.seq (fun _ hK8 => ?_)
    refine AK.condD rfl (fun hc0 => ?_) (fun hc0 => ?_)
    · have hxm : x < (TSt d).length := by omega
      have hqm : ((TSt d).getD x 0) ∈ TSt d := getD_mem hxm
      have hqr : InR d ((TSt d).getD x 0) := hT.2.1 _ hqm
      have hvq := st_vd hv hqr
      have hq1 := hqr.1
      have hq2 := hqr.2
      have hlq := hlv _ hqr
      have hTq := TSt_ok hvq
      have hsl : (stD d ((TSt d).getD x 0)).fin.length = d.fin.length := rfl
      refine AK.skip ?_
      refine AK.then_ (hK8 _ ?_)
      refine AK.seq (fun _ hK9 => ?_)
      refine AK.block ?_
      refine AK.seq (fun _ hK10 => ?_)
      refine AK.region ?_
      first | refine AK.val _ (Yl.idxN sl38 rfl rfl (by first | exact .arg ‹_› | exact .own 0 rfl | exact .own 1 rfl | exact .own 2 rfl | exact .own 3 rfl | exact .own 4 rfl | exact .own 5 rfl | exact .own 6 rfl | exact .own 7 rfl | exact .own 8 rfl | assumption | exact .own 9 rfl | exact .own 10 rfl | exact .own 11 rfl | exact .own 12 rfl | exact .arg (hNi _ (by omega))) (by decide) (by omega)) trivial rfl ?_ | refine AK.val _ (Yl.idx sl38 rfl rfl (by first | exact .arg ‹_› | exact .own 0 rfl | exact .own 1 rfl | exact .own 2 rfl | exact .own 3 rfl | exact .own 4 rfl | exact .own 5 rfl | exact .own 6 rfl | exact .own 7 rfl | exact .own 8 rfl | assumption | exact .own 9 rfl | exact .own 10 rfl | exact .own 11 rfl | exact .own 12 rfl | exact .arg (hNi _ (by omega))) (by decide) (by omega)) trivial rfl ?_ | refine AK.val _ (Yl.idxK sl38 rfl rfl (by first | exact .arg ‹_› | exact .own 0 rfl | exact .own 1 rfl | exact .own 2 rfl | exact .own 3 rfl | exact .own 4 rfl | exact .own 5 rfl | exact .own 6 rfl | exact .own 7 rfl | exact .own 8 rfl | assumption | exact .own 9 rfl | exact .own 10 rfl | exact .own 11 rfl | exact .own 12 rfl | exact .arg (hNi _ (by omega))) (by decide) (by omega)) trivial rfl ?_
      refine AK.val _ (Yl.loadI on3 rfl (by first | exact .arg ‹_› | exact .own 0 rfl | exact .own 1 rfl | exact .own 2 rfl | exact .own 3 rfl | exact .own 4 rfl | exact .own 5 rfl | exact .own 6 rfl | exact .own 7 rfl | exact .own 8 rfl | assumption | exact .own 9 rfl | exact .own 10 rfl | exact .own 11 rfl | exact .own 12 rfl | exact .arg (hNi _ (by omega))) (by omega)) trivial rfl ?_
      refine AK.val _ (Yl.assign rfl) trivial rfl ?_
      refine AK.nil ?_
      refine AK.then_ (hK10 _ ?_)
      refine AK.seq (fun _ hK11 => ?_)
      refine AK.seq (fun _ hK12 => ?_)
      refine AK.region ?_
      refine AK.val _ (Yl.move rfl) trivial rfl ?_
      refine AK.val _ (Yl.move rfl) trivial rfl ?_
      first | refine AK.val _ (Yl.idxN sl22 rfl rfl (by first | exact .arg ‹_› | exact .own 0 rfl | exact .own 1 rfl | exact .own 2 rfl | exact .own 3 rfl | exact .own 4 rfl | exact .own 5 rfl | exact .own 6 rfl | exact .own 7 rfl | exact .own 8 rfl | assumption | exact .own 9 rfl | exact .own 10 rfl | exact .own 11 rfl | exact .own 12 rfl | exact .arg (hNi _ (by omega))) (by decide) (by omega)) trivial rfl ?_ | refine AK.val _ (Yl.idx sl22 rfl rfl (by first | exact .arg ‹_› | exact .own 0 rfl | exact .own 1 rfl | exact .own 2 rfl | exact .own 3 rfl | exact .own 4 rfl | exact .own 5 rfl | exact .own 6 rfl | exact .own 7 rfl | exact .own 8 rfl | assumption | exact .own 9 rfl | exact .own 10 rfl | exact .own 11 rfl | exact .own 12 rfl | exact .arg (hNi _ (by omega))) (by decide) (by omega)) trivial rfl ?_ | refine AK.val _ (Yl.idxK sl22 rfl rfl (by first | exact .arg ‹_› | exact .own 0 rfl | exact .own 1 rfl | exact .own 2 rfl | exact .own 3 rfl | exact .own 4 rfl | exact .own 5 rfl | exact .own 6 rfl | exact .own 7 rfl | exact .own 8 rfl | assumption | exact .own 9 rfl | exact .own 10 rfl | exact .own 11 rfl | exact .own 12 rfl | exact .arg (hNi _ (by omega))) (by decide) (by omega)) trivial rfl ?_
      refine AK.val _ (Yl.loadB on4 rfl (by first | exact .arg ‹_› | exact .own 0 rfl | exact .own 1 rfl | exact .own 2 rfl | exact .own 3 rfl | exact .own 4 rfl | exact .own 5 rfl | exact .own 6 rfl | exact .own 7 rfl | exact .own 8 rfl | assumption | exact .own 9 rfl | exact .own 10 rfl | exact .own 11 rfl | exact .own 12 rfl | exact .arg (hNi _ (by omega))) (by omega)) trivial rfl ?_
      refine AK.val _ (Yl.not rfl) trivial rfl ?_
      refine AK.nil ?_
      refine AK.then_ (hK12 _ ?_)
      refine AK.condB rfl (fun hc1 => ?_) (fun hc1 => ?_)
      · have hnl : ¬ Liv d ((TSt d).getD x 0) := fun h => by rw [hlq.2 h] at hc1; exact absurd hc1 (by decide)
        refine AK.exit ?_
        refine AK.then_exit ?_
        refine AK.block_exit ?_
        refine AK.then_ (hK9 _ ?_)
        refine AK.region ?_
        refine AK.val _ (Yl.add rfl rfl (by omega)) trivial rfl ?_
        refine AK.val _ (Yl.move rfl) trivial rfl ?_
        refine AK.nil ?_
        refine AK.then_ (hK6 _ _ (x + 1) ⟨by omega, fun i hi => by rcases Nat.lt_or_eq_of_le (Nat.le_of_lt_succ hi) with h | rfl; exact hg0.2 i h; first | exact fun h => absurd h hnl | exact non_of hvq (by omega) hg1.2⟩ (by omega) (.cons (rfl) (.cons rfl (.cons rfl (.cons rfl (.cons rfl (.nil)))))) (fun w hw => hw.pick [0, 1, 2, 3] (by decide) rfl rfl))
      · have hyl : Liv d ((TSt d).getD x 0) := hlq.1 (by simpa using hc1)
        refine AK.skip ?_
        refine AK.then_ (hK11 _ ?_)
        refine AK.seq (fun _ hK13 => ?_)
        refine AK.region ?_
        refine AK.val _ (Yl.loadBoxG ag25 rfl (by first | exact .own 0 rfl | exact .own 1 rfl | exact .own 2 rfl | exact .own 3 rfl | exact .own 4 rfl | exact .own 5 rfl | exact .own 6 rfl | exact .own 7 rfl | exact .own 8 rfl | exact .own 9 rfl | exact .own 10 rfl | exact .own 11 rfl | exact .own 12 rfl | assumption | exact BoxS.arg (by assumption)) rfl rfl) trivial rfl ?_
        refine AK.alloc el25 rfl rfl trivial rfl (fun bx8 => ?_)
        refine AK.storeBox 4 (us := [.int .i64 d.L, .int .i64 d.s, vF, vN]) (cs' := [.int .i64 d.L, .int .i64 d.s, vF, vN]) rfl sz25 rfl rfl rfl rfl (by repeat (first | exact one'_nil | refine one'_cons (by first | rfl | exact IsSl.one (by assumption) | exact IsSl.one nilSl) ?_)) (Nat.le_of_ble_eq_true rfl) rfl trivial ?_
        refine AK.nil ?_
        refine AK.then_ (hK13 _ ?_)
        refine AK.seq (fun _ hK14 => ?_)
        refine AK.region ?_
        refine AK.val _ (Yl.move rfl) trivial rfl ?_
        refine AK.val _ (Yl.fieldAddr fd25_1 rfl) trivial rfl ?_
        refine AK.storeBox 4 (us := [.int .i64 ((TSt d).getD x 0)]) (cs' := [.int .i64 d.L, .int .i64 ((TSt d).getD x 0), vF, vN]) rfl sz3 rfl rfl rfl rfl (by repeat (first | exact one'_nil | refine one'_cons (by first | rfl | exact IsSl.one (by assumption) | exact IsSl.one nilSl) ?_)) (Nat.le_of_ble_eq_true rfl) rfl trivial ?_
        refine AK.nil ?_
        refine AK.then_ (hK14 _ ?_)
        refine AK.seq (fun _ hK15 => ?_)
        refine AK.region ?_
        refine AK.val _ (Yl.loadBoxG ag25 rfl (by first | exact .own 0 rfl | exact .own 1 rfl | exact .own 2 rfl | exact .own 3 rfl | exact .own 4 rfl | exact .own 5 rfl | exact .own 6 rfl | exact .own 7 rfl | exact .own 8 rfl | exact .own 9 rfl | exact .own 10 rfl | exact .own 11 rfl | exact .own 12 rfl | assumption | exact BoxS.arg (by assumption)) rfl rfl) trivial rfl ?_
        refine AK.call co52 rfl (fun w hw => s_refaccess w _ (stD d ((TSt d).getD x 0)) (RdD.mk (d := (stD d ((TSt d).getD x 0))) (hF0.at hw) (hN0.at hw)) hvq) trivial rfl ?_
        rintro r o ⟨us, uw, sus, suw, rfl, rfl⟩
        refine AK.val _ (Yl.move rfl) trivial rfl ?_
        refine AK.val _ (Yl.extract rfl rfl) trivial rfl ?_
        refine AK.val _ (Yl.extract rfl rfl) trivial rfl ?_
        refine AK.val _ (Yl.assign rfl) trivial rfl ?_
        refine AK.val _ (Yl.assign rfl) trivial rfl ?_
        refine AK.nil ?_
        refine AK.then_ (hK15 _ ?_)
        refine AK.seq (fun _ hK16 => ?_)
        refine AK.region ?_
        refine AK.val _ (Yl.move rfl) trivial rfl ?_
        refine AK.val _ (Yl.lenR sl38 rfl (by first | exact .arg ‹_› | exact .own 0 rfl | exact .own 1 rfl | exact .own 2 rfl | exact .own 3 rfl | exact .own 4 rfl | exact .own 5 rfl | exact .own 6 rfl | exact .own 7 rfl | exact .own 8 rfl | assumption | exact .own 9 rfl | exact .own 10 rfl | exact .own 11 rfl | exact .own 12 rfl | exact .arg (hNi _ (by omega)))) trivial rfl ?_
        refine AK.val _ (Yl.move rfl) trivial rfl ?_
        refine AK.nil ?_
        refine AK.then_ (hK16 _ ?_)
        refine AK.block ?_
        refine AK.loopK (X := Nat) [(1, _), (3, _), (7, _), (22, _), (23, _), (24, _), (41, _), (42, _)] (fun y => [(43, .int .i64 (y : Int))]) (fun y => [box bx1 25 4 [.int .i64 d.L, .int .i64 d.s, vF, vN], row lvv 4 1 d.fin.length (ll.map Value.bool), row vs 3 1 (TSt d).length ((TSt d).map (Value.int .i64)), row vw 9 1 (TWo d).length ((TWo d).map sv), box bx8 25 4 [.int .i64 d.L, .int .i64 ((TSt d).getD x 0), vF, vN], row us 3 1 (TSt (stD d ((TSt d).getD x 0))).length ((TSt (stD d ((TSt d).getD x 0))).map (Value.int .i64)), row uw 9 1 (TWo (stD d ((TSt d).getD x 0))).length ((TWo (stD d ((TSt d).getD x 0))).map sv)]) (fun y => y ≤ (TSt (stD d ((TSt d).getD x 0))).length ∧ ∀ i, i < y → ∀ j : Nat, (j : Int) < d.L → stepQ d ((TSt (stD d ((TSt d).getD x 0))).getD i 0) j = ((TSt d).getD x 0) → ¬ Liv d ((TSt (stD d ((TSt d).getD x 0))).getD i 0)) (fun y => (TSt (stD d ((TSt d).getD x 0))).length - y) (0) (.cons rfl (.cons rfl (.cons rfl (.cons rfl (.cons rfl (.cons rfl (.cons rfl (.cons rfl (.nil))))))))) ?_ ?_ ?_ ?_
        · exact ⟨Nat.zero_le _, fun i hi => by omega⟩
        · exact .cons (rfl) (.nil)
        · exact fun w hw => hw
        · intro y hg1 _ hK17
          refine AK.seq (fun _ hK18 => ?_)
          refine AK.region ?_
          refine AK.val _ (Yl.lss rfl rfl) trivial rfl ?_
          refine AK.nil ?_
          refine AK.then_ (hK18 _ ?_)
          refine AK.seq (fun _ hK19 => ?_)
          refine AK.condD rfl (fun hc2 => ?_) (fun hc2 => ?_)
          · have hym : y < (TSt (stD d ((TSt d).getD x 0))).length := by omega
            have hrm : ((TSt (stD d ((TSt d).getD x 0))).getD y 0) ∈ TSt (stD d ((TSt d).getD x 0)) := getD_mem hym
            have hrr : InR d ((TSt (stD d ((TSt d).getD x 0))).getD y 0) := hTq.2.1 _ hrm
            have hr1 := hrr.1
            have hr2 := hrr.2
            have hrow := hv.row ((TSt (stD d ((TSt d).getD x 0))).getD y 0).toNat (by omega)
            have hlr := hlv _ hrr
            refine AK.skip ?_
            refine AK.then_ (hK19 _ ?_)
            refine AK.seq (fun _ hK20 => ?_)
            refine AK.block ?_
            refine AK.seq (fun _ hK21 => ?_)
            refine AK.region ?_
            first | refine AK.val _ (Yl.idxN sl38 rfl rfl (by first | exact .arg ‹_› | exact .own 0 rfl | exact .own 1 rfl | exact .own 2 rfl | exact .own 3 rfl | exact .own 4 rfl | exact .own 5 rfl | exact .own 6 rfl | exact .own 7 rfl | exact .own 8 rfl | assumption | exact .own 9 rfl | exact .own 10 rfl | exact .own 11 rfl | exact .own 12 rfl | exact .arg (hNi _ (by omega))) (by decide) (by omega)) trivial rfl ?_ | refine AK.val _ (Yl.idx sl38 rfl rfl (by first | exact .arg ‹_› | exact .own 0 rfl | exact .own 1 rfl | exact .own 2 rfl | exact .own 3 rfl | exact .own 4 rfl | exact .own 5 rfl | exact .own 6 rfl | exact .own 7 rfl | exact .own 8 rfl | assumption | exact .own 9 rfl | exact .own 10 rfl | exact .own 11 rfl | exact .own 12 rfl | exact .arg (hNi _ (by omega))) (by decide) (by omega)) trivial rfl ?_ | refine AK.val _ (Yl.idxK sl38 rfl rfl (by first | exact .arg ‹_› | exact .own 0 rfl | exact .own 1 rfl | exact .own 2 rfl | exact .own 3 rfl | exact .own 4 rfl | exact .own 5 rfl | exact .own 6 rfl | exact .own 7 rfl | exact .own 8 rfl | assumption | exact .own 9 rfl | exact .own 10 rfl | exact .own 11 rfl | exact .own 12 rfl | exact .arg (hNi _ (by omega))) (by decide) (by omega)) trivial rfl ?_
            refine AK.val _ (Yl.loadI on3 rfl (by first | exact .arg ‹_› | exact .own 0 rfl | exact .own 1 rfl | exact .own 2 rfl | exact .own 3 rfl | exact .own 4 rfl | exact .own 5 rfl | exact .own 6 rfl | exact .own 7 rfl | exact .own 8 rfl | assumption | exact .own 9 rfl | exact .own 10 rfl | exact .own 11 rfl | exact .own 12 rfl | exact .arg (hNi _ (by omega))) (by omega)) trivial rfl ?_
            refine AK.val _ (Yl.assign rfl) trivial rfl ?_
            refine AK.nil ?_
            refine AK.then_ (hK21 _ ?_)
            refine AK.seq (fun _ hK22 => ?_)
            refine AK.region ?_
            refine AK.val _ (Yl.fieldAddr fd25_3 rfl) trivial rfl ?_
            refine AK.val _ (Yl.loadBox on23 rfl (by first | exact .own 0 rfl | exact .own 1 rfl | exact .own 2 rfl | exact .own 3 rfl | exact .own 4 rfl | exact .own 5 rfl | exact .own 6 rfl | exact .own 7 rfl | exact .own 8 rfl | exact .own 9 rfl | exact .own 10 rfl | exact .own 11 rfl | exact .own 12 rfl | assumption | exact BoxS.arg (by assumption)) rfl) trivial rfl ?_
            refine AK.val _ (Yl.move rfl) trivial rfl ?_
            first | refine AK.val _ (Yl.idxN sl23 rfl rfl (by first | exact .arg ‹_› | exact .own 0 rfl | exact .own 1 rfl | exact .own 2 rfl | exact .own 3 rfl | exact .own 4 rfl | exact .own 5 rfl | exact .own 6 rfl | exact .own 7 rfl | exact .own 8 rfl | assumption | exact .own 9 rfl | exact .own 10 rfl | exact .own 11 rfl | exact .own 12 rfl | exact .arg (hNi _ (by omega))) (by decide) (by omega)) trivial rfl ?_ | refine AK.val _ (Yl.idx sl23 rfl rfl (by first | exact .arg ‹_› | exact .own 0 rfl | exact .own 1 rfl | exact .own 2 rfl | exact .own 3 rfl | exact .own 4 rfl | exact .own 5 rfl | exact .own 6 rfl | exact .own 7 rfl | exact .own 8 rfl | assumption | exact .own 9 rfl | exact .own 10 rfl | exact .own 11 rfl | exact .own 12 rfl | exact .arg (hNi _ (by omega))) (by decide) (by omega)) trivial rfl ?_ | refine AK.val _ (Yl.idxK sl23 rfl rfl (by first | exact .arg ‹_› | exact .own 0 rfl | exact .own 1 rfl | exact .own 2 rfl | exact .own 3 rfl | exact .own 4 rfl | exact .own 5 rfl | exact .own 6 rfl | exact .own 7 rfl | exact .own 8 rfl | assumption | exact .own 9 rfl | exact .own 10 rfl | exact .own 11 rfl | exact .own 12 rfl | exact .arg (hNi _ (by omega))) (by decide) (by omega)) trivial rfl ?_
            refine AK.val _ (Yl.loadV on38 rfl (by first | exact .arg ‹_› | exact .own 0 rfl | exact .own 1 rfl | exact .own 2 rfl | exact .own 3 rfl | exact .own 4 rfl | exact .own 5 rfl | exact .own 6 rfl | exact .own 7 rfl | exact .own 8 rfl | assumption | exact .own 9 rfl | exact .own 10 rfl | exact .own 11 rfl | exact .own 12 rfl | exact .arg (hNi _ (by omega))) (by omega)) trivial rfl ?_
            refine AK.val _ (Yl.lenR sl38 rfl (by first | exact .arg ‹_› | exact .own 0 rfl | exact .own 1 rfl | exact .own 2 rfl | exact .own 3 rfl | exact .own 4 rfl | exact .own 5 rfl | exact .own 6 rfl | exact .own 7 rfl | exact .own 8 rfl | assumption | exact .own 9 rfl | exact .own 10 rfl | exact .own 11 rfl | exact .own 12 rfl | exact .arg (hNi _ (by omega)))) trivial rfl ?_
            refine AK.val _ (Yl.move rfl) trivial rfl ?_
            refine AK.nil ?_
            refine AK.then_ (hK22 _ ?_)
            refine AK.block ?_
            refine AK.loopK (X := Nat) [(1, _), (3, _), (7, _), (12, _), (22, _), (23, _), (24, _), (41, _), (42, _), (43, _), (51, _), (52, _)] (fun z => [(53, .int .i64 (z : Int))]) (fun z => [box bx1 25 4 [.int .i64 d.L, .int .i64 d.s, vF, vN], row lvv 4 1 d.fin.length (ll.map Value.bool), row vs 3 1 (TSt d).length ((TSt d).map (Value.int .i64)), row vw 9 1 (TWo d).length ((TWo d).map sv), box bx8 25 4 [.int .i64 d.L, .int .i64 ((TSt d).getD x 0), vF, vN], row us 3 1 (TSt (stD d ((TSt d).getD x 0))).length ((TSt (stD d ((TSt d).getD x 0))).map (Value.int .i64)), row uw 9 1 (TWo (stD d ((TSt d).getD x 0))).length ((TWo (stD d ((TSt d).getD x 0))).map sv)]) (fun z => z ≤ (d.nx.getD ((TSt (stD d ((TSt d).getD x 0))).getD y 0).toNat []).length ∧ ∀ j : Nat, j < z → stepQ d ((TSt (stD d ((TSt d).getD x 0))).getD y 0) j = ((TSt d).getD x 0) → ¬ Liv d ((TSt (stD d ((TSt d).getD x 0))).getD y 0)) (fun z => (d.nx.getD ((TSt (stD d ((TSt d).getD x 0))).getD y 0).toNat []).length - z) (0) (.cons rfl (.cons rfl (.cons rfl (.cons rfl (.cons rfl (.cons rfl (.cons rfl (.cons rfl (.cons rfl (.cons rfl (.cons rfl (.cons rfl (.nil))))))))))))) ?_ ?_ ?_ ?_
            · exact ⟨Nat.zero_le _, fun i hi => by omega⟩
            · exact .cons (rfl) (.nil)
            · exact fun w hw => hw
            · intro z hg2 _ hK23
              refine AK.seq (fun _ hK24 => ?_)
              refine AK.region ?_
              refine AK.val _ (Yl.lss rfl rfl) trivial rfl ?_
              refine AK.nil ?_
              refine AK.then_ (hK24 _ ?_)
              refine AK.seq (fun _ hK25 => ?_)
              refine AK.condD rfl (fun hc3 => ?_) (fun hc3 => ?_)
              · refine AK.skip ?_
                refine AK.then_ (hK25 _ ?_)
                refine AK.seq (fun _ hK26 => ?_)
                refine AK.block ?_
                refine AK.seq (fun _ hK27 => ?_)
                refine AK.region ?_
                first | refine AK.val _ (Yl.idxN sl38 rfl rfl (by first | exact .arg ‹_› | exact .own 0 rfl | exact .own 1 rfl | exact .own 2 rfl | exact .own 3 rfl | exact .own 4 rfl | exact .own 5 rfl | exact .own 6 rfl | exact .own 7 rfl | exact .own 8 rfl | assumption | exact .own 9 rfl | exact .own 10 rfl | exact .own 11 rfl | exact .own 12 rfl | exact .arg (hNi _ (by omega))) (by decide) (by omega)) trivial rfl ?_ | refine AK.val _ (Yl.idx sl38 rfl rfl (by first | exact .arg ‹_› | exact .own 0 rfl | exact .own 1 rfl | exact .own 2 rfl | exact .own 3 rfl | exact .own 4 rfl | exact .own 5 rfl | exact .own 6 rfl | exact .own 7 rfl | exact .own 8 rfl | assumption | exact .own 9 rfl | exact .own 10 rfl | exact .own 11 rfl | exact .own 12 rfl | exact .arg (hNi _ (by omega))) (by decide) (by omega)) trivial rfl ?_ | refine AK.val _ (Yl.idxK sl38 rfl rfl (by first | exact .arg ‹_› | exact .own 0 rfl | exact .own 1 rfl | exact .own 2 rfl | exact .own 3 rfl | exact .own 4 rfl | exact .own 5 rfl | exact .own 6 rfl | exact .own 7 rfl | exact .own 8 rfl | assumption | exact .own 9 rfl | exact .own 10 rfl | exact .own 11 rfl | exact .own 12 rfl | exact .arg (hNi _ (by omega))) (by decide) (by omega)) trivial rfl ?_
                refine AK.val _ (Yl.loadI on3 rfl (by first | exact .arg ‹_› | exact .own 0 rfl | exact .own 1 rfl | exact .own 2 rfl | exact .own 3 rfl | exact .own 4 rfl | exact .own 5 rfl | exact .own 6 rfl | exact .own 7 rfl | exact .own 8 rfl | assumption | exact .own 9 rfl | exact .own 10 rfl | exact .own 11 rfl | exact .own 12 rfl | exact .arg (hNi _ (by omega))) (by omega)) trivial rfl ?_
                refine AK.val _ (Yl.assign rfl) trivial rfl ?_
                refine AK.nil ?_
                refine AK.then_ (hK27 _ ?_)
                refine AK.seq (fun _ hK28 => ?_)
                refine AK.region ?_
                refine AK.val _ (Yl.move rfl) trivial rfl ?_
                refine AK.val _ (Yl.move rfl) trivial rfl ?_
                refine AK.val _ (Yl.eql rfl rfl) trivial rfl ?_
                refine AK.val _ (Yl.move rfl) trivial rfl ?_
                refine AK.splitB (g := 60) rfl (fun hg_16_3 => ?_) (fun hg_16_3 => ?_)
                · have hg_16_3' := hg_16_3
                  try simp only [decide_eq_true_eq, decide_eq_false_iff_not, Bool.not_eq_true', Bool.not_eq_false', Bool.not_not, ne_eq, Decidable.not_not, Int.not_lt, Int.not_le, beq_iff_eq, bne_iff_ne, Bool.and_eq_true, Bool.or_eq_true, Bool.or_eq_false_iff, Bool.not_false, Bool.not_true, reduceCtorEq, not_true_eq_false, not_false_eq_true] at hg_16_3'
                  refine AK.val _ (Yl.move rfl) ⟨_, rfl, congrArg (fun b => some (Value.bool b)) hg_16_3⟩ rfl ?_
                  refine AK.val _ (Yl.move rfl) ⟨_, rfl, congrArg (fun b => some (Value.bool b)) hg_16_3⟩ rfl ?_
                  first | refine AK.val _ (Yl.idxN sl22 rfl rfl (by first | exact .arg ‹_› | exact .own 0 rfl | exact .own 1 rfl | exact .own 2 rfl | exact .own 3 rfl | exact .own 4 rfl | exact .own 5 rfl | exact .own 6 rfl | exact .own 7 rfl | exact .own 8 rfl | assumption | exact .own 9 rfl | exact .own 10 rfl | exact .own 11 rfl | exact .own 12 rfl | exact .arg (hNi _ (by omega))) (by decide) (by omega)) ⟨_, rfl, congrArg (fun b => some (Value.bool b)) hg_16_3⟩ rfl ?_ | refine AK.val _ (Yl.idx sl22 rfl rfl (by first | exact .arg ‹_› | exact .own 0 rfl | exact .own 1 rfl | exact .own 2 rfl | exact .own 3 rfl | exact .own 4 rfl | exact .own 5 rfl | exact .own 6 rfl | exact .own 7 rfl | exact .own 8 rfl | assumption | exact .own 9 rfl | exact .own 10 rfl | exact .own 11 rfl | exact .own 12 rfl | exact .arg (hNi _ (by omega))) (by decide) (by omega)) ⟨_, rfl, congrArg (fun b => some (Value.bool b)) hg_16_3⟩ rfl ?_ | refine AK.val _ (Yl.idxK sl22 rfl rfl (by first | exact .arg ‹_› | exact .own 0 rfl | exact .own 1 rfl | exact .own 2 rfl | exact .own 3 rfl | exact .own 4 rfl | exact .own 5 rfl | exact .own 6 rfl | exact .own 7 rfl | exact .own 8 rfl | assumption | exact .own 9 rfl | exact .own 10 rfl | exact .own 11 rfl | exact .own 12 rfl | exact .arg (hNi _ (by omega))) (by decide) (by omega)) ⟨_, rfl, congrArg (fun b => some (Value.bool b)) hg_16_3⟩ rfl ?_
                  refine AK.val _ (Yl.loadB on4 rfl (by first | exact .arg ‹_› | exact .own 0 rfl | exact .own 1 rfl | exact .own 2 rfl | exact .own 3 rfl | exact .own 4 rfl | exact .own 5 rfl | exact .own 6 rfl | exact .own 7 rfl | exact .own 8 rfl | assumption | exact .own 9 rfl | exact .own 10 rfl | exact .own 11 rfl | exact .own 12 rfl | exact .arg (hNi _ (by omega))) (by omega)) ⟨_, rfl, congrArg (fun b => some (Value.bool b)) hg_16_3⟩ rfl ?_
                  refine AK.val _ (Yl.pickT rfl (hg_16_3) rfl) trivial rfl ?_
                  refine AK.nil ?_
                  refine AK.then_ (hK28 _ ?_)
                  refine AK.cond rfl (fun hc4 => ?_) (fun hc4 => ?_)
                  · try simp only [decide_eq_true_eq, decide_eq_false_iff_not, Bool.not_eq_true', Bool.not_eq_false', Bool.not_not, ne_eq, Decidable.not_not, Int.not_lt, Int.not_le, beq_iff_eq, bne_iff_ne, Bool.and_eq_true, Bool.or_eq_true, Bool.or_eq_false_iff, Bool.not_false, Bool.not_true, reduceCtorEq, not_true_eq_false, not_false_eq_true] at hc4
                    refine AK.seq (fun _ hK29 => ?_)
                    refine AK.region ?_
                    refine AK.val _ (Yl.assign rfl) trivial rfl ?_
                    refine AK.nil ?_
                    refine AK.then_ (hK29 _ ?_)
                    refine AK.ret ?_
                    refine AK.block_ret ?_
                    refine AK.then_ret ?_
                    refine AK.then_ret ?_
                    refine AK.block_ret ?_
                    refine AK.block_ret ?_
                    refine AK.then_ret ?_
                    refine AK.then_ret ?_
                    refine AK.block_ret ?_
                    refine AK.block_ret ?_
                    refine AK.then_ret ?_
                    refine AK.then_ret ?_
                    refine AK.block_ret ?_
                    refine AK.then_ret ?_
                    refine AK.ret1 rfl rfl (fun w hw => ⟨_, _, ?_, rfl, Ret.of (hw.pick [] (by decide) rfl rfl)⟩)
                    rw [inf_found hv hqm hyl hrm (x := z) (by omega) hg_16_3']; exact ⟨rfl, rfl⟩
                  · try simp only [decide_eq_true_eq, decide_eq_false_iff_not, Bool.not_eq_true', Bool.not_eq_false', Bool.not_not, ne_eq, Decidable.not_not, Int.not_lt, Int.not_le, beq_iff_eq, bne_iff_ne, Bool.and_eq_true, Bool.or_eq_true, Bool.or_eq_false_iff, Bool.not_false, Bool.not_true, reduceCtorEq, not_true_eq_false, not_false_eq_true] at hc4
                    refine AK.skip ?_
                    refine AK.block_normal ?_
                    refine AK.then_ (hK26 _ ?_)
                    refine AK.region ?_
                    refine AK.val _ (Yl.add rfl rfl (by omega)) trivial rfl ?_
                    refine AK.val _ (Yl.move rfl) trivial rfl ?_
                    refine AK.nil ?_
                    refine AK.then_ (hK23 _ _ (z + 1) ⟨by omega, fun j hj => by rcases Nat.lt_or_eq_of_le (Nat.le_of_lt_succ hj) with h | rfl; exact hg2.2 j h; first | exact fun e => absurd e hg_16_3' | exact fun _ h => by rw [hlr.2 h] at hc4; exact absurd hc4 (by decide)⟩ (by omega) (.cons (rfl) (.cons rfl (.cons rfl (.cons rfl (.cons rfl (.cons rfl (.cons rfl (.cons rfl (.cons rfl (.cons rfl (.cons rfl (.cons rfl (.cons rfl (.nil)))))))))))))) (fun w hw => hw))
                · have hg_16_3' := hg_16_3
                  try simp only [decide_eq_true_eq, decide_eq_false_iff_not, Bool.not_eq_true', Bool.not_eq_false', Bool.not_not, ne_eq, Decidable.not_not, Int.not_lt, Int.not_le, beq_iff_eq, bne_iff_ne, Bool.and_eq_true, Bool.or_eq_true, Bool.or_eq_false_iff, Bool.not_false, Bool.not_true, reduceCtorEq, not_true_eq_false, not_false_eq_true] at hg_16_3'
                  refine AK.pass rfl rfl (hg_16_3) rfl ?_
                  refine AK.pass rfl rfl (hg_16_3) rfl ?_
                  refine AK.pass rfl rfl (hg_16_3) rfl ?_
                  refine AK.pass rfl rfl (hg_16_3) rfl ?_
                  refine AK.val _ (Yl.pickF rfl (hg_16_3) rfl) trivial rfl ?_
                  refine AK.nil ?_
                  refine AK.then_ (hK28 _ ?_)
                  refine AK.cond_f rfl (rfl) ?_
                  refine AK.skip ?_
                  refine AK.block_normal ?_
                  refine AK.then_ (hK26 _ ?_)
                  refine AK.region ?_
                  refine AK.val _ (Yl.add rfl rfl (by omega)) trivial rfl ?_
                  refine AK.val _ (Yl.move rfl) trivial rfl ?_
                  refine AK.nil ?_
                  refine AK.then_ (hK23 _ _ (z + 1) ⟨by omega, fun j hj => by rcases Nat.lt_or_eq_of_le (Nat.le_of_lt_succ hj) with h | rfl; exact hg2.2 j h; first | exact fun e => absurd e hg_16_3' | exact fun _ h => by rw [hlr.2 h] at hc4; exact absurd hc4 (by decide)⟩ (by omega) (.cons (rfl) (.cons rfl (.cons rfl (.cons rfl (.cons rfl (.cons rfl (.cons rfl (.cons rfl (.cons rfl (.cons rfl (.cons rfl (.cons rfl (.cons rfl (.nil)))))))))))))) (fun w hw => hw))
              · refine AK.exit ?_
                refine AK.then_exit ?_
                refine AK.then_exit ?_
                refine AK.block_exit ?_
                refine AK.block_normal ?_
                refine AK.then_ (hK20 _ ?_)
                refine AK.region ?_
                refine AK.val _ (Yl.add rfl rfl (by omega)) trivial rfl ?_
                refine AK.val _ (Yl.move rfl) trivial rfl ?_
                refine AK.nil ?_
                refine AK.then_ (hK17 _ _ (y + 1) ⟨by omega, fun i hi => by rcases Nat.lt_or_eq_of_le (Nat.le_of_lt_succ hi) with h | rfl; exact hg1.2 i h; exact fun j hj => hg2.2 j (by omega)⟩ (by omega) (.cons (rfl) (.cons rfl (.cons rfl (.cons rfl (.cons rfl (.cons rfl (.cons rfl (.cons rfl (.cons rfl (.nil)))))))))) (fun w hw => hw))
          · refine AK.exit ?_
            refine AK.then_exit ?_
            refine AK.then_exit ?_
            refine AK.block_exit ?_
            refine AK.block_normal ?_
            refine AK.then_ (hK9 _ ?_)
            refine AK.region ?_
            refine AK.val _ (Yl.add rfl rfl (by omega)) trivial rfl ?_
            refine AK.val _ (Yl.move rfl) trivial rfl ?_
            refine AK.nil ?_
            refine AK.then_ (hK6 _ _ (x + 1) ⟨by omega, fun i hi => by rcases Nat.lt_or_eq_of_le (Nat.le_of_lt_succ hi) with h | rfl; exact hg0.2 i h; first | exact fun h => absurd h hnl | exact non_of hvq (by omega) hg1.2⟩ (by omega) (.cons (rfl) (.cons rfl (.cons rfl (.cons rfl (.cons rfl (.nil)))))) (fun w hw => hw.pick [0, 1, 2, 3] (by decide) rfl rfl))
    · refine AK.exit ?_
      refine AK.then_exit ?_
      refine AK.then_exit ?_
      refine AK.block_exit ?_
      refine AK.then_ (hK4 _ ?_)
      refine AK.seq (fun _ hK30 => ?_)
      refine AK.region ?_
      refine AK.val _ (Yl.assign rfl) trivial rfl ?_
      refine AK.nil ?_
      refine AK.then_ (hK30 _ ?_)
      refine AK.ret ?_
      refine AK.ret1 rfl rfl (fun w hw => ⟨_, _, ?_, rfl, Ret.of (hw.pick [] (by decide) rfl rfl)⟩)
      rw [inf_none hv (fun i hi => hg0.2 i (by omega))]; exact ⟨rfl, rfl⟩

theorem inf_step {d : Dfa} (hv : VD d) {k : Nat} (hk : d.fin.length ≤ k) (hk2 : k ≤ 10000) {b : Bool} (hb : b = true → InfV d = true) : (b || decide (CountV d (k : Int) ≠ 0)) = true → InfV d = true := by
  intro h
  rw [Bool.or_eq_true, decide_eq_true_eq] at h
  rcases h with h | h
  · exact hb h
  · exact infV_iff.2 ⟨hv, cyc_of hv hk (CN_wd hv h hk2)⟩
set_option maxHeartbeats 1000000 in
set_option maxRecDepth 100000 in
theorem l_infinite (w : World) (v : Value) (d : Dfa) (h : RdD (fun _ => False) w v d) : CallS Try.prog 7 [v] w (fun r o => r = .bool true ∧ o = []) := by
  have h0 := h
  obtain ⟨vF, vN, rfl, hF, hN⟩ := h
  have hF0 := hF
  have hN0 := hN
  obtain ⟨rs, hrl, hNr, hNi⟩ := hN
  have sF := hF.sl
  have sN := hNr.sl
  have hmf := hF.le
  have hmn := hNr.le
  unfold RdL at hF
  refine spec_of Try.func7 rfl (Nat.le_of_ble_eq_true rfl) ?_
  refine AK.seq (fun _ hK1 => ?_)
  refine AK.region ?_
  refine AK.box_ (E := 25) (cs := [.int .i64 d.L, .int .i64 d.s, vF, vN]) rfl rfl rfl trivial rfl (fun bx1 => ?_)
  refine AK.val _ (Yl.assign rfl) trivial rfl ?_
  refine AK.nil ?_
  refine AK.then_ (hK1 _ ?_)
  refine AK.seq (fun _ hK2 => ?_)
  refine AK.region ?_
  refine AK.val _ (Yl.loadBoxG ag25 rfl (by first | exact .own 0 rfl | exact .own 1 rfl | exact .own 2 rfl | exact .own 3 rfl | exact .own 4 rfl | exact .own 5 rfl | exact .own 6 rfl | exact .own 7 rfl | exact .own 8 rfl | exact .own 9 rfl | exact .own 10 rfl | exact .own 11 rfl | exact .own 12 rfl | assumption | exact BoxS.arg (by assumption)) rfl rfl) trivial rfl ?_
  refine AK.call co28 rfl (fun w hw => s_infinite w _ d (h0.at hw)) trivial rfl ?_
  rintro r o ⟨rfl, rfl⟩
  refine AK.val _ (Yl.assign rfl) trivial rfl ?_
  refine AK.nil ?_
  refine AK.then_ (hK2 _ ?_)
  refine AK.seq (fun _ hK3 => ?_)
  refine AK.seq (fun _ hK4 => ?_)
  refine AK.region ?_
  refine AK.val _ (Yl.loadBoxG ag25 rfl (by first | exact .own 0 rfl | exact .own 1 rfl | exact .own 2 rfl | exact .own 3 rfl | exact .own 4 rfl | exact .own 5 rfl | exact .own 6 rfl | exact .own 7 rfl | exact .own 8 rfl | exact .own 9 rfl | exact .own 10 rfl | exact .own 11 rfl | exact .own 12 rfl | assumption | exact BoxS.arg (by assumption)) rfl rfl) trivial rfl ?_
  refine AK.call co18 rfl (fun w hw => s_lvalid w _ d (h0.at hw)) trivial rfl ?_
  rintro r o ⟨rfl, rfl⟩
  refine AK.val _ (Yl.not rfl) trivial rfl ?_
  refine AK.nil ?_
  refine AK.then_ (hK4 _ ?_)
  refine AK.condB rfl (fun hc0 => ?_) (fun hc0 => ?_)
  · have hnv : ¬ VD d := (by simpa using hc0)
    refine AK.seq (fun _ hK5 => ?_)
    refine AK.region ?_
    refine AK.val _ (Yl.move rfl) trivial rfl ?_
    refine AK.val _ (Yl.not rfl) trivial rfl ?_
    refine AK.val _ (Yl.move rfl) trivial rfl ?_
    refine AK.knownT (g := 13) rfl (by rw [infV_no hnv]; rfl) (fun hg_3_2 => ?_)
    refine AK.call co17 rfl (fun w hw => s_awake w) ⟨_, rfl, congrArg (fun b => some (Value.bool b)) hg_3_2⟩ rfl ?_
    rintro r o ⟨rfl, rfl⟩
    refine AK.val _ (Yl.pickT rfl (hg_3_2) rfl) trivial rfl ?_
    refine AK.val _ (Yl.assign rfl) trivial rfl ?_
    refine AK.nil ?_
    refine AK.then_ (hK5 _ ?_)
    refine AK.ret ?_
    refine AK.then_ret ?_
    refine AK.ret1 rfl rfl (fun w hw => ⟨_, _, ?_, rfl, Ret.of (hw.pick [] (by decide) rfl rfl)⟩)
    exact ⟨rfl, rfl⟩
  · have hv : VD d := (by simpa using hc0)
    refine AK.skip ?_
    refine AK.then_ (hK3 _ ?_)
    refine AK.seq (fun _ hK6 => ?_)
    refine AK.seq (fun _ hK7 => ?_)
    refine AK.region ?_
    refine AK.val _ (Yl.fieldAddr fd25_2 rfl) trivial rfl ?_
    refine AK.val _ (Yl.loadBox on22 rfl (by first | exact .own 0 rfl | exact .own 1 rfl | exact .own 2 rfl | exact .own 3 rfl | exact .own 4 rfl | exact .own 5 rfl | exact .own 6 rfl | exact .own 7 rfl | exact .own 8 rfl | exact .own 9 rfl | exact .own 10 rfl | exact .own 11 rfl | exact .own 12 rfl | assumption | exact BoxS.arg (by assumption)) rfl) trivial rfl ?_
    refine AK.val _ (Yl.lenR sl22 rfl (by first | exact .arg ‹_› | exact .own 0 rfl | exact .own 1 rfl | exact .own 2 rfl | exact .own 3 rfl | exact .own 4 rfl | exact .own 5 rfl | exact .own 6 rfl | exact .own 7 rfl | exact .own 8 rfl | assumption | exact .own 9 rfl | exact .own 10 rfl | exact .own 11 rfl | exact .own 12 rfl)) trivial rfl ?_
    refine AK.val _ (Yl.gtr rfl rfl) trivial rfl ?_
    refine AK.nil ?_
    refine AK.then_ (hK7 _ ?_)
    refine AK.condD rfl (fun hc1 => ?_) (fun hc1 => ?_)
    · refine AK.seq (fun _ hK8 => ?_)
      refine AK.region ?_
      refine AK.call co17 rfl (fun w hw => s_awake w) trivial rfl ?_
      rintro r o ⟨rfl, rfl⟩
      refine AK.val _ (Yl.assign rfl) trivial rfl ?_
      refine AK.nil ?_
      refine AK.then_ (hK8 _ ?_)
      refine AK.ret ?_
      refine AK.then_ret ?_
      refine AK.ret1 rfl rfl (fun w hw => ⟨_, _, ?_, rfl, Ret.of (hw.pick [] (by decide) rfl rfl)⟩)
      exact ⟨rfl, rfl⟩
    · refine AK.skip ?_
      refine AK.then_ (hK6 _ ?_)
      refine AK.seq (fun _ hK9 => ?_)
      refine AK.region ?_
      refine AK.val _ (Yl.assign rfl) trivial rfl ?_
      refine AK.nil ?_
      refine AK.then_ (hK9 _ ?_)
      refine AK.seq (fun _ hK10 => ?_)
      refine AK.seq (fun _ hK11 => ?_)
      refine AK.region ?_
      refine AK.val _ (Yl.fieldAddr fd25_2 rfl) trivial rfl ?_
      refine AK.val _ (Yl.loadBox on22 rfl (by first | exact .own 0 rfl | exact .own 1 rfl | exact .own 2 rfl | exact .own 3 rfl | exact .own 4 rfl | exact .own 5 rfl | exact .own 6 rfl | exact .own 7 rfl | exact .own 8 rfl | exact .own 9 rfl | exact .own 10 rfl | exact .own 11 rfl | exact .own 12 rfl | assumption | exact BoxS.arg (by assumption)) rfl) trivial rfl ?_
      refine AK.val _ (Yl.lenR sl22 rfl (by first | exact .arg ‹_› | exact .own 0 rfl | exact .own 1 rfl | exact .own 2 rfl | exact .own 3 rfl | exact .own 4 rfl | exact .own 5 rfl | exact .own 6 rfl | exact .own 7 rfl | exact .own 8 rfl | assumption | exact .own 9 rfl | exact .own 10 rfl | exact .own 11 rfl | exact .own 12 rfl)) trivial rfl ?_
      refine AK.val _ (Yl.assign rfl) trivial rfl ?_
      refine AK.nil ?_
      refine AK.then_ (hK11 _ ?_)
      refine AK.block ?_
      refine AK.loopK (X := Nat × Bool) [(1, _), (3, _)] (fun x => [(4, .bool x.2), (5, .int .i64 (x.1 : Int))]) (fun x => [box bx1 25 4 [.int .i64 d.L, .int .i64 d.s, vF, vN]]) (fun x => d.fin.length ≤ x.1 ∧ x.1 ≤ 2 * d.fin.length ∧ (x.2 = true → InfV d = true)) (fun x => 2 * d.fin.length - x.1) ((d.fin.length, false)) (.cons rfl (.cons rfl (.nil))) ?_ ?_ ?_ ?_
      · exact ⟨Nat.le_refl _, by dsimp only; omega, fun h => by cases h⟩
      · exact .cons (rfl) (.cons (rfl) (.nil))
      · exact fun w hw => hw
      · intro x hg0 _ hK12
        refine AK.seq (fun _ hK13 => ?_)
        refine AK.seq (fun _ hK14 => ?_)
        refine AK.region ?_
        refine AK.val _ (Yl.move rfl) trivial rfl ?_
        refine AK.val _ (Yl.fieldAddr fd25_2 rfl) trivial rfl ?_
        refine AK.val _ (Yl.loadBox on22 rfl (by first | exact .own 0 rfl | exact .own 1 rfl | exact .own 2 rfl | exact .own 3 rfl | exact .own 4 rfl | exact .own 5 rfl | exact .own 6 rfl | exact .own 7 rfl | exact .own 8 rfl | exact .own 9 rfl | exact .own 10 rfl | exact .own 11 rfl | exact .own 12 rfl | assumption | exact BoxS.arg (by assumption)) rfl) trivial rfl ?_
        refine AK.val _ (Yl.lenR sl22 rfl (by first | exact .arg ‹_› | exact .own 0 rfl | exact .own 1 rfl | exact .own 2 rfl | exact .own 3 rfl | exact .own 4 rfl | exact .own 5 rfl | exact .own 6 rfl | exact .own 7 rfl | exact .own 8 rfl | assumption | exact .own 9 rfl | exact .own 10 rfl | exact .own 11 rfl | exact .own 12 rfl)) trivial rfl ?_
        refine AK.val _ (Yl.mul rfl rfl (by omega)) trivial rfl ?_
        refine AK.val _ (Yl.lss rfl rfl) trivial rfl ?_
        refine AK.nil ?_
        refine AK.then_ (hK14 _ ?_)
        refine AK.condD rfl (fun hc2 => ?_) (fun hc2 => ?_)
        · refine AK.skip ?_
          refine AK.then_ (hK13 _ ?_)
          refine AK.seq (fun _ hK15 => ?_)
          refine AK.block ?_
          refine AK.region ?_
          refine AK.val _ (Yl.move rfl) trivial rfl ?_
          refine AK.val _ (Yl.move rfl) trivial rfl ?_
          refine AK.splitB (g := 33) rfl (fun hg_10_1 => ?_) (fun hg_10_1 => ?_)
          · have hg_10_1' := hg_10_1
            try simp only [decide_eq_true_eq, decide_eq_false_iff_not, Bool.not_eq_true', Bool.not_eq_false', Bool.not_not, ne_eq, Decidable.not_not, Int.not_lt, Int.not_le, beq_iff_eq, bne_iff_ne, Bool.and_eq_true, Bool.or_eq_true, Bool.or_eq_false_iff, Bool.not_false, Bool.not_true, reduceCtorEq, not_true_eq_false, not_false_eq_true] at hg_10_1'
            refine AK.pass rfl rfl (hg_10_1) rfl ?_
            refine AK.pass rfl rfl (hg_10_1) rfl ?_
            refine AK.pass rfl rfl (hg_10_1) rfl ?_
            refine AK.pass rfl rfl (hg_10_1) rfl ?_
            refine AK.val _ (Yl.pickT rfl (hg_10_1) rfl) trivial rfl ?_
            refine AK.val _ (Yl.assign rfl) trivial rfl ?_
            refine AK.nil ?_
            refine AK.block_normal ?_
            refine AK.then_ (hK15 _ ?_)
            refine AK.region ?_
            refine AK.val _ (Yl.move rfl) trivial rfl ?_
            refine AK.val _ (Yl.add rfl rfl (by omega)) trivial rfl ?_
            refine AK.val _ (Yl.assign rfl) trivial rfl ?_
            refine AK.nil ?_
            refine AK.then_ (hK12 _ _ ((x.1 + 1, x.2 || decide (CountV d (x.1 : Int) ≠ 0))) ⟨by dsimp only; omega, by dsimp only; omega, inf_step hv hg0.1 (by omega) hg0.2.2⟩ (by dsimp only; omega) (.cons ((by dsimp only; rw [hg_10_1]; rfl)) (.cons (rfl) (.cons rfl (.cons rfl (.nil))))) (fun w hw => hw))
          · have hg_10_1' := hg_10_1
            try simp only [decide_eq_true_eq, decide_eq_false_iff_not, Bool.not_eq_true', Bool.not_eq_false', Bool.not_not, ne_eq, Decidable.not_not, Int.not_lt, Int.not_le, beq_iff_eq, bne_iff_ne, Bool.and_eq_true, Bool.or_eq_true, Bool.or_eq_false_iff, Bool.not_false, Bool.not_true, reduceCtorEq, not_true_eq_false, not_false_eq_true] at hg_10_1'
            refine AK.val _ (Yl.loadBoxG ag25 rfl (by first | exact .own 0 rfl | exact .own 1 rfl | exact .own 2 rfl | exact .own 3 rfl | exact .own 4 rfl | exact .own 5 rfl | exact .own 6 rfl | exact .own 7 rfl | exact .own 8 rfl | exact .own 9 rfl | exact .own 10 rfl | exact .own 11 rfl | exact .own 12 rfl | assumption | exact BoxS.arg (by assumption)) rfl rfl) ⟨_, rfl, congrArg (fun b => some (Value.bool b)) hg_10_1⟩ rfl ?_
            refine AK.val _ (Yl.move rfl) ⟨_, rfl, congrArg (fun b => some (Value.bool b)) hg_10_1⟩ rfl ?_
            refine AK.call co22 rfl (fun w hw => s_count w _ d (h0.at hw) (x.1 : Int)) ⟨_, rfl, congrArg (fun b => some (Value.bool b)) hg_10_1⟩ rfl ?_
            rintro r o ⟨rfl, rfl⟩
            refine AK.val _ (Yl.neq rfl rfl) ⟨_, rfl, congrArg (fun b => some (Value.bool b)) hg_10_1⟩ rfl ?_
            refine AK.val _ (Yl.pickF rfl (hg_10_1) rfl) trivial rfl ?_
            refine AK.val _ (Yl.assign rfl) trivial rfl ?_
            refine AK.nil ?_
            refine AK.block_normal ?_
            refine AK.then_ (hK15 _ ?_)
            refine AK.region ?_
            refine AK.val _ (Yl.move rfl) trivial rfl ?_
            refine AK.val _ (Yl.add rfl rfl (by omega)) trivial rfl ?_
            refine AK.val _ (Yl.assign rfl) trivial rfl ?_
            refine AK.nil ?_
            refine AK.then_ (hK12 _ _ ((x.1 + 1, x.2 || decide (CountV d (x.1 : Int) ≠ 0))) ⟨by dsimp only; omega, by dsimp only; omega, inf_step hv hg0.1 (by omega) hg0.2.2⟩ (by dsimp only; omega) (.cons ((by dsimp only; rw [hg_10_1]; rfl)) (.cons (rfl) (.cons rfl (.cons rfl (.nil))))) (fun w hw => hw))
        · refine AK.exit ?_
          refine AK.then_exit ?_
          refine AK.then_exit ?_
          refine AK.block_exit ?_
          refine AK.then_ (hK10 _ ?_)
          refine AK.seq (fun _ hK16 => ?_)
          refine AK.region ?_
          refine AK.val _ (Yl.move rfl) trivial rfl ?_
          refine AK.val _ (Yl.loadBoxG ag25 rfl (by first | exact .own 0 rfl | exact .own 1 rfl | exact .own 2 rfl | exact .own 3 rfl | exact .own 4 rfl | exact .own 5 rfl | exact .own 6 rfl | exact .own 7 rfl | exact .own 8 rfl | exact .own 9 rfl | exact .own 10 rfl | exact .own 11 rfl | exact .own 12 rfl | assumption | exact BoxS.arg (by assumption)) rfl rfl) trivial rfl ?_
          refine AK.call co29 rfl (fun w hw => s_refinfinite w _ d (h0.at hw) hv) trivial rfl ?_
          rintro r o ⟨rfl, rfl⟩
          refine AK.val _ (Yl.eqlB bo4 rfl rfl) trivial rfl ?_
          refine AK.val _ (Yl.move rfl) trivial rfl ?_
          refine AK.knownT (g := 43) rfl (beq_self_eq_true _) (fun hg_11_4 => ?_)
          refine AK.val _ (Yl.move rfl) ⟨_, rfl, congrArg (fun b => some (Value.bool b)) hg_11_4⟩ rfl ?_
          refine AK.val _ (Yl.move rfl) ⟨_, rfl, congrArg (fun b => some (Value.bool b)) hg_11_4⟩ rfl ?_
          refine AK.splitB (g := 45) rfl (fun hg_11_6 => ?_) (fun hg_11_6 => ?_)
          · have hg_11_6' := hg_11_6
            try simp only [decide_eq_true_eq, decide_eq_false_iff_not, Bool.not_eq_true', Bool.not_eq_false', Bool.not_not, ne_eq, Decidable.not_not, Int.not_lt, Int.not_le, beq_iff_eq, bne_iff_ne, Bool.and_eq_true, Bool.or_eq_true, Bool.or_eq_false_iff, Bool.not_false, Bool.not_true, reduceCtorEq, not_true_eq_false, not_false_eq_true] at hg_11_6'
            refine AK.pass rfl rfl (hg_11_6) rfl ?_
            refine AK.pass rfl rfl (hg_11_6) rfl ?_
            refine AK.val _ (Yl.pickT rfl (hg_11_6) rfl) ⟨_, rfl, congrArg (fun b => some (Value.bool b)) hg_11_4⟩ rfl ?_
            refine AK.val _ (Yl.pickT rfl (hg_11_4) rfl) trivial rfl ?_
            refine AK.val _ (Yl.move rfl) trivial rfl ?_
            refine AK.call co17 rfl (fun w hw => s_awake w) ⟨_, rfl, rfl⟩ rfl ?_
            rintro r o ⟨rfl, rfl⟩
            refine AK.val _ (Yl.pickT rfl (rfl) rfl) trivial rfl ?_
            refine AK.val _ (Yl.assign rfl) trivial rfl ?_
            refine AK.nil ?_
            refine AK.then_ (hK16 _ ?_)
            refine AK.ret ?_
            refine AK.ret1 rfl rfl (fun w hw => ⟨_, _, ?_, rfl, Ret.of (hw.pick [] (by decide) rfl rfl)⟩)
            exact ⟨rfl, rfl⟩
          · have hg_11_6' := hg_11_6
            try simp only [decide_eq_true_eq, decide_eq_false_iff_not, Bool.not_eq_true', Bool.not_eq_false', Bool.not_not, ne_eq, Decidable.not_not, Int.not_lt, Int.not_le, beq_iff_eq, bne_iff_ne, Bool.and_eq_true, Bool.or_eq_true, Bool.or_eq_false_iff, Bool.not_false, Bool.not_true, reduceCtorEq, not_true_eq_false, not_false_eq_true] at hg_11_6'
            refine AK.val _ (Yl.move rfl) ⟨_, rfl, congrArg (fun b => some (Value.bool b)) hg_11_6⟩ rfl ?_
            refine AK.val _ (Yl.not rfl) ⟨_, rfl, congrArg (fun b => some (Value.bool b)) hg_11_6⟩ rfl ?_
            refine AK.val _ (Yl.pickF rfl (hg_11_6) rfl) ⟨_, rfl, congrArg (fun b => some (Value.bool b)) hg_11_4⟩ rfl ?_
            refine AK.val _ (Yl.pickT rfl (hg_11_4) rfl) trivial rfl ?_
            refine AK.val _ (Yl.move rfl) trivial rfl ?_
            refine AK.knownT (g := 50) rfl (by cases hx : x.2; rfl; rw [hg0.2.2 hx] at hg_11_6; cases hg_11_6) (fun hg_11_11 => ?_)
            refine AK.call co17 rfl (fun w hw => s_awake w) ⟨_, rfl, congrArg (fun b => some (Value.bool b)) hg_11_11⟩ rfl ?_
            rintro r o ⟨rfl, rfl⟩
            refine AK.val _ (Yl.pickT rfl (hg_11_11) rfl) trivial rfl ?_
            refine AK.val _ (Yl.assign rfl) trivial rfl ?_
            refine AK.nil ?_
            refine AK.then_ (hK16 _ ?_)
            refine AK.ret ?_
            refine AK.ret1 rfl rfl (fun w hw => ⟨_, _, ?_, rfl, Ret.of (hw.pick [] (by decide) rfl rfl)⟩)
            exact ⟨rfl, rfl⟩

end Go.Proofs.Ytmfakjfkjoichaa
