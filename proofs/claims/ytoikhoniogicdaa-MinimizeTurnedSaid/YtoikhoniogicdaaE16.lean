import Derived.Test.YtoikhoniogicdaaE15
set_option linter.unusedVariables false
set_option linter.unusedSimpArgs false
namespace Go.Proofs.Ytoikhoniogicdaa
open Go.Sx Go.RowKit
theorem hd_app {α : Type} (a : α) (l : List α) (d : α) : (a :: l).take l.length ++ [(a :: l).getD l.length d] = a :: l := by
  have h := take_snocD d (a :: l) l.length (by simp)
  rw [← h, List.take_of_length_le (by simp)]
theorem hd_next {α : Type} (a : α) (l : List α) (x : α) : (a :: (l ++ [x])).take (l ++ [x]).length = a :: l := by simp
theorem hd_nextT {α : Type} (a : α) (l : List α) (x d : α) : (a :: (l ++ [x])).getD (l ++ [x]).length d = x := by simp [List.getD_eq_getElem?_getD]
theorem hd_len {α : Type} (a : α) (l : List α) : ((a :: l).take l.length).length = l.length := by simp
theorem rowT_nil {d : Dfa} : rowT d [] = d.fin := by
  apply List.ext_getElem
  · simp [rowT]
  · intro i h1 h2
    simp [rowT, finQ, runI, List.getD_eq_getElem?_getD, h2]
theorem rows_at {d : Dfa} {l : List (List UInt8)} {i : Nat} (h : i < l.length + 1) : (d.fin :: l.map (rowT d)).getD i [] = rowT d (([] :: l).getD i []) := by
  rw [← rowT_nil, ← List.map_cons]
  simp only [List.getD_eq_getElem?_getD, List.getElem?_map]
  rw [List.getElem?_eq_getElem (show i < (([] : List UInt8) :: l).length by simpa using h)]
  rfl
theorem rowT_cons {d : Dfa} (hv : VD d) {q y : Nat} (hq : q < d.fin.length) (hy : (y : Int) < d.L) (w : List UInt8) : (rowT d (ltr y :: w)).getD q false = (rowT d w).getD ((d.nx.getD q []).getD y 0).toNat false := by
  have hL := hv.L
  have hi : InR d (q : Int) := ⟨by omega, by omega⟩
  have h1 := rowT_get (w := ltr y :: w) hi
  have h2 := rowT_get (w := w) (stepQ_inr hv hi hy)
  rw [Int.toNat_natCast] at h1
  rw [h1, runI_cons, ltr_num (by omega), ← h2]
  rfl
theorem fine_tests {d : Dfa} (hv : VD d) (hr : RedS d) {ll : List (List UInt8)} {cs : List Int} (h : TInv d (([] :: ll).take ll.length) (([] :: ll).getD ll.length []) cs) (hn : 1 < d.fin.length) {x z : Int} {ok : Bool}
    (hf : FineR d (spl cs (rowT d (([] :: ll).getD ll.length []))) (d.fin :: ll.map (rowT d)) x z ok) : (ok = false → TestsOK d ([] :: ll)) ∧
    (ok = true → ∃ y k : Nat, x = (y : Int) ∧ (y : Int) < d.L ∧ z = (k : Int) ∧ k < ll.length + 1 ∧ TInv d ([] :: ll) (ltr y :: ([] :: ll).getD k []) (spl cs (rowT d (([] :: ll).getD ll.length [])))) := by
  have e := hd_app ([] : List UInt8) ll []
  have hs := (h.split hn).1
  rw [e] at hs
  constructor
  · intro ho
    have := h.done1 hv hr hn (fun p q x hp hq hx he => hf.1 ho p q x hp hq hx he)
    rw [e] at this
    exact this
  · intro ho
    obtain ⟨p, q, y, e1, hy, hp, hq, hc, hne, hz⟩ := hf.2 ho
    have hpi := stepQ_inr hv hp hy
    have hqi := stepQ_inr hv hq hy
    rcases hz with ⟨k, e2, hk, hk2⟩ | ⟨_, hall⟩
    · have hk' : k < ll.length + 1 := by simpa using hk
      refine ⟨y, k, e1, hy, e2, hk', ?_⟩
      rw [rows_at hk', rowT_get hpi, rowT_get hqi] at hk2
      have := h.next hv hn hy (k := k) (by rw [e]; exact hk') hp hq hc (by rw [e]; exact hk2)
      rw [e] at this
      exact this
    · exfalso
      apply hne
      refine (hs.ker _ _ hpi hqi).2 (fun w hw => ?_)
      obtain ⟨i, hi, ei⟩ := mem_getD [] hw
      have hi' : i < ll.length + 1 := by simpa using hi
      have := hall i (by simpa using hi')
      rw [rows_at hi', rowT_get hpi, rowT_get hqi, ei] at this
      exact this
theorem wordsE (ll : List (List UInt8)) : (([] :: ll).take ll.length).map sv ++ (sv (([] :: ll).getD ll.length [])).cells.toList = ([] :: ll).map sv := by
  have e : (sv (([] :: ll).getD ll.length [])).cells.toList = [([] :: ll).getD ll.length []].map sv := by simp [Value.cells, sv]
  rw [e, ← List.map_append, hd_app]
theorem valsE {vF : Value} {rs : List Value} {n : Nat} (hl : rs.length = n) (hs : IsSl ((vF :: rs).getD n undef)) : (vF :: rs).take n ++ ((vF :: rs).getD n undef).cells.toList = vF :: rs := by
  subst hl
  rw [hs.cells]
  exact hd_app vF rs undef
theorem rdRow {C : Cx} {own : List Asn} {w : World} {vF : Value} {fin : List Bool} {rs : List Value} {xss : List (List Bool)} {E : TypeId} (j : Nat) (hw : HW C own w) (hF : RdL C.S Value.bool C.W0 vF fin) (hj : own[j]? = some (bigA (matG Value.bool E rs xss))) (hl : rs.length = xss.length) : ∀ i, i < xss.length + 1 → RdL (fun _ => False) Value.bool w ((vF :: rs).getD i undef) ((fin :: xss).getD i [])
  | 0, _ => hF.at hw
  | i + 1, hi => RdL.big (v := undef) j i hw hj hl (by omega)
theorem rdRows {C : Cx} {own : List Asn} {w : World} {v vF : Value} {fin : List Bool} {rs : List Value} {xss : List (List Bool)} {E E' : TypeId} {n : Nat} (i j : Nat) (hw : HW C own w) (hF : RdL C.S Value.bool C.W0 vF fin) (hn : n = xss.length + 1) (hi : own[i]? = some (row v E' 1 n (vF :: rs))) (hj : own[j]? = some (bigA (matG Value.bool E rs xss))) (hl : rs.length = xss.length) : RdLL (fun _ => False) Value.bool w v (fin :: xss) := by
  subst hn
  exact ⟨vF :: rs, by simp [hl], (RdS.own (C := C) i hi w hw).mono fun b _ _ => ⟨id, rfl⟩, fun k hk => rdRow j hw hF hj hl k (by simpa using hk)⟩
set_option maxHeartbeats 2000000 in
set_option maxRecDepth 100000 in
theorem s_tests (w : World) (v : Value) (d : Dfa) (h : RdD (fun _ => False) w v d) (hv : VD d) (hr : RedS d) : CallS Try.prog 51 [v] w (fun r o => ∃ ts, IsSl r ∧ o = [row r 9 1 ts.length (ts.map sv)] ∧ TestsOK d ts) := by
 have h0 := h
 obtain ⟨vF, vN, rfl, hF, hN⟩ := h
 have hF0 := hF
 have hN0 := hN
 obtain ⟨rs, hrl, hNr, hNi⟩ := hN
 have sF := hF.sl
 have sN := hNr.sl
 have hmf := hF.le
 have hmn := hNr.le
 unfold RdL at hF
 have hdL := hv.L
 have hdnx := hv.nx
 have hdn := hv.n
 refine spec_of Try.func51 rfl (Nat.le_of_ble_eq_true rfl) ?_
 refine .sr fun _ hK1 => ?_
 refine AK.box_ (E := 25) (cs := [.int .i64 d.L, .int .i64 d.s, vF, vN]) rfl rfl rfl trivial rfl (fun bx1 => ?_)
 refine .as rfl (.nt hK1 ?_)
 refine .sr fun _ hK2 => ?_
 refine .as rfl (.nt hK2 ?_)
 refine .sr fun _ hK3 => ?_
 refine .as rfl (.nt hK3 ?_)
 refine .sr fun _ hK4 => ?_
 refine .v (.fieldAddr fd25_2 rfl) ?_
 refine .v (.loadBox on22 rfl bsp rfl) ?_
 refine .v (.lenR sl22 rfl (by first | exact rdp | exact .arg (hNi _ (by omega)) | exact rd_al2 4 hF rfl (by rw [List.length_map]; exact hrl2) (by rw [List.length_map]; omega) hrk (rowT_len _ _))) ?_
 refine AK.make1 (n := d.fin.length) sl26 el3 rfl rfl rfl (by omega) (by omega) trivial rfl (fun mv0 => ?_)
 refine AK.shape 1 rfl (fun smv0 => ?_)
 refine .as rfl (.nt hK4 ?_)
 refine .seq fun _ hK5 => ?_
 refine AK.quiet mixed krf ?_
 refine .v (.fieldAddr fd25_2 rfl) ?_
 refine .v (.loadBox on22 rfl bsp rfl) ?_
 refine .as rfl (.as rfl ?_)
 refine QK.nil (QK.fin ?_)
 refine AK.then_ (hK5 _ ?_)
 refine .seq fun _ hK6 => ?_
 refine .block ?_
 refine AK.loopK (X := Value × Value × Value × List Value × List (List UInt8) × List Int) [(1, _)] (fun x => [(3, x.1), (4, x.2.1), (5, x.2.2.1), (6, sv (([] :: x.2.2.2.2.1).getD x.2.2.2.2.1.length [])), (7, ((vF :: x.2.2.2.1).getD x.2.2.2.2.1.length undef))]) (fun x => [box bx1 25 4 [.int .i64 d.L, .int .i64 d.s, vF, vN], row x.1 9 1 x.2.2.2.2.1.length ((([] :: x.2.2.2.2.1).take x.2.2.2.2.1.length).map sv), row x.2.1 22 1 x.2.2.2.2.1.length ((vF :: x.2.2.2.1).take x.2.2.2.2.1.length), row x.2.2.1 3 1 x.2.2.2.2.2.length (x.2.2.2.2.2.map (Value.int .i64)), bigA (matG Value.bool 4 x.2.2.2.1 (x.2.2.2.2.1.map (rowT d)))]) (fun x => TInv d (([] :: x.2.2.2.2.1).take x.2.2.2.2.1.length) (([] :: x.2.2.2.2.1).getD x.2.2.2.2.1.length []) x.2.2.2.2.2 ∧ x.2.2.2.1.length = x.2.2.2.2.1.length ∧ IsSl x.1 ∧ IsSl x.2.1 ∧ IsSl x.2.2.1 ∧ IsSl ((vF :: x.2.2.2.1).getD x.2.2.2.2.1.length undef)) (fun x => d.fin.length - x.2.2.2.2.1.length) ((.slice none 0 0, .slice none 0 0, mv0, [], [], List.replicate d.fin.length 0)) slr ?_ ?_ ?_ ?_
 ·exact ⟨TInv.zero hv hr, rfl, nilSl, nilSl, smv0, sF⟩
 ·exact slr
 ·exact fun w hw => by have h1 := (((hw.ghost 9 1).ghost 22 1).ghostG (f := Value.bool) 4).pick [0, 2, 3, 1, 4] (by decide) rfl rfl; dsimp only; rw [List.length_replicate, List.map_replicate]; exact h1
 ·intro x hg0 _ hK7
  obtain ⟨wv, av, cv, rs, ll, cs⟩ := x
  dsimp only at *
  obtain ⟨htv, hrl2, swv, sav, scv, hsr⟩ := hg0
  have hcl := htv.ker.len
  have hwl := hd_len ([] : List UInt8) ll
  have hcn := htv.cnt
  have hce := cnt_le htv.ker
  have hlb : ll.length + 1 ≤ d.fin.length := by omega
  have hvl : ((vF :: rs).take ll.length).length = ll.length := by rw [← hrl2]; exact hd_len vF rs
  refine .seq fun _ hK8 => ?_
  refine .sr fun _ hK9 => ?_
  refine .mv rfl ?_
  refine .v (.lenR sl49 rfl (by first | exact rdp | exact .arg (hNi _ (by omega)) | exact rd_al2 4 hF rfl (by rw [List.length_map]; exact hrl2) (by rw [List.length_map]; omega) hrk (rowT_len _ _))) ?_
  refine .v (.add rfl rfl (by omega)) ?_
  refine .v (.fieldAddr fd25_2 rfl) ?_
  refine .v (.loadBox on22 rfl bsp rfl) ?_
  refine .v (.lenR sl22 rfl (by first | exact rdp | exact .arg (hNi _ (by omega)) | exact rd_al2 4 hF rfl (by rw [List.length_map]; exact hrl2) (by rw [List.length_map]; omega) hrk (rowT_len _ _))) ?_
  refine .v (.lss rfl rfl) ?_
  refine .nt hK9 ?_
  refine AK.condD rfl (fun hc0 => ?_) (fun hc0 => ?_)
  ·have hn1 : 1 < d.fin.length := by omega
   have hrow := rows_at (d := d) (l := ll) (i := ll.length) (by omega)
   have hspl : (spl cs (rowT d (([] :: ll).getD ll.length []))).length = cs.length := by rw [spl, canN_len, List.length_zip, rowT_len, hcl, Nat.min_self]
   have htok := htv.tok
   have hrw0 : ∀ l ∈ d.fin :: ll.map (rowT d), l.length = d.fin.length := fun l hl => by rcases List.mem_cons.1 hl with rfl | hl; rfl; obtain ⟨a, _, rfl⟩ := List.mem_map.1 hl; exact rowT_len _ _
   refine .skip ?_
   refine AK.then_ (hK8 _ ?_)
   refine .block ?_
   refine .sr fun _ hK10 => ?_
   refine .mv rfl (.mv rfl ?_)
   refine AK.append1 1 rfl sl49 el9 rfl (by decide) rfl (by intro k hk; cases hk; rfl) rfl (by intro u hu; simp [Value.cells, sv] at hu; subst hu; rfl) (by omega) (by omega) (by decide) rfl rfl (fun wv2 _ hwv2 => ?_)
   refine .mv rfl (.mv rfl ?_)
   refine AK.append1 2 rfl sl88 el22 rfl (by decide) rfl (by intro k hk; cases hk; rfl) (by rw [hsr.cells]; rfl) (by rw [hsr.cells]; exact one'_cons hsr.one one'_nil) (by omega) (by omega) (by decide) rfl rfl (fun av2 _ hav2 => ?_)
   refine .as rfl (.as rfl (.nt hK10 ?_))
   refine .sr fun _ hK11 => ?_
   refine .mv rfl (.mv rfl ?_)
   refine AK.own' [box bx1 25 4 [.int .i64 d.L, .int .i64 d.s, vF, vN], row wv2 9 1 (ll.length + 1) (([] :: ll).map sv), row av2 22 1 (ll.length + 1) (vF :: rs), row cv 3 1 cs.length (cs.map (Value.int .i64)), bigA (matG Value.bool 4 rs (ll.map (rowT d)))] (fun w hw => by rw [wordsE, valsE hrl2 hsr] at hw; exact hw) ?_
   refine AK.call co55 rfl (fun w hw => s_split w _ _ cs (rowT d (([] :: ll).getD ll.length [])) (RdL.own 3 hw rfl) (by rw [← hrow]; exact rdRow 4 hw hF0 rfl (by rw [List.length_map]; exact hrl2) ll.length (by rw [List.length_map]; omega)) (by rw [rowT_len]; exact hcl.symm) (by omega)) trivial rfl ?_
   rintro cv2 o ⟨scv2, rfl⟩
   refine .as rfl (.nt hK11 ?_)
   refine .sr fun _ hK12 => ?_
   refine .v (.loadBoxG ag25 rfl bsp rfl rfl) ?_
   refine .mv rfl (.mv rfl ?_)
   refine AK.call co56 rfl (fun w hw => s_finer w _ d (h0.at hw) hv _ (spl cs (rowT d (([] :: ll).getD ll.length []))) (RdL.ownE 5 hw rfl hspl.symm rfl) (hspl.trans hcl) (canN_canN _) _ (d.fin :: ll.map (rowT d)) (rdRows 2 4 hw hF0 (by rw [List.length_map]) rfl rfl (by rw [List.length_map]; exact hrl2)) hrw0) trivial rfl ?_
   rintro r o ⟨fx, fz, fb, rfl, hfine, rfl⟩
   refine .mv rfl ?_
   refine .v (.extract rfl rfl) ?_
   refine .v (.extract rfl rfl) ?_
   refine .v (.extract rfl rfl) ?_
   refine .as rfl (.as rfl (.as rfl (.nt hK12 ?_)))
   refine .seq fun _ hK13 => ?_
   refine .sr fun _ hK14 => ?_
   refine .mv rfl ?_
   refine .v (.not rfl) ?_
   refine .nt hK14 ?_
   refine AK.condB rfl (fun hc1 => ?_) (fun hc1 => ?_)
   ·have hts := (fine_tests hv hr htv hn1 hfine).1 (by simpa using hc1)
    refine .exit (.then_exit (.block_other rfl (.then_exit (.block_exit ?_))))
    refine AK.then_ (hK6 _ ?_)
    refine .sr fun _ hK15 => ?_
    refine .mv rfl (.as rfl (.nt hK15 (.ret ?_)))
    refine AK.ret1 rfl rfl (fun w hw => ⟨_, _, ?_, rfl, Ret.of (hw.pick [1] (by decide) rfl rfl)⟩)
    first | exact ⟨[] :: ll, hwv2, rfl, hts⟩ | exact ⟨(([] :: ll).take ll.length), swv, by rw [hd_len]; rfl, htv.done0 hv (by rw [hd_len]; omega)⟩
   ·obtain ⟨y, k, rfl, hy, rfl, hk, hti⟩ := (fine_tests hv hr htv hn1 hfine).2 (by simpa using hc1)
    have hkl := hti.tok.2
    rw [List.length_cons, List.length_cons] at hkl
    refine .skip ?_
    refine AK.then_ (hK13 _ ?_)
    refine .seq fun _ hK16 => ?_
    refine AK.joinK (X := Value) [(1, _), (3, _), (4, _), (5, _), (8, _), (9, _)] (fun mw => [(6, sv (ltr y :: ([] :: ll).getD k [])), (7, mw)]) (fun mw => [box bx1 25 4 [.int .i64 d.L, .int .i64 d.s, vF, vN], row wv2 9 1 (ll.length + 1) (([] :: ll).map sv), row av2 22 1 (ll.length + 1) (vF :: rs), row cv 3 1 cs.length (cs.map (Value.int .i64)), bigA (matG Value.bool 4 rs (ll.map (rowT d))), row cv2 3 1 cs.length ((spl cs (rowT d (([] :: ll).getD ll.length []))).map (Value.int .i64)), row mw 4 1 d.fin.length (List.replicate d.fin.length (Value.bool false))]) (fun mw => IsSl mw) slr (fun _ hJ => ?_) (fun mw hg => ?_)
    ·try (conv => enter [2, 2]; dsimp only [List.set_cons_zero, List.set_cons_succ, List.cons_append, List.nil_append])
     refine AK.held 15 mixed ?_
     refine HeldK.first 0 (fuel := 14) (listed' := (lb 15 1)) _ rfl krf krf rfl (Yl.move rfl) trivial rfl ?_
     refine HeldK.first 1 (fuel := 13) (listed' := (lb 15 3)) _ rfl krf krf rfl (Yl.add rfl rfl (by omega)) trivial rfl ?_
     refine HeldK.first 2 (fuel := 12) (listed' := (lb 15 7)) _ rfl krf krf rfl (Yl.convI (by kernel_rfl) un21 rfl (wrap_i32 (by omega))) trivial rfl ?_
     refine HeldK.first 3 (fuel := 11) (listed' := (lb 15 15)) _ rfl krf krf rfl (Yl.runeS (by kernel_rfl) un9 rfl (by omega)) trivial rfl ?_
     refine HeldK.first 4 (fuel := 10) (listed' := (lb 15 31)) _ rfl krf krf rfl (Yl.move rfl) trivial rfl ?_
     refine HeldK.first 5 (fuel := 9) (listed' := (lb 15 63)) _ rfl krf krf rfl (Yl.move rfl) trivial rfl ?_
     first | refine HeldK.first 6 (fuel := 8) (listed' := (lb 15 127)) _ rfl krf krf rfl (.iN sl49 rfl rfl (hr := (by first | exact rdp | exact .arg (hNi _ (by omega)) | exact rd_al2 4 hF rfl (by rw [List.length_map]; exact hrl2) (by rw [List.length_map]; omega) hrk (rowT_len _ _)))) trivial rfl ?_ | refine HeldK.first 6 (fuel := 8) (listed' := (lb 15 127)) _ rfl krf krf rfl (.iK sl49 rfl rfl (hr := (by first | exact rdp | exact .arg (hNi _ (by omega)) | exact rd_al2 4 hF rfl (by rw [List.length_map]; exact hrl2) (by rw [List.length_map]; omega) hrk (rowT_len _ _)))) trivial rfl ?_
     refine HeldK.first 7 (fuel := 7) (listed' := (lb 15 255)) _ rfl krf krf rfl (Yl.loadS on9 rfl (by first | exact rdp | exact .arg (hNi _ (by omega)) | exact rd_al2 4 hF rfl (by rw [List.length_map]; exact hrl2) (by rw [List.length_map]; omega) hrk (rowT_len _ _)) (by omega)) trivial rfl ?_
     refine HeldK.first 8 (fuel := 6) (listed' := (lb 15 511)) _ rfl krf krf rfl (Yl.concat rfl rfl (by simp only [List.length_cons, List.length_nil]; omega)) trivial rfl ?_
     refine HeldK.first 9 (fuel := 5) (listed' := (lb 15 1023)) _ rfl krf krf rfl (Yl.fieldAddr fd25_2 rfl) trivial rfl ?_
     refine HeldK.first 10 (fuel := 4) (listed' := (lb 15 2047)) _ rfl krf krf rfl (Yl.loadBox on22 rfl bsp rfl) trivial rfl ?_
     refine HeldK.first 11 (fuel := 3) (listed' := (lb 15 4095)) _ rfl krf krf rfl (Yl.lenR sl22 rfl (by first | exact rdp | exact .arg (hNi _ (by omega)) | exact rd_al2 4 hF rfl (by rw [List.length_map]; exact hrl2) (by rw [List.length_map]; omega) hrk (rowT_len _ _))) trivial rfl ?_
     refine HeldK.first 13 (fuel := 2) (listed' := (lb 15 12287)) _ rfl krf krf rfl (Yl.assign rfl) trivial rfl ?_
     refine HeldK.one 12 (fuel := 1) (listed' := (lb 15 16383)) krf rfl krf ?_
     refine AK.make1 (n := d.fin.length) sl22 el4 rfl rfl rfl (by omega) (by omega) trivial rfl (fun mv => ?_)
     refine AK.shape 6 rfl (fun smv => ?_)
     refine .nil ?_
     try (conv => enter [2, 2]; dsimp only [List.set_cons_zero, List.set_cons_succ, List.cons_append, List.nil_append])
     refine HeldK.back Go.Sx.hle ?_
     refine HeldK.first 14 (fuel := 0) (listed' := (lb 15 32767)) _ rfl krf krf rfl (Yl.assign rfl) trivial rfl ?_
     refine HeldK.done krf ?_
     exact hJ _ _ (mv) smv (.cons (show some (sv ([UInt8.ofNat (97 + (y : Int)).toNat] ++ ([] :: ll).getD k [])) = some (sv (ltr y :: ([] :: ll).getD k [])) from by rw [ofNat_ltr (by omega)]; rfl) (slr)) (fun w hw => by first | exact hw.pickLe [0, 1, 2, 3, 4, 5, 6] (by decide) pkl)
    ·skip
     refine AK.then_ (hK16 _ ?_)
     refine .sr fun _ hK17 => ?_
     refine .mv rfl ?_
     refine .v (.lenR sl22 rfl (by first | exact rdp | exact .arg (hNi _ (by omega)) | exact rd_al2 4 hF rfl (by rw [List.length_map]; exact hrl2) (by rw [List.length_map]; omega) hrk (rowT_len _ _))) ?_
     refine .mv rfl (.nt hK17 (.block ?_))
     refine AK.loopK (X := Nat) [(1, _), (3, _), (4, _), (5, _), (6, _), (7, _), (8, _), (9, _), (60, _)] (fun q => [(61, .int .i64 (q : Int))]) (fun q => [box bx1 25 4 [.int .i64 d.L, .int .i64 d.s, vF, vN], row wv2 9 1 (ll.length + 1) (([] :: ll).map sv), row av2 22 1 (ll.length + 1) (vF :: rs), row cv 3 1 cs.length (cs.map (Value.int .i64)), bigA (matG Value.bool 4 rs (ll.map (rowT d))), row cv2 3 1 cs.length ((spl cs (rowT d (([] :: ll).getD ll.length []))).map (Value.int .i64)), row mw 4 1 d.fin.length (((rowT d (ltr y :: ([] :: ll).getD k [])).take q ++ List.replicate (d.fin.length - q) false).map Value.bool)]) (fun q => q ≤ d.fin.length) (fun q => d.fin.length - q) (0) slr ?_ ?_ ?_ ?_
     ·exact Nat.zero_le _
     ·exact slr
     ·exact fun w hw => by have e : (((rowT d (ltr y :: ([] :: ll).getD k [])).take 0 ++ List.replicate (d.fin.length - 0) false).map Value.bool) = List.replicate d.fin.length (Value.bool false) := (by simp); rw [e]; exact hw
     ·intro q hg1 _ hK18
      refine .sr fun _ hK19 => ?_
      refine .v (.lss rfl rfl) ?_
      refine .nt hK19 ?_
      refine .seq fun _ hK20 => ?_
      refine AK.condD rfl (fun hc2 => ?_) (fun hc2 => ?_)
      ·have hvr : (vF :: rs).length = ll.length + 1 := by rw [List.length_cons, hrl2]
       have hrtl := rowT_len d (([] :: ll).getD k [])
       have hrk := rows_at (d := d) (l := ll) (i := k) hk
       have hrwq := hv.row q (by omega)
       have hto := hv.to q y (by omega) (by omega)
       have hnew := rowT_cons hv (q := q) (by omega) hy (([] :: ll).getD k [])
       refine .skip ?_
       refine AK.then_ (hK20 _ ?_)
       refine .seq fun _ hK21 => ?_
       refine .block ?_
       refine .sr fun _ hK22 => ?_
       refine .mv rfl (.as rfl (.nt hK22 ?_))
       refine AK.stillTail 17 mixed krf (fun _ hws => ?_)
       refine .v hws (.move rfl) ?_
       refine .v hws (.move rfl) ?_
       refine .v hws (.move rfl) ?_
       refine .v hws (.move rfl) ?_
       first | refine .v hws (.iN sl88 rfl rfl (hr := (by first | exact rdp | exact .arg (hNi _ (by omega)) | exact rd_al2 4 hF rfl (by rw [List.length_map]; exact hrl2) (by rw [List.length_map]; omega) hrk (rowT_len _ _)))) ?_ | refine .v hws (.iK sl88 rfl rfl (hr := (by first | exact rdp | exact .arg (hNi _ (by omega)) | exact rd_al2 4 hF rfl (by rw [List.length_map]; exact hrl2) (by rw [List.length_map]; omega) hrk (rowT_len _ _)))) ?_
       refine .v hws (.loadV on22 rfl (by first | exact rdp | exact .arg (hNi _ (by omega)) | exact rd_al2 4 hF rfl (by rw [List.length_map]; exact hrl2) (by rw [List.length_map]; omega) hrk (rowT_len _ _)) (by omega)) ?_
       refine .v hws (.fieldAddr fd25_3 rfl) ?_
       refine .v hws (.loadBox on23 rfl bsp rfl) ?_
       refine .v hws (.move rfl) ?_
       first | refine .v hws (.iN sl23 rfl rfl (hr := (by first | exact rdp | exact .arg (hNi _ (by omega)) | exact rd_al2 4 hF rfl (by rw [List.length_map]; exact hrl2) (by rw [List.length_map]; omega) hrk (rowT_len _ _)))) ?_ | refine .v hws (.iK sl23 rfl rfl (hr := (by first | exact rdp | exact .arg (hNi _ (by omega)) | exact rd_al2 4 hF rfl (by rw [List.length_map]; exact hrl2) (by rw [List.length_map]; omega) hrk (rowT_len _ _)))) ?_
       refine .v hws (.loadV on26 rfl (by first | exact rdp | exact .arg (hNi _ (by omega)) | exact rd_al2 4 hF rfl (by rw [List.length_map]; exact hrl2) (by rw [List.length_map]; omega) hrk (rowT_len _ _)) (by omega)) ?_
       refine .v hws (.move rfl) ?_
       first | refine .v hws (.iN sl26 rfl rfl (hr := (by first | exact rdp | exact .arg (hNi _ (by omega)) | exact rd_al2 4 hF rfl (by rw [List.length_map]; exact hrl2) (by rw [List.length_map]; omega) hrk (rowT_len _ _)))) ?_ | refine .v hws (.iK sl26 rfl rfl (hr := (by first | exact rdp | exact .arg (hNi _ (by omega)) | exact rd_al2 4 hF rfl (by rw [List.length_map]; exact hrl2) (by rw [List.length_map]; omega) hrk (rowT_len _ _)))) ?_
       refine .v hws (.loadI on3 rfl (by first | exact rdp | exact .arg (hNi _ (by omega)) | exact rd_al2 4 hF rfl (by rw [List.length_map]; exact hrl2) (by rw [List.length_map]; omega) hrk (rowT_len _ _)) (by omega)) ?_
       first | refine .v hws (.iN sl22 rfl rfl (hr := (by first | exact rdp | exact .arg (hNi _ (by omega)) | exact rd_al2 4 hF rfl (by rw [List.length_map]; exact hrl2) (by rw [List.length_map]; omega) hrk (rowT_len _ _)))) ?_ | refine .v hws (.iK sl22 rfl rfl (hr := (by first | exact rdp | exact .arg (hNi _ (by omega)) | exact rd_al2 4 hF rfl (by rw [List.length_map]; exact hrl2) (by rw [List.length_map]; omega) hrk (rowT_len _ _)))) ?_
       refine .v hws (.loadB on4 rfl (by first | exact rdp | exact .arg (hNi _ (by omega)) | exact rd_al2 4 hF rfl (by rw [List.length_map]; exact hrl2) (by rw [List.length_map]; omega) hrk (rowT_len _ _)) (by omega)) ?_
       first | refine .v hws (.iN sl22 rfl rfl (hr := (by first | exact rdp | exact .arg (hNi _ (by omega)) | exact rd_al2 4 hF rfl (by rw [List.length_map]; exact hrl2) (by rw [List.length_map]; omega) hrk (rowT_len _ _)))) ?_ | refine .v hws (.iK sl22 rfl rfl (hr := (by first | exact rdp | exact .arg (hNi _ (by omega)) | exact rd_al2 4 hF rfl (by rw [List.length_map]; exact hrl2) (by rw [List.length_map]; omega) hrk (rowT_len _ _)))) ?_
       refine SK.nil (SK.fin hws ?_)
       refine AK.store1e 6 rfl sz4 rfl rfl rfl rfl (by omega) (cs' := (((rowT d (ltr y :: ([] :: ll).getD k [])).take (q + 1) ++ List.replicate (d.fin.length - (q + 1)) false).map Value.bool)) (by rw [take_snocD false (rowT d (ltr y :: ([] :: ll).getD k [])) q (by rw [rowT_len]; omega), hnew]; exact fill_set Value.bool _ false _ d.fin.length q (by rw [List.length_take, rowT_len]; omega) (by omega)) trivial ?_
       refine .nil (.block_normal ?_)
       refine AK.then_ (hK21 _ ?_)
       refine AK.region ?_
       refine .v (.add rfl rfl (by omega)) ?_
       refine .mv rfl (.nil ?_)
       refine AK.then_ (hK18 _ _ (q + 1) (by omega) (by omega) (slr) (fun w hw => hw))
      ·refine .exit (.then_exit (.then_exit (.block_exit (.block_normal ?_))))
       refine AK.then_ (hK7 _ _ ((wv2, av2, cv2, rs ++ [mw], ll ++ [(ltr y :: ([] :: ll).getD k [])], (spl cs (rowT d (([] :: ll).getD ll.length []))))) ⟨by dsimp only; rw [hd_next, hd_nextT]; exact hti, by dsimp only; rw [List.length_append, List.length_append, hrl2]; rfl, hwv2, hav2, scv2, by dsimp only; rw [show (ll ++ [(ltr y :: ([] :: ll).getD k [])]).length = (rs ++ [mw]).length by rw [List.length_append, List.length_append, hrl2]; rfl, hd_nextT]; exact hg⟩ (by dsimp only; rw [List.length_append]; simp only [List.length_cons, List.length_nil]; omega) (.cons (rfl) (.cons (rfl) (.cons (rfl) (.cons (by dsimp only; rw [hd_nextT]; rfl) (.cons (by dsimp only; rw [show (ll ++ [(ltr y :: ([] :: ll).getD k [])]).length = (rs ++ [mw]).length by rw [List.length_append, List.length_append, hrl2]; rfl, hd_nextT]; rfl) (slr)))))) (fun w hw => by have e3 : (ll ++ [(ltr y :: ([] :: ll).getD k [])]).map (rowT d) = ll.map (rowT d) ++ [rowT d (ltr y :: ([] :: ll).getD k [])] := (by rw [List.map_append]; rfl); have e4 : (ll ++ [(ltr y :: ([] :: ll).getD k [])]).length = ll.length + 1 := (by rw [List.length_append]; rfl); have e5 : (vF :: (rs ++ [mw])).take (ll ++ [(ltr y :: ([] :: ll).getD k [])]).length = vF :: rs := (by rw [show (ll ++ [(ltr y :: ([] :: ll).getD k [])]).length = (rs ++ [mw]).length by rw [List.length_append, List.length_append, hrl2]; rfl, hd_next]); dsimp only; rw [e5, hd_next, e4, e3, matG_snoc (by rw [List.length_map]; exact hrl2), rowT_len, hspl]; rw [show q = d.fin.length by omega, Nat.sub_self, List.replicate_zero, List.append_nil, List.take_of_length_le (by rw [rowT_len]; exact Nat.le_refl _)] at hw; exact HW.absorb (own := [_, _, _, _, _]) 4 rfl (hw.pick [0, 1, 2, 5, 4, 6] (by decide) rfl rfl)))
  ·refine .exit (.then_exit (.then_exit (.block_exit ?_)))
   refine AK.then_ (hK6 _ ?_)
   refine .sr fun _ hK23 => ?_
   refine .mv rfl (.as rfl (.nt hK23 (.ret ?_)))
   refine AK.ret1 rfl rfl (fun w hw => ⟨_, _, ?_, rfl, Ret.of (hw.pick [1] (by decide) rfl rfl)⟩)
   first | exact ⟨[] :: ll, hwv2, rfl, hts⟩ | exact ⟨(([] :: ll).take ll.length), swv, by rw [hd_len]; rfl, htv.done0 hv (by rw [hd_len]; omega)⟩

end Go.Proofs.Ytoikhoniogicdaa
