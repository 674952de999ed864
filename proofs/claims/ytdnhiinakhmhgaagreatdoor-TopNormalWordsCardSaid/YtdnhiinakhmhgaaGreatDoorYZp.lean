import Derived.Test.YtdnhiinakhmhgaaGreatDoorYZo
import Derived.Test.YtdnhiinakhmhgaaGreatDoorYZe
import Derived.Lib.IndexMore
import Derived.Test.YtdnhiinakhmhgaaGreatDoorYZm
import Derived.Test.YtdnhiinakhmhgaaGreatDoorYZn
import Derived.Test.YtdnhiinakhmhgaaGreatDoorYZc
import Derived.Test.YtdnhiinakhmhgaaGreatDoorYZl
set_option linter.unusedVariables false
set_option linter.unusedSimpArgs false
set_option maxRecDepth 100000
namespace Go.Sx
open Go.RowKit
/-! ### one step, and many -/
def ruleAt (rs : List Rul) (u : Wrd) : Option Rul := rs.find? fun r => r.1.isPrefixOf u
def once (rs : List Rul) : Wrd → Option Wrd
  | [] => none
  | a :: u => match ruleAt rs (a :: u) with
    | some r => some (r.2 ++ (a :: u).drop r.1.length)
    | none => (once rs u).map (a :: ·)
theorem once_none {rs : List Rul} : ∀ {w : Wrd}, once rs w = none ↔ ∀ i, i < w.length → ruleAt rs (w.drop i) = none
  | [] => ⟨fun _ i hi => by simp at hi, fun _ => rfl⟩
  | a :: u => by
    unfold once
    constructor
    · intro h i hi
      cases hr : ruleAt rs (a :: u) with
      | some r => rw [hr] at h; cases h
      | none =>
        rw [hr] at h
        cases i with
        | zero => exact hr
        | succ i =>
          have : once rs u = none := by simpa using h
          exact once_none.1 this i (by simpa using hi)
    · intro h
      have h0 : ruleAt rs (a :: u) = none := h 0 (by simp)
      rw [h0]
      have : once rs u = none := once_none.2 fun i hi => h (i + 1) (by simpa using hi)
      simp [this]
theorem ruleAt_no {rs : List Rul} {u : Wrd} (hn : ∀ j, j < rs.length → ¬ (rs.getD j ([], [])).1 <+: u) : ruleAt rs u = none := by
  unfold ruleAt
  rw [List.find?_eq_none]
  intro r hr hk
  obtain ⟨j, hj, e⟩ := mem_getD ([], []) hr
  rw [← e] at hk
  exact hn j hj (List.isPrefixOf_iff_prefix.1 hk)
/-! ### what the finder finds -/
theorem VR.left {L : Int} {rs : List Rul} (h : VR L rs) {i : Nat} (hi : i < rs.length) : (rs.getD i ([], [])).1 ≠ [] ∧ (rs.getD i ([], [])).2.length ≤ (rs.getD i ([], [])).1.length := by
  have := (h.v _ (getD_mem (d := ([], [])) hi)).2.2
  rw [slx_iff] at this
  refine ⟨fun e => ?_, by omega⟩
  rw [e] at this
  rcases this with k | ⟨k, l⟩
  · simp at k
  · have : (rs.getD i ([], [])).2 = [] := List.length_eq_zero_iff.1 (by simpa using k)
    rw [this] at l; simp [Op.bytesLess] at l
/-! ### what lies outside -/
end Go.Sx

namespace Go.Sx
open Go.RowKit
section
variable {rs : List Rul} {N : List Wrd} {fd fl : List Int} {m k e : Nat} {u T : Wrd} {R : List Int} {L : Int}
end
end Go.Sx

namespace Go.Sx
open Go.RowKit
end Go.Sx

namespace Go.Sx
open Go.RowKit
/-- no rule can be applied, by strings.Contains -/
theorem contains_iff (u L : Wrd) : Lib.contains u L = true ↔ ∃ i, i ≤ u.length ∧ L <+: u.drop i := by
  unfold Lib.contains
  rw [decide_eq_true_eq]
  rcases Lib.index_spec u L with ⟨h, hn⟩ | ⟨i, h, hi, ho, _⟩
  · rw [h]
    refine ⟨fun k => by omega, fun ⟨i, hi, hp⟩ => ?_⟩
    have := hn i hi
    unfold Lib.occAt at this
    rw [List.isPrefixOf_iff_prefix.2 hp] at this; cases this
  · rw [h]
    exact ⟨fun _ => ⟨i, hi, List.isPrefixOf_iff_prefix.1 ho⟩, fun _ => by omega⟩
theorem ruleAt_none_iff {rs : List Rul} {u : Wrd} : ruleAt rs u = none ↔ ∀ j, j < rs.length → ¬ (rs.getD j ([], [])).1 <+: u := by
  refine ⟨fun h j hj hp => ?_, ruleAt_no⟩
  unfold ruleAt at h
  rw [List.find?_eq_none] at h
  exact h _ (getD_mem hj) (List.isPrefixOf_iff_prefix.2 hp)
theorem no_once {L : Int} {rs : List Rul} (hV : VR L rs) {u : Wrd} : once rs u = none ↔ ∀ j, j < rs.length → ¬ Lib.contains u (rs.getD j ([], [])).1 = true := by
  rw [once_none]
  constructor
  · intro h j hj hc
    obtain ⟨i, hi, hp⟩ := (contains_iff _ _).1 hc
    have hne := (hV.left hj).1
    have hil : i < u.length := by
      rcases Nat.lt_or_ge i u.length with k | k
      · exact k
      · rw [List.drop_eq_nil_of_le k] at hp
        exact absurd (List.prefix_nil.1 hp) hne
    exact ruleAt_none_iff.1 (h i hil) j hj hp
  · intro h i hi
    exact ruleAt_none_iff.2 fun j hj hp => h j hj ((contains_iff _ _).2 ⟨i, by omega, hp⟩)
end Go.Sx

namespace Go.Sx
open Go.RowKit
/-! ### one step lessens the word -/
end Go.Sx

namespace Go.Sx
open Go.RowKit
/-! ### the automaton of the reduced words -/
theorem snoc_ind {P : Wrd → Prop} (h0 : P []) (hs : ∀ u a, P u → P (u ++ [a])) (w : Wrd) : P w := by
  have : ∀ r : Wrd, P r.reverse := fun r => by
    induction r with
    | nil => exact h0
    | cons a r ih => rw [List.reverse_cons]; exact hs _ _ ih
  have h := this w.reverse
  rwa [List.reverse_reverse] at h
def Fac (rs : List Rul) (w : Wrd) : Prop := ∃ j, j < rs.length ∧ (rs.getD j ([], [])).1 <:+: w
theorem infix_iff (u L : Wrd) : (∃ i, i ≤ u.length ∧ L <+: u.drop i) ↔ L <:+: u := by
  constructor
  · rintro ⟨i, _, t, ht⟩
    exact ⟨u.take i, t, by rw [List.append_assoc, ht, List.take_append_drop]⟩
  · rintro ⟨s, t, h⟩
    refine ⟨s.length, by rw [← h]; simp, t, ?_⟩
    rw [← h, List.append_assoc, List.drop_left]
theorem once_fac {L : Int} {rs : List Rul} (hV : VR L rs) {w : Wrd} : once rs w = none ↔ ¬ Fac rs w := by
  rw [no_once hV]
  constructor
  · rintro h ⟨j, hj, hi⟩
    exact h j hj ((contains_iff _ _).2 ((infix_iff _ _).2 hi))
  · intro h j hj hc
    exact h ⟨j, hj, (infix_iff _ _).1 ((contains_iff _ _).1 hc)⟩
theorem fac_left {rs : List Rul} {u : Wrd} (v : Wrd) (h : Fac rs u) : Fac rs (u ++ v) := by
  obtain ⟨j, hj, hi⟩ := h
  exact ⟨j, hj, hi.trans (List.infix_append' [] u v |>.trans (by simp))⟩
theorem fac_snoc {rs : List Rul} {u : Wrd} {a : UInt8} (h : Fac rs (u ++ [a])) : Fac rs u ∨ ∃ j, j < rs.length ∧ (rs.getD j ([], [])).1 <:+ u ++ [a] := by
  obtain ⟨j, hj, hi⟩ := h
  rcases List.infix_concat_iff.1 hi with h | h
  · exact .inr ⟨j, hj, h⟩
  · exact .inl ⟨j, hj, h⟩
def lfs (rs : List Rul) : List Wrd := rs.map (·.1)
theorem lfs_len (rs : List Rul) : (lfs rs).length = rs.length := by simp [lfs]
theorem lfs_get (rs : List Rul) {k : Nat} (h : k < rs.length) : (lfs rs).getD k [] = (rs.getD k ([], [])).1 := by
  simp [lfs, List.getD_eq_getElem?_getD, List.getElem?_eq_getElem h]
/-! of the finder -/
def finRw (L : Int) (fl fd : List Int) (s : Nat) : List Int := (List.range L.toNat).map fun x => if 0 ≤ fd.getD s 0 then (s : Int) else fl.getD (s * 6 + x) 0
def finD (L : Int) (fl fd : List Int) : Dfa := ⟨L, 0, fd.map fun z => decide (z < 0), (List.range fd.length).map (finRw L fl fd)⟩
theorem finR_len (L : Int) (fl fd : List Int) (s : Nat) : (finRw L fl fd s).length = L.toNat := by simp [finRw]
theorem finR_get {L : Int} {fl fd : List Int} {s x : Nat} (hx : x < L.toNat) : (finRw L fl fd s).getD x 0 = if 0 ≤ fd.getD s 0 then (s : Int) else fl.getD (s * 6 + x) 0 := by
  simp [finRw, List.getD_eq_getElem?_getD, hx]
theorem finD_row {L : Int} {fl fd : List Int} {s : Nat} (hs : s < fd.length) : (finD L fl fd).nx.getD s [] = finRw L fl fd s := by
  simp [finD, List.getD_eq_getElem?_getD, hs]
theorem finD_len (L : Int) (fl fd : List Int) : (finD L fl fd).fin.length = fd.length := by simp [finD]
theorem finD_fin {L : Int} {fl fd : List Int} {s : Nat} (hs : s < fd.length) : finQ (finD L fl fd) (s : Int) = decide (fd.getD s 0 < 0) := by
  simp [finQ, finD, List.getD_eq_getElem?_getD, hs]
section
variable {rs : List Rul} {N : List Wrd} {fl fd : List Int} {L : Int}
theorem finD_vd (hF : FinOK (lfs rs) N fl fd) (hL : 1 ≤ L ∧ L ≤ 6) (hN : N.length ≤ 512) : VD (finD L fl fd) where
  L := hL
  n := by rw [finD_len, hF.fdl]; exact hN
  nx := by simp [finD]
  s := by rw [finD_len, hF.fdl]; have := hF.z.1; exact ⟨Int.le_refl _, by show (0 : Int) < _; omega⟩
  row := fun i hi => by
    rw [finD_len] at hi
    rw [finD_row hi, finR_len]; show ((L.toNat : Nat) : Int) = L; omega
  to := fun i x hi hx => by
    rw [finD_len] at hi ⊢
    rw [finD_row hi] at hx ⊢
    rw [finR_len] at hx
    rw [finR_get hx]
    have hfd := hF.fdl
    split
    · omega
    · obtain ⟨t, e, h1, _⟩ := hF.go i (by omega) x (by omega)
      rw [e]; omega
theorem At.suf_fac (hF : FinOK (lfs rs) N fl fd) (hV : VR L rs) {w : Wrd} {t : Nat} (ht : t < N.length) (he : N.getD t [] = lsuf N w) : (0 ≤ fd.getD t 0 ↔ ∃ j, j < rs.length ∧ (rs.getD j ([], [])).1 <:+ w) := by
  have hl := hF.fnd t ht
  rw [he] at hl
  constructor
  · intro h
    obtain ⟨j, _, h1, ⟨_, h2⟩, _⟩ := hl.pos (by omega)
    rw [lfs_len] at h1
    rw [lfs_get rs h1] at h2
    exact ⟨j, h1, h2.trans (lsuf_suf N w)⟩
  · rintro ⟨j, hj, hs⟩
    rcases (show fd.getD t 0 < 0 ∨ 0 ≤ fd.getD t 0 by omega) with k | k
    · have hm := hF.mem j (by rw [lfs_len]; exact hj)
      have := hl.neg k j (by rw [lfs_len]; exact hj)
      rw [lfs_get rs hj] at this hm
      exact absurd ⟨(hV.left hj).1, suf_lsuf hm w hs⟩ this
    · exact k
theorem finD_run (hF : FinOK (lfs rs) N fl fd) (hV : VR L rs) (hN : N.length ≤ 512) {L' : Int} (hL : 1 ≤ L' ∧ L' ≤ 6) (w : Wrd) (hw : Okw (finD L' fl fd) w) :
    (¬ Fac rs w → At N (lsuf N w) (runI (finD L' fl fd) 0 w)) ∧ (Fac rs w → ∃ t : Nat, runI (finD L' fl fd) 0 w = (t : Int) ∧ t < N.length ∧ 0 ≤ fd.getD t 0) := by
  revert hw
  refine snoc_ind (P := fun w => Okw (finD L' fl fd) w → (¬ Fac rs w → At N (lsuf N w) (runI (finD L' fl fd) 0 w)) ∧ (Fac rs w → ∃ t : Nat, runI (finD L' fl fd) 0 w = (t : Int) ∧ t < N.length ∧ 0 ≤ fd.getD t 0)) ?_ ?_ w
  · intro _
    refine ⟨fun _ => ⟨0, rfl, hF.z.1, hF.z.2⟩, ?_⟩
    rintro ⟨j, hj, hi⟩
    exact absurd (List.infix_nil.1 hi) (hV.left hj).1
  · intro u a ih hw
    obtain ⟨ih1, ih2⟩ := ih hw.left
    have ha : okB L' a = true := (okw_cons.1 hw.right).1
    simp only [okB, decide_eq_true_eq] at ha
    obtain ⟨x, hx6, rfl, hxa⟩ := ltr_of (c := a) (by omega)
    have hxL : x < L'.toNat := by omega
    rw [runI_snoc1 _ _ _ (by omega)]
    have hfd := hF.fdl
    have stp : ∀ t : Nat, t < N.length → stepQ (finD L' fl fd) (t : Int) x = if 0 ≤ fd.getD t 0 then (t : Int) else fl.getD (t * 6 + x) 0 := fun t ht => by
      unfold stepQ
      rw [Int.toNat_natCast, finD_row (by omega), finR_get hxL]
    by_cases hu : Fac rs u
    · obtain ⟨t, e, h1, h2⟩ := ih2 hu
      refine ⟨fun h => absurd (fac_left [ltr x] hu) h, fun _ => ⟨t, ?_, h1, h2⟩⟩
      rw [e, stp t h1, if_pos h2]
    · obtain ⟨t, e, h1, h2⟩ := ih1 hu
      have hneg : ¬ 0 ≤ fd.getD t 0 := fun k => by
        obtain ⟨j, hj, hs⟩ := (At.suf_fac hF hV h1 h2).1 k
        exact hu ⟨j, hj, hs.isInfix⟩
      obtain ⟨t', e', h1', h2'⟩ := hF.go t h1 x hx6
      rw [h2, ← lsuf_snoc hF.pc] at h2'
      rw [e, stp t h1, if_neg hneg, e']
      refine ⟨fun _ => ⟨t', rfl, h1', h2'⟩, fun h => ⟨t', rfl, h1', ?_⟩⟩
      rcases fac_snoc h with k | k
      · exact absurd k hu
      · exact (At.suf_fac hF hV h1' h2').2 k
/-- the language is that of the reduced words -/
def Irr (rs : List Rul) (c : Dfa) : Prop := ∀ l, Okw c l → finQ c (runI c c.s l) = (once rs l).isNone
theorem isNone_fac (hV : VR L rs) (w : Wrd) : (once rs w).isNone = true ↔ ¬ Fac rs w := by
  rw [← once_fac hV]; cases once rs w <;> simp
theorem irr_of {c : Dfa} (hV : VR L rs) (h1 : ∀ l, Okw c l → ¬ Fac rs l → finQ c (runI c c.s l) = true) (h2 : ∀ l, Okw c l → Fac rs l → finQ c (runI c c.s l) = false) : Irr rs c := fun l hl => by
  by_cases hf : Fac rs l
  · rw [h2 l hl hf]
    cases h : (once rs l).isNone
    · rfl
    · exact absurd hf ((isNone_fac hV l).1 h)
  · rw [h1 l hl hf, (isNone_fac hV l).2 hf]
theorem finD_irr (hF : FinOK (lfs rs) N fl fd) (hV : VR L rs) (hN : N.length ≤ 512) {L' : Int} (hL : 1 ≤ L' ∧ L' ≤ 6) : Irr rs (finD L' fl fd) := by
  have hfd := hF.fdl
  refine irr_of hV (fun l hl hf => ?_) (fun l hl hf => ?_)
  · obtain ⟨t, e, h1, h2⟩ := (finD_run hF hV hN hL l hl).1 hf
    show finQ (finD L' fl fd) (runI (finD L' fl fd) 0 l) = true
    rw [e, finD_fin (by omega), decide_eq_true_eq]
    have := At.suf_fac hF hV h1 h2
    rcases (show fd.getD t 0 < 0 ∨ 0 ≤ fd.getD t 0 by omega) with k | k
    · exact k
    · obtain ⟨j, hj, hs⟩ := this.1 k
      exact absurd ⟨j, hj, hs.isInfix⟩ hf
  · obtain ⟨t, e, h1, h2⟩ := (finD_run hF hV hN hL l hl).2 hf
    show finQ (finD L' fl fd) (runI (finD L' fl fd) 0 l) = false
    rw [e, finD_fin (by omega), decide_eq_false_iff_not]; omega
end
/-! of the reference -/
section
variable {rs : List Rul} {S : List Wrd} {L L' : Int}
end
end Go.Sx

namespace Go.Sx
open Go.RowKit
/-- what Irreducible answers -/
def IrrP (L : Int) (rs : List Rul) (d : Dfa) (e : Int) : Prop :=
  (errR L rs ≠ 0 ∧ e = errR L rs ∧ d = nilD) ∨ (errR L rs = 0 ∧ 511 < tot (lfs rs) rs.length ∧ e = 3 ∧ d = nilD) ∨ (errR L rs = 0 ∧ tot (lfs rs) rs.length ≤ 511 ∧ e = 0 ∧ ∃ c, VD c ∧ c.L = L ∧ d = minD c ∧ Irr rs c)
def c6 (fl : List Int) (s : Nat) : List Value := ((fl.map (Value.int .i32)).drop (s * 6)).take 6
theorem c6_len {fl : List Int} {s : Nat} (h : s * 6 + 6 ≤ fl.length) : (c6 fl s).length = 6 := by simp [c6]; omega
theorem c6_get {fl : List Int} {s x p : Nat} (e : p = x) (hx : x < 6) (h : s * 6 + x < fl.length) : (c6 fl s)[p]? = some (.int .i32 (fl.getD (s * 6 + x) 0)) := by
  subst e
  unfold c6
  rw [List.getElem?_take, if_pos hx, List.getElem?_drop]
  exact at6 h rfl
theorem c6_one (fl : List Int) (s : Nat) : one' (c6 fl s) := fun u hu => by
  have := List.mem_of_mem_drop (List.mem_of_mem_take hu)
  obtain ⟨c, _, rfl⟩ := List.mem_map.1 this; rfl
theorem tot_mono (ps : List Wrd) (k : Nat) : ∀ n, tot ps k ≤ tot ps (k + n)
  | 0 => Nat.le_refl _
  | n + 1 => Nat.le_trans (tot_mono ps k n) (by show _ ≤ tot ps (k + n) + _; omega)
theorem lfs_fill {rs : List Rul} {k : Nat} (hk : k < rs.length) : (((lfs rs).take k ++ List.replicate (rs.length - k) []).map sv).set k (sv (rs.getD k ([], [])).1) = ((lfs rs).take (k + 1) ++ List.replicate (rs.length - (k + 1)) []).map sv := by
  rw [take_snocD [] (lfs rs) k (by rw [lfs_len]; exact hk), lfs_get rs hk]
  exact fill_set sv _ [] _ rs.length k (by rw [List.length_take, lfs_len]; omega) hk
theorem finD_takeF {L : Int} {fl fd : List Int} {k : Nat} (hk : k < fd.length) : (finD L fl fd).fin.take (k + 1) = (finD L fl fd).fin.take k ++ [decide (fd.getD k 0 < 0)] := by
  rw [take_snocD false _ k (by rw [finD_len]; exact hk)]
  have := finD_fin (L := L) (fl := fl) hk
  unfold finQ at this
  rw [Int.toNat_natCast] at this; rw [this]
theorem finD_nx (L : Int) (fl fd : List Int) : (finD L fl fd).nx.length = fd.length := by simp [finD]
theorem finD_takeN {L : Int} {fl fd : List Int} {k : Nat} (hk : k < fd.length) : (finD L fl fd).nx.take (k + 1) = (finD L fl fd).nx.take k ++ [finRw L fl fd k] := by
  rw [take_snocD [] _ k (by rw [finD_nx]; exact hk), finD_row hk]
theorem al_lfs {L : Int} {rs : List Rul} (hV : VR L rs) : ∀ k, k < (lfs rs).length → Al ((lfs rs).getD k []) := fun k hk => by
  rw [lfs_len] at hk
  rw [lfs_get rs hk]
  exact validW_al (hV.v _ (getD_mem hk)).1
end Go.Sx

namespace Go.Proofs.YtdnhiinakhmhgaaGreatDoor
open Go.Sx Go.RowKit
set_option maxHeartbeats 4000000 in
theorem s_irred (w : World) (v : Value) (rs : List Rul) (h : RdR (fun _ => False) w v rs) (hll : ∀ k, k < rs.length → (rs.getD k ([], [])).1.length ≤ 9223372036854775807 ∧ (rs.getD k ([], [])).2.length ≤ 9223372036854775807) (L : Int) : CallS Tryz.prog 23 [v, .int .i64 L] w (fun r o => ∃ (d : Dfa) (e : Int) (vF vN : Value) (ws : List Value), IrrP L rs d e ∧ r = .tuple #[.agg #[.int .i64 d.L, .int .i64 d.s, vF, vN], .int .i64 e] ∧ ws.length = d.nx.length ∧ IsSl vF ∧ IsSl vN ∧ o = dfaO 4 3 26 vF vN ws d) := by
 have h0 := h
 have hb := h.len
 have sv0 := Rd.sl h
 unfold RdR at h
 refine spec_of Tryz.func23 rfl (leb rfl) ?_
 refine .sr fun _ hK1 => ?_
 refine AK.alloc el43 rfl rfl trivial rfl (fun bx4 => ?_)
 refine .as rfl (.nt hK1 ?_)
 refine .seq fun _ hK2 => ?_
 refine .sr fun _ hK3 => ?_
 refine .mv rfl (.mv rfl ?_)
 refine AK.call co53 rfl (fun w hw => s_rval w v rs (h0.at hw) hll L) trivial rfl ?_
 rintro r o ⟨rfl, rfl⟩
 refine .as rfl (.nt hK3 ?_)
 refine .sr fun _ hK4 => ?_
 refine .mv rfl (.v (.neq rfl rfl) (.nt hK4 ?_))
 refine AK.condNe rfl (fun hc0 => ?_) (fun hc0 => ?_)
 ·refine .sr fun _ hK5 => ?_
  refine .v (.build (parts := []) (cs := #[.int .i64 0, .int .i64 0, .slice none 0 0, .slice none 0 0]) rfl (by kernel_rfl)) ?_
  refine .mv rfl ?_
  refine AK.storeBox 0 (us := [.int .i64 0, .int .i64 0, .slice none 0 0, .slice none 0 0]) (cs' := [.int .i64 0, .int .i64 0, .slice none 0 0, .slice none 0 0]) rfl sz43 rfl rfl rfl rfl oneP (leb rfl) rfl trivial ?_
  refine .as rfl (.nt hK5 (.ret (.then_ret ?_)))
  refine AK.own' (dfaO 4 3 26 (.slice none 0 0) (.slice none 0 0) [] nilD ++ [box bx4 43 4 [.int .i64 0, .int .i64 0, .slice none 0 0, .slice none 0 0]]) (fun w hw => by have h1 := (((hw.pick [0] (by decide) rfl rfl).ghost 4 1).ghost 26 1).ghostG (f := Value.int .i64) 3; exact h1.pick [1, 2, 3, 0] (by decide) rfl rfl) ?_
  refine AK.retG [.cell 4 43, .tmp 5] rfl (.cons (.cell ag43 rfl bsp rfl rfl) (.cons (.tmp rfl) (.nil))) (fun w hw => ⟨_, _, ?_, rfl, Ret.of (hw.pick [0, 1, 2] (by decide) rfl rfl)⟩)
  exact ⟨nilD, _, _, _, [], .inl ⟨hc0, rfl, rfl⟩, rfl, rfl, nilSl, nilSl, rfl⟩
 ·have hE : errR L rs = 0 := (by omega)
  have hV := errR_iff.1 hE
  have hLL := hV.l
  have hrn := hV.n
  have hal := al_lfs hV
  have htb := tot_le hal rs.length (by rw [lfs_len]; exact Nat.le_refl _)
  refine .skip ?_
  refine AK.then_ (hK2 _ ?_)
  refine .sr fun _ hK6 => ?_
  refine .as rfl (.nt hK6 ?_)
  refine .sr fun _ hK7 => ?_
  refine .mv rfl (.v (.lenR sl27 rfl rdp) ?_)
  refine AK.make1 (n := rs.length) sl44 el9 rfl rfl rfl (by omega) (by omega) trivial rfl (fun mv => ?_)
  refine .as rfl (.nt hK7 ?_)
  refine .seq fun _ hK8 => ?_
  refine .sr fun _ hK9 => ?_
  refine .mv rfl (.v (.lenR sl27 rfl rdp) (.mv rfl (.nt hK9 (.block ?_))))
  refine AK.loopK (X := Nat) [(1, _), (4, _), (8, _), (27, _), (28, _)] (fun k => [(7, .int .i64 ((tot (lfs rs) k : Nat) : Int)), (29, .int .i64 (k : Int))]) (fun k => [box bx4 43 4 [.int .i64 0, .int .i64 0, .slice none 0 0, .slice none 0 0], row mv 9 1 rs.length (((lfs rs).take (k) ++ List.replicate (rs.length - (k)) []).map sv)]) (fun k => k ≤ rs.length) (fun k => rs.length - k) (0) slr ?_ ?_ ?_ ?_
  ·exact Nat.zero_le _
  ·exact slr
  ·exact fun w hw => by have e : (((lfs rs).take (0) ++ List.replicate (rs.length - (0)) []).map sv) = List.replicate rs.length (sv []) := (by simp); rw [e]; exact hw
  ·intro k hg0 _ hK10
   refine .sr fun _ hK11 => ?_
   refine .v (.lss rfl rfl) (.nt hK11 ?_)
   refine .seq fun _ hK12 => ?_
   refine AK.condD rfl (fun hc1 => ?_) (fun hc1 => ?_)
   ·have hts : tot (lfs rs) (k + 1) = tot (lfs rs) k + (rs.getD k ([], [])).1.length := (by show tot (lfs rs) k + _ = _; rw [lfs_get rs (by omega)])
    have htm := tot_mono (lfs rs) (k + 1) (rs.length - (k + 1))
    rw [show k + 1 + (rs.length - (k + 1)) = rs.length by omega] at htm
    refine .skip ?_
    refine AK.then_ (hK12 _ ?_)
    refine .seq fun _ hK13 => ?_
    refine .block ?_
    refine .sr fun _ hK14 => ?_
    refine .mv rfl ?_
    first | refine .v (.iN sl27 rfl rfl) ?_ | refine .v (.iK sl27 rfl rfl) ?_
    refine .v (.loadRu ag39 rfl rdp (by omega)) ?_
    refine AK.alloc el39 rfl rfl trivial rfl (fun bx10 => ?_)
    refine .as rfl ?_
    refine AK.storeBox 2 (us := rcs (rs.getD k ([], []))) (cs' := rcs (rs.getD k ([], []))) rfl sz39 rfl rfl rfl rfl oneP (leb rfl) rfl trivial ?_
    refine .nt hK14 ?_
    refine .sr fun _ hK15 => ?_
    refine .mv rfl (.v (.fieldAddr fd39_0 rfl) (.v (.loadBox on9 rfl bsp rfl) (.v (.lenS un9 rfl) ?_)))
    refine AK.val (.int .i64 ((tot (lfs rs) (k + 1) : Nat) : Int)) (Yl.valE (Yl.add rfl rfl (by omega)) (congrArg (Value.int .i64) (by rw [hts]; omega))) trivial rfl ?_
    refine .as rfl (.nt hK15 ?_)
    refine AK.region ?_
    refine .mv rfl (.mv rfl (.v (.fieldAddr fd39_0 rfl) (.v (.loadBox on9 rfl bsp rfl) ?_)))
    first | refine .v (.iN sl44 rfl rfl) ?_ | refine .v (.iK sl44 rfl rfl) ?_
    refine AK.store1e 1 rfl sz9 rfl rfl rfl rfl (by omega) (cs' := (((lfs rs).take (k + 1) ++ List.replicate (rs.length - (k + 1)) []).map sv)) (by exact lfs_fill (by omega)) trivial ?_
    refine .nil (.block_normal ?_)
    refine AK.then_ (hK13 _ ?_)
    refine AK.region ?_
    refine .v (.add rfl rfl (by omega)) ?_
    refine .mv rfl (.nil ?_)
    refine AK.then_ (hK10 _ _ (k + 1) (by omega) (by omega) (slr) (fun w hw => hw.pick [0, 1] (by decide) rfl rfl))
   ·have hk : k = rs.length := (by omega)
    rw [hk]
    refine AK.own' [box bx4 43 4 [.int .i64 0, .int .i64 0, .slice none 0 0, .slice none 0 0], row mv 9 1 rs.length ((lfs rs).map sv)] (fun w hw => by rw [Nat.sub_self, List.replicate_zero, List.append_nil, show List.take rs.length (lfs rs) = lfs rs from List.take_of_length_le (by rw [lfs_len]; exact Nat.le_refl _)] at hw; exact hw) ?_
    refine .exit (.then_exit (.then_exit (.block_exit ?_)))
    refine AK.then_ (hK8 _ ?_)
    refine .seq fun _ hK16 => ?_
    refine .sr fun _ hK17 => ?_
    refine .mv rfl (.v (.gtr rfl rfl) (.nt hK17 ?_))
    refine AK.condD rfl (fun hc2 => ?_) (fun hc2 => ?_)
    ·refine .sr fun _ hK18 => ?_
     refine .v (.build (parts := []) (cs := #[.int .i64 0, .int .i64 0, .slice none 0 0, .slice none 0 0]) rfl (by kernel_rfl)) ?_
     refine AK.storeBox 0 (us := [.int .i64 0, .int .i64 0, .slice none 0 0, .slice none 0 0]) (cs' := [.int .i64 0, .int .i64 0, .slice none 0 0, .slice none 0 0]) rfl sz43 rfl rfl rfl rfl oneP (leb rfl) rfl trivial ?_
     refine .as rfl (.nt hK18 (.ret (.then_ret ?_)))
     refine AK.own' (dfaO 4 3 26 (.slice none 0 0) (.slice none 0 0) [] nilD ++ [box bx4 43 4 [.int .i64 0, .int .i64 0, .slice none 0 0, .slice none 0 0]]) (fun w hw => by have h1 := (((hw.pick [0] (by decide) rfl rfl).ghost 4 1).ghost 26 1).ghostG (f := Value.int .i64) 3; exact h1.pick [1, 2, 3, 0] (by decide) rfl rfl) ?_
     refine AK.retG [.cell 4 43, .tmp 5] rfl (.cons (.cell ag43 rfl bsp rfl rfl) (.cons (.tmp rfl) (.nil))) (fun w hw => ⟨_, _, ?_, rfl, Ret.of (hw.pick [0, 1, 2] (by decide) rfl rfl)⟩)
     exact ⟨nilD, _, _, _, [], .inr (.inl ⟨hE, by omega, rfl, rfl⟩), rfl, rfl, nilSl, nilSl, rfl⟩
    ·refine .skip ?_
     refine AK.then_ (hK16 _ ?_)
     refine .sr fun _ hK19 => ?_
     refine .mv rfl ?_
     refine AK.call co54 rfl (fun w hw => s_newfinder w mv (lfs rs) (RdL.ownE 1 hw rfl (lfs_len rs).symm rfl) (al_lfs hV) (by rw [lfs_len]; exact hV.n)) trivial rfl ?_
     rintro r o ⟨bf, vn, vf, N, fl, fd, hF, hN, hNt, rfl, rfl⟩
     rw [lfs_len] at hNt
     have hfdl := hF.fdl
     have hfll := hF.fll
     have hN5 : N.length ≤ 512 := by omega
     have hvd := finD_vd hF hV.l hN5
     have hnl := finD_nx L fl fd
     have hfl2 := finD_len L fl fd
     refine .as rfl (.nt hK19 ?_)
     refine .sr fun _ hK20 => ?_
     refine .mv rfl ?_
     refine .v (.build (parts := [(0, .tmp 50)]) (cs := #[.int .i64 L, .int .i64 0, .slice none 0 0, .slice none 0 0]) rfl (by kernel_rfl)) ?_
     refine AK.alloc el43 rfl rfl trivial rfl (fun bx12 => ?_)
     refine AK.storeBox 5 (us := [.int .i64 L, .int .i64 0, .slice none 0 0, .slice none 0 0]) (cs' := [.int .i64 L, .int .i64 0, .slice none 0 0, .slice none 0 0]) rfl sz43 rfl rfl rfl rfl oneP (leb rfl) rfl trivial ?_
     refine .nt hK20 ?_
     refine .seq fun _ hK21 => ?_
     refine .sr fun _ hK22 => ?_
     refine .mv rfl (.v (.nilCheck rfl) (.v (.fieldAddr fd100_0 rfl) (.v (.loadBox on97 rfl bsp rfl) (.v (.lenR sl97 rfl rdp) (.mv rfl (.nt hK22 (.block ?_)))))))
     refine AK.loopK (X := Nat × Value × Value × List Value) [(1, _), (4, _), (11, _), (12, _), (55, _), (56, _)] (fun x => [(57, .int .i64 (x.1 : Int))]) (fun x => [box bx4 43 4 [.int .i64 0, .int .i64 0, .slice none 0 0, .slice none 0 0], row mv 9 1 rs.length ((lfs rs).map sv), box bf 100 2 [vn, vf], row vn 101 6 N.length (fl.map (Value.int .i32)), row vf 21 1 N.length (fd.map (Value.int .i32)), box bx12 43 4 [.int .i64 L, .int .i64 0, x.2.1, x.2.2.1], row x.2.1 4 1 x.1 (((finD L fl fd).fin.take x.1).map Value.bool), row x.2.2.1 26 1 x.1 x.2.2.2, bigA (matG (Value.int .i64) 3 x.2.2.2 ((finD L fl fd).nx.take x.1))]) (fun x => x.1 ≤ N.length ∧ x.2.2.2.length = x.1 ∧ IsSl x.2.1 ∧ IsSl x.2.2.1) (fun x => N.length - x.1) ((0, .slice none 0 0, .slice none 0 0, [])) slr ?_ ?_ ?_ ?_
     ·exact ⟨Nat.zero_le _, rfl, nilSl, nilSl⟩
     ·exact slr
     ·exact fun w hw => by have h1 := ((hw.ghost 4 1).ghost 26 1).ghostG (f := Value.int .i64) 3; exact h1
     ·intro x hg1 _ hK23
      have hsF := hg1.2.2.1
      have hsN := hg1.2.2.2
      refine .sr fun _ hK24 => ?_
      refine .v (.lss rfl rfl) (.nt hK24 ?_)
      refine .seq fun _ hK25 => ?_
      refine AK.condD rfl (fun hc3 => ?_) (fun hc3 => ?_)
      ·have hgo : ∀ q, q < 6 → ∀ z, z = fl.getD (x.1 * 6 + q) 0 → 0 ≤ z ∧ z < N.length := fun c hc z hz => by obtain ⟨t, e, h1, _⟩ := hF.go x.1 (by omega) c hc; omega
       refine .skip ?_
       refine AK.then_ (hK25 _ ?_)
       refine .seq fun _ hK26 => ?_
       refine .block ?_
       refine .sr fun _ hK27 => ?_
       refine .mv rfl ?_
       first | refine .v (.iN sl97 rfl rfl) ?_ | refine .v (.iK sl97 rfl rfl) ?_
       refine .v (.loadG ag101 rfl rdp (by omega)) ?_
       refine AK.alloc el101 rfl rfl trivial rfl (fun bx14 => ?_)
       refine .as rfl ?_
       refine AK.storeBox 9 (us := c6 fl x.1) (cs' := c6 fl x.1) rfl sz101 rfl rfl rfl (c6_len (by omega)) (c6_one fl x.1) (by rw [c6_len (by omega)]; exact Nat.le_refl _) (spl_whole (c6_len (by omega))) trivial ?_
       refine .nt hK27 ?_
       refine .sr fun _ hK28 => ?_
       refine .mv rfl ?_
       refine AK.make1Z sl26 el3 rfl rfl rfl (by omega) (by omega) (by omega) trivial rfl (fun mv1 => ?_)
       refine AK.shape 10 rfl (fun smv1 => ?_)
       refine .as rfl (.nt hK28 ?_)
       refine .seq fun _ hK29 => ?_
       refine .sr fun _ hK30 => ?_
       refine .mv rfl (.v (.lenR sl26 rfl rdp) (.mv rfl (.nt hK30 (.block ?_))))
       refine AK.loopK (X := Nat) [(1, _), (4, _), (11, _), (12, _), (13, _), (14, _), (15, _), (55, _), (56, _), (57, _), (65, _)] (fun y => [(66, .int .i64 (y : Int))]) (fun y => [box bx4 43 4 [.int .i64 0, .int .i64 0, .slice none 0 0, .slice none 0 0], row mv 9 1 rs.length ((lfs rs).map sv), box bf 100 2 [vn, vf], row vn 101 6 N.length (fl.map (Value.int .i32)), row vf 21 1 N.length (fd.map (Value.int .i32)), box bx12 43 4 [.int .i64 L, .int .i64 0, x.2.1, x.2.2.1], row x.2.1 4 1 x.1 (((finD L fl fd).fin.take x.1).map Value.bool), row x.2.2.1 26 1 x.1 x.2.2.2, bigA (matG (Value.int .i64) 3 x.2.2.2 ((finD L fl fd).nx.take x.1)), box bx14 101 6 (c6 fl x.1), row mv1 3 1 L.toNat (((finRw L fl fd x.1).take (y) ++ List.replicate (L.toNat - (y)) 0).map (Value.int .i64))]) (fun y => y ≤ L.toNat) (fun y => L.toNat - y) (0) slr ?_ ?_ ?_ ?_
       ·exact Nat.zero_le _
       ·exact slr
       ·exact fun w hw => by rw [List.take_zero, List.nil_append, Nat.sub_zero, List.map_replicate]; exact hw
       ·intro y hg2 _ hK31
        refine .sr fun _ hK32 => ?_
        refine .v (.lss rfl rfl) (.nt hK32 ?_)
        refine .seq fun _ hK33 => ?_
        refine AK.condD rfl (fun hc4 => ?_) (fun hc4 => ?_)
        ·have hgy := hgo y (by omega) _ rfl
         refine .skip ?_
         refine AK.then_ (hK33 _ ?_)
         refine .seq fun _ hK34 => ?_
         refine .block ?_
         refine .sr fun _ hK35 => ?_
         refine .mv rfl (.as rfl (.nt hK35 ?_))
         refine .sr fun _ hK36 => ?_
         refine .mv rfl (.mv rfl (.mv rfl ?_))
         refine .v (.idxArrZ ar101 rfl rfl (by omega)) ?_
         refine .v (.loadBox on21 rfl bsp (c6_get (x := y) (by omega) (by omega) (by omega))) ?_
         refine .v (.convI (by kernel_rfl) un3 rfl (wrap_i64 (by omega))) ?_
         first | refine .v (.iN sl26 rfl rfl) ?_ | refine .v (.iK sl26 rfl rfl) ?_
         refine AK.store1e 10 rfl sz3 rfl rfl rfl rfl (by omega) (cs' := ((((finRw L fl fd x.1).take y ++ [(fl.getD (x.1 * 6 + y) 0)]) ++ List.replicate (L.toNat - (y + 1)) 0).map (Value.int .i64))) (by exact fill_set (Value.int .i64) _ 0 (fl.getD (x.1 * 6 + y) 0) L.toNat y (by rw [List.length_take, finR_len]; omega) (by omega)) trivial ?_
         refine .nt hK36 ?_
         refine .sr fun _ hK37 => ?_
         refine .mv rfl (.v (.nilCheck rfl) (.v (.fieldAddr fd100_1 rfl) (.v (.loadBox on98 rfl bsp rfl) (.mv rfl ?_))))
         first | refine .v (.iN sl98 rfl rfl) ?_ | refine .v (.iK sl98 rfl rfl) ?_
         refine .v (.loadI on21 rfl rdp (by omega)) ?_
         refine .v (.geq rfl rfl) (.nt hK37 ?_)
         refine AK.condD rfl (fun hc5 => ?_) (fun hc5 => ?_)
         ·refine AK.region ?_
          refine .mv rfl (.mv rfl (.mv rfl ?_))
          first | refine .v (.iN sl26 rfl rfl) ?_ | refine .v (.iK sl26 rfl rfl) ?_
          refine AK.store1e 10 rfl sz3 rfl rfl rfl rfl (by omega) (cs' := ((((finRw L fl fd x.1).take y ++ [(x.1 : Int)]) ++ List.replicate (L.toNat - (y + 1)) 0).map (Value.int .i64))) (by exact set_mid (Value.int .i64) _ _ (fl.getD (x.1 * 6 + y) 0) (x.1 : Int) (by rw [List.length_take, finR_len]; omega)) trivial ?_
          refine .nil (.block_normal ?_)
          refine AK.then_ (hK34 _ ?_)
          refine AK.region ?_
          refine .v (.add rfl rfl (by omega)) ?_
          refine .mv rfl (.nil ?_)
          first | refine AK.then_ (hK31 _ _ (y + 1) (by omega) (by omega) (slr) (fun w hw => by rw [take_snocD 0 (finRw L fl fd x.1) y (by rw [finR_len]; omega), finR_get (by omega), if_pos (show 0 ≤ fd.getD x.1 0 by omega)]; exact hw)) | refine AK.then_ (hK31 _ _ (y + 1) (by omega) (by omega) (slr) (fun w hw => by rw [take_snocD 0 (finRw L fl fd x.1) y (by rw [finR_len]; omega), finR_get (by omega), if_neg (show ¬ 0 ≤ fd.getD x.1 0 by omega)]; exact hw))
         ·refine .skip (.block_normal ?_)
          refine AK.then_ (hK34 _ ?_)
          refine AK.region ?_
          refine .v (.add rfl rfl (by omega)) ?_
          refine .mv rfl (.nil ?_)
          first | refine AK.then_ (hK31 _ _ (y + 1) (by omega) (by omega) (slr) (fun w hw => by rw [take_snocD 0 (finRw L fl fd x.1) y (by rw [finR_len]; omega), finR_get (by omega), if_pos (show 0 ≤ fd.getD x.1 0 by omega)]; exact hw)) | refine AK.then_ (hK31 _ _ (y + 1) (by omega) (by omega) (slr) (fun w hw => by rw [take_snocD 0 (finRw L fl fd x.1) y (by rw [finR_len]; omega), finR_get (by omega), if_neg (show ¬ 0 ≤ fd.getD x.1 0 by omega)]; exact hw))
        ·refine .exit (.then_exit (.then_exit (.block_exit ?_)))
         refine AK.then_ (hK29 _ ?_)
         refine .seq fun _ hK38 => ?_
         refine AK.joinK (X := Value) [(1, _), (4, _), (11, _), (12, _), (15, _), (55, _), (56, _), (57, _)] (fun z => []) (fun z => [box bx4 43 4 [.int .i64 0, .int .i64 0, .slice none 0 0, .slice none 0 0], row mv 9 1 rs.length ((lfs rs).map sv), box bf 100 2 [vn, vf], row vn 101 6 N.length (fl.map (Value.int .i32)), row vf 21 1 N.length (fd.map (Value.int .i32)), box bx12 43 4 [.int .i64 L, .int .i64 0, z, x.2.2.1], row z 4 1 (x.1 + 1) (((finD L fl fd).fin.take x.1).map Value.bool ++ [Value.bool (decide (fd.getD x.1 0 < 0))].flatMap (·.cells.toList)), row x.2.2.1 26 1 x.1 x.2.2.2, bigA (matG (Value.int .i64) 3 x.2.2.2 ((finD L fl fd).nx.take x.1)), box bx14 101 6 (c6 fl x.1), row mv1 3 1 L.toNat (((finRw L fl fd x.1).take (y) ++ List.replicate (L.toNat - (y)) 0).map (Value.int .i64))]) (fun z => IsSl z) slr (fun _ hJ => ?_) (fun z hg => ?_)
         ·try (conv => enter [2, 2]; simp only [nrm])
          refine AK.held 13 mixed ?_
          refine HeldK.first 0 (fuel := 13) (listed' := (lb 14 1)) _ rfl krf krf rfl (Yl.fieldAddr fd43_2 rfl) trivial rfl ?_
          refine HeldK.first 1 (fuel := 12) (listed' := (lb 14 3)) _ rfl krf krf rfl (Yl.loadBox on41 rfl bsp rfl) trivial rfl ?_
          refine HeldK.first 2 (fuel := 11) (listed' := (lb 14 7)) _ rfl krf krf rfl (Yl.move rfl) trivial rfl ?_
          refine HeldK.first 3 (fuel := 10) (listed' := (lb 14 15)) _ rfl krf krf rfl (Yl.nilCheck rfl) trivial rfl ?_
          refine HeldK.first 4 (fuel := 9) (listed' := (lb 14 31)) _ rfl krf krf rfl (Yl.fieldAddr fd100_1 rfl) trivial rfl ?_
          refine HeldK.first 5 (fuel := 8) (listed' := (lb 14 63)) _ rfl krf krf rfl (Yl.loadBox on98 rfl bsp rfl) trivial rfl ?_
          refine HeldK.first 6 (fuel := 7) (listed' := (lb 14 127)) _ rfl krf krf rfl (Yl.move rfl) trivial rfl ?_
          first | refine HeldK.first 7 (fuel := 6) (listed' := (lb 14 255)) _ rfl krf krf rfl (.iN sl98 rfl rfl) trivial rfl ?_ | refine HeldK.first 7 (fuel := 6) (listed' := (lb 14 255)) _ rfl krf krf rfl (.iK sl98 rfl rfl) trivial rfl ?_
          refine HeldK.first 8 (fuel := 5) (listed' := (lb 14 511)) _ rfl krf krf rfl (Yl.loadI on21 rfl rdp (by omega)) trivial rfl ?_
          refine HeldK.first 9 (fuel := 4) (listed' := (lb 14 1023)) _ rfl krf krf rfl (Yl.lss rfl rfl) trivial rfl ?_
          refine HeldK.one 10 (fuel := 3) (listed' := (lb 14 2047)) krf rfl krf ?_
          refine AK.lit (xs := [.tmp 98]) sl41 el4 rfl rfl rfl (by intro a ha; simp at ha; subst ha; rfl) (by decide) (by decide) trivial rfl (fun t2 => ?_)
          refine .nil ?_
          try (conv => enter [2, 2]; simp only [nrm])
          refine HeldK.back Go.Sx.hle ?_
          refine HeldK.one 11 (fuel := 2) (listed' := (lb 14 4095)) krf rfl krf ?_
          refine AK.appendH 6 rfl sl41 el4 rfl (by decide) rfl rfl rfl rdp oneP (by omega) (by omega) trivial rfl (fun vf2 hf2 => ?_)
          refine .nil ?_
          try (conv => enter [2, 2]; simp only [nrm])
          refine HeldK.back Go.Sx.hle ?_
          refine HeldK.first 12 (fuel := 1) (listed' := (lb 14 8191)) _ rfl krf krf rfl (Yl.fieldAddr fd43_2 rfl) trivial rfl ?_
          refine HeldK.one 13 (fuel := 0) (listed' := (lb 14 16383)) krf rfl krf ?_
          refine AK.storeBox 5 (us := [vf2]) (cs' := [.int .i64 L, .int .i64 0, vf2, x.2.2.1]) rfl sz41 rfl rfl (by rw [IsSl.cells (by assumption)]) rfl oneP (leb rfl) rfl trivial ?_
          refine .nil ?_
          try (conv => enter [2, 2]; simp only [nrm])
          refine HeldK.backN 14 krf rfl krf ?_
          refine .nil ?_
          refine AK.fromQn ?_
          exact hJ _ _ (vf2) hf2 (slr) (fun w hw => by first | exact hw.pickLe [0, 1, 2, 3, 4, 5, 6, 7, 8, 9, 10] (by decide) pkl)
         ·skip
          refine AK.then_ (hK38 _ ?_)
          refine AK.region ?_
          refine .v (.fieldAddr fd43_3 rfl) (.v (.loadBox on22 rfl bsp rfl) (.mv rfl ?_))
          refine AK.append1 7 rfl sl22 el26 rfl (by decide) rfl (by intro k hk; cases hk; rfl) (by rw [smv1.cells]; rfl) (by rw [smv1.cells]; exact one'_cons smv1.one one'_nil) (by omega) (by omega) (by decide) rfl rfl (fun vn2 _ hn2 => ?_)
          refine .v (.fieldAddr fd43_3 rfl) ?_
          refine AK.storeBox 5 (us := [vn2]) (cs' := [.int .i64 L, .int .i64 0, z, vn2]) rfl sz22 rfl rfl (by rw [IsSl.cells (by assumption)]) rfl oneP (leb rfl) rfl trivial ?_
          refine .nil (.block_normal ?_)
          refine AK.then_ (hK26 _ ?_)
          refine AK.region ?_
          refine .v (.add rfl rfl (by omega)) ?_
          refine .mv rfl (.nil ?_)
          refine AK.then_ (hK23 _ _ ((x.1 + 1, z, vn2, x.2.2.2 ++ [mv1])) ⟨by dsimp only; omega, by dsimp only; rw [List.length_append, hg1.2.1]; rfl, hg, hn2⟩ (by dsimp only; omega) (slr) (fun w hw => by
            dsimp only
            have e0 : y = L.toNat := (by omega)
            rw [finD_takeF (by omega), finD_takeN (by omega), matG_snoc (by rw [List.length_take, hg1.2.1]; omega), finR_len, List.map_append]
            rw [e0, Nat.sub_self, List.replicate_zero, List.append_nil, show (finRw L fl fd x.1).take L.toNat = finRw L fl fd x.1 from List.take_of_length_le (by rw [finR_len]; exact Nat.le_refl _)] at hw
            rw [show mv1.cells.toList = [mv1] by simp [smv1.cells]] at hw
            exact HW.absorb (own := [_, _, _, _, _, _, _, _, _]) 8 rfl (hw.pick [0, 1, 2, 3, 4, 5, 6, 7, 8, 10] (by decide) rfl rfl)))
      ·have hx : x.1 = fd.length := (by omega)
       have hwl : x.2.2.2.length = (finD L fl fd).nx.length := (by rw [hg1.2.1]; omega)
       have hmv : MinV (finD L fl fd) = minD (finD L fl fd) := if_pos hvd
       refine AK.own' [box bx4 43 4 [.int .i64 0, .int .i64 0, .slice none 0 0, .slice none 0 0], row mv 9 1 rs.length ((lfs rs).map sv), box bf 100 2 [vn, vf], row vn 101 6 N.length (fl.map (Value.int .i32)), row vf 21 1 N.length (fd.map (Value.int .i32)), box bx12 43 4 [.int .i64 L, .int .i64 0, x.2.1, x.2.2.1], row x.2.1 4 1 (finD L fl fd).fin.length ((finD L fl fd).fin.map Value.bool), row x.2.2.1 26 1 (finD L fl fd).nx.length x.2.2.2, bigA (matG (Value.int .i64) 3 x.2.2.2 (finD L fl fd).nx)] (fun w hw => by rw [hx] at hw; rw [hnl, hfl2]; rw [List.take_of_length_le (by omega), List.take_of_length_le (by omega)] at hw; exact hw) ?_
       refine .exit (.then_exit (.then_exit (.block_exit ?_)))
       refine AK.then_ (hK21 _ ?_)
       refine .sr fun _ hK39 => ?_
       refine .v (.loadBoxG ag43 rfl bsp rfl rfl) ?_
       refine AK.call co32 rfl (fun w hw => s_min w _ (finD L fl fd) (RdD.own 6 hw hwl rfl rfl rfl)) trivial rfl ?_
       rintro r o ⟨mF, mN, mrs, rfl, hmrs, smF, smN, rfl⟩
       rw [hmv] at hmrs
       rw [hmv]
       refine AK.storeBox 0 (us := [.int .i64 (minD (finD L fl fd)).L, .int .i64 (minD (finD L fl fd)).s, mF, mN]) (cs' := [.int .i64 (minD (finD L fl fd)).L, .int .i64 (minD (finD L fl fd)).s, mF, mN]) rfl sz43 rfl rfl rfl rfl oneP (leb rfl) rfl trivial ?_
       refine .as rfl (.nt hK39 (.ret ?_))
       refine AK.retG [.cell 4 43, .tmp 5] rfl (.cons (.cell ag43 rfl bsp rfl rfl) (.cons (.tmp rfl) (.nil))) (fun w hw => ⟨_, _, ?_, rfl, Ret.of (hw.pick [9, 10, 11] (by decide) rfl rfl)⟩)
       exact ⟨minD (finD L fl fd), 0, mF, mN, mrs, .inr (.inr ⟨hE, by omega, rfl, (finD L fl fd), hvd, rfl, rfl, finD_irr hF hV hN5 hV.l⟩), rfl, hmrs, smF, smN, rfl⟩

end Go.Proofs.YtdnhiinakhmhgaaGreatDoor

namespace Go.Proofs.YtdnhiinakhmhgaaGreatDoor
open Go.Sx Go.RowKit
end Go.Proofs.YtdnhiinakhmhgaaGreatDoor

namespace Go.Proofs.YtdnhiinakhmhgaaGreatDoor
open Go.Sx Go.RowKit
theorem s_extend (w : World) (F : Nat → Prop) (b m : Nat) (d : Dfa) (vF vN vAl vPre vWo : Value) (wn : Int) (rs : List Value) (hv : VD d) (hm : m ≤ 4096) (hrs : rs.length = m) (hF0 : RdL F Value.bool w vF d.fin) (hN0 : RdLL F (Value.int .i64) w vN d.nx) (hA : (bigA [box b 104 8 [.int .i64 d.L, .int .i64 d.s, vF, vN, .int .i64 wn, vAl, vPre, vWo], row vAl 41 1 (m + 1) (vF :: rs), bigA (matG Value.bool 4 rs (alT d m))]).holds w F) : CallM Tryz.prog 55 [.pointer (some ⟨b, 0, none⟩)] w F (fun r A o => ∃ vAl' rv, IsSl vAl' ∧ r = .tuple #[] ∧ A = bigA [box b 104 8 [.int .i64 d.L, .int .i64 d.s, vF, vN, .int .i64 wn, vAl', vPre, vWo], row vAl' 41 1 (m + 2) (vF :: (rs ++ [rv])), bigA (matG Value.bool 4 (rs ++ [rv]) (alT d (m + 1)))] ∧ o = []) := by
 have hF := hF0
 unfold RdL at hF
 obtain ⟨rn, hrl, hNr, hNi⟩ := hN0
 have hmn := hNr.le
 have hmf := hF.le
 have hnx := hv.nx
 have hn5 := hv.n
 have hvt := hv.to
 have hvr := hv.row
 have hvL := hv.L
 have hal : ((d.fin :: alT d m).getD m []) = aliveR d m := alR_at d (Nat.le_refl m)
 have hall := aliveR_len hnx m
 have hall2 : ((d.fin :: alT d m).getD m []).length = d.fin.length := by rw [hal]; exact hall
 refine specM_of' Tryz.func55 rfl (leb rfl) hA ?_
 refine .seq fun _ hK1 => ?_
 refine AK.quiet mixed krf ?_
 refine .mv rfl (.v (.nilCheck rfl) (.v (.fieldAddr fd104_2 rfl) (.v (.loadBox on102 rfl bsp rfl) (.mv rfl (.v (.nilCheck rfl) (.v (.fieldAddr fd104_2 rfl) (.v (.loadBox on102 rfl bsp rfl) ?_)))))))
 refine .v (.lenR sl102 rfl (by first | exact rdp | exact .own 3 rfl | exact rd_al2 2 hF rfl (by rw [alT_len]; exact hrs) (by rw [alT_len]; omega) hal hall | exact .arg (hNi _ (by omega)))) ?_
 refine .v (.subE ((m : Int)) rfl rfl (by omega) (by omega)) ?_
 first | refine .v (.iN sl102 rfl rfl (hr := (by first | exact rdp | exact .own 3 rfl | exact rd_al2 2 hF rfl (by rw [alT_len]; exact hrs) (by rw [alT_len]; omega) hal hall | exact .arg (hNi _ (by omega))))) ?_ | refine .v (.iK sl102 rfl rfl (hr := (by first | exact rdp | exact .own 3 rfl | exact rd_al2 2 hF rfl (by rw [alT_len]; exact hrs) (by rw [alT_len]; omega) hal hall | exact .arg (hNi _ (by omega))))) ?_
 refine .v (.loadV on41 rfl (by first | exact rdp | exact .own 3 rfl | exact rd_al2 2 hF rfl (by rw [alT_len]; exact hrs) (by rw [alT_len]; omega) hal hall | exact .arg (hNi _ (by omega))) (by simp; omega)) ?_
 refine .as rfl ?_
 refine QK.nil (QK.fin ?_)
 refine AK.then_ (hK1 _ ?_)
 refine .sr fun _ hK2 => ?_
 refine .mv rfl ?_
 refine .v (.lenR sl41 rfl (by first | exact rdp | exact .own 3 rfl | exact rd_al2 2 hF rfl (by rw [alT_len]; exact hrs) (by rw [alT_len]; omega) hal hall | exact .arg (hNi _ (by omega)))) ?_
 refine AK.make1 (n := d.fin.length) sl41 el4 rfl rfl rfl (by omega) (by omega) trivial rfl (fun rv => ?_)
 refine .as rfl (.nt hK2 ?_)
 refine .seq fun _ hK3 => ?_
 refine .sr fun _ hK4 => ?_
 refine .mv rfl (.v (.nilCheck rfl) (.v (.fieldAddr fd104_0 rfl) (.v (.fieldAddr fd43_3 rfl) (.v (.loadBox on22 rfl bsp rfl) ?_))))
 refine .v (.lenR sl22 rfl (by first | exact rdp | exact .own 3 rfl | exact rd_al2 2 hF rfl (by rw [alT_len]; exact hrs) (by rw [alT_len]; omega) hal hall | exact .arg (hNi _ (by omega)))) ?_
 refine .mv rfl (.nt hK4 (.block ?_))
 refine AK.loopK (X := Nat) [(0, _), (2, _), (3, _), (27, _), (28, _)] (fun k => [(29, .int .i64 (k : Int))]) (fun k => [box b 104 8 [.int .i64 d.L, .int .i64 d.s, vF, vN, .int .i64 wn, vAl, vPre, vWo], row vAl 41 1 (m + 1) (vF :: rs), bigA (matG Value.bool 4 rs (alT d m)), row rv 4 1 d.fin.length (((preB d (aliveR d m)).take k ++ List.replicate (d.fin.length - k) false).map Value.bool)]) (fun k => k ≤ d.nx.length) (fun k => d.nx.length - k) (0) slr ?_ ?_ ?_ ?_
 ·exact Nat.zero_le _
 ·exact slr
 ·exact fun w hw => by simpa using hw
 ·intro k hg0 _ hK5
  refine .sr fun _ hK6 => ?_
  refine .v (.lss rfl rfl) (.nt hK6 ?_)
  refine .seq fun _ hK7 => ?_
  refine AK.condD rfl (fun hc0 => ?_) (fun hc0 => ?_)
  ·refine .skip ?_
   refine AK.then_ (hK7 _ ?_)
   refine .seq fun _ hK8 => ?_
   refine .block ?_
   refine .sr fun _ hK9 => ?_
   refine .mv rfl ?_
   first | refine .v (.iN sl22 rfl rfl (hr := (by first | exact rdp | exact .own 3 rfl | exact rd_al2 2 hF rfl (by rw [alT_len]; exact hrs) (by rw [alT_len]; omega) hal hall | exact .arg (hNi _ (by omega))))) ?_ | refine .v (.iK sl22 rfl rfl (hr := (by first | exact rdp | exact .own 3 rfl | exact rd_al2 2 hF rfl (by rw [alT_len]; exact hrs) (by rw [alT_len]; omega) hal hall | exact .arg (hNi _ (by omega))))) ?_
   refine .v (.loadV on26 rfl (by first | exact rdp | exact .own 3 rfl | exact rd_al2 2 hF rfl (by rw [alT_len]; exact hrs) (by rw [alT_len]; omega) hal hall | exact .arg (hNi _ (by omega))) (by omega)) ?_
   refine .as rfl (.as rfl (.nt hK9 ?_))
   refine .sr fun _ hK10 => ?_
   refine .mv rfl ?_
   refine .v (.lenR sl26 rfl (by first | exact rdp | exact .own 3 rfl | exact rd_al2 2 hF rfl (by rw [alT_len]; exact hrs) (by rw [alT_len]; omega) hal hall | exact .arg (hNi _ (by omega)))) ?_
   refine .mv rfl (.nt hK10 (.block ?_))
   refine AK.loopK (X := Nat) [(0, _), (2, _), (3, _), (4, _), (27, _), (28, _), (29, _), (34, _), (35, _)] (fun j => [(36, .int .i64 (j : Int))]) (fun j => [box b 104 8 [.int .i64 d.L, .int .i64 d.s, vF, vN, .int .i64 wn, vAl, vPre, vWo], row vAl 41 1 (m + 1) (vF :: rs), bigA (matG Value.bool 4 rs (alT d m)), row rv 4 1 d.fin.length ((orRow ((preB d (aliveR d m)).take k) d.fin.length k (((d.nx.getD k []).take j).any (fun q => (aliveR d m).getD q.toNat false))).map Value.bool)]) (fun j => j ≤ (d.nx.getD k []).length) (fun j => (d.nx.getD k []).length - j) (0) slr ?_ ?_ ?_ ?_
   ·exact Nat.zero_le _
   ·exact slr
   ·exact fun w hw => by rw [orRow_zero (by omega)] at hw; exact hw
   ·intro j hg1 _ hK11
    have hA := preB_tlen (d := d) (row := aliveR d m) (k := k) (by omega)
    have hlen : (orRow ((preB d (aliveR d m)).take k) d.fin.length k (((d.nx.getD k []).take j).any (fun q => (aliveR d m).getD q.toNat false))).length = d.fin.length := orRow_len hA (by omega)
    have hget : (orRow ((preB d (aliveR d m)).take k) d.fin.length k (((d.nx.getD k []).take j).any (fun q => (aliveR d m).getD q.toNat false))).getD k false = ((d.nx.getD k []).take j).any (fun q => (aliveR d m).getD q.toNat false) := orRow_get hA
    have hsn := fun h => any_snoc (fun q => (aliveR d m).getD q.toNat false) 0 (xs := d.nx.getD k []) (k := j) h
    have hrl2 := hvr k (by omega)
    refine .sr fun _ hK12 => ?_
    refine .v (.lss rfl rfl) (.nt hK12 ?_)
    refine .seq fun _ hK13 => ?_
    refine AK.condD rfl (fun hc1 => ?_) (fun hc1 => ?_)
    ·have ht := hvt k j (by omega) (by omega)
     refine .skip ?_
     refine AK.then_ (hK13 _ ?_)
     refine .seq fun _ hK14 => ?_
     refine .block ?_
     refine .sr fun _ hK15 => ?_
     first | refine .v (.iN sl26 rfl rfl (hr := (by first | exact rdp | exact .own 3 rfl | exact rd_al2 2 hF rfl (by rw [alT_len]; exact hrs) (by rw [alT_len]; omega) hal hall | exact .arg (hNi _ (by omega))))) ?_ | refine .v (.iK sl26 rfl rfl (hr := (by first | exact rdp | exact .own 3 rfl | exact rd_al2 2 hF rfl (by rw [alT_len]; exact hrs) (by rw [alT_len]; omega) hal hall | exact .arg (hNi _ (by omega))))) ?_
     refine .v (.loadI on3 rfl (by first | exact rdp | exact .own 3 rfl | exact rd_al2 2 hF rfl (by rw [alT_len]; exact hrs) (by rw [alT_len]; omega) hal hall | exact .arg (hNi _ (by omega))) (by omega)) ?_
     refine .as rfl (.nt hK15 ?_)
     refine AK.region ?_
     refine .mv rfl (.mv rfl (.mv rfl (.mv rfl ?_)))
     first | refine .v (.iN sl41 rfl rfl (hr := (by first | exact rdp | exact .own 3 rfl | exact rd_al2 2 hF rfl (by rw [alT_len]; exact hrs) (by rw [alT_len]; omega) hal hall | exact .arg (hNi _ (by omega))))) ?_ | refine .v (.iK sl41 rfl rfl (hr := (by first | exact rdp | exact .own 3 rfl | exact rd_al2 2 hF rfl (by rw [alT_len]; exact hrs) (by rw [alT_len]; omega) hal hall | exact .arg (hNi _ (by omega))))) ?_
     refine .v (.loadB on4 rfl (by first | exact rdp | exact .own 3 rfl | exact rd_al2 2 hF rfl (by rw [alT_len]; exact hrs) (by rw [alT_len]; omega) hal hall | exact .arg (hNi _ (by omega))) (by omega)) ?_
     refine .mv rfl ?_
     refine AK.splitB (g := 46) rfl (fun hg_8_6 => ?_) (fun hg_8_6 => ?_)
     ·have hg_8_6' := hg_8_6
      try simp only [bs] at hg_8_6'
      refine AK.pass rfl rfl (hg_8_6) rfl ?_
      refine AK.pass rfl rfl (hg_8_6) rfl ?_
      refine AK.pass rfl rfl (hg_8_6) rfl ?_
      refine AK.pass rfl rfl (hg_8_6) rfl ?_
      refine .v (.pickT rfl (hg_8_6) rfl) ?_
      first | refine .v (.iN sl41 rfl rfl (hr := (by first | exact rdp | exact .own 3 rfl | exact rd_al2 2 hF rfl (by rw [alT_len]; exact hrs) (by rw [alT_len]; omega) hal hall | exact .arg (hNi _ (by omega))))) ?_ | refine .v (.iK sl41 rfl rfl (hr := (by first | exact rdp | exact .own 3 rfl | exact rd_al2 2 hF rfl (by rw [alT_len]; exact hrs) (by rw [alT_len]; omega) hal hall | exact .arg (hNi _ (by omega))))) ?_
      refine AK.store1e 3 rfl sz4 rfl rfl rfl rfl (by omega) (cs' := ((orRow ((preB d (aliveR d m)).take k) d.fin.length k (((d.nx.getD k []).take (j + 1)).any (fun q => (aliveR d m).getD q.toNat false))).map Value.bool)) (by rw [orRow_set _ hA, hsn (by omega), ← hget]; rw [hg_8_6]; rfl) trivial ?_
      refine .nil (.block_normal ?_)
      refine AK.then_ (hK14 _ ?_)
      refine AK.region ?_
      refine .v (.add rfl rfl (by omega)) ?_
      refine .mv rfl (.nil ?_)
      refine AK.then_ (hK11 _ _ (j + 1) (by omega) (by omega) (slr) (fun w hw => hw))
     ·have hg_8_6' := hg_8_6
      try simp only [bs] at hg_8_6'
      refine AK.val _ (Yl.move rfl) ⟨_, rfl, gB hg_8_6⟩ rfl ?_
      refine AK.val _ (Yl.move rfl) ⟨_, rfl, gB hg_8_6⟩ rfl ?_
      first | refine AK.val _ (.iN sl41 rfl rfl (hr := (by first | exact rdp | exact .own 3 rfl | exact rd_al2 2 hF rfl (by rw [alT_len]; exact hrs) (by rw [alT_len]; omega) hal hall | exact .arg (hNi _ (by omega))))) ⟨_, rfl, gB hg_8_6⟩ rfl ?_ | refine AK.val _ (.iK sl41 rfl rfl (hr := (by first | exact rdp | exact .own 3 rfl | exact rd_al2 2 hF rfl (by rw [alT_len]; exact hrs) (by rw [alT_len]; omega) hal hall | exact .arg (hNi _ (by omega))))) ⟨_, rfl, gB hg_8_6⟩ rfl ?_
      refine AK.val _ (Yl.loadB on4 rfl (by first | exact rdp | exact .own 3 rfl | exact rd_al2 2 hF rfl (by rw [alT_len]; exact hrs) (by rw [alT_len]; omega) hal hall | exact .arg (hNi _ (by omega))) (by rw [hall]; omega)) ⟨_, rfl, gB hg_8_6⟩ rfl ?_
      refine .v (.pickF rfl (hg_8_6) rfl) ?_
      first | refine .v (.iN sl41 rfl rfl (hr := (by first | exact rdp | exact .own 3 rfl | exact rd_al2 2 hF rfl (by rw [alT_len]; exact hrs) (by rw [alT_len]; omega) hal hall | exact .arg (hNi _ (by omega))))) ?_ | refine .v (.iK sl41 rfl rfl (hr := (by first | exact rdp | exact .own 3 rfl | exact rd_al2 2 hF rfl (by rw [alT_len]; exact hrs) (by rw [alT_len]; omega) hal hall | exact .arg (hNi _ (by omega))))) ?_
      refine AK.store1e 3 rfl sz4 rfl rfl rfl rfl (by omega) (cs' := ((orRow ((preB d (aliveR d m)).take k) d.fin.length k (((d.nx.getD k []).take (j + 1)).any (fun q => (aliveR d m).getD q.toNat false))).map Value.bool)) (by rw [orRow_set _ hA, hsn (by omega), ← hget]; rw [hg_8_6]; rfl) trivial ?_
      refine .nil (.block_normal ?_)
      refine AK.then_ (hK14 _ ?_)
      refine AK.region ?_
      refine .v (.add rfl rfl (by omega)) ?_
      refine .mv rfl (.nil ?_)
      refine AK.then_ (hK11 _ _ (j + 1) (by omega) (by omega) (slr) (fun w hw => hw))
    ·refine .exit (.then_exit (.then_exit (.block_exit (.block_normal ?_))))
     refine AK.then_ (hK8 _ ?_)
     refine AK.region ?_
     refine .v (.add rfl rfl (by omega)) ?_
     refine .mv rfl (.nil ?_)
     refine AK.then_ (hK5 _ _ (k + 1) (by omega) (by omega) (slr) (fun w hw => by have e : (orRow ((preB d (aliveR d m)).take k) d.fin.length k (((d.nx.getD k []).take j).any (fun q => (aliveR d m).getD q.toNat false))) = ((preB d (aliveR d m)).take (k + 1) ++ List.replicate (d.fin.length - (k + 1)) false) := (by rw [preB_take (by omega), orRow_end, show j = (d.nx.getD k []).length by omega, List.take_length]); rw [e] at hw; exact hw))
  ·refine AK.shape 3 rfl (fun hsr => ?_)
   refine .exit (.then_exit (.then_exit (.block_exit ?_)))
   refine AK.then_ (hK3 _ ?_)
   refine AK.region ?_
   refine .mv rfl (.mv rfl (.v (.nilCheck rfl) (.v (.fieldAddr fd104_2 rfl) (.v (.loadBox on102 rfl bsp rfl) (.mv rfl ?_)))))
   refine AK.append1 1 rfl sl102 el41 rfl (by decide) rfl (by intro k hk; cases hk; rfl) (by rw [hsr.cells]; rfl) (by rw [hsr.cells]; exact one'_cons hsr.one one'_nil) (by omega) (by omega) (by decide) rfl rfl (fun va _ hsa => ?_)
   refine .v (.nilCheck rfl) (.v (.fieldAddr fd104_2 rfl) ?_)
   refine AK.storeBox 0 (us := [va]) (cs' := [.int .i64 d.L, .int .i64 d.s, vF, vN, .int .i64 wn, va, vPre, vWo]) rfl sz102 rfl rfl (by rw [IsSl.cells (by assumption)]) rfl oneP (leb rfl) rfl trivial ?_
   refine .nil ?_
   refine AK.own' [box b 104 8 [.int .i64 d.L, .int .i64 d.s, vF, vN, .int .i64 wn, va, vPre, vWo], row va 41 1 (m + 2) (vF :: (rs ++ [rv])), bigA (matG Value.bool 4 (rs ++ [rv]) (alT d (m + 1)))] (fun w hw => by
     have e1 : ((preB d (aliveR d m)).take k ++ List.replicate (d.fin.length - k) false) = aliveR d (m + 1) := (by rw [show k = d.nx.length by omega, hnx, Nat.sub_self, List.replicate_zero, List.append_nil]; exact List.take_of_length_le (by simp [preB, hnx]))
     have e2 : matG Value.bool 4 (rs ++ [rv]) (alT d (m + 1)) = matG Value.bool 4 rs (alT d m) ++ [row rv 4 1 (aliveR d (m + 1)).length ((aliveR d (m + 1)).map Value.bool)] := (by rw [alT_succ, matG_snoc (by rw [alT_len]; exact hrs)])
     have e3 : rv.cells.toList = [rv] := (by rw [hsr.cells])
     rw [e1, e3] at hw
     rw [e2, aliveR_len hnx (m + 1)]
     exact HW.absorb (own := [_, _, _]) 2 rfl hw) ?_
   refine AK.endG [] rfl (.nil) (fun w hw => ⟨_, _, _, ?_, rfl, Ret.ofBig0 (hw.pick [0, 1, 2] (by decide) rfl rfl)⟩)
   exact ⟨va, rv, hsa, rfl, rfl, rfl⟩

end Go.Proofs.YtdnhiinakhmhgaaGreatDoor

namespace Go.Proofs.YtdnhiinakhmhgaaGreatDoor
open Go.Sx Go.RowKit
noncomputable def InfV (d : Dfa) : Bool := @decide (VD d ∧ Cyc d) (Classical.propDecidable _)
theorem infV_iff {d : Dfa} : InfV d = true ↔ VD d ∧ Cyc d := by unfold InfV; exact @decide_eq_true_iff _ (Classical.propDecidable _)
theorem infV_no {d : Dfa} (h : ¬ VD d) : InfV d = false := by
  rw [Bool.eq_false_iff]; exact fun k => h (infV_iff.1 k).1
theorem infV_yes {d : Dfa} (hv : VD d) {k : Nat} (hk : d.fin.length ≤ k) (h : (aliveR d k).getD d.s.toNat false = true) : InfV d = true :=
  infV_iff.2 ⟨hv, cyc_of hv hk ((alive_iff hv k d.s hv.s).1 h)⟩
theorem infV_none {d : Dfa} (hv : VD d) (h : ∀ j, d.fin.length ≤ j → j < 2 * d.fin.length → (aliveR d j).getD d.s.toNat false = false) : InfV d = false := by
  rw [Bool.eq_false_iff]
  intro hc
  obtain ⟨k, h1, h2, h3⟩ := mid_of hv (infV_iff.1 hc).2
  rw [← alive_iff hv k d.s hv.s, h k h1 h2] at h3; cases h3
set_option maxHeartbeats 1000000 in
theorem s_infinite (w : World) (v : Value) (d : Dfa) (h : RdD (fun _ => False) w v d) : CallS Tryz.prog 27 [v] w (fun r o => r = .bool (InfV d) ∧ o = []) := by
 have h0 := h
 obtain ⟨vF, vN, rfl, hF, hN⟩ := h
 have hF0 := hF
 have hN0 := hN
 obtain ⟨rs, hrl, hNr, hNi⟩ := hN
 have sF := hF.sl
 have sN := hNr.sl
 have hmf := hF.le
 have hmn := hNr.le
 unfold RdL at hF
 refine spec_of Tryz.func27 rfl (leb rfl) ?_
 refine .sr fun _ hK1 => ?_
 refine AK.box_ (E := 43) (cs := [.int .i64 d.L, .int .i64 d.s, vF, vN]) rfl rfl rfl trivial rfl (fun bx1 => ?_)
 refine .as rfl (.nt hK1 ?_)
 refine .seq fun _ hK2 => ?_
 refine .sr fun _ hK3 => ?_
 refine .v (.loadBoxG ag43 rfl bsp rfl rfl) ?_
 refine AK.call co22 rfl (fun w hw => s_validate w _ d (h0.at hw)) trivial rfl ?_
 rintro r o ⟨rfl, rfl⟩
 refine .v (.neq rfl rfl) (.nt hK3 ?_)
 refine AK.condNe rfl (fun hc0 => ?_) (fun hc0 => ?_)
 ·have hnv : ¬ VD d := fun h => hc0 ((errV_iff d).2 h)
  refine .sr fun _ hK4 => ?_
  refine .as rfl (.nt hK4 (.ret (.then_ret ?_)))
  refine AK.ret1 rfl rfl (fun w hw => ⟨_, _, ?_, rfl, Ret.of (hw.pick [] (by decide) rfl rfl)⟩)
  rw [infV_no hnv]; exact ⟨rfl, rfl⟩
 ·have hv : VD d := (errV_iff d).1 hc0
  have hnx := hv.nx
  have hn5 := hv.n
  have hvs := hv.s
  refine .skip ?_
  refine AK.then_ (hK2 _ ?_)
  refine .sr fun _ hK5 => ?_
  refine .v (.fieldAddr fd43_2 rfl) (.v (.loadBox on41 rfl bsp rfl) ?_)
  refine .v (.lenR sl41 rfl (by first | exact rdp | exact rd_al2 3 hF rfl (by rw [alT_len]; exact hg0.2.1) (by rw [alT_len]; omega) hal hall)) ?_
  refine .as rfl (.nt hK5 ?_)
  refine .sr fun _ hK6 => ?_
  refine .v (.loadBoxG ag43 rfl bsp rfl rfl) (.v (.fieldAddr fd43_2 rfl) (.v (.loadBox on41 rfl bsp rfl) ?_))
  refine AK.lit (xs := [.tmp 14]) sl102 el41 rfl rfl rfl (by intro a ha; simp at ha; subst ha; rw [sF.cells]; rfl) (by decide) (by decide) trivial rfl (fun lv => ?_)
  refine AK.shape 1 rfl (fun slv => ?_)
  refine .v (.build (parts := [(0, .tmp 12), (2, .tmp 15)]) (cs := #[.int .i64 d.L, .int .i64 d.s, vF, vN, .int .i64 0, lv, .slice none 0 0, .slice none 0 0]) rfl (by obtain ⟨_, _, _, rfl⟩ := slv; obtain ⟨_, _, _, rfl⟩ := sF; obtain ⟨_, _, _, rfl⟩ := sN; kernel_rfl)) ?_
  refine AK.alloc el104 rfl rfl trivial rfl (fun bx4 => ?_)
  refine AK.storeBox 2 (us := [.int .i64 d.L, .int .i64 d.s, vF, vN, .int .i64 0, lv, .slice none 0 0, .slice none 0 0]) (cs' := [.int .i64 d.L, .int .i64 d.s, vF, vN, .int .i64 0, lv, .slice none 0 0, .slice none 0 0]) rfl sz104 rfl rfl rfl rfl oneP (leb rfl) rfl trivial ?_
  refine .nt hK6 ?_
  refine .seq fun _ hK7 => ?_
  refine .sr fun _ hK8 => ?_
  refine .mv rfl ?_
  refine .v (.mul rfl rfl (by omega)) ?_
  refine .mv rfl (.nt hK8 (.block ?_))
  refine AK.loopK (X := Nat × Value × List Value) [(1, _), (3, _), (4, _), (18, _)] (fun x => [(19, .int .i64 (x.1 : Int))]) (fun x => [box bx1 43 4 [.int .i64 d.L, .int .i64 d.s, vF, vN], box bx4 104 8 [.int .i64 d.L, .int .i64 d.s, vF, vN, .int .i64 0, x.2.1, .slice none 0 0, .slice none 0 0], row x.2.1 41 1 (x.1 + 1) (vF :: x.2.2), bigA (matG Value.bool 4 x.2.2 (alT d x.1))]) (fun x => x.1 ≤ 2 * d.fin.length ∧ x.2.2.length = x.1 ∧ IsSl x.2.1 ∧ ∀ j, d.fin.length ≤ j → j < x.1 → (aliveR d j).getD d.s.toNat false = false) (fun x => 2 * d.fin.length - x.1) ((0, lv, [])) slr ?_ ?_ ?_ ?_
  ·exact ⟨Nat.zero_le _, rfl, slv, fun j h1 h2 => by simp at h2⟩
  ·exact slr
  ·exact fun w hw => by have h1 := hw.ghostG (f := Value.bool) 4; rw [show [vF].flatMap (·.cells.toList) = [vF] by simp [sF.cells]] at h1; exact h1.pick [0, 2, 1, 3] (by decide) rfl rfl
  ·intro x hg0 _ hK9
   refine .sr fun _ hK10 => ?_
   refine .v (.lss rfl rfl) (.nt hK10 ?_)
   refine .seq fun _ hK11 => ?_
   refine AK.condD rfl (fun hc1 => ?_) (fun hc1 => ?_)
   ·have hal : ((d.fin :: alT d x.1).getD x.1 []) = aliveR d x.1 := alR_at d (Nat.le_refl x.1)
    have hall := aliveR_len hnx x.1
    have hvl : (vF :: x.2.2).length = x.1 + 1 := by rw [List.length_cons, hg0.2.1]
    refine .skip ?_
    refine AK.then_ (hK11 _ ?_)
    refine .seq fun _ hK12 => ?_
    refine .block ?_
    refine .sr fun _ hK13 => ?_
    refine .mv rfl (.as rfl (.nt hK13 ?_))
    refine .seq fun _ hK14 => ?_
    refine .seq fun _ hK15 => ?_
    refine AK.quiet mixed krf ?_
    refine .mv rfl (.mv rfl (.v (.geq rfl rfl) (.mv rfl ?_)))
    refine QK.splitB (g := 25) rfl (fun hg_8_3 => ?_) (fun hg_8_3 => ?_)
    ·have hg_8_3' := hg_8_3
     try simp only [bs] at hg_8_3'
     refine QK.val _ (Yl.fieldAddr fd104_2 rfl) ⟨_, rfl, gB hg_8_3⟩ rfl ?_
     refine QK.val _ (Yl.loadBox on102 rfl bsp rfl) ⟨_, rfl, gB hg_8_3⟩ rfl ?_
     refine QK.val _ (Yl.move rfl) ⟨_, rfl, gB hg_8_3⟩ rfl ?_
     first | refine QK.val _ (.iN sl102 rfl rfl (hr := (by first | exact rdp | exact rd_al2 3 hF rfl (by rw [alT_len]; exact hg0.2.1) (by rw [alT_len]; omega) hal hall))) ⟨_, rfl, gB hg_8_3⟩ rfl ?_ | refine QK.val _ (.iK sl102 rfl rfl (hr := (by first | exact rdp | exact rd_al2 3 hF rfl (by rw [alT_len]; exact hg0.2.1) (by rw [alT_len]; omega) hal hall))) ⟨_, rfl, gB hg_8_3⟩ rfl ?_
     refine QK.val _ (Yl.loadV on41 rfl (by first | exact rdp | exact rd_al2 3 hF rfl (by rw [alT_len]; exact hg0.2.1) (by rw [alT_len]; omega) hal hall) (by omega)) ⟨_, rfl, gB hg_8_3⟩ rfl ?_
     refine QK.val _ (Yl.fieldAddr fd43_1 rfl) ⟨_, rfl, gB hg_8_3⟩ rfl ?_
     refine QK.val _ (Yl.loadBox on3 rfl bsp rfl) ⟨_, rfl, gB hg_8_3⟩ rfl ?_
     first | refine QK.val _ (.iN sl41 rfl rfl (hr := (by first | exact rdp | exact rd_al2 3 hF rfl (by rw [alT_len]; exact hg0.2.1) (by rw [alT_len]; omega) hal hall))) ⟨_, rfl, gB hg_8_3⟩ rfl ?_ | refine QK.val _ (.iK sl41 rfl rfl (hr := (by first | exact rdp | exact rd_al2 3 hF rfl (by rw [alT_len]; exact hg0.2.1) (by rw [alT_len]; omega) hal hall))) ⟨_, rfl, gB hg_8_3⟩ rfl ?_
     refine QK.val _ (Yl.loadB on4 rfl (by first | exact rdp | exact rd_al2 3 hF rfl (by rw [alT_len]; exact hg0.2.1) (by rw [alT_len]; omega) hal hall) (by omega)) ⟨_, rfl, gB hg_8_3⟩ rfl ?_
     refine .v (.pickT rfl (hg_8_3) rfl) ?_
     refine QK.nil (QK.fin ?_)
     refine AK.then_ (hK15 _ ?_)
     refine AK.cond rfl (fun hc2 => ?_) (fun hc2 => ?_)
     ·try simp only [bs] at hc2
      refine .sr fun _ hK16 => ?_
      refine .as rfl (.nt hK16 (.ret (.then_ret (.block_ret (.then_ret (.then_ret (.block_ret (.then_ret ?_))))))))
      refine AK.ret1 rfl rfl (fun w hw => ⟨_, _, ?_, rfl, Ret.of (hw.pick [] (by decide) rfl rfl)⟩)
      rw [infV_yes hv (k := x.1) (by omega) hc2]; exact ⟨rfl, rfl⟩
     ·try simp only [bs] at hc2
      refine .skip ?_
      refine AK.then_ (hK14 _ ?_)
      refine AK.region ?_
      refine AK.own' [bigA [box bx4 104 8 [.int .i64 d.L, .int .i64 d.s, vF, vN, .int .i64 0, x.2.1, .slice none 0 0, .slice none 0 0], row x.2.1 41 1 (x.1 + 1) (vF :: x.2.2), bigA (matG Value.bool 4 x.2.2 (alT d x.1))], box bx1 43 4 [.int .i64 d.L, .int .i64 d.s, vF, vN]] (fun w hw => HW.unflat (l := [_, _, _]) (own := [_]) (hw.pick [1, 2, 3, 0] (by decide) rfl rfl)) ?_
      refine AK.callN 0 rfl co55 rfl (fun w Fs hw hh hfr hal => s_extend w (Fs 0) bx4 x.1 d vF vN x.2.1 (.slice none 0 0) (.slice none 0 0) 0 x.2.2 hv (by omega) hg0.2.1 (hF0.off hfr hal) (hN0.off hfr hal) (hh.at_ 0 _ rfl)) trivial rfl ?_
      rintro r A o ⟨va, rv, sa, rfl, rfl, rfl⟩
      refine AK.flat0 rfl ?_
      refine .nil (.block_normal ?_)
      refine AK.then_ (hK12 _ ?_)
      refine AK.region ?_
      refine .v (.add rfl rfl (by omega)) ?_
      refine .mv rfl (.nil ?_)
      refine AK.then_ (hK9 _ _ ((x.1 + 1, va, x.2.2 ++ [rv])) ⟨by dsimp only; omega, by simp [hg0.2.1], sa, fun j h1 h2 => by rcases Nat.lt_or_eq_of_le (Nat.le_of_lt_succ h2) with h | rfl; exact hg0.2.2.2 j h1 h; first | omega | (simpa using hc2)⟩ (by dsimp only; omega) (slr) (fun w hw => hw.pick [3, 0, 1, 2] (by decide) rfl rfl))
    ·have hg_8_3' := hg_8_3
     try simp only [bs] at hg_8_3'
     refine QK.pass rfl rfl (hg_8_3) rfl ?_
     refine QK.pass rfl rfl (hg_8_3) rfl ?_
     refine QK.pass rfl rfl (hg_8_3) rfl ?_
     refine QK.pass rfl rfl (hg_8_3) rfl ?_
     refine QK.pass rfl rfl (hg_8_3) rfl ?_
     refine QK.pass rfl rfl (hg_8_3) rfl ?_
     refine QK.pass rfl rfl (hg_8_3) rfl ?_
     refine QK.pass rfl rfl (hg_8_3) rfl ?_
     refine QK.pass rfl rfl (hg_8_3) rfl ?_
     refine .v (.pickF rfl (hg_8_3) rfl) ?_
     refine QK.nil (QK.fin ?_)
     refine AK.then_ (hK15 _ ?_)
     refine AK.cond_f rfl (rfl) ?_
     refine .skip ?_
     refine AK.then_ (hK14 _ ?_)
     refine AK.region ?_
     refine AK.own' [bigA [box bx4 104 8 [.int .i64 d.L, .int .i64 d.s, vF, vN, .int .i64 0, x.2.1, .slice none 0 0, .slice none 0 0], row x.2.1 41 1 (x.1 + 1) (vF :: x.2.2), bigA (matG Value.bool 4 x.2.2 (alT d x.1))], box bx1 43 4 [.int .i64 d.L, .int .i64 d.s, vF, vN]] (fun w hw => HW.unflat (l := [_, _, _]) (own := [_]) (hw.pick [1, 2, 3, 0] (by decide) rfl rfl)) ?_
     refine AK.callN 0 rfl co55 rfl (fun w Fs hw hh hfr hal => s_extend w (Fs 0) bx4 x.1 d vF vN x.2.1 (.slice none 0 0) (.slice none 0 0) 0 x.2.2 hv (by omega) hg0.2.1 (hF0.off hfr hal) (hN0.off hfr hal) (hh.at_ 0 _ rfl)) trivial rfl ?_
     rintro r A o ⟨va, rv, sa, rfl, rfl, rfl⟩
     refine AK.flat0 rfl ?_
     refine .nil (.block_normal ?_)
     refine AK.then_ (hK12 _ ?_)
     refine AK.region ?_
     refine .v (.add rfl rfl (by omega)) ?_
     refine .mv rfl (.nil ?_)
     refine AK.then_ (hK9 _ _ ((x.1 + 1, va, x.2.2 ++ [rv])) ⟨by dsimp only; omega, by simp [hg0.2.1], sa, fun j h1 h2 => by rcases Nat.lt_or_eq_of_le (Nat.le_of_lt_succ h2) with h | rfl; exact hg0.2.2.2 j h1 h; first | omega | (simpa using hc2)⟩ (by dsimp only; omega) (slr) (fun w hw => hw.pick [3, 0, 1, 2] (by decide) rfl rfl))
   ·refine .exit (.then_exit (.then_exit (.block_exit ?_)))
    refine AK.then_ (hK7 _ ?_)
    refine .sr fun _ hK17 => ?_
    refine .as rfl (.nt hK17 (.ret ?_))
    refine AK.ret1 rfl rfl (fun w hw => ⟨_, _, ?_, rfl, Ret.of (hw.pick [] (by decide) rfl rfl)⟩)
    rw [infV_none hv (fun j h1 h2 => hg0.2.2.2 j h1 (by omega))]; exact ⟨rfl, rfl⟩

end Go.Proofs.YtdnhiinakhmhgaaGreatDoor

namespace Go.Proofs.YtdnhiinakhmhgaaGreatDoor
open Go.Sx Go.RowKit
set_option maxHeartbeats 400000 in
theorem s_count (w : World) (v : Value) (d : Dfa) (h : RdD (fun _ => False) w v d) (n : Int) : CallS Tryz.prog 26 [v, .int .i64 n] w (fun r o => r = .int .i64 (CountV d n) ∧ o = []) := by
 have h0 := h
 obtain ⟨vF, vN, rfl, hF, hN⟩ := h
 have hF0 := hF
 have hN0 := hN
 obtain ⟨rs, hrl, hNr, hNi⟩ := hN
 have sF := hF.sl
 have sN := hNr.sl
 have hmf := hF.le
 have hmn := hNr.le
 unfold RdL at hF
 refine spec_of Tryz.func26 rfl (leb rfl) ?_
 refine .sr fun _ hK1 => ?_
 refine AK.box_ (E := 43) (cs := [.int .i64 d.L, .int .i64 d.s, vF, vN]) rfl rfl rfl trivial rfl (fun bx2 => ?_)
 refine .as rfl (.nt hK1 ?_)
 refine .seq fun _ hK2 => ?_
 refine .sr fun _ hK3 => ?_
 refine .v (.loadBoxG ag43 rfl bsp rfl rfl) ?_
 refine AK.call co22 rfl (fun w hw => s_validate w _ d (h0.at hw)) trivial rfl ?_
 rintro r o ⟨rfl, rfl⟩
 refine .v (.neq rfl rfl) (.mv rfl ?_)
 refine AK.splitB (g := 17) rfl (fun hg_1_3 => ?_) (fun hg_1_3 => ?_)
 ·have hg_1_3' := hg_1_3
  try simp only [bs] at hg_1_3'
  refine AK.pass rfl rfl (hg_1_3) rfl ?_
  refine AK.pass rfl rfl (hg_1_3) rfl ?_
  refine .v (.pickT rfl (hg_1_3) rfl) (.mv rfl ?_)
  refine AK.pass rfl rfl rfl rfl ?_
  refine AK.pass rfl rfl rfl rfl ?_
  refine .v (.pickT rfl (rfl) rfl) (.nt hK3 ?_)
  refine AK.cond_t rfl (rfl) ?_
  refine .sr fun _ hK4 => ?_
  refine .as rfl (.nt hK4 (.ret (.then_ret ?_)))
  refine AK.ret1 rfl rfl (fun w hw => ⟨_, _, ?_, rfl, Ret.of (hw.pick [] (by decide) rfl rfl)⟩)
  refine ⟨congrArg (Value.int .i64) ?_, rfl⟩
  unfold CountV; rw [if_neg]
  rintro ⟨h1, h2⟩
  first | omega | exact absurd h1 (by assumption)
 ·have hg_1_3' := hg_1_3
  try simp only [bs] at hg_1_3'
  refine AK.val _ (Yl.move rfl) ⟨_, rfl, gB hg_1_3⟩ rfl ?_
  refine AK.val _ (Yl.lss rfl rfl) ⟨_, rfl, gB hg_1_3⟩ rfl ?_
  refine .v (.pickF rfl (hg_1_3) rfl) (.mv rfl ?_)
  refine AK.splitB (g := 21) rfl (fun hg_1_7 => ?_) (fun hg_1_7 => ?_)
  ·have hg_1_7' := hg_1_7
   try simp only [bs] at hg_1_7'
   refine AK.pass rfl rfl (hg_1_7) rfl ?_
   refine AK.pass rfl rfl (hg_1_7) rfl ?_
   refine .v (.pickT rfl (hg_1_7) rfl) (.nt hK3 ?_)
   refine AK.cond_t rfl (rfl) ?_
   refine .sr fun _ hK5 => ?_
   refine .as rfl (.nt hK5 (.ret (.then_ret ?_)))
   refine AK.ret1 rfl rfl (fun w hw => ⟨_, _, ?_, rfl, Ret.of (hw.pick [] (by decide) rfl rfl)⟩)
   refine ⟨congrArg (Value.int .i64) ?_, rfl⟩
   unfold CountV; rw [if_neg]
   rintro ⟨h1, h2⟩
   first | omega | exact absurd h1 (by assumption)
  ·have hg_1_7' := hg_1_7
   try simp only [bs] at hg_1_7'
   refine AK.val _ (Yl.move rfl) ⟨_, rfl, gB hg_1_7⟩ rfl ?_
   refine AK.val _ (Yl.gtr rfl rfl) ⟨_, rfl, gB hg_1_7⟩ rfl ?_
   refine .v (.pickF rfl (hg_1_7) rfl) (.nt hK3 ?_)
   refine AK.condD rfl (fun hc0 => ?_) (fun hc0 => ?_)
   ·refine .sr fun _ hK6 => ?_
    refine .as rfl (.nt hK6 (.ret (.then_ret ?_)))
    refine AK.ret1 rfl rfl (fun w hw => ⟨_, _, ?_, rfl, Ret.of (hw.pick [] (by decide) rfl rfl)⟩)
    refine ⟨congrArg (Value.int .i64) ?_, rfl⟩
    unfold CountV; rw [if_neg]
    rintro ⟨h1, h2⟩
    first | omega | exact absurd h1 (by assumption)
   ·have hv : VD d := (errV_iff d).1 hg_1_3'
    obtain ⟨nn, rfl⟩ := Int.eq_ofNat_of_zero_le (by omega : 0 ≤ n)
    have hn5 := hv.n
    have hnx := hv.nx
    have hvs := hv.s
    have hvt := hv.to
    refine .skip ?_
    refine AK.then_ (hK2 _ ?_)
    refine .sr fun _ hK7 => ?_
    refine .v (.fieldAddr fd43_2 rfl) (.v (.loadBox on41 rfl bsp rfl) ?_)
    refine .v (.lenR sl41 rfl (by first | exact rdp | exact .arg (hNi _ (by omega)))) ?_
    refine AK.make1 (n := d.fin.length) sl26 el3 rfl rfl rfl (by omega) (by omega) trivial rfl (fun mv0 => ?_)
    refine .as rfl (.nt hK7 ?_)
    refine .sr fun _ hK8 => ?_
    refine .mv rfl (.v (.fieldAddr fd43_1 rfl) (.v (.loadBox on3 rfl bsp rfl) ?_))
    first | refine .v (.iN sl26 rfl rfl (hr := (by first | exact rdp | exact .arg (hNi _ (by omega))))) ?_ | refine .v (.iK sl26 rfl rfl (hr := (by first | exact rdp | exact .arg (hNi _ (by omega))))) ?_
    refine AK.store1e 1 rfl sz3 rfl rfl rfl rfl (by omega) (cs' := ((cntI d 0).map (Value.int .i64))) (by show (List.replicate d.fin.length (Value.int .i64 0)).set d.s.toNat (.int .i64 1) = _; simp [cntI, List.map_set]) trivial ?_
    refine .nt hK8 ?_
    refine .seq fun _ hK9 => ?_
    refine .sr fun _ hK10 => ?_
    refine .mv rfl (.mv rfl (.nt hK10 (.block ?_)))
    refine AK.loopK (X := Nat × Value) [(2, _), (33, _)] (fun x => [(5, x.2), (34, .int .i64 (x.1 : Int))]) (fun x => [box bx2 43 4 [.int .i64 d.L, .int .i64 d.s, vF, vN], row x.2 3 1 d.fin.length ((cntI d x.1).map (Value.int .i64))]) (fun x => x.1 ≤ nn) (fun x => nn - x.1) ((0, mv0)) slr ?_ ?_ ?_ ?_
    ·exact Nat.zero_le _
    ·exact slr
    ·exact fun w hw => hw
    ·intro x hg0 _ hK11
     have r0 := cntI_red (d := d) x.1
     have r0l := r0.1
     refine .sr fun _ hK12 => ?_
     refine .v (.lss rfl rfl) (.nt hK12 ?_)
     refine .seq fun _ hK13 => ?_
     refine AK.condD rfl (fun hc1 => ?_) (fun hc1 => ?_)
     ·refine .skip ?_
      refine AK.then_ (hK13 _ ?_)
      refine .seq fun _ hK14 => ?_
      refine .block ?_
      refine .sr fun _ hK15 => ?_
      refine .mv rfl ?_
      refine .v (.lenR sl26 rfl (by first | exact rdp | exact .arg (hNi _ (by omega)))) ?_
      refine AK.make1 (n := d.fin.length) sl26 el3 rfl rfl rfl (by omega) (by omega) trivial rfl (fun mv1 => ?_)
      refine .as rfl (.nt hK15 ?_)
      refine .seq fun _ hK16 => ?_
      refine .sr fun _ hK17 => ?_
      refine .v (.fieldAddr fd43_3 rfl) (.v (.loadBox on22 rfl bsp rfl) ?_)
      refine .v (.lenR sl22 rfl (by first | exact rdp | exact .arg (hNi _ (by omega)))) ?_
      refine .mv rfl (.nt hK17 (.block ?_))
      refine AK.loopK (X := Nat) [(2, _), (5, _), (6, _), (33, _), (34, _), (40, _), (41, _)] (fun k => [(42, .int .i64 (k : Int))]) (fun k => [box bx2 43 4 [.int .i64 d.L, .int .i64 d.s, vF, vN], row x.2 3 1 d.fin.length ((cntI d x.1).map (Value.int .i64)), row mv1 3 1 d.fin.length ((cstepK d (cntI d x.1) k).map (Value.int .i64))]) (fun k => k ≤ d.nx.length) (fun k => d.nx.length - k) (0) slr ?_ ?_ ?_ ?_
      ·exact Nat.zero_le _
      ·exact slr
      ·exact fun w hw => by simpa [cstepK] using hw
      ·intro k hg1 _ hK18
       have r0b := r0.2 k
       unfold MM at r0b
       refine .sr fun _ hK19 => ?_
       refine .v (.lss rfl rfl) (.nt hK19 ?_)
       refine .seq fun _ hK20 => ?_
       refine AK.condD rfl (fun hc2 => ?_) (fun hc2 => ?_)
       ·refine .skip ?_
        refine AK.then_ (hK20 _ ?_)
        refine .seq fun _ hK21 => ?_
        refine .block ?_
        refine .sr fun _ hK22 => ?_
        refine .mv rfl ?_
        first | refine .v (.iN sl22 rfl rfl (hr := (by first | exact rdp | exact .arg (hNi _ (by omega))))) ?_ | refine .v (.iK sl22 rfl rfl (hr := (by first | exact rdp | exact .arg (hNi _ (by omega))))) ?_
        refine .v (.loadV on26 rfl (by first | exact rdp | exact .arg (hNi _ (by omega))) (by omega)) ?_
        refine .as rfl (.as rfl (.nt hK22 ?_))
        refine .sr fun _ hK23 => ?_
        refine .mv rfl ?_
        refine .v (.lenR sl26 rfl (by first | exact rdp | exact .arg (hNi _ (by omega)))) ?_
        refine .mv rfl (.nt hK23 (.block ?_))
        refine AK.loopK (X := Nat) [(2, _), (5, _), (6, _), (7, _), (33, _), (34, _), (40, _), (41, _), (42, _), (47, _), (48, _)] (fun j => [(49, .int .i64 (j : Int))]) (fun j => [box bx2 43 4 [.int .i64 d.L, .int .i64 d.s, vF, vN], row x.2 3 1 d.fin.length ((cntI d x.1).map (Value.int .i64)), row mv1 3 1 d.fin.length ((addC (cntI d x.1) k (d.nx.getD k []) (cstepK d (cntI d x.1) k) j).map (Value.int .i64))]) (fun j => j ≤ (d.nx.getD k []).length) (fun j => (d.nx.getD k []).length - j) (0) slr ?_ ?_ ?_ ?_
        ·exact Nat.zero_le _
        ·exact slr
        ·exact fun w hw => hw
        ·intro j hg2 _ hK24
         refine .sr fun _ hK25 => ?_
         refine .v (.lss rfl rfl) (.nt hK25 ?_)
         refine .seq fun _ hK26 => ?_
         refine AK.condD rfl (fun hc3 => ?_) (fun hc3 => ?_)
         ·have hrk := hv.row k (by omega)
          have hvL := hv.L
          have ht := hvt k j (by omega) (by omega)
          have r1 := (addC_red (cnt := cntI d x.1) (p := k) (row := d.nx.getD k []) (cstepK_red (d := d) (cnt := cntI d x.1) k) j)
          have r1l := r1.1
          have r1b := r1.2 ((d.nx.getD k []).getD j 0).toNat
          unfold MM at r1b
          refine .skip ?_
          refine AK.then_ (hK26 _ ?_)
          refine .seq fun _ hK27 => ?_
          refine .block ?_
          refine .sr fun _ hK28 => ?_
          first | refine .v (.iN sl26 rfl rfl (hr := (by first | exact rdp | exact .arg (hNi _ (by omega))))) ?_ | refine .v (.iK sl26 rfl rfl (hr := (by first | exact rdp | exact .arg (hNi _ (by omega))))) ?_
          refine .v (.loadI on3 rfl (by first | exact rdp | exact .arg (hNi _ (by omega))) (by omega)) ?_
          refine .as rfl (.nt hK28 ?_)
          try (conv => enter [2, 2]; simp only [nrm])
          refine AK.held 13 mixed ?_
          refine HeldK.first 0 (fuel := 13) (listed' := (lb 14 1)) _ rfl krf krf rfl (Yl.move rfl) trivial rfl ?_
          refine HeldK.first 1 (fuel := 12) (listed' := (lb 14 3)) _ rfl krf krf rfl (Yl.move rfl) trivial rfl ?_
          refine HeldK.first 2 (fuel := 11) (listed' := (lb 14 7)) _ rfl krf krf rfl (Yl.move rfl) trivial rfl ?_
          refine HeldK.first 3 (fuel := 10) (listed' := (lb 14 15)) _ rfl krf krf rfl (Yl.move rfl) trivial rfl ?_
          first | refine HeldK.first 4 (fuel := 9) (listed' := (lb 14 31)) _ rfl krf krf rfl (.iN sl26 rfl rfl (hr := (by first | exact rdp | exact .arg (hNi _ (by omega))))) trivial rfl ?_ | refine HeldK.first 4 (fuel := 9) (listed' := (lb 14 31)) _ rfl krf krf rfl (.iK sl26 rfl rfl (hr := (by first | exact rdp | exact .arg (hNi _ (by omega))))) trivial rfl ?_
          refine HeldK.first 5 (fuel := 8) (listed' := (lb 14 63)) _ rfl krf krf rfl (Yl.loadI on3 rfl (by first | exact rdp | exact .arg (hNi _ (by omega))) (by omega)) trivial rfl ?_
          refine HeldK.first 6 (fuel := 7) (listed' := (lb 14 127)) _ rfl krf krf rfl (Yl.move rfl) trivial rfl ?_
          refine HeldK.first 7 (fuel := 6) (listed' := (lb 14 255)) _ rfl krf krf rfl (Yl.move rfl) trivial rfl ?_
          first | refine HeldK.first 8 (fuel := 5) (listed' := (lb 14 511)) _ rfl krf krf rfl (.iN sl26 rfl rfl (hr := (by first | exact rdp | exact .arg (hNi _ (by omega))))) trivial rfl ?_ | refine HeldK.first 8 (fuel := 5) (listed' := (lb 14 511)) _ rfl krf krf rfl (.iK sl26 rfl rfl (hr := (by first | exact rdp | exact .arg (hNi _ (by omega))))) trivial rfl ?_
          refine HeldK.first 9 (fuel := 4) (listed' := (lb 14 1023)) _ rfl krf krf rfl (Yl.loadI on3 rfl (by first | exact rdp | exact .arg (hNi _ (by omega))) (by omega)) trivial rfl ?_
          refine HeldK.first 10 (fuel := 3) (listed' := (lb 14 2047)) _ rfl krf krf rfl (Yl.add rfl rfl (by omega)) trivial rfl ?_
          refine HeldK.first 11 (fuel := 2) (listed' := (lb 14 4095)) _ rfl krf krf rfl (Yl.rem rfl rfl (by omega) (by decide)) trivial rfl ?_
          first | refine HeldK.first 12 (fuel := 1) (listed' := (lb 14 8191)) _ rfl krf krf rfl (.iN sl26 rfl rfl (hr := (by first | exact rdp | exact .arg (hNi _ (by omega))))) trivial rfl ?_ | refine HeldK.first 12 (fuel := 1) (listed' := (lb 14 8191)) _ rfl krf krf rfl (.iK sl26 rfl rfl (hr := (by first | exact rdp | exact .arg (hNi _ (by omega))))) trivial rfl ?_
          refine HeldK.one 13 (fuel := 0) (listed' := (lb 14 16383)) krf rfl krf ?_
          refine AK.store1e 2 rfl sz3 rfl rfl rfl rfl (by omega) (cs' := ((addC (cntI d x.1) k (d.nx.getD k []) (cstepK d (cntI d x.1) k) (j + 1)).map (Value.int .i64))) (by rw [addC_succ, List.map_set]; rfl) trivial ?_
          refine .nil ?_
          try (conv => enter [2, 2]; simp only [nrm])
          refine HeldK.backN 14 krf rfl krf ?_
          refine .nil ?_
          refine AK.fromQn ?_
          refine .block_normal ?_
          refine AK.then_ (hK27 _ ?_)
          refine AK.region ?_
          refine .v (.add rfl rfl (by omega)) ?_
          refine .mv rfl (.nil ?_)
          refine AK.then_ (hK24 _ _ (j + 1) (by omega) (by omega) (slr) (fun w hw => hw))
         ·refine .exit (.then_exit (.then_exit (.block_exit (.block_normal ?_))))
          refine AK.then_ (hK21 _ ?_)
          refine AK.region ?_
          refine .v (.add rfl rfl (by omega)) ?_
          refine .mv rfl (.nil ?_)
          refine AK.then_ (hK18 _ _ (k + 1) (by omega) (by omega) (slr) (fun w hw => by rw [cstepK_succ]; rw [show j = (d.nx.getD k []).length by omega] at hw; exact hw))
       ·refine .exit (.then_exit (.then_exit (.block_exit ?_)))
        refine AK.then_ (hK16 _ ?_)
        refine AK.region ?_
        refine .mv rfl (.as rfl (.nil (.block_normal ?_)))
        refine AK.then_ (hK14 _ ?_)
        refine AK.region ?_
        refine .v (.add rfl rfl (by omega)) ?_
        refine .mv rfl (.nil ?_)
        refine AK.then_ (hK11 _ _ ((x.1 + 1, mv1)) (by dsimp only; omega) (by dsimp only; omega) (slr) (fun w hw => by dsimp only; rw [show k = d.nx.length by omega] at hw; exact hw.pick [0, 2] (by decide) rfl rfl))
     ·refine .exit (.then_exit (.then_exit (.block_exit ?_)))
      refine AK.then_ (hK9 _ ?_)
      refine .sr fun _ hK29 => ?_
      refine .as rfl (.nt hK29 ?_)
      refine .seq fun _ hK30 => ?_
      refine .sr fun _ hK31 => ?_
      refine .v (.fieldAddr fd43_2 rfl) (.v (.loadBox on41 rfl bsp rfl) ?_)
      refine .v (.lenR sl41 rfl (by first | exact rdp | exact .arg (hNi _ (by omega)))) ?_
      refine .mv rfl (.nt hK31 (.block ?_))
      refine AK.loopK (X := Nat) [(5, _), (71, _), (72, _)] (fun q => [(11, .int .i64 (sumK d (cntI d x.1) q)), (73, .int .i64 (q : Int))]) (fun q => [box bx2 43 4 [.int .i64 d.L, .int .i64 d.s, vF, vN], row x.2 3 1 d.fin.length ((cntI d x.1).map (Value.int .i64))]) (fun q => q ≤ d.fin.length) (fun q => d.fin.length - q) (0) slr ?_ ?_ ?_ ?_
      ·exact Nat.zero_le _
      ·exact slr
      ·exact fun w hw => hw
      ·intro q hg3 _ hK32
       have r3 := cntI_red (d := d) x.1
       have r3l := r3.1
       have r3b := r3.2 q
       have sb := sumK_bd (d := d) (cnt := cntI d x.1) q
       unfold MM at r3b sb
       refine .sr fun _ hK33 => ?_
       refine .v (.lss rfl rfl) (.nt hK33 ?_)
       refine .seq fun _ hK34 => ?_
       refine AK.condD rfl (fun hc4 => ?_) (fun hc4 => ?_)
       ·refine .skip ?_
        refine AK.then_ (hK34 _ ?_)
        refine .seq fun _ hK35 => ?_
        refine .block ?_
        refine .sr fun _ hK36 => ?_
        refine .mv rfl ?_
        first | refine .v (.iN sl41 rfl rfl (hr := (by first | exact rdp | exact .arg (hNi _ (by omega))))) ?_ | refine .v (.iK sl41 rfl rfl (hr := (by first | exact rdp | exact .arg (hNi _ (by omega))))) ?_
        refine .v (.loadB on4 rfl (by first | exact rdp | exact .arg (hNi _ (by omega))) (by omega)) ?_
        refine .as rfl (.as rfl (.nt hK36 ?_))
        refine .sr fun _ hK37 => ?_
        refine .mv rfl (.nt hK37 ?_)
        refine AK.cond rfl (fun hc5 => ?_) (fun hc5 => ?_)
        ·try simp only [bs] at hc5
         refine AK.region ?_
         refine .mv rfl (.mv rfl (.mv rfl ?_))
         first | refine .v (.iN sl26 rfl rfl (hr := (by first | exact rdp | exact .arg (hNi _ (by omega))))) ?_ | refine .v (.iK sl26 rfl rfl (hr := (by first | exact rdp | exact .arg (hNi _ (by omega))))) ?_
         refine .v (.loadI on3 rfl (by first | exact rdp | exact .arg (hNi _ (by omega))) (by omega)) ?_
         refine .v (.add rfl rfl (by omega)) ?_
         refine .v (.rem rfl rfl (by omega) (by decide)) ?_
         refine .as rfl (.nil (.block_normal ?_))
         refine AK.then_ (hK35 _ ?_)
         refine AK.region ?_
         refine .v (.add rfl rfl (by omega)) ?_
         refine .mv rfl (.nil ?_)
         refine AK.then_ (hK32 _ _ (q + 1) (by omega) (by omega) (.cons (slI rfl (by rw [sumK_succ]; first | (rw [if_pos (by assumption)]; rfl) | (rw [if_neg (by simp_all)]))) (slr)) (fun w hw => hw))
        ·try simp only [bs] at hc5
         refine .skip (.block_normal ?_)
         refine AK.then_ (hK35 _ ?_)
         refine AK.region ?_
         refine .v (.add rfl rfl (by omega)) ?_
         refine .mv rfl (.nil ?_)
         refine AK.then_ (hK32 _ _ (q + 1) (by omega) (by omega) (.cons (slI rfl (by rw [sumK_succ]; first | (rw [if_pos (by assumption)]; rfl) | (rw [if_neg (by simp_all)]))) (slr)) (fun w hw => hw))
       ·refine .exit (.then_exit (.then_exit (.block_exit ?_)))
        refine AK.then_ (hK30 _ ?_)
        refine .sr fun _ hK38 => ?_
        refine .mv rfl (.as rfl (.nt hK38 (.ret ?_)))
        refine AK.ret1 rfl rfl (fun w hw => ⟨_, _, ?_, rfl, Ret.of (hw.pick [] (by decide) rfl rfl)⟩)
        refine ⟨congrArg (Value.int .i64) ?_, rfl⟩
        unfold CountV; rw [if_pos ⟨(errV_iff d).2 hv, by omega, by omega⟩, Int.toNat_natCast, show nn = x.1 by omega, show d.fin.length = q by omega]

end Go.Proofs.YtdnhiinakhmhgaaGreatDoor
