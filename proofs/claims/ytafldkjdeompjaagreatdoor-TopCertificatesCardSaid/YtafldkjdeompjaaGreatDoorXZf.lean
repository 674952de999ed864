import Derived.Test.YtafldkjdeompjaaGreatDoorXZe
import Derived.Shelf.Strings.Builder1
import Derived.Shelf.Small.Bits
import Derived.Shelf.Small.Wraps
import Derived.Shelf.Strconv.Itoa0
import Derived.Ground.Names2Prog
import Derived.Shelf.Slices.SearchI
import Derived.Test.YtafldkjdeompjaaGreatDoorProg
set_option linter.unusedVariables false
set_option linter.unusedSimpArgs false
set_option maxRecDepth 100000
namespace Go.Sx
open Go.RowKit
/-! ### the parts of a node: their memory -/
def flatS (op : Int) : List Ex → List Value → List (List Value) → List Value
  | k :: ks, s :: ss, t :: ts => (if k.op = op then t else [s]) ++ flatS op ks ss ts
  | _, _, _ => []
theorem flatE_cons (op : Int) (k : Ex) (ks : List Ex) : flatE op (k :: ks) = (if k.op = op then k.kids else [k]) ++ flatE op ks := by simp [flatE]
theorem flatE_snoc (op : Int) (k : Ex) (ks : List Ex) : flatE op (ks ++ [k]) = flatE op ks ++ (if k.op = op then k.kids else [k]) := by simp [flatE]
theorem flatE_take_le (op : Int) (ks : List Ex) (k : Nat) : (flatE op (ks.take k)).length ≤ (flatE op ks).length := by
  have : flatE op ks = flatE op (ks.take k) ++ flatE op (ks.drop k) := by rw [flatE, flatE, flatE, ← List.flatMap_append, List.take_append_drop]
  rw [this]; simp
theorem flatS_snoc (op : Int) (k : Ex) (s : Value) (t : List Value) : ∀ (ks : List Ex) (ss : List Value) (ts : List (List Value)), ss.length = ks.length → ts.length = ks.length →
    flatS op (ks ++ [k]) (ss ++ [s]) (ts ++ [t]) = flatS op ks ss ts ++ (if k.op = op then t else [s])
  | [], [], [], _, _ => by simp [flatS]
  | [], _ :: _, _, h, _ => by simp at h
  | [], [], _ :: _, _, h => by simp at h
  | _ :: _, [], _, h, _ => by simp at h
  | _ :: _, _ :: _, [], _, h => by simp at h
  | a :: ks, b :: ss, c :: ts, h, h' => by
    simp only [List.cons_append, flatS, flatS_snoc op k s t ks ss ts (by simpa using h) (by simpa using h'), List.append_assoc]
theorem flat_at (op : Int) : ∀ (ks : List Ex) (ss : List Value) (ts : List (List Value)), ss.length = ks.length → ts.length = ks.length → (∀ i, i < ks.length → (ts.getD i []).length = (ks.getD i default).kids.length) →
    (flatS op ks ss ts).length = (flatE op ks).length ∧ ∀ m, m < (flatE op ks).length → ∃ i, i < ks.length ∧ (((flatE op ks).getD m default = ks.getD i default ∧ (flatS op ks ss ts).getD m undef = ss.getD i undef) ∨
      (∃ j, j < (ks.getD i default).kids.length ∧ (flatE op ks).getD m default = (ks.getD i default).kids.getD j default ∧ (flatS op ks ss ts).getD m undef = (ts.getD i []).getD j undef))
  | [], ss, ts, _, _, _ => by
    refine ⟨by cases ss <;> simp [flatS, flatE], fun m hm => by simp [flatE] at hm⟩
  | _ :: _, [], _, h, _, _ => by simp at h
  | _ :: _, _ :: _, [], _, h, _ => by simp at h
  | k :: ks, s :: ss, t :: ts, h, h', h3 => by
    obtain ⟨h4, h5⟩ := flat_at op ks ss ts (by simpa using h) (by simpa using h') (fun i hi => by simpa using h3 (i + 1) (by simpa using hi))
    have ht : t.length = k.kids.length := by simpa using h3 0 (by simp)
    rw [flatE_cons]
    simp only [flatS]
    by_cases hk : k.op = op
    · simp only [hk, if_true, List.length_append, h4, ht]
      refine ⟨trivial, fun m hm => ?_⟩
      rcases Nat.lt_or_ge m k.kids.length with hlt | hge
      · refine ⟨0, by simp, .inr ⟨m, by simpa using hlt, ?_, ?_⟩⟩
        · simp [List.getD_eq_getElem?_getD, List.getElem?_append_left hlt]
        · simp [List.getD_eq_getElem?_getD, List.getElem?_append_left (show m < t.length by omega)]
      · obtain ⟨i, hi, h6⟩ := h5 (m - k.kids.length) (by omega)
        refine ⟨i + 1, by simpa using hi, ?_⟩
        have e1 : (k.kids ++ flatE op ks).getD m default = (flatE op ks).getD (m - k.kids.length) default := by simp [List.getD_eq_getElem?_getD, List.getElem?_append_right hge]
        have e2 : (t ++ flatS op ks ss ts).getD m undef = (flatS op ks ss ts).getD (m - k.kids.length) undef := by simp [List.getD_eq_getElem?_getD, List.getElem?_append_right (show t.length ≤ m by omega), ht]
        rw [e1, e2]
        simpa using h6
    · simp only [hk, if_false, List.length_append, h4]
      refine ⟨by simp, fun m hm => ?_⟩
      cases m with
      | zero => exact ⟨0, by simp, .inl ⟨by simp, by simp⟩⟩
      | succ m =>
        obtain ⟨i, hi, h6⟩ := h5 m (by simp at hm; omega)
        exact ⟨i + 1, by simpa using hi, by simpa using h6⟩
theorem flat_len {op : Int} {ks : List Ex} {ss : List Value} {tss : List (List Value)} (h1 : ss.length = ks.length) (h2 : tss.length = ks.length) (h3 : ∀ i, i < ks.length → (tss.getD i []).length = (ks.getD i default).kids.length) (k : Nat) :
    (flatS op (ks.take k) (ss.take k) (tss.take k)).length = (flatE op (ks.take k)).length :=
  (flat_at op (ks.take k) (ss.take k) (tss.take k) (by simp [h1]) (by simp [h2]) (fun i hi => by
    have hi' : i < k ∧ i < ks.length := by rw [List.length_take] at hi; omega
    have := h3 i hi'.2
    simpa [List.getD_eq_getElem?_getD, List.getElem?_take, hi'.1] using this)).1
theorem Opn2.flat {l l' : List Itm} {s : Value} {ks : List Ex} {ss : List Value} {tss : List (List Value)} (h : Opn2 l l' s ks ss tss) (op : Int) : (flatS op ks ss tss).length = (flatE op ks).length ∧
    ∀ m, m < (flatE op ks).length → Itm.deep ((flatS op ks ss tss).getD m undef) ((flatE op ks).getD m default).kids ∈ l' ∧ IsSl ((flatS op ks ss tss).getD m undef) := by
  obtain ⟨h1, h2⟩ := flat_at op ks ss tss h.o.len h.tl (fun i hi => (h.each i hi).len)
  refine ⟨h1, fun m hm => ?_⟩
  obtain ⟨i, hi, ⟨e1, e2⟩ | ⟨j, hj, e1, e2⟩⟩ := h2 m hm
  · rw [e1, e2]; exact ⟨h.o.kid i hi, h.o.sls i hi⟩
  · rw [e1, e2]; exact ⟨(h.each i hi).kid j hj, (h.each i hi).sls j hj⟩
/-! what stays of a list -/
theorem filter_take_snoc {p : Ex → Bool} {ks : List Ex} {k : Nat} (hk : k < ks.length) : (ks.take (k + 1)).filter p = (ks.take k).filter p ++ (if p (ks.getD k default) then [ks.getD k default] else []) := by
  rw [take_snocD default ks k hk, List.filter_append]
  congr 1
  by_cases h : p (ks.getD k default) = true
  · rw [if_pos h, List.filter_cons_of_pos h]; rfl
  · rw [if_neg h, List.filter_cons_of_neg h]; rfl
theorem filter_take_le {p : Ex → Bool} {ks : List Ex} (k : Nat) (h : k ≤ ks.length) : ((ks.take k).filter p).length ≤ k := by
  have := List.length_filter_le p (ks.take k)
  simp at this; omega
/-- the state of DeleteFunc: j read, the kept ones ahead -/
structure DelI (p : Ex → Bool) (ks : List Ex) (ss : List Value) (j i : Nat) (ks' : List Ex) (ss' : List Value) : Prop where
  le : j ≤ ks.length
  len : ks'.length = ks.length
  slen : ss'.length = ks'.length
  i_eq : i = ((ks.take j).filter p).length
  pre : ks'.take i = (ks.take j).filter p
  suf : ∀ m, j ≤ m → ks'.getD m default = ks.getD m default ∧ ss'.getD m undef = ss.getD m undef
  sub : ∀ m, m < ks.length → ∃ q, q < ks.length ∧ ks'.getD m default = ks.getD q default ∧ ss'.getD m undef = ss.getD q undef
theorem DelI.lt {p : Ex → Bool} {ks ks' : List Ex} {ss ss' : List Value} {j i : Nat} (h : DelI p ks ss j i ks' ss') : i ≤ j := by rw [h.i_eq]; exact filter_take_le j h.le
theorem getD_set_eq {α : Type} (d : α) {l : List α} {i : Nat} (h : i < l.length) (a : α) : (l.set i a).getD i d = a := by simp [List.getD_eq_getElem?_getD, h]
theorem getD_set_ne {α : Type} (d : α) {l : List α} {i j : Nat} (h : i ≠ j) (a : α) : (l.set i a).getD j d = l.getD j d := by simp [List.getD_eq_getElem?_getD, List.getElem?_set_ne h]
theorem DelI.keep {p : Ex → Bool} {ks ks' : List Ex} {ss ss' : List Value} {j i : Nat} (h : DelI p ks ss j i ks' ss') (hj : j < ks.length) (hp : p (ks.getD j default) = true) :
    DelI p ks ss (j + 1) (i + 1) (ks'.set i (ks'.getD j default)) (ss'.set i (ss'.getD j undef)) := by
  have hij := h.lt
  obtain ⟨e1, e2⟩ := h.suf j (Nat.le_refl _)
  have hl := h.len; have hsl := h.slen
  refine ⟨by omega, by simp [hl], by simp [hsl], ?_, ?_, ?_, ?_⟩
  · rw [filter_take_snoc hj, if_pos hp, List.length_append, ← h.i_eq]; rfl
  · rw [filter_take_snoc hj, if_pos hp, ← h.pre, e1]
    rw [List.take_add_one, List.take_set_of_le (by omega)]
    congr 1
    simp [show i < ks'.length by omega]
  · intro m hm
    rw [getD_set_ne _ (by omega), getD_set_ne _ (by omega)]
    exact h.suf m (by omega)
  · intro m hm
    by_cases hmi : i = m
    · subst hmi
      rw [getD_set_eq _ (by omega), getD_set_eq _ (by omega)]
      exact ⟨j, hj, e1, e2⟩
    · rw [getD_set_ne _ hmi, getD_set_ne _ hmi]; exact h.sub m hm
theorem DelI.drop {p : Ex → Bool} {ks ks' : List Ex} {ss ss' : List Value} {j i : Nat} (h : DelI p ks ss j i ks' ss') (hj : j < ks.length) (hp : p (ks.getD j default) = false) : DelI p ks ss (j + 1) i ks' ss' := by
  refine ⟨by omega, h.len, h.slen, ?_, ?_, fun m hm => h.suf m (by omega), h.sub⟩
  · rw [filter_take_snoc hj, hp, h.i_eq]; simp
  · rw [filter_take_snoc hj, hp, h.pre]; simp
theorem DelI.psub {p : Ex → Bool} {ks ks' : List Ex} {ss ss' : List Value} {i : Nat} (h : DelI p ks ss ks.length i ks' ss') : PSub (ks.filter p) (ss'.take i) ks ss ∧ ks'.take i = ks.filter p ∧ i = (ks.filter p).length := by
  have hp := h.pre; have hi := h.i_eq
  rw [List.take_length] at hp hi
  have hl := h.len; have hsl := h.slen; have hij := h.lt
  refine ⟨⟨by simp; omega, by have := List.length_filter_le p ks; omega, fun k hk => ?_⟩, hp, hi⟩
  obtain ⟨q, h1, h2, h3⟩ := h.sub k (by omega)
  refine ⟨q, h1, ?_, ?_⟩
  · rw [← hp, ← h2]; simp [List.getD_eq_getElem?_getD, List.getElem?_take, show k < i by omega]
  · rw [← h3]; simp [List.getD_eq_getElem?_getD, List.getElem?_take, show k < i by omega]
theorem findIdx_first {p : Ex → Bool} {ks : List Ex} (h : ks.any p = true) : ks.findIdx p < ks.length ∧ p (ks.getD (ks.findIdx p) default) = true ∧ ∀ i, i < ks.findIdx p → p (ks.getD i default) = false := by
  have hlt : ks.findIdx p < ks.length := List.findIdx_lt_length_of_exists (by simpa using h)
  refine ⟨hlt, ?_, fun i hi => ?_⟩
  · have := List.findIdx_getElem (p := p) (xs := ks) (w := hlt)
    simpa [List.getD_eq_getElem?_getD, hlt] using this
  · have := List.not_of_lt_findIdx (p := p) (xs := ks) hi
    simpa [List.getD_eq_getElem?_getD, show i < ks.length by omega] using this
theorem filter_all {p : Ex → Bool} : ∀ (ks : List Ex), (∀ i, i < ks.length → p (ks.getD i default) = true) → ks.filter p = ks := fun ks h => by
  rw [List.filter_eq_self]
  intro x hx
  obtain ⟨i, hi⟩ := List.mem_iff_getElem?.1 hx
  have hl := (List.getElem?_eq_some_iff.1 hi).1
  simpa [List.getD_eq_getElem?_getD, hi] using h i hl
theorem filter_not {p : Ex → Bool} {ks : List Ex} (h : ks.any p = false) : ks.filter (fun e => !p e) = ks := by
  rw [List.filter_eq_self]
  intro x hx
  rw [List.any_eq_false] at h
  simpa using h x hx
theorem DelI.start {p : Ex → Bool} {ks : List Ex} {ss : List Value} (hl : ss.length = ks.length) (h : ks.any p = true) : DelI (fun e => !p e) ks ss (ks.findIdx p + 1) (ks.findIdx p) ks ss := by
  obtain ⟨h1, h2, h3⟩ := findIdx_first h
  have e : (ks.take (ks.findIdx p)).filter (fun e => !p e) = ks.take (ks.findIdx p) := filter_all _ (fun i hi => by
    have hi' : i < ks.findIdx p ∧ i < ks.length := by rw [List.length_take] at hi; omega
    have := h3 i hi'.1
    simp [List.getD_eq_getElem?_getD, List.getElem?_take, hi'.1] at this ⊢
    exact this)
  have e2 : (ks.take (ks.findIdx p + 1)).filter (fun e => !p e) = ks.take (ks.findIdx p) := by
    rw [filter_take_snoc h1, h2, e]; simp
  refine ⟨h1, rfl, hl, ?_, e2.symm, fun m _ => ⟨rfl, rfl⟩, fun m hm => ⟨m, hm, rfl, rfl⟩⟩
  rw [e2]; simp; omega
end Go.Sx

namespace Go.Proofs.YtafldkjdeompjaaGreatDoor
open Go.Sx Go.RowKit
set_option maxHeartbeats 800000 in
theorem s_flatten (w : World) (op : Int) (s : Value) (ks : List Ex) (ss : List Value) (tss : List (List Value)) (hl : ss.length = ks.length) (htl : tss.length = ks.length) (h3 : ∀ i, i < ks.length → (tss.getD i []).length = (ks.getD i default).kids.length) (hr : Rd (fun b => ¬ (fun _ => False) b) w s 3 ks.length (xcs ks ss)) (hkr : ∀ i, i < ks.length → Rd (fun b => ¬ (fun _ => False) b) w (ss.getD i undef) 3 (ks.getD i default).kids.length (xcs (ks.getD i default).kids (tss.getD i []))) (hsl : ∀ i, i < ks.length → IsSl (ss.getD i undef)) (hsl2 : ∀ i, i < ks.length → ∀ j, j < (ks.getD i default).kids.length → IsSl ((tss.getD i []).getD j undef)) (hlim : (flatE op ks).length ≤ 1073741824) : CallS Tryz.prog 104 [.int .i64 op, s] w (fun r o => IsSl r ∧ o = [row r 47 3 (flatE op ks).length (xcs (flatE op ks) (flatS op ks ss tss))]) := by
 have hm := hr.le
 refine spec_of Tryz.func104 rfl (leb rfl) ?_
 refine .sr fun _ hK1 => ?_
 refine .as rfl (.nt hK1 ?_)
 refine .sr fun _ hK2 => ?_
 refine .as rfl (.nt hK2 ?_)
 refine .seq fun _ hK3 => ?_
 refine .sr fun _ hK4 => ?_
 refine .mv rfl ?_
 refine .v (.lenR sl45 rfl rdp) ?_
 refine .mv rfl (.nt hK4 (.block ?_))
 refine AK.loopK (X := Nat × Value) [(0, _), (8, _), (9, _)] (fun x => [(10, .int .i64 (x.1 : Int)), (5, x.2)]) (fun x => [row x.2 47 3 (flatE op (ks.take x.1)).length (xcs (flatE op (ks.take x.1)) (flatS op (ks.take x.1) (ss.take x.1) (tss.take x.1)))]) (fun x => x.1 ≤ ks.length ∧ IsSl x.2) (fun x => ks.length - x.1) ((0, .slice none 0 0)) slr ?_ ?_ ?_ ?_
 ·exact ⟨Nat.zero_le _, nilSl⟩
 ·exact slr
 ·exact fun w hw => by simpa [flatE, flatS, xcs] using hw.ghost 47 3
 ·intro x hg0 _ hK5
  refine .sr fun _ hK6 => ?_
  refine .v (.lss rfl rfl) ?_
  refine .nt hK6 ?_
  refine .seq fun _ hK7 => ?_
  refine AK.condD rfl (fun hc0 => ?_) (fun hc0 => ?_)
  ·have sk := hsl x.1 (by omega)
   have hb := flatE_take_le op ks (x.1 + 1)
   rw [take_snocD default ks x.1 (by omega), flatE_snoc, List.length_append] at hb
   refine .skip ?_
   refine AK.then_ (hK7 _ ?_)
   refine .seq fun _ hK8 => ?_
   refine .block ?_
   refine .sr fun _ hK9 => ?_
   first | refine .v (.iN sl45 rfl rfl) ?_ | refine .v (.iK sl45 rfl rfl) ?_
   refine .v (.loadE ag47 rfl rdp (by assumption) rfl (by omega)) ?_
   refine AK.alloc el47 rfl rfl trivial rfl (fun bx7 => ?_)
   refine AK.storeBox 1 (us := [.int .i64 (ks.getD x.1 default).op, .int .i64 (ks.getD x.1 default).lt, ss.getD x.1 undef]) (cs' := [.int .i64 (ks.getD x.1 default).op, .int .i64 (ks.getD x.1 default).lt, ss.getD x.1 undef]) rfl sz47 rfl rfl rfl rfl oneP (leb rfl) rfl trivial ?_
   refine .nt hK9 ?_
   refine .sr fun _ hK10 => ?_
   refine .v (.fieldAddr fd47_0 rfl) ?_
   refine .v (.loadBox on3 rfl bsp rfl) ?_
   refine .mv rfl ?_
   refine .v (.eql rfl rfl) ?_
   refine .nt hK10 ?_
   refine AK.condD rfl (fun hc1 => ?_) (fun hc1 => ?_)
   ·rw [if_pos hc1] at hb
    refine AK.region ?_
    refine .mv rfl ?_
    refine .v (.fieldAddr fd47_2 rfl) ?_
    refine .v (.loadBox on45 rfl bsp rfl) ?_
    refine AK.appendS 0 rfl sl45 el47 rfl (by decide) rfl rfl rfl (RdS.arg (hkr x.1 (by omega))) (one'_ecs _ _ (all_getD fun j hj => hsl2 x.1 (by omega) j (by rw [← h3 x.1 (by omega)]; exact hj))) (by omega) (by omega) trivial rfl (fun av21 => ?_)
    refine AK.shape 0 rfl (fun sav => ?_)
    refine .as rfl (.nil (.block_normal ?_))
    refine AK.then_ (hK8 _ ?_)
    refine AK.region ?_
    refine .v (.add rfl rfl (by omega)) ?_
    refine .mv rfl (.nil ?_)
    first | refine AK.then_ (hK5 _ _ ((x.1 + 1, av21)) ⟨by dsimp only; omega, sav⟩ (by dsimp only; omega) (slr) (fun w hw => by dsimp only; rw [take_snocD default ks x.1 (by omega), take_snocD undef ss x.1 (by omega), take_snocD [] tss x.1 (by omega), flatE_snoc, flatS_snoc op _ _ _ _ _ _ (by simp; omega) (by simp; omega), xcs_append _ _ _ _ (flat_len hl htl h3 x.1), List.length_append, if_pos hc1, if_pos hc1]; exact hw.pick [0] (by decide) rfl rfl)) | refine AK.then_ (hK5 _ _ ((x.1 + 1, av25)) ⟨by dsimp only; omega, hsl25⟩ (by dsimp only; omega) (slr) (fun w hw => by dsimp only; rw [take_snocD default ks x.1 (by omega), take_snocD undef ss x.1 (by omega), take_snocD [] tss x.1 (by omega), flatE_snoc, flatS_snoc op _ _ _ _ _ _ (by simp; omega) (by simp; omega), xcs_append _ _ _ _ (flat_len hl htl h3 x.1), List.length_append, if_neg hc1, if_neg hc1]; exact hw.pick [0] (by decide) rfl rfl))
   ·rw [if_neg hc1, List.length_singleton] at hb
    refine AK.region ?_
    refine .mv rfl ?_
    refine .v (.loadBoxG ag47 rfl bsp rfl rfl) ?_
    refine AK.append1 0 rfl sl45 el47 rfl (by decide) rfl (by intro k hk; cases hk; rfl) rfl (one'_cons rfl (one'_cons rfl (one'_cons (IsSl.one sk) one'_nil))) (by omega) (by omega) (by decide) rfl rfl (fun av25 _ hsl25 => ?_)
    refine .as rfl (.nil (.block_normal ?_))
    refine AK.then_ (hK8 _ ?_)
    refine AK.region ?_
    refine .v (.add rfl rfl (by omega)) ?_
    refine .mv rfl (.nil ?_)
    first | refine AK.then_ (hK5 _ _ ((x.1 + 1, av21)) ⟨by dsimp only; omega, sav⟩ (by dsimp only; omega) (slr) (fun w hw => by dsimp only; rw [take_snocD default ks x.1 (by omega), take_snocD undef ss x.1 (by omega), take_snocD [] tss x.1 (by omega), flatE_snoc, flatS_snoc op _ _ _ _ _ _ (by simp; omega) (by simp; omega), xcs_append _ _ _ _ (flat_len hl htl h3 x.1), List.length_append, if_pos hc1, if_pos hc1]; exact hw.pick [0] (by decide) rfl rfl)) | refine AK.then_ (hK5 _ _ ((x.1 + 1, av25)) ⟨by dsimp only; omega, hsl25⟩ (by dsimp only; omega) (slr) (fun w hw => by dsimp only; rw [take_snocD default ks x.1 (by omega), take_snocD undef ss x.1 (by omega), take_snocD [] tss x.1 (by omega), flatE_snoc, flatS_snoc op _ _ _ _ _ _ (by simp; omega) (by simp; omega), xcs_append _ _ _ _ (flat_len hl htl h3 x.1), List.length_append, if_neg hc1, if_neg hc1]; exact hw.pick [0] (by decide) rfl rfl))
  ·refine .exit (.then_exit (.then_exit (.block_exit ?_)))
   refine AK.then_ (hK3 _ ?_)
   refine .sr fun _ hK11 => ?_
   refine .mv rfl (.as rfl (.nt hK11 (.ret ?_)))
   refine AK.ret1 rfl rfl (fun w hw => ⟨_, _, ?_, rfl, Ret.of (hw.pick [0] (by decide) rfl rfl)⟩)
   have e1 : x.1 = ks.length := by omega
   rw [e1, List.take_length, List.take_of_length_le (by omega), List.take_of_length_le (by omega)]
   exact ⟨hg0.2, rfl⟩

set_option maxHeartbeats 800000 in
theorem s_delete (w : World) (F : Nat → Prop) (f : FuncId) (hco : CallOk Tryz.prog f) (p : Ex → Bool) (s : Value) (ks : List Ex) (ss : List Value) (hl : ss.length = ks.length) (hsl : ∀ i, i < ks.length → IsSl (ss.getD i undef)) (hA : (row s 47 3 ks.length (xcs ks ss)).holds w F) (hf : ∀ w', FrameX F w w' → ∀ i, i < ks.length → CallS Tryz.prog f [.agg #[.int .i64 (ks.getD i default).op, .int .i64 (ks.getD i default).lt, ss.getD i undef]] w' (fun r o => r = .bool (p (ks.getD i default)) ∧ o = [])) : CallM Tryz.prog 103 [s, .func (.func f) #[] #[]] w F (fun r A o => ∃ ss', IsSl r ∧ A = row r 47 3 (ks.filter (fun e => !p e)).length (xcs (ks.filter (fun e => !p e)) ss') ∧ o = [] ∧ PSub (ks.filter (fun e => !p e)) ss' ks ss) := by
 have hsv := row_sl hA
 have hm := (row_rd hA).le
 refine specM_of Tryz.func103 rfl (leb rfl) hA ?_
 refine .sr fun _ hK1 => ?_
 refine .as rfl (.nt hK1 ?_)
 refine .sr fun _ hK2 => ?_
 refine .mv rfl (.mv rfl ?_)
 refine AK.call co100 rfl (fun w hw => s_index w f hco p s ks ss hl hsl ((RdS.own 0 rfl w hw).mono fun b _ _ => ⟨id, rfl⟩) (fun w' hfr i hi => hf w' (hw.frame.step hfr (fun _ h _ => h.elim)) i hi)) trivial rfl ?_
 rintro r o ⟨rfl, rfl⟩
 obtain ⟨ia, ib, ic⟩ := idxE_any p ks
 refine .as rfl (.nt hK2 ?_)
 refine .seq fun _ hK3 => ?_
 refine .sr fun _ hK4 => ?_
 refine .mv rfl ?_
 refine .v (.eql rfl rfl) ?_
 refine .nt hK4 ?_
 refine AK.condD rfl (fun hc0 => ?_) (fun hc0 => ?_)
 ·refine .sr fun _ hK5 => ?_
  refine .mv rfl (.as rfl (.nt hK5 (.ret (.then_ret ?_))))
  refine AK.ret1 rfl rfl (fun w hw => ⟨_, _, _, ?_, rfl, Ret.of (hw.pick [0] (by decide) rfl rfl)⟩)
  have hany : ks.any p = false := by
   cases h : ks.any p with
   | false => rfl
   | true => have := ia.1 h; omega
  rw [filter_not hany]
  exact ⟨ss, hsv, rfl, rfl, PSub.rfl hl⟩
 ·have hany : ks.any p = true := ia.2 (by omega)
  have hix : idxE p ks = ((ks.findIdx p : Nat) : Int) := by unfold idxE; rw [if_pos hany]
  rw [hix] at ib ic hc0 ⊢
  have hst := DelI.start (p := p) hl hany
  have hilt := (findIdx_first hany).1
  refine .skip ?_
  refine AK.then_ (hK3 _ ?_)
  refine .seq fun _ hK6 => ?_
  refine .sr fun _ hK7 => ?_
  refine .mv rfl ?_
  refine .v (.add rfl rfl (by omega)) ?_
  refine .as rfl (.nt hK7 (.block ?_))
  refine AK.loopK (X := Nat × Nat × List Ex × List Value) [(0, _), (1, _)] (fun x => [(6, .int .i64 (x.1 : Int)), (5, .int .i64 (x.2.1 : Int))]) (fun x => [row s 47 3 ks.length (xcs x.2.2.1 x.2.2.2)]) (fun x => DelI (fun e => !p e) ks ss x.1 x.2.1 x.2.2.1 x.2.2.2) (fun x => ks.length - x.1) ((ks.findIdx p + 1, ks.findIdx p, ks, ss)) slr ?_ ?_ ?_ ?_
  ·exact hst
  ·exact .cons (slI rfl (by omega)) (slr)
  ·exact fun w hw => hw
  ·intro x hg0 _ hK8
   refine .seq fun _ hK9 => ?_
   refine .sr fun _ hK10 => ?_
   refine .mv rfl (.mv rfl ?_)
   refine .v (.lenR sl45 rfl rdp) ?_
   refine .v (.lss rfl rfl) ?_
   refine .nt hK10 ?_
   refine AK.condD rfl (fun hc1 => ?_) (fun hc1 => ?_)
   ·have hjlt : x.1 < ks.length := by omega
    have hil := hg0.lt
    have hkl := hg0.len
    have hksl := hg0.slen
    have sk : IsSl (x.2.2.2.getD x.1 undef) := by rw [(hg0.suf x.1 (Nat.le_refl _)).2]; exact hsl x.1 hjlt
    refine .skip ?_
    refine AK.then_ (hK9 _ ?_)
    refine .seq fun _ hK11 => ?_
    refine .block ?_
    refine .sr fun _ hK12 => ?_
    refine .mv rfl (.mv rfl ?_)
    first | refine .v (.iN sl45 rfl rfl) ?_ | refine .v (.iK sl45 rfl rfl) ?_
    refine .v (.loadE ag47 rfl rdp (by assumption) (by omega) (by omega)) ?_
    refine AK.alloc el47 rfl rfl trivial rfl (fun bx7 => ?_)
    refine AK.storeBox 1 (us := [.int .i64 (x.2.2.1.getD x.1 default).op, .int .i64 (x.2.2.1.getD x.1 default).lt, x.2.2.2.getD x.1 undef]) (cs' := [.int .i64 (x.2.2.1.getD x.1 default).op, .int .i64 (x.2.2.1.getD x.1 default).lt, x.2.2.2.getD x.1 undef]) rfl sz47 rfl rfl rfl rfl oneP (leb rfl) rfl trivial ?_
    refine .nt hK12 ?_
    refine .sr fun _ hK13 => ?_
    refine .mv rfl ?_
    refine .v (.loadBoxG ag47 rfl bsp rfl rfl) ?_
    refine AK.callV (us := []) (cs := []) hco rfl rfl (fun w hw => (by have := hf w hw.frame x.1 (by omega); have e := hg0.suf x.1 (Nat.le_refl _); rw [← e.1, ← e.2] at this; exact this)) trivial rfl ?_
    rintro r o ⟨rfl, rfl⟩
    refine .v (.not rfl) ?_
    refine .nt hK13 ?_
    refine AK.condB rfl (fun hc2 => ?_) (fun hc2 => ?_)
    ·refine .sr fun _ hK14 => ?_
     refine .mv rfl (.mv rfl ?_)
     refine .v (.loadBoxG ag47 rfl bsp rfl rfl) ?_
     first | refine .v (.iN sl45 rfl rfl) ?_ | refine .v (.iK sl45 rfl rfl) ?_
     refine AK.storeG 0 rfl sz47 rfl rfl rfl rfl (one'_cons rfl (one'_cons rfl (one'_cons (IsSl.one sk) one'_nil))) (by omega) (cs' := xcs (x.2.2.1.set x.2.1 (x.2.2.1.getD x.1 default)) (x.2.2.2.set x.2.1 (x.2.2.2.getD x.1 undef))) (xcs_set _ _ _ hksl (by omega) _ _) trivial ?_
     refine .nt hK14 ?_
     refine AK.region ?_
     refine .mv rfl ?_
     refine .v (.add rfl rfl (by omega)) ?_
     refine .as rfl (.nil (.block_normal ?_))
     refine AK.then_ (hK11 _ ?_)
     refine AK.region ?_
     refine .mv rfl ?_
     refine .v (.add rfl rfl (by omega)) ?_
     refine .as rfl (.nil ?_)
     refine AK.then_ (hK8 _ _ ((x.1 + 1, x.2.1 + 1, x.2.2.1.set x.2.1 (x.2.2.1.getD x.1 default), x.2.2.2.set x.2.1 (x.2.2.2.getD x.1 undef))) (hg0.keep hjlt (by have e := (hg0.suf x.1 (Nat.le_refl _)).1; rw [e] at hc2; show (!p _) = _; rw [hc2]; rfl)) (by dsimp only; omega) (slr) (fun w hw => hw.pick [0] (by decide) rfl rfl))
    ·refine .skip (.block_normal ?_)
     refine AK.then_ (hK11 _ ?_)
     refine AK.region ?_
     refine .mv rfl ?_
     refine .v (.add rfl rfl (by omega)) ?_
     refine .as rfl (.nil ?_)
     refine AK.then_ (hK8 _ _ ((x.1 + 1, x.2.1, x.2.2.1, x.2.2.2)) (hg0.drop hjlt (by have e := (hg0.suf x.1 (Nat.le_refl _)).1; rw [e] at hc2; show (!p _) = _; rw [hc2]; rfl)) (by dsimp only; omega) (slr) (fun w hw => hw.pick [0] (by decide) rfl rfl))
   ·have hil := hg0.lt
    have hle := hg0.le
    have hkl := hg0.len
    have hksl := hg0.slen
    refine .exit (.then_exit (.then_exit (.block_exit ?_)))
    refine AK.then_ (hK6 _ ?_)
    refine .sr fun _ hK15 => ?_
    refine .mv rfl (.mv rfl ?_)
    refine .v (.sliceFr (CutS.row 0 rfl) sl45 rfl rfl (by omega)) ?_
    refine AK.clearE 0 (ks := x.2.2.1) (ss := x.2.2.2) rfl sl45 el47 rfl (by omega) hksl (by omega) trivial (fun cs hcs => ?_)
    refine .nt hK15 ?_
    refine .sr fun _ hK16 => ?_
    refine .mv rfl (.mv rfl ?_)
    refine .v (.sliceTo 0 rfl sl45 rfl rfl (by omega)) ?_
    refine .as rfl (.nt hK16 (.ret ?_))
    refine AK.reslice 0 x.2.1 rfl (by omega) ?_
    refine AK.ret1 rfl rfl (fun w hw => ⟨_, _, _, ?_, rfl, Ret.of (hw.pick [0] (by decide) rfl rfl)⟩)
    have hx1 : x.1 = ks.length := by omega
    rw [hx1] at hg0
    obtain ⟨ps, e1, e2⟩ := hg0.psub
    have hcs' : cs.take (x.2.1 * 3) = xcs (x.2.2.1.take x.2.1) (x.2.2.2.take x.2.1) := hcs
    rw [e1] at hcs'
    refine ⟨x.2.2.2.take x.2.1, slTo_sl _ hsv, ?_, rfl, ps⟩
    rw [hcs', ← e2]
    rfl

theorem s_collect (w : World) (op : Int) (s : Value) (ks : List Ex) (ss : List Value) (hl : ss.length = ks.length) (hr : Rd (fun b => ¬ (fun _ => False) b) w s 3 ks.length (xcs ks ss)) (nn : Ex) (ns : Value) (hsl : ∀ i, i < ks.length → IsSl (ss.getD i undef)) (hns : IsSl ns) : CallS Tryz.prog 105 [.int .i64 op, s, .agg #[.int .i64 nn.op, .int .i64 nn.lt, ns]] w (fun r o => ∃ sr, r = .agg #[.int .i64 (collectE op ks nn).op, .int .i64 (collectE op ks nn).lt, sr] ∧ IsSl sr ∧ o = [] ∧ ((ks = [] ∧ sr = ns) ∨ (ks.length = 1 ∧ sr = ss.getD 0 undef) ∨ (2 ≤ ks.length ∧ sr = s))) := by
 have hm := hr.le
 have hss := Rd.sl hr
 refine spec_of Tryz.func105 rfl (leb rfl) ?_
 refine .sr fun _ hK1 => ?_
 refine AK.box_ (E := 47) (cs := [.int .i64 nn.op, .int .i64 nn.lt, ns]) rfl rfl rfl trivial rfl (fun bx5 => ?_)
 refine AK.alloc el47 rfl rfl trivial rfl (fun bx6 => ?_)
 refine .nt hK1 ?_
 refine .seq fun _ hK2 => ?_
 refine .sr fun _ hK3 => ?_
 refine .mv rfl ?_
 refine .v (.lenR sl45 rfl rdp) ?_
 refine .nt hK3 (.block ?_)
 refine .sr fun _ hK4 => ?_
 refine .v (.eql rfl rfl) ?_
 refine .as rfl (.nt hK4 ?_)
 refine AK.condD rfl (fun hc0 => ?_) (fun hc0 => ?_)
 ·refine .sr fun _ hK5 => ?_
  refine .v (.loadBoxG ag47 rfl bsp rfl rfl) ?_
  refine AK.storeBox 1 (us := [.int .i64 nn.op, .int .i64 nn.lt, ns]) (cs' := [.int .i64 nn.op, .int .i64 nn.lt, ns]) rfl sz47 rfl rfl rfl rfl oneP (leb rfl) rfl trivial ?_
  refine .nt hK5 (.ret (.block_ret (.then_ret ?_)))
  refine AK.retG [.cell 6 47] rfl (.cons (.cell ag47 rfl bsp rfl rfl) (.nil)) (fun w hw => ⟨_, _, ?_, rfl, Ret.of (hw.pick [] (by decide) rfl rfl)⟩)
  have hk0 : ks = [] := List.eq_nil_of_length_eq_zero (by omega)
  subst hk0
  exact ⟨ns, rfl, hns, rfl, .inl ⟨rfl, rfl⟩⟩
 ·refine .sr fun _ hK6 => ?_
  refine .v (.eql rfl rfl) ?_
  refine .as rfl (.nt hK6 ?_)
  refine AK.condD rfl (fun hc1 => ?_) (fun hc1 => ?_)
  ·have hk1 : ks.length = 1 := by omega
   have sk := hsl 0 (by omega)
   refine .sr fun _ hK7 => ?_
   refine .mv rfl ?_
   refine .v (.idxN (k := 0) sl45 rfl rfl rdp (by decide) (by omega)) ?_
   refine .v (.loadE ag47 rfl rdp (by assumption) rfl (by omega)) ?_
   refine AK.storeBox 1 (us := [.int .i64 (ks.getD 0 default).op, .int .i64 (ks.getD 0 default).lt, ss.getD 0 undef]) (cs' := [.int .i64 (ks.getD 0 default).op, .int .i64 (ks.getD 0 default).lt, ss.getD 0 undef]) rfl sz47 rfl rfl rfl rfl oneP (leb rfl) rfl trivial ?_
   refine .nt hK7 (.ret (.block_ret (.then_ret ?_)))
   refine AK.retG [.cell 6 47] rfl (.cons (.cell ag47 rfl bsp rfl rfl) (.nil)) (fun w hw => ⟨_, _, ?_, rfl, Ret.of (hw.pick [] (by decide) rfl rfl)⟩)
   obtain ⟨k, rfl⟩ : ∃ k, ks = [k] := List.length_eq_one_iff.1 hk1
   exact ⟨_, rfl, sk, rfl, .inr (.inl ⟨rfl, rfl⟩)⟩
  ·refine .skip (.block_normal ?_)
   refine AK.then_ (hK2 _ ?_)
   refine .sr fun _ hK8 => ?_
   refine .mv rfl (.mv rfl ?_)
   refine .v (.build (parts := [(0, .tmp 17), (2, .tmp 18)]) (cs := #[.int .i64 op, .int .i64 0, s]) rfl (by obtain ⟨_, _, _, rfl⟩ := hss; kernel_rfl)) ?_
   refine AK.storeBox 1 (us := [.int .i64 op, .int .i64 0, s]) (cs' := [.int .i64 op, .int .i64 0, s]) rfl sz47 rfl rfl rfl rfl oneP (leb rfl) rfl trivial ?_
   refine .nt hK8 (.ret ?_)
   refine AK.retG [.cell 6 47] rfl (.cons (.cell ag47 rfl bsp rfl rfl) (.nil)) (fun w hw => ⟨_, _, ?_, rfl, Ret.of (hw.pick [] (by decide) rfl rfl)⟩)
   match ks, hc0, hc1 with
   | [], h, _ => simp at h
   | [k], _, h => simp at h
   | a :: b :: l, _, _ => exact ⟨s, rfl, hss, rfl, .inr (.inr ⟨by simp, rfl⟩)⟩

end Go.Proofs.YtafldkjdeompjaaGreatDoor

namespace Go.Sx
open Go.RowKit
theorem ret_none (w : World) : Ret (fun _ => False) w w [] := ⟨FrameX.refl _ w, _, HeapAt.nil w, fun _ _ h => h.elim⟩
/-- a contract of the shelf: a value, the world as it was -/
theorem callS_pureT {P : Program} {f : FuncId} {vs : List Value} {w : World} {v : Value} {φ : Value → List Asn → Prop} (h : Calls P f vs.toArray w fun e w' => e = .returned v ∧ w' = w) (hφ : φ v []) : CallS P f vs w φ :=
  h.mono fun e w' h' => ⟨v, [], hφ, h'.1, by rw [h'.2]; exact ret_none w⟩
theorem ordE_len {l m : List Ex} (h : ordE l = some m) : l.length ≤ 1 ∧ m = l := by
  unfold ordE at h; split at h
  · cases h; exact ⟨by assumption, rfl⟩
  · cases h
theorem collect_deep {l : List Itm} {op : Int} {ks : List Ex} {ss : List Value} {s ns sr : Value} {nn : Ex} (hk : ∀ k, k < ks.length → Itm.deep (ss.getD k undef) (ks.getD k default).kids ∈ l) (hs : Itm.deep s ks ∈ l) (hn : Itm.deep ns nn.kids ∈ l)
    (h : (ks = [] ∧ sr = ns) ∨ (ks.length = 1 ∧ sr = ss.getD 0 undef) ∨ (2 ≤ ks.length ∧ sr = s)) : Itm.deep sr (collectE op ks nn).kids ∈ l := by
  rcases h with ⟨rfl, rfl⟩ | ⟨h1, rfl⟩ | ⟨h1, rfl⟩
  · exact hn
  · obtain ⟨k, rfl⟩ := List.length_eq_one_iff.1 h1
    exact hk 0 (by simp)
  · match ks, h1, hs with
    | a :: b :: l', _, hs => exact hs
theorem one_deep {l : List Itm} {s : Value} {k : Ex} (h : Itm.deep s k.kids ∈ l) : ∀ i, i < [k].length → Itm.deep ([s].getD i undef) ([k].getD i default).kids ∈ l := fun i hi => by
  have : i = 0 := by simpa using hi
  subst this; exact h
theorem bind_some {α β : Type} {x : Option α} {f : α → Option β} {b : β} (h : x.bind f = some b) : ∃ a, x = some a ∧ f a = some b := by
  cases x with
  | none => cases h
  | some a => exact ⟨a, rfl, h⟩
/-- trees of a forest, read from w on -/
theorem HW.kidR {C : Cx} {own : List Asn} {B : Bs} {l : List Itm} {w : World} {s : Value} {ks : List Ex} (hw : HW C own w) (hB : BsOk B C.W0 C.S) (i : Nat) (hi : own[i]? = some (forest B l)) (hx : Itm.deep s ks ∈ l) : RdK (cellR (fun _ => False) w) s ks := HW.itm hB i hi hx hw
theorem HeapAt.kidR {C : Cx} {own : List Asn} {B : Bs} {l : List Itm} {w : World} {Fs : Nat → Nat → Prop} {s : Value} {ks : List Ex} (hh : HeapAt own Fs w) (hB : BsOk B C.W0 C.S) (i j : Nat) (hij : i ≠ j) (hi : own[i]? = some (forest B l)) (hx : Itm.deep s ks ∈ l) (hfr : FrameX C.S C.W0 w) (hal : ∀ k b, Fs k b → C.W0.heap.size ≤ b ∨ C.S b) : RdK (cellR (Fs j) w) s ks := HeapAt.itm hB i j hij hi hx hh hfr hal
end Go.Sx

/-
  DERIVED: THE SHELF's CONTRACTS AT THIS DUMP, IN PLAIN WORDS (tools/lay-plain.mjs out of 'TryzShelf.lean', which tools/lay-shelf.mjs wrote): THE SAME DECLARATIONS UNDER THE SAME NAMES: 'import', 'namespace', 'open', 'def', 'theorem' AND NOTHING ELSE: no command of the shelf's: FOR A HAND-IN. Each laying: the table of numbers ('.._ren') and one theorem, a field a fact of the dump's own or the kernel's comparison; each contract: ONE APPLICATION.
-/
namespace Go.Proofs
open Go.Shelf
def Tryz.lays169_ren : Go.Shelf.Ren := ⟨fun | 169 => 80 | n => n, fun | 70 => 140 | 9 => 9 | 0 => 0 | 72 => 142 | 37 => 95 | 127 => 154 | 3 => 3 | 5 => 5 | n => n, fun | n => n⟩
theorem Tryz.lays169 : Go.Proofs.Lays.n169 Tryz.prog Tryz.lays169_ren := {
  mixed := by kernel_rfl
  f169 := Tryz.func80.trans (congrArg some (by kernel_rfl))
  t0 := Tryz.underlying0
  a0 := Tryz.isAgg0
  z0 := Tryz.sizeOf0
  v0 := Tryz.zeroValue0
  t3 := Tryz.underlying3
  a3 := Tryz.isAgg3
  z3 := Tryz.sizeOf3
  v3 := Tryz.zeroValue3
  t9 := Tryz.underlying9
  a9 := Tryz.isAgg9
  z9 := Tryz.sizeOf9
  v9 := Tryz.zeroValue9
  t37 := Tryz.underlying95
  a37 := Tryz.isAgg95
  z37 := Tryz.sizeOf95
  v37 := Tryz.zeroValue95
  t70 := Tryz.underlying140
  a70 := Tryz.isAgg140
  z70 := Tryz.sizeOf140
  v70 := Tryz.zeroValue140
  t72 := Tryz.underlying142
  a72 := Tryz.isAgg142
  z72 := Tryz.sizeOf142
  v72 := Tryz.zeroValue142
  t127 := Tryz.underlying154
  a127 := Tryz.isAgg154
  z127 := Tryz.sizeOf154
  v127 := Tryz.zeroValue154 }
theorem Tryz.Builder_Extra_169 : Builder.Extra Tryz.prog Tryz.lays169_ren := {
  sizeBuilder := by kernel_rfl
  liesBuilder := by kernel_rfl
  t5 := Tryz.underlying5
  a5 := Tryz.isAgg5
  z5 := Tryz.sizeOf5
  v5 := Tryz.zeroValue5
  infoByte := by kernel_rfl
  cellsByte := by kernel_rfl
  sizeByte := by kernel_rfl
  neB5 := by decide }
open Go.RowKit in
/-- (*strings.Builder).String: "String returns the accumulated string.": WHATEVER THE BUILDER HOLDS. (LAID: no walk: one application.) -/
theorem Tryz.Builder_String_any (B b : Nat) (l : List UInt8) (w : World) (h : Lib.IsBuilder 142 5 B b (Lib.byteCells l) w) (hBw : B ≤ w.heap.size) :
    Calls Tryz.prog 80 #[.pointer (some ⟨b, 0, none⟩)] w fun e w' => e = .returned (.string ⟨l.toArray⟩) ∧ Below B w w' := Any.Builder_String_any Tryz.lays169 Tryz.Builder_Extra_169 B b l w h hBw
def Tryz.lays125_ren : Go.Shelf.Ren := ⟨fun | 125 => 119 | 128 => 130 | 129 => 131 | n => n, fun | 46 => 118 | 3 => 3 | 51 => 180 | 53 => 119 | 4 => 4 | 5 => 5 | 9 => 9 | n => n, fun | n => n⟩
theorem Tryz.lays125 : Go.Proofs.Lays.n125 Tryz.prog Tryz.lays125_ren := {
  mixed := by kernel_rfl
  f125 := Tryz.func119.trans (congrArg some (by kernel_rfl))
  f128 := Tryz.func130.trans (congrArg some (by kernel_rfl))
  f129 := Tryz.func131.trans (congrArg some (by kernel_rfl))
  t3 := Tryz.underlying3
  a3 := Tryz.isAgg3
  z3 := Tryz.sizeOf3
  v3 := Tryz.zeroValue3
  t4 := Tryz.underlying4
  a4 := Tryz.isAgg4
  z4 := Tryz.sizeOf4
  v4 := Tryz.zeroValue4
  t5 := Tryz.underlying5
  a5 := Tryz.isAgg5
  z5 := Tryz.sizeOf5
  v5 := Tryz.zeroValue5
  t9 := Tryz.underlying9
  a9 := Tryz.isAgg9
  z9 := Tryz.sizeOf9
  v9 := Tryz.zeroValue9
  t46 := Tryz.underlying118
  a46 := Tryz.isAgg118
  z46 := Tryz.sizeOf118
  v46 := Tryz.zeroValue118
  t51 := Tryz.underlying180
  a51 := Tryz.isAgg180
  z51 := Tryz.sizeOf180
  v51 := Tryz.zeroValue180
  t53 := Tryz.underlying119
  a53 := Tryz.isAgg119
  z53 := Tryz.sizeOf119
  v53 := Tryz.zeroValue119 }
/-- bits.Len: "Len returns the minimum number of bits required to represent x; the result is 0 for x == 0.": IT RETURNS 'Lib.bitLen x'; the world is as it was. (A uint has 64 bits in the model.) ITS CALLEE bits.Len64 IS MET BY ITS OWN CONTRACT OFF THE SHELF (lay that first). (LAID: no walk: one application.) -/
theorem Tryz.bits_Len (x : Int) (w : World) (h0 : 0 ≤ x) (h1 : x ≤ 18446744073709551615) :
    Calls Tryz.prog 119 #[.int .u64 x] w fun e w' => e = .returned (.int .i64 (Lib.bitLen x.toNat)) ∧ w' = w := Any.bits_Len Tryz.lays125 x w h0 h1
end Go.Proofs

namespace Go.Proofs.YtafldkjdeompjaaGreatDoor
open Go.Sx Go.RowKit
theorem s_insort1 (w : World) (s f : Value) (a b : Int) (ha : 0 ≤ a ∧ a ≤ 4611686018427387904) (hb : b ≤ a + 1) : CallS Tryz.prog 122 [s, .int .i64 a, .int .i64 b, f] w (fun r o => o = []) := by
 refine spec_of Tryz.func122 rfl (leb rfl) ?_
 refine .sr fun _ hK1 => ?_
 refine .mv rfl ?_
 refine .v (.add rfl rfl (by omega)) ?_
 refine .as rfl (.nt hK1 (.block ?_))
 refine AK.loopK (X := Unit) [(0, _), (1, _), (2, _), (3, _)] (fun x => [(8, .int .i64 (a + 1))]) (fun x => []) (fun x => True) (fun x => 0) (()) slr ?_ ?_ ?_ ?_
 ·trivial
 ·exact slr
 ·exact fun w hw => hw
 ·intro x hg0 _ hK2
  refine .seq fun _ hK3 => ?_
  refine .sr fun _ hK4 => ?_
  refine .mv rfl (.mv rfl ?_)
  refine .v (.lss rfl rfl) ?_
  refine .nt hK4 ?_
  refine AK.cond_f rfl (decide_eq_false (by omega)) ?_
  refine .exit (.then_exit (.then_exit (.block_exit ?_)))
  refine AK.endG [] rfl (.nil) (fun w hw => ⟨_, _, ?_, rfl, Ret.of (hw.pick [] (by decide) rfl rfl)⟩)
  rfl

theorem s_pdq1 (w : World) (s f : Value) (n lm : Int) (hb : 0 ≤ n ∧ n ≤ 1) : CallS Tryz.prog 118 [s, .int .i64 0, .int .i64 n, .int .i64 lm, f] w (fun r o => o = []) := by
 refine spec_of Tryz.func118 rfl (leb rfl) ?_
 refine .sr fun _ hK1 => ?_
 refine .as rfl (.nt hK1 ?_)
 refine .sr fun _ hK2 => ?_
 refine .as rfl (.nt hK2 (.block ?_))
 refine AK.loopK (X := Unit) [(0, _), (4, _)] (fun x => [(1, .int .i64 0), (2, .int .i64 n), (3, .int .i64 lm), (10, .bool true), (11, .bool true)]) (fun x => []) (fun x => True) (fun x => 0) (()) slr ?_ ?_ ?_ ?_
 ·trivial
 ·exact slr
 ·exact fun w hw => hw
 ·intro x hg0 _ hK3
  refine .block ?_
  refine .sr fun _ hK4 => ?_
  refine .mv rfl (.mv rfl ?_)
  refine .v (.sub rfl rfl (by omega)) ?_
  refine .as rfl (.nt hK4 ?_)
  refine .seq fun _ hK5 => ?_
  refine .sr fun _ hK6 => ?_
  refine .mv rfl ?_
  refine .v (.leq rfl rfl) ?_
  refine .nt hK6 ?_
  refine AK.cond_t rfl (decide_eq_true (by omega)) ?_
  refine .sr fun _ hK7 => ?_
  refine .mv rfl (.mv rfl (.mv rfl (.mv rfl ?_)))
  refine AK.call co122 rfl (fun w hw => s_insort1 w s f 0 n (by omega) (by omega)) trivial rfl ?_
  rintro r o rfl
  refine .nt hK7 (.ret (.then_ret (.block_ret (.then_ret (.block_ret ?_)))))
  refine AK.retG [] rfl (.nil) (fun w hw => ⟨_, _, ?_, rfl, Ret.of (hw.pick [] (by decide) rfl rfl)⟩)
  rfl

theorem s_sort1 (w : World) (s f : Value) (n : Nat) (cs : List Value) (hn : n ≤ 1) (hr : Rd (fun b => ¬ (fun _ => False) b) w s 3 n cs) : CallS Tryz.prog 113 [s, f] w (fun r o => o = []) := by
 refine spec_of Tryz.func113 rfl (leb rfl) ?_
 refine .sr fun _ hK1 => ?_
 refine .mv rfl ?_
 refine .v (.lenR sl45 rfl rdp) ?_
 refine .as rfl (.nt hK1 ?_)
 refine AK.region ?_
 refine .mv rfl (.mv rfl (.mv rfl ?_))
 refine .v (.convI (by kernel_rfl) un118 rfl (wrap_u64 (by omega))) ?_
 refine AK.call co119 rfl (fun w hw => callS_pureT (Tryz.bits_Len _ w (by omega) (by omega)) (φ := fun r o => r = .int .i64 (Lib.bitLen ((n : Int)).toNat) ∧ o = []) ⟨rfl, rfl⟩) trivial rfl ?_
 rintro r o ⟨rfl, rfl⟩
 refine .mv rfl ?_
 refine AK.call co118 rfl (fun w hw => s_pdq1 w s f n _ (by omega)) trivial rfl ?_
 rintro r o rfl
 refine .nil ?_
 refine AK.endG [] rfl (.nil) (fun w hw => ⟨_, _, ?_, rfl, Ret.of (hw.pick [] (by decide) rfl rfl)⟩)
 rfl

theorem s_compact1 (w : World) (s f : Value) (n : Nat) (cs : List Value) (hn : n ≤ 1) (hr : Rd (fun b => ¬ (fun _ => False) b) w s 3 n cs) : CallS Tryz.prog 115 [s, f] w (fun r o => r = s ∧ o = []) := by
 refine spec_of Tryz.func115 rfl (leb rfl) ?_
 refine .sr fun _ hK1 => ?_
 refine .as rfl (.nt hK1 ?_)
 refine .seq fun _ hK2 => ?_
 refine .sr fun _ hK3 => ?_
 refine .mv rfl ?_
 refine .v (.lenR sl45 rfl rdp) ?_
 refine .v (.lss rfl rfl) ?_
 refine .nt hK3 ?_
 refine AK.cond_t rfl (decide_eq_true (by omega)) ?_
 refine .sr fun _ hK4 => ?_
 refine .mv rfl (.as rfl (.nt hK4 (.ret (.then_ret ?_))))
 refine AK.ret1 rfl rfl (fun w hw => ⟨_, _, ?_, rfl, Ret.of (hw.pick [] (by decide) rfl rfl)⟩)
 exact ⟨rfl, rfl⟩

theorem s_ordered (w : World) (F : Nat → Prop) (s : Value) (ks : List Ex) (ss : List Value) (hl : ss.length = ks.length) (ks' : List Ex) (ho : ordE ks = some ks') (hA : (row s 47 3 ks.length (xcs ks ss)).holds w F) : CallM Tryz.prog 106 [s] w F (fun r A o => ∃ ss', IsSl r ∧ A = row r 47 3 ks'.length (xcs ks' ss') ∧ o = [] ∧ PSub ks' ss' ks ss) := by
 obtain ⟨hn, rfl⟩ := ordE_len ho
 have hsv := row_sl hA
 refine specM_of Tryz.func106 rfl (leb rfl) hA ?_
 refine .sr fun _ hK1 => ?_
 refine .as rfl (.nt hK1 ?_)
 refine .sr fun _ hK2 => ?_
 refine .mv rfl ?_
 refine AK.call co113 rfl (fun w hw => s_sort1 w s _ _ _ hn ((RdS.own 0 rfl w hw).mono fun b _ _ => ⟨id, rfl⟩)) trivial rfl ?_
 rintro r o rfl
 refine .nt hK2 ?_
 refine .sr fun _ hK3 => ?_
 refine .mv rfl ?_
 refine AK.call co115 rfl (fun w hw => s_compact1 w s _ _ _ hn ((RdS.own 0 rfl w hw).mono fun b _ _ => ⟨id, rfl⟩)) trivial rfl ?_
 rintro r o ⟨rfl, rfl⟩
 refine .as rfl (.nt hK3 (.ret ?_))
 refine AK.ret1 rfl rfl (fun w hw => ⟨_, _, _, ?_, rfl, Ret.of (hw.pick [0] (by decide) rfl rfl)⟩)
 exact ⟨ss, hsv, rfl, rfl, PSub.rfl hl⟩

end Go.Proofs.YtafldkjdeompjaaGreatDoor

namespace Go.Proofs.YtafldkjdeompjaaGreatDoor
open Go.Sx Go.RowKit
set_option maxHeartbeats 800000 in
theorem s_joinc (w : World) (F : Nat → Prop) (B : Bs) (l : List Itm) (hB : BsOk B w F) (hA : (forest B l).holds w F) (s : Value) (ks : List Ex) (hm : Itm.deep s ks ∈ l) (j : Ex) (hj : joinC ks = some j) : CallM Tryz.prog 93 [s] w F (fun r A o => ∃ sr l', r = .agg #[.int .i64 j.op, .int .i64 j.lt, sr] ∧ IsSl sr ∧ A = forest B l' ∧ (∀ x ∈ l, x ∈ l') ∧ Itm.deep sr j.kids ∈ l' ∧ o = []) := by
 refine specM_of Tryz.func93 rfl (leb rfl) hA ?_
 refine AK.open2 0 rfl hm fun l1 ss tss h2 => ?_
 refine .sr fun _ hK1 => ?_
 refine AK.alloc el47 rfl rfl trivial rfl (fun bx2 => ?_)
 refine .nt hK1 ?_
 refine .seq fun _ hK2 => ?_
 refine .sr fun _ hK3 => ?_
 refine .mv rfl ?_
 refine AK.call co81 rfl (fun w hw => s_contains w 101 co101 isEmptyE s ks ss h2.o.len h2.o.sls ((RdS.tree hB 0 rfl h2.o.rw w hw).mono fun b _ _ => ⟨id, rfl⟩) (fun w' hfr i hi => s_isempty w' _ _)) trivial rfl ?_
 rintro r o ⟨rfl, rfl⟩
 refine .nt hK3 ?_
 refine AK.cond rfl (fun hc0 => ?_) (fun hc0 => ?_)
 ·try simp only [bs] at hc0
  unfold joinC at hj
  rw [hc0] at hj
  simp only [if_true] at hj
  cases hj
  refine .sr fun _ hK4 => ?_
  refine AK.call co107 rfl (fun w hw => s_empty w) trivial rfl ?_
  rintro r o ⟨rfl, rfl⟩
  refine AK.storeBox 1 (us := [.int .i64 emptyE.op, .int .i64 emptyE.lt, nilV]) (cs' := [.int .i64 emptyE.op, .int .i64 emptyE.lt, nilV]) rfl sz47 rfl rfl rfl rfl oneP (leb rfl) rfl trivial ?_
  refine .nt hK4 (.ret (.then_ret ?_))
  refine AK.add' 0 (.deep nilV []) rfl (fun R => RdK.nil R) (fun l2 hs2 hm2 => ?_)
  refine AK.retG [.cell 2 47] rfl (.cons (.cell ag47 rfl bsp rfl rfl) (.nil)) (fun w hw => ⟨_, _, _, ?_, rfl, Ret.of (hw.pick [0] (by decide) rfl rfl)⟩)
  exact ⟨nilV, l2, rfl, nilSl, rfl, fun x hx => hs2 _ (h2.o.sub x hx), hm2, rfl⟩
 ·try simp only [bs] at hc0
  unfold joinC at hj
  rw [hc0] at hj
  simp only [Bool.false_eq_true, if_false] at hj
  obtain ⟨p, hp, hj⟩ := bind_some hj
  obtain ⟨rfl, hlim⟩ := lim_some hp
  cases hj
  refine .skip ?_
  refine AK.then_ (hK2 _ ?_)
  refine .sr fun _ hK5 => ?_
  refine .mv rfl ?_
  refine AK.call co104 rfl (fun w hw => s_flatten w 5 s ks ss tss h2.o.len h2.tl (fun i hi => (h2.each i hi).len) ((RdS.tree hB 0 rfl h2.o.rw w hw).mono fun b _ _ => ⟨id, rfl⟩) (fun i hi => ((RdS.tree hB 0 rfl (h2.each i hi).rw w hw).mono fun b _ _ => ⟨id, rfl⟩)) h2.o.sls (fun i hi j hj => (h2.each i hi).sls j hj) hlim) trivial rfl ?_
  rintro pv o ⟨spv, rfl⟩
  refine AK.callN 2 rfl co103 rfl (fun w Fs hw hh hfr hal => s_delete w (Fs 2) 108 co108 isUnitE pv (flatE 5 ks) (flatS 5 ks ss tss) (h2.flat 5).1 (fun i hi => ((h2.flat 5).2 i hi).2) (hh.at_ 2 _ rfl) (fun w' hfr2 i hi => s_isunit w' _ _)) trivial rfl ?_
  rintro v2 A o ⟨ss2, sv2, rfl, rfl, ps⟩
  refine .as rfl (.nt hK5 ?_)
  refine .sr fun _ hK6 => ?_
  refine .mv rfl ?_
  refine AK.call co95 rfl (fun w hw => s_unit w) trivial rfl ?_
  rintro r o ⟨rfl, rfl⟩
  refine AK.call co105 rfl (fun w hw => s_collect w 5 v2 _ ss2 ps.len ((RdS.own 2 rfl w hw).mono fun b _ _ => ⟨id, rfl⟩) unitE nilV (ps.sls fun i hi => ((h2.flat 5).2 i hi).2) nilSl) trivial rfl ?_
  rintro r o ⟨sr, rfl, ssr, rfl, hcase⟩
  refine AK.storeBox 1 (us := [.int .i64 (collectE 5 ((flatE 5 ks).filter fun e => !isUnitE e) unitE).op, .int .i64 (collectE 5 ((flatE 5 ks).filter fun e => !isUnitE e) unitE).lt, sr]) (cs' := [.int .i64 (collectE 5 ((flatE 5 ks).filter fun e => !isUnitE e) unitE).op, .int .i64 (collectE 5 ((flatE 5 ks).filter fun e => !isUnitE e) unitE).lt, sr]) rfl sz47 rfl rfl rfl rfl oneP (leb rfl) rfl trivial ?_
  refine .nt hK6 (.ret ?_)
  refine AK.close' 0 2 _ ss2 (by decide) rfl rfl rfl rfl ps.len (ps.deep fun k hk => ((h2.flat 5).2 k hk).1) (fun l2 hs2 hm2 hr2 => ?_)
  refine AK.add' 0 (.deep nilV []) rfl (fun R => RdK.nil R) (fun l3 hs3 hm3 => ?_)
  refine AK.retG [.cell 2 47] rfl (.cons (.cell ag47 rfl bsp rfl rfl) (.nil)) (fun w hw => ⟨_, _, _, ?_, rfl, Ret.of (hw.pick [0] (by decide) rfl rfl)⟩)
  exact ⟨sr, l3, rfl, ssr, rfl, fun x hx => hs3 _ (hs2 _ (h2.o.sub x hx)), collect_deep (fun k hk => hs3 _ (hs2 _ (ps.deep (fun k hk => ((h2.flat 5).2 k hk).1) k hk))) (hs3 _ hm2) hm3 hcase, rfl⟩

set_option maxHeartbeats 800000 in
theorem s_joinu (w : World) (F : Nat → Prop) (B : Bs) (l : List Itm) (hB : BsOk B w F) (hA : (forest B l).holds w F) (s : Value) (ks : List Ex) (hm : Itm.deep s ks ∈ l) (j : Ex) (hj : joinU ks = some j) : CallM Tryz.prog 92 [s] w F (fun r A o => ∃ sr l', r = .agg #[.int .i64 j.op, .int .i64 j.lt, sr] ∧ IsSl sr ∧ A = forest B l' ∧ (∀ x ∈ l, x ∈ l') ∧ Itm.deep sr j.kids ∈ l' ∧ o = []) := by
 refine specM_of Tryz.func92 rfl (leb rfl) hA ?_
 refine AK.open2 0 rfl hm fun l1 ss tss h2 => ?_
 refine .sr fun _ hK1 => ?_
 refine AK.alloc el47 rfl rfl trivial rfl (fun bx2 => ?_)
 refine .nt hK1 ?_
 refine .seq fun _ hK2 => ?_
 refine .sr fun _ hK3 => ?_
 refine .mv rfl ?_
 refine AK.call co81 rfl (fun w hw => s_contains w 84 co84 isUnivE s ks ss h2.o.len h2.o.sls ((RdS.tree hB 0 rfl h2.o.rw w hw).mono fun b _ _ => ⟨id, rfl⟩) (fun w' hfr i hi => s_isuniv w' _ _ ((hw.kidR hB 0 rfl (h2.o.kid i hi)).fr hfr))) trivial rfl ?_
 rintro r o ⟨rfl, rfl⟩
 refine .nt hK3 ?_
 refine AK.cond rfl (fun hc0 => ?_) (fun hc0 => ?_)
 ·try simp only [bs] at hc0
  unfold joinU at hj
  rw [hc0] at hj
  simp only [if_true] at hj
  cases hj
  refine .sr fun _ hK4 => ?_
  refine AK.call co102 rfl (fun w hw => s_univ w) trivial rfl ?_
  rintro r o ⟨us, rfl, rfl⟩
  refine AK.shape 2 rfl (fun sus => ?_)
  refine AK.storeBox 1 (us := [.int .i64 univE.op, .int .i64 univE.lt, us]) (cs' := [.int .i64 univE.op, .int .i64 univE.lt, us]) rfl sz47 rfl rfl rfl rfl oneP (leb rfl) rfl trivial ?_
  refine .nt hK4 (.ret (.then_ret ?_))
  refine AK.add' 0 (.deep nilV []) rfl (fun R => RdK.nil R) (fun l2 hs2 hm2 => ?_)
  refine AK.close' 0 2 [emptyE] [nilV] (by decide) rfl rfl rfl rfl rfl (one_deep hm2) (fun l3 hs3 hm3 hr3 => ?_)
  refine AK.retG [.cell 2 47] rfl (.cons (.cell ag47 rfl bsp rfl rfl) (.nil)) (fun w hw => ⟨_, _, _, ?_, rfl, Ret.of (hw.pick [0] (by decide) rfl rfl)⟩)
  exact ⟨us, l3, rfl, sus, rfl, fun x hx => hs3 _ (hs2 _ (h2.o.sub x hx)), hm3, rfl⟩
 ·try simp only [bs] at hc0
  unfold joinU at hj
  rw [hc0] at hj
  simp only [Bool.false_eq_true, if_false] at hj
  obtain ⟨p, hp, hj⟩ := bind_some hj
  obtain ⟨rfl, hlim⟩ := lim_some hp
  obtain ⟨q, hq, hj⟩ := bind_some hj
  cases hj
  refine .skip ?_
  refine AK.then_ (hK2 _ ?_)
  refine .sr fun _ hK5 => ?_
  refine .mv rfl ?_
  refine AK.call co104 rfl (fun w hw => s_flatten w 4 s ks ss tss h2.o.len h2.tl (fun i hi => (h2.each i hi).len) ((RdS.tree hB 0 rfl h2.o.rw w hw).mono fun b _ _ => ⟨id, rfl⟩) (fun i hi => ((RdS.tree hB 0 rfl (h2.each i hi).rw w hw).mono fun b _ _ => ⟨id, rfl⟩)) h2.o.sls (fun i hi j hj => (h2.each i hi).sls j hj) hlim) trivial rfl ?_
  rintro pv o ⟨spv, rfl⟩
  refine AK.callN 2 rfl co103 rfl (fun w Fs hw hh hfr hal => s_delete w (Fs 2) 101 co101 isEmptyE pv (flatE 4 ks) (flatS 4 ks ss tss) (h2.flat 4).1 (fun i hi => ((h2.flat 4).2 i hi).2) (hh.at_ 2 _ rfl) (fun w' hfr2 i hi => s_isempty w' _ _)) trivial rfl ?_
  rintro v2 A o ⟨ss2, sv2, rfl, rfl, ps⟩
  refine .as rfl (.nt hK5 ?_)
  refine .sr fun _ hK6 => ?_
  refine .mv rfl ?_
  refine AK.callN 2 rfl co106 rfl (fun w Fs hw hh hfr hal => s_ordered w (Fs 2) v2 _ ss2 ps.len q hq (hh.at_ 2 _ rfl)) trivial rfl ?_
  rintro v3 A o ⟨ss3, sv3, rfl, rfl, ps3⟩
  refine AK.call co107 rfl (fun w hw => s_empty w) trivial rfl ?_
  rintro r o ⟨rfl, rfl⟩
  refine AK.call co105 rfl (fun w hw => s_collect w 4 v3 _ ss3 ps3.len ((RdS.own 2 rfl w hw).mono fun b _ _ => ⟨id, rfl⟩) emptyE nilV ((ps3.trans ps).sls fun i hi => ((h2.flat 4).2 i hi).2) nilSl) trivial rfl ?_
  rintro r o ⟨sr, rfl, ssr, rfl, hcase⟩
  refine AK.storeBox 1 (us := [.int .i64 (collectE 4 q emptyE).op, .int .i64 (collectE 4 q emptyE).lt, sr]) (cs' := [.int .i64 (collectE 4 q emptyE).op, .int .i64 (collectE 4 q emptyE).lt, sr]) rfl sz47 rfl rfl rfl rfl oneP (leb rfl) rfl trivial ?_
  refine .nt hK6 (.ret ?_)
  refine AK.close' 0 2 _ ss3 (by decide) rfl rfl rfl rfl ps3.len ((ps3.trans ps).deep fun k hk => ((h2.flat 4).2 k hk).1) (fun l2 hs2 hm2 hr2 => ?_)
  refine AK.add' 0 (.deep nilV []) rfl (fun R => RdK.nil R) (fun l3 hs3 hm3 => ?_)
  refine AK.retG [.cell 2 47] rfl (.cons (.cell ag47 rfl bsp rfl rfl) (.nil)) (fun w hw => ⟨_, _, _, ?_, rfl, Ret.of (hw.pick [0] (by decide) rfl rfl)⟩)
  exact ⟨sr, l3, rfl, ssr, rfl, fun x hx => hs3 _ (hs2 _ (h2.o.sub x hx)), collect_deep (fun k hk => hs3 _ (hs2 _ ((ps3.trans ps).deep (fun k hk => ((h2.flat 4).2 k hk).1) k hk))) (hs3 _ hm2) hm3 hcase, rfl⟩

set_option maxHeartbeats 800000 in
theorem s_joina (w : World) (F : Nat → Prop) (B : Bs) (l : List Itm) (hB : BsOk B w F) (hA : (forest B l).holds w F) (s : Value) (ks : List Ex) (hm : Itm.deep s ks ∈ l) (j : Ex) (hj : joinA ks = some j) : CallM Tryz.prog 94 [s] w F (fun r A o => ∃ sr l', r = .agg #[.int .i64 j.op, .int .i64 j.lt, sr] ∧ IsSl sr ∧ A = forest B l' ∧ (∀ x ∈ l, x ∈ l') ∧ Itm.deep sr j.kids ∈ l' ∧ o = []) := by
 refine specM_of Tryz.func94 rfl (leb rfl) hA ?_
 refine AK.open2 0 rfl hm fun l1 ss tss h2 => ?_
 refine .sr fun _ hK1 => ?_
 refine AK.alloc el47 rfl rfl trivial rfl (fun bx2 => ?_)
 refine .nt hK1 ?_
 refine .seq fun _ hK2 => ?_
 refine .sr fun _ hK3 => ?_
 refine .mv rfl ?_
 refine AK.call co81 rfl (fun w hw => s_contains w 101 co101 isEmptyE s ks ss h2.o.len h2.o.sls ((RdS.tree hB 0 rfl h2.o.rw w hw).mono fun b _ _ => ⟨id, rfl⟩) (fun w' hfr i hi => s_isempty w' _ _)) trivial rfl ?_
 rintro r o ⟨rfl, rfl⟩
 refine .nt hK3 ?_
 refine AK.cond rfl (fun hc0 => ?_) (fun hc0 => ?_)
 ·try simp only [bs] at hc0
  unfold joinA at hj
  rw [hc0] at hj
  simp only [if_true] at hj
  cases hj
  refine .sr fun _ hK4 => ?_
  refine AK.call co107 rfl (fun w hw => s_empty w) trivial rfl ?_
  rintro r o ⟨rfl, rfl⟩
  refine AK.storeBox 1 (us := [.int .i64 emptyE.op, .int .i64 emptyE.lt, nilV]) (cs' := [.int .i64 emptyE.op, .int .i64 emptyE.lt, nilV]) rfl sz47 rfl rfl rfl rfl oneP (leb rfl) rfl trivial ?_
  refine .nt hK4 (.ret (.then_ret ?_))
  refine AK.add' 0 (.deep nilV []) rfl (fun R => RdK.nil R) (fun l2 hs2 hm2 => ?_)
  refine AK.retG [.cell 2 47] rfl (.cons (.cell ag47 rfl bsp rfl rfl) (.nil)) (fun w hw => ⟨_, _, _, ?_, rfl, Ret.of (hw.pick [0] (by decide) rfl rfl)⟩)
  exact ⟨nilV, l2, rfl, nilSl, rfl, fun x hx => hs2 _ (h2.o.sub x hx), hm2, rfl⟩
 ·try simp only [bs] at hc0
  unfold joinA at hj
  rw [hc0] at hj
  simp only [Bool.false_eq_true, if_false] at hj
  obtain ⟨p, hp, hj⟩ := bind_some hj
  obtain ⟨rfl, hlim⟩ := lim_some hp
  obtain ⟨q, hq, hj⟩ := bind_some hj
  cases hj
  refine .skip ?_
  refine AK.then_ (hK2 _ ?_)
  refine .sr fun _ hK5 => ?_
  refine .mv rfl ?_
  refine AK.call co104 rfl (fun w hw => s_flatten w 6 s ks ss tss h2.o.len h2.tl (fun i hi => (h2.each i hi).len) ((RdS.tree hB 0 rfl h2.o.rw w hw).mono fun b _ _ => ⟨id, rfl⟩) (fun i hi => ((RdS.tree hB 0 rfl (h2.each i hi).rw w hw).mono fun b _ _ => ⟨id, rfl⟩)) h2.o.sls (fun i hi j hj => (h2.each i hi).sls j hj) hlim) trivial rfl ?_
  rintro pv o ⟨spv, rfl⟩
  refine AK.callN 2 rfl co103 rfl (fun w Fs hw hh hfr hal => s_delete w (Fs 2) 84 co84 isUnivE pv (flatE 6 ks) (flatS 6 ks ss tss) (h2.flat 6).1 (fun i hi => ((h2.flat 6).2 i hi).2) (hh.at_ 2 _ rfl) (fun w' hfr2 i hi => s_isuniv w' _ _ ((hh.kidR hB 0 2 (by decide) rfl ((h2.flat 6).2 i hi).1 hfr hal).fr hfr2).wk)) trivial rfl ?_
  rintro v2 A o ⟨ss2, sv2, rfl, rfl, ps⟩
  refine .as rfl (.nt hK5 ?_)
  refine .sr fun _ hK6 => ?_
  refine .mv rfl ?_
  refine AK.callN 2 rfl co106 rfl (fun w Fs hw hh hfr hal => s_ordered w (Fs 2) v2 _ ss2 ps.len q hq (hh.at_ 2 _ rfl)) trivial rfl ?_
  rintro v3 A o ⟨ss3, sv3, rfl, rfl, ps3⟩
  refine AK.call co102 rfl (fun w hw => s_univ w) trivial rfl ?_
  rintro r o ⟨us, rfl, rfl⟩
  refine AK.shape 3 rfl (fun sus => ?_)
  refine AK.call co105 rfl (fun w hw => s_collect w 6 v3 _ ss3 ps3.len ((RdS.own 2 rfl w hw).mono fun b _ _ => ⟨id, rfl⟩) univE us ((ps3.trans ps).sls fun i hi => ((h2.flat 6).2 i hi).2) sus) trivial rfl ?_
  rintro r o ⟨sr, rfl, ssr, rfl, hcase⟩
  refine AK.storeBox 1 (us := [.int .i64 (collectE 6 q univE).op, .int .i64 (collectE 6 q univE).lt, sr]) (cs' := [.int .i64 (collectE 6 q univE).op, .int .i64 (collectE 6 q univE).lt, sr]) rfl sz47 rfl rfl rfl rfl oneP (leb rfl) rfl trivial ?_
  refine .nt hK6 (.ret ?_)
  refine AK.close' 0 2 _ ss3 (by decide) rfl rfl rfl rfl ps3.len ((ps3.trans ps).deep fun k hk => ((h2.flat 6).2 k hk).1) (fun l2 hs2 hm2 hr2 => ?_)
  refine AK.add' 0 (.deep nilV []) rfl (fun R => RdK.nil R) (fun l3 hs3 hm3 => ?_)
  refine AK.close' 0 3 [emptyE] [nilV] (by decide) rfl rfl rfl rfl rfl (one_deep hm3) (fun l4 hs4 hm4 hr4 => ?_)
  refine AK.retG [.cell 2 47] rfl (.cons (.cell ag47 rfl bsp rfl rfl) (.nil)) (fun w hw => ⟨_, _, _, ?_, rfl, Ret.of (hw.pick [0] (by decide) rfl rfl)⟩)
  exact ⟨sr, l4, rfl, ssr, rfl, fun x hx => hs4 _ (hs3 _ (hs2 _ (h2.o.sub x hx))), collect_deep (fun k hk => hs4 _ (hs3 _ (hs2 _ ((ps3.trans ps).deep (fun k hk => ((h2.flat 6).2 k hk).1) k hk)))) (hs4 _ (hs3 _ hm2)) hm4 hcase, rfl⟩

end Go.Proofs.YtafldkjdeompjaaGreatDoor

namespace Go.Proofs.YtafldkjdeompjaaGreatDoor
open Go.Sx Go.RowKit
set_option maxHeartbeats 2000000 in
theorem s_join (w : World) (F : Nat → Prop) (B : Bs) (l : List Itm) (hB : BsOk B w F) (hA : (forest B l).holds w F) (op : Int) (s : Value) (ks : List Ex) (hm : Itm.deep s ks ∈ l) (j : Ex) (hj : joinE op ks = some j) : CallM Tryz.prog 76 [.int .i64 op, s] w F (fun r A o => ∃ sr l', r = .agg #[.int .i64 j.op, .int .i64 j.lt, sr] ∧ IsSl sr ∧ A = forest B l' ∧ (∀ x ∈ l, x ∈ l') ∧ Itm.deep sr j.kids ∈ l' ∧ o = []) := by
 refine specM_of Tryz.func76 rfl (leb rfl) hA ?_
 refine AK.open2 0 rfl hm fun l1 ss tss h2 => ?_
 have hmx := h2.o.mx'
 refine .sr fun _ hK1 => ?_
 refine AK.alloc el47 rfl rfl trivial rfl (fun bx4 => ?_)
 refine .nt hK1 ?_
 refine .seq fun _ hK2 => ?_
 refine .sr fun _ hK3 => ?_
 refine .mv rfl (.nt hK3 (.block ?_))
 refine .sr fun _ hK4 => ?_
 refine .v (.eql rfl rfl) ?_
 refine .as rfl (.nt hK4 ?_)
 refine AK.condD rfl (fun hc0 => ?_) (fun hc0 => ?_)
 ·refine .sr fun _ hK5 => ?_
  refine .mv rfl ?_
  refine AK.callN 0 rfl co92 rfl (fun w Fs hw hh hfr hal => s_joinu w (Fs 0) B l1 (hB.later hfr hal 0) (hh.at_ 0 _ rfl) s ks (h2.o.sub _ hm) j (by rw [joinE, if_pos hc0] at hj; exact hj)) trivial rfl ?_
  rintro r A o ⟨sr, l2, rfl, ssr, rfl, hs2, hm2, rfl⟩
  refine AK.storeBox 1 (us := [.int .i64 j.op, .int .i64 j.lt, sr]) (cs' := [.int .i64 j.op, .int .i64 j.lt, sr]) rfl sz47 rfl rfl rfl rfl oneP (leb rfl) rfl trivial ?_
  refine .nt hK5 (.ret (.block_ret (.then_ret ?_)))
  refine AK.retG [.cell 4 47] rfl (.cons (.cell ag47 rfl bsp rfl rfl) (.nil)) (fun w hw => ⟨_, _, _, ?_, rfl, Ret.of (hw.pick [0] (by decide) rfl rfl)⟩)
  exact ⟨sr, l2, rfl, ssr, rfl, fun x hx => hs2 _ (h2.o.sub x hx), hm2, rfl⟩
 ·refine .sr fun _ hK6 => ?_
  refine .v (.eql rfl rfl) ?_
  refine .as rfl (.nt hK6 ?_)
  refine AK.condD rfl (fun hc1 => ?_) (fun hc1 => ?_)
  ·refine .sr fun _ hK7 => ?_
   refine .mv rfl ?_
   refine AK.callN 0 rfl co93 rfl (fun w Fs hw hh hfr hal => s_joinc w (Fs 0) B l1 (hB.later hfr hal 0) (hh.at_ 0 _ rfl) s ks (h2.o.sub _ hm) j (by rw [joinE, if_neg hc0, if_pos hc1] at hj; exact hj)) trivial rfl ?_
   rintro r A o ⟨sr, l2, rfl, ssr, rfl, hs2, hm2, rfl⟩
   refine AK.storeBox 1 (us := [.int .i64 j.op, .int .i64 j.lt, sr]) (cs' := [.int .i64 j.op, .int .i64 j.lt, sr]) rfl sz47 rfl rfl rfl rfl oneP (leb rfl) rfl trivial ?_
   refine .nt hK7 (.ret (.block_ret (.then_ret ?_)))
   refine AK.retG [.cell 4 47] rfl (.cons (.cell ag47 rfl bsp rfl rfl) (.nil)) (fun w hw => ⟨_, _, _, ?_, rfl, Ret.of (hw.pick [0] (by decide) rfl rfl)⟩)
   exact ⟨sr, l2, rfl, ssr, rfl, fun x hx => hs2 _ (h2.o.sub x hx), hm2, rfl⟩
  ·refine .sr fun _ hK8 => ?_
   refine .v (.eql rfl rfl) ?_
   refine .as rfl (.nt hK8 ?_)
   refine AK.condD rfl (fun hc2 => ?_) (fun hc2 => ?_)
   ·refine .sr fun _ hK9 => ?_
    refine .mv rfl ?_
    refine AK.callN 0 rfl co94 rfl (fun w Fs hw hh hfr hal => s_joina w (Fs 0) B l1 (hB.later hfr hal 0) (hh.at_ 0 _ rfl) s ks (h2.o.sub _ hm) j (by rw [joinE, if_neg hc0, if_neg hc1, if_pos hc2] at hj; exact hj)) trivial rfl ?_
    rintro r A o ⟨sr, l2, rfl, ssr, rfl, hs2, hm2, rfl⟩
    refine AK.storeBox 1 (us := [.int .i64 j.op, .int .i64 j.lt, sr]) (cs' := [.int .i64 j.op, .int .i64 j.lt, sr]) rfl sz47 rfl rfl rfl rfl oneP (leb rfl) rfl trivial ?_
    refine .nt hK9 (.ret (.block_ret (.then_ret ?_)))
    refine AK.retG [.cell 4 47] rfl (.cons (.cell ag47 rfl bsp rfl rfl) (.nil)) (fun w hw => ⟨_, _, _, ?_, rfl, Ret.of (hw.pick [0] (by decide) rfl rfl)⟩)
    exact ⟨sr, l2, rfl, ssr, rfl, fun x hx => hs2 _ (h2.o.sub x hx), hm2, rfl⟩
   ·refine .skip (.block_normal ?_)
    refine AK.then_ (hK2 _ ?_)
    refine .seq fun _ hK10 => ?_
    refine .sr fun _ hK11 => ?_
    refine .mv rfl ?_
    refine .v (.lenR sl45 rfl (by first | exact rdp | exact RdS.tree hB 0 rfl h2.o.rw | exact RdS.tree hB 0 rfl h20.rw)) ?_
    refine .v (.neq rfl rfl) ?_
    refine .nt hK11 ?_
    refine AK.condNe rfl (fun hc3 => ?_) (fun hc3 => ?_)
    ·rw [joinE, if_neg hc0, if_neg hc1, if_neg hc2, if_neg (by omega)] at hj
     cases hj
     refine .sr fun _ hK12 => ?_
     refine .v (.build (parts := []) (cs := #[.int .i64 0, .int .i64 0, .slice none 0 0]) rfl (by kernel_rfl)) ?_
     refine AK.storeBox 1 (us := [.int .i64 e0.op, .int .i64 e0.lt, nilV]) (cs' := [.int .i64 e0.op, .int .i64 e0.lt, nilV]) rfl sz47 rfl rfl rfl rfl oneP (leb rfl) rfl trivial ?_
     refine .nt hK12 (.ret (.then_ret ?_))
     refine AK.add' 0 (.deep nilV []) rfl (fun R => RdK.nil R) (fun l2 hs2 hm2 => ?_)
     refine AK.retG [.cell 4 47] rfl (.cons (.cell ag47 rfl bsp rfl rfl) (.nil)) (fun w hw => ⟨_, _, _, ?_, rfl, Ret.of (hw.pick [0] (by decide) rfl rfl)⟩)
     exact ⟨nilV, l2, rfl, nilSl, rfl, fun x hx => hs2 _ (h2.o.sub x hx), hm2, rfl⟩
    ·have hk1 : ks.length = 1 := by omega
     rw [joinE, if_neg hc0, if_neg hc1, if_neg hc2, if_pos hk1] at hj
     cases hj
     have h20 := h2.each 0 (by omega)
     have hmx0 := h20.mx'
     have sk := h2.o.sls 0 (by omega)
     refine .skip ?_
     refine AK.then_ (hK10 _ ?_)
     refine .sr fun _ hK13 => ?_
     refine .mv rfl ?_
     refine .v (.idxN (k := 0) sl45 rfl rfl (by first | exact rdp | exact RdS.tree hB 0 rfl h2.o.rw | exact RdS.tree hB 0 rfl h20.rw) (by decide) (by omega)) ?_
     refine .v (.loadE ag47 rfl (by first | exact rdp | exact RdS.tree hB 0 rfl h2.o.rw | exact RdS.tree hB 0 rfl h20.rw) (h2.o.len) rfl (by omega)) ?_
     refine AK.alloc el47 rfl rfl trivial rfl (fun bx5 => ?_)
     refine AK.storeBox 2 (us := [.int .i64 (ks.getD 0 default).op, .int .i64 (ks.getD 0 default).lt, ss.getD 0 undef]) (cs' := [.int .i64 (ks.getD 0 default).op, .int .i64 (ks.getD 0 default).lt, ss.getD 0 undef]) rfl sz47 rfl rfl rfl rfl oneP (leb rfl) rfl trivial ?_
     refine .nt hK13 ?_
     refine .seq fun _ hK14 => ?_
     refine .sr fun _ hK15 => ?_
     refine .mv rfl (.nt hK15 (.block ?_))
     refine .sr fun _ hK16 => ?_
     refine .v (.eql rfl rfl) ?_
     refine .as rfl (.nt hK16 ?_)
     refine AK.condD rfl (fun hc4 => ?_) (fun hc4 => ?_)
     ·refine .seq fun _ hK17 => ?_
      refine .sr fun _ hK18 => ?_
      refine .v (.fieldAddr fd47_0 rfl) ?_
      refine .v (.loadBox on3 rfl bsp rfl) ?_
      refine .v (.eql rfl rfl) ?_
      refine .mv rfl ?_
      refine AK.splitB (g := 32) rfl (fun hg_13_3 => ?_) (fun hg_13_3 => ?_)
      ·have hg_13_3' := hg_13_3
       try simp only [bs] at hg_13_3'
       refine AK.val _ (Yl.fieldAddr fd47_2 rfl) ⟨_, rfl, gB hg_13_3⟩ rfl ?_
       refine AK.val _ (Yl.loadBox on45 rfl bsp rfl) ⟨_, rfl, gB hg_13_3⟩ rfl ?_
       refine AK.val _ (Yl.lenR sl45 rfl (by first | exact rdp | exact RdS.tree hB 0 rfl h2.o.rw | exact RdS.tree hB 0 rfl h20.rw)) ⟨_, rfl, gB hg_13_3⟩ rfl ?_
       refine AK.val _ (Yl.eql rfl rfl) ⟨_, rfl, gB hg_13_3⟩ rfl ?_
       refine .v (.pickT rfl (hg_13_3) rfl) ?_
       refine .nt hK18 ?_
       refine AK.condD rfl (fun hc5 => ?_) (fun hc5 => ?_)
       ·have hkk : (ks.getD 0 default).op = 8 ∧ (ks.getD 0 default).kids.length = 1 := ⟨hg_13_3', by omega⟩
        have sk0 := h20.sls 0 (by omega)
        refine .sr fun _ hK19 => ?_
        refine .v (.fieldAddr fd47_2 rfl) ?_
        refine .v (.loadBox on45 rfl bsp rfl) ?_
        refine .v (.idxN (k := 0) sl45 rfl rfl (by first | exact rdp | exact RdS.tree hB 0 rfl h2.o.rw | exact RdS.tree hB 0 rfl h20.rw) (by decide) (by omega)) ?_
        refine .v (.loadE ag47 rfl (by first | exact rdp | exact RdS.tree hB 0 rfl h2.o.rw | exact RdS.tree hB 0 rfl h20.rw) (h20.len) rfl (by omega)) ?_
        refine AK.storeBox 1 (us := [.int .i64 ((ks.getD 0 default).kids.getD 0 default).op, .int .i64 ((ks.getD 0 default).kids.getD 0 default).lt, (tss.getD 0 []).getD 0 undef]) (cs' := [.int .i64 ((ks.getD 0 default).kids.getD 0 default).op, .int .i64 ((ks.getD 0 default).kids.getD 0 default).lt, (tss.getD 0 []).getD 0 undef]) rfl sz47 rfl rfl rfl rfl oneP (leb rfl) rfl trivial ?_
        refine .nt hK19 (.ret (.then_ret (.block_ret (.then_ret ?_))))
        refine AK.retG [.cell 4 47] rfl (.cons (.cell ag47 rfl bsp rfl rfl) (.nil)) (fun w hw => ⟨_, _, _, ?_, rfl, Ret.of (hw.pick [0] (by decide) rfl rfl)⟩)
        rw [show join1 op (ks.getD 0 default) = (ks.getD 0 default).kids.getD 0 default from by unfold join1; rw [if_pos hc4, if_pos hkk]]
        exact ⟨(tss.getD 0 []).getD 0 undef, l1, rfl, sk0, rfl, h2.o.sub, h20.kid 0 (by omega), rfl⟩
       ·refine .skip ?_
        refine AK.then_ (hK17 _ ?_)
        refine .sr fun _ hK20 => ?_
        refine .v (.loadBoxG ag47 rfl bsp rfl rfl) ?_
        refine AK.lit (xs := [.tmp 42]) sl45 el47 rfl rfl rfl (by simp [Value.cells]) (by decide) (by decide) trivial rfl (fun lv => ?_)
        refine AK.shape 3 rfl (fun slv => ?_)
        refine .v (.build (parts := [(0, .const (.int .i64 8)), (2, .tmp 43)]) (cs := #[.int .i64 8, .int .i64 0, lv]) rfl (by obtain ⟨_, _, _, rfl⟩ := slv; kernel_rfl)) ?_
        refine AK.storeBox 1 (us := [.int .i64 8, .int .i64 0, lv]) (cs' := [.int .i64 8, .int .i64 0, lv]) rfl sz47 rfl rfl rfl rfl oneP (leb rfl) rfl trivial ?_
        refine .nt hK20 (.ret (.block_ret (.then_ret ?_)))
        refine AK.close' 0 3 [(ks.getD 0 default)] [ss.getD 0 undef] (by decide) rfl rfl rfl rfl rfl (one_deep (h2.o.kid 0 (by omega))) (fun l2 hs2 hm2 hr2 => ?_)
        refine AK.retG [.cell 4 47] rfl (.cons (.cell ag47 rfl bsp rfl rfl) (.nil)) (fun w hw => ⟨_, _, _, ?_, rfl, Ret.of (hw.pick [0] (by decide) rfl rfl)⟩)
        rw [show join1 op (ks.getD 0 default) = .mk 8 0 [(ks.getD 0 default)] from by unfold join1; rw [if_pos hc4, if_neg (by rintro ⟨a, b⟩; first | exact hg_13_3' a | omega)]]
        exact ⟨lv, l2, rfl, slv, rfl, fun x hx => hs2 _ (h2.o.sub x hx), hm2, rfl⟩
      ·have hg_13_3' := hg_13_3
       try simp only [bs] at hg_13_3'
       refine AK.pass rfl rfl (hg_13_3) rfl ?_
       refine AK.pass rfl rfl (hg_13_3) rfl ?_
       refine AK.pass rfl rfl (hg_13_3) rfl ?_
       refine AK.pass rfl rfl (hg_13_3) rfl ?_
       refine .v (.pickF rfl (hg_13_3) rfl) ?_
       refine .nt hK18 ?_
       refine AK.cond_f rfl (rfl) ?_
       refine .skip ?_
       refine AK.then_ (hK17 _ ?_)
       refine .sr fun _ hK21 => ?_
       refine .v (.loadBoxG ag47 rfl bsp rfl rfl) ?_
       refine AK.lit (xs := [.tmp 42]) sl45 el47 rfl rfl rfl (by simp [Value.cells]) (by decide) (by decide) trivial rfl (fun lv => ?_)
       refine AK.shape 3 rfl (fun slv => ?_)
       refine .v (.build (parts := [(0, .const (.int .i64 8)), (2, .tmp 43)]) (cs := #[.int .i64 8, .int .i64 0, lv]) rfl (by obtain ⟨_, _, _, rfl⟩ := slv; kernel_rfl)) ?_
       refine AK.storeBox 1 (us := [.int .i64 8, .int .i64 0, lv]) (cs' := [.int .i64 8, .int .i64 0, lv]) rfl sz47 rfl rfl rfl rfl oneP (leb rfl) rfl trivial ?_
       refine .nt hK21 (.ret (.block_ret (.then_ret ?_)))
       refine AK.close' 0 3 [(ks.getD 0 default)] [ss.getD 0 undef] (by decide) rfl rfl rfl rfl rfl (one_deep (h2.o.kid 0 (by omega))) (fun l2 hs2 hm2 hr2 => ?_)
       refine AK.retG [.cell 4 47] rfl (.cons (.cell ag47 rfl bsp rfl rfl) (.nil)) (fun w hw => ⟨_, _, _, ?_, rfl, Ret.of (hw.pick [0] (by decide) rfl rfl)⟩)
       rw [show join1 op (ks.getD 0 default) = .mk 8 0 [(ks.getD 0 default)] from by unfold join1; rw [if_pos hc4, if_neg (by rintro ⟨a, b⟩; first | exact hg_13_3' a | omega)]]
       exact ⟨lv, l2, rfl, slv, rfl, fun x hx => hs2 _ (h2.o.sub x hx), hm2, rfl⟩
     ·refine .sr fun _ hK22 => ?_
      refine .v (.eql rfl rfl) ?_
      refine .as rfl (.nt hK22 ?_)
      refine AK.condD rfl (fun hc6 => ?_) (fun hc6 => ?_)
      ·refine .seq fun _ hK23 => ?_
       refine .block ?_
       refine .sr fun _ hK24 => ?_
       refine .v (.fieldAddr fd47_0 rfl) ?_
       refine .v (.loadBox on3 rfl bsp rfl) ?_
       refine .v (.eql rfl rfl) ?_
       refine .mv rfl ?_
       refine AK.splitB (g := 51) rfl (fun hg_17_3 => ?_) (fun hg_17_3 => ?_)
       ·have hg_17_3' := hg_17_3
        try simp only [bs] at hg_17_3'
        refine AK.pass rfl rfl (hg_17_3) rfl ?_
        refine AK.pass rfl rfl (hg_17_3) rfl ?_
        refine AK.pass rfl rfl (hg_17_3) rfl ?_
        refine .v (.pickT rfl (hg_17_3) rfl) ?_
        refine .as rfl (.nt hK24 ?_)
        refine AK.cond_t rfl (rfl) ?_
        refine .sr fun _ hK25 => ?_
        refine AK.call co95 rfl (fun w hw => s_unit w) trivial rfl ?_
        rintro r o ⟨rfl, rfl⟩
        refine AK.storeBox 1 (us := [.int .i64 unitE.op, .int .i64 unitE.lt, nilV]) (cs' := [.int .i64 unitE.op, .int .i64 unitE.lt, nilV]) rfl sz47 rfl rfl rfl rfl oneP (leb rfl) rfl trivial ?_
        refine .nt hK25 (.ret (.block_ret (.then_ret (.block_ret (.then_ret ?_)))))
        refine AK.add' 0 (.deep nilV []) rfl (fun R => RdK.nil R) (fun l2 hs2 hm2 => ?_)
        refine AK.retG [.cell 4 47] rfl (.cons (.cell ag47 rfl bsp rfl rfl) (.nil)) (fun w hw => ⟨_, _, _, ?_, rfl, Ret.of (hw.pick [0] (by decide) rfl rfl)⟩)
        rw [show join1 op (ks.getD 0 default) = unitE from by unfold join1; rw [if_neg hc4, if_pos hc6, if_pos (by first | exact .inl hg_17_3' | exact .inr hc7)]]
        exact ⟨nilV, l2, rfl, nilSl, rfl, fun x hx => hs2 _ (h2.o.sub x hx), hm2, rfl⟩
       ·have hg_17_3' := hg_17_3
        try simp only [bs] at hg_17_3'
        refine AK.val _ (Yl.fieldAddr fd47_0 rfl) ⟨_, rfl, gB hg_17_3⟩ rfl ?_
        refine AK.val _ (Yl.loadBox on3 rfl bsp rfl) ⟨_, rfl, gB hg_17_3⟩ rfl ?_
        refine AK.val _ (Yl.eql rfl rfl) ⟨_, rfl, gB hg_17_3⟩ rfl ?_
        refine .v (.pickF rfl (hg_17_3) rfl) ?_
        refine .as rfl (.nt hK24 ?_)
        refine AK.condD rfl (fun hc7 => ?_) (fun hc7 => ?_)
        ·refine .sr fun _ hK26 => ?_
         refine AK.call co95 rfl (fun w hw => s_unit w) trivial rfl ?_
         rintro r o ⟨rfl, rfl⟩
         refine AK.storeBox 1 (us := [.int .i64 unitE.op, .int .i64 unitE.lt, nilV]) (cs' := [.int .i64 unitE.op, .int .i64 unitE.lt, nilV]) rfl sz47 rfl rfl rfl rfl oneP (leb rfl) rfl trivial ?_
         refine .nt hK26 (.ret (.block_ret (.then_ret (.block_ret (.then_ret ?_)))))
         refine AK.add' 0 (.deep nilV []) rfl (fun R => RdK.nil R) (fun l2 hs2 hm2 => ?_)
         refine AK.retG [.cell 4 47] rfl (.cons (.cell ag47 rfl bsp rfl rfl) (.nil)) (fun w hw => ⟨_, _, _, ?_, rfl, Ret.of (hw.pick [0] (by decide) rfl rfl)⟩)
         rw [show join1 op (ks.getD 0 default) = unitE from by unfold join1; rw [if_neg hc4, if_pos hc6, if_pos (by first | exact .inl hg_17_3' | exact .inr hc7)]]
         exact ⟨nilV, l2, rfl, nilSl, rfl, fun x hx => hs2 _ (h2.o.sub x hx), hm2, rfl⟩
        ·refine .sr fun _ hK27 => ?_
         refine .v (.fieldAddr fd47_0 rfl) ?_
         refine .v (.loadBox on3 rfl bsp rfl) ?_
         refine .v (.eql rfl rfl) ?_
         refine .mv rfl ?_
         refine AK.splitB (g := 61) rfl (fun hg_19_3 => ?_) (fun hg_19_3 => ?_)
         ·have hg_19_3' := hg_19_3
          try simp only [bs] at hg_19_3'
          refine AK.pass rfl rfl (hg_19_3) rfl ?_
          refine AK.pass rfl rfl (hg_19_3) rfl ?_
          refine .v (.pickT rfl (hg_19_3) rfl) ?_
          refine .as rfl (.nt hK27 ?_)
          refine AK.cond_t rfl (rfl) ?_
          refine .sr fun _ hK28 => ?_
          refine .v (.loadBoxG ag47 rfl bsp rfl rfl) ?_
          refine AK.storeBox 1 (us := [.int .i64 (ks.getD 0 default).op, .int .i64 (ks.getD 0 default).lt, ss.getD 0 undef]) (cs' := [.int .i64 (ks.getD 0 default).op, .int .i64 (ks.getD 0 default).lt, ss.getD 0 undef]) rfl sz47 rfl rfl rfl rfl oneP (leb rfl) rfl trivial ?_
          refine .nt hK28 (.ret (.block_ret (.then_ret (.block_ret (.then_ret ?_)))))
          refine AK.retG [.cell 4 47] rfl (.cons (.cell ag47 rfl bsp rfl rfl) (.nil)) (fun w hw => ⟨_, _, _, ?_, rfl, Ret.of (hw.pick [0] (by decide) rfl rfl)⟩)
          rw [show join1 op (ks.getD 0 default) = (ks.getD 0 default) from by unfold join1; rw [if_neg hc4, if_pos hc6, if_neg (by rintro (h | h); exact hg_17_3' h; exact hc7 h), if_pos (by first | exact .inl hg_19_3' | exact .inr hc8)]]
          exact ⟨ss.getD 0 undef, l1, rfl, sk, rfl, h2.o.sub, h2.o.kid 0 (by omega), rfl⟩
         ·have hg_19_3' := hg_19_3
          try simp only [bs] at hg_19_3'
          refine AK.val _ (Yl.loadBoxG ag47 rfl bsp rfl rfl) ⟨_, rfl, gB hg_19_3⟩ rfl ?_
          refine AK.call co84 rfl (fun w hw => s_isuniv w (ks.getD 0 default) _ (hw.kidR hB 0 rfl (h2.o.kid 0 (by omega)))) ⟨_, rfl, gB hg_19_3⟩ rfl ?_
          rintro r o ⟨rfl, rfl⟩
          refine .v (.pickF rfl (hg_19_3) rfl) ?_
          refine .as rfl (.nt hK27 ?_)
          refine AK.cond rfl (fun hc8 => ?_) (fun hc8 => ?_)
          ·try simp only [bs] at hc8
           refine .sr fun _ hK29 => ?_
           refine .v (.loadBoxG ag47 rfl bsp rfl rfl) ?_
           refine AK.storeBox 1 (us := [.int .i64 (ks.getD 0 default).op, .int .i64 (ks.getD 0 default).lt, ss.getD 0 undef]) (cs' := [.int .i64 (ks.getD 0 default).op, .int .i64 (ks.getD 0 default).lt, ss.getD 0 undef]) rfl sz47 rfl rfl rfl rfl oneP (leb rfl) rfl trivial ?_
           refine .nt hK29 (.ret (.block_ret (.then_ret (.block_ret (.then_ret ?_)))))
           refine AK.retG [.cell 4 47] rfl (.cons (.cell ag47 rfl bsp rfl rfl) (.nil)) (fun w hw => ⟨_, _, _, ?_, rfl, Ret.of (hw.pick [0] (by decide) rfl rfl)⟩)
           rw [show join1 op (ks.getD 0 default) = (ks.getD 0 default) from by unfold join1; rw [if_neg hc4, if_pos hc6, if_neg (by rintro (h | h); exact hg_17_3' h; exact hc7 h), if_pos (by first | exact .inl hg_19_3' | exact .inr hc8)]]
           exact ⟨ss.getD 0 undef, l1, rfl, sk, rfl, h2.o.sub, h2.o.kid 0 (by omega), rfl⟩
          ·try simp only [bs] at hc8
           refine .skip (.block_normal ?_)
           refine AK.then_ (hK23 _ ?_)
           refine .sr fun _ hK30 => ?_
           refine .v (.loadBoxG ag47 rfl bsp rfl rfl) ?_
           refine AK.lit (xs := [.tmp 66]) sl45 el47 rfl rfl rfl (by simp [Value.cells]) (by decide) (by decide) trivial rfl (fun lv => ?_)
           refine AK.shape 3 rfl (fun slv => ?_)
           refine .v (.build (parts := [(0, .const (.int .i64 7)), (2, .tmp 67)]) (cs := #[.int .i64 7, .int .i64 0, lv]) rfl (by obtain ⟨_, _, _, rfl⟩ := slv; kernel_rfl)) ?_
           refine AK.storeBox 1 (us := [.int .i64 7, .int .i64 0, lv]) (cs' := [.int .i64 7, .int .i64 0, lv]) rfl sz47 rfl rfl rfl rfl oneP (leb rfl) rfl trivial ?_
           refine .nt hK30 (.ret (.block_ret (.then_ret ?_)))
           refine AK.close' 0 3 [(ks.getD 0 default)] [ss.getD 0 undef] (by decide) rfl rfl rfl rfl rfl (one_deep (h2.o.kid 0 (by omega))) (fun l2 hs2 hm2 hr2 => ?_)
           refine AK.retG [.cell 4 47] rfl (.cons (.cell ag47 rfl bsp rfl rfl) (.nil)) (fun w hw => ⟨_, _, _, ?_, rfl, Ret.of (hw.pick [0] (by decide) rfl rfl)⟩)
           rw [show join1 op (ks.getD 0 default) = .mk 7 0 [(ks.getD 0 default)] from by unfold join1; rw [if_neg hc4, if_pos hc6, if_neg (by rintro (h | h); exact hg_17_3' h; exact hc7 h), if_neg (by rintro (h | h); exact hg_19_3' h; rw [hc8] at h; cases h)]]
           exact ⟨lv, l2, rfl, slv, rfl, fun x hx => hs2 _ (h2.o.sub x hx), hm2, rfl⟩
      ·refine .skip (.block_normal ?_)
       refine AK.then_ (hK14 _ ?_)
       refine .sr fun _ hK31 => ?_
       refine .v (.build (parts := []) (cs := #[.int .i64 0, .int .i64 0, .slice none 0 0]) rfl (by kernel_rfl)) ?_
       refine AK.storeBox 1 (us := [.int .i64 e0.op, .int .i64 e0.lt, nilV]) (cs' := [.int .i64 e0.op, .int .i64 e0.lt, nilV]) rfl sz47 rfl rfl rfl rfl oneP (leb rfl) rfl trivial ?_
       refine .nt hK31 (.ret ?_)
       refine AK.add' 0 (.deep nilV []) rfl (fun R => RdK.nil R) (fun l2 hs2 hm2 => ?_)
       refine AK.retG [.cell 4 47] rfl (.cons (.cell ag47 rfl bsp rfl rfl) (.nil)) (fun w hw => ⟨_, _, _, ?_, rfl, Ret.of (hw.pick [0] (by decide) rfl rfl)⟩)
       rw [show join1 op (ks.getD 0 default) = e0 from by unfold join1; rw [if_neg hc4, if_neg hc6]]
       exact ⟨nilV, l2, rfl, nilSl, rfl, fun x hx => hs2 _ (h2.o.sub x hx), hm2, rfl⟩

end Go.Proofs.YtafldkjdeompjaaGreatDoor

namespace Go.Sx
open Go.RowKit
theorem simpE_eq (e : Ex) : simpE e = if e.kids.length = 0 then some (.mk e.op e.lt []) else if e.kids.length ≤ 1073741824 then (simpL e.kids).bind fun l => joinE e.op l else none := by
  cases e with | mk op lt ks => simp only [simpE, Ex.op, Ex.lt, Ex.kids]; rfl
theorem simpL_at : ∀ {ks L : List Ex}, simpL ks = some L → L.length = ks.length ∧ ∀ k, k < ks.length → simpE (ks.getD k default) = some (L.getD k default)
  | [], L, h => by simp [simpL] at h; subst h; exact ⟨rfl, fun k hk => by simp at hk⟩
  | a :: ks, L, h => by
    rw [simpL] at h
    obtain ⟨b, hb, h⟩ := bind_some h
    obtain ⟨M, hM, h⟩ := bind_some h
    cases h
    obtain ⟨h1, h2⟩ := simpL_at hM
    refine ⟨by simp [h1], fun k hk => ?_⟩
    cases k with
    | zero => simpa using hb
    | succ k => simpa using h2 k (by simpa using hk)
/-- a row that is filled from the left -/
def fillE (n : Nat) (L : List Ex) (k : Nat) : List Ex := L.take k ++ List.replicate (n - k) e0
def fillV (n : Nat) (ts : List Value) : List Value := ts ++ List.replicate (n - ts.length) nilV
theorem fillE_len {n : Nat} {L : List Ex} {k : Nat} (h : L.length = n) (hk : k ≤ n) : (fillE n L k).length = n := by simp [fillE]; omega
theorem fillV_len {n : Nat} {ts : List Value} (hk : ts.length ≤ n) : (fillV n ts).length = n := by simp [fillV]; omega
theorem fillE_set {n : Nat} {L : List Ex} {k : Nat} (h : L.length = n) (hk : k < n) : (fillE n L k).set k (L.getD k default) = fillE n L (k + 1) := by
  unfold fillE
  rw [take_snocD default L k (by omega)]
  have e : List.replicate (n - k) e0 = e0 :: List.replicate (n - (k + 1)) e0 := by rw [show n - k = (n - (k + 1)) + 1 by omega]; rfl
  rw [e, List.set_append_right _ _ (by simp; omega)]
  have e2 : k - (L.take k).length = 0 := by simp; omega
  rw [e2]; simp
theorem fillV_set {n : Nat} {ts : List Value} (hk : ts.length < n) (s : Value) : (fillV n ts).set ts.length s = fillV n (ts ++ [s]) := by
  unfold fillV
  have e : List.replicate (n - ts.length) nilV = nilV :: List.replicate (n - (ts ++ [s]).length) nilV := by rw [show n - ts.length = (n - (ts ++ [s]).length) + 1 by simp; omega]; rfl
  rw [e, List.set_append_right _ _ (by omega)]
  simp
theorem fill_zero (n : Nat) (L : List Ex) : fillE n L 0 = List.replicate n e0 ∧ fillV n [] = List.replicate n nilV := by simp [fillE, fillV]
theorem fill_full {n : Nat} {L : List Ex} {ts : List Value} (h : L.length = n) (ht : ts.length = n) : fillE n L n = L ∧ fillV n ts = ts := by
  unfold fillE fillV
  rw [List.take_of_length_le (by omega)]
  simp [ht]
theorem xcs_fill {n : Nat} {L : List Ex} {ts : List Value} (h : L.length = n) (hk : ts.length < n) (s : Value) :
    (xcs (fillE n L ts.length) (fillV n ts)).take (ts.length * 3) ++ [.int .i64 (L.getD ts.length default).op, .int .i64 (L.getD ts.length default).lt, s] ++ (xcs (fillE n L ts.length) (fillV n ts)).drop (ts.length * 3 + 3) = xcs (fillE n L (ts.length + 1)) (fillV n (ts ++ [s])) := by
  rw [xcs_set _ _ _ (by rw [fillE_len h (by omega), fillV_len (by omega)]) (by rw [fillE_len h (by omega)]; omega), fillE_set h (by omega), fillV_set (by omega)]
/-- the slices of the trees that stand in a row so far -/
structure Got (l : List Itm) (L : List Ex) (ts : List Value) : Prop where
  d : ∀ i, i < ts.length → Itm.deep (ts.getD i undef) (L.getD i default).kids ∈ l
  s : ∀ i, i < ts.length → IsSl (ts.getD i undef)
theorem Got.nil (l : List Itm) (L : List Ex) : Got l L [] := ⟨fun i hi => by simp at hi, fun i hi => by simp at hi⟩
theorem Got.later {l l' : List Itm} {L : List Ex} {ts : List Value} (h : Got l L ts) (hs : ∀ x ∈ l, x ∈ l') : Got l' L ts := ⟨fun i hi => hs _ (h.d i hi), h.s⟩
theorem getD_snoc {α : Type} (d : α) (l : List α) (a : α) (i : Nat) : (l ++ [a]).getD i d = if i < l.length then l.getD i d else if i = l.length then a else d := by
  simp only [List.getD_eq_getElem?_getD]
  by_cases h : i < l.length
  · rw [List.getElem?_append_left h, if_pos h]
  · rw [List.getElem?_append_right (by omega), if_neg h]
    by_cases h2 : i = l.length
    · subst h2; simp
    · rw [if_neg h2, List.getElem?_eq_none (by simp; omega)]; rfl
theorem Got.snoc {l : List Itm} {L : List Ex} {ts : List Value} (h : Got l L ts) {s : Value} (hd : Itm.deep s (L.getD ts.length default).kids ∈ l) (hs : IsSl s) : Got l L (ts ++ [s]) :=
  ⟨fun i hi => by
    rw [getD_snoc]
    split
    · exact h.d i (by assumption)
    · have : i = ts.length := by simp at hi; omega
      subst this; rw [if_pos rfl]; exact hd, fun i hi => by
    rw [getD_snoc]
    split
    · exact h.s i (by assumption)
    · have : i = ts.length := by simp at hi; omega
      subst this; rw [if_pos rfl]; exact hs⟩
end Go.Sx

namespace Go.Proofs.YtafldkjdeompjaaGreatDoor
open Go.Sx Go.RowKit
def SimS (e : Ex) : Prop := ∀ (w : World) (F : Nat → Prop) (B : Bs) (l : List Itm) (hB : BsOk B w F) (hA : (forest B l).holds w F) (s : Value) (hm : Itm.deep s e.kids ∈ l) (j : Ex) (hj : simpE e = some j), CallM Tryz.prog 61 [.agg #[.int .i64 e.op, .int .i64 e.lt, s]] w F (fun r A o => ∃ sr l', r = .agg #[.int .i64 j.op, .int .i64 j.lt, sr] ∧ IsSl sr ∧ A = forest B l' ∧ (∀ x ∈ l, x ∈ l') ∧ Itm.deep sr j.kids ∈ l' ∧ o = [])
set_option maxHeartbeats 2000000 in
theorem s_simp_step (e : Ex) (ih : ∀ i, i < e.kids.length → SimS (e.kids.getD i default)) (w : World) (F : Nat → Prop) (B : Bs) (l : List Itm) (hB : BsOk B w F) (hA : (forest B l).holds w F) (s : Value) (hm : Itm.deep s e.kids ∈ l) (j : Ex) (hj : simpE e = some j) : CallM Tryz.prog 61 [.agg #[.int .i64 e.op, .int .i64 e.lt, s]] w F (fun r A o => ∃ sr l', r = .agg #[.int .i64 j.op, .int .i64 j.lt, sr] ∧ IsSl sr ∧ A = forest B l' ∧ (∀ x ∈ l, x ∈ l') ∧ Itm.deep sr j.kids ∈ l' ∧ o = []) := by
 refine specM_of Tryz.func61 rfl (leb rfl) hA ?_
 refine AK.open' 0 rfl hm fun l1 ss h2 => ?_
 have hmx := h2.mx'
 rw [simpE_eq] at hj
 refine .sr fun _ hK1 => ?_
 refine AK.box_ (E := 47) (cs := [.int .i64 e.op, .int .i64 e.lt, s]) rfl rfl rfl trivial rfl (fun bx1 => ?_)
 refine AK.alloc el47 rfl rfl trivial rfl (fun bx2 => ?_)
 refine .nt hK1 ?_
 refine .seq fun _ hK2 => ?_
 refine .sr fun _ hK3 => ?_
 refine .v (.fieldAddr fd47_2 rfl) ?_
 refine .v (.loadBox on45 rfl bsp rfl) ?_
 refine .v (.lenR sl45 rfl (by first | exact rdp | exact RdS.tree hB 0 rfl h2.rw | exact RdS.tree hB 0 rfl (hg0.2.1 _ h2.rw))) ?_
 refine .v (.eql rfl rfl) ?_
 refine .nt hK3 ?_
 refine AK.condD rfl (fun hc0 => ?_) (fun hc0 => ?_)
 ·rw [if_pos (by omega)] at hj
  cases hj
  refine .sr fun _ hK4 => ?_
  refine .v (.fieldAddr fd47_0 rfl) ?_
  refine .v (.loadBox on3 rfl bsp rfl) ?_
  refine .v (.fieldAddr fd47_1 rfl) ?_
  refine .v (.loadBox on3 rfl bsp rfl) ?_
  refine .v (.build (parts := [(0, .tmp 11), (1, .tmp 13)]) (cs := #[.int .i64 e.op, .int .i64 e.lt, .slice none 0 0]) rfl (by kernel_rfl)) ?_
  refine AK.storeBox 2 (us := [.int .i64 (Ex.mk e.op e.lt []).op, .int .i64 (Ex.mk e.op e.lt []).lt, nilV]) (cs' := [.int .i64 (Ex.mk e.op e.lt []).op, .int .i64 (Ex.mk e.op e.lt []).lt, nilV]) rfl sz47 rfl rfl rfl rfl oneP (leb rfl) rfl trivial ?_
  refine .nt hK4 (.ret (.then_ret ?_))
  refine AK.add' 0 (.deep nilV []) rfl (fun R => RdK.nil R) (fun l2 hs2 hm2 => ?_)
  refine AK.retG [.cell 2 47] rfl (.cons (.cell ag47 rfl bsp rfl rfl) (.nil)) (fun w hw => ⟨_, _, _, ?_, rfl, Ret.of (hw.pick [0] (by decide) rfl rfl)⟩)
  exact ⟨nilV, l2, rfl, nilSl, rfl, fun x hx => hs2 _ (h2.sub x hx), hm2, rfl⟩
 ·rw [if_neg (by omega)] at hj
  split at hj
  rotate_left
  ·cases hj
  rename_i hlim
  obtain ⟨L, hL, hj⟩ := bind_some hj
  obtain ⟨hLn, hLk⟩ := simpL_at hL
  refine .skip ?_
  refine AK.then_ (hK2 _ ?_)
  refine .sr fun _ hK5 => ?_
  refine .v (.fieldAddr fd47_2 rfl) ?_
  refine .v (.loadBox on45 rfl bsp rfl) ?_
  refine .v (.lenR sl45 rfl (by first | exact rdp | exact RdS.tree hB 0 rfl h2.rw | exact RdS.tree hB 0 rfl (hg0.2.1 _ h2.rw))) ?_
  refine AK.makeE sl45 el47 rfl rfl (by omega) (by omega) trivial rfl (fun mv0 => ?_)
  refine .as rfl (.nt hK5 ?_)
  refine .seq fun _ hK6 => ?_
  refine .sr fun _ hK7 => ?_
  refine .v (.fieldAddr fd47_2 rfl) ?_
  refine .v (.loadBox on45 rfl bsp rfl) ?_
  refine .v (.lenR sl45 rfl (by first | exact rdp | exact RdS.tree hB 0 rfl h2.rw | exact RdS.tree hB 0 rfl (hg0.2.1 _ h2.rw))) ?_
  refine .mv rfl (.nt hK7 (.block ?_))
  refine AK.loopK (X := List Value × List Itm) [(1, _), (2, _), (3, _), (20, _), (21, _)] (fun x => [(22, .int .i64 (x.1.length : Int))]) (fun x => [forest B x.2, box bx1 47 3 [.int .i64 e.op, .int .i64 e.lt, s], box bx2 47 3 [.int .i64 0, .int .i64 0, .slice none 0 0], row mv0 47 3 e.kids.length (xcs (fillE e.kids.length L x.1.length) (fillV e.kids.length x.1))]) (fun x => x.1.length ≤ e.kids.length ∧ (∀ y ∈ l1, y ∈ x.2) ∧ Got x.2 L x.1) (fun x => e.kids.length - x.1.length) (([], l1)) slr ?_ ?_ ?_ ?_
  ·exact ⟨Nat.zero_le _, fun y hy => hy, Got.nil _ _⟩
  ·exact slr
  ·exact fun w hw => by obtain ⟨e1, e2⟩ := fill_zero e.kids.length L; simp only [List.length_nil]; rw [e1, e2]; exact hw
  ·intro x hg0 _ hK8
   refine .sr fun _ hK9 => ?_
   refine .v (.lss rfl rfl) ?_
   refine .nt hK9 ?_
   refine .seq fun _ hK10 => ?_
   refine AK.condD rfl (fun hc1 => ?_) (fun hc1 => ?_)
   ·have hkl : x.1.length < e.kids.length := by omega
    have sk := h2.sls x.1.length hkl
    refine .skip ?_
    refine AK.then_ (hK10 _ ?_)
    refine .seq fun _ hK11 => ?_
    refine .block ?_
    refine .sr fun _ hK12 => ?_
    refine .mv rfl ?_
    first | refine .v (.iN sl45 rfl rfl (hr := (by first | exact rdp | exact RdS.tree hB 0 rfl h2.rw | exact RdS.tree hB 0 rfl (hg0.2.1 _ h2.rw)))) ?_ | refine .v (.iK sl45 rfl rfl (hr := (by first | exact rdp | exact RdS.tree hB 0 rfl h2.rw | exact RdS.tree hB 0 rfl (hg0.2.1 _ h2.rw)))) ?_
    refine .v (.loadE ag47 rfl (by first | exact rdp | exact RdS.tree hB 0 rfl h2.rw | exact RdS.tree hB 0 rfl (hg0.2.1 _ h2.rw)) h2.len rfl (by omega)) ?_
    refine AK.alloc el47 rfl rfl trivial rfl (fun bx5 => ?_)
    refine .as rfl ?_
    refine AK.storeBox 4 (us := [.int .i64 (e.kids.getD x.1.length default).op, .int .i64 (e.kids.getD x.1.length default).lt, ss.getD x.1.length undef]) (cs' := [.int .i64 (e.kids.getD x.1.length default).op, .int .i64 (e.kids.getD x.1.length default).lt, ss.getD x.1.length undef]) rfl sz47 rfl rfl rfl rfl oneP (leb rfl) rfl trivial ?_
    refine .nt hK12 ?_
    refine AK.region ?_
    refine .mv rfl (.mv rfl ?_)
    refine .v (.loadBoxG ag47 rfl bsp rfl rfl) ?_
    refine AK.callN 0 rfl co61 rfl (fun w Fs hw hh hfr hal => ih x.1.length hkl w (Fs 0) B x.2 (hB.later hfr hal 0) (hh.at_ 0 _ rfl) _ (hg0.2.1 _ (h2.kid _ hkl)) (L.getD x.1.length default) (hLk _ hkl)) trivial rfl ?_
    rintro r A o ⟨sr, l2, rfl, ssr, rfl, hs2, hm2, rfl⟩
    first | refine .v (.iN sl45 rfl rfl (hr := (by first | exact rdp | exact RdS.tree hB 0 rfl h2.rw | exact RdS.tree hB 0 rfl (hg0.2.1 _ h2.rw)))) ?_ | refine .v (.iK sl45 rfl rfl (hr := (by first | exact rdp | exact RdS.tree hB 0 rfl h2.rw | exact RdS.tree hB 0 rfl (hg0.2.1 _ h2.rw)))) ?_
    refine AK.storeG 3 rfl sz47 rfl rfl rfl rfl (one'_cons rfl (one'_cons rfl (one'_cons (IsSl.one ssr) one'_nil))) (by omega) (cs' := xcs (fillE e.kids.length L (x.1.length + 1)) (fillV e.kids.length (x.1 ++ [sr]))) (xcs_fill hLn hkl sr) trivial ?_
    refine .nil (.block_normal ?_)
    refine AK.then_ (hK11 _ ?_)
    refine AK.region ?_
    refine .v (.add rfl rfl (by omega)) ?_
    refine .mv rfl (.nil ?_)
    refine AK.then_ (hK8 _ _ ((x.1 ++ [sr], l2)) ⟨by simp; omega, fun y hy => hs2 _ (hg0.2.1 y hy), (hg0.2.2.later hs2).snoc hm2 ssr⟩ (by simp; omega) (.cons (slI rfl (by simp)) (slr)) (fun w hw => by have h := hw.pick [0, 1, 2, 3] (by decide) rfl rfl; simpa using h))
   ·have hkl : x.1.length = e.kids.length := by omega
    refine .exit (.then_exit (.then_exit (.block_exit ?_)))
    refine AK.then_ (hK6 _ ?_)
    refine .sr fun _ hK13 => ?_
    refine .v (.fieldAddr fd47_0 rfl) ?_
    refine .v (.loadBox on3 rfl bsp rfl) ?_
    refine .mv rfl ?_
    refine AK.close' 0 3 L x.1 (by decide) rfl rfl hLn.symm (by rw [hkl]; obtain ⟨e1, e2⟩ := fill_full hLn hkl; rw [e1, e2]) (by omega) (fun k hk => hg0.2.2.d k (by omega)) (fun l2 hs2 hm2 hr2 => ?_)
    refine AK.callN 0 rfl co76 rfl (fun w Fs hw hh hfr hal => s_join w (Fs 0) B l2 (hB.later hfr hal 0) (hh.at_ 0 _ rfl) e.op _ L hm2 j hj) trivial rfl ?_
    rintro r A o ⟨sr, l3, rfl, ssr, rfl, hs3, hm3, rfl⟩
    refine AK.storeBox 2 (us := [.int .i64 j.op, .int .i64 j.lt, sr]) (cs' := [.int .i64 j.op, .int .i64 j.lt, sr]) rfl sz47 rfl rfl rfl rfl oneP (leb rfl) rfl trivial ?_
    refine .nt hK13 (.ret ?_)
    refine AK.retG [.cell 2 47] rfl (.cons (.cell ag47 rfl bsp rfl rfl) (.nil)) (fun w hw => ⟨_, _, _, ?_, rfl, Ret.of (hw.pick [0] (by decide) rfl rfl)⟩)
    exact ⟨sr, l3, rfl, ssr, rfl, fun y hy => hs3 _ (hs2 _ (hg0.2.1 _ (h2.sub y hy))), hm3, rfl⟩

theorem s_simp (e : Ex) : SimS e := Ex.ind (P := SimS) (fun e ih w F B l hB hA s hm j hj => s_simp_step e ih w F B l hB hA s hm j hj) e
set_option maxHeartbeats 800000 in
theorem s_norm (e : Ex) (w : World) (F : Nat → Prop) (B : Bs) (l : List Itm) (hB : BsOk B w F) (hA : (forest B l).holds w F) (s : Value) (hm : Itm.deep s e.kids ∈ l) (j : Ex) (hj : normE e = some j) : CallM Tryz.prog 37 [.agg #[.int .i64 e.op, .int .i64 e.lt, s]] w F (fun r A o => ∃ sr l', r = .agg #[.int .i64 j.op, .int .i64 j.lt, sr] ∧ IsSl sr ∧ A = forest B l' ∧ (∀ x ∈ l, x ∈ l') ∧ Itm.deep sr j.kids ∈ l' ∧ o = []) := by
 refine specM_of Tryz.func37 rfl (leb rfl) hA ?_
 refine .sr fun _ hK1 => ?_
 refine AK.box_ (E := 47) (cs := [.int .i64 e.op, .int .i64 e.lt, s]) rfl rfl rfl trivial rfl (fun bx1 => ?_)
 refine AK.alloc el47 rfl rfl trivial rfl (fun bx2 => ?_)
 refine .nt hK1 ?_
 refine .seq fun _ hK2 => ?_
 refine .sr fun _ hK3 => ?_
 refine .v (.loadBoxG ag47 rfl bsp rfl rfl) ?_
 refine AK.call co41 rfl (fun w hw => s_val6 w e s (hw.kidR hB 0 rfl hm)) trivial rfl ?_
 rintro r o ⟨rfl, rfl⟩
 refine .v (.not rfl) ?_
 refine .nt hK3 ?_
 refine AK.condB rfl (fun hc0 => ?_) (fun hc0 => ?_)
 ·unfold normE at hj
  rw [if_neg (by simpa using hc0)] at hj
  cases hj
  refine .sr fun _ hK4 => ?_
  refine .v (.build (parts := []) (cs := #[.int .i64 0, .int .i64 0, .slice none 0 0]) rfl (by kernel_rfl)) ?_
  refine AK.storeBox 2 (us := [.int .i64 e0.op, .int .i64 e0.lt, nilV]) (cs' := [.int .i64 e0.op, .int .i64 e0.lt, nilV]) rfl sz47 rfl rfl rfl rfl oneP (leb rfl) rfl trivial ?_
  refine .nt hK4 (.ret (.then_ret ?_))
  refine AK.add' 0 (.deep nilV []) rfl (fun R => RdK.nil R) (fun l2 hs2 hm2 => ?_)
  refine AK.retG [.cell 2 47] rfl (.cons (.cell ag47 rfl bsp rfl rfl) (.nil)) (fun w hw => ⟨_, _, _, ?_, rfl, Ret.of (hw.pick [0] (by decide) rfl rfl)⟩)
  exact ⟨nilV, l2, rfl, nilSl, rfl, hs2, hm2, rfl⟩
 ·unfold normE at hj
  rw [if_pos (by simpa using hc0)] at hj
  refine .skip ?_
  refine AK.then_ (hK2 _ ?_)
  refine .sr fun _ hK5 => ?_
  refine .v (.loadBoxG ag47 rfl bsp rfl rfl) ?_
  refine AK.callN 0 rfl co61 rfl (fun w Fs hw hh hfr hal => s_simp e w (Fs 0) B l (hB.later hfr hal 0) (hh.at_ 0 _ rfl) s hm j hj) trivial rfl ?_
  rintro r A o ⟨sr, l2, rfl, ssr, rfl, hs2, hm2, rfl⟩
  refine AK.storeBox 2 (us := [.int .i64 j.op, .int .i64 j.lt, sr]) (cs' := [.int .i64 j.op, .int .i64 j.lt, sr]) rfl sz47 rfl rfl rfl rfl oneP (leb rfl) rfl trivial ?_
  refine .nt hK5 (.ret ?_)
  refine AK.retG [.cell 2 47] rfl (.cons (.cell ag47 rfl bsp rfl rfl) (.nil)) (fun w hw => ⟨_, _, _, ?_, rfl, Ret.of (hw.pick [0] (by decide) rfl rfl)⟩)
  exact ⟨sr, l2, rfl, ssr, rfl, hs2, hm2, rfl⟩

end Go.Proofs.YtafldkjdeompjaaGreatDoor

namespace Go.Sx
open Go.RowKit
theorem addr_add_add (a : Addr) (x y : Nat) : (a.add x).add y = a.add (x + y) := by
  unfold Addr.add; repeat' split
  all_goals first | rfl | omega | (simp; omega) | (simp_all; done) | (congr 1; omega)
/-- the end of a slice, read -/
theorem RdS.fr {C : Cx} {own : List Asn} {v : Value} {sz n a : Nat} {cs : List Value} (h : RdS C own v sz n cs) (hc : CutS C own v n) (ha : a ≤ n) : RdS C own (slFr v sz a) sz (n - a) (cs.drop (a * sz)) := fun w hw => by
  obtain ⟨oa, cap, rfl, h1, h2, h3, h4⟩ := h w hw
  obtain ⟨ao, c, e, hnc⟩ := hc w hw
  cases e
  have hlen : (cs.drop (a * sz)).length = (n - a) * sz := by rw [List.length_drop, h2, Nat.sub_mul]
  rcases Nat.lt_or_ge a n with hlt | hge
  · have hne : cap ≠ a := by omega
    refine ⟨oa.map (·.add (a * sz)), cap - a, by simp [slFr, hne], by omega, hlen, fun _ hs => by simpa using h3 (by omega) hs, fun ad j u had hj => ?_⟩
    obtain ⟨ad0, rfl⟩ : ∃ x, oa = some x := by cases oa with | none => simp at had | some x => exact ⟨x, rfl⟩
    simp at had
    subst had
    have hj' : cs[a * sz + j]? = some u := by rw [List.getElem?_drop] at hj; exact hj
    obtain ⟨_, h5⟩ := h4 ad0 (a * sz + j) u rfl hj'
    refine ⟨trivial, ?_⟩
    rw [addr_add_add]; exact h5
  · have e0 : n - a = 0 := by omega
    refine ⟨_, cap - a, by simp only [slFr]; rfl, by omega, hlen, fun hp => by omega, fun ad j u _ hj => ?_⟩
    rw [e0, Nat.zero_mul] at hlen
    rw [List.eq_nil_of_length_eq_zero hlen] at hj
    cases hj
/-- a row whatever it holds -/
def rowX (v : Value) (E : TypeId) (sz n : Nat) : Asn where
  holds w F := ∃ cs, (row v E sz n cs).holds w F
  loc := by
    rintro w w' F ⟨cs, h⟩ hb
    exact ⟨cs, (row v E sz n cs).loc w w' F h hb⟩
  lt := by
    rintro w F ⟨cs, h⟩ b hb
    exact (row v E sz n cs).lt w F h b hb
theorem HW.toX {C : Cx} {own : List Asn} {w : World} {v : Value} {E : TypeId} {sz n : Nat} {cs : List Value} (i : Nat) (hi : own[i]? = some (row v E sz n cs)) (h : HW C own w) : HW C (own.set i (rowX v E sz n)) w :=
  HW.elem i hi (fun F hF => show (rowX v E sz n).holds w F from ⟨cs, hF⟩) h
theorem Yl.idxX {C : Cx} {sl : List (Nat × Value)} {own : List Asn} {dst : Option Nat} {ty : TypeId} {pos : String} {aft : Array Edge} {g : Option (Nat × Bool)} (j : Nat) {x i : Operand} {t e : TypeId} {E : TypeId} {sz : Nat} {v : Value} {n k : Nat} (hj : own[j]? = some (rowX v E sz n)) (ht : SlT C.P t e sz) (hx : opv ⟨sl, own⟩ x = some v) (hi : opv ⟨sl, own⟩ i = some (.int .i64 (k : Int)))
    (hz : 0 < sz) (h0 : k < n) : Yl C ⟨sl, own⟩ ⟨dst, .indexAddr t x i, ty, pos, aft, g⟩ (.pointer (some ((slA v).add (k * sz)))) :=
  fun a w hs => by
    obtain ⟨hf, Fs, hh, hal⟩ := hs.world
    obtain ⟨cs, hc⟩ := hh.at_ j _ hj
    obtain ⟨oa, cap, rfl, _, _, h4, _⟩ := row_rd hc
    have := h4 (by omega) hz
    obtain ⟨ad, rfl⟩ := Option.isSome_iff_exists.1 this
    obtain ⟨inf, h2, h3⟩ := ht.inf
    have h0' : (0 : Int) ≤ (k : Int) ∧ (k : Int) < (n : Int) := by omega
    simp [execOp, opv_eval hs hx, opv_eval hs hi, Instr.indexAt, asIntOf, run_underlying ht.1, h0'.1, h0, sizeOf, typeInfo, h2, h3, slA]
/-! ### derivatives -/
theorem dervL_at {a : Int} {nm : Bool} : ∀ {ks : List Ex} {ds : List Dv}, dervL a nm ks = some ds → ds.length = ks.length ∧ ∀ k, k < ks.length → dervE a nm (ks.getD k default) = some (ds.getD k default)
  | [], ds, h => by simp [dervL] at h; subst h; exact ⟨rfl, fun k hk => by simp at hk⟩
  | x :: ks, ds, h => by
    rw [dervL] at h
    obtain ⟨b, hb, h⟩ := bind_some h
    obtain ⟨M, hM, h⟩ := bind_some h
    cases h
    obtain ⟨h1, h2⟩ := dervL_at hM
    refine ⟨by simp [h1], fun k hk => ?_⟩
    cases k with
    | zero => simpa using hb
    | succ k => simpa using h2 k (by simpa using hk)
def nlD (op : Int) (ds : List Dv) : Bool := if op = 4 then decide (0 < (ds.filter (·.2.2)).length) else if op = 6 then decide ((ds.filter (·.2.2)).length = ds.length) else if op = 8 then decide ((ds.filter (·.2.2)).length = 0) else false
theorem boolD_some {op : Int} {ds : List Dv} {d : Dv} (h : boolD op ds = some d) : joinE op (ds.map (·.1)) = some d.1 ∧ joinE op (ds.map (·.2.1)) = some d.2.1 ∧ d.2.2 = nlD op ds := by
  unfold boolD at h
  obtain ⟨b, hb, h⟩ := bind_some h
  obtain ⟨s, hs, h⟩ := bind_some h
  cases h
  exact ⟨hb, hs, rfl⟩
theorem map_getD1 (ds : List Dv) (k : Nat) (h : k < ds.length) : (ds.map (·.1)).getD k default = (ds.getD k default).1 ∧ (ds.map (·.2.1)).getD k default = (ds.getD k default).2.1 := by
  simp [List.getD_eq_getElem?_getD, h]
theorem count_snoc (ds : List Dv) (k : Nat) (h : k < ds.length) : ((ds.take (k + 1)).filter (·.2.2)).length = ((ds.take k).filter (·.2.2)).length + if (ds.getD k default).2.2 then 1 else 0 := by
  rw [take_snocD default ds k h, List.filter_append, List.length_append]
  congr 1
  by_cases hq : (ds.getD k default).2.2 = true
  · rw [if_pos hq, List.filter_cons_of_pos (by simpa using hq)]; rfl
  · rw [if_neg hq, List.filter_cons_of_neg (by simpa using hq)]; rfl
theorem count_le (ds : List Dv) (k : Nat) : ((ds.take k).filter (·.2.2)).length ≤ ds.length := by
  have h1 := List.length_filter_le (fun d : Dv => d.2.2) (ds.take k)
  have h2 : (ds.take k).length ≤ ds.length := by rw [List.length_take]; omega
  omega
theorem dervE_bool {a : Int} {nm : Bool} {e : Ex} {d : Dv} (h : dervE a nm e = some d) (ho : e.op = 4 ∨ e.op = 6 ∨ e.op = 8) : e.kids.length ≤ 1073741824 ∧ ∃ ds, dervL a nm e.kids = some ds ∧ boolD e.op ds = some d := by
  cases e with
  | mk op lt ks =>
    simp only [Ex.op, Ex.kids] at ho ⊢
    rw [dervE, if_neg (by omega), if_neg (by omega), if_pos ho] at h
    split at h
    · obtain ⟨ds, h1, h2⟩ := bind_some h
      exact ⟨by assumption, ds, h1, h2⟩
    · cases h
theorem dervE_star {a : Int} {nm : Bool} {e : Ex} {d : Dv} (h : dervE a nm e = some d) (ho : e.op = 7) : ∃ k0 s b, 0 < e.kids.length ∧ dervE a nm (e.kids.getD 0 default) = some k0 ∧ joinE 7 [k0.2.1] = some s ∧ joinE 5 [k0.1, s] = some b ∧ d = (b, s, true) := by
  cases e with
  | mk op lt ks =>
    simp only [Ex.op, Ex.kids] at ho ⊢
    rw [dervE, if_neg (by omega), if_neg (by omega), if_neg (by omega), if_pos ho] at h
    obtain ⟨ds, h1, h⟩ := bind_some h
    obtain ⟨h3, h4⟩ := dervL_at h1
    split at h
    · cases h
    · obtain ⟨s, hs, h⟩ := bind_some h
      obtain ⟨b, hb, h⟩ := bind_some h
      cases h
      exact ⟨_, s, b, by omega, h4 0 (by omega), hs, hb, rfl⟩
theorem dervE_con {a : Int} {nm : Bool} {e : Ex} {d : Dv} (h : dervE a nm e = some d) (ho : e.op = 5) : e.kids.length ≤ 1073741824 ∧ ∃ BY SV N P, dervC a nm true e.kids = some (BY, SV, N) ∧ partsD BY SV = some P ∧ joinE 4 P = some d.1 ∧ joinE 5 SV = some d.2.1 ∧ d.2.2 = N := by
  cases e with
  | mk op lt ks =>
    simp only [Ex.op, Ex.kids] at ho ⊢
    rw [dervE, if_neg (by omega), if_neg (by omega), if_neg (by omega), if_neg (by omega), if_pos ho] at h
    split at h
    · obtain ⟨⟨BY, SV, N⟩, h1, h⟩ := bind_some h
      obtain ⟨P, hP, h⟩ := bind_some h
      obtain ⟨b, hb, h⟩ := bind_some h
      obtain ⟨s, hs, h⟩ := bind_some h
      cases h
      exact ⟨by assumption, BY, SV, N, P, h1, hP, hb, hs, rfl⟩
    · cases h
/-- a concatenation: k kids are read -/
structure CatI (a : Int) (nm : Bool) (ks BY SV : List Ex) (N nl : Bool) (k m : Nat) : Prop where
  kl : k ≤ ks.length
  ml : m ≤ BY.length
  sl : SV.length = ks.length
  d : dervC a nm nl (ks.drop k) = some (BY.drop m, SV.drop k, N)
theorem dervC_len {a : Int} {nm : Bool} : ∀ {ks : List Ex} {nl : Bool} {x : List Ex × List Ex × Bool}, dervC a nm nl ks = some x → x.2.1.length = ks.length ∧ x.1.length ≤ ks.length
  | [], nl, x, h => by simp [dervC] at h; subst h; simp
  | k :: ks, true, x, h => by
    rw [dervC] at h
    obtain ⟨d, _, h⟩ := bind_some h
    obtain ⟨y, hy, h⟩ := bind_some h
    cases h
    obtain ⟨h1, h2⟩ := dervC_len hy
    simp; omega
  | k :: ks, false, x, h => by
    rw [dervC] at h
    obtain ⟨d, _, h⟩ := bind_some h
    obtain ⟨y, hy, h⟩ := bind_some h
    cases h
    obtain ⟨h1, h2⟩ := dervC_len hy
    simp; omega
theorem CatI.start {a : Int} {nm : Bool} {ks BY SV : List Ex} {N : Bool} (h : dervC a nm true ks = some (BY, SV, N)) : CatI a nm ks BY SV N true 0 0 :=
  ⟨Nat.zero_le _, Nat.zero_le _, (dervC_len h).1, by simpa using h⟩
theorem drop_cons_getD {L : List Ex} {k : Nat} {x : Ex} {xs : List Ex} (h : L.drop k = x :: xs) : k < L.length ∧ L.getD k default = x ∧ L.drop (k + 1) = xs := by
  have hlt : k < L.length := by
    rcases Nat.lt_or_ge k L.length with h1 | h1
    · exact h1
    · rw [List.drop_eq_nil_of_le h1] at h; cases h
  rw [List.drop_eq_getElem_cons hlt] at h
  cases h
  exact ⟨hlt, by simp [List.getD_eq_getElem?_getD, hlt], rfl⟩
theorem CatI.yes {a : Int} {nm : Bool} {ks BY SV : List Ex} {N : Bool} {k m : Nat} (h : CatI a nm ks BY SV N true k m) (hk : k < ks.length) :
    ∃ d, dervE a nm (ks.getD k default) = some d ∧ m < BY.length ∧ BY.getD m default = d.1 ∧ SV.getD k default = d.2.1 ∧ CatI a nm ks BY SV N d.2.2 (k + 1) (m + 1) := by
  have hd := h.d
  rw [List.drop_eq_getElem_cons hk, dervC] at hd
  obtain ⟨d, h1, hd⟩ := bind_some hd
  obtain ⟨y, hy, hd⟩ := bind_some hd
  simp only [Option.some.injEq, Prod.mk.injEq] at hd
  obtain ⟨e1, e2, e3⟩ := hd
  obtain ⟨b1, b2, b3⟩ := drop_cons_getD e1.symm
  obtain ⟨s1, s2, s3⟩ := drop_cons_getD e2.symm
  refine ⟨d, by simpa [List.getD_eq_getElem?_getD, hk] using h1, b1, b2, s2, by omega, by omega, h.sl, ?_⟩
  rw [hy, b3, s3, ← e3]
theorem CatI.no {a : Int} {nm : Bool} {ks BY SV : List Ex} {N : Bool} {k m : Nat} (h : CatI a nm ks BY SV N false k m) (hk : k < ks.length) :
    ((if nm then some (ks.getD k default) else simpE (ks.getD k default)) = some (SV.getD k default)) ∧ CatI a nm ks BY SV N false (k + 1) m := by
  have hd := h.d
  rw [List.drop_eq_getElem_cons hk, dervC] at hd
  obtain ⟨s, h1, hd⟩ := bind_some hd
  obtain ⟨y, hy, hd⟩ := bind_some hd
  simp only [Option.some.injEq, Prod.mk.injEq] at hd
  obtain ⟨e1, e2, e3⟩ := hd
  obtain ⟨s1, s2, s3⟩ := drop_cons_getD e2.symm
  have e : ks.getD k default = ks[k] := by simp [List.getD_eq_getElem?_getD, hk]
  rw [e]
  refine ⟨by rw [h1, s2], by omega, h.ml, h.sl, ?_⟩
  rw [hy, s3, ← e1, ← e3]
theorem CatI.fin {a : Int} {nm : Bool} {ks BY SV : List Ex} {N nl : Bool} {m : Nat} (h : CatI a nm ks BY SV N nl ks.length m) : m = BY.length ∧ nl = N := by
  have hd := h.d
  rw [List.drop_length, dervC] at hd
  simp only [Option.some.injEq, Prod.mk.injEq] at hd
  have := congrArg List.length hd.1
  simp at this
  have := h.ml
  exact ⟨by omega, hd.2.2⟩
theorem partsD_at : ∀ {BY SV P : List Ex}, partsD BY SV = some P → P.length = BY.length ∧ ∀ i, i < BY.length → (if (BY.getD i default).op = 1 then some (BY.getD i default) else joinE 5 (BY.getD i default :: SV.drop (i + 1))) = some (P.getD i default)
  | [], SV, P, h => by simp [partsD] at h; subst h; exact ⟨rfl, fun i hi => by simp at hi⟩
  | b :: bs, SV, P, h => by
    rw [partsD] at h
    obtain ⟨p, hp, h⟩ := bind_some h
    obtain ⟨M, hM, h⟩ := bind_some h
    cases h
    obtain ⟨h1, h2⟩ := partsD_at hM
    refine ⟨by simp [h1], fun i hi => ?_⟩
    cases i with
    | zero => simpa using hp
    | succ i =>
      have := h2 i (by simpa using hi)
      rw [List.drop_drop, show 1 + (i + 1) = i + 1 + 1 by omega] at this
      simpa using this
theorem deep_cons_drop {l : List Itm} {b : Ex} {SV : List Ex} {sb : Value} {fs : List Value} {a : Nat} (hb : Itm.deep sb b.kids ∈ l) (h : Got l SV fs) (hf : fs.length = SV.length) : ∀ k, k < (b :: SV.drop a).length → Itm.deep ((sb :: fs.drop a).getD k undef) ((b :: SV.drop a).getD k default).kids ∈ l := fun k hk => by
  cases k with
  | zero => exact hb
  | succ k =>
    have hk' : k < SV.length - a := by simpa using hk
    have := h.d (a + k) (by omega)
    simpa [List.getD_eq_getElem?_getD] using this
theorem dervE_unit {a : Int} {nm : Bool} {e : Ex} {d : Dv} (h : dervE a nm e = some d) (ho : e.op = 2) : d = (emptyE, unitE, true) := by
  cases e with | mk op lt ks => simp only [Ex.op] at ho; rw [dervE, if_pos ho] at h; cases h; rfl
theorem dervE_let {a : Int} {nm : Bool} {e : Ex} {d : Dv} (h : dervE a nm e = some d) (ho : e.op = 3) : d = (if e.lt = a then unitE else emptyE, .mk 3 e.lt [], false) := by
  cases e with | mk op lt ks => simp only [Ex.op] at ho; rw [dervE, if_neg (by omega), if_pos ho] at h; cases h; rfl
theorem dervE_rest {a : Int} {nm : Bool} {e : Ex} {d : Dv} (h : dervE a nm e = some d) (h2 : e.op ≠ 2) (h3 : e.op ≠ 3) (h4 : e.op ≠ 4) (h6 : e.op ≠ 6) (h8 : e.op ≠ 8) (h7 : e.op ≠ 7) (h5 : e.op ≠ 5) : d = (emptyE, emptyE, false) := by
  cases e with | mk op lt ks => simp only [Ex.op] at h2 h3 h4 h5 h6 h7 h8; rw [dervE, if_neg h2, if_neg h3, if_neg (by omega), if_neg h7, if_neg h5] at h; cases h; rfl
theorem two_deep {l : List Itm} {s t : Value} {k m : Ex} (h : Itm.deep s k.kids ∈ l) (h' : Itm.deep t m.kids ∈ l) : ∀ i, i < [k, m].length → Itm.deep ([s, t].getD i undef) ([k, m].getD i default).kids ∈ l := fun i hi => by
  have : i = 0 ∨ i = 1 := by simp at hi; omega
  rcases this with rfl | rfl
  · exact h
  · exact h'
def limE (d : Dv) : Ex × Int := if validE d.1 6 = 0 then (d.1, 0) else (e0, 3)
def limS (d : Dv) (s : Value) : Value := if validE d.1 6 = 0 then s else nilV
theorem letE_some {e : Ex} {a : Int} {p : Ex × Int} (h : letE e a = some p) : ∃ d, dervE a true e = some d ∧ p = limE d := by
  unfold letE at h
  obtain ⟨d, hd, h⟩ := bind_some h
  cases h
  exact ⟨d, hd, rfl⟩
end Go.Sx
