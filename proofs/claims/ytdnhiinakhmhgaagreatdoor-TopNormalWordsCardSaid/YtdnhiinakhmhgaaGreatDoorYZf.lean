import Derived.Test.YtdnhiinakhmhgaaGreatDoorYZb
import Derived.Test.YtdnhiinakhmhgaaGreatDoorYZe
import Derived.Test.YtdnhiinakhmhgaaGreatDoorYZc
import Derived.Lib.Bytealg
import Derived.Laws.StructEq
set_option linter.unusedVariables false
set_option linter.unusedSimpArgs false
set_option maxRecDepth 100000
namespace Go.Sx
open Go.RowKit
/-! ### trees in memory -/
inductive Ex where
  | mk (op lt : Int) (kids : List Ex)
def Ex.op : Ex → Int | .mk o _ _ => o
def Ex.lt : Ex → Int | .mk _ l _ => l
def Ex.kids : Ex → List Ex | .mk _ _ k => k
instance : Inhabited Ex := ⟨.mk 0 0 []⟩
def e0 : Ex := .mk 0 0 []

/-- the cells of a row of trees -/
def xcs (ks : List Ex) (ss : List Value) : List Value := (ks.zip ss).flatMap fun p => [.int .i64 p.1.op, .int .i64 p.1.lt, p.2]
def nilV : Value := .slice none 0 0

theorem xcs_length : ∀ (ks : List Ex) (ss : List Value), ss.length = ks.length → (xcs ks ss).length = ks.length * 3
  | [], ss, _ => by simp [xcs]
  | k :: ks, [], h => by simp at h
  | k :: ks, s :: ss, h => by
    have := xcs_length ks ss (by simpa using h)
    simp only [xcs, List.zip_cons_cons, List.flatMap_cons, List.length_append, List.length_cons, List.length_nil] at this ⊢
    omega
theorem xcs_append (ks ls : List Ex) (ss ts : List Value) (h : ss.length = ks.length) : xcs (ks ++ ls) (ss ++ ts) = xcs ks ss ++ xcs ls ts := by
  simp only [xcs]
  rw [List.zip_append h.symm, List.flatMap_append]
theorem xcs_cons (k : Ex) (ks : List Ex) (s : Value) (ss : List Value) : xcs (k :: ks) (s :: ss) = .int .i64 k.op :: .int .i64 k.lt :: s :: xcs ks ss := by
  simp [xcs]
theorem xcs_drop : ∀ (i : Nat) (ks : List Ex) (ss : List Value), ss.length = ks.length → (xcs ks ss).drop (i * 3) = xcs (ks.drop i) (ss.drop i)
  | 0, ks, ss, _ => by simp
  | i + 1, [], ss, h => by cases ss <;> simp [xcs] at h ⊢
  | i + 1, k :: ks, [], h => by simp at h
  | i + 1, k :: ks, s :: ss, h => by
    rw [xcs_cons, show (i + 1) * 3 = i * 3 + 1 + 1 + 1 by omega]
    simp only [List.drop_succ_cons]
    exact (xcs_drop i ks ss (by simpa using h))
theorem xcs_take : ∀ (i : Nat) (ks : List Ex) (ss : List Value), ss.length = ks.length → (xcs ks ss).take (i * 3) = xcs (ks.take i) (ss.take i)
  | 0, ks, ss, _ => by simp [xcs]
  | i + 1, [], ss, h => by cases ss <;> simp [xcs] at h ⊢
  | i + 1, k :: ks, [], h => by simp at h
  | i + 1, k :: ks, s :: ss, h => by
    rw [xcs_cons, show (i + 1) * 3 = i * 3 + 1 + 1 + 1 by omega]
    simp only [List.take_succ_cons, xcs_cons, xcs_take i ks ss (by simpa using h)]
theorem xcs_at (i : Nat) (ks : List Ex) (ss : List Value) (h : ss.length = ks.length) (hi : i < ks.length) :
    ((xcs ks ss).drop (i * 3)).take 3 = [.int .i64 (ks.getD i default).op, .int .i64 (ks.getD i default).lt, ss.getD i undef] := by
  rw [xcs_drop i ks ss h, List.drop_eq_getElem_cons hi, List.drop_eq_getElem_cons (by omega : i < ss.length), xcs_cons]
  simp [List.getD_eq_getElem?_getD, hi, h]
theorem xcs_set (i : Nat) (ks : List Ex) (ss : List Value) (h : ss.length = ks.length) (hi : i < ks.length) (e : Ex) (s : Value) :
    (xcs ks ss).take (i * 3) ++ [.int .i64 e.op, .int .i64 e.lt, s] ++ (xcs ks ss).drop (i * 3 + 3) = xcs (ks.set i e) (ss.set i s) := by
  rw [xcs_take i ks ss h, show i * 3 + 3 = (i + 1) * 3 by omega, xcs_drop (i + 1) ks ss h]
  rw [List.set_eq_take_append_cons_drop, List.set_eq_take_append_cons_drop, if_pos hi, if_pos (by omega)]
  rw [xcs_append _ _ _ _ (by simp [h]), xcs_cons]
  simp
theorem xcs_rep (n : Nat) : xcs (List.replicate n e0) (List.replicate n nilV) = (List.replicate n [Value.int .i64 0, .int .i64 0, nilV]).flatten := by
  induction n with
  | zero => simp [xcs]
  | succ n ih => rw [List.replicate_succ, List.replicate_succ, xcs_cons, ih, List.replicate_succ]; rfl

abbrev Cell := Addr → Value → Prop
def Rdx (R : Cell) (v : Value) (sz n : Nat) (cs : List Value) : Prop :=
  ∃ oa cap, v = .slice oa n cap ∧ n ≤ cap ∧ n ≤ maxLen ∧ cs.length = n * sz ∧ (0 < n → 0 < sz → oa.isSome) ∧ ∀ a j u, oa = some a → cs[j]? = some u → R (a.add j) u
theorem Rdx.mono {R R' : Cell} {v : Value} {sz n : Nat} {cs : List Value} (h : Rdx R v sz n cs) (hR : ∀ a u, R a u → R' a u) : Rdx R' v sz n cs := by
  obtain ⟨oa, cap, h1, h2, h3, h4, h5, h6⟩ := h
  exact ⟨oa, cap, h1, h2, h3, h4, h5, fun a j u ha hj => hR _ _ (h6 a j u ha hj)⟩
theorem Rdx.sl {R : Cell} {v : Value} {sz n : Nat} {cs : List Value} (h : Rdx R v sz n cs) : IsSl v := by
  obtain ⟨oa, cap, h1, _⟩ := h; exact ⟨_, _, _, h1⟩

/-- a slice that reads as a list of trees -/
inductive RdK (R : Cell) : Value → List Ex → Prop
  | mk (s : Value) (ss : List Value) (ks : List Ex) : ss.length = ks.length → Rdx R s 3 ks.length (xcs ks ss) → (∀ i, i < ks.length → RdK R (ss.getD i undef) (ks.getD i default).kids) → RdK R s ks
theorem RdK.inv {R : Cell} {s : Value} {ks : List Ex} (h : RdK R s ks) : ∃ ss : List Value, ss.length = ks.length ∧ Rdx R s 3 ks.length (xcs ks ss) ∧ ∀ i, i < ks.length → RdK R (ss.getD i undef) (ks.getD i default).kids := by
  cases h with
  | mk s ss ks h1 h2 h3 => exact ⟨ss, h1, h2, h3⟩
theorem RdK.mono {R R' : Cell} (hR : ∀ a u, R a u → R' a u) {s : Value} {ks : List Ex} (h : RdK R s ks) : RdK R' s ks := by
  induction h with
  | mk s ss ks h1 h2 h3 ih => exact .mk s ss ks h1 (h2.mono hR) ih
theorem RdK.sl {R : Cell} {s : Value} {ks : List Ex} (h : RdK R s ks) : IsSl s := by
  obtain ⟨ss, _, h, _⟩ := h.inv; exact h.sl
theorem RdK.nil (R : Cell) : RdK R nilV [] := .mk nilV [] [] rfl ⟨none, 0, rfl, Nat.le_refl _, by simp [maxLen], rfl, fun h => absurd h (by simp), fun a j u h => by cases h⟩ (fun i h => by simp at h)

/-- what is read in w outside of F -/
def cellR (F : Nat → Prop) (w : World) : Cell := fun a u => ¬ F a.block ∧ w.cell? a = some u
theorem add_block (a : Addr) (j : Nat) : (a.add j).block = a.block := by unfold Addr.add; split <;> rfl
theorem Rdx.rd {F : Nat → Prop} {w : World} {v : Value} {sz n : Nat} {cs : List Value} (h : Rdx (cellR F w) v sz n cs) : Rd (fun b => ¬ F b) w v sz n cs := by
  obtain ⟨oa, cap, h1, _, h3, h4, h5, h6⟩ := h
  exact ⟨oa, cap, h1, h3, h4, h5, fun a j u ha hj => by have := h6 a j u ha hj; exact ⟨by have := this.1; rwa [add_block] at this, this.2⟩⟩
theorem Rdx.cut {R : Cell} {v : Value} {sz n : Nat} {cs : List Value} (h : Rdx R v sz n cs) : ∃ ao c, v = .slice ao n c ∧ n ≤ c := by
  obtain ⟨oa, cap, h1, h2, _⟩ := h; exact ⟨oa, cap, h1, h2⟩

/-- trees of a function, read when the world has moved on -/
theorem cellR_at {C : Cx} {own : List Asn} {w : World} (hw : HW C own w) (a : Addr) (u : Value) (h : cellR C.S C.W0 a u) : cellR (fun _ => False) w a u := by
  refine ⟨id, ?_⟩
  have hlt := World.block_lt_of_cell? _ _ h.2
  rw [World.cell?_of_block (w := C.W0) (w' := w) (hw.frame.block _ hlt h.1)]; exact h.2
theorem RdK.at {C : Cx} {own : List Asn} {w : World} {s : Value} {ks : List Ex} (h : RdK (cellR C.S C.W0) s ks) (hw : HW C own w) : RdK (cellR (fun _ => False) w) s ks := h.mono (cellR_at hw)
theorem cellR_atN {C : Cx} {w : World} {Fs : Nat → Nat → Prop} (hfr : FrameX C.S C.W0 w) (hal : ∀ k b, Fs k b → C.W0.heap.size ≤ b ∨ C.S b) (j : Nat) (a : Addr) (u : Value) (h : cellR C.S C.W0 a u) : cellR (Fs j) w a u := by
  have hlt := World.block_lt_of_cell? _ _ h.2
  refine ⟨fun hb => ?_, ?_⟩
  · rcases hal j _ hb with h1 | h1
    · omega
    · exact h.1 h1
  · rw [World.cell?_of_block (w := C.W0) (w' := w) (hfr.block _ hlt h.1)]; exact h.2
theorem RdK.atN {C : Cx} {w : World} {Fs : Nat → Nat → Prop} {s : Value} {ks : List Ex} (h : RdK (cellR C.S C.W0) s ks) (hfr : FrameX C.S C.W0 w) (hal : ∀ k b, Fs k b → C.W0.heap.size ≤ b ∨ C.S b) (j : Nat) : RdK (cellR (Fs j) w) s ks := h.mono (cellR_atN hfr hal j)

/-! ### a forest: trees that nobody writes any more -/
inductive Itm where
  | deep (s : Value) (ks : List Ex)
  | row (s : Value) (n : Nat) (cs : List Value)
def Itm.ok (R : Cell) : Itm → Prop
  | .deep s ks => RdK R s ks
  | .row s n cs => Rdx R s 3 n cs
theorem Itm.ok_mono {R R' : Cell} (hR : ∀ a u, R a u → R' a u) {x : Itm} (h : x.ok R) : x.ok R' := by
  cases x with
  | deep s ks => exact RdK.mono hR h
  | row s n cs => exact Rdx.mono h hR
structure Bs where
  W : World
  G : Nat → Prop
def cellF (B : Bs) (F : Nat → Prop) (w : World) : Cell := fun a u => (F a.block ∧ w.cell? a = some u) ∨ (B.G a.block ∧ B.W.cell? a = some u)
def forest (B : Bs) (l : List Itm) : Asn where
  holds w F := (∀ x ∈ l, x.ok (cellF B F w)) ∧ ∀ b, F b → b < w.heap.size
  loc := by
    rintro w w' F ⟨h1, h2⟩ hb
    refine ⟨fun x hx => Itm.ok_mono (fun a u hu => ?_) (h1 x hx), fun b hF => ?_⟩
    · rcases hu with ⟨hF, hc⟩ | hu
      · exact .inl ⟨hF, by rw [World.cell?_of_block (w := w) (w' := w') (hb _ hF)]; exact hc⟩
      · exact .inr hu
    · have h := h2 b hF
      have e := hb b hF
      rw [Array.getElem?_eq_getElem h] at e
      exact (Array.getElem?_eq_some_iff.1 e).1
  lt := fun w F h b hb => h.2 b hb
/-- the base of a forest lies still -/
def BsOk (B : Bs) (w : World) (F : Nat → Prop) : Prop := ∀ b, B.G b → ¬ F b ∧ w.heap[b]? = B.W.heap[b]? ∧ b < w.heap.size
theorem BsOk.later {B : Bs} {C : Cx} {w : World} {Fs : Nat → Nat → Prop} (h : BsOk B C.W0 C.S) (hfr : FrameX C.S C.W0 w) (hal : ∀ k b, Fs k b → C.W0.heap.size ≤ b ∨ C.S b) (j : Nat) : BsOk B w (Fs j) := fun b hb => by
  obtain ⟨h1, h2, h3⟩ := h b hb
  refine ⟨fun hF => ?_, (hfr.block b h3 h1).trans h2, Nat.lt_of_lt_of_le h3 hfr.size⟩
  rcases hal j b hF with h4 | h4
  · omega
  · exact h1 h4
theorem BsOk.at {B : Bs} {C : Cx} {own : List Asn} {w : World} (h : BsOk B C.W0 C.S) (hw : HW C own w) : BsOk B w (fun _ => False) := fun b hb => by
  obtain ⟨h1, h2, h3⟩ := h b hb
  exact ⟨id, (hw.frame.block b h3 h1).trans h2, Nat.lt_of_lt_of_le h3 hw.frame.size⟩
theorem cellF_R {B : Bs} {F F' : Nat → Prop} {w : World} (hB : BsOk B w F') (hd : ∀ b, F b → ¬ F' b) (a : Addr) (u : Value) (h : cellF B F w a u) : cellR F' w a u := by
  rcases h with ⟨h1, h2⟩ | ⟨h1, h2⟩
  · exact ⟨hd _ h1, h2⟩
  · obtain ⟨h3, h4, h5⟩ := hB _ h1
    exact ⟨h3, by rw [World.cell?_of_block (w := B.W) (w' := w) h4]; exact h2⟩
section
variable {C : Cx} {own : List Asn} {B : Bs} {l : List Itm} {sl : List (Nat × Value)} {K : Act → World → Prop}
theorem HW.itm (hB : BsOk B C.W0 C.S) (i : Nat) (hi : own[i]? = some (forest B l)) {x : Itm} (hx : x ∈ l) {w : World} (hw : HW C own w) : x.ok (cellR (fun _ => False) w) := by
  obtain ⟨hf, Fs, hh, hal⟩ := hw
  exact Itm.ok_mono (cellF_R (hB.at ⟨hf, Fs, hh, hal⟩) (fun _ _ => id)) ((hh.at_ i _ hi).1 x hx)
theorem HeapAt.itm {w : World} {Fs : Nat → Nat → Prop} (hB : BsOk B C.W0 C.S) (i j : Nat) (hij : i ≠ j) (hi : own[i]? = some (forest B l)) {x : Itm} (hx : x ∈ l) (hh : HeapAt own Fs w) (hfr : FrameX C.S C.W0 w) (hal : ∀ k b, Fs k b → C.W0.heap.size ≤ b ∨ C.S b) : x.ok (cellR (Fs j) w) :=
  Itm.ok_mono (cellF_R (hB.later hfr hal j) (fun b h1 h2 => hij (hh.apart i j b h1 h2))) ((hh.at_ i _ hi).1 x hx)
theorem RdS.tree (hB : BsOk B C.W0 C.S) (i : Nat) (hi : own[i]? = some (forest B l)) {s : Value} {n : Nat} {cs : List Value} (hx : Itm.row s n cs ∈ l) : RdS C own s 3 n cs := fun w hw => by
  have h : Rdx _ s 3 n cs := HW.itm hB i hi hx hw
  exact h.rd.mono (fun b _ _ => ⟨trivial, rfl⟩)
theorem CutS.tree (hB : BsOk B C.W0 C.S) (i : Nat) (hi : own[i]? = some (forest B l)) {s : Value} {n : Nat} {cs : List Value} (hx : Itm.row s n cs ∈ l) : CutS C own s n := fun w hw => by
  have h : Rdx _ s 3 n cs := HW.itm hB i hi hx hw
  exact h.cut
theorem HW.forestLe (i : Nat) {l' : List Itm} (hi : own[i]? = some (forest B l)) (hl : ∀ x ∈ l', x ∈ l) {w : World} (hw : HW C own w) : HW C (own.set i (forest B l')) w :=
  HW.elem i hi (fun F hF => show (forest B l').holds _ F from ⟨fun x hx => hF.1 x (hl x hx), hF.2⟩) hw
/-- trees whatever the world -/
theorem AK.forestAdd (i : Nat) (x : Itm) (hi : own[i]? = some (forest B l)) (hx : ∀ R, x.ok R) (h : AK C ⟨sl, own.set i (forest B (x :: l))⟩ K) : AK C ⟨sl, own⟩ K :=
  AK.own' _ (fun w hw => HW.elem i hi (fun F hF => show (forest B (x :: l)).holds _ F from ⟨fun y hy => by rcases List.mem_cons.1 hy with rfl | hy; exact hx _; exact hF.1 y hy, hF.2⟩) hw) h
theorem AK.forestSl (i : Nat) {s : Value} {ks : List Ex} (hi : own[i]? = some (forest B l)) (hx : .deep s ks ∈ l) (h : IsSl s → AK C ⟨sl, own⟩ K) : AK C ⟨sl, own⟩ K :=
  AK.fact (p := IsSl s) (fun w hw => by
    obtain ⟨hf, Fs, hh, hal⟩ := hw
    have : RdK _ s ks := (hh.at_ i _ hi).1 _ hx
    exact this.sl) h
def kit (ks : List Ex) (ss : List Value) : List Itm := (ks.zip ss).map fun p => .deep p.2 p.1.kids
theorem kit_mem {ks : List Ex} {ss : List Value} (h : ss.length = ks.length) {i : Nat} (hi : i < ks.length) : Itm.deep (ss.getD i undef) (ks.getD i default).kids ∈ kit ks ss := by
  refine List.mem_map.2 ⟨(ks.getD i default, ss.getD i undef), ?_, rfl⟩
  have h1 : (ks.zip ss)[i]? = some (ks[i], ss[i]) := by simp [List.getElem?_zip_eq_some, hi, h]
  have := List.mem_of_getElem? h1
  simpa [List.getD_eq_getElem?_getD, hi, h] using this
theorem mem_kit {ks : List Ex} {ss : List Value} (h : ss.length = ks.length) {x : Itm} (hx : x ∈ kit ks ss) : ∃ i, i < ks.length ∧ x = .deep (ss.getD i undef) (ks.getD i default).kids := by
  obtain ⟨p, hp, rfl⟩ := List.mem_map.1 hx
  obtain ⟨i, hi⟩ := List.mem_iff_getElem?.1 hp
  rw [List.getElem?_zip_eq_some] at hi
  obtain ⟨h1, h2⟩ := hi
  have hl := (List.getElem?_eq_some_iff.1 h1).1
  exact ⟨i, hl, by simp [List.getD_eq_getElem?_getD, h1, h2]⟩
theorem AK.openT (i : Nat) {s : Value} {ks : List Ex} (hi : own[i]? = some (forest B l)) (hm : .deep s ks ∈ l)
    (h : ∀ ss : List Value, ss.length = ks.length → IsSl s → (∀ k, k < ks.length → IsSl (ss.getD k undef)) → ks.length ≤ maxLen → AK C ⟨sl, own.set i (forest B (.row s ks.length (xcs ks ss) :: (kit ks ss ++ l)))⟩ K) : AK C ⟨sl, own⟩ K := by
  intro a w hs
  obtain ⟨hf, Fs, hh, hal⟩ := hs.world
  have hA := hh.at_ i _ hi
  have h0 : RdK _ s ks := hA.1 _ hm
  obtain ⟨ss, h1, h2, h3⟩ := h0.inv
  refine h ss h1 h0.sl (fun k hk => (h3 k hk).sl) (by obtain ⟨_, _, _, _, h, _⟩ := h2; exact h) a w ⟨hs.size, hs.defers, hs.slot, ?_⟩
  refine ⟨hf, Fs, ⟨fun k A hk => ?_, fun k hk b hb => hh.out k (by simpa using hk) b hb, hh.apart⟩, hal⟩
  by_cases hki : i = k
  · subst hki
    have hlt := (List.getElem?_eq_some_iff.1 hi).1
    simp [hlt] at hk
    subst hk
    refine ⟨fun x hx => ?_, hA.2⟩
    rcases List.mem_cons.1 hx with rfl | hx
    · exact h2
    · rcases List.mem_append.1 hx with hx | hx
      · obtain ⟨k, hk, rfl⟩ := mem_kit h1 hx
        exact h3 k hk
      · exact hA.1 x hx
  · rw [List.getElem?_set_ne hki] at hk; exact hh.at_ k A hk
/-- a row of trees that is written no more -/
theorem HW.closeT (i j : Nat) {s : Value} {E : TypeId} {ks : List Ex} {ss : List Value} (hij : i ≠ j) (hi : own[i]? = some (forest B l)) (hj : own[j]? = some (row s E 3 ks.length (xcs ks ss))) (hl : ss.length = ks.length)
    (hk : ∀ k, k < ks.length → Itm.deep (ss.getD k undef) (ks.getD k default).kids ∈ l) {w : World} (hw : HW C own w) : HW C ((own.set j empA).set i (forest B (.deep s ks :: .row s ks.length (xcs ks ss) :: l))) w := by
  obtain ⟨hf, Fs, hh, hal⟩ := hw
  have hA := hh.at_ i _ hi
  have hR := hh.at_ j _ hj
  have hjl := (List.getElem?_eq_some_iff.1 hj).1
  have hil := (List.getElem?_eq_some_iff.1 hi).1
  refine ⟨hf, fun k b => if k = i then Fs i b ∨ Fs j b else if k = j then False else Fs k b, ⟨?_, ?_, ?_⟩, ?_⟩
  · intro k A hkA
    by_cases hki : k = i
    · subst hki
      simp [hil] at hkA
      subst hkA
      simp only [if_true]
      have hcr : Rdx (cellF B (fun b => Fs k b ∨ Fs j b) w) s 3 ks.length (xcs ks ss) := by
        obtain ⟨hown, hF⟩ := hR
        rcases hown.2 with ⟨rfl, h0⟩ | ⟨gb, cap, cur, rfl, hg, hb, hnc, hcm, r⟩
        · exact ⟨none, 0, by rw [h0], by omega, by simp [maxLen]; omega, hown.1, fun h => by omega, fun a j u ha => by cases ha⟩
        · refine ⟨_, cap, rfl, hnc, Nat.le_trans hnc hcm, hown.1, fun _ _ => rfl, fun a m u ha hm => ?_⟩
          cases ha
          have hlt : m < ks.length * 3 := by rw [← hown.1]; exact (List.getElem?_eq_some_iff.1 hm).1
          have := hown.cellAt m hlt
          refine .inl ⟨.inr ((hF _).2 (by rw [add_block]; rfl)), ?_⟩
          simpa [Addr.add_lit] using this.trans hm
      have hmono : ∀ a u, cellF B (Fs k) w a u → cellF B (fun b => Fs k b ∨ Fs j b) w a u := fun a u h => by
        rcases h with ⟨h1, h2⟩ | h
        · exact .inl ⟨.inl h1, h2⟩
        · exact .inr h
      refine ⟨fun x hx => ?_, fun b hb => by rcases hb with hb | hb <;> exact hh.lt hb⟩
      rcases List.mem_cons.1 hx with rfl | hx
      · exact .mk s ss ks hl hcr (fun m hm => (show Itm.ok _ (.deep _ _) from Itm.ok_mono hmono (hA.1 _ (hk m hm))))
      · rcases List.mem_cons.1 hx with rfl | hx
        · exact hcr
        · exact Itm.ok_mono hmono (hA.1 x hx)
    · rw [List.getElem?_set_ne (Ne.symm hki)] at hkA
      by_cases hkj : k = j
      · subst hkj
        simp [hjl] at hkA
        subst hkA
        simp only [hki, if_false, if_true]
        intro b hb; exact hb
      · rw [List.getElem?_set_ne (Ne.symm hkj)] at hkA
        simp only [hki, hkj, if_false]
        exact hh.at_ k A hkA
  · intro k hk b hb
    simp at hk
    simp only [show k ≠ i by omega, show k ≠ j by omega, if_false] at hb
    exact hh.out k hk b hb
  · have key : ∀ k b, (if k = i then Fs i b ∨ Fs j b else if k = j then False else Fs k b) → ∃ m, Fs m b ∧ (k = i ∧ (m = i ∨ m = j) ∨ k ≠ i ∧ k ≠ j ∧ m = k) := fun k b h => by
      split at h
      · rename_i e
        rcases h with h | h
        · exact ⟨i, h, .inl ⟨e, .inl rfl⟩⟩
        · exact ⟨j, h, .inl ⟨e, .inr rfl⟩⟩
      · rename_i e
        split at h
        · exact h.elim
        · rename_i e2; exact ⟨k, h, .inr ⟨e, e2, rfl⟩⟩
    intro k m b h1 h2
    obtain ⟨x, hx, h3⟩ := key k b h1
    obtain ⟨y, hy, h4⟩ := key m b h2
    have := hh.apart x y b hx hy
    omega
  · intro k b hb
    split at hb
    · rcases hb with hb | hb <;> exact hal _ b hb
    · split at hb
      · exact hb.elim
      · exact hal _ b hb
theorem AK.closeT (i j : Nat) {s : Value} {E : TypeId} {ks : List Ex} {ss : List Value} (hij : i ≠ j) (hi : own[i]? = some (forest B l)) (hj : own[j]? = some (row s E 3 ks.length (xcs ks ss))) (hl : ss.length = ks.length)
    (hk : ∀ k, k < ks.length → Itm.deep (ss.getD k undef) (ks.getD k default).kids ∈ l) (h : AK C ⟨sl, (own.set j empA).set i (forest B (.deep s ks :: .row s ks.length (xcs ks ss) :: l))⟩ K) : AK C ⟨sl, own⟩ K :=
  AK.own' _ (fun w hw => hw.closeT i j hij hi hj hl hk) h
/-- a new forest -/
theorem HW.newForest (B : Bs) {w : World} (h : HW C own w) : HW C (own ++ [forest B []]) w :=
  h.push (FrameX.refl _ w) (HeapAt.one (F := fun _ => False) (show (forest B []).holds w (fun _ => False) from ⟨fun x hx => (by cases hx), fun b hb => hb.elim⟩)) (fun j b hb => hb.2.elim)
theorem AK.newForest (B : Bs) (h : AK C ⟨sl, own ++ [forest B []]⟩ K) : AK C ⟨sl, own⟩ K := AK.own' _ (fun w hw => hw.newForest B) h
end
/-! ### reading and writing rows of trees -/
section
variable {C : Cx} {sl : List (Nat × Value)} {own : List Asn} {ops : Array Oper} {Q : Exit → Act → World → Prop} {d : Nat} {dst : Option Nat} {ty : TypeId} {pos : String} {aft : Array Edge} {g : Option (Nat × Bool)} {rest : List Oper}
theorem Yl.loadE {x : Operand} {t : TypeId} {v : Value} {n j : Nat} {ks : List Ex} {ss : List Value} (ht : AggT C.P t 3) (hx : opv ⟨sl, own⟩ x = some (.pointer (some ((slA v).add (j * 3)))))
    (hr : RdS C own v 3 n (xcs ks ss)) (hl : ss.length = ks.length) (hn : n = ks.length) (hj : j < n) : Yl C ⟨sl, own⟩ ⟨dst, .load t x, ty, pos, aft, g⟩ (.agg #[.int .i64 (ks.getD j default).op, .int .i64 (ks.getD j default).lt, ss.getD j undef]) := by
  have := Yl.loadG (dst := dst) (ty := ty) (pos := pos) (aft := aft) (g := g) ht hx hr hj
  rw [xcs_at j ks ss hl (by omega)] at this
  exact this
theorem madeCells_ecs (n : Nat) : (madeCells (Value.agg #[.int .i64 0, .int .i64 0, .slice none 0 0]).cells (n * 3)).toList = xcs (List.replicate n e0) (List.replicate n nilV) := by
  rw [xcs_rep]
  unfold madeCells
  simp only [Value.cells]
  apply List.ext_getElem?
  intro i
  induction n generalizing i with
  | zero => simp
  | succ n ih =>
    have h1 : (List.range ((n + 1) * 3)) = [0, 1, 2] ++ (List.range (n * 3)).map (· + 3) := by
      rw [show (n + 1) * 3 = 3 + n * 3 by omega, List.range_add]
      congr 1
      apply List.map_congr_left; intro a _; omega
    simp only [Array.toList_map, Array.toList_range] at ih ⊢
    rw [h1]
    simp only [List.map_append, List.map_map, List.replicate_succ, List.flatten_cons]
    rcases Nat.lt_or_ge i 3 with hi | hi
    · rw [List.getElem?_append_left (by simpa using hi), List.getElem?_append_left (by simpa using hi)]
      have : i = 0 ∨ i = 1 ∨ i = 2 := by omega
      rcases this with rfl | rfl | rfl <;> rfl
    · rw [List.getElem?_append_right (by simpa using hi), List.getElem?_append_right (by simpa using hi)]
      have := ih (i - 3)
      simp only [List.length_map, List.length_cons, List.length_nil] at this ⊢
      rw [← this]
      congr 1
      apply List.map_congr_left
      intro a _
      simp
theorem AK.makeE {d : Nat} {t E : TypeId} {l c : Operand} {s' by_ : Nat} {n : Nat} (ht : SlT C.P t E 3) (hE : ElT C.P E (.agg #[.int .i64 0, .int .i64 0, .slice none 0 0]) s' by_) (hl : opv ⟨sl, own⟩ l = some (.int .i64 (n : Int))) (hc : opv ⟨sl, own⟩ c = some (.int .i64 (n : Int)))
    (hb : by_ * n ≤ 281474976710656) (hm : n ≤ 9223372036854775807) (hg : Grd ops sl g) (hd : Nat.blt d C.N = true)
    (h : ∀ v, AK C ⟨(d, v) :: sl, own ++ [row v E 3 n (xcs (List.replicate n e0) (List.replicate n nilV))]⟩ (wpList C.P ops Q rest)) :
    AK C ⟨sl, own⟩ (wpList C.P ops Q (⟨some d, .makeSlice t l c, ty, pos, aft, g⟩ :: rest)) :=
  AK.make ht hE hl hc hb hm hg hd (fun v => by rw [madeCells_ecs]; exact h v)
end
theorem one'_ecs : ∀ (ks : List Ex) (ss : List Value), (∀ s ∈ ss, IsSl s) → one' (xcs ks ss)
  | [], _, _ => by intro u hu; simp [xcs] at hu
  | k :: ks, [], _ => by intro u hu; simp [xcs] at hu
  | k :: ks, s :: ss, h => by
    rw [xcs_cons]
    exact one'_cons rfl (one'_cons rfl (one'_cons (IsSl.one (h s List.mem_cons_self)) (one'_ecs ks ss fun u hu => h u (List.mem_cons_of_mem _ hu))))
theorem all_getD {p : Value → Prop} {ss : List Value} (h : ∀ k, k < ss.length → p (ss.getD k undef)) : ∀ s ∈ ss, p s := fun s hs => by
  obtain ⟨i, hi⟩ := List.mem_iff_getElem?.1 hs
  have hl := (List.getElem?_eq_some_iff.1 hi).1
  have := h i hl
  simpa [List.getD_eq_getElem?_getD, hi] using this
theorem xcs_snoc (ks : List Ex) (ss : List Value) (e : Ex) (s : Value) (h : ss.length = ks.length) : xcs ks ss ++ [.int .i64 e.op, .int .i64 e.lt, s] = xcs (ks ++ [e]) (ss ++ [s]) := by
  rw [xcs_append _ _ _ _ h]; rfl
theorem cellR_fr {F : Nat → Prop} {w w' : World} (hf : FrameX F w w') (a : Addr) (u : Value) (h : cellR F w a u) : cellR F w' a u := by
  have hlt := World.block_lt_of_cell? _ _ h.2
  exact ⟨h.1, by rw [World.cell?_of_block (w := w) (w' := w') (hf.block _ hlt h.1)]; exact h.2⟩
theorem RdK.fr {F : Nat → Prop} {w w' : World} {s : Value} {ks : List Ex} (h : RdK (cellR F w) s ks) (hf : FrameX F w w') : RdK (cellR F w') s ks := h.mono (cellR_fr hf)
theorem RdK.wk {F : Nat → Prop} {w : World} {s : Value} {ks : List Ex} (h : RdK (cellR F w) s ks) : RdK (cellR (fun _ => False) w) s ks := h.mono fun a u hu => ⟨id, hu.2⟩
theorem Ex.mem_lt : ∀ {ks : List Ex} {i : Nat}, i < ks.length → SizeOf.sizeOf (ks.getD i default) < 1 + SizeOf.sizeOf ks
  | [], i, h => by simp at h
  | k :: ks, 0, _ => by simp [List.getD_eq_getElem?_getD]; omega
  | k :: ks, i + 1, h => by
    have := Ex.mem_lt (ks := ks) (i := i) (by simpa using h)
    simp only [List.getD_eq_getElem?_getD, List.getElem?_cons_succ, List.cons.sizeOf_spec] at this ⊢
    omega
theorem Ex.ind {P : Ex → Prop} (h : ∀ e : Ex, (∀ i, i < e.kids.length → P (e.kids.getD i default)) → P e) (e : Ex) : P e := by
  have : ∀ n (e : Ex), SizeOf.sizeOf e < n → P e := by
    intro n
    induction n with
    | zero => intro e he; omega
    | succ n ih =>
      intro e he
      refine h e fun i hi => ih _ ?_
      have := Ex.mem_lt hi
      cases e with
      | mk op lt ks =>
        simp only [Ex.kids] at this ⊢
        simp only [Ex.mk.sizeOf_spec] at he
        omega
  exact this _ e (Nat.lt_succ_self _)
/-! ### opening and closing, the items kept under a name -/
structure Opn (l l' : List Itm) (s : Value) (ks : List Ex) (ss : List Value) : Prop where
  sub : ∀ x ∈ l, x ∈ l'
  len : ss.length = ks.length
  sl : IsSl s
  sls : ∀ k, k < ks.length → IsSl (ss.getD k undef)
  mx : ks.length ≤ maxLen
  rw : Itm.row s ks.length (xcs ks ss) ∈ l'
  kid : ∀ k, k < ks.length → Itm.deep (ss.getD k undef) (ks.getD k default).kids ∈ l'
theorem Opn.later {l l' l2 : List Itm} {s : Value} {ks : List Ex} {ss : List Value} (h : Opn l l' s ks ss) (h2 : ∀ x ∈ l', x ∈ l2) : Opn l l2 s ks ss :=
  ⟨fun x hx => h2 _ (h.sub x hx), h.len, h.sl, h.sls, h.mx, h2 _ h.rw, fun k hk => h2 _ (h.kid k hk)⟩
theorem Opn.mx' {l l' : List Itm} {s : Value} {ks : List Ex} {ss : List Value} (h : Opn l l' s ks ss) : ks.length ≤ 9223372036854775807 := by
  have := h.mx; simp [maxLen] at this; omega
section
variable {C : Cx} {own : List Asn} {B : Bs} {l : List Itm} {sl : List (Nat × Value)} {K : Act → World → Prop}
theorem AK.open' (i : Nat) {s : Value} {ks : List Ex} (hi : own[i]? = some (forest B l)) (hm : Itm.deep s ks ∈ l)
    (h : ∀ l' ss, Opn l l' s ks ss → AK C ⟨sl, own.set i (forest B l')⟩ K) : AK C ⟨sl, own⟩ K :=
  AK.openT i hi hm fun ss h1 h2 h3 h4 => h _ ss ⟨fun x hx => List.mem_cons_of_mem _ (List.mem_append_right _ hx), h1, h2, h3, h4, List.mem_cons_self, fun k hk => List.mem_cons_of_mem _ (List.mem_append_left _ (kit_mem h1 hk))⟩
theorem AK.openAll (i : Nat) : ∀ (ps : List (Value × List Ex)) {l : List Itm} {own : List Asn}, own[i]? = some (forest B l) → (∀ p ∈ ps, Itm.deep p.1 p.2 ∈ l) →
    (∀ l' (tss : List (List Value)), (∀ x ∈ l, x ∈ l') → tss.length = ps.length → (∀ k, k < ps.length → Opn l l' (ps.getD k (undef, [])).1 (ps.getD k (undef, [])).2 (tss.getD k [])) → AK C ⟨sl, own.set i (forest B l')⟩ K) → AK C ⟨sl, own⟩ K
  | [], l, own, hi, hm, h => by
    have := h l [] (fun x hx => hx) rfl (fun k hk => by simp at hk)
    have e : own.set i (forest B l) = own := by
      apply List.ext_getElem?; intro k
      by_cases hk : i = k
      · subst hk
        have hlt := (List.getElem?_eq_some_iff.1 hi).1
        rw [hi]; simp [hlt]
      · rw [List.getElem?_set_ne hk]
    rwa [e] at this
  | p :: ps, l, own, hi, hm, h => by
    refine AK.open' i hi (hm p List.mem_cons_self) fun l1 ss h1 => ?_
    have hlt := (List.getElem?_eq_some_iff.1 hi).1
    refine AK.openAll i ps (l := l1) (own := own.set i (forest B l1)) (by simp [hlt]) (fun q hq => h1.sub _ (hm q (List.mem_cons_of_mem _ hq))) fun l2 tss h2 h3 h4 => ?_
    rw [List.set_set]
    refine h l2 (ss :: tss) (fun x hx => h2 x (h1.sub x hx)) (by simp [h3]) fun k hk => ?_
    cases k with
    | zero => exact h1.later h2
    | succ k =>
      have := h4 k (by simpa using hk)
      refine ⟨fun x hx => h2 x (h1.sub x hx), this.len, this.sl, this.sls, this.mx, this.rw, this.kid⟩
/-- a list of trees, opened two levels deep -/
structure Opn2 (l l' : List Itm) (s : Value) (ks : List Ex) (ss : List Value) (tss : List (List Value)) : Prop where
  o : Opn l l' s ks ss
  tl : tss.length = ks.length
  each : ∀ k, k < ks.length → Opn l l' (ss.getD k undef) (ks.getD k default).kids (tss.getD k [])
theorem AK.open2 (i : Nat) {s : Value} {ks : List Ex} (hi : own[i]? = some (forest B l)) (hm : Itm.deep s ks ∈ l)
    (h : ∀ l' ss tss, Opn2 l l' s ks ss tss → AK C ⟨sl, own.set i (forest B l')⟩ K) : AK C ⟨sl, own⟩ K := by
  refine AK.open' i hi hm fun l1 ss h1 => ?_
  have hlt := (List.getElem?_eq_some_iff.1 hi).1
  have hz : ∀ k, k < ks.length → (ss.zip (ks.map Ex.kids)).getD k (undef, []) = (ss.getD k undef, (ks.getD k default).kids) := fun k hk => by
    have h1' := h1.len
    simp [List.getD_eq_getElem?_getD, hk, h1', List.getElem?_zip_eq_some]
  refine AK.openAll (B := B) i (ss.zip (ks.map Ex.kids)) (l := l1) (own := own.set i (forest B l1)) (by simp [hlt]) (fun p hp => ?_) fun l2 tss h2 h3 h4 => ?_
  · obtain ⟨k, hk⟩ := List.mem_iff_getElem?.1 hp
    have hkl : k < ks.length := by have := (List.getElem?_eq_some_iff.1 hk).1; simp at this; omega
    have e := hz k hkl
    rw [List.getD_eq_getElem?_getD, hk, Option.getD_some] at e
    rw [e]; exact h1.kid k hkl
  · rw [List.set_set]
    have hlen : (ss.zip (ks.map Ex.kids)).length = ks.length := by simp [h1.len]
    refine h l2 ss tss ⟨h1.later h2, by rw [h3, hlen], fun k hk => ?_⟩
    have := h4 k (by omega)
    rw [hz k hk] at this
    exact ⟨fun x hx => h2 x (h1.sub x hx), this.len, this.sl, this.sls, this.mx, this.rw, this.kid⟩
theorem AK.close' (i j : Nat) {s : Value} {E : TypeId} {n : Nat} {cs : List Value} (ks : List Ex) (ss : List Value) (hij : i ≠ j) (hi : own[i]? = some (forest B l)) (hj : own[j]? = some (row s E 3 n cs)) (hn : n = ks.length) (hc : cs = xcs ks ss) (hl : ss.length = ks.length)
    (hk : ∀ k, k < ks.length → Itm.deep (ss.getD k undef) (ks.getD k default).kids ∈ l) (h : ∀ l', (∀ x ∈ l, x ∈ l') → Itm.deep s ks ∈ l' → Itm.row s ks.length (xcs ks ss) ∈ l' → AK C ⟨sl, (own.set j empA).set i (forest B l')⟩ K) : AK C ⟨sl, own⟩ K := by
  subst hn hc
  exact AK.closeT i j hij hi hj hl hk (h _ (fun x hx => List.mem_cons_of_mem _ (List.mem_cons_of_mem _ hx)) List.mem_cons_self (List.mem_cons_of_mem _ List.mem_cons_self))
theorem AK.add' (i : Nat) (x : Itm) (hi : own[i]? = some (forest B l)) (hx : ∀ R, x.ok R) (h : ∀ l', (∀ y ∈ l, y ∈ l') → x ∈ l' → AK C ⟨sl, own.set i (forest B l')⟩ K) : AK C ⟨sl, own⟩ K :=
  AK.forestAdd i x hi hx (h _ (fun y hy => List.mem_cons_of_mem _ hy) List.mem_cons_self)
end
/-- the pairs of one row all stand in another -/
structure PSub (ks' : List Ex) (ss' : List Value) (ks : List Ex) (ss : List Value) : Prop where
  len : ss'.length = ks'.length
  le : ks'.length ≤ ks.length
  at_ : ∀ k, k < ks'.length → ∃ j, j < ks.length ∧ ks'.getD k default = ks.getD j default ∧ ss'.getD k undef = ss.getD j undef
theorem PSub.rfl {ks : List Ex} {ss : List Value} (h : ss.length = ks.length) : PSub ks ss ks ss := ⟨h, Nat.le_refl _, fun k hk => ⟨k, hk, _root_.rfl, _root_.rfl⟩⟩
theorem PSub.trans {k1 k2 k3 : List Ex} {s1 s2 s3 : List Value} (h : PSub k1 s1 k2 s2) (h' : PSub k2 s2 k3 s3) : PSub k1 s1 k3 s3 := ⟨h.len, Nat.le_trans h.le h'.le, fun k hk => by
  obtain ⟨j, h1, h2, h3⟩ := h.at_ k hk
  obtain ⟨m, h4, h5, h6⟩ := h'.at_ j h1
  exact ⟨m, h4, h2.trans h5, h3.trans h6⟩⟩
theorem PSub.deep {l : List Itm} {ks' ks : List Ex} {ss' ss : List Value} (h : PSub ks' ss' ks ss) (hd : ∀ k, k < ks.length → Itm.deep (ss.getD k undef) (ks.getD k default).kids ∈ l) : ∀ k, k < ks'.length → Itm.deep (ss'.getD k undef) (ks'.getD k default).kids ∈ l := fun k hk => by
  obtain ⟨j, h1, h2, h3⟩ := h.at_ k hk
  rw [h2, h3]; exact hd j h1
theorem PSub.sls {ks' ks : List Ex} {ss' ss : List Value} (h : PSub ks' ss' ks ss) (hd : ∀ k, k < ks.length → IsSl (ss.getD k undef)) : ∀ k, k < ks'.length → IsSl (ss'.getD k undef) := fun k hk => by
  obtain ⟨j, h1, h2, h3⟩ := h.at_ k hk
  rw [h3]; exact hd j h1
/-! ### clearing the end of a row -/
section
variable {C : Cx} {sl : List (Nat × Value)} {own : List Asn} {ops : Array Oper} {Q : Exit → Act → World → Prop} {ty : TypeId} {pos : String} {aft : Array Edge} {g : Option (Nat × Bool)} {rest : List Oper}
theorem zc_one {z : Value} (hz : z = .agg #[.int .i64 0, .int .i64 0, .slice none 0 0]) (n : Nat) : (Builtin.zeroCells z.cells n).toList.length = n * 3 ∧ one' (Builtin.zeroCells z.cells n).toList := by
  subst hz
  have hs : (Value.agg #[.int .i64 0, .int .i64 0, .slice none 0 0]).cells.size = 3 := rfl
  refine ⟨by simp [Builtin.zeroCells, hs], fun u hu => ?_⟩
  simp only [Builtin.zeroCells, Array.toList_map, Array.toList_range, List.mem_map, hs] at hu
  obtain ⟨i, _, rfl⟩ := hu
  have : ∀ k : Nat, k < 3 → ((Value.agg #[.int .i64 0, .int .i64 0, .slice none 0 0]).cells[k]!).oneCell' = true := fun k hk => by
    have : k = 0 ∨ k = 1 ∨ k = 2 := by omega
    rcases this with rfl | rfl | rfl <;> rfl
  exact this _ (Nat.mod_lt _ (by decide))
theorem AK.clearE (i : Nat) {x : Operand} {t E e s' by_ : Nat} {v : Value} {n a : Nat} {ks : List Ex} {ss : List Value} (hi : own[i]? = some (row v E 3 n (xcs ks ss))) (ht : SlT C.P t e 3) (he : ElT C.P e (.agg #[.int .i64 0, .int .i64 0, .slice none 0 0]) s' by_) (hx : opv ⟨sl, own⟩ x = some (slFr v 3 a)) (hn : n = ks.length) (hl : ss.length = ks.length) (ha : a ≤ n) (hg : Grd ops sl g)
    (h : ∀ cs', cs'.take (a * 3) = xcs (ks.take a) (ss.take a) → AK C ⟨sl, own.set i (row v E 3 n cs')⟩ (wpList C.P ops Q rest)) :
    AK C ⟨sl, own⟩ (wpList C.P ops Q (⟨none, .call ⟨.builtin .clear, #[x], #[t]⟩, ty, pos, aft, g⟩ :: rest)) := by
  intro ac w hs
  refine wpList_step fun K hK => ?_
  rw [if_pos (wanted_of_Grd hs hg)]
  obtain ⟨hf, Fs, hh, hal⟩ := hs.world
  obtain ⟨hown, hF⟩ := hh.at_ i _ hi
  subst hn
  have hpre := xcs_take a ks ss hl
  obtain ⟨inf, hi1, hi2, hi3, hi4⟩ := he.inf
  have hz : (zeroValue e).run C.P w = .ok (.agg #[.int .i64 0, .int .i64 0, .slice none 0 0]) w := by simp [zeroValue, typeInfo, hi1, hi2]
  have hskip : ∀ w2, w2 = w → K (ac.put none (.tuple #[])) w2 := by
    rintro _ rfl
    refine hK _ _ (h (xcs ks ss) hpre _ _ ?_)
    have hset : own.set i (row v E 3 ks.length (xcs ks ss)) = own := by
      apply List.ext_getElem?; intro k
      by_cases hk : i = k
      · subst hk
        have hlt := (List.getElem?_eq_some_iff.1 hi).1
        rw [hi]; simp [hlt]
      · rw [List.getElem?_set_ne hk]
    rw [hset]
    exact hs.put hs.world (d := none) (fun i hi => by cases hi) undef
  rcases hown.2 with ⟨rfl, h0⟩ | ⟨gb, cap, cur, rfl, hb0, hb, hnc, hcm, hcsz, htake⟩
  · have hrun : (execOp ac.eval ⟨none, .call ⟨.builtin .clear, #[x], #[t]⟩, ty, pos, aft, g⟩).run C.P w = .ok (.value (.tuple #[])) w := by
      simp [execOp, resolve, invoke, builtin, opv_eval hs hx, Builtin.clear_, run_underlying ht.1, slFr]
    simp only [Oper.wp, hrun, Oper.upon]
    exact hskip w rfl
  · rcases Nat.lt_or_ge a ks.length with hlt | hge
    · obtain ⟨zl, zo⟩ := zc_one rfl (ks.length - a) (z := .agg #[.int .i64 0, .int .i64 0, .slice none 0 0])
      have hst := run_storeCells_at C.P gb (a * 3) E (Builtin.zeroCells (Value.agg #[.int .i64 0, .int .i64 0, .slice none 0 0]).cells (ks.length - a)).toList 0 cur w hb (by rw [zl, hcsz]; omega) zo
      simp only [Nat.add_zero, zl] at hst
      have hne : ks.length - a ≠ 0 := by omega
      have hrun : (execOp ac.eval ⟨none, .call ⟨.builtin .clear, #[x], #[t]⟩, ty, pos, aft, g⟩).run C.P w = .ok (.value (.tuple #[])) (w.setRow gb (cur.toList.take (a * 3) ++ (Builtin.zeroCells (Value.agg #[.int .i64 0, .int .i64 0, .slice none 0 0]).cells (ks.length - a)).toList ++ cur.toList.drop (a * 3 + (ks.length - a) * 3)).toArray) := by
        have e1 : slFr (.slice (some ⟨gb, 0, none⟩) ks.length cap) 3 a = .slice (some ⟨gb, a * 3, none⟩) (ks.length - a) (cap - a) := by
          have hne2 : cap ≠ a := by omega
          simp [slFr, Addr.add_lit, hne2]
        rw [e1] at hx
        obtain ⟨m, hm⟩ : ∃ m, ks.length - a = m + 1 := ⟨ks.length - a - 1, by omega⟩
        rw [hm] at hst hx ⊢
        simp only [execOp, resolve, invoke, builtin, Builtin.clear_]
        simp [opv_eval hs hx, run_underlying ht.1, hz, hst]
      simp only [Oper.wp, hrun, Oper.upon]
      have hilt : i < own.length := (List.getElem?_eq_some_iff.1 hi).1
      have hcurl : cur.toList.length = cap * 3 := by simpa using hcsz
      refine hK _ _ (h ((cur.toList.take (a * 3) ++ (Builtin.zeroCells (Value.agg #[.int .i64 0, .int .i64 0, .slice none 0 0]).cells (ks.length - a)).toList ++ cur.toList.drop (a * 3 + (ks.length - a) * 3)).take (ks.length * 3)) ?_ _ _ ?_)
      · rw [List.take_take, Nat.min_eq_left (by omega), List.append_assoc, List.take_append_of_le_length (by simp; omega), List.take_take, Nat.min_self, ← hpre]
        have := congrArg (List.take (a * 3)) htake
        rw [← this, List.take_take, Nat.min_eq_left (by omega)]
      · have hrow : (w.setRow gb (cur.toList.take (a * 3) ++ (Builtin.zeroCells (Value.agg #[.int .i64 0, .int .i64 0, .slice none 0 0]).cells (ks.length - a)).toList ++ cur.toList.drop (a * 3 + (ks.length - a) * 3)).toArray).ownsRow 0 E 3 (.slice (some ⟨gb, 0, none⟩) ks.length cap) ks.length ((cur.toList.take (a * 3) ++ (Builtin.zeroCells (Value.agg #[.int .i64 0, .int .i64 0, .slice none 0 0]).cells (ks.length - a)).toList ++ cur.toList.drop (a * 3 + (ks.length - a) * 3)).take (ks.length * 3)) := by
          refine ⟨by simp [zl]; omega, .inr ⟨gb, cap, _, rfl, Nat.zero_le _, setRow_heap w gb cur _ E _ hb, hnc, hcm, ?_, ?_⟩⟩
          · have := zl
            simp only [Array.length_toList] at this
            simp [this]; omega
          · simp
        have hup := HW.update (w' := w.setRow gb (cur.toList.take (a * 3) ++ (Builtin.zeroCells (Value.agg #[.int .i64 0, .int .i64 0, .slice none 0 0]).cells (ks.length - a)).toList ++ cur.toList.drop (a * 3 + (ks.length - a) * 3)).toArray) (own2 := []) (A' := row (.slice (some ⟨gb, 0, none⟩) ks.length cap) E 3 ks.length _) hf hh hal hilt ⟨rfl, rfl, rfl, by simp, fun k _ hk => setRow_other w gb k _ (fun e => hk (by rw [e]; exact (hF gb).2 rfl))⟩
          (HeapAt.one (row_of hrow)) (fun k c hc => .inl ((hF c).2 hc.2))
        rw [List.append_nil] at hup
        exact hs.put hup (d := none) (fun i hi => by cases hi) undef
    · have e0 : ks.length - a = 0 := by omega
      have hrun : (execOp ac.eval ⟨none, .call ⟨.builtin .clear, #[x], #[t]⟩, ty, pos, aft, g⟩).run C.P w = .ok (.value (.tuple #[])) w := by
        obtain ⟨ao, c2, e1⟩ : ∃ ao c2, slFr (.slice (some ⟨gb, 0, none⟩) ks.length cap) 3 a = .slice ao 0 c2 := ⟨_, _, by simp only [slFr, e0]; rfl⟩
        rw [e1] at hx
        simp only [execOp, resolve, invoke, builtin, Builtin.clear_]
        cases ao <;> simp [opv_eval hs hx, run_underlying ht.1]
      simp only [Oper.wp, hrun, Oper.upon]
      exact hskip w rfl
end
end Go.Sx

namespace Go.Sx
/-! ### expressions: what the code computes -/
def emptyE : Ex := .mk 1 0 []
def unitE : Ex := .mk 2 0 []
def univE : Ex := .mk 8 0 [emptyE]
def isEmptyE (e : Ex) : Bool := e.op == 1
def isUnitE (e : Ex) : Bool := e.op == 2
def isUnivE (e : Ex) : Bool := e.op == 8 && e.kids.length == 1 && isEmptyE (e.kids.getD 0 default)
/-- nodes that are left, or none -/
def fitsE : Nat → Ex → Nat → Option Nat
  | 0, _, _ => none
  | d + 1, e, left => if left = 0 then none else e.kids.foldlM (fun l k => fitsE d k l) (left - 1)
mutual
def wfE (n : Int) : Ex → Bool
  | .mk op lt ks => if op = 3 then ks.length == 0 && decide (0 ≤ lt) && decide (lt < n)
    else if lt ≠ 0 then false
    else if op = 1 ∨ op = 2 then ks.length == 0
    else if op = 4 ∨ op = 5 ∨ op = 6 then decide (2 ≤ ks.length) && wfL n ks
    else if op = 7 ∨ op = 8 then ks.length == 1 && wfL n ks else false
def wfL (n : Int) : List Ex → Bool
  | [] => true
  | k :: ks => wfE n k && wfL n ks
end
theorem wfL_all (n : Int) : ∀ ks : List Ex, wfL n ks = ks.all (wfE n)
  | [] => by simp [wfL]
  | k :: ks => by simp [wfL, wfL_all n ks]
theorem wfE_eq (n : Int) (e : Ex) : wfE n e = if e.op = 3 then e.kids.length == 0 && decide (0 ≤ e.lt) && decide (e.lt < n)
    else if e.lt ≠ 0 then false
    else if e.op = 1 ∨ e.op = 2 then e.kids.length == 0
    else if e.op = 4 ∨ e.op = 5 ∨ e.op = 6 then decide (2 ≤ e.kids.length) && e.kids.all (wfE n)
    else if e.op = 7 ∨ e.op = 8 then e.kids.length == 1 && e.kids.all (wfE n) else false := by
  cases e with | mk op lt ks => simp only [wfE, Ex.op, Ex.lt, Ex.kids, wfL_all]; rfl
theorem all_false {p : Ex → Bool} {ks : List Ex} {k : Nat} (hk : k < ks.length) (h : p (ks.getD k default) = false) : ks.all p = false := by
  rw [List.all_eq_false]
  exact ⟨ks[k], List.getElem_mem hk, by simpa [List.getD_eq_getElem?_getD, hk] using h⟩
theorem all_true {p : Ex → Bool} {ks : List Ex} (h : ∀ i, i < ks.length → p (ks.getD i default) = true) : ks.all p = true := by
  rw [List.all_eq_true]
  intro x hx
  obtain ⟨i, hi⟩ := List.mem_iff_getElem?.1 hx
  have hl := (List.getElem?_eq_some_iff.1 hi).1
  simpa [List.getD_eq_getElem?_getD, hi] using h i hl
def idxE (p : Ex → Bool) (ks : List Ex) : Int := if ks.any p then (ks.findIdx p : Int) else -1
theorem idxE_some {p : Ex → Bool} {ks : List Ex} {k : Nat} (hk : k < ks.length) (hb : ∀ i, i < k → p (ks.getD i default) = false) (h : p (ks.getD k default) = true) : idxE p ks = k := by
  unfold idxE
  have h1 : p ks[k] = true := by simpa [List.getD_eq_getElem?_getD, hk] using h
  rw [if_pos (List.any_eq_true.2 ⟨_, List.getElem_mem hk, h1⟩)]
  congr 1
  rw [List.findIdx_eq hk]
  refine ⟨h1, fun j hj => ?_⟩
  have := hb j hj
  simpa [List.getD_eq_getElem?_getD, show j < ks.length by omega] using this
theorem any_none {p : Ex → Bool} {ks : List Ex} (h : ∀ i, i < ks.length → p (ks.getD i default) = false) : ks.any p = false := by
  rw [List.any_eq_false]
  intro x hx
  obtain ⟨i, hi⟩ := List.mem_iff_getElem?.1 hx
  have hl := (List.getElem?_eq_some_iff.1 hi).1
  have := h i hl
  simpa [List.getD_eq_getElem?_getD, hi] using this
theorem idxE_none {p : Ex → Bool} {ks : List Ex} (h : ∀ i, i < ks.length → p (ks.getD i default) = false) : idxE p ks = -1 := by
  unfold idxE
  rw [any_none h]; rfl
theorem idxE_any (p : Ex → Bool) (ks : List Ex) : (ks.any p = true ↔ 0 ≤ idxE p ks) ∧ -1 ≤ idxE p ks ∧ idxE p ks ≤ ks.length := by
  unfold idxE
  have := List.findIdx_le_length (p := p) (xs := ks)
  split <;> rename_i h
  · refine ⟨⟨fun _ => by omega, fun _ => h⟩, by omega, by omega⟩
  · refine ⟨⟨fun h' => absurd h' h, fun h' => by omega⟩, by omega, by omega⟩
def validE (e : Ex) (n : Int) : Int := if n < 1 ∨ 6 < n then 1 else if (fitsE 40 e 400).isSome then if wfE n e then 0 else 4 else 3
mutual
def hasU : Ex → Bool
  | .mk op lt ks => if op = 2 ∨ op = 7 then true else if op = 4 then hasUany ks else if op = 5 ∨ op = 6 then hasUall ks else if op = 8 then ks.length == 1 && !hasUany ks else false
def hasUany : List Ex → Bool
  | [] => false
  | k :: ks => hasU k || hasUany ks
def hasUall : List Ex → Bool
  | [] => true
  | k :: ks => hasU k && hasUall ks
end
theorem hasUany_any : ∀ ks : List Ex, hasUany ks = ks.any hasU
  | [] => by simp [hasUany]
  | k :: ks => by simp [hasUany, hasUany_any ks]
theorem hasUall_all : ∀ ks : List Ex, hasUall ks = ks.all hasU
  | [] => by simp [hasUall]
  | k :: ks => by simp [hasUall, hasUall_all ks]
theorem hasU_eq (e : Ex) : hasU e = if e.op = 2 ∨ e.op = 7 then true else if e.op = 4 then e.kids.any hasU else if e.op = 5 ∨ e.op = 6 then e.kids.all hasU else if e.op = 8 then e.kids.length == 1 && !hasU (e.kids.getD 0 default) else false := by
  cases e with
  | mk op lt ks =>
    have key : (ks.length == 1 && !ks.any hasU) = (ks.length == 1 && !hasU (ks.getD 0 default)) := by
      match ks with
      | [] => rfl
      | [k] => simp [List.getD_eq_getElem?_getD]
      | a :: b :: l => simp
    simp only [hasU, Ex.op, Ex.kids, hasUany_any, hasUall_all, key]; rfl
/-- a list that is not too long -/
def lim {α : Type} (l : List α) : Option (List α) := if l.length ≤ 1073741824 then some l else none
theorem lim_some {α : Type} {l m : List α} (h : lim l = some m) : m = l ∧ l.length ≤ 1073741824 := by
  unfold lim at h; split at h
  · cases h; exact ⟨rfl, by assumption⟩
  · cases h
def flatE (op : Int) (ks : List Ex) : List Ex := ks.flatMap fun k => if k.op = op then k.kids else [k]
/-- sorted, each once: as yet of one part at most -/
def ordE (l : List Ex) : Option (List Ex) := if l.length ≤ 1 then some l else none
def collectE (op : Int) (parts : List Ex) (nn : Ex) : Ex := match parts with
  | [] => nn
  | [p] => p
  | _ => .mk op 0 parts
def joinU (ks : List Ex) : Option Ex := if ks.any isUnivE then some univE else (lim (flatE 4 ks)).bind fun p => (ordE (p.filter fun e => !isEmptyE e)).bind fun q => some (collectE 4 q emptyE)
def joinC (ks : List Ex) : Option Ex := if ks.any isEmptyE then some emptyE else (lim (flatE 5 ks)).bind fun p => some (collectE 5 (p.filter fun e => !isUnitE e) unitE)
def joinA (ks : List Ex) : Option Ex := if ks.any isEmptyE then some emptyE else (lim (flatE 6 ks)).bind fun p => (ordE (p.filter fun e => !isUnivE e)).bind fun q => some (collectE 6 q univE)
def join1 (op : Int) (k : Ex) : Ex :=
  if op = 8 then if k.op = 8 ∧ k.kids.length = 1 then k.kids.getD 0 default else .mk 8 0 [k]
  else if op = 7 then if k.op = 1 ∨ k.op = 2 then unitE else if k.op = 7 ∨ isUnivE k = true then k else .mk 7 0 [k]
  else e0
def joinE (op : Int) (ks : List Ex) : Option Ex :=
  if op = 4 then joinU ks else if op = 5 then joinC ks else if op = 6 then joinA ks
  else if ks.length = 1 then some (join1 op (ks.getD 0 default)) else some e0
mutual
def simpE : Ex → Option Ex
  | .mk op lt ks => if ks.length = 0 then some (.mk op lt []) else if ks.length ≤ 1073741824 then (simpL ks).bind fun l => joinE op l else none
def simpL : List Ex → Option (List Ex)
  | [] => some []
  | k :: ks => (simpE k).bind fun a => (simpL ks).bind fun l => some (a :: l)
end
abbrev Dv := Ex × Ex × Bool
def partsD (by_ selves : List Ex) : Option (List Ex) := match by_ with
  | [] => some []
  | b :: bs => (if b.op = 1 then some b else joinE 5 (b :: selves.drop 1)).bind fun p => (partsD bs (selves.drop 1)).bind fun l => some (p :: l)
def boolD (op : Int) (ds : List Dv) : Option Dv :=
  (joinE op (ds.map (·.1))).bind fun b => (joinE op (ds.map (·.2.1))).bind fun s =>
    some (b, s, if op = 4 then decide (0 < (ds.filter (·.2.2)).length) else if op = 6 then decide ((ds.filter (·.2.2)).length = ds.length) else if op = 8 then decide ((ds.filter (·.2.2)).length = 0) else false)
mutual
def dervE (a : Int) (nm : Bool) : Ex → Option Dv
  | .mk op lt ks =>
    if op = 2 then some (emptyE, unitE, true)
    else if op = 3 then some (if lt = a then unitE else emptyE, .mk 3 lt [], false)
    else if op = 4 ∨ op = 6 ∨ op = 8 then if ks.length ≤ 1073741824 then (dervL a nm ks).bind fun ds => boolD op ds else none
    else if op = 7 then (dervL a nm ks).bind fun ds => if ds.length = 0 then none else (joinE 7 [(ds.getD 0 default).2.1]).bind fun s => (joinE 5 [(ds.getD 0 default).1, s]).bind fun b => some (b, s, true)
    else if op = 5 then if ks.length ≤ 1073741824 then (dervC a nm true ks).bind fun x => (partsD x.1 x.2.1).bind fun p => (joinE 4 p).bind fun b => (joinE 5 x.2.1).bind fun s => some (b, s, x.2.2) else none
    else some (emptyE, emptyE, false)
def dervL (a : Int) (nm : Bool) : List Ex → Option (List Dv)
  | [] => some []
  | k :: ks => (dervE a nm k).bind fun d => (dervL a nm ks).bind fun l => some (d :: l)
def dervC (a : Int) (nm : Bool) : Bool → List Ex → Option (List Ex × List Ex × Bool)
  | nl, [] => some ([], [], nl)
  | true, k :: ks => (dervE a nm k).bind fun d => (dervC a nm d.2.2 ks).bind fun x => some (d.1 :: x.1, d.2.1 :: x.2.1, x.2.2)
  | false, k :: ks => (if nm then some k else simpE k).bind fun s => (dervC a nm false ks).bind fun x => some (x.1, s :: x.2.1, x.2.2)
end
def letE (e : Ex) (a : Int) : Option (Ex × Int) := (dervE a true e).bind fun d => some (if validE d.1 6 = 0 then (d.1, 0) else (e0, 3))
/-! texts -/
def levE (op : Int) : Int := if op = 4 then 1 else if op = 6 then 2 else if op = 5 then 3 else if op = 8 then 4 else if op = 7 then 5 else 6
mutual
def wrE : Ex → List UInt8
  | .mk op lt ks => if op = 1 then [48] else if op = 2 then [49] else if op = 3 then [97 + UInt8.ofNat lt.toNat] else if op = 4 then wrL [124] 2 false ks else if op = 6 then wrL [38] 3 false ks
    else if op = 5 then wrL [] 4 false ks else if op = 8 then 33 :: wrL [] 4 false ks else if op = 7 then wrL [] 5 false ks ++ [42] else []
def wrL (sep : List UInt8) (least : Int) : Bool → List Ex → List UInt8
  | _, [] => []
  | b, k :: ks => (if b then sep else []) ++ (if least ≤ levE k.op then wrE k else 40 :: (wrE k ++ [41])) ++ wrL sep least true ks
end
def fmtE (e : Ex) : Option (List UInt8) := if validE e 6 = 0 then lim (wrE e) else some []
/-! the automaton -/
structure Run where
  L : Nat
  ex : List Ex
  nx : List (List Int)
  dn : Nat
  num : List (List UInt8 × Int)
def addR (r : Run) (e : Ex) : Option Run := (fmtE e).bind fun t => some { r with ex := r.ex ++ [e], num := mset r.num t (r.ex.length : Int) }
/-- the row of the letters from x on; the error -/
def rowR : Nat → Nat → Run → List Int → Option (Run × List Int × Int)
  | 0, _, r, row => some (r, row, 0)
  | n + 1, x, r, row => (letE (r.ex.getD r.dn default) (x : Int)).bind fun p => if p.2 ≠ 0 then some (r, row, p.2) else
    (fmtE p.1).bind fun t => match mget r.num t with
      | some i => rowR n (x + 1) r (row ++ [i])
      | none => if r.ex.length = 512 then some (r, row, 3) else (addR r p.1).bind fun r2 => rowR n (x + 1) r2 (row ++ [(r.ex.length : Int)])
def procR (r : Run) : Option (Run × Int) := (rowR r.L 0 r []).bind fun p => if p.2.2 ≠ 0 then some (p.1, p.2.2) else some ({ p.1 with nx := p.1.nx ++ [p.2.1], dn := p.1.dn + 1 }, 0)
def loopR : Nat → Run → Option (Run × Int)
  | 0, _ => none
  | n + 1, r => if r.dn = r.ex.length then some (r, 0) else (procR r).bind fun p => if p.2 ≠ 0 then some p else loopR n p.1
def autR (r : Run) : Dfa := ⟨r.L, 0, r.ex.map hasU, r.nx⟩
def zeroD : Dfa := ⟨0, 0, [], []⟩
def normE (e : Ex) : Option Ex := if validE e 6 = 0 then simpE e else some e0
def buildE (e : Ex) (n : Int) : Option (Dfa × Int) := if validE e n ≠ 0 then some (zeroD, validE e n) else
  (normE e).bind fun e1 => (addR ⟨n.toNat, [], [], 0, []⟩ e1).bind fun r => (loopR 600 r).bind fun p => if p.2 ≠ 0 then some (zeroD, p.2) else some (autR p.1, 0)
def exAw : Ex := .mk 7 0 [.mk 5 0 [.mk 3 0 [], .mk 3 1 []]]
theorem build_aw : buildE exAw 2 = some (⟨2, 0, [true, false, false], [[1, 2], [2, 0], [2, 2]]⟩, 0) := by decide +kernel
end Go.Sx

namespace Go.Sx
open Go.RowKit
/-! ### the parts of a node: their memory -/
def flatS (op : Int) : List Ex → List Value → List (List Value) → List Value
  | k :: ks, s :: ss, t :: ts => (if k.op = op then t else [s]) ++ flatS op ks ss ts
  | _, _, _ => []
theorem flatE_cons (op : Int) (k : Ex) (ks : List Ex) : flatE op (k :: ks) = (if k.op = op then k.kids else [k]) ++ flatE op ks := by simp [flatE]
theorem flatE_snoc (op : Int) (k : Ex) (ks : List Ex) : flatE op (ks ++ [k]) = flatE op ks ++ (if k.op = op then k.kids else [k]) := by simp [flatE]
theorem flatE_take_le (op : Int) (ks : List Ex) (k : Nat) : (flatE op (ks.take k)).length ≤ (flatE op ks).length := by
  have : flatE op ks = flatE op (ks.take k) ++ flatE op (ks.drop k) := by rw [flatE, flatE, flatE, ← List.flatMap_append, List.take_append_drop]
  rw [this]; simp
theorem flatS_snoc (op : Int) (k : Ex) (s : Value) (t : List Value) : ∀ (ks : List Ex) (ss : List Value) (ts : List (List Value)), ss.length = ks.length → ts.length = ks.length →
    flatS op (ks ++ [k]) (ss ++ [s]) (ts ++ [t]) = flatS op ks ss ts ++ (if k.op = op then t else [s])
  | [], [], [], _, _ => by simp [flatS]
  | [], _ :: _, _, h, _ => by simp at h
  | [], [], _ :: _, _, h => by simp at h
  | _ :: _, [], _, h, _ => by simp at h
  | _ :: _, _ :: _, [], _, h => by simp at h
  | a :: ks, b :: ss, c :: ts, h, h' => by
    simp only [List.cons_append, flatS, flatS_snoc op k s t ks ss ts (by simpa using h) (by simpa using h'), List.append_assoc]
theorem flat_at (op : Int) : ∀ (ks : List Ex) (ss : List Value) (ts : List (List Value)), ss.length = ks.length → ts.length = ks.length → (∀ i, i < ks.length → (ts.getD i []).length = (ks.getD i default).kids.length) →
    (flatS op ks ss ts).length = (flatE op ks).length ∧ ∀ m, m < (flatE op ks).length → ∃ i, i < ks.length ∧ (((flatE op ks).getD m default = ks.getD i default ∧ (flatS op ks ss ts).getD m undef = ss.getD i undef) ∨
      (∃ j, j < (ks.getD i default).kids.length ∧ (flatE op ks).getD m default = (ks.getD i default).kids.getD j default ∧ (flatS op ks ss ts).getD m undef = (ts.getD i []).getD j undef))
  | [], ss, ts, _, _, _ => by
    refine ⟨by cases ss <;> simp [flatS, flatE], fun m hm => by simp [flatE] at hm⟩
  | _ :: _, [], _, h, _, _ => by simp at h
  | _ :: _, _ :: _, [], _, h, _ => by simp at h
  | k :: ks, s :: ss, t :: ts, h, h', h3 => by
    obtain ⟨h4, h5⟩ := flat_at op ks ss ts (by simpa using h) (by simpa using h') (fun i hi => by simpa using h3 (i + 1) (by simpa using hi))
    have ht : t.length = k.kids.length := by simpa using h3 0 (by simp)
    rw [flatE_cons]
    simp only [flatS]
    by_cases hk : k.op = op
    · simp only [hk, if_true, List.length_append, h4, ht]
      refine ⟨trivial, fun m hm => ?_⟩
      rcases Nat.lt_or_ge m k.kids.length with hlt | hge
      · refine ⟨0, by simp, .inr ⟨m, by simpa using hlt, ?_, ?_⟩⟩
        · simp [List.getD_eq_getElem?_getD, List.getElem?_append_left hlt]
        · simp [List.getD_eq_getElem?_getD, List.getElem?_append_left (show m < t.length by omega)]
      · obtain ⟨i, hi, h6⟩ := h5 (m - k.kids.length) (by omega)
        refine ⟨i + 1, by simpa using hi, ?_⟩
        have e1 : (k.kids ++ flatE op ks).getD m default = (flatE op ks).getD (m - k.kids.length) default := by simp [List.getD_eq_getElem?_getD, List.getElem?_append_right hge]
        have e2 : (t ++ flatS op ks ss ts).getD m undef = (flatS op ks ss ts).getD (m - k.kids.length) undef := by simp [List.getD_eq_getElem?_getD, List.getElem?_append_right (show t.length ≤ m by omega), ht]
        rw [e1, e2]
        simpa using h6
    · simp only [hk, if_false, List.length_append, h4]
      refine ⟨by simp, fun m hm => ?_⟩
      cases m with
      | zero => exact ⟨0, by simp, .inl ⟨by simp, by simp⟩⟩
      | succ m =>
        obtain ⟨i, hi, h6⟩ := h5 m (by simp at hm; omega)
        exact ⟨i + 1, by simpa using hi, by simpa using h6⟩
theorem flatT_len {op : Int} {ks : List Ex} {ss : List Value} {tss : List (List Value)} (h1 : ss.length = ks.length) (h2 : tss.length = ks.length) (h3 : ∀ i, i < ks.length → (tss.getD i []).length = (ks.getD i default).kids.length) (k : Nat) :
    (flatS op (ks.take k) (ss.take k) (tss.take k)).length = (flatE op (ks.take k)).length :=
  (flat_at op (ks.take k) (ss.take k) (tss.take k) (by simp [h1]) (by simp [h2]) (fun i hi => by
    have hi' : i < k ∧ i < ks.length := by rw [List.length_take] at hi; omega
    have := h3 i hi'.2
    simpa [List.getD_eq_getElem?_getD, List.getElem?_take, hi'.1] using this)).1
theorem Opn2.flat {l l' : List Itm} {s : Value} {ks : List Ex} {ss : List Value} {tss : List (List Value)} (h : Opn2 l l' s ks ss tss) (op : Int) : (flatS op ks ss tss).length = (flatE op ks).length ∧
    ∀ m, m < (flatE op ks).length → Itm.deep ((flatS op ks ss tss).getD m undef) ((flatE op ks).getD m default).kids ∈ l' ∧ IsSl ((flatS op ks ss tss).getD m undef) := by
  obtain ⟨h1, h2⟩ := flat_at op ks ss tss h.o.len h.tl (fun i hi => (h.each i hi).len)
  refine ⟨h1, fun m hm => ?_⟩
  obtain ⟨i, hi, ⟨e1, e2⟩ | ⟨j, hj, e1, e2⟩⟩ := h2 m hm
  · rw [e1, e2]; exact ⟨h.o.kid i hi, h.o.sls i hi⟩
  · rw [e1, e2]; exact ⟨(h.each i hi).kid j hj, (h.each i hi).sls j hj⟩
/-! what stays of a list -/
theorem filter_take_snoc {p : Ex → Bool} {ks : List Ex} {k : Nat} (hk : k < ks.length) : (ks.take (k + 1)).filter p = (ks.take k).filter p ++ (if p (ks.getD k default) then [ks.getD k default] else []) := by
  rw [take_snocD default ks k hk, List.filter_append]
  congr 1
  by_cases h : p (ks.getD k default) = true
  · rw [if_pos h, List.filter_cons_of_pos h]; rfl
  · rw [if_neg h, List.filter_cons_of_neg h]; rfl
theorem filter_take_le {p : Ex → Bool} {ks : List Ex} (k : Nat) (h : k ≤ ks.length) : ((ks.take k).filter p).length ≤ k := by
  have := List.length_filter_le p (ks.take k)
  simp at this; omega
/-- the state of DeleteFunc: j read, the kept ones ahead -/
structure DelI (p : Ex → Bool) (ks : List Ex) (ss : List Value) (j i : Nat) (ks' : List Ex) (ss' : List Value) : Prop where
  le : j ≤ ks.length
  len : ks'.length = ks.length
  slen : ss'.length = ks'.length
  i_eq : i = ((ks.take j).filter p).length
  pre : ks'.take i = (ks.take j).filter p
  suf : ∀ m, j ≤ m → ks'.getD m default = ks.getD m default ∧ ss'.getD m undef = ss.getD m undef
  sub : ∀ m, m < ks.length → ∃ q, q < ks.length ∧ ks'.getD m default = ks.getD q default ∧ ss'.getD m undef = ss.getD q undef
theorem DelI.lt {p : Ex → Bool} {ks ks' : List Ex} {ss ss' : List Value} {j i : Nat} (h : DelI p ks ss j i ks' ss') : i ≤ j := by rw [h.i_eq]; exact filter_take_le j h.le
theorem getT_set_eq {α : Type} (d : α) {l : List α} {i : Nat} (h : i < l.length) (a : α) : (l.set i a).getD i d = a := by simp [List.getD_eq_getElem?_getD, h]
theorem getT_set_ne {α : Type} (d : α) {l : List α} {i j : Nat} (h : i ≠ j) (a : α) : (l.set i a).getD j d = l.getD j d := by simp [List.getD_eq_getElem?_getD, List.getElem?_set_ne h]
theorem DelI.keep {p : Ex → Bool} {ks ks' : List Ex} {ss ss' : List Value} {j i : Nat} (h : DelI p ks ss j i ks' ss') (hj : j < ks.length) (hp : p (ks.getD j default) = true) :
    DelI p ks ss (j + 1) (i + 1) (ks'.set i (ks'.getD j default)) (ss'.set i (ss'.getD j undef)) := by
  have hij := h.lt
  obtain ⟨e1, e2⟩ := h.suf j (Nat.le_refl _)
  have hl := h.len; have hsl := h.slen
  refine ⟨by omega, by simp [hl], by simp [hsl], ?_, ?_, ?_, ?_⟩
  · rw [filter_take_snoc hj, if_pos hp, List.length_append, ← h.i_eq]; rfl
  · rw [filter_take_snoc hj, if_pos hp, ← h.pre, e1]
    rw [List.take_add_one, List.take_set_of_le (by omega)]
    congr 1
    simp [show i < ks'.length by omega]
  · intro m hm
    rw [getT_set_ne _ (by omega), getT_set_ne _ (by omega)]
    exact h.suf m (by omega)
  · intro m hm
    by_cases hmi : i = m
    · subst hmi
      rw [getT_set_eq _ (by omega), getT_set_eq _ (by omega)]
      exact ⟨j, hj, e1, e2⟩
    · rw [getT_set_ne _ hmi, getT_set_ne _ hmi]; exact h.sub m hm
theorem DelI.drop {p : Ex → Bool} {ks ks' : List Ex} {ss ss' : List Value} {j i : Nat} (h : DelI p ks ss j i ks' ss') (hj : j < ks.length) (hp : p (ks.getD j default) = false) : DelI p ks ss (j + 1) i ks' ss' := by
  refine ⟨by omega, h.len, h.slen, ?_, ?_, fun m hm => h.suf m (by omega), h.sub⟩
  · rw [filter_take_snoc hj, hp, h.i_eq]; simp
  · rw [filter_take_snoc hj, hp, h.pre]; simp
theorem DelI.psub {p : Ex → Bool} {ks ks' : List Ex} {ss ss' : List Value} {i : Nat} (h : DelI p ks ss ks.length i ks' ss') : PSub (ks.filter p) (ss'.take i) ks ss ∧ ks'.take i = ks.filter p ∧ i = (ks.filter p).length := by
  have hp := h.pre; have hi := h.i_eq
  rw [List.take_length] at hp hi
  have hl := h.len; have hsl := h.slen; have hij := h.lt
  refine ⟨⟨by simp; omega, by have := List.length_filter_le p ks; omega, fun k hk => ?_⟩, hp, hi⟩
  obtain ⟨q, h1, h2, h3⟩ := h.sub k (by omega)
  refine ⟨q, h1, ?_, ?_⟩
  · rw [← hp, ← h2]; simp [List.getD_eq_getElem?_getD, List.getElem?_take, show k < i by omega]
  · rw [← h3]; simp [List.getD_eq_getElem?_getD, List.getElem?_take, show k < i by omega]
theorem findIdx_first {p : Ex → Bool} {ks : List Ex} (h : ks.any p = true) : ks.findIdx p < ks.length ∧ p (ks.getD (ks.findIdx p) default) = true ∧ ∀ i, i < ks.findIdx p → p (ks.getD i default) = false := by
  have hlt : ks.findIdx p < ks.length := List.findIdx_lt_length_of_exists (by simpa using h)
  refine ⟨hlt, ?_, fun i hi => ?_⟩
  · have := List.findIdx_getElem (p := p) (xs := ks) (w := hlt)
    simpa [List.getD_eq_getElem?_getD, hlt] using this
  · have := List.not_of_lt_findIdx (p := p) (xs := ks) hi
    simpa [List.getD_eq_getElem?_getD, show i < ks.length by omega] using this
theorem filter_all {p : Ex → Bool} : ∀ (ks : List Ex), (∀ i, i < ks.length → p (ks.getD i default) = true) → ks.filter p = ks := fun ks h => by
  rw [List.filter_eq_self]
  intro x hx
  obtain ⟨i, hi⟩ := List.mem_iff_getElem?.1 hx
  have hl := (List.getElem?_eq_some_iff.1 hi).1
  simpa [List.getD_eq_getElem?_getD, hi] using h i hl
theorem filter_not {p : Ex → Bool} {ks : List Ex} (h : ks.any p = false) : ks.filter (fun e => !p e) = ks := by
  rw [List.filter_eq_self]
  intro x hx
  rw [List.any_eq_false] at h
  simpa using h x hx
theorem DelI.start {p : Ex → Bool} {ks : List Ex} {ss : List Value} (hl : ss.length = ks.length) (h : ks.any p = true) : DelI (fun e => !p e) ks ss (ks.findIdx p + 1) (ks.findIdx p) ks ss := by
  obtain ⟨h1, h2, h3⟩ := findIdx_first h
  have e : (ks.take (ks.findIdx p)).filter (fun e => !p e) = ks.take (ks.findIdx p) := filter_all _ (fun i hi => by
    have hi' : i < ks.findIdx p ∧ i < ks.length := by rw [List.length_take] at hi; omega
    have := h3 i hi'.1
    simp [List.getD_eq_getElem?_getD, List.getElem?_take, hi'.1] at this ⊢
    exact this)
  have e2 : (ks.take (ks.findIdx p + 1)).filter (fun e => !p e) = ks.take (ks.findIdx p) := by
    rw [filter_take_snoc h1, h2, e]; simp
  refine ⟨h1, rfl, hl, ?_, e2.symm, fun m _ => ⟨rfl, rfl⟩, fun m hm => ⟨m, hm, rfl, rfl⟩⟩
  rw [e2]; simp; omega
end Go.Sx

namespace Go.Sx
open Go.RowKit
theorem ret_none (w : World) : Ret (fun _ => False) w w [] := ⟨FrameX.refl _ w, _, HeapAt.nil w, fun _ _ h => h.elim⟩
/-- a contract of the shelf: a value, the world as it was -/
theorem callS_pureT {P : Program} {f : FuncId} {vs : List Value} {w : World} {v : Value} {φ : Value → List Asn → Prop} (h : Calls P f vs.toArray w fun e w' => e = .returned v ∧ w' = w) (hφ : φ v []) : CallS P f vs w φ :=
  h.mono fun e w' h' => ⟨v, [], hφ, h'.1, by rw [h'.2]; exact ret_none w⟩
theorem ordE_len {l m : List Ex} (h : ordE l = some m) : l.length ≤ 1 ∧ m = l := by
  unfold ordE at h; split at h
  · cases h; exact ⟨by assumption, rfl⟩
  · cases h
theorem collect_deep {l : List Itm} {op : Int} {ks : List Ex} {ss : List Value} {s ns sr : Value} {nn : Ex} (hk : ∀ k, k < ks.length → Itm.deep (ss.getD k undef) (ks.getD k default).kids ∈ l) (hs : Itm.deep s ks ∈ l) (hn : Itm.deep ns nn.kids ∈ l)
    (h : (ks = [] ∧ sr = ns) ∨ (ks.length = 1 ∧ sr = ss.getD 0 undef) ∨ (2 ≤ ks.length ∧ sr = s)) : Itm.deep sr (collectE op ks nn).kids ∈ l := by
  rcases h with ⟨rfl, rfl⟩ | ⟨h1, rfl⟩ | ⟨h1, rfl⟩
  · exact hn
  · obtain ⟨k, rfl⟩ := List.length_eq_one_iff.1 h1
    exact hk 0 (by simp)
  · match ks, h1, hs with
    | a :: b :: l', _, hs => exact hs
theorem one_deep {l : List Itm} {s : Value} {k : Ex} (h : Itm.deep s k.kids ∈ l) : ∀ i, i < [k].length → Itm.deep ([s].getD i undef) ([k].getD i default).kids ∈ l := fun i hi => by
  have : i = 0 := by simpa using hi
  subst this; exact h
theorem bind_some {α β : Type} {x : Option α} {f : α → Option β} {b : β} (h : x.bind f = some b) : ∃ a, x = some a ∧ f a = some b := by
  cases x with
  | none => cases h
  | some a => exact ⟨a, rfl, h⟩
/-- trees of a forest, read from w on -/
theorem HW.kidR {C : Cx} {own : List Asn} {B : Bs} {l : List Itm} {w : World} {s : Value} {ks : List Ex} (hw : HW C own w) (hB : BsOk B C.W0 C.S) (i : Nat) (hi : own[i]? = some (forest B l)) (hx : Itm.deep s ks ∈ l) : RdK (cellR (fun _ => False) w) s ks := HW.itm hB i hi hx hw
theorem HeapAt.kidR {C : Cx} {own : List Asn} {B : Bs} {l : List Itm} {w : World} {Fs : Nat → Nat → Prop} {s : Value} {ks : List Ex} (hh : HeapAt own Fs w) (hB : BsOk B C.W0 C.S) (i j : Nat) (hij : i ≠ j) (hi : own[i]? = some (forest B l)) (hx : Itm.deep s ks ∈ l) (hfr : FrameX C.S C.W0 w) (hal : ∀ k b, Fs k b → C.W0.heap.size ≤ b ∨ C.S b) : RdK (cellR (Fs j) w) s ks := HeapAt.itm hB i j hij hi hx hh hfr hal
end Go.Sx

namespace Go.Sx
open Go.RowKit
theorem simpE_eq (e : Ex) : simpE e = if e.kids.length = 0 then some (.mk e.op e.lt []) else if e.kids.length ≤ 1073741824 then (simpL e.kids).bind fun l => joinE e.op l else none := by
  cases e with | mk op lt ks => simp only [simpE, Ex.op, Ex.lt, Ex.kids]; rfl
theorem simpL_at : ∀ {ks L : List Ex}, simpL ks = some L → L.length = ks.length ∧ ∀ k, k < ks.length → simpE (ks.getD k default) = some (L.getD k default)
  | [], L, h => by simp [simpL] at h; subst h; exact ⟨rfl, fun k hk => by simp at hk⟩
  | a :: ks, L, h => by
    rw [simpL] at h
    obtain ⟨b, hb, h⟩ := bind_some h
    obtain ⟨M, hM, h⟩ := bind_some h
    cases h
    obtain ⟨h1, h2⟩ := simpL_at hM
    refine ⟨by simp [h1], fun k hk => ?_⟩
    cases k with
    | zero => simpa using hb
    | succ k => simpa using h2 k (by simpa using hk)
/-- a row that is filled from the left -/
def fillE (n : Nat) (L : List Ex) (k : Nat) : List Ex := L.take k ++ List.replicate (n - k) e0
def fillVT (n : Nat) (ts : List Value) : List Value := ts ++ List.replicate (n - ts.length) nilV
theorem fillE_len {n : Nat} {L : List Ex} {k : Nat} (h : L.length = n) (hk : k ≤ n) : (fillE n L k).length = n := by simp [fillE]; omega
theorem fillV_len {n : Nat} {ts : List Value} (hk : ts.length ≤ n) : (fillVT n ts).length = n := by simp [fillVT]; omega
theorem fillE_set {n : Nat} {L : List Ex} {k : Nat} (h : L.length = n) (hk : k < n) : (fillE n L k).set k (L.getD k default) = fillE n L (k + 1) := by
  unfold fillE
  rw [take_snocD default L k (by omega)]
  have e : List.replicate (n - k) e0 = e0 :: List.replicate (n - (k + 1)) e0 := by rw [show n - k = (n - (k + 1)) + 1 by omega]; rfl
  rw [e, List.set_append_right _ _ (by simp; omega)]
  have e2 : k - (L.take k).length = 0 := by simp; omega
  rw [e2]; simp
theorem fillV_set {n : Nat} {ts : List Value} (hk : ts.length < n) (s : Value) : (fillVT n ts).set ts.length s = fillVT n (ts ++ [s]) := by
  unfold fillVT
  have e : List.replicate (n - ts.length) nilV = nilV :: List.replicate (n - (ts ++ [s]).length) nilV := by rw [show n - ts.length = (n - (ts ++ [s]).length) + 1 by simp; omega]; rfl
  rw [e, List.set_append_right _ _ (by omega)]
  simp
theorem fill_zero (n : Nat) (L : List Ex) : fillE n L 0 = List.replicate n e0 ∧ fillVT n [] = List.replicate n nilV := by simp [fillE, fillVT]
theorem fill_full {n : Nat} {L : List Ex} {ts : List Value} (h : L.length = n) (ht : ts.length = n) : fillE n L n = L ∧ fillVT n ts = ts := by
  unfold fillE fillVT
  rw [List.take_of_length_le (by omega)]
  simp [ht]
theorem xcs_fill {n : Nat} {L : List Ex} {ts : List Value} (h : L.length = n) (hk : ts.length < n) (s : Value) :
    (xcs (fillE n L ts.length) (fillVT n ts)).take (ts.length * 3) ++ [.int .i64 (L.getD ts.length default).op, .int .i64 (L.getD ts.length default).lt, s] ++ (xcs (fillE n L ts.length) (fillVT n ts)).drop (ts.length * 3 + 3) = xcs (fillE n L (ts.length + 1)) (fillVT n (ts ++ [s])) := by
  rw [xcs_set _ _ _ (by rw [fillE_len h (by omega), fillV_len (by omega)]) (by rw [fillE_len h (by omega)]; omega), fillE_set h (by omega), fillV_set (by omega)]
/-- the slices of the trees that stand in a row so far -/
structure Got (l : List Itm) (L : List Ex) (ts : List Value) : Prop where
  d : ∀ i, i < ts.length → Itm.deep (ts.getD i undef) (L.getD i default).kids ∈ l
  s : ∀ i, i < ts.length → IsSl (ts.getD i undef)
theorem Got.nil (l : List Itm) (L : List Ex) : Got l L [] := ⟨fun i hi => by simp at hi, fun i hi => by simp at hi⟩
theorem Got.later {l l' : List Itm} {L : List Ex} {ts : List Value} (h : Got l L ts) (hs : ∀ x ∈ l, x ∈ l') : Got l' L ts := ⟨fun i hi => hs _ (h.d i hi), h.s⟩
theorem getD_snoc {α : Type} (d : α) (l : List α) (a : α) (i : Nat) : (l ++ [a]).getD i d = if i < l.length then l.getD i d else if i = l.length then a else d := by
  simp only [List.getD_eq_getElem?_getD]
  by_cases h : i < l.length
  · rw [List.getElem?_append_left h, if_pos h]
  · rw [List.getElem?_append_right (by omega), if_neg h]
    by_cases h2 : i = l.length
    · subst h2; simp
    · rw [if_neg h2, List.getElem?_eq_none (by simp; omega)]; rfl
theorem Got.snoc {l : List Itm} {L : List Ex} {ts : List Value} (h : Got l L ts) {s : Value} (hd : Itm.deep s (L.getD ts.length default).kids ∈ l) (hs : IsSl s) : Got l L (ts ++ [s]) :=
  ⟨fun i hi => by
    rw [getD_snoc]
    split
    · exact h.d i (by assumption)
    · have : i = ts.length := by simp at hi; omega
      subst this; rw [if_pos rfl]; exact hd, fun i hi => by
    rw [getD_snoc]
    split
    · exact h.s i (by assumption)
    · have : i = ts.length := by simp at hi; omega
      subst this; rw [if_pos rfl]; exact hs⟩
end Go.Sx

namespace Go.Sx
/-! ### enumerating a transformation semigroup -/
structure Rn where
  pts : Nat
  mon : Bool
  gens : List (List Int)
  elems : List (List Int)
  pre : List Int
  las : List Int
  right : List (List Int)
  rules : List (List UInt8 × List UInt8)
  done : Nat
  words : List (List UInt8)
  beh : List Int
  sing : List Int
def textF (f : List Int) : List UInt8 := f.map fun j => UInt8.ofNat j.toNat
def txs (r : Rn) : List (List UInt8) := r.elems.map textF
def addN (r : Rn) (f : List Int) (p l : Int) (w : List UInt8) (b : Int) : Rn := { r with elems := r.elems ++ [f], pre := r.pre ++ [p], las := r.las ++ [l], words := r.words ++ [w], beh := r.beh ++ [b] }
def afterN (r : Rn) (i : Int) (x : Nat) : Int := if i = -1 then r.sing.getD x 0 else (r.right.getD i.toNat []).getD x 0
def redN (r : Rn) (i : Int) (x : Nat) : Bool := decide (r.pre.getD (afterN r i x).toNat 0 = i) && decide (r.las.getD (afterN r i x).toNat 0 = (x : Int))
def compF (f g : List Int) : List Int := f.map fun j => g.getD j.toNat 0
def idF (n : Nat) : List Int := (List.range n).map fun (i : Nat) => (i : Int)
def ruleN (r : Rn) (w v : List UInt8) : Rn := { r with rules := r.rules ++ [(w, v)] }
def longN (r : Rn) (x : Nat) : List UInt8 := r.words.getD r.done [] ++ [ltr x]
def prodN (r : Rn) (x : Nat) : List Int := compF (r.elems.getD r.done []) (r.gens.getD x [])
def letN (r : Rn) (x : Nat) : Rn × Int :=
  if textF (prodN r x) ∈ txs r then
    (if r.words.getD r.done [] ≠ [] ∧ redN r (r.beh.getD r.done 0) x = true then ruleN r (longN r x) (r.words.getD (posN (txs r) (textF (prodN r x))) []) else r, ((posN (txs r) (textF (prodN r x)) : Nat) : Int))
  else (addN r (prodN r x) (r.done : Int) (x : Int) (longN r x) (afterN r (r.beh.getD r.done 0) x), (r.elems.length : Int))
/-- the first k letters of a row -/
def rowN (r : Rn) : Nat → Rn × List Int
  | 0 => (r, [])
  | k + 1 => ((letN (rowN r k).1 k).1, (rowN r k).2 ++ [(letN (rowN r k).1 k).2])
def procN (r : Rn) : Rn := { (rowN r r.gens.length).1 with right := (rowN r r.gens.length).1.right ++ [(rowN r r.gens.length).2], done := (rowN r r.gens.length).1.done + 1 }
def singN (r : Rn) (i : Int) : Rn := { r with sing := r.sing ++ [i] }
def genN (r : Rn) (e : Int) (x : Nat) : Rn :=
  if textF (r.gens.getD x []) ∈ txs r then singN (ruleN r [ltr x] (r.words.getD (posN (txs r) (textF (r.gens.getD x []))) [])) ((posN (txs r) (textF (r.gens.getD x [])) : Nat) : Int)
  else singN (addN r (r.gens.getD x []) e (x : Int) [ltr x] e) (r.elems.length : Int)
def rn0 (G : List (List Int)) (mon : Bool) : Rn := ⟨(G.getD 0 []).length, mon, G, [], [], [], [], [], 0, [], [], []⟩
def rn1 (G : List (List Int)) (mon : Bool) : Rn := if mon then addN (rn0 G mon) (idF (G.getD 0 []).length) (-1) (-1) [] (-1) else rn0 G mon
def emp1 (mon : Bool) : Int := if mon then 0 else -1
def begK (G : List (List Int)) (mon : Bool) : Nat → Rn
  | 0 => rn1 G mon
  | k + 1 => genN (begK G mon k) (emp1 mon) k
def begN (G : List (List Int)) (mon : Bool) : Rn := begK G mon G.length

def VF (n : Nat) (f : List Int) : Prop := f.length = n ∧ ∀ i, i < n → 0 ≤ f.getD i 0 ∧ f.getD i 0 < n
structure VG (G : List (List Int)) (n : Nat) : Prop where
  len : 1 ≤ G.length ∧ G.length ≤ 2
  pts : 1 ≤ n ∧ n ≤ 4
  fs : ∀ x, x < G.length → VF n (G.getD x [])
/-- what holds of a computation with k letters known and at most c rules -/
structure RnI (r : Rn) (k c : Nat) : Prop where
  g : VG r.gens r.pts
  el : ∀ i, i < r.elems.length → VF r.pts (r.elems.getD i [])
  nd : (txs r).Nodup
  pl : r.pre.length = r.elems.length
  ll : r.las.length = r.elems.length
  wl : r.words.length = r.elems.length
  bl : r.beh.length = r.elems.length
  rl : r.right.length = r.done
  dn : r.done ≤ r.elems.length
  rr : ∀ i, i < r.done → (r.right.getD i []).length = r.gens.length ∧ ∀ x, x < r.gens.length → 0 ≤ (r.right.getD i []).getD x 0 ∧ (r.right.getD i []).getD x 0 < r.elems.length
  bh : ∀ i, i < r.elems.length → r.beh.getD i 0 = -1 ∨ (0 ≤ r.beh.getD i 0 ∧ r.beh.getD i 0 < (i : Int))
  ws : ∀ i, i < r.elems.length → (r.words.getD i []).length ≤ i + 1
  ru : r.rules.length ≤ c
  sl : r.sing.length = k
  si : ∀ x, x < k → 0 ≤ r.sing.getD x 0 ∧ r.sing.getD x 0 < r.elems.length
  kl : k ≤ r.gens.length
/-- texts of functions on n points -/
def allT (n : Nat) : Nat → List (List UInt8)
  | 0 => [[]]
  | k + 1 => (List.range n).flatMap fun c => (allT n k).map (UInt8.ofNat c :: ·)
theorem allT_len (n : Nat) : ∀ k, (allT n k).length = n ^ k
  | 0 => rfl
  | k + 1 => by
    rw [allT, List.length_flatMap]
    have : ((List.range n).map fun c => ((allT n k).map (UInt8.ofNat c :: ·)).length) = List.replicate n (n ^ k) := by
      apply List.ext_getElem
      · simp
      · intro i h1 h2; simp [allT_len n k]
    rw [this, List.sum_replicate_nat]
    rw [Nat.pow_succ, Nat.mul_comm]
theorem allT_mem (n : Nat) : ∀ f : List Int, (∀ j ∈ f, 0 ≤ j ∧ j < (n : Int)) → textF f ∈ allT n f.length
  | [], _ => by simp [allT, textF]
  | a :: f, h => by
    have ha := h a (by simp)
    simp only [List.length_cons, allT, List.mem_flatMap, List.mem_range, List.mem_map]
    refine ⟨a.toNat, by omega, textF f, allT_mem n f (fun j hj => h j (by simp [hj])), rfl⟩
theorem VF.mem {n : Nat} {f : List Int} (h : VF n f) : ∀ j ∈ f, 0 ≤ j ∧ j < (n : Int) := fun j hj => by
  obtain ⟨i, hi, e⟩ := List.getElem_of_mem hj
  have := h.2 i (by rw [← h.1]; exact hi)
  rw [List.getD_eq_getElem?_getD, List.getElem?_eq_getElem hi, Option.getD_some, e] at this
  exact this
theorem RnI.le {r : Rn} {k c : Nat} (h : RnI r k c) : r.elems.length ≤ 256 := by
  have h1 : (txs r).length ≤ (allT r.pts r.pts).length := nodup_sub_len h.nd fun y hy => by
    obtain ⟨f, hf, rfl⟩ := List.mem_map.1 hy
    obtain ⟨i, hi, e⟩ := List.getElem_of_mem hf
    have hv := h.el i hi
    rw [List.getD_eq_getElem?_getD, List.getElem?_eq_getElem hi, Option.getD_some, e] at hv
    have := allT_mem r.pts f hv.mem
    rw [hv.1] at this; exact this
  rw [allT_len] at h1
  have h2 : (txs r).length = r.elems.length := by simp [txs]
  have h3 := h.g.pts
  have h4 : r.pts ^ r.pts ≤ 256 := by
    obtain ⟨h5, h6⟩ := h3
    generalize r.pts = n at h5 h6
    match n, h5, h6 with
    | 1, _, _ => decide
    | 2, _, _ => decide
    | 3, _, _ => decide
    | 4, _, _ => decide
  omega
theorem VF.comp {n : Nat} {f g : List Int} (hf : VF n f) (hg : VF n g) : VF n (compF f g) := by
  refine ⟨by simp [compF, hf.1], fun i hi => ?_⟩
  have h := hf.2 i hi
  have e : (compF f g).getD i 0 = g.getD (f.getD i 0).toNat 0 := by
    unfold compF
    simp [List.getD_eq_getElem?_getD, List.getElem?_map, show i < f.length by rw [hf.1]; exact hi]
  rw [e]
  exact hg.2 _ (by omega)
theorem VF.id {n : Nat} : VF n (idF n) := by
  refine ⟨by simp [idF], fun i hi => ?_⟩
  have e : (idF n).getD i 0 = (i : Int) := by simp [idF, List.getD_eq_getElem?_getD, hi]
  rw [e]; omega
end Go.Sx

namespace Go.Sx
theorem RnI.later {r : Rn} {k c d : Nat} (h : RnI r k c) (hc : c ≤ d) : RnI r k d := { h with ru := Nat.le_trans h.ru hc }
theorem txs_len (r : Rn) : (txs r).length = r.elems.length := by simp [txs]
theorem RnI.add {r : Rn} {k c : Nat} (h : RnI r k c) {f : List Int} (hf : VF r.pts f) (hn : textF f ∉ txs r) {p l b : Int} {w : List UInt8} (hw : w.length ≤ r.elems.length + 1) (hb : b = -1 ∨ (0 ≤ b ∧ b < (r.elems.length : Int))) : RnI (addN r f p l w b) k c := by
  have h1 := h.pl; have h2 := h.ll; have h3 := h.wl; have h4 := h.bl
  refine ⟨h.g, ?_, ?_, by simp [addN, h1], by simp [addN, h2], by simp [addN, h3], by simp [addN, h4], h.rl, by have := h.dn; simp [addN]; omega, ?_, ?_, ?_, h.ru, h.sl, ?_, h.kl⟩
  · intro i hi
    simp only [addN, List.length_append, List.length_singleton] at hi ⊢
    rw [getD_snoc]
    split
    · exact h.el i (by assumption)
    · rw [if_pos (by omega)]; exact hf
  · show (List.map textF (r.elems ++ [f])).Nodup
    rw [List.map_append, List.nodup_append]
    refine ⟨h.nd, by simp, fun a ha b hb => ?_⟩
    simp at hb; subst hb; exact fun e => hn (e ▸ ha)
  · intro i hi
    obtain ⟨h5, h6⟩ := h.rr i hi
    refine ⟨h5, fun x hx => ⟨(h6 x hx).1, ?_⟩⟩
    have := (h6 x hx).2
    simp only [addN, List.length_append, List.length_singleton]
    omega
  · intro i hi
    simp only [addN, List.length_append, List.length_singleton] at hi ⊢
    rw [getD_snoc, h4]
    split
    · exact h.bh i (by assumption)
    · rw [if_pos (by omega)]
      rcases hb with hb | hb
      · exact .inl hb
      · right; omega
  · intro i hi
    simp only [addN, List.length_append, List.length_singleton] at hi ⊢
    rw [getD_snoc, h3]
    split
    · exact h.ws i (by assumption)
    · rw [if_pos (by omega)]; omega
  · intro x hx
    have := h.si x hx
    simp only [addN, List.length_append, List.length_singleton]
    omega
theorem RnI.rule {r : Rn} {k c : Nat} (h : RnI r k c) (w v : List UInt8) : RnI (ruleN r w v) k (c + 1) :=
  ⟨h.g, h.el, h.nd, h.pl, h.ll, h.wl, h.bl, h.rl, h.dn, h.rr, h.bh, h.ws, by have := h.ru; simp [ruleN]; omega, h.sl, h.si, h.kl⟩
theorem RnI.sing {r : Rn} {k c : Nat} (h : RnI r k c) (hk : k < r.gens.length) {i : Int} (hi : 0 ≤ i ∧ i < r.elems.length) : RnI (singN r i) (k + 1) c := by
  have h1 := h.sl
  refine ⟨h.g, h.el, h.nd, h.pl, h.ll, h.wl, h.bl, h.rl, h.dn, h.rr, h.bh, h.ws, h.ru, by simp [singN, h1], fun x hx => ?_, hk⟩
  simp only [singN]
  rw [getD_snoc, h1]
  split
  · exact h.si x (by assumption)
  · rw [if_pos (by omega)]; exact hi
theorem rn1_ok {G : List (List Int)} {n : Nat} (hG : VG G n) (mon : Bool) (hn : (G.getD 0 []).length = n) : RnI (rn1 G mon) 0 0 ∧ (mon = true → (rn1 G mon).elems.length = 1) := by
  have h0 : RnI (rn0 G mon) 0 0 := ⟨by show VG G (G.getD 0 []).length; rw [hn]; exact hG, fun i hi => absurd hi (by simp [rn0]), by simp [txs, rn0], rfl, rfl, rfl, rfl, rfl, Nat.le_refl _, fun i hi => absurd hi (by simp [rn0]), fun i hi => absurd hi (by simp [rn0]), fun i hi => absurd hi (by simp [rn0]), Nat.le_refl _, rfl, fun x hx => absurd hx (by omega), Nat.zero_le _⟩
  unfold rn1
  cases mon with
  | false => exact ⟨h0, fun h => by cases h⟩
  | true => exact ⟨h0.add VF.id (by simp [txs, rn0]) (by simp) (.inl rfl), fun _ => by simp [addN, rn0]⟩
theorem genN_ok {r : Rn} {k c : Nat} (h : RnI r k c) (hk : k < r.gens.length) {e : Int} (he : e = -1 ∨ (0 ≤ e ∧ e < (r.elems.length : Int))) : RnI (genN r e k) (k + 1) (c + 1) ∧ (genN r e k).gens = r.gens ∧ r.elems.length ≤ (genN r e k).elems.length := by
  unfold genN
  split
  · rename_i hm
    have := posN_lt hm
    rw [txs_len] at this
    refine ⟨(h.rule _ _).sing hk ⟨by omega, ?_⟩, rfl, Nat.le_refl _⟩
    show ((posN (txs r) _ : Nat) : Int) < r.elems.length
    omega
  · rename_i hm
    have hv := h.g.fs k hk
    refine ⟨((h.add hv hm (by simp) he).later (Nat.le_succ _)).sing hk ⟨by omega, by simp [addN]; omega⟩, rfl, by simp [singN, addN]⟩
theorem begK_ok {G : List (List Int)} {n : Nat} (hG : VG G n) (mon : Bool) (hn : (G.getD 0 []).length = n) : ∀ k, k ≤ G.length → RnI (begK G mon k) k k ∧ (begK G mon k).gens = G ∧ (mon = true → 1 ≤ (begK G mon k).elems.length)
  | 0, _ => by
    obtain ⟨h1, h2⟩ := rn1_ok hG mon hn
    refine ⟨h1, ?_, fun h => by show 1 ≤ (rn1 G mon).elems.length; rw [h2 h]; exact Nat.le_refl _⟩
    show (rn1 G mon).gens = G
    unfold rn1; cases mon <;> rfl
  | k + 1, hk => by
    obtain ⟨h1, h2, h3⟩ := begK_ok hG mon hn k (by omega)
    have he : emp1 mon = -1 ∨ (0 ≤ emp1 mon ∧ emp1 mon < ((begK G mon k).elems.length : Int)) := by
      cases mon with
      | false => exact .inl rfl
      | true => right; have := h3 rfl; simp [emp1]; omega
    obtain ⟨h4, h5, h6⟩ := genN_ok h1 (by rw [h2]; omega) he
    exact ⟨h4, h5.trans h2, fun h => Nat.le_trans (h3 h) h6⟩
theorem begN_ok {G : List (List Int)} {n : Nat} (hG : VG G n) (mon : Bool) (hn : (G.getD 0 []).length = n) : RnI (begN G mon) G.length G.length ∧ (begN G mon).gens = G := by
  obtain ⟨h1, h2, _⟩ := begK_ok hG mon hn G.length (Nat.le_refl _)
  exact ⟨h1, h2⟩
/-! ### a step -/
theorem after_ok {r : Rn} {c : Nat} (h : RnI r r.gens.length c) (hd : r.done < r.elems.length) {x : Nat} (hx : x < r.gens.length) : 0 ≤ afterN r (r.beh.getD r.done 0) x ∧ afterN r (r.beh.getD r.done 0) x < r.elems.length := by
  unfold afterN
  rcases h.bh r.done hd with hb | ⟨hb, hb2⟩
  · rw [if_pos hb]; exact h.si x hx
  · rw [if_neg (by omega)]
    exact (h.rr _ (by omega)).2 x hx
theorem letN_ok {r : Rn} {c : Nat} (h : RnI r r.gens.length c) (hd : r.done < r.elems.length) {x : Nat} (hx : x < r.gens.length) :
    RnI (letN r x).1 r.gens.length (c + 1) ∧ (letN r x).1.gens = r.gens ∧ (letN r x).1.done = r.done ∧ (letN r x).1.right = r.right ∧ r.elems.length ≤ (letN r x).1.elems.length ∧ 0 ≤ (letN r x).2 ∧ (letN r x).2 < (letN r x).1.elems.length := by
  have hv : VF r.pts (prodN r x) := (h.el r.done hd).comp (h.g.fs x hx)
  unfold letN
  split
  · rename_i hm
    have := posN_lt hm
    rw [txs_len] at this
    split
    · refine ⟨h.rule _ _, rfl, rfl, rfl, Nat.le_refl _, by simp only []; omega, ?_⟩
      show ((posN (txs r) _ : Nat) : Int) < r.elems.length
      omega
    · exact ⟨h.later (Nat.le_succ _), rfl, rfl, rfl, Nat.le_refl _, by simp only []; omega, by simp only []; omega⟩
  · rename_i hm
    have hw := h.ws r.done hd
    refine ⟨(h.add hv hm ?_ (.inr (after_ok h hd hx))).later (Nat.le_succ _), rfl, rfl, rfl, by simp [addN], by simp only []; omega, by simp [addN]; omega⟩
    simp only [longN, List.length_append, List.length_singleton]
    omega
theorem rowN_ok {r : Rn} {c : Nat} (h : RnI r r.gens.length c) (hd : r.done < r.elems.length) : ∀ k, k ≤ r.gens.length →
    RnI (rowN r k).1 r.gens.length (c + k) ∧ (rowN r k).1.gens = r.gens ∧ (rowN r k).1.done = r.done ∧ (rowN r k).1.right = r.right ∧ r.elems.length ≤ (rowN r k).1.elems.length ∧ (rowN r k).2.length = k ∧ ∀ x, x < k → 0 ≤ (rowN r k).2.getD x 0 ∧ (rowN r k).2.getD x 0 < (rowN r k).1.elems.length
  | 0, _ => ⟨h, rfl, rfl, rfl, Nat.le_refl _, rfl, fun x hx => absurd hx (by omega)⟩
  | k + 1, hk => by
    obtain ⟨h1, h2, h3, h4, h5, h6, h7⟩ := rowN_ok h hd k (by omega)
    rw [← h2] at h1
    obtain ⟨g1, g2, g3, g4, g5, g6, g7⟩ := letN_ok h1 (by omega) (x := k) (by rw [h2]; omega)
    rw [h2] at g1
    refine ⟨g1, g2.trans h2, g3.trans h3, g4.trans h4, Nat.le_trans h5 g5, by simp [rowN, h6], fun x hx => ?_⟩
    simp only [rowN]
    rw [getD_snoc, h6]
    split
    · have := h7 x (by assumption)
      exact ⟨this.1, Int.lt_of_lt_of_le this.2 (by omega)⟩
    · rw [if_pos (by omega)]; exact ⟨g6, g7⟩
theorem procN_ok {r : Rn} {c : Nat} (h : RnI r r.gens.length c) (hd : r.done < r.elems.length) :
    RnI (procN r) r.gens.length (c + r.gens.length) ∧ (procN r).gens = r.gens ∧ (procN r).done = r.done + 1 := by
  obtain ⟨h1, h2, h3, h4, h5, h6, h7⟩ := rowN_ok h hd r.gens.length (Nat.le_refl _)
  refine ⟨⟨h1.g, h1.el, h1.nd, h1.pl, h1.ll, h1.wl, h1.bl, ?_, ?_, ?_, h1.bh, h1.ws, h1.ru, h1.sl, h1.si, h1.kl⟩, h2, ?_⟩
  · have := h1.rl
    simp [procN, this]
  · have := h1.dn
    show (rowN r r.gens.length).1.done + 1 ≤ (rowN r r.gens.length).1.elems.length
    omega
  · intro i hi
    have hl := h1.rl
    simp only [procN] at hi ⊢
    rw [getD_snoc, hl]
    split
    · exact h1.rr i (by assumption)
    · rw [if_pos (by omega)]
      exact ⟨by rw [h6, h2], fun x hx => h7 x (by rw [h2] at hx; exact hx)⟩
  · show (rowN r r.gens.length).1.done + 1 = r.done + 1
    omega
/-- k steps, as far as there is something to do -/
def runK (r : Rn) : Nat → Rn
  | 0 => r
  | k + 1 => if (runK r k).done = (runK r k).elems.length then runK r k else procN (runK r k)
end Go.Sx

namespace Go.Sx
theorem runK_add (r : Rn) (a : Nat) : ∀ b, runK r (a + b) = runK (runK r a) b
  | 0 => rfl
  | b + 1 => by
    have ih := runK_add r a b
    show runK r ((a + b) + 1) = runK (runK r a) (b + 1)
    rw [runK, runK, ih]
theorem runK_ok {r : Rn} {c : Nat} (h : RnI r r.gens.length c) : ∀ j, RnI (runK r j) r.gens.length (c + r.gens.length * j) ∧ (runK r j).gens = r.gens
  | 0 => ⟨h, rfl⟩
  | j + 1 => by
    obtain ⟨h1, h2⟩ := runK_ok h j
    simp only [runK]
    split
    · exact ⟨h1.later (by rw [Nat.mul_succ]; omega), h2⟩
    · rename_i hd
      have h3 := h1.dn
      rw [← h2] at h1
      obtain ⟨h4, h5, h6⟩ := procN_ok h1 (by omega)
      rw [h2] at h4
      exact ⟨h4.later (by rw [Nat.mul_succ]; omega), h5.trans h2⟩
def finR (r : Rn) : Prop := r.done = r.elems.length
instance (r : Rn) : Decidable (finR r) := by unfold finR; exact inferInstance
theorem runK_fin {r : Rn} (h : finR r) : ∀ j, runK r j = r
  | 0 => rfl
  | j + 1 => by
    rw [runK, runK_fin h j]
    exact if_pos h
theorem runK_done {r : Rn} {c : Nat} (h : RnI r r.gens.length c) : ∀ j, (runK r j).done ≤ r.done + j ∧ ((runK r j).done = r.done + j ∨ finR (runK r j))
  | 0 => ⟨Nat.le_refl _, .inl rfl⟩
  | j + 1 => by
    obtain ⟨h1, h2⟩ := runK_done h j
    obtain ⟨g1, g2⟩ := runK_ok h j
    simp only [runK]
    split
    · rename_i hf; exact ⟨by omega, .inr hf⟩
    · rename_i hd
      have h3 := g1.dn
      rw [← g2] at g1
      obtain ⟨h4, h5, h6⟩ := procN_ok g1 (by omega)
      rcases h2 with h2 | h2
      · exact ⟨by omega, .inl (by omega)⟩
      · exact absurd h2 hd
theorem runK_ends {r : Rn} {c : Nat} (h : RnI r r.gens.length c) {j : Nat} (hj : 257 ≤ j) : finR (runK r j) := by
  obtain ⟨h1, h2⟩ := runK_done h 257
  obtain ⟨g1, g2⟩ := runK_ok h 257
  have h3 := g1.le; have h4 := g1.dn
  have h5 : finR (runK r 257) := h2.resolve_left (by omega)
  obtain ⟨k, rfl⟩ : ∃ k, j = 257 + k := ⟨j - 257, by omega⟩
  rw [runK_add, runK_fin h5]
  exact h5
/-- a state that an enumeration of its generators comes through -/
structure Way (q : Rn) : Prop where
  ok : RnI q q.gens.length (q.gens.length * (q.done + 1))
  is : runK (begN q.gens q.mon) q.done = q
  first : (q.gens.getD 0 []).length = q.pts
theorem rowN_keep (r : Rn) : ∀ k, (rowN r k).1.pts = r.pts ∧ (rowN r k).1.mon = r.mon ∧ (rowN r k).1.gens = r.gens
  | 0 => ⟨rfl, rfl, rfl⟩
  | k + 1 => by
    obtain ⟨h1, h2, h3⟩ := rowN_keep r k
    simp only [rowN, letN]
    split
    · split <;> exact ⟨h1, h2, h3⟩
    · exact ⟨h1, h2, h3⟩
theorem runK_keep (r : Rn) : ∀ k, (runK r k).pts = r.pts ∧ (runK r k).mon = r.mon ∧ (runK r k).gens = r.gens
  | 0 => ⟨rfl, rfl, rfl⟩
  | k + 1 => by
    obtain ⟨h1, h2, h3⟩ := runK_keep r k
    simp only [runK]
    split
    · exact ⟨h1, h2, h3⟩
    · obtain ⟨g1, g2, g3⟩ := rowN_keep (runK r k) (runK r k).gens.length
      exact ⟨g1.trans h1, g2.trans h2, g3.trans h3⟩
theorem begK_keep (G : List (List Int)) (mon : Bool) : ∀ k, (begK G mon k).pts = (G.getD 0 []).length ∧ (begK G mon k).mon = mon ∧ (begK G mon k).gens = G ∧ (begK G mon k).done = 0
  | 0 => by
    show (rn1 G mon).pts = _ ∧ (rn1 G mon).mon = _ ∧ (rn1 G mon).gens = _ ∧ (rn1 G mon).done = _
    unfold rn1; cases mon <;> exact ⟨rfl, rfl, rfl, rfl⟩
  | k + 1 => by
    obtain ⟨h1, h2, h3, h4⟩ := begK_keep G mon k
    simp only [begK, genN]
    split <;> exact ⟨h1, h2, h3, h4⟩
theorem Way.run {G : List (List Int)} {n : Nat} (hG : VG G n) (mon : Bool) (hn : (G.getD 0 []).length = n) (j : Nat) : Way (runK (begN G mon) j) := by
  obtain ⟨h1, h2⟩ := begN_ok hG mon hn
  obtain ⟨b1, b2, b3, b4⟩ := begK_keep G mon G.length
  obtain ⟨k1, k2, k3⟩ := runK_keep (begN G mon) j
  have key : runK (begN G mon) (runK (begN G mon) j).done = runK (begN G mon) j ∧ RnI (runK (begN G mon) j) G.length (G.length * ((runK (begN G mon) j).done + 1)) := by
    induction j with
    | zero =>
      have e : (runK (begN G mon) 0).done = 0 := b4
      rw [e]
      refine ⟨rfl, ?_⟩
      show RnI (begN G mon) _ _
      rw [Nat.zero_add, Nat.mul_one]; exact h1
    | succ j ih =>
      obtain ⟨k1, k2, k3⟩ := runK_keep (begN G mon) j
      obtain ⟨i1, i2⟩ := ih k1 k2 k3
      simp only [runK]
      split
      · exact ⟨i1, i2⟩
      · rename_i hd
        have hg : (runK (begN G mon) j).gens = G := k3.trans h2
        have hdn := i2.dn
        have i3 : RnI (runK (begN G mon) j) (runK (begN G mon) j).gens.length (G.length * ((runK (begN G mon) j).done + 1)) := by rw [hg]; exact i2
        obtain ⟨p1, p2, p3⟩ := procN_ok i3 (Nat.lt_of_le_of_ne hdn hd)
        rw [hg] at p1
        refine ⟨?_, ?_⟩
        · rw [p3]
          show (if (runK (begN G mon) (runK (begN G mon) j).done).done = (runK (begN G mon) (runK (begN G mon) j).done).elems.length then _ else _) = _
          rw [i1, if_neg hd]
        · rw [p3, Nat.mul_succ]; exact p1
  have hg : (runK (begN G mon) j).gens = G := k3.trans h2
  have hm : (runK (begN G mon) j).mon = mon := k2.trans b2
  refine ⟨by rw [hg]; exact key.2, by rw [hg, hm]; exact key.1, by rw [hg, k1]; exact b1.symm⟩
/-- on the way to q -/
theorem Way.part {q : Rn} (h : Way q) {i : Nat} (hi : i < q.done) : ¬ finR (runK (begN q.gens q.mon) i) ∧ (runK (begN q.gens q.mon) i).done = i := by
  obtain ⟨h0, h2⟩ := begN_ok h.ok.g q.mon h.first
  have h1 : RnI (begN q.gens q.mon) (begN q.gens q.mon).gens.length q.gens.length := by rw [h2]; exact h0
  have hd0 : (begN q.gens q.mon).done = 0 := (begK_keep q.gens q.mon q.gens.length).2.2.2
  obtain ⟨d1, d2⟩ := runK_done h1 i
  have hnf : ¬ finR (runK (begN q.gens q.mon) i) := fun hf => by
    obtain ⟨k, hk⟩ : ∃ k, q.done = i + k := ⟨q.done - i, by omega⟩
    have h3 := h.is
    rw [hk, runK_add, runK_fin hf] at h3
    rw [h3] at d1
    omega
  exact ⟨hnf, by have := d2.resolve_right hnf; omega⟩
end Go.Sx

namespace Go.Sx
open Go.RowKit
/-! ### rules -/
abbrev Rul := List UInt8 × List UInt8
def rcs (r : Rul) : List Value := [sv r.1, sv r.2]
def rlc (rs : List Rul) : List Value := rs.flatMap rcs
def rv (r : Rul) : Value := .agg #[sv r.1, sv r.2]
theorem rlc_length (rs : List Rul) : (rlc rs).length = rs.length * 2 := by
  induction rs with
  | nil => rfl
  | cons p ps ih => simp only [rlc, rcs, List.flatMap_cons, List.length_append, List.length_cons, List.length_nil] at ih ⊢; omega
theorem rlc_append (a b : List Rul) : rlc (a ++ b) = rlc a ++ rlc b := by simp [rlc]
theorem rlc_at (ps : List Rul) (j : Nat) (h : j < ps.length) : ((rlc ps).drop (j * 2)).take 2 = rcs (ps.getD j ([], [])) := by
  have h1 : ps = ps.take j ++ ps.getD j ([], []) :: ps.drop (j + 1) := by
    rw [List.getD_eq_getElem?_getD, List.getElem?_eq_getElem h, Option.getD_some, List.getElem_cons_drop, List.take_append_drop]
  have h2 : (rlc (ps.take j)).length = j * 2 := by rw [rlc_length, List.length_take]; omega
  conv => lhs; rw [h1]
  rw [rlc_append, ← h2, List.drop_left]
  simp [rlc, rcs]
def RdR (F : Nat → Prop) (w : World) (v : Value) (rs : List Rul) : Prop := Rd (fun b => ¬ F b) w v 2 rs.length (rlc rs)
theorem RdR.at {C : Cx} {on : List Asn} {w : World} {v : Value} {rs : List Rul} (h : RdR C.S C.W0 v rs) (hw : HW C on w) : RdR (fun _ => False) w v rs := Rd.keep h hw.frame (fun _ _ _ => id)
theorem RdR.own {C : Cx} {on : List Asn} {w : World} {v : Value} {E : TypeId} {rs : List Rul} (i : Nat) (hw : HW C on w) (hi : on[i]? = some (row v E 2 rs.length (rlc rs))) : RdR (fun _ => False) w v rs :=
  (RdS.own (C := C) i hi w hw).mono fun b _ _ => ⟨id, rfl⟩
theorem RdR.len {F : Nat → Prop} {w : World} {v : Value} {rs : List Rul} (h : RdR F w v rs) : rs.length ≤ 9223372036854775807 := by
  have := Rd.le h; exact this
theorem Yl.loadRu {C : Cx} {sl : List (Nat × Value)} {own : List Asn} {dst : Option Nat} {ty : TypeId} {pos : String} {aft : Array Edge} {g : Option (Nat × Bool)} {x : Operand} {t : TypeId} {v : Value} {n j : Nat} {ps : List Rul} (ht : AggT C.P t 2) (hx : opv ⟨sl, own⟩ x = some (.pointer (some ((slA v).add (j * 2)))))
    (hr : RdS C own v 2 n (rlc ps)) (hj : j < ps.length) : Yl C ⟨sl, own⟩ ⟨dst, .load t x, ty, pos, aft, g⟩ (rv (ps.getD j ([], []))) := fun a w hs => by
  have hn : n = ps.length := by obtain ⟨_, _, _, _, h, _⟩ := hr w hs.world; rw [rlc_length] at h; omega
  have := Yl.loadG (dst := dst) (ty := ty) (pos := pos) (aft := aft) (g := g) ht hx hr (by omega) a w hs
  rw [rlc_at ps j hj] at this
  exact this
/-! ### which rules are valid -/
def badR (L : Int) (r : Rul) : Bool := !validW L r.1 || !validW L r.2 || decide (CmpV r.1 r.2 ≤ 0)
def errR (L : Int) (rs : List Rul) : Int := if ¬ (1 ≤ L ∧ L ≤ 6) then 1 else if rs.length > 2000 then 3 else if rs.any (badR L) then 6 else 0
/-- valid rules -/
structure VR (L : Int) (rs : List Rul) : Prop where
  l : 1 ≤ L ∧ L ≤ 6
  n : rs.length ≤ 2000
  v : ∀ r ∈ rs, validW L r.1 = true ∧ validW L r.2 = true ∧ slx r.2 r.1 = true
theorem bl_tot : ∀ (u v : List UInt8), u.length = v.length → Op.bytesLess u v = true ∨ u = v ∨ Op.bytesLess v u = true
  | [], [], _ => .inr (.inl rfl)
  | [], _ :: _, h => by simp at h
  | _ :: _, [], h => by simp at h
  | a :: u, b :: v, h => by
    by_cases h1 : a < b
    · exact .inl (by simp [Op.bytesLess, h1])
    · by_cases h2 : b < a
      · exact .inr (.inr (by simp [Op.bytesLess, h2]))
      · have h3 : a = b := by
          have k1 : ¬ a.toNat < b.toNat := fun k => h1 (UInt8.lt_iff_toNat_lt.2 k)
          have k2 : ¬ b.toNat < a.toNat := fun k => h2 (UInt8.lt_iff_toNat_lt.2 k)
          exact UInt8.toNat_inj.1 (by omega)
        subst h3
        rcases bl_tot u v (by simpa using h) with k | k | k
        · exact .inl (by simp [Op.bytesLess, k])
        · exact .inr (.inl (by rw [k]))
        · exact .inr (.inr (by simp [Op.bytesLess, k]))
theorem slx_tot (u v : List UInt8) : slx u v = true ∨ u = v ∨ slx v u = true := by
  rw [slx_iff, slx_iff]
  rcases Nat.lt_trichotomy u.length v.length with h | h | h
  · exact .inl (.inl h)
  · rcases bl_tot u v h with k | k | k
    · exact .inl (.inr ⟨h, k⟩)
    · exact .inr (.inl k)
    · exact .inr (.inr (.inr ⟨h.symm, k⟩))
  · exact .inr (.inr (.inl h))
theorem CmpV_pos {u v : List UInt8} : ¬ CmpV u v ≤ 0 ↔ slx v u = true := by
  rw [CmpV_le]
  constructor
  · intro h
    rcases slx_tot v u with k | k | k
    · exact k
    · exact absurd (.inr k.symm) h
    · exact absurd (.inl k) h
  · rintro h (k | rfl)
    · have := slx_trans h k; rw [slx_irr] at this; cases this
    · rw [slx_irr] at h; cases h
theorem badR_iff {L : Int} {r : Rul} : badR L r = false ↔ validW L r.1 = true ∧ validW L r.2 = true ∧ slx r.2 r.1 = true := by
  unfold badR
  rw [Bool.or_eq_false_iff, Bool.or_eq_false_iff, Bool.not_eq_false', Bool.not_eq_false', decide_eq_false_iff_not, CmpV_pos, and_assoc]
theorem errR_iff {L : Int} {rs : List Rul} : errR L rs = 0 ↔ VR L rs := by
  unfold errR
  by_cases h1 : 1 ≤ L ∧ L ≤ 6
  · rw [if_neg (fun h => h h1)]
    by_cases h2 : rs.length > 2000
    · rw [if_pos h2]; exact ⟨fun h => (by cases h), fun h => (by have := h.n; omega)⟩
    · rw [if_neg h2]
      by_cases h3 : rs.any (badR L) = true
      · rw [if_pos h3]
        refine ⟨fun h => (by cases h), fun h => ?_⟩
        obtain ⟨r, hr, hb⟩ := List.any_eq_true.1 h3
        rw [badR_iff.2 (h.v r hr)] at hb; cases hb
      · rw [if_neg h3]
        refine ⟨fun _ => ⟨h1, by omega, fun r hr => badR_iff.1 ?_⟩, fun _ => rfl⟩
        by_cases hb : badR L r = true
        · exact absurd (List.any_eq_true.2 ⟨r, hr, hb⟩) h3
        · simpa using hb
  · rw [if_pos h1]; exact ⟨fun h => (by cases h), fun h => absurd h.l h1⟩
/-! ### strings.Compare -/
theorem cmpB_eq : ∀ (u v : List UInt8), u.length = v.length → Lib.compareBytes u v = CmpV u v := by
  have key : ∀ (u v : List UInt8), u.length = v.length → Lib.compareBytes u v = if Op.bytesLess u v then -1 else if u = v then 0 else 1 := by
    intro u
    induction u with
    | nil => intro v h; cases v with
      | nil => simp [Lib.compareBytes, Op.bytesLess]
      | cons b v => simp at h
    | cons a u ih => intro v h; cases v with
      | nil => simp at h
      | cons b v =>
        have := ih v (by simpa using h)
        simp only [Lib.compareBytes, Op.bytesLess, this]
        by_cases h1 : a < b
        · simp [h1]
        · by_cases h2 : b < a
          · have h3 : a ≠ b := fun e => by subst e; exact h1 h2
            simp [h1, h2, h3]
          · have h3 : a = b := by
              have k1 : ¬ a.toNat < b.toNat := fun k => h1 (UInt8.lt_iff_toNat_lt.2 k)
              have k2 : ¬ b.toNat < a.toNat := fun k => h2 (UInt8.lt_iff_toNat_lt.2 k)
              exact UInt8.toNat_inj.1 (by omega)
            subst h3
            simp [h1]
  intro u v h
  rw [key u v h]; unfold CmpV slx
  simp [h]
theorem cmp_len {u v : List UInt8} (h : u.length ≠ v.length) : (if (u.length : Int) < v.length then (-1 : Int) else if (v.length : Int) < u.length then 1 else 0) = CmpV u v := by
  unfold CmpV
  by_cases k : u.length < v.length
  · rw [if_pos (by omega), if_pos (slx_iff.2 (.inl k))]
  · have h1 : slx u v ≠ true := fun e => by rw [slx_iff] at e; omega
    rw [if_neg (by omega), if_pos (by omega), if_neg h1, if_neg (fun e => h (by rw [e]))]
theorem Ret.none0 (w : World) : Ret (fun _ => False) w w [] :=
  ⟨FrameX.refl _ _, fun _ _ => False, ⟨fun i A h => by simp at h, fun _ _ _ h => h, fun _ _ _ h => h.elim⟩, fun _ _ h => h.elim⟩
/-- a contract of the shelf: a value, the world as it was -/
theorem callS_pure {P : Program} {f : FuncId} {vs : List Value} {w : World} {v : Value} {φ : Value → List Asn → Prop} (h : Calls P f vs.toArray w fun e w' => e = .returned v ∧ w' = w) (hφ : φ v []) : CallS P f vs w φ :=
  h.mono fun e w' h' => ⟨v, [], hφ, h'.1, by rw [h'.2]; exact Ret.none0 w⟩
end Go.Sx

namespace Go.Sx
open Go.RowKit
/-! ### equality of structs of two strings -/
def eqT2B (P : Program) (t : TypeId) : Bool := match P.underlying t with
  | some (.struct fs) => match fs.toList with
    | [f0, f1] => (match P.underlying f0.type with | some .string => true | _ => false) && (match P.underlying f1.type with | some .string => true | _ => false) && f0.offset == 0 && f1.offset == 1 && f0.name != "_" && f1.name != "_" && !P.stoodInHeld t && !P.eqGuardType P.depth t
    | _ => false
  | _ => false
theorem eqT2_of {P : Program} {t : TypeId} (h : eqT2B P t = true) : P.eqGuardType P.depth t = false ∧ ∀ (a b : List UInt8 × List UInt8) (w : World), (Op.equalIn 10000 t (rv a) (rv b)).run P w = .ok (decide (a = b)) w := by
  unfold eqT2B at h
  split at h
  case h_2 => cases h
  rename_i fs hu
  split at h
  case h_2 => cases h
  rename_i f0 f1 hf
  simp only [Bool.and_eq_true, beq_iff_eq, bne_iff_ne, Bool.not_eq_true'] at h
  obtain ⟨⟨⟨⟨⟨⟨⟨h0, h1⟩, o0⟩, o1⟩, n0⟩, n1⟩, hp⟩, hg⟩ := h
  split at h0
  case h_2 => cases h0
  rename_i u0
  split at h1
  case h_2 => cases h1
  rename_i u1
  refine ⟨hg, fun a b w => ?_⟩
  have hfs : P.fieldsOf t = fs := by unfold Program.fieldsOf; rw [hu]
  have hu2 : P.underlying t = some (.struct (P.fieldsOf t)) := by rw [hfs]; exact hu
  rw [show rv a = .agg #[sv a.1, sv a.2] from rfl, show rv b = .agg #[sv b.1, sv b.2] from rfl, run_equalIn_struct w 9999 t _ _ hu2 hp, hfs, hf]
  have p : ∀ (f : Field) (cs : Array Value) (v : Value) (w : World), P.underlying f.type = some .string → cs[f.offset]? = some v → (part f.type cs f.offset).run P w = .ok v w := fun f cs v w hs hv => by
    simp [part, isAgg, run_underlying hs, hv]
  have q : ∀ (d : Nat) (f : Field) (u v : List UInt8) (w : World), P.underlying f.type = some .string → (Op.equalIn (d + 1) f.type (sv u) (sv v)).run P w = .ok (decide (u = v)) w := fun d f u v w hs => by
    unfold sv
    rw [run_equalIn_string w d f.type _ _ hs]
    congr 1
    rw [Bool.eq_iff_iff]
    simp [toList_mk]
  obtain ⟨a1, a2⟩ := a
  obtain ⟨b1, b2⟩ := b
  simp only [Op.eqFields, n0, n1, ne_eq, not_false_eq_true, if_true, Sem.run_bind]
  rw [p f0 _ (sv a1) w u0 (by rw [o0]; rfl)]
  simp only [Result.andThen_ok]
  rw [p f0 _ (sv b1) w u0 (by rw [o0]; rfl)]
  simp only [Result.andThen_ok, q 9998 f0 _ _ _ u0]
  by_cases e1 : a1 = b1
  · rw [decide_eq_true e1]
    simp only [Bool.not_true, Bool.false_eq_true, if_false, Sem.run_bind]
    rw [p f1 _ (sv a2) w u1 (by rw [o1]; rfl)]
    simp only [Result.andThen_ok]
    rw [p f1 _ (sv b2) w u1 (by rw [o1]; rfl)]
    simp only [Result.andThen_ok, q 9998 f1 _ _ _ u1]
    by_cases e2 : a2 = b2
    · rw [decide_eq_true e2]
      simp [e1, e2]
    · rw [decide_eq_false e2]
      simp [e2]
  · rw [decide_eq_false e1]
    simp [e1]
section
variable {C : Cx} {sl : List (Nat × Value)} {own : List Asn} {dst : Option Nat} {ty : TypeId} {pos : String} {aft : Array Edge} {g : Option (Nat × Bool)}
theorem Yl.neqRu {x y : Operand} {t t' : TypeId} {a b : List UInt8 × List UInt8} (ht : eqT2B C.P t = true) (hx : opv ⟨sl, own⟩ x = some (rv a)) (hy : opv ⟨sl, own⟩ y = some (rv b)) :
    Yl C ⟨sl, own⟩ ⟨dst, .binOp .neq t x y t', ty, pos, aft, g⟩ (.bool (decide (¬ a = b))) := fun act w hs => by
  obtain ⟨hg, hE⟩ := eqT2_of ht
  simp only [execOp, opv_eval hs hx, opv_eval hs hy]
  have h1 := run_eqGuard_agg (P := C.P) w .neq t x y #[sv a.1, sv a.2] #[sv b.1, sv b.2] hg
  have h2 := run_neq_struct (P := C.P) w t #[sv a.1, sv a.2] #[sv b.1, sv b.2]
  have h3 := hE a b w
  simp only [rv] at h3 ⊢
  rw [h3] at h2
  simp [h1, h2]
end
/-! ### a computation in memory -/
structure EnM where
  vG : Value
  vE : Value
  vP : Value
  vL : Value
  vR : Value
  vU : Value
  vW : Value
  vB : Value
  vS : Value
  gs : List Value
  es : List Value
  rs : List Value
/-- the saved part, and what is beside it -/
def enC (m : EnM) (r : Rn) : List Value := [.int .i64 (r.pts : Int), .bool r.mon, m.vG, m.vE, m.vP, m.vL, m.vR, m.vU, .int .i64 (r.done : Int)]
def enB (mb : Nat) (m : EnM) (r : Rn) : List Value := [.int .i64 (r.pts : Int), .bool r.mon, m.vG, m.vE, m.vP, m.vL, m.vR, m.vU, .int .i64 (r.done : Int), .map (some mb), m.vW, m.vB, m.vS]
/-- what a saved state owns -/
def enS (TRI TI TRU : Nat) (m : EnM) (r : Rn) : List Asn :=
  [row m.vG TRI 1 r.gens.length m.gs, bigA (matG (Value.int .i64) TI m.gs r.gens), row m.vE TRI 1 r.elems.length m.es, bigA (matG (Value.int .i64) TI m.es r.elems), row m.vP TI 1 r.pre.length (r.pre.map (Value.int .i64)), row m.vL TI 1 r.las.length (r.las.map (Value.int .i64)),
    row m.vR TRI 1 r.right.length m.rs, bigA (matG (Value.int .i64) TI m.rs r.right), row m.vU TRU 2 r.rules.length (rlc r.rules)]
def enO (TR TRI TI TRU TS : Nat) (rb mb : Nat) (m : EnM) (r : Rn) : List Asn :=
  [row m.vG TRI 1 r.gens.length m.gs, bigA (matG (Value.int .i64) TI m.gs r.gens), row m.vE TRI 1 r.elems.length m.es, bigA (matG (Value.int .i64) TI m.es r.elems), row m.vP TI 1 r.pre.length (r.pre.map (Value.int .i64)), row m.vL TI 1 r.las.length (r.las.map (Value.int .i64)),
    row m.vR TRI 1 r.right.length m.rs, bigA (matG (Value.int .i64) TI m.rs r.right), row m.vU TRU 2 r.rules.length (rlc r.rules),
    box rb TR 13 (enB mb m r), mapA mb (mkv sv (Value.int .i64) (numM (txs r))), row m.vW TS 1 r.words.length (r.words.map sv), row m.vB TI 1 r.beh.length (r.beh.map (Value.int .i64)), row m.vS TI 1 r.sing.length (r.sing.map (Value.int .i64))]
structure EnF (m : EnM) (r : Rn) : Prop where
  gl : m.gs.length = r.gens.length
  el : m.es.length = r.elems.length
  rl : m.rs.length = r.right.length
  sG : IsSl m.vG
  sE : IsSl m.vE
  sP : IsSl m.vP
  sL : IsSl m.vL
  sR : IsSl m.vR
  sU : IsSl m.vU
  sW : IsSl m.vW
  sB : IsSl m.vB
  sS : IsSl m.vS
/-- a saved state that reads as r -/
def RdEn (F : Nat → Prop) (w : World) (v : Value) (r : Rn) : Prop := ∃ vG vE vP vL vR vU : Value, v = .agg #[.int .i64 (r.pts : Int), .bool r.mon, vG, vE, vP, vL, vR, vU, .int .i64 (r.done : Int)] ∧
  RdLL F (Value.int .i64) w vG r.gens ∧ RdLL F (Value.int .i64) w vE r.elems ∧ RdL F (Value.int .i64) w vP r.pre ∧ RdL F (Value.int .i64) w vL r.las ∧ RdLL F (Value.int .i64) w vR r.right ∧ RdR F w vU r.rules
theorem RdEn.at {C : Cx} {own : List Asn} {w : World} {v : Value} {r : Rn} (h : RdEn C.S C.W0 v r) (hw : HW C own w) : RdEn (fun _ => False) w v r := by
  obtain ⟨vG, vE, vP, vL, vR, vU, e, h1, h2, h3, h4, h5, h6⟩ := h
  exact ⟨vG, vE, vP, vL, vR, vU, e, h1.at hw, h2.at hw, h3.at hw, h4.at hw, h5.at hw, h6.at hw⟩
theorem RdEn.own {C : Cx} {own : List Asn} {w : World} {TRI TI TRU : Nat} {m : EnM} {r : Rn} (i : Nat) (hw : HW C own w) (hm : EnF m r) (h : ∀ k, k < 9 → own[i + k]? = (enS TRI TI TRU m r)[k]?) :
    RdEn (fun _ => False) w (.agg (enC m r).toArray) r :=
  ⟨m.vG, m.vE, m.vP, m.vL, m.vR, m.vU, rfl, RdLL.own i (i + 1) hw hm.gl (h 0 (by decide)) (h 1 (by decide)), RdLL.own (i + 2) (i + 3) hw hm.el (h 2 (by decide)) (h 3 (by decide)), RdL.own (i + 4) hw (h 4 (by decide)), RdL.own (i + 5) hw (h 5 (by decide)),
    RdLL.own (i + 6) (i + 7) hw hm.rl (h 6 (by decide)) (h 7 (by decide)), RdR.own (i + 8) hw (h 8 (by decide))⟩
end Go.Sx

namespace Go.Sx
def vfB (f : List Int) : Bool := decide (1 ≤ f.length ∧ f.length ≤ 32) && f.all fun j => decide (0 ≤ j ∧ j < (f.length : Int))
theorem vfB_bad {f : List Int} {k : Nat} (hk : k < f.length) (h : ¬ (0 ≤ f.getD k 0 ∧ f.getD k 0 < (f.length : Int))) : false = vfB f := by
  unfold vfB
  have : (f.all fun j => decide (0 ≤ j ∧ j < (f.length : Int))) = false := by
    rw [List.all_eq_false]
    exact ⟨_, getD_mem (d := 0) hk, by simpa using h⟩
  rw [this, Bool.and_false]
theorem vfB_ok {f : List Int} (h : 1 ≤ f.length ∧ f.length ≤ 32) (ha : ∀ i, i < f.length → 0 ≤ f.getD i 0 ∧ f.getD i 0 < (f.length : Int)) : true = vfB f := by
  unfold vfB
  rw [decide_eq_true h, Bool.true_and]
  symm
  rw [List.all_eq_true]
  intro j hj
  obtain ⟨i, hi, e⟩ := List.getElem_of_mem hj
  have := ha i hi
  rw [List.getD_eq_getElem?_getD, List.getElem?_eq_getElem hi, Option.getD_some, e] at this
  exact decide_eq_true this
theorem vfB_VF {f : List Int} (h : vfB f = true) : (1 ≤ f.length ∧ f.length ≤ 32) ∧ VF f.length f := by
  unfold vfB at h
  rw [Bool.and_eq_true, decide_eq_true_eq, List.all_eq_true] at h
  refine ⟨h.1, rfl, fun i hi => ?_⟩
  have := h.2 _ (getD_mem (d := 0) hi)
  simpa using this
theorem VF.vfB {n : Nat} {f : List Int} (h : VF n f) (hn : 1 ≤ n ∧ n ≤ 32) : vfB f = true := by
  have h1 := h.1
  exact (vfB_ok (by omega) (fun i hi => by rw [h1]; exact h.2 i (by omega))).symm
def mgB (G : List (List Int)) : Bool := decide (1 ≤ G.length ∧ G.length ≤ 6) && G.all fun f => vfB f && decide (f.length = (G.getD 0 []).length)
theorem mgB_bad {G : List (List Int)} {k : Nat} (hk : k < G.length) (h : ¬ (vfB (G.getD k []) = true ∧ (G.getD k []).length = (G.getD 0 []).length)) : false = mgB G := by
  unfold mgB
  have : (G.all fun f => vfB f && decide (f.length = (G.getD 0 []).length)) = false := by
    rw [List.all_eq_false]
    exact ⟨_, getD_mem (d := []) hk, by rw [Bool.and_eq_true, decide_eq_true_eq]; exact h⟩
  rw [this, Bool.and_false]
theorem mgB_ok {G : List (List Int)} (h : 1 ≤ G.length ∧ G.length ≤ 6) (ha : ∀ i, i < G.length → vfB (G.getD i []) = true ∧ (G.getD i []).length = (G.getD 0 []).length) : true = mgB G := by
  unfold mgB
  rw [decide_eq_true h, Bool.true_and]
  symm
  rw [List.all_eq_true]
  intro j hj
  obtain ⟨i, hi, e⟩ := List.getElem_of_mem hj
  have := ha i hi
  rw [List.getD_eq_getElem?_getD, List.getElem?_eq_getElem hi, Option.getD_some, e] at this
  rw [Bool.and_eq_true, decide_eq_true_eq]; exact this
theorem mgB_len {G : List (List Int)} (h : mgB G = true) : 1 ≤ G.length := by
  unfold mgB at h
  rw [Bool.and_eq_true, decide_eq_true_eq] at h
  exact h.1.1
def rightB (G : List (List Int)) (n : Int) : Bool := mgB G && (decide ((G.length : Int) ≤ 2) && decide (((G.getD 0 []).length : Int) ≤ n))
theorem rightB_VG {G : List (List Int)} (h : rightB G 4 = true) : VG G (G.getD 0 []).length := by
  unfold rightB mgB at h
  simp only [Bool.and_eq_true, decide_eq_true_eq, List.all_eq_true] at h
  obtain ⟨⟨h1, h2⟩, h3, h4⟩ := h
  have key : ∀ x, x < G.length → vfB (G.getD x []) = true ∧ (G.getD x []).length = (G.getD 0 []).length := fun x hx => h2 _ (getD_mem (d := []) hx)
  refine ⟨by omega, ?_, fun x hx => ?_⟩
  · have := (vfB_VF (key 0 (by omega)).1).1
    omega
  · have := (vfB_VF (key x hx).1).2
    rw [(key x hx).2] at this
    exact this
theorem textF_take (f : List Int) (k : Nat) (hk : k < f.length) : textF (f.take (k + 1)) = textF (f.take k) ++ [UInt8.ofNat (f.getD k 0).toNat] := by
  unfold textF
  rw [take_snocD 0 f k hk, List.map_append]; rfl
end Go.Sx
