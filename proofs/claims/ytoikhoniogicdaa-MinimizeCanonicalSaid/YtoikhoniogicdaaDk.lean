import Derived.Test.YtoikhoniogicdaaDj
set_option linter.unusedVariables false
namespace Go.Sx
/-! ### what counting counts -/
def Eqm (a b : Int) : Prop := ∃ t : Int, a = b + MM * t
theorem Eqm.rfl' (a : Int) : Eqm a a := ⟨0, by simp⟩
theorem Eqm.trans {a b c : Int} (h : Eqm a b) (k : Eqm b c) : Eqm a c := by
  obtain ⟨t, h⟩ := h; obtain ⟨u, k⟩ := k
  exact ⟨u + t, by rw [h, k, Int.mul_add]; omega⟩
theorem Eqm.add {a b c d : Int} (h : Eqm a b) (k : Eqm c d) : Eqm (a + c) (b + d) := by
  obtain ⟨t, h⟩ := h; obtain ⟨u, k⟩ := k
  exact ⟨t + u, by rw [h, k, Int.mul_add]; omega⟩
theorem Eqm.mod (a : Int) : Eqm (a % MM) a := ⟨-(a / MM), by have := Int.emod_add_mul_ediv a MM; rw [Int.mul_neg]; omega⟩
theorem Eqm.eq {a b : Int} (h : Eqm a b) (ha : 0 ≤ a ∧ a < MM) (hb : 0 ≤ b ∧ b < MM) : a = b := by
  obtain ⟨t, h⟩ := h
  simp only [MM] at *
  omega
/-- l against v -/
def dot : List Int → (Nat → Int) → Int
  | [], _ => 0
  | a :: l, v => a * v 0 + dot l (fun i => v (i + 1))
theorem dot_set : ∀ (l : List Int) (v : Nat → Int) (r : Nat) (y : Int), r < l.length → dot (l.set r y) v = dot l v + (y - l.getD r 0) * v r
  | [], _, _, _, h => by simp at h
  | a :: l, v, 0, y, _ => by simp only [List.set_cons_zero, dot, List.getD_cons_zero, Int.sub_mul]; omega
  | a :: l, v, r + 1, y, h => by
    simp only [List.set_cons_succ, dot, List.getD_cons_succ]
    rw [dot_set l _ r y (by simpa using h)]; omega
theorem dot_zero (v : Nat → Int) : ∀ n, dot (List.replicate n 0) v = 0
  | 0 => rfl
  | n + 1 => by
    have := dot_zero (fun i => v (i + 1)) n
    simp only [List.replicate_succ, dot, this]; simp
def sumR (g : Nat → Int) : Nat → Int
  | 0 => 0
  | k + 1 => sumR g k + g k
theorem sumR_zero (g : Nat → Int) : ∀ k, sumR g (k + 1) = g 0 + sumR (fun i => g (i + 1)) k
  | 0 => by simp [sumR]
  | k + 1 => by rw [sumR, sumR_zero g k]; simp only [sumR]; omega
theorem sumR_congr {g h : Nat → Int} : ∀ k, (∀ i, i < k → g i = h i) → sumR g k = sumR h k
  | 0, _ => rfl
  | k + 1, e => by simp only [sumR]; rw [sumR_congr k fun i hi => e i (by omega), e k (by omega)]
theorem dot_sum : ∀ (l : List Int) (v : Nat → Int), dot l v = sumR (fun i => l.getD i 0 * v i) l.length
  | [], _ => rfl
  | a :: l, v => by
    rw [List.length_cons, sumR_zero, dot, dot_sum l]; rfl
theorem sumR_mul (c : Int) (g : Nat → Int) : ∀ k, sumR (fun i => c * g i) k = c * sumR g k
  | 0 => by simp [sumR]
  | k + 1 => by simp only [sumR]; rw [sumR_mul c g k, Int.mul_add]
theorem addC_dot {cnt : List Int} {p : Nat} {row l : List Int} (v : Nat → Int) : ∀ k, (∀ x, x < k → (row.getD x 0).toNat < l.length) → Eqm (dot (addC cnt p row l k) v) (dot l v + cnt.getD p 0 * sumR (fun x => v (row.getD x 0).toNat) k)
  | 0, _ => by simp only [addC, sumR, List.range_zero, List.foldl_nil, Int.mul_zero, Int.add_zero]; exact Eqm.rfl' _
  | k + 1, h => by
    have ih := addC_dot (cnt := cnt) (p := p) v k fun x hx => h x (by omega)
    have hl : ∀ k, (addC cnt p row l k).length = l.length := fun k => by
      induction k with
      | zero => rfl
      | succ k ih => rw [addC_succ]; simpa using ih
    rw [addC_succ, dot_set _ _ _ _ (by rw [hl]; exact h k (by omega))]
    simp only [sumR]
    obtain ⟨t, ih⟩ := ih
    generalize hA : (addC cnt p row l k).getD (row.getD k 0).toNat 0 = A at *
    obtain ⟨u, hu⟩ := Eqm.mod (A + cnt.getD p 0)
    rw [hu, ih]
    refine ⟨t + u * v (row.getD k 0).toNat, ?_⟩
    have e : A + cnt.getD p 0 + MM * u - A = cnt.getD p 0 + MM * u := by omega
    rw [e, Int.add_mul, Int.mul_add, Int.mul_add, Int.mul_assoc]; omega
/-- how many words of this length are accepted from this state -/
def CN (d : Dfa) : Nat → Nat → Int
  | 0, q => if d.fin.getD q false then 1 else 0
  | n + 1, q => sumR (fun x => CN d n ((d.nx.getD q []).getD x 0).toNat) (d.nx.getD q []).length
theorem cstepK_dot {d : Dfa} {cnt : List Int} (hv : VD d) (v : Nat → Int) : ∀ k, k ≤ d.fin.length → Eqm (dot (cstepK d cnt k) v) (sumR (fun p => cnt.getD p 0 * sumR (fun x => v ((d.nx.getD p []).getD x 0).toNat) (d.nx.getD p []).length) k)
  | 0, _ => by show Eqm (dot (List.replicate _ 0) v) 0; rw [dot_zero]; exact Eqm.rfl' _
  | k + 1, h => by
    rw [cstepK_succ]
    refine (addC_dot v _ fun x hx => ?_).trans ?_
    · rw [(cstepK_red k).1]; have := hv.to k x (by omega) hx; omega
    · simp only [sumR]; exact (cstepK_dot hv v k (by omega)).add (Eqm.rfl' _)
theorem cntI_dot {d : Dfa} (hv : VD d) : ∀ (n m : Nat), Eqm (dot (cntI d n) (CN d m)) (CN d (m + n) d.s.toNat)
  | 0, m => by
    have := hv.s
    rw [cntI, dot_set _ _ _ _ (by simp; omega), dot_zero]
    have : (List.replicate d.fin.length (0 : Int)).getD d.s.toNat 0 = 0 := by rw [List.getD_eq_getElem?_getD, List.getElem?_replicate]; split <;> rfl
    rw [this]; simp only [Int.sub_zero, Int.one_mul, Int.zero_add, Nat.add_zero]; exact Eqm.rfl' _
  | n + 1, m => by
    rw [cntI]
    refine (cstepK_dot hv _ _ (by rw [hv.nx]; exact Nat.le_refl _)).trans ?_
    have ih := cntI_dot hv n (m + 1)
    rw [dot_sum, (cntI_red n).1] at ih
    rw [hv.nx, show m + (n + 1) = m + 1 + n by omega]
    exact ih
theorem sumK_dot {d : Dfa} {cnt : List Int} : ∀ k, Eqm (sumK d cnt k) (sumR (fun q => cnt.getD q 0 * CN d 0 q) k)
  | 0 => Eqm.rfl' _
  | k + 1 => by
    rw [sumK_succ]; simp only [sumR, CN]
    by_cases h : d.fin.getD k false = true
    · rw [if_pos h, if_pos h]; simp only [Int.mul_one]
      exact (Eqm.mod _).trans ((sumK_dot k).add (Eqm.rfl' _))
    · rw [if_neg h, if_neg h]; simp only [Int.mul_zero, Int.add_zero]
      exact sumK_dot k
theorem CountV_eqm {d : Dfa} (hv : VD d) {n : Nat} (hn : n ≤ 10000) : Eqm (CountV d n) (CN d n d.s.toNat) := by
  unfold CountV
  rw [if_pos ⟨(errV_iff d).2 hv, by omega, by omega⟩, Int.toNat_natCast]
  refine (sumK_dot _).trans ?_
  have h := cntI_dot hv n 0
  rw [dot_sum, (cntI_red n).1, Nat.zero_add] at h
  exact h
/-- the words over L letters, by length -/
def lets (L : Nat) : List UInt8 := (List.range L).map fun x => UInt8.ofNat (97 + x)
def allW (L : Nat) : Nat → List (List UInt8)
  | 0 => [[]]
  | n + 1 => (lets L).flatMap fun c => (allW L n).map (c :: ·)
theorem allW_ok {L : Nat} (hL : L ≤ 6) : ∀ (n : Nat) (l : List UInt8), l ∈ allW L n → l.length = n ∧ l.all (okB (L : Int)) = true
  | 0, l, h => by simp [allW] at h; subst h; exact ⟨rfl, rfl⟩
  | n + 1, l, h => by
    simp only [allW, List.mem_flatMap, List.mem_map, lets] at h
    obtain ⟨c, ⟨x, hx, rfl⟩, w, hw, rfl⟩ := h
    obtain ⟨h1, h2⟩ := allW_ok hL n w hw
    have : x < L := by simpa using hx
    refine ⟨by simp [h1], ?_⟩
    rw [List.all_cons, h2, Bool.and_true]
    have e : (UInt8.ofNat (97 + x)).toNat = 97 + x := by rw [UInt8.toNat_ofNat']; omega
    simp only [okB, e, decide_eq_true_eq]; omega
theorem countP_flat {α β : Type} (p : β → Bool) (f : α → List β) : ∀ l : List α, (((l.flatMap f).countP p : Nat) : Int) = (l.map fun a => (((f a).countP p : Nat) : Int)).sum
  | [] => rfl
  | a :: l => by simp [List.countP_append, countP_flat p f l]
theorem sum_range (g : Nat → Int) : ∀ k, ((List.range k).map g).sum = sumR g k
  | 0 => rfl
  | k + 1 => by rw [List.range_succ, List.map_append, List.sum_append, sum_range g k]; simp [sumR]
theorem CN_words {d : Dfa} (hv : VD d) : ∀ (n : Nat) (q : Int), 0 ≤ q ∧ q < d.fin.length → CN d n q.toNat = (((allW d.L.toNat n).countP fun l => d.fin.getD (runI d q l).toNat false : Nat) : Int)
  | 0, q, _ => by
    rw [CN, allW, List.countP_singleton]
    show (if d.fin.getD q.toNat false = true then 1 else 0) = ((if d.fin.getD q.toNat false = true then 1 else 0 : Nat) : Int)
    split <;> rfl
  | n + 1, q, hq => by
    have hL := hv.L
    have hr := hv.row q.toNat (by omega)
    rw [CN, allW, countP_flat, lets, List.map_map, sum_range]
    rw [show (d.nx.getD q.toNat []).length = d.L.toNat by omega]
    refine sumR_congr _ fun x hx => ?_
    have e : (UInt8.ofNat (97 + x)).toNat = 97 + x := by rw [UInt8.toNat_ofNat']; omega
    have ht := hv.to q.toNat x (by omega) (by omega)
    rw [CN_words hv n _ ht]
    simp only [Function.comp, List.countP_map]
    congr 1
    apply congrArg (fun p => List.countP p _)
    funext l
    have e2 : stepI d q (UInt8.ofNat (97 + x)) = (d.nx.getD q.toNat []).getD x 0 := by
      unfold stepI; rw [e]; congr 1; omega
    show _ = d.fin.getD (runI d (stepI d q (UInt8.ofNat (97 + x))) l).toNat false
    rw [e2]
theorem allW_len (L : Nat) : ∀ n, (allW L n).length = L ^ n
  | 0 => rfl
  | n + 1 => by
    simp only [allW, List.length_flatMap, List.length_map, allW_len L n, lets]
    rw [List.map_map, show ((fun _ => L ^ n) ∘ fun x => UInt8.ofNat (97 + x)) = fun _ => L ^ n from rfl, List.map_const', List.sum_replicate_nat, List.length_range, Nat.pow_succ, Nat.mul_comm]
theorem CountV_words {d : Dfa} (hv : VD d) {n : Nat} (hn : n ≤ 15) : CountV d n = (((allW d.L.toNat n).countP (AccV d) : Nat) : Int) := by
  have hL := hv.L
  have e : (allW d.L.toNat n).countP (AccV d) = (allW d.L.toNat n).countP fun l => d.fin.getD (runI d d.s l).toNat false := by
    refine List.countP_congr fun l hl => ?_
    have h := allW_ok (by omega) n l hl
    have eL : ((d.L.toNat : Nat) : Int) = d.L := by omega
    rw [eL] at h
    rw [AccV_of hv (by unfold validW; rw [h.2, Bool.and_true, decide_eq_true_eq]; omega)]
  have h1 := CountV_eqm hv (n := n) (by omega)
  have h2 : CN d n d.s.toNat = _ := CN_words hv n d.s hv.s
  rw [h2] at h1
  rw [e]
  refine h1.eq (CountV_bd _ _) ⟨by omega, ?_⟩
  have h3 : (allW d.L.toNat n).countP (fun l => d.fin.getD (runI d d.s l).toNat false) ≤ d.L.toNat ^ n := by rw [← allW_len]; exact List.countP_le_length
  have h4 : d.L.toNat ^ n ≤ 6 ^ n := Nat.pow_le_pow_left (by omega) n
  have h5 : 6 ^ n ≤ 6 ^ 15 := Nat.pow_le_pow_right (by omega) hn
  have h6 : (6 : Nat) ^ 15 < 2305843009213693951 := by decide
  simp only [MM]; omega
theorem countP_sum {α : Type} (p q r s : α → Bool) : ∀ l : List α, (∀ a ∈ l, (if p a then 1 else 0) + (if q a then 1 else 0) = (if r a then 1 else 0) + (if s a then 1 else 0)) → l.countP p + l.countP q = l.countP r + l.countP s
  | [], _ => rfl
  | a :: l, h => by
    have ih := countP_sum p q r s l fun b hb => h b (List.mem_cons_of_mem _ hb)
    have := h a (by simp)
    simp only [List.countP_cons]; omega
theorem acc_valid {d : Dfa} {l : List UInt8} (h : AccV d l = true) : validW d.L l = true := by
  cases hw : validW d.L l with
  | true => rfl
  | false => rw [AccV_bad hw] at h; cases h
theorem count_comp {d : Dfa} (hv : VD d) {n : Nat} (hn : n ≤ 15) : CountV d n + CountV (CompV d) n = d.L ^ n := by
  have hL := hv.L
  rw [show CompV d = compD d from if_pos hv, CountV_words hv hn, CountV_words (comp_vd hv) hn]
  have e : (compD d).L = d.L := rfl
  rw [e]
  have h := countP_sum (AccV d) (AccV (compD d)) (fun _ => true) (fun _ => false) (allW d.L.toNat n) fun l hl => by
    have h := allW_ok (by omega) n l hl
    have eL : ((d.L.toNat : Nat) : Int) = d.L := by omega
    rw [eL] at h
    have hw : validW d.L l = true := by unfold validW; rw [h.2, Bool.and_true, decide_eq_true_eq]; omega
    rw [acc_comp hv, hw]
    cases AccV d l <;> rfl
  rw [List.countP_true, List.countP_false, Function.const_apply, allW_len] at h
  have e2 : ((d.L.toNat ^ n : Nat) : Int) = d.L ^ n := by rw [Int.natCast_pow]; congr 1; omega
  rw [← e2]; omega
theorem count_prod {a b : Dfa} (ha : VD a) (hb : VD b) (hL : a.L = b.L) (hsz : a.fin.length * b.fin.length ≤ 512) {n : Nat} (hn : n ≤ 15) :
    CountV (prodD a b 14) n + CountV (prodD a b 8) n = CountV a n + CountV b n := by
  have hLa := ha.L
  rw [CountV_words ha hn, CountV_words hb hn, CountV_words (prod_vd ha hb hL hsz) hn, CountV_words (prod_vd ha hb hL hsz) hn]
  have e : ∀ op, (prodD a b op).L = a.L := fun _ => rfl
  rw [e, e, ← hL]
  have h := countP_sum (AccV (prodD a b 14)) (AccV (prodD a b 8)) (AccV a) (AccV b) (allW a.L.toNat n) fun l hl => by
    have h := allW_ok (by omega) n l hl
    have eL : ((a.L.toNat : Nat) : Int) = a.L := by omega
    rw [eL] at h
    have hw : validW a.L l = true := by unfold validW; rw [h.2, Bool.and_true, decide_eq_true_eq]; omega
    rw [acc_prod ha hb hL hsz, acc_prod ha hb hL hsz, hw]
    cases AccV a l <;> cases AccV b l <;> decide
  omega
theorem pow_bd {L : Int} (hL : 1 ≤ L ∧ L ≤ 6) : ∀ (n : Nat), n ≤ 15 → 0 ≤ L ^ n ∧ L ^ n ≤ 470184984576 := fun n hn => by
  obtain ⟨m, rfl⟩ := Int.eq_ofNat_of_zero_le (show 0 ≤ L by omega)
  have h4 : m ^ n ≤ 6 ^ n := Nat.pow_le_pow_left (by omega) n
  have h5 : 6 ^ n ≤ 6 ^ 15 := Nat.pow_le_pow_right (by omega) hn
  have h6 : (6 : Nat) ^ 15 = 470184984576 := by decide
  rw [show ((m : Int)) ^ n = ((m ^ n : Nat) : Int) from (Int.natCast_pow m n).symm]; omega
end Go.Sx
