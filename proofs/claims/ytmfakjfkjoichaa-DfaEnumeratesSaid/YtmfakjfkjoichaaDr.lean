import Derived.Test.YtmfakjfkjoichaaDq
set_option linter.unusedVariables false
namespace Go.Sx
/-! ### the list of words: accepted, ascending, nothing left out -/
theorem allW_srt {L : Nat} (hL : L ≤ 6) : ∀ n, (allW L n).Pairwise fun u v => Op.bytesLess u v = true
  | 0 => by simp [allW]
  | n + 1 => by
    simp only [allW]
    rw [List.pairwise_flatMap]
    refine ⟨fun c _ => ?_, ?_⟩
    · rw [List.pairwise_map]
      refine (allW_srt hL n).imp fun h => ?_
      simp [Op.bytesLess, h]
    · unfold lets
      rw [List.pairwise_map]
      refine List.Pairwise.imp_of_mem ?_ (List.pairwise_lt_range (n := L))
      intro a b ha hb hab x hx y hy
      obtain ⟨u, _, rfl⟩ := List.mem_map.1 hx
      obtain ⟨v, _, rfl⟩ := List.mem_map.1 hy
      rw [List.mem_range] at hb
      have : UInt8.ofNat (97 + a) < UInt8.ofNat (97 + b) := ltr_lt hab (by omega)
      simp only [Op.bytesLess, decide_eq_true this, Bool.true_or]
theorem accR_mem {d : Dfa} (hv : VD d) {r : Nat} {l : List UInt8} (h : l ∈ accR d r d.s) : l.length = r ∧ Okw d l ∧ finQ d (runI d d.s l) = true := by
  have hL := hv.L
  unfold accR at h; rw [List.mem_filter] at h
  have h1 := allW_ok (by omega) r l h.1
  have e : ((d.L.toNat : Nat) : Int) = d.L := by omega
  rw [e] at h1
  exact ⟨h1.1, h1.2, h.2⟩
theorem allW_all {L : Nat} (hL : L ≤ 6) : ∀ (l : List UInt8), l.all (okB (L : Int)) = true → l ∈ allW L l.length
  | [], _ => by simp [allW]
  | c :: l, h => by
    rw [List.all_cons, Bool.and_eq_true] at h
    have hc := h.1
    simp only [okB, decide_eq_true_eq] at hc
    simp only [List.length_cons, allW, List.mem_flatMap, List.mem_map]
    refine ⟨c, ?_, l, allW_all hL l h.2, rfl⟩
    unfold lets; rw [List.mem_map]
    exact ⟨c.toNat - 97, by rw [List.mem_range]; omega, by apply UInt8.toNat_inj.1; rw [UInt8.toNat_ofNat']; have := c.toNat_lt; omega⟩
theorem accF_mem {d : Dfa} (hv : VD d) {k : Nat} {l : List UInt8} : l ∈ accF d k ↔ l.length < k ∧ Okw d l ∧ finQ d (runI d d.s l) = true := by
  have hL := hv.L
  unfold accF; rw [List.mem_flatMap]
  constructor
  · rintro ⟨r, hr, h⟩
    obtain ⟨h1, h2, h3⟩ := accR_mem hv h
    rw [List.mem_range] at hr
    exact ⟨by omega, h2, h3⟩
  · rintro ⟨h1, h2, h3⟩
    refine ⟨l.length, by rw [List.mem_range]; exact h1, ?_⟩
    unfold accR; rw [List.mem_filter]
    have e : ((d.L.toNat : Nat) : Int) = d.L := by omega
    exact ⟨allW_all (by omega) l (by rw [e]; exact h2), h3⟩
theorem accF_srt {d : Dfa} (hv : VD d) (k : Nat) : Srt (accF d k) := by
  have hL := hv.L
  unfold Srt accF
  rw [List.pairwise_flatMap]
  refine ⟨fun r _ => ?_, ?_⟩
  · refine List.Pairwise.imp_of_mem ?_ ((allW_srt (L := d.L.toNat) (by omega) r).filter _)
    intro a b ha hb h
    rw [slx_iff]
    exact .inr ⟨by rw [(accR_mem hv ha).1, (accR_mem hv hb).1], h⟩
  · refine List.Pairwise.imp ?_ (List.pairwise_lt_range (n := k))
    intro a b hab x hx y hy
    rw [slx_iff]
    exact .inl (by rw [(accR_mem hv hx).1, (accR_mem hv hy).1]; exact hab)
theorem words_eq {d : Dfa} (hv : VD d) {n : Nat} (hn : n ≤ 200) : WordsV d n = (accF d 2049).take n := by
  unfold WordsV
  rw [if_pos ⟨(errV_iff d).2 hv, by omega, by omega⟩, Int.toNat_natCast]
  exact wk_take hv n 2049
theorem accF_acc {d : Dfa} (hv : VD d) {l : List UInt8} : l ∈ accF d 2049 ↔ AccV d l = true := by
  have hL := hv.L
  rw [accF_mem hv]
  constructor
  · rintro ⟨h1, h2, h3⟩
    rw [AccV_of hv (by unfold validW; rw [show l.all (okB d.L) = true from h2, Bool.and_true, decide_eq_true_eq]; omega)]; exact h3
  · intro h
    have hw := acc_valid h
    rw [AccV_of hv hw] at h
    unfold validW at hw; rw [Bool.and_eq_true, decide_eq_true_eq] at hw
    exact ⟨by omega, hw.2, h⟩
theorem en_mem {d : Dfa} (hv : VD d) {n : Nat} (hn : n ≤ 200) {l : List UInt8} (h : l ∈ WordsV d n) : AccV d l = true := by
  rw [words_eq hv hn] at h
  exact (accF_acc hv).1 (List.mem_of_mem_take h)
theorem en_srt {d : Dfa} (hv : VD d) {n : Nat} (hn : n ≤ 200) : Srt (WordsV d n) := by
  rw [words_eq hv hn]; exact List.Pairwise.sublist (List.take_sublist _ _) (accF_srt hv 2049)
theorem slx_asymm {u v : List UInt8} (h : slx u v = true) : ¬ slx v u = true := fun k => by
  have := slx_trans h k; rw [slx_irr] at this; cases this
theorem en_found {d : Dfa} (hv : VD d) {n : Nat} (hn : n ≤ 200) {l : List UInt8} (ha : AccV d l = true) (h : l ∉ WordsV d n) : (WordsV d n).length = n ∧ ∀ u ∈ WordsV d n, slx u l = true := by
  rw [words_eq hv hn] at *
  have hm := (accF_acc hv).2 ha
  have hs := accF_srt hv 2049
  rw [← List.take_append_drop n (accF d 2049)] at hm hs
  rcases List.mem_append.1 hm with hm | hm
  · exact absurd hm h
  · refine ⟨?_, fun u hu => (List.pairwise_append.1 hs).2.2 u hu l hm⟩
    have : 0 < ((accF d 2049).drop n).length := List.length_pos_of_mem hm
    simp at this ⊢; omega
end Go.Sx
