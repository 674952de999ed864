import Derived.Test.YtaeojcaidcjnaaaRl
set_option linter.unusedVariables false
set_option linter.unusedSimpArgs false
namespace Go.Sx
open Go.RowKit
/-- what Irreducible answers -/
def IrrP (L : Int) (rs : List Rul) (d : Dfa) (e : Int) : Prop :=
  (errR L rs ≠ 0 ∧ e = errR L rs ∧ d = nilD) ∨ (errR L rs = 0 ∧ 511 < tot (lfs rs) rs.length ∧ e = 3 ∧ d = nilD) ∨ (errR L rs = 0 ∧ tot (lfs rs) rs.length ≤ 511 ∧ e = 0 ∧ ∃ c, VD c ∧ c.L = L ∧ d = minD c ∧ Irr rs c)
theorem IrrP.uniq {L : Int} {rs : List Rul} {d d' : Dfa} {e e' : Int} (h : IrrP L rs d e) (k : IrrP L rs d' e') : d = d' ∧ e = e' := by
  rcases h with ⟨h1, rfl, rfl⟩ | ⟨h1, h2, rfl, rfl⟩ | ⟨h1, h2, rfl, c, hc, hcL, rfl, hi⟩ <;> rcases k with ⟨k1, rfl, rfl⟩ | ⟨k1, k2, rfl, rfl⟩ | ⟨k1, k2, rfl, c', kc, kcL, rfl, ki⟩
  all_goals first | exact ⟨rfl, rfl⟩ | (exfalso; omega) | skip
  exact ⟨irr_min hc kc (hcL.trans kcL.symm) hi ki, rfl⟩
def c6 (fl : List Int) (s : Nat) : List Value := ((fl.map (Value.int .i32)).drop (s * 6)).take 6
theorem c6_len {fl : List Int} {s : Nat} (h : s * 6 + 6 ≤ fl.length) : (c6 fl s).length = 6 := by simp [c6]; omega
theorem c6_get {fl : List Int} {s x p : Nat} (e : p = x) (hx : x < 6) (h : s * 6 + x < fl.length) : (c6 fl s)[p]? = some (.int .i32 (fl.getD (s * 6 + x) 0)) := by
  subst e
  unfold c6
  rw [List.getElem?_take, if_pos hx, List.getElem?_drop]
  exact at6 h rfl
theorem c6_one (fl : List Int) (s : Nat) : one' (c6 fl s) := fun u hu => by
  have := List.mem_of_mem_drop (List.mem_of_mem_take hu)
  obtain ⟨c, _, rfl⟩ := List.mem_map.1 this; rfl
theorem tot_mono (ps : List Wrd) (k : Nat) : ∀ n, tot ps k ≤ tot ps (k + n)
  | 0 => Nat.le_refl _
  | n + 1 => Nat.le_trans (tot_mono ps k n) (by show _ ≤ tot ps (k + n) + _; omega)
theorem lfs_fill {rs : List Rul} {k : Nat} (hk : k < rs.length) : (((lfs rs).take k ++ List.replicate (rs.length - k) []).map sv).set k (sv (rs.getD k ([], [])).1) = ((lfs rs).take (k + 1) ++ List.replicate (rs.length - (k + 1)) []).map sv := by
  rw [take_snocD [] (lfs rs) k (by rw [lfs_len]; exact hk), lfs_get rs hk]
  exact fill_set sv _ [] _ rs.length k (by rw [List.length_take, lfs_len]; omega) hk
theorem finD_takeF {L : Int} {fl fd : List Int} {k : Nat} (hk : k < fd.length) : (finD L fl fd).fin.take (k + 1) = (finD L fl fd).fin.take k ++ [decide (fd.getD k 0 < 0)] := by
  rw [take_snocD false _ k (by rw [finD_len]; exact hk)]
  have := finD_fin (L := L) (fl := fl) hk
  unfold finQ at this
  rw [Int.toNat_natCast] at this; rw [this]
theorem finD_nx (L : Int) (fl fd : List Int) : (finD L fl fd).nx.length = fd.length := by simp [finD]
theorem finD_takeN {L : Int} {fl fd : List Int} {k : Nat} (hk : k < fd.length) : (finD L fl fd).nx.take (k + 1) = (finD L fl fd).nx.take k ++ [finR L fl fd k] := by
  rw [take_snocD [] _ k (by rw [finD_nx]; exact hk), finD_row hk]
theorem al_lfs {L : Int} {rs : List Rul} (hV : VR L rs) : ∀ k, k < (lfs rs).length → Al ((lfs rs).getD k []) := fun k hk => by
  rw [lfs_len] at hk
  rw [lfs_get rs hk]
  exact validW_al (hV.v _ (getD_mem hk)).1
end Go.Sx
