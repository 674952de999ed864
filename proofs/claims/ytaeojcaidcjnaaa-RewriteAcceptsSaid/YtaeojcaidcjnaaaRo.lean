import Derived.Test.YtaeojcaidcjnaaaRn
set_option linter.unusedVariables false
set_option linter.unusedSimpArgs false
namespace Go.Sx
open Go.RowKit
theorem validW_mono {L : Int} {u : Wrd} (h : validW L u = true) (hL : L ≤ 6) : validW 6 u = true := al_valid (validW_al h)
theorem vr6 {L : Int} {rs : List Rul} (h : VR L rs) : VR 6 rs where
  l := by omega
  n := h.n
  v := fun r hr => ⟨validW_mono (h.v r hr).1 h.l.2, validW_mono (h.v r hr).2.1 h.l.2, (h.v r hr).2.2⟩
theorem tot_small {rs : List Rul} (h : ∀ k, k < rs.length → (rs.getD k ([], [])).1.length ≤ 6) : ∀ k, k ≤ rs.length → tot (lfs rs) k ≤ k * 6
  | 0, _ => Nat.le_refl _
  | k + 1, hk => by
    have h1 := tot_small h k (by omega)
    have h2 := h k (by omega)
    have : tot (lfs rs) (k + 1) = tot (lfs rs) k + (rs.getD k ([], [])).1.length := by show tot (lfs rs) k + _ = _; rw [lfs_get rs (by omega)]
    omega
theorem irr_acc {L e : Int} {rs : List Rul} {d : Dfa} {u : Wrd} (h : IrrP L rs d e) (hE : errR L rs = 0) (ht : tot (lfs rs) rs.length ≤ 511) (hu : validW L u = true) : e = 0 ∧ AccV d u = RdcV rs u := by
  have hV := errR_iff.1 hE
  rcases h with ⟨h1, _⟩ | ⟨_, h2, _⟩ | ⟨_, _, rfl, c, hc, hcL, rfl, hi⟩
  · exact absurd hE h1
  · omega
  · refine ⟨rfl, ?_⟩
    have hcu : validW c.L u = true := by rw [hcL]; exact hu
    have hok : Okw c u := by unfold validW at hcu; rw [Bool.and_eq_true] at hcu; exact hcu.2
    rw [min_acc hc, AccV_of hc hcu, rdc_ok (errR_iff.2 (vr6 hV)) (validW_mono hu hV.l.2)]
    exact hi u hok
end Go.Sx
