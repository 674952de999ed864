import Derived.Test.YtaeojcaidcjnaaaRw
import Derived.Test.YtaeojcaidcjnaaaSg
set_option linter.unusedVariables false
set_option linter.unusedSimpArgs false
namespace Go.Sx
open Go.RowKit
section
variable {C : Cx} {sl : List (Nat × Value)} {own : List Asn} {dst : Option Nat} {ty : TypeId} {pos : String} {aft : Array Edge} {g : Option (Nat × Bool)}
/-- a field of an element of a slice of structs -/
theorem Yl.fieldAddrR {x : Operand} {s f fo m : Nat} {v : Value} (ht : FldT C.P s f fo) (hx : opv ⟨sl, own⟩ x = some (.pointer (some ((slA v).add m)))) :
    Yl C ⟨sl, own⟩ ⟨dst, .fieldAddr s x f, ty, pos, aft, g⟩ (.pointer (some ((slA v).add (m + fo)))) :=
  fun a w hs => by
    obtain ⟨fs, fd, h1, h2, h3, h4⟩ := ht
    rw [← slA_add2]
    cases hi : C.P.info? fd.type with
    | none => simp [hi] at h4
    | some i =>
      simp [hi] at h4
      have hsz : (sizeOf fd.type).run C.P w = .ok i.size w := by simp [sizeOf, typeInfo, hi]
      simp [execOp, opv_eval hs hx, Instr.fieldAt, run_underlying h1, h2, Instr.sureAddr, fieldPlace, hsz, h4, h3]
end
theorem rlc_get0 {rs : List Rul} {j : Nat} (h : j < rs.length) : (rlc rs)[j * 2 + 0]? = some (sv (rs.getD j ([], [])).1) := by
  have h1 := rlc_at rs j h
  have h2 : (((rlc rs).drop (j * 2)).take 2)[0]? = some (sv (rs.getD j ([], [])).1) := by rw [h1]; rfl
  rw [List.getElem?_take, if_pos (by omega), List.getElem?_drop] at h2
  exact h2
theorem rlc_get1 {rs : List Rul} {j : Nat} (h : j < rs.length) : (rlc rs)[j * 2 + 1]? = some (sv (rs.getD j ([], [])).2) := by
  have h1 := rlc_at rs j h
  have h2 : (((rlc rs).drop (j * 2)).take 2)[1]? = some (sv (rs.getD j ([], [])).2) := by rw [h1]; rfl
  rw [List.getElem?_take, if_pos (by omega), List.getElem?_drop] at h2
  exact h2
theorem cf_lc {rs : List Rul} (hE : errR 6 rs = 0) (h : (CfR rs).2.1 = true) : LC rs := by
  have hV := errR_iff.1 hE
  unfold CfR at h
  rw [if_neg (by omega)] at h
  exact lc_ok hV (c := (cfR rs (crA rs)).1) (e := (cfR rs (crA rs)).2.2) (by rw [← h])
/-- both reductions end -/
theorem red_ok {rs : List Rul} {u : Wrd} (hE : errR 6 rs = 0) (hW : validW 6 u = true) (h : ¬ RedE rs u = 3) : redF rs 100000 u = some (RedV rs u) ∧ RedE rs u = 0 := by
  rw [redE_ok hE hW] at h ⊢
  rw [redV_ok hE hW]
  rcases red_cases rs u with ⟨v, h1, h2, h3⟩ | ⟨_, _, h3⟩
  · exact ⟨by rw [h1, h2], h3⟩
  · exact absurd h3 h
theorem unq {rs : List Rul} {u v : Wrd} (hE : errR 6 rs = 0) (hC : (CfR rs).2.1 = true) (hu : validW 6 u = true) (hv : validW 6 v = true) (h : Stp rs u v) (h1 : ¬ RedE rs u = 3) (h2 : ¬ RedE rs v = 3) : RedE rs u = 0 ∧ RedE rs v = 0 ∧ RedV rs u = RedV rs v := by
  obtain ⟨a1, a2⟩ := red_ok hE hu h1
  obtain ⟨b1, b2⟩ := red_ok hE hv h2
  exact ⟨a2, b2, red_same (errR_iff.1 hE) (cf_lc hE hC) (Stp.one h) a1 b1⟩
theorem stp_at {rs : List Rul} {u : Wrd} {i p : Nat} (hi : i < rs.length) (h : (u.drop p).take (rs.getD i ([], [])).1.length = (rs.getD i ([], [])).1) : Stp rs u (u.take p ++ (rs.getD i ([], [])).2 ++ u.drop (p + (rs.getD i ([], [])).1.length)) := by
  refine ⟨u.take p, u.drop (p + (rs.getD i ([], [])).1.length), _, getD_mem hi, ?_, rfl⟩
  rw [← List.drop_drop, List.append_assoc]
  conv => lhs; rw [← List.take_append_drop p u, ← List.take_append_drop (rs.getD i ([], [])).1.length (u.drop p), h]
theorem stp_val {rs : List Rul} {u v : Wrd} (hE : errR 6 rs = 0) (hu : validW 6 u = true) (h : Stp rs u v) : validW 6 v = true := by
  have hV := errR_iff.1 hE
  obtain ⟨x, y, r, hr, rfl, rfl⟩ := h
  have hs := slx_iff.1 (hV.v r hr).2.2
  have ha := validW_al hu
  refine al_valid (Lt.al ?_ ?_)
  · have hl := ha.lt
    refine (Lt.app (fun c hc => hl c ?_) (validW_al (hV.v r hr).2.1).lt).app (fun c hc => hl c ?_)
    · simp [hc]
    · simp [hc]
  · have := ha.1
    simp only [List.length_append] at this ⊢
    omega
theorem pts {rs : List Rul} {u v : Wrd} (hE : errR 6 rs = 0) (hC : (CfR rs).2.1 = true) (hu : validW 6 (u ++ v) = true) (h1 : ¬ RedE rs (u ++ v) = 3) (h2 : ¬ RedE rs u = 3) (h3 : ¬ RedE rs v = 3) (h4 : ¬ RedE rs (RedV rs u ++ RedV rs v) = 3) :
    RedE rs (u ++ v) = 0 ∧ RedE rs u = 0 ∧ RedE rs v = 0 ∧ RedE rs (RedV rs u ++ RedV rs v) = 0 ∧ RedV rs (u ++ v) = RedV rs (RedV rs u ++ RedV rs v) := by
  have hV := errR_iff.1 hE
  have hl := validW_al hu
  have l0 := hl.1
  rw [List.length_append] at l0
  have hu1 : Al u := Lt.al (fun c hc => hl.lt c (by simp [hc])) (by omega)
  have hv1 : Al v := Lt.al (fun c hc => hl.lt c (by simp [hc])) (by omega)
  obtain ⟨a1, a2⟩ := red_ok hE hu h1
  obtain ⟨b1, b2⟩ := red_ok hE (al_valid hu1) h2
  obtain ⟨c1, c2⟩ := red_ok hE (al_valid hv1) h3
  have k1 := redF_spec hV _ hu1 b1
  have k2 := redF_spec hV _ hv1 c1
  have hw : validW 6 (RedV rs u ++ RedV rs v) = true := al_valid (Lt.al (k1.2.1.lt.app k2.2.1.lt) (by rw [List.length_append]; omega))
  obtain ⟨d1, d2⟩ := red_ok hE hw h4
  exact ⟨a2, b2, c2, d2, red_parts hV (cf_lc hE hC) a1 b1 c1 d1⟩
theorem pts_len {rs : List Rul} {u v : Wrd} (hE : errR 6 rs = 0) (hu : validW 6 (u ++ v) = true) : (RedV rs u).length ≤ 2048 ∧ (RedV rs v).length ≤ 2048 := by
  have hV := errR_iff.1 hE
  have hl := validW_al hu
  have l0 := hl.1
  rw [List.length_append] at l0
  have hu1 : Al u := Lt.al (fun c hc => hl.lt c (by simp [hc])) (by omega)
  have hv1 : Al v := Lt.al (fun c hc => hl.lt c (by simp [hc])) (by omega)
  have f : ∀ x : Wrd, Al x → (RedV rs x).length ≤ 2048 := fun x hx => by
    rw [redV_ok hE (al_valid hx)]
    rcases red_cases rs x with ⟨y, h1, h2, h3⟩ | ⟨_, h2, _⟩
    · rw [h2]
      have := (redF_spec hV _ hx h1).2.2.1
      have := hx.1
      omega
    · rw [h2]; simp
  exact ⟨f u hu1, f v hv1⟩
end Go.Sx
