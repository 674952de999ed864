import Derived.Test.YtoikhoniogicdaaDb
set_option linter.unusedVariables false
namespace Go.Sx
/-! ### which words lead to final states; the list of words -/
def preB (d : Dfa) (row : List Bool) : List Bool := d.nx.map fun r => r.any fun q => row.getD q.toNat false
def aliveR (d : Dfa) : Nat → List Bool
  | 0 => d.fin
  | r + 1 => preB d (aliveR d r)
theorem aliveR_len {d : Dfa} (h : d.nx.length = d.fin.length) : ∀ r, (aliveR d r).length = d.fin.length
  | 0 => rfl
  | r + 1 => by simp [aliveR, preB, h]
def alT (d : Dfa) (m : Nat) : List (List Bool) := (List.range' 1 m).map (aliveR d)
theorem alT_len (d : Dfa) (m : Nat) : (alT d m).length = m := by simp [alT]
theorem alT_succ (d : Dfa) (m : Nat) : alT d (m + 1) = alT d m ++ [aliveR d (m + 1)] := by
  unfold alT; rw [List.range'_concat, List.map_append]; simp [Nat.add_comm]
def alR (d : Dfa) (m : Nat) : List (List Bool) := d.fin :: alT d m
theorem alR_len (d : Dfa) (m : Nat) : (alR d m).length = m + 1 := by simp [alR, alT_len]
theorem alR_at (d : Dfa) {m i : Nat} (h : i ≤ m) : (alR d m).getD i [] = aliveR d i := by
  cases i with
  | zero => rfl
  | succ i =>
    have : i < m := by omega
    simp [alR, alT, List.getD_eq_getElem?_getD, this, Nat.add_comm]
/-- the rows: the first one came in, the others are owned -/
theorem rd_al {C : Cx} {own : List Asn} {vF : Value} {fin : List Bool} {rs' : List Value} {rows' : List (List Bool)} {E : TypeId} (j : Nat) (hF : Rd (fun b => ¬ C.S b) C.W0 vF 1 fin.length (fin.map Value.bool)) (hj : own[j]? = some (bigA (matG Value.bool E rs' rows'))) (hl : rs'.length = rows'.length)
    {i : Nat} (hi : i < rows'.length + 1) : RdS C own ((vF :: rs').getD i undef) 1 ((fin :: rows').getD i []).length (((fin :: rows').getD i []).map Value.bool) := by
  cases i with
  | zero => exact RdS.arg hF
  | succ i =>
    have : i < rows'.length := by omega
    exact RdS.big j i hj (matG_get hl this)

theorem rd_al2 {C : Cx} {own : List Asn} {vF : Value} {fin : List Bool} {rs' : List Value} {rows' : List (List Bool)} {E : TypeId} (j : Nat) (hF : Rd (fun b => ¬ C.S b) C.W0 vF 1 fin.length (fin.map Value.bool)) (hj : own[j]? = some (bigA (matG Value.bool E rs' rows'))) (hl : rs'.length = rows'.length)
    {i : Nat} (hi : i < rows'.length + 1) {row : List Bool} {n : Nat} (e : (fin :: rows').getD i [] = row) (hn : row.length = n) : RdS C own ((vF :: rs').getD i undef) 1 n (row.map Value.bool) := by
  subst e; subst hn; exact rd_al j hF hj hl hi

def orRow (A : List Bool) (n k : Nat) (b : Bool) : List Bool := A ++ b :: List.replicate (n - 1 - k) false
theorem orRow_len {A : List Bool} {n k : Nat} {b : Bool} (hA : A.length = k) (hk : k < n) : (orRow A n k b).length = n := by
  simp only [orRow, List.length_append, List.length_cons, List.length_replicate]; omega
theorem orRow_get {A : List Bool} {n k : Nat} {b : Bool} (hA : A.length = k) : (orRow A n k b).getD k false = b := by
  subst hA; simp [orRow, List.getD_eq_getElem?_getD]
theorem orRow_set {A : List Bool} {n k : Nat} {b : Bool} (c : Bool) (hA : A.length = k) : ((orRow A n k b).map Value.bool).set k (.bool c) = (orRow A n k c).map Value.bool := by
  subst hA; rw [← List.map_set]; simp [orRow]
theorem orRow_zero {A : List Bool} {n k : Nat} (hk : k < n) : A ++ List.replicate (n - k) false = orRow A n k false := by
  unfold orRow; rw [show n - k = (n - 1 - k) + 1 by omega, List.replicate_succ]
theorem orRow_end {A : List Bool} {n k : Nat} {b : Bool} : orRow A n k b = (A ++ [b]) ++ List.replicate (n - (k + 1)) false := by
  unfold orRow; rw [show n - 1 - k = n - (k + 1) by omega]; simp
theorem any_snoc {α : Type} (p : α → Bool) (d : α) {xs : List α} {k : Nat} (hk : k < xs.length) : (xs.take (k + 1)).any p = ((xs.take k).any p || p (xs.getD k d)) := by
  rw [take_snocD d xs k hk, List.any_append, List.any_cons]; simp
theorem preB_take {d : Dfa} {row : List Bool} {k : Nat} (hk : k < d.nx.length) : (preB d row).take (k + 1) = (preB d row).take k ++ [(d.nx.getD k []).any fun q => row.getD q.toNat false] := by
  rw [take_snocD false _ k (by simpa [preB] using hk)]
  congr 2
  simp [preB, List.getD_eq_getElem?_getD, List.getElem?_eq_getElem hk]
theorem preB_tlen {d : Dfa} {row : List Bool} {k : Nat} (hk : k ≤ d.nx.length) : ((preB d row).take k).length = k := by
  simp [preB]; omega

def ltr (x : Nat) : UInt8 := UInt8.ofNat (97 + x)
theorem ltr_toNat {x : Nat} (h : x < 128) : (ltr x).toNat = 97 + x := by simp [ltr]; omega
theorem byv_ltr {x : Nat} (h : x < 128) : Value.int .u8 (97 + (x : Int)) = byv (ltr x) := by unfold byv; rw [ltr_toNat h]; simp
theorem ofNat_ltr {x : Nat} (h : x < 128) : UInt8.ofNat (97 + (x : Int)).toNat = ltr x := by unfold ltr; congr 1
/-- the accepted words of r more letters, behind what is there, n at most -/
def wl (d : Dfa) (n : Nat) : Nat → Int → List UInt8 → List (List UInt8) → List (List UInt8)
  | 0, q, pre, out => if (aliveR d 0).getD q.toNat false = false ∨ out.length = n then out else out ++ [pre]
  | r + 1, q, pre, out => if (aliveR d (r + 1)).getD q.toNat false = false ∨ out.length = n then out else
      (List.range (d.nx.getD q.toNat []).length).foldl (fun out x => wl d n r ((d.nx.getD q.toNat []).getD x 0) (pre ++ [ltr x]) out) out
def wlk (d : Dfa) (n r : Nat) (row : List Int) (pre : List UInt8) (out : List (List UInt8)) (k : Nat) : List (List UInt8) :=
  (List.range k).foldl (fun out x => wl d n r (row.getD x 0) (pre ++ [ltr x]) out) out
theorem wlk_succ {d : Dfa} {n r : Nat} {row : List Int} {pre : List UInt8} {out : List (List UInt8)} {k : Nat} : wlk d n r row pre out (k + 1) = wl d n r (row.getD k 0) (pre ++ [ltr k]) (wlk d n r row pre out k) := by
  unfold wlk; rw [List.range_succ, List.foldl_append]; rfl
theorem wl_stop {d : Dfa} {n r : Nat} {q : Int} {pre : List UInt8} {out : List (List UInt8)} (h : (aliveR d r).getD q.toNat false = false ∨ out.length = n) : wl d n r q pre out = out := by
  cases r <;> simp only [wl] <;> rw [if_pos h]
theorem wl_zero {d : Dfa} {n : Nat} {q : Int} {pre : List UInt8} {out : List (List UInt8)} (h : ¬ ((aliveR d 0).getD q.toNat false = false ∨ out.length = n)) : wl d n 0 q pre out = out ++ [pre] := by
  simp only [wl]; rw [if_neg h]
theorem wl_succ {d : Dfa} {n r : Nat} {q : Int} {pre : List UInt8} {out : List (List UInt8)} (hr : 0 < r) (h : ¬ ((aliveR d r).getD q.toNat false = false ∨ out.length = n)) :
    wl d n r q pre out = wlk d n (r - 1) (d.nx.getD q.toNat []) pre out (d.nx.getD q.toNat []).length := by
  cases r with
  | zero => omega
  | succ r => simp only [wl]; rw [if_neg h]; rfl
theorem foldl_len {α β : Type} (f : β → α → β) (μ : β → Nat) (n : Nat) (h : ∀ b a, μ b ≤ n → μ (f b a) ≤ n) : ∀ (l : List α) (b : β), μ b ≤ n → μ (l.foldl f b) ≤ n
  | [], b, hb => hb
  | a :: l, b, hb => foldl_len f μ n h l _ (h b a hb)
theorem wl_len {d : Dfa} {n : Nat} : ∀ (r : Nat) (q : Int) (pre : List UInt8) (out : List (List UInt8)), out.length ≤ n → (wl d n r q pre out).length ≤ n
  | 0, q, pre, out, h => by
    simp only [wl]; split
    · exact h
    · rename_i h2; simp; omega
  | r + 1, q, pre, out, h => by
    simp only [wl]; split
    · exact h
    · exact foldl_len _ List.length n (fun b x hb => wl_len r _ _ _ hb) _ _ h
theorem wlk_len {d : Dfa} {n r : Nat} {row : List Int} {pre : List UInt8} {out : List (List UInt8)} (h : out.length ≤ n) (k : Nat) : (wlk d n r row pre out k).length ≤ n :=
  foldl_len _ List.length n (fun b x hb => wl_len r _ _ _ hb) _ _ h
def wk (d : Dfa) (n : Nat) : Nat → List (List UInt8)
  | 0 => []
  | k + 1 => if (wk d n k).length < n then wl d n k d.s [] (wk d n k) else wk d n k
theorem wk_len (d : Dfa) (n : Nat) : ∀ k, (wk d n k).length ≤ n
  | 0 => Nat.zero_le _
  | k + 1 => by
    simp only [wk]; split
    · exact wl_len _ _ _ _ (wk_len d n k)
    · exact wk_len d n k
theorem wk_stop {d : Dfa} {n k : Nat} (h : n ≤ (wk d n k).length) : ∀ m, wk d n (k + m) = wk d n k
  | 0 => rfl
  | m + 1 => by
    have := wk_stop h m
    show wk d n (k + m + 1) = _
    simp only [wk]
    rw [this, if_neg (by omega)]
def WordsV (d : Dfa) (n : Int) : List (List UInt8) := if errV d = 0 ∧ 0 ≤ n ∧ n ≤ 200 then wk d n.toNat 2049 else []
end Go.Sx
namespace Go.Sx
theorem wk_end {d : Dfa} {n k : Nat} (hk : k ≤ 2049) (h : k = 2049 ∨ n ≤ (wk d n k).length) : wk d n 2049 = wk d n k := by
  rcases h with rfl | h
  · rfl
  · have := wk_stop h (2049 - k)
    rwa [show k + (2049 - k) = 2049 by omega] at this
theorem wk_next {d : Dfa} {n k : Nat} (h : (wk d n k).length < n) : wk d n (k + 1) = wl d n k d.s [] (wk d n k) := by simp only [wk]; rw [if_pos h]
theorem RdLL.alOff {C : Cx} {own : List Asn} {w : World} {Fs : Nat → Nat → Prop} {vF vAl : Value} {d : Dfa} {m : Nat} {rs : List Value} {E E' : TypeId} (i j1 j2 : Nat) (hh : HeapAt own Fs w) (hfr : FrameX C.S C.W0 w) (hal : ∀ k b, Fs k b → C.W0.heap.size ≤ b ∨ C.S b) (hF : RdL C.S Value.bool C.W0 vF d.fin)
    (h1 : own[j1]? = some (row vAl E 1 (m + 1) (vF :: rs))) (h2 : own[j2]? = some (bigA (matG Value.bool E' rs (alT d m)))) (hl : rs.length = m) (n1 : i ≠ j1) (n2 : i ≠ j2) : RdLL (Fs i) Value.bool w vAl (alR d m) := by
  refine ⟨vF :: rs, by simp [alR_len, hl], ?_, fun k hk => ?_⟩
  · rw [alR_len]
    exact (row_rd (hh.at_ j1 _ h1)).mono fun b hb _ => ⟨fun hf => n1 (hh.apart i j1 b hf hb), rfl⟩
  · cases k with
    | zero => exact RdL.off hF hfr hal
    | succ k =>
      rw [alR_len] at hk
      obtain ⟨Gs, gh, gF⟩ := hh.at_ j2 _ h2
      have hk' : k < (alT d m).length := by rw [alT_len]; omega
      have := row_rd (gh.at_ k _ (matG_get (by rw [alT_len]; exact hl) hk'))
      exact this.mono fun b hb _ => ⟨fun hf => n2 (hh.apart i j2 b hf ((gF b).2 ⟨k, hb⟩)), rfl⟩
theorem RdD.off {C : Cx} {w : World} {Fs : Nat → Nat → Prop} {i : Nat} {v : Value} {d : Dfa} (h : RdD C.S C.W0 v d) (hf : FrameX C.S C.W0 w) (hal : ∀ k b, Fs k b → C.W0.heap.size ≤ b ∨ C.S b) : RdD (Fs i) w v d := by
  obtain ⟨vF, vN, rfl, h1, h2⟩ := h
  exact ⟨vF, vN, rfl, h1.off hf hal, h2.off hf hal⟩
theorem Yl.bytesLtr {C : Cx} {sl : List (Nat × Value)} {own : List Asn} {dst : Option Nat} {ty : TypeId} {pos : String} {aft : Array Edge} {g : Option (Nat × Bool)} (i x : Nat) {y : Operand} {s d e E : TypeId} {v : Value} (hi : own[i]? = some (row v E 1 1 ([Value.int .u8 (97 + (x : Int))].flatMap (·.cells.toList)))) (hx : x < 128)
    (hs : C.P.underlying s = some (.slice e)) (he : C.P.underlying e = some (.int .u8)) (hd : C.P.underlying d = some .string) (hy : opv ⟨sl, own⟩ y = some v) : Yl C ⟨sl, own⟩ ⟨dst, .convert s d y, ty, pos, aft, g⟩ (sv [ltr x]) :=
  Yl.bytesS hs he hd hy (by
    have := RdS.own (C := C) i hi
    rw [byv_ltr hx] at this
    exact this)
theorem bytesLess_irrefl : ∀ l, Op.bytesLess l l = false
  | [] => rfl
  | a :: l => by
    simp only [Op.bytesLess, bytesLess_irrefl l]
    have : ¬ a < a := by rw [UInt8.lt_iff_toNat_lt]; omega
    simp [this]
end Go.Sx
namespace Go.Sx
theorem RdD.own {C : Cx} {own : List Asn} {w : World} {EB EI ER : TypeId} {vF vN : Value} {rs : List Value} {d : Dfa} (i : Nat) (hw : HW C own w) (hl : rs.length = d.nx.length) (h1 : own[i]? = some (row vF EB 1 d.fin.length (d.fin.map Value.bool))) (h2 : own[i + 1]? = some (row vN ER 1 d.nx.length rs)) (h3 : own[i + 2]? = some (bigA (matG (Value.int .i64) EI rs d.nx))) :
    RdD (fun _ => False) w (.agg #[.int .i64 d.L, .int .i64 d.s, vF, vN]) d := ⟨vF, vN, rfl, RdL.own i hw h1, RdLL.own (i + 1) (i + 2) hw hl h2 h3⟩
end Go.Sx
