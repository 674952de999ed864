import Derived.Test.YtoikhoniogicdaaSp
import Derived.Laws.Concat
import Derived.Laws.Runes
import Derived.Laws.BytesString
set_option linter.unusedVariables false
set_option linter.unusedSimpArgs false
namespace Go.Sx
open Go.RowKit
/-! ### strings -/
def sv (l : List UInt8) : Value := .string ⟨l.toArray⟩
def byv (c : UInt8) : Value := .int .u8 (c.toNat : Int)
theorem sv_of (a : ByteArray) : Value.string a = sv a.data.toList := rfl
theorem sv_inj {x y : List UInt8} (h : sv x = sv y) : x = y := by
  unfold sv at h
  injection h with h
  injection h with h
  have := congrArg Array.toList h
  simpa using this

section ops
variable {C : Cx} {sl : List (Nat × Value)} {own : List Asn} {dst : Option Nat} {ty : TypeId} {pos : String} {aft : Array Edge} {g : Option (Nat × Bool)}
theorem Yl.lenS {x : Operand} {t : TypeId} {l : List UInt8} (ht : C.P.underlying t = some .string) (hx : opv ⟨sl, own⟩ x = some (sv l)) :
    Yl C ⟨sl, own⟩ ⟨dst, .call ⟨.builtin .len, #[x], #[t]⟩, ty, pos, aft, g⟩ (.int .i64 (l.length : Int)) :=
  fun a w hs => by
    have hx' := opv_eval hs hx
    unfold sv at hx'
    have hl : (⟨l.toArray⟩ : ByteArray).size = l.length := rfl
    simp [execOp, resolve, invoke, builtin, hx', Builtin.len_, run_underlying ht, goInt, hl]
theorem Yl.idxS {x i : Operand} {t : TypeId} {l : List UInt8} {k : Int} (ht : C.P.underlying t = some .string) (hx : opv ⟨sl, own⟩ x = some (sv l)) (hi : opv ⟨sl, own⟩ i = some (.int .i64 k)) (hk : 0 ≤ k ∧ k < l.length) :
    Yl C ⟨sl, own⟩ ⟨dst, .index t x i, ty, pos, aft, g⟩ (byv (l.getD k.toNat 0)) :=
  fun a w hs => by
    have h1 : k.toNat < l.length := by omega
    have h2 : (⟨l.toArray⟩ : ByteArray)[k.toNat]? = some (l.getD k.toNat 0) := by
      have : k.toNat < (⟨l.toArray⟩ : ByteArray).size := by simpa [ByteArray.size] using h1
      rw [getElem?_pos (⟨l.toArray⟩ : ByteArray) k.toNat this, List.getD_eq_getElem?_getD, List.getElem?_eq_getElem h1]
      rfl
    simp only [execOp, opv_eval hs hx, opv_eval hs hi]
    simp only [Instr.index, asIntOf, Sem.run_bind, Sem.run_pure, Result.andThen_ok, run_underlying ht, sv, hk.1, if_true, h2]
    rfl
theorem Yl.idxSN {x i : Operand} {t : TypeId} {l : List UInt8} {k : Nat} (ht : C.P.underlying t = some .string) (hx : opv ⟨sl, own⟩ x = some (sv l)) (hi : opv ⟨sl, own⟩ i = some (.int .i64 (k : Int))) (hk : k < l.length) :
    Yl C ⟨sl, own⟩ ⟨dst, .index t x i, ty, pos, aft, g⟩ (byv (l.getD k 0)) := Yl.idxS ht hx hi (by omega)
theorem Yl.concat {x y : Operand} {t t' : TypeId} {l m : List UInt8} (hx : opv ⟨sl, own⟩ x = some (sv l)) (hy : opv ⟨sl, own⟩ y = some (sv m)) (h : l.length + m.length ≤ 9223372036854775807) :
    Yl C ⟨sl, own⟩ ⟨dst, .binOp .add t x y t', ty, pos, aft, g⟩ (sv (l ++ m)) :=
  fun a w hs => by
    have h1 := run_string_add_sum (P := C.P) w ⟨l.toArray⟩ ⟨m.toArray⟩ (by simpa [ByteArray.size] using h)
    rw [ByteArray.mk_append_mk] at h1
    simp only [execOp, opv_eval hs hx, opv_eval hs hy, sv]
    simp [go_sem, h1]
theorem toList_mk (l : List UInt8) : (⟨l.toArray⟩ : ByteArray).toList = l := by simp
theorem Yl.eqlS {x y : Operand} {t t' : TypeId} {l m : List UInt8} (ht : C.P.underlying t = some .string) (hx : opv ⟨sl, own⟩ x = some (sv l)) (hy : opv ⟨sl, own⟩ y = some (sv m)) :
    Yl C ⟨sl, own⟩ ⟨dst, .binOp .eql t x y t', ty, pos, aft, g⟩ (.bool (decide (l = m))) :=
  fun a w hs => by
    simp only [execOp, opv_eval hs hx, opv_eval hs hy, sv]
    have h : (l == m) = decide (l = m) := by rw [Bool.eq_iff_iff]; simp
    simp [go_sem, ht, Op.stringOp, toList_mk, beq_iff_eq, h]
    try rfl
theorem Yl.neqS {x y : Operand} {t t' : TypeId} {l m : List UInt8} (ht : C.P.underlying t = some .string) (hx : opv ⟨sl, own⟩ x = some (sv l)) (hy : opv ⟨sl, own⟩ y = some (sv m)) :
    Yl C ⟨sl, own⟩ ⟨dst, .binOp .neq t x y t', ty, pos, aft, g⟩ (.bool (decide (l ≠ m))) :=
  fun a w hs => by
    have h : (!(l == m)) = decide (l ≠ m) := by rw [Bool.eq_iff_iff]; simp
    simp only [execOp, opv_eval hs hx, opv_eval hs hy, sv]
    simp [go_sem, ht, Op.stringOp, toList_mk, beq_iff_eq, h]
    try rfl
theorem Yl.lssS {x y : Operand} {t t' : TypeId} {l m : List UInt8} (hx : opv ⟨sl, own⟩ x = some (sv l)) (hy : opv ⟨sl, own⟩ y = some (sv m)) :
    Yl C ⟨sl, own⟩ ⟨dst, .binOp .lss t x y t', ty, pos, aft, g⟩ (.bool (Op.bytesLess l m)) :=
  fun a w hs => by
    simp only [execOp, opv_eval hs hx, opv_eval hs hy, sv]
    simp [go_sem, Op.stringOp, toList_mk]

/-! ### bytes and conversions -/
theorem Yl.subU8 {x y : Operand} {t t' : TypeId} {m n : Int} (hx : opv ⟨sl, own⟩ x = some (.int .u8 m)) (hy : opv ⟨sl, own⟩ y = some (.int .u8 n)) (h1 : 0 ≤ m - n ∧ m - n ≤ 255) :
    Yl C ⟨sl, own⟩ ⟨dst, .binOp .sub t x y t', ty, pos, aft, g⟩ (.int .u8 (m - n)) :=
  fun a w hs => by
    have : IntKind.u8.wrap (m - n) = m - n := by simp [IntKind.wrap, IntKind.bits, IntKind.signed]; omega
    simp only [execOp, opv_eval hs hx, opv_eval hs hy]; simp [go_sem, Op.intArith, this]
theorem Yl.addU8 {x y : Operand} {t t' : TypeId} {m n : Int} (hx : opv ⟨sl, own⟩ x = some (.int .u8 m)) (hy : opv ⟨sl, own⟩ y = some (.int .u8 n)) (h1 : 0 ≤ m + n ∧ m + n ≤ 255) :
    Yl C ⟨sl, own⟩ ⟨dst, .binOp .add t x y t', ty, pos, aft, g⟩ (.int .u8 (m + n)) :=
  fun a w hs => by
    have : IntKind.u8.wrap (m + n) = m + n := by simp [IntKind.wrap, IntKind.bits, IntKind.signed]; omega
    simp only [execOp, opv_eval hs hx, opv_eval hs hy]; simp [go_sem, Op.intArith, this]
theorem Yl.convI {x : Operand} {s d : TypeId} {k k' : IntKind} {n : Int} (hs : (C.P.underlying s).isSome = true) (hd : C.P.underlying d = some (.int k')) (hx : opv ⟨sl, own⟩ x = some (.int k n)) (h : k'.wrap n = n) :
    Yl C ⟨sl, own⟩ ⟨dst, .convert s d x, ty, pos, aft, g⟩ (.int k' n) :=
  fun a w hs' => by
    obtain ⟨sd, hsd⟩ := Option.isSome_iff_exists.mp hs
    have : (convert s d (.int k n)).run C.P w = .ok (.int k' n) w := by simp [convert, run_underlying hsd, run_underlying hd, Conv.intToInt, h]
    simp only [execOp, opv_eval hs' hx, Sem.run_bind, this, Result.andThen_ok, Sem.run_pure]
theorem wrap_u8 {n : Int} (h : 0 ≤ n ∧ n ≤ 255) : IntKind.u8.wrap n = n := by simp [IntKind.wrap, IntKind.bits, IntKind.signed]; omega
theorem wrap_i32 {n : Int} (h : 0 ≤ n ∧ n ≤ 255) : IntKind.i32.wrap n = n := by simp [IntKind.wrap, IntKind.bits, IntKind.signed]; omega
theorem wrap_u64 {n : Int} (h : 0 ≤ n ∧ n ≤ 9223372036854775807) : IntKind.u64.wrap n = n := by simp [IntKind.wrap, IntKind.bits, IntKind.signed]; omega
theorem wrap_i64 {n : Int} (h : -9223372036854775808 ≤ n ∧ n ≤ 9223372036854775807) : IntKind.i64.wrap n = n := wrap_in h.1 h.2
theorem Yl.runeS {x : Operand} {s d : TypeId} {k : IntKind} {n : Int} (hs : (C.P.underlying s).isSome = true) (hd : C.P.underlying d = some .string) (hx : opv ⟨sl, own⟩ x = some (.int k n)) (h : 0 ≤ n ∧ n < 128) :
    Yl C ⟨sl, own⟩ ⟨dst, .convert s d x, ty, pos, aft, g⟩ (sv [UInt8.ofNat n.toNat]) :=
  fun a w hs' => by
    have := run_convert_int_string (P := C.P) w s d k n hs hd
    have e : Utf8.encode n = ⟨[UInt8.ofNat n.toNat].toArray⟩ := by
      have hv : Utf8.valid n = true := by unfold Utf8.valid; simp; omega
      unfold Utf8.encode
      simp only [hv, if_true]
      rw [if_pos (by omega)]
      try rfl
    simp only [execOp, opv_eval hs' hx, Sem.run_bind, this, Result.andThen_ok, Sem.run_pure, e]
    rfl
theorem fold_push (ns : List UInt8) : ∀ (s : List UInt8), (ns.map fun c => (c.toNat : Int)).foldl (fun r n => ByteArray.push r (UInt8.ofNat n.toNat)) ⟨s.toArray⟩ = ⟨(s ++ ns).toArray⟩ := by
  induction ns with
  | nil => intro s; simp
  | cons c ns ih =>
    intro s
    simp only [List.map_cons, List.foldl_cons]
    have : ByteArray.push ⟨s.toArray⟩ (UInt8.ofNat ((c.toNat : Int)).toNat) = ⟨(s ++ [c]).toArray⟩ := by
      simp [ByteArray.push]
    rw [this, ih]
    simp
theorem Yl.bytesS {x : Operand} {s d e : TypeId} {v : Value} {n : Nat} {l : List UInt8} (hs : C.P.underlying s = some (.slice e)) (he : C.P.underlying e = some (.int .u8)) (hd : C.P.underlying d = some .string) (hx : opv ⟨sl, own⟩ x = some v) (hr : RdS C own v 1 n (l.map byv)) :
    Yl C ⟨sl, own⟩ ⟨dst, .convert s d x, ty, pos, aft, g⟩ (sv l) :=
  fun a w hs' => by
    obtain ⟨oa, cap, rfl, hm, hl, hn, hc⟩ := hr w hs'.world
    have h1 := run_convert_bytes_string (P := C.P) w s d e oa n cap hs he hd
    have hln : l.length = n := by simpa using hl
    have h2 : (Conv.bytesToString (.slice oa n cap)).run C.P w = .ok (sv l) w := by
      cases oa with
      | none =>
        have : l = [] := by
          cases l with
          | nil => rfl
          | cons c l =>
            have := hn (by rw [← hln]; simp) (by omega)
            simp at this
        subst this
        simp [Conv.bytesToString, sv]; rfl
      | some ad =>
        have hl' := run_loadCells_list (P := C.P) (w := w) ad (l.map byv) (fun i u hi => (hc ad i u rfl hi).2)
        rw [List.length_map, hln] at hl'
        have hl2 : (loadCells ad n).run C.P w = .ok ((l.map fun c => (c.toNat : Int)).map (Value.int .u8)).toArray w := by
          rw [hl']; simp [byv]
        rw [run_bytesToString w ad n cap _ hl2]
        have := fold_push l []
        simp only [List.nil_append] at this
        have e0 : (⟨([] : List UInt8).toArray⟩ : ByteArray) = ByteArray.empty := rfl
        rw [e0] at this
        rw [this]; rfl
    simp only [execOp, opv_eval hs' hx, Sem.run_bind, h1, h2, Result.andThen_ok, Sem.run_pure]

/-! ### other operations -/
theorem Yl.rem {x y : Operand} {t t' : TypeId} {m n : Int} (hx : opv ⟨sl, own⟩ x = some (.int .i64 m)) (hy : opv ⟨sl, own⟩ y = some (.int .i64 n)) (hm : 0 ≤ m ∧ m ≤ 9223372036854775807) (hn : 0 < n ∧ n ≤ 9223372036854775807) :
    Yl C ⟨sl, own⟩ ⟨dst, .binOp .rem t x y t', ty, pos, aft, g⟩ (.int .i64 (m % n)) :=
  fun a w hs => by
    have h1 : m.tmod n = m % n := by rw [Int.tmod_eq_emod_of_nonneg hm.1]
    have h2 : IntKind.i64.wrap (m % n) = m % n := by
      have := Int.emod_nonneg m (show n ≠ 0 by omega)
      have := Int.emod_lt_of_pos m hn.1
      rw [IntKind.wrap_i64]; omega
    have h3 : n ≠ 0 := by omega
    simp only [execOp, opv_eval hs hx, opv_eval hs hy]
    simp [go_sem, h1, h2, h3]
theorem Yl.nilCheck {x : Operand} {p : Addr} (hx : opv ⟨sl, own⟩ x = some (.pointer (some p))) : Yl C ⟨sl, own⟩ ⟨dst, .nilCheck x, ty, pos, aft, g⟩ (.pointer (some p)) :=
  fun a w hs => by simp [execOp, opv_eval hs hx]
theorem Yl.makeFunc {fn : Fn} {first captured : List Operand} {vs us : List Value} (hx : opvs ⟨sl, own⟩ first = some vs) (hy : opvs ⟨sl, own⟩ captured = some us) : Yl C ⟨sl, own⟩ ⟨dst, .makeFunc fn first.toArray captured.toArray, ty, pos, aft, g⟩ (.func fn vs.toArray us.toArray) :=
  fun a w hs => by
    have h1 := opvs_eval hs hx
    have h2 := opvs_eval hs hy
    subst h1; subst h2
    simp [execOp, Instr.makeFunc]
/-- s[:m] of a row that is owned -/
def slTo (v : Value) (m : Nat) : Value := match v with
  | .slice a _ c => .slice a m c
  | v => v
theorem Yl.sliceTo (i : Nat) {x h : Operand} {t E : TypeId} {sz n : Nat} {v : Value} {m : Int} {cs : List Value} (hi : own[i]? = some (row v E sz n cs)) (ht : SlT C.P t E sz) (hx : opv ⟨sl, own⟩ x = some v) (hh : opv ⟨sl, own⟩ h = some (.int .i64 m)) (hm : 0 ≤ m ∧ m ≤ n) :
    Yl C ⟨sl, own⟩ ⟨dst, .slice t x none (some h) none, ty, pos, aft, g⟩ (slTo v m.toNat) :=
  fun a w hs => by
    obtain ⟨_, Fs, hhp, _⟩ := hs.world
    obtain ⟨hown, _⟩ := hhp.at_ i _ hi
    obtain ⟨inf, hi1, hi2⟩ := ht.inf
    have : ∃ ao c, v = .slice ao n c ∧ n ≤ c := by
      rcases hown.2 with ⟨rfl, rfl⟩ | ⟨gb, cp, cur, rfl, _, _, hnc, _⟩
      · exact ⟨none, 0, rfl, Nat.le_refl _⟩
      · exact ⟨_, cp, rfl, hnc⟩
    obtain ⟨ao, c, rfl, hnc⟩ := this
    have h1 : (0 : Int) ≤ m ∧ m ≤ (c : Int) := by omega
    simp only [execOp, opv_eval hs hx, Option.map_none, Option.map_some, opv_eval hs hh]
    simp [Instr.sliceAt, Instr.slice, Instr.sliceBounds, Instr.sliceBound, asIntOf, run_underlying ht.1, h1.1, h1.2, sizeOf, typeInfo, hi1, slTo]
    intro _
    cases ao <;> simp [Addr.add]

theorem row_to {w : World} {F : Nat → Prop} {v : Value} {E : TypeId} {sz n m : Nat} {cs : List Value} (h : (row v E sz n cs).holds w F) (hm : m ≤ n) : (row (slTo v m) E sz m (cs.take (m * sz))).holds w F := by
  obtain ⟨hown, hF⟩ := h
  have hle : m * sz ≤ n * sz := Nat.mul_le_mul_right _ hm
  rcases hown.2 with ⟨rfl, rfl⟩ | ⟨gb, cp, cur, rfl, h0, hb, hnc, hcm, hcs, htake⟩
  · have : m = 0 := by omega
    subst this
    refine ⟨⟨by simp, .inl ⟨rfl, rfl⟩⟩, hF⟩
  · refine ⟨⟨by rw [List.length_take, hown.1]; omega, .inr ⟨gb, cp, cur, rfl, h0, hb, by omega, hcm, hcs, ?_⟩⟩, hF⟩
    rw [← htake, List.take_take, Nat.min_eq_left hle]
theorem HW.elem {own : List Asn} {w : World} {A A' : Asn} (i : Nat) (hi : own[i]? = some A) (hA : ∀ F, A.holds w F → A'.holds w F) (h : HW C own w) : HW C (own.set i A') w := by
  obtain ⟨hf, Fs, hh, hal⟩ := h
  refine ⟨hf, Fs, ⟨fun k B hk => ?_, fun k hk b hb => hh.out k (by simpa using hk) b hb, hh.apart⟩, hal⟩
  by_cases hki : i = k
  · subst hki
    have hlt := (List.getElem?_eq_some_iff.1 hi).1
    simp [hlt] at hk
    subst hk
    exact hA _ (hh.at_ i A hi)
  · rw [List.getElem?_set_ne hki] at hk; exact hh.at_ k B hk
theorem AK.reslice {K : Act → World → Prop} (i : Nat) {v : Value} {E : TypeId} {sz n : Nat} {cs : List Value} (m : Nat) (hi : own[i]? = some (row v E sz n cs)) (hm : m ≤ n) (h : AK C ⟨sl, own.set i (row (slTo v m) E sz m (cs.take (m * sz)))⟩ K) : AK C ⟨sl, own⟩ K :=
  fun a w hs => h a w ⟨hs.size, hs.defers, hs.slot, hs.world.elem i hi (fun F hA => row_to hA hm)⟩
/-- an owned assertion said in other words -/
theorem AK.own' {K : Act → World → Prop} (L : List Asn) (hL : ∀ w, HW C own w → HW C L w) (h : AK C ⟨sl, L⟩ K) : AK C ⟨sl, own⟩ K := fun a w hs => h a w ⟨hs.size, hs.defers, hs.slot, hL w hs.world⟩
end ops

/-! ### lists and lists of lists, read outside F -/
def RdL {α : Type} (F : Nat → Prop) (f : α → Value) (w : World) (v : Value) (xs : List α) : Prop := Rd (fun b => ¬ F b) w v 1 xs.length (xs.map f)
def RdLL {α : Type} (F : Nat → Prop) (f : α → Value) (w : World) (v : Value) (xss : List (List α)) : Prop := ∃ rs : List Value, rs.length = xss.length ∧ Rd (fun b => ¬ F b) w v 1 xss.length rs ∧ ∀ i, i < xss.length → RdL F f w (rs.getD i undef) (xss.getD i [])
def none_ (_ : Nat) : Prop := False

section
variable {α : Type} {C : Cx} {on : List Asn} {w : World} {f : α → Value}
theorem Rd.keep {G : Nat → Prop} {v : Value} {sz n : Nat} {cs : List Value} (h : Rd (fun b => ¬ C.S b) C.W0 v sz n cs) (hf : FrameX C.S C.W0 w) (hG : ∀ b, ¬ C.S b → b < C.W0.heap.size → G b) : Rd G w v sz n cs :=
  Rd.mono h fun b hb hlt => ⟨hG b hb hlt, hf.block b hlt hb⟩
/-- an argument, in the present world -/
theorem RdL.at {v : Value} {xs : List α} (h : RdL C.S f C.W0 v xs) (hw : HW C on w) : RdL (fun _ => False) f w v xs := Rd.keep h hw.frame (fun _ _ _ => id)
theorem RdLL.at {v : Value} {xs : List (List α)} (h : RdLL C.S f C.W0 v xs) (hw : HW C on w) : RdLL (fun _ => False) f w v xs := by
  obtain ⟨rs, h1, h2, h3⟩ := h
  exact ⟨rs, h1, Rd.keep h2 hw.frame (fun _ _ _ => id), fun i hi => RdL.at (h3 i hi) hw⟩
/-- an argument, for a call that may write Fs i -/
theorem RdL.off {Fs : Nat → Nat → Prop} {i : Nat} {v : Value} {xs : List α} (h : RdL C.S f C.W0 v xs) (hf : FrameX C.S C.W0 w) (hal : ∀ k b, Fs k b → C.W0.heap.size ≤ b ∨ C.S b) : RdL (Fs i) f w v xs :=
  Rd.keep h hf (fun b hb hlt hF => by rcases hal i b hF with h | h; (omega); exact hb h)
theorem RdLL.off {Fs : Nat → Nat → Prop} {i : Nat} {v : Value} {xs : List (List α)} (h : RdLL C.S f C.W0 v xs) (hf : FrameX C.S C.W0 w) (hal : ∀ k b, Fs k b → C.W0.heap.size ≤ b ∨ C.S b) : RdLL (Fs i) f w v xs := by
  obtain ⟨rs, h1, h2, h3⟩ := h
  exact ⟨rs, h1, Rd.keep h2 hf (fun b hb hlt hF => by rcases hal i b hF with h | h; (omega); exact hb h), fun k hk => RdL.off (h3 k hk) hf hal⟩
theorem RdL.own {v : Value} {E : TypeId} {xs : List α} (i : Nat) (hw : HW C on w) (hi : on[i]? = some (row v E 1 xs.length (xs.map f))) : RdL (fun _ => False) f w v xs :=
  (RdS.own (C := C) i hi w hw).mono fun b _ _ => ⟨id, rfl⟩
theorem RdL.ownE {v : Value} {E : TypeId} {n : Nat} {cs : List Value} {xs : List α} (i : Nat) (hw : HW C on w) (hi : on[i]? = some (row v E 1 n cs)) (hn : n = xs.length) (hc : cs = xs.map f) : RdL (fun _ => False) f w v xs := by
  subst hn; subst hc; exact RdL.own i hw hi
/-- what number j owns, for a call that may write number i -/
theorem RdL.offOwn {Fs : Nat → Nat → Prop} {i : Nat} {v : Value} {E : TypeId} {xs : List α} (j : Nat) (hh : HeapAt on Fs w) (hj : on[j]? = some (row v E 1 xs.length (xs.map f))) (hne : i ≠ j) : RdL (Fs i) f w v xs :=
  (row_rd (hh.at_ j _ hj)).mono fun b hb _ => ⟨fun hF => hne (hh.apart i j b hF hb), rfl⟩
def matG {α : Type} (f : α → Value) (E : TypeId) (rs : List Value) (xss : List (List α)) : List Asn := (rs.zip xss).map fun p => row p.1 E 1 p.2.length (p.2.map f)
theorem matG_length {E : TypeId} {rs : List Value} {xss : List (List α)} (h : rs.length = xss.length) : (matG f E rs xss).length = xss.length := by simp [matG, h]
theorem matG_get {E : TypeId} {rs : List Value} {xss : List (List α)} (h : rs.length = xss.length) {i : Nat} (hi : i < xss.length) : (matG f E rs xss)[i]? = some (row (rs.getD i undef) E 1 (xss.getD i []).length ((xss.getD i []).map f)) := by
  simp [matG, List.getElem?_eq_getElem hi, List.getElem?_eq_getElem (show i < rs.length by omega), List.getD_eq_getElem?_getD, List.zip, List.getElem?_zipWith]
theorem matG_snoc {E : TypeId} {rs : List Value} {xss : List (List α)} (h : rs.length = xss.length) (q : Value) (ys : List α) : matG f E (rs ++ [q]) (xss ++ [ys]) = matG f E rs xss ++ [row q E 1 ys.length (ys.map f)] := by
  simp [matG, List.zip_append h]
theorem RdLL.own {v : Value} {E E' : TypeId} {rs : List Value} {xss : List (List α)} (i j : Nat) (hw : HW C on w) (hl : rs.length = xss.length) (hi : on[i]? = some (row v E 1 xss.length rs)) (hj : on[j]? = some (bigA (matG f E' rs xss))) : RdLL (fun _ => False) f w v xss :=
  ⟨rs, hl, (RdS.own (C := C) i hi w hw).mono fun b _ _ => ⟨id, rfl⟩, fun k hk => (RdS.big (C := C) j k hj (matG_get hl hk) w hw).mono fun b _ _ => ⟨id, rfl⟩⟩
theorem RdL.big {v : Value} {E' : TypeId} {rs : List Value} {xss : List (List α)} (j k : Nat) (hw : HW C on w) (hj : on[j]? = some (bigA (matG f E' rs xss))) (hl : rs.length = xss.length) (hk : k < xss.length) : RdL (fun _ => False) f w (rs.getD k undef) (xss.getD k []) :=
  (RdS.big (C := C) j k hj (matG_get hl hk) w hw).mono fun b _ _ => ⟨id, rfl⟩
theorem HW.ghostG {α : Type} {f : α → Value} (E : TypeId) (h : HW C on w) : HW C (on ++ [bigA (matG f E [] ([] : List (List α)))]) w := h.ghostBig _ (fun i A hi => by simp [matG] at hi)
end
theorem matL_eq {E : TypeId} {rs : List Value} {xss : List (List Int)} : matL E rs xss = matG (Value.int .i64) E rs xss := rfl

section
variable {C : Cx} {sl : List (Nat × Value)} {own : List Asn} {ops : Array Oper} {Q : Exit → Act → World → Prop} {d : Nat} {ty : TypeId} {pos : String} {aft : Array Edge} {g : Option (Nat × Bool)} {rest : List Oper}
theorem Yl.loadS {dst : Option Nat} {x : Operand} {t : TypeId} {v : Value} {n j : Nat} {xs : List (List UInt8)} (ht : OneT C.P t) (hx : opv ⟨sl, own⟩ x = some (.pointer (some ((slA v).add (j * 1)))))
    (hr : RdS C own v 1 n (xs.map sv)) (hj : j < xs.length) : Yl C ⟨sl, own⟩ ⟨dst, .load t x, ty, pos, aft, g⟩ (sv (xs.getD j [])) := Yl.load ht hx hr rfl [] hj
theorem Yl.loadBy {dst : Option Nat} {x : Operand} {t : TypeId} {v : Value} {n j : Nat} {xs : List UInt8} (ht : OneT C.P t) (hx : opv ⟨sl, own⟩ x = some (.pointer (some ((slA v).add (j * 1)))))
    (hr : RdS C own v 1 n (xs.map byv)) (hj : j < xs.length) : Yl C ⟨sl, own⟩ ⟨dst, .load t x, ty, pos, aft, g⟩ (byv (xs.getD j 0)) := Yl.load ht hx hr rfl 0 hj

/-! ### calls of function values; methods -/
theorem run_callV {a : Act} {w : World} (hs : Sim C ⟨sl, own⟩ a w) {f : FuncId} {x : Operand} {xs : List Operand} {tys : Array TypeId} {vs us cs : List Value} {dst : Option Nat}
    (hf : CallOk C.P f) (hx0 : opv ⟨sl, own⟩ x = some (.func (.func f) us.toArray cs.toArray)) (hx : opvs ⟨sl, own⟩ xs = some vs) : (execOp a.eval ⟨dst, .call ⟨.value x, xs.toArray, tys⟩, ty, pos, aft, g⟩).run C.P w = .ok (.enter f (us ++ vs ++ cs).toArray) w := by
  obtain ⟨fn, h1, h2, h3⟩ := hf.fn
  have := opvs_eval hs hx
  subst this
  have h2' : ¬ fn.name = "runtime.NumGoroutine" := by simpa using h2
  have h3' : ¬ fn.body = none := by intro e; simp [e] at h3
  have h0 := opv_eval hs hx0
  simp [execOp, resolve, h0, Deferred.ofValue, invoke, callFunc, h1, h2', h3']
theorem AK.callV {f : FuncId} {x : Operand} {xs : List Operand} {tys : Array TypeId} {vs us cs : List Value} {φ : Value → List Asn → Prop} (hf : CallOk C.P f) (hx0 : opv ⟨sl, own⟩ x = some (.func (.func f) us.toArray cs.toArray)) (hx : opvs ⟨sl, own⟩ xs = some vs) (hspec : ∀ w, HW C own w → CallS C.P f (us ++ vs ++ cs) w φ) (hg : Grd ops sl g) (hd : Nat.blt d C.N = true)
    (h : ∀ v own', φ v own' → AK C ⟨(d, v) :: sl, own ++ own'⟩ (wpList C.P ops Q rest)) : AK C ⟨sl, own⟩ (wpList C.P ops Q (⟨some d, .call ⟨.value x, xs.toArray, tys⟩, ty, pos, aft, g⟩ :: rest)) := by
  intro a w hs
  refine wpList_step fun K hK => ?_
  rw [if_pos (wanted_of_Grd hs hg)]
  simp only [Oper.wp, run_callV hs hf hx0 hx, Oper.upon]
  refine (hspec w hs.world).mono ?_
  rintro e w' ⟨v, own', hφ, rfl, hx', Fs, hh, hin⟩
  refine hK _ _ (h v own' hφ _ _ ?_)
  exact hs.put (hs.world.push hx' hh (fun j b hb => (hin j b hb).resolve_left id)) (d := some d) (fun i hi => by cases hi; simpa [Nat.blt_eq] using hd) v
theorem AK.callN (i : Nat) {A : Asn} {f : FuncId} {xs : List Operand} {tys : Array TypeId} {vs : List Value} {φ : Value → Asn → List Asn → Prop} (hi : own[i]? = some A) (hf : CallOk C.P f) (hx : opvs ⟨sl, own⟩ xs = some vs)
    (hspec : ∀ w Fs, HW C own w → HeapAt own Fs w → FrameX C.S C.W0 w → (∀ k b, Fs k b → C.W0.heap.size ≤ b ∨ C.S b) → CallM C.P f vs w (Fs i) φ) (hg : Grd ops sl g) (hd : Nat.blt d C.N = true)
    (h : ∀ v A' own', φ v A' own' → AK C ⟨(d, v) :: sl, own.set i A' ++ own'⟩ (wpList C.P ops Q rest)) : AK C ⟨sl, own⟩ (wpList C.P ops Q (⟨some d, .call ⟨.value (.func f), xs.toArray, tys⟩, ty, pos, aft, g⟩ :: rest)) := by
  intro a w hs
  refine wpList_step fun K hK => ?_
  rw [if_pos (wanted_of_Grd hs hg)]
  simp only [Oper.wp, run_call hs hf hx, Oper.upon]
  obtain ⟨hf', Fs, hh, hal⟩ := hs.world
  refine (hspec w Fs ⟨hf', Fs, hh, hal⟩ hh hf' hal).mono ?_
  rintro e w' ⟨v, A', own', hφ, rfl, hx', Fs', hh', hin⟩
  refine hK _ _ (h v A' own' hφ _ _ ?_)
  exact hs.put (HW.update hf' hh hal (List.getElem?_eq_some_iff.1 hi).1 hx' hh' hin) (d := some d) (fun i hi => by cases hi; simpa [Nat.blt_eq] using hd) v

/-- many, taken apart; and put together -/
theorem HW.flat {l own : List Asn} {w : World} (h : HW C (bigA l :: own) w) : HW C (l ++ own) w := by
  obtain ⟨hf, Fs, hh, hal⟩ := h
  obtain ⟨Gs, gh, gF⟩ := hh.at_ 0 (bigA l) rfl
  have gal : ∀ k b, Gs k b → Fs 0 b := fun k b hb => (gF b).2 ⟨k, hb⟩
  refine ⟨hf, fun k b => if k < l.length then Gs k b else Fs (k - l.length + 1) b, ⟨?_, ?_, ?_⟩, ?_⟩
  · intro k A hk
    by_cases hkl : k < l.length
    · rw [List.getElem?_append_left hkl] at hk
      simpa [hkl] using gh.at_ k A hk
    · rw [List.getElem?_append_right (by omega)] at hk
      have := hh.at_ (k - l.length + 1) A (by simpa using hk)
      simpa [hkl] using this
  · intro k hk b hb
    simp at hk
    simp only [show ¬ k < l.length by omega, if_false] at hb
    exact hh.out _ (by simp; omega) b hb
  · intro k j b h1 h2
    by_cases hk : k < l.length <;> by_cases hj : j < l.length
    · simp only [hk, hj, if_true] at h1 h2; exact gh.apart k j b h1 h2
    · simp only [hk, hj, if_true, if_false] at h1 h2
      have := hh.apart 0 _ b (gal k b h1) h2; omega
    · simp only [hk, hj, if_true, if_false] at h1 h2
      have := hh.apart 0 _ b (gal j b h2) h1; omega
    · simp only [hk, hj, if_false] at h1 h2
      have := hh.apart _ _ b h1 h2; omega
  · intro k b hb
    split at hb
    · exact hal 0 b (gal k b hb)
    · exact hal _ b hb
theorem HW.unflat {l own : List Asn} {w : World} (h : HW C (l ++ own) w) : HW C (bigA l :: own) w := by
  obtain ⟨hf, Fs, hh, hal⟩ := h
  refine ⟨hf, fun k b => if k = 0 then ∃ i, i < l.length ∧ Fs i b else Fs (k - 1 + l.length) b, ⟨?_, ?_, ?_⟩, ?_⟩
  · intro k A hk
    cases k with
    | zero =>
      simp at hk
      subst hk
      refine ⟨fun i b => i < l.length ∧ Fs i b, ⟨?_, ?_, ?_⟩, ?_⟩
      · intro i B hi
        have hil := (List.getElem?_eq_some_iff.1 hi).1
        have := hh.at_ i B (by rw [List.getElem?_append_left hil]; exact hi)
        simpa [hil] using this
      · rintro i hi b ⟨h, _⟩; omega
      · rintro i j b ⟨_, h1⟩ ⟨_, h2⟩; exact hh.apart i j b h1 h2
      · intro b; simp only [if_true]; exact Iff.rfl
    | succ k =>
      have := hh.at_ (k + l.length) A (by rw [List.getElem?_append_right (by omega)]; simpa using hk)
      simpa using this
  · intro k hk b hb
    simp at hk
    have hk0 : k ≠ 0 := by omega
    simp only [hk0, if_false] at hb
    exact hh.out _ (by simp; omega) b hb
  · intro k j b h1 h2
    by_cases hk : k = 0 <;> by_cases hj : j = 0
    · omega
    · simp only [hk, hj, if_true, if_false] at h1 h2
      obtain ⟨i, hi, h1⟩ := h1
      have := hh.apart _ _ b h1 h2; omega
    · simp only [hk, hj, if_true, if_false] at h1 h2
      obtain ⟨i, hi, h2⟩ := h2
      have := hh.apart _ _ b h1 h2; omega
    · simp only [hk, hj, if_false] at h1 h2
      have := hh.apart _ _ b h1 h2; omega
  · intro k b hb
    split at hb
    · obtain ⟨i, _, hb⟩ := hb; exact hal i b hb
    · exact hal _ b hb
theorem fm_range {α : Type} (L : List α) : ∀ (n s : Nat), s + n ≤ L.length → (List.range' s n).filterMap (L[·]?) = (L.drop s).take n
  | 0, s, _ => by simp
  | n + 1, s, hle => by
    have hlt : s < L.length := by omega
    rw [List.range'_succ, List.filterMap_cons, List.getElem?_eq_getElem hlt]
    simp only
    rw [fm_range L n (s + 1) (by omega), List.drop_eq_getElem_cons hlt, List.take_succ_cons]
/-- the same in the middle -/
theorem HW.flatAt {l pre post : List Asn} {w : World} (h : HW C (pre ++ bigA l :: post) w) : HW C (pre ++ l ++ post) w := by
  have hp : HW C (bigA l :: (pre ++ post)) w := by
    refine HW.pick h (pre.length :: (List.range' 0 pre.length ++ List.range' (pre.length + 1) post.length)) ?_ ?_ ?_
    · rw [List.nodup_cons, List.nodup_append]
      refine ⟨by simp; omega, List.nodup_range', List.nodup_range', fun a ha b hb => ?_⟩
      simp at ha hb; omega
    · rw [List.filterMap_cons, List.filterMap_append, fm_range _ _ _ (by simp), fm_range _ _ _ (by simp; omega)]
      simp [List.drop_append, List.drop_eq_nil_of_le (show pre.length ≤ pre.length + 1 by omega)]
    · simp
  have h2 := hp.flat
  refine HW.pick h2 (List.range' l.length pre.length ++ (List.range' 0 l.length ++ List.range' (l.length + pre.length) post.length)) ?_ ?_ (by simp)
  · rw [List.nodup_append, List.nodup_append]
    refine ⟨List.nodup_range', ⟨List.nodup_range', List.nodup_range', fun a ha b hb => ?_⟩, fun a ha b hb => ?_⟩
    · simp at ha hb; omega
    · simp at ha hb; omega
  · rw [List.filterMap_append, List.filterMap_append, fm_range _ _ _ (by simp), fm_range _ _ _ (by simp), fm_range _ _ _ (by simp; omega)]
    simp [List.drop_append, List.drop_eq_nil_of_le (show l.length ≤ l.length + pre.length by omega)]
theorem AK.flatAt {K : Act → World → Prop} (pre : List Asn) {l post : List Asn} (h : AK C ⟨sl, pre ++ l ++ post⟩ K) : AK C ⟨sl, pre ++ bigA l :: post⟩ K := fun a w hs => h a w ⟨hs.size, hs.defers, hs.slot, hs.world.flatAt⟩
end
theorem specM_of' {P : Program} {f : FuncId} {fn : Func} {c : Code} {vs : List Value} {w : World} {F : Nat → Prop} {l : List Asn} {φ : Value → Asn → List Asn → Prop} (hf : P.funcs[f]? = some fn) (hb : fn.body = some c) (hN : vs.length ≤ fn.ntmps) (hA : (bigA l).holds w F)
    (h : AK ⟨P, fn.ntmps, w, F⟩ ⟨argSl 0 vs, l⟩ (c.wp P (bodyPost P fn fun e w' => ∃ v A' own', φ v A' own' ∧ e = .returned v ∧ Ret F w w' (A' :: own')))) : CallM P f vs w F φ :=
  specM_of hf hb hN hA (fun a w hs => h a w ⟨hs.size, hs.defers, hs.slot, by have := hs.world.flat; simpa using this⟩)
theorem Ret.ofBig {C : Cx} {l own : List Asn} {w : World} (h : HW C (l ++ own) w) : Ret C.S C.W0 w (bigA l :: own) := Ret.of h.unflat
end Go.Sx
