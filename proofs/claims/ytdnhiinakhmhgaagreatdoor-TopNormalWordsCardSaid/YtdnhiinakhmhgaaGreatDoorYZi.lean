import Derived.Test.YtdnhiinakhmhgaaGreatDoorYZe
import Derived.Test.YtdnhiinakhmhgaaGreatDoorYZf
import Derived.Shelf.Strings.Builder1
import Derived.Shelf.Small.Bits
import Derived.Shelf.Small.Strs
import Derived.Shelf.Small.Wraps
import Derived.Shelf.Strconv.Itoa0
import Derived.Test.YtdnhiinakhmhgaaGreatDoorProg
set_option linter.unusedVariables false
set_option linter.unusedSimpArgs false
set_option maxRecDepth 100000
namespace Go.Proofs.YtdnhiinakhmhgaaGreatDoor
open Go.Sx Go.RowKit
theorem s_isempty (w : World) (e : Ex) (s : Value) : CallS Tryz.prog 158 [.agg #[.int .i64 e.op, .int .i64 e.lt, s]] w (fun r o => r = .bool (isEmptyE e) ∧ o = []) := by
 refine spec_of Tryz.func158 rfl (leb rfl) ?_
 refine .sr fun _ hK1 => ?_
 refine AK.box_ (E := 65) (cs := [.int .i64 e.op, .int .i64 e.lt, s]) rfl rfl rfl trivial rfl (fun bx1 => ?_)
 refine .as rfl (.nt hK1 ?_)
 refine .sr fun _ hK2 => ?_
 refine .v (.fieldAddr fd65_0 rfl) (.v (.loadBox on3 rfl bsp rfl) (.v (.eql rfl rfl) (.as rfl (.nt hK2 (.ret ?_)))))
 refine AK.ret1 rfl rfl (fun w hw => ⟨_, _, ?_, rfl, Ret.of (hw.pick [] (by decide) rfl rfl)⟩)
 exact ⟨rfl, rfl⟩

theorem s_isunit (w : World) (e : Ex) (s : Value) : CallS Tryz.prog 176 [.agg #[.int .i64 e.op, .int .i64 e.lt, s]] w (fun r o => r = .bool (isUnitE e) ∧ o = []) := by
 refine spec_of Tryz.func176 rfl (leb rfl) ?_
 refine .sr fun _ hK1 => ?_
 refine AK.box_ (E := 65) (cs := [.int .i64 e.op, .int .i64 e.lt, s]) rfl rfl rfl trivial rfl (fun bx1 => ?_)
 refine .as rfl (.nt hK1 ?_)
 refine .sr fun _ hK2 => ?_
 refine .v (.fieldAddr fd65_0 rfl) (.v (.loadBox on3 rfl bsp rfl) (.v (.eql rfl rfl) (.as rfl (.nt hK2 (.ret ?_)))))
 refine AK.ret1 rfl rfl (fun w hw => ⟨_, _, ?_, rfl, Ret.of (hw.pick [] (by decide) rfl rfl)⟩)
 exact ⟨rfl, rfl⟩

theorem s_isuniv (w : World) (e : Ex) (s : Value) (h : RdK (cellR (fun _ => False) w) s e.kids) : CallS Tryz.prog 126 [.agg #[.int .i64 e.op, .int .i64 e.lt, s]] w (fun r o => r = .bool (isUnivE e) ∧ o = []) := by
 obtain ⟨ss, hl, hx, hk⟩ := h.inv
 have hr := hx.rd
 have hm := hr.le
 refine spec_of Tryz.func126 rfl (leb rfl) ?_
 refine .sr fun _ hK1 => ?_
 refine AK.box_ (E := 65) (cs := [.int .i64 e.op, .int .i64 e.lt, s]) rfl rfl rfl trivial rfl (fun bx1 => ?_)
 refine .as rfl (.nt hK1 ?_)
 refine .sr fun _ hK2 => ?_
 refine .v (.fieldAddr fd65_0 rfl) (.v (.loadBox on3 rfl bsp rfl) (.v (.eql rfl rfl) (.mv rfl ?_)))
 refine AK.splitB (g := 6) rfl (fun hg_1_3 => ?_) (fun hg_1_3 => ?_)
 ·have hg_1_3' := hg_1_3
  try simp only [bs] at hg_1_3'
  refine AK.val _ (Yl.fieldAddr fd65_2 rfl) ⟨_, rfl, gB hg_1_3⟩ rfl ?_
  refine AK.val _ (Yl.loadBox on63 rfl bsp rfl) ⟨_, rfl, gB hg_1_3⟩ rfl ?_
  refine AK.val _ (Yl.lenR sl63 rfl rdp) ⟨_, rfl, gB hg_1_3⟩ rfl ?_
  refine AK.val _ (Yl.eql rfl rfl) ⟨_, rfl, gB hg_1_3⟩ rfl ?_
  refine .v (.pickT rfl (hg_1_3) rfl) (.mv rfl ?_)
  refine AK.splitB (g := 12) rfl (fun hg_1_9 => ?_) (fun hg_1_9 => ?_)
  ·have hg_1_9' := hg_1_9
   try simp only [bs] at hg_1_9'
   refine AK.val _ (Yl.fieldAddr fd65_2 rfl) ⟨_, rfl, gB hg_1_9⟩ rfl ?_
   refine AK.val _ (Yl.loadBox on63 rfl bsp rfl) ⟨_, rfl, gB hg_1_9⟩ rfl ?_
   refine AK.val _ (Yl.idxN (k := 0) sl63 rfl rfl rdp (by decide) (by have := hg_1_9; simp at this; omega)) ⟨_, rfl, gB hg_1_9⟩ rfl ?_
   refine AK.val _ (Yl.loadE ag65 rfl rdp (by assumption) rfl (by omega)) ⟨_, rfl, gB hg_1_9⟩ rfl ?_
   refine AK.call co158 rfl (fun w hw => s_isempty w _ _) ⟨_, rfl, gB hg_1_9⟩ rfl ?_
   rintro r o ⟨rfl, rfl⟩
   refine .v (.pickT rfl (hg_1_9) rfl) (.as rfl (.nt hK2 (.ret ?_)))
   refine AK.ret1 rfl rfl (fun w hw => ⟨_, _, ?_, rfl, Ret.of (hw.pick [] (by decide) rfl rfl)⟩)
   refine ⟨congrArg Value.bool ?_, rfl⟩
   unfold isUnivE
   first | (have g : e.kids.length = 1 := (by omega); simp [hg_1_3', g]; done) | (have g : ¬ e.kids.length = 1 := (by omega); simp [g]; done) | (simp [hg_1_3']; done)
  ·have hg_1_9' := hg_1_9
   try simp only [bs] at hg_1_9'
   refine AK.pass rfl rfl (hg_1_9) rfl ?_
   refine AK.pass rfl rfl (hg_1_9) rfl ?_
   refine AK.pass rfl rfl (hg_1_9) rfl ?_
   refine AK.pass rfl rfl (hg_1_9) rfl ?_
   refine AK.pass rfl rfl (hg_1_9) rfl ?_
   refine .v (.pickF rfl (hg_1_9) rfl) (.as rfl (.nt hK2 (.ret ?_)))
   refine AK.ret1 rfl rfl (fun w hw => ⟨_, _, ?_, rfl, Ret.of (hw.pick [] (by decide) rfl rfl)⟩)
   refine ⟨congrArg Value.bool ?_, rfl⟩
   unfold isUnivE
   first | (have g : e.kids.length = 1 := (by omega); simp [hg_1_3', g]; done) | (have g : ¬ e.kids.length = 1 := (by omega); simp [g]; done) | (simp [hg_1_3']; done)
 ·have hg_1_3' := hg_1_3
  try simp only [bs] at hg_1_3'
  refine AK.pass rfl rfl (hg_1_3) rfl ?_
  refine AK.pass rfl rfl (hg_1_3) rfl ?_
  refine AK.pass rfl rfl (hg_1_3) rfl ?_
  refine AK.pass rfl rfl (hg_1_3) rfl ?_
  refine .v (.pickF rfl (hg_1_3) rfl) (.mv rfl ?_)
  refine AK.pass rfl rfl rfl rfl ?_
  refine AK.pass rfl rfl rfl rfl ?_
  refine AK.pass rfl rfl rfl rfl ?_
  refine AK.pass rfl rfl rfl rfl ?_
  refine AK.pass rfl rfl rfl rfl ?_
  refine .v (.pickF rfl (rfl) rfl) (.as rfl (.nt hK2 (.ret ?_)))
  refine AK.ret1 rfl rfl (fun w hw => ⟨_, _, ?_, rfl, Ret.of (hw.pick [] (by decide) rfl rfl)⟩)
  refine ⟨congrArg Value.bool ?_, rfl⟩
  unfold isUnivE
  first | (have g : e.kids.length = 1 := (by omega); simp [hg_1_3', g]; done) | (have g : ¬ e.kids.length = 1 := (by omega); simp [g]; done) | (simp [hg_1_3']; done)

theorem s_empty (w : World) : CallS Tryz.prog 175 [] w (fun r o => r = .agg #[.int .i64 emptyE.op, .int .i64 emptyE.lt, nilV] ∧ o = []) := by
 refine spec_of Tryz.func175 rfl (leb rfl) ?_
 refine .sr fun _ hK1 => ?_
 refine AK.alloc el65 rfl rfl trivial rfl (fun bx0 => ?_)
 refine .nt hK1 ?_
 refine .sr fun _ hK2 => ?_
 refine .v (.build (parts := [(0, .const (.int .i64 1))]) (cs := #[.int .i64 emptyE.op, .int .i64 emptyE.lt, .slice none 0 0]) rfl (by kernel_rfl)) ?_
 refine AK.storeBox 0 (us := [.int .i64 emptyE.op, .int .i64 emptyE.lt, .slice none 0 0]) (cs' := [.int .i64 emptyE.op, .int .i64 emptyE.lt, .slice none 0 0]) rfl sz65 rfl rfl rfl rfl oneP (leb rfl) rfl trivial ?_
 refine .nt hK2 (.ret ?_)
 refine AK.retG [.cell 0 65] rfl (.cons (.cell ag65 rfl bsp rfl rfl) (.nil)) (fun w hw => ⟨_, _, ?_, rfl, Ret.of (hw.pick [] (by decide) rfl rfl)⟩)
 exact ⟨rfl, rfl⟩

theorem s_unit (w : World) : CallS Tryz.prog 152 [] w (fun r o => r = .agg #[.int .i64 unitE.op, .int .i64 unitE.lt, nilV] ∧ o = []) := by
 refine spec_of Tryz.func152 rfl (leb rfl) ?_
 refine .sr fun _ hK1 => ?_
 refine AK.alloc el65 rfl rfl trivial rfl (fun bx0 => ?_)
 refine .nt hK1 ?_
 refine .sr fun _ hK2 => ?_
 refine .v (.build (parts := [(0, .const (.int .i64 2))]) (cs := #[.int .i64 unitE.op, .int .i64 unitE.lt, .slice none 0 0]) rfl (by kernel_rfl)) ?_
 refine AK.storeBox 0 (us := [.int .i64 unitE.op, .int .i64 unitE.lt, .slice none 0 0]) (cs' := [.int .i64 unitE.op, .int .i64 unitE.lt, .slice none 0 0]) rfl sz65 rfl rfl rfl rfl oneP (leb rfl) rfl trivial ?_
 refine .nt hK2 (.ret ?_)
 refine AK.retG [.cell 0 65] rfl (.cons (.cell ag65 rfl bsp rfl rfl) (.nil)) (fun w hw => ⟨_, _, ?_, rfl, Ret.of (hw.pick [] (by decide) rfl rfl)⟩)
 exact ⟨rfl, rfl⟩

theorem s_level (w : World) (op : Int) : CallS Tryz.prog 180 [.int .i64 op] w (fun r o => r = .int .i64 (levE op) ∧ o = []) := by
 refine spec_of Tryz.func180 rfl (leb rfl) ?_
 refine .sr fun _ hK1 => ?_
 refine .as rfl (.nt hK1 ?_)
 refine .seq fun _ hK2 => ?_
 refine .sr fun _ hK3 => ?_
 refine .mv rfl (.nt hK3 (.block ?_))
 refine .sr fun _ hK4 => ?_
 refine .v (.eql rfl rfl) (.as rfl (.nt hK4 ?_))
 refine AK.condD rfl (fun hc0 => ?_) (fun hc0 => ?_)
 ·refine .sr fun _ hK5 => ?_
  refine .as rfl (.nt hK5 (.ret (.block_ret (.then_ret ?_))))
  refine AK.ret1 rfl rfl (fun w hw => ⟨_, _, ?_, rfl, Ret.of (hw.pick [] (by decide) rfl rfl)⟩)
  refine ⟨congrArg (Value.int .i64) ?_, rfl⟩
  unfold levE
  simp_all
 ·refine .sr fun _ hK6 => ?_
  refine .v (.eql rfl rfl) (.as rfl (.nt hK6 ?_))
  refine AK.condD rfl (fun hc1 => ?_) (fun hc1 => ?_)
  ·refine .sr fun _ hK7 => ?_
   refine .as rfl (.nt hK7 (.ret (.block_ret (.then_ret ?_))))
   refine AK.ret1 rfl rfl (fun w hw => ⟨_, _, ?_, rfl, Ret.of (hw.pick [] (by decide) rfl rfl)⟩)
   refine ⟨congrArg (Value.int .i64) ?_, rfl⟩
   unfold levE
   simp_all
  ·refine .sr fun _ hK8 => ?_
   refine .v (.eql rfl rfl) (.as rfl (.nt hK8 ?_))
   refine AK.condD rfl (fun hc2 => ?_) (fun hc2 => ?_)
   ·refine .sr fun _ hK9 => ?_
    refine .as rfl (.nt hK9 (.ret (.block_ret (.then_ret ?_))))
    refine AK.ret1 rfl rfl (fun w hw => ⟨_, _, ?_, rfl, Ret.of (hw.pick [] (by decide) rfl rfl)⟩)
    refine ⟨congrArg (Value.int .i64) ?_, rfl⟩
    unfold levE
    simp_all
   ·refine .sr fun _ hK10 => ?_
    refine .v (.eql rfl rfl) (.as rfl (.nt hK10 ?_))
    refine AK.condD rfl (fun hc3 => ?_) (fun hc3 => ?_)
    ·refine .sr fun _ hK11 => ?_
     refine .as rfl (.nt hK11 (.ret (.block_ret (.then_ret ?_))))
     refine AK.ret1 rfl rfl (fun w hw => ⟨_, _, ?_, rfl, Ret.of (hw.pick [] (by decide) rfl rfl)⟩)
     refine ⟨congrArg (Value.int .i64) ?_, rfl⟩
     unfold levE
     simp_all
    ·refine .sr fun _ hK12 => ?_
     refine .v (.eql rfl rfl) (.as rfl (.nt hK12 ?_))
     refine AK.condD rfl (fun hc4 => ?_) (fun hc4 => ?_)
     ·refine .sr fun _ hK13 => ?_
      refine .as rfl (.nt hK13 (.ret (.block_ret (.then_ret ?_))))
      refine AK.ret1 rfl rfl (fun w hw => ⟨_, _, ?_, rfl, Ret.of (hw.pick [] (by decide) rfl rfl)⟩)
      refine ⟨congrArg (Value.int .i64) ?_, rfl⟩
      unfold levE
      simp_all
     ·refine .skip (.block_normal ?_)
      refine AK.then_ (hK2 _ ?_)
      refine .sr fun _ hK14 => ?_
      refine .as rfl (.nt hK14 (.ret ?_))
      refine AK.ret1 rfl rfl (fun w hw => ⟨_, _, ?_, rfl, Ret.of (hw.pick [] (by decide) rfl rfl)⟩)
      refine ⟨congrArg (Value.int .i64) ?_, rfl⟩
      unfold levE
      simp_all

theorem s_univ (w : World) : CallS Tryz.prog 170 [] w (fun r o => ∃ s, r = .agg #[.int .i64 univE.op, .int .i64 univE.lt, s] ∧ o = [row s 65 3 1 (xcs [emptyE] [nilV])]) := by
 refine spec_of Tryz.func170 rfl (leb rfl) ?_
 refine .sr fun _ hK1 => ?_
 refine AK.alloc el65 rfl rfl trivial rfl (fun bx0 => ?_)
 refine .nt hK1 ?_
 refine .sr fun _ hK2 => ?_
 refine AK.call co175 rfl (fun w hw => s_empty w) trivial rfl ?_
 rintro r o ⟨rfl, rfl⟩
 refine AK.lit (xs := [.tmp 1]) sl63 el65 rfl rfl rfl (by simp [Value.cells]) (by decide) (by decide) trivial rfl (fun lv => ?_)
 refine AK.shape 1 rfl (fun slv => ?_)
 refine .v (.build (parts := [(0, .const (.int .i64 8)), (2, .tmp 2)]) (cs := #[.int .i64 univE.op, .int .i64 univE.lt, lv]) rfl (by obtain ⟨_, _, _, rfl⟩ := slv; kernel_rfl)) ?_
 refine AK.storeBox 0 (us := [.int .i64 univE.op, .int .i64 univE.lt, lv]) (cs' := [.int .i64 univE.op, .int .i64 univE.lt, lv]) rfl sz65 rfl rfl rfl rfl oneP (leb rfl) rfl trivial ?_
 refine .nt hK2 (.ret ?_)
 refine AK.retG [.cell 0 65] rfl (.cons (.cell ag65 rfl bsp rfl rfl) (.nil)) (fun w hw => ⟨_, _, ?_, rfl, Ret.of (hw.pick [1] (by decide) rfl rfl)⟩)
 exact ⟨_, rfl, rfl⟩

def FitsS (d : Nat) : Prop := ∀ (w : World) (F : Nat → Prop) (lb : Nat) (e : Ex) (s : Value) (left : Nat) (hA : (box lb 3 1 [.int .i64 (left : Int)]).holds w F) (hle : left ≤ 400) (hd : d ≤ 40) (h : RdK (cellR F w) s e.kids),
  CallM Tryz.prog 117 [.agg #[.int .i64 e.op, .int .i64 e.lt, s], .int .i64 (d : Int), .pointer (some ⟨lb, 0, none⟩)] w F (fun r A o => ∃ (b : Bool) (l2 : Nat), r = .bool b ∧ A = box lb 3 1 [.int .i64 (l2 : Int)] ∧ l2 ≤ 400 ∧ o = [] ∧ fitsE d e left = if b then some l2 else none)
theorem foldlM_none {d : Nat} {ks : List Ex} {k : Nat} {l0 l : Nat} (h : (ks.take k).foldlM (fun l k => fitsE d k l) l0 = some l) (hk : k < ks.length) (hn : fitsE d (ks.getD k default) l = none) : ks.foldlM (fun l k => fitsE d k l) l0 = none := by
  have e : ks = ks.take k ++ ks.getD k default :: ks.drop (k + 1) := by
    rw [show ks.getD k default = ks[k] by simp [List.getD_eq_getElem?_getD, hk]]
    simp
  rw [e, List.foldlM_append, h]
  simp only [Option.bind_eq_bind, Option.bind_some, List.foldlM_cons, hn, Option.bind_none]
theorem foldlM_some {d : Nat} {ks : List Ex} {k : Nat} {l0 l l2 : Nat} (h : (ks.take k).foldlM (fun l k => fitsE d k l) l0 = some l) (hk : k < ks.length) (hn : fitsE d (ks.getD k default) l = some l2) : (ks.take (k + 1)).foldlM (fun l k => fitsE d k l) l0 = some l2 := by
  rw [take_snocD default ks k hk, List.foldlM_append, h]
  simp only [Option.bind_eq_bind, Option.bind_some, List.foldlM_cons, hn, List.foldlM_nil]
  rfl
set_option maxHeartbeats 400000 in
theorem s_fits_step (d : Nat) (ih : ∀ d', d = d' + 1 → FitsS d') (w : World) (F : Nat → Prop) (lb : Nat) (e : Ex) (s : Value) (left : Nat) (hA : (box lb 3 1 [.int .i64 (left : Int)]).holds w F) (hle : left ≤ 400) (hd : d ≤ 40) (h : RdK (cellR F w) s e.kids) : CallM Tryz.prog 117 [.agg #[.int .i64 e.op, .int .i64 e.lt, s], .int .i64 (d : Int), .pointer (some ⟨lb, 0, none⟩)] w F (fun r A o => ∃ (b : Bool) (l2 : Nat), r = .bool b ∧ A = box lb 3 1 [.int .i64 (l2 : Int)] ∧ l2 ≤ 400 ∧ o = [] ∧ fitsE d e left = if b then some l2 else none) := by
 obtain ⟨ss, hl, hx, hk⟩ := h.inv
 have hr := hx.rd
 have hm := hr.le
 refine specM_of Tryz.func117 rfl (leb rfl) hA ?_
 refine .sr fun _ hK1 => ?_
 refine AK.box_ (E := 65) (cs := [.int .i64 e.op, .int .i64 e.lt, s]) rfl rfl rfl trivial rfl (fun bx3 => ?_)
 refine .as rfl (.nt hK1 ?_)
 refine .seq fun _ hK2 => ?_
 refine .sr fun _ hK3 => ?_
 refine .mv rfl (.v (.eql rfl rfl) (.mv rfl ?_))
 refine AK.splitB (g := 11) rfl (fun hg_1_2 => ?_) (fun hg_1_2 => ?_)
 ·have hg_1_2' := hg_1_2
  try simp only [bs] at hg_1_2'
  refine AK.pass rfl rfl (hg_1_2) rfl ?_
  refine AK.pass rfl rfl (hg_1_2) rfl ?_
  refine AK.pass rfl rfl (hg_1_2) rfl ?_
  refine AK.pass rfl rfl (hg_1_2) rfl ?_
  refine .v (.pickT rfl (hg_1_2) rfl) (.nt hK3 ?_)
  refine AK.cond_t rfl (rfl) ?_
  refine .sr fun _ hK4 => ?_
  refine .as rfl (.nt hK4 (.ret (.then_ret ?_)))
  refine AK.ret1 rfl rfl (fun w hw => ⟨_, _, _, ?_, rfl, Ret.of (hw.pick [0] (by decide) rfl rfl)⟩)
  refine ⟨false, left, rfl, rfl, hle, rfl, ?_⟩
  cases d with
  | zero => rfl
  | succ d => rw [fitsE, if_pos (by omega)]; rfl
 ·have hg_1_2' := hg_1_2
  try simp only [bs] at hg_1_2'
  refine AK.val _ (Yl.move rfl) ⟨_, rfl, gB hg_1_2⟩ rfl ?_
  refine AK.val _ (Yl.nilCheck rfl) ⟨_, rfl, gB hg_1_2⟩ rfl ?_
  refine AK.val _ (Yl.loadBox on3 rfl bsp rfl) ⟨_, rfl, gB hg_1_2⟩ rfl ?_
  refine AK.val _ (Yl.eql rfl rfl) ⟨_, rfl, gB hg_1_2⟩ rfl ?_
  refine .v (.pickF rfl (hg_1_2) rfl) (.nt hK3 ?_)
  refine AK.condD rfl (fun hc0 => ?_) (fun hc0 => ?_)
  ·refine .sr fun _ hK5 => ?_
   refine .as rfl (.nt hK5 (.ret (.then_ret ?_)))
   refine AK.ret1 rfl rfl (fun w hw => ⟨_, _, _, ?_, rfl, Ret.of (hw.pick [0] (by decide) rfl rfl)⟩)
   refine ⟨false, left, rfl, rfl, hle, rfl, ?_⟩
   cases d with
   | zero => rfl
   | succ d => rw [fitsE, if_pos (by omega)]; rfl
  ·obtain ⟨d', rfl⟩ : ∃ d', d = d' + 1 := ⟨d - 1, by omega⟩
   have ihd := ih d' rfl
   refine .skip ?_
   refine AK.then_ (hK2 _ ?_)
   refine .sr fun _ hK6 => ?_
   refine .mv rfl (.v (.nilCheck rfl) (.v (.loadBox on3 rfl bsp rfl) ?_))
   refine .v (.subE (((left - 1 : Nat) : Int)) rfl rfl (by omega) (by omega)) ?_
   refine .v (.nilCheck rfl) ?_
   refine AK.storeBox 0 (cs' := [.int .i64 ((left - 1 : Nat) : Int)]) rfl sz3 rfl rfl rfl rfl oneP (leb rfl) rfl trivial ?_
   refine .nt hK6 ?_
   refine .seq fun _ hK7 => ?_
   refine .sr fun _ hK8 => ?_
   refine .v (.fieldAddr fd65_2 rfl) (.v (.loadBox on63 rfl bsp rfl) (.v (.lenR sl63 rfl rdp) (.mv rfl (.nt hK8 (.block ?_)))))
   refine AK.loopK (X := Nat × Nat) [(1, _), (2, _), (23, _), (24, _)] (fun x => [(25, .int .i64 (x.1 : Int))]) (fun x => [box lb 3 1 [.int .i64 (x.2 : Int)], box bx3 65 3 [.int .i64 e.op, .int .i64 e.lt, s]]) (fun x => x.1 ≤ e.kids.length ∧ x.2 ≤ 400 ∧ (e.kids.take x.1).foldlM (fun l k => fitsE d' k l) (left - 1) = some x.2) (fun x => e.kids.length - x.1) ((0, left - 1)) slr ?_ ?_ ?_ ?_
   ·exact ⟨Nat.zero_le _, by dsimp only; omega, by simp⟩
   ·exact slr
   ·exact fun w hw => hw
   ·intro x hg0 _ hK9
    refine .sr fun _ hK10 => ?_
    refine .v (.lss rfl rfl) (.nt hK10 ?_)
    refine .seq fun _ hK11 => ?_
    refine AK.condD rfl (fun hc1 => ?_) (fun hc1 => ?_)
    ·have sk := (hk x.1 (by omega)).sl
     refine .skip ?_
     refine AK.then_ (hK11 _ ?_)
     refine .seq fun _ hK12 => ?_
     refine .block ?_
     refine .sr fun _ hK13 => ?_
     first | refine .v (.iN sl63 rfl rfl) ?_ | refine .v (.iK sl63 rfl rfl) ?_
     refine .v (.loadE ag65 rfl rdp (by assumption) rfl (by omega)) ?_
     refine AK.alloc el65 rfl rfl trivial rfl (fun bx8 => ?_)
     refine AK.storeBox 2 (us := [.int .i64 (e.kids.getD x.1 default).op, .int .i64 (e.kids.getD x.1 default).lt, ss.getD x.1 undef]) (cs' := [.int .i64 (e.kids.getD x.1 default).op, .int .i64 (e.kids.getD x.1 default).lt, ss.getD x.1 undef]) rfl sz65 rfl rfl rfl rfl oneP (leb rfl) rfl trivial ?_
     refine .nt hK13 ?_
     refine .sr fun _ hK14 => ?_
     refine .v (.loadBoxG ag65 rfl bsp rfl rfl) (.mv rfl ?_)
     refine .v (.subE ((d' : Int)) rfl rfl (by omega) (by omega)) ?_
     refine .mv rfl ?_
     refine AK.callN 0 rfl co117 rfl (fun w Fs hw hh hfr hal => ihd w (Fs 0) lb _ _ _ (hh.at_ 0 _ rfl) hg0.2.1 (by omega) ((hk x.1 (by omega)).atN hfr hal 0)) trivial rfl ?_
     rintro r A o ⟨b, l2, rfl, rfl, h2, rfl, hf⟩
     refine .v (.not rfl) (.nt hK14 ?_)
     refine AK.condB rfl (fun hc2 => ?_) (fun hc2 => ?_)
     ·refine .sr fun _ hK15 => ?_
      refine .as rfl (.nt hK15 (.ret (.block_ret (.then_ret (.then_ret (.block_ret (.then_ret ?_)))))))
      refine AK.ret1 rfl rfl (fun w hw => ⟨_, _, _, ?_, rfl, Ret.of (hw.pick [0] (by decide) rfl rfl)⟩)
      cases b with
      | true => cases hc2
      | false =>
       refine ⟨false, l2, rfl, rfl, h2, rfl, ?_⟩
       rw [fitsE, if_neg (by omega), foldlM_none hg0.2.2 (by omega) hf]; rfl
     ·refine .skip (.block_normal ?_)
      refine AK.then_ (hK12 _ ?_)
      refine AK.region ?_
      refine .v (.add rfl rfl (by omega)) ?_
      refine .mv rfl (.nil ?_)
      refine AK.then_ (hK9 _ _ ((x.1 + 1, l2)) ⟨by dsimp only; omega, h2, foldlM_some hg0.2.2 (by omega) (by cases b with | true => exact hf | false => cases hc2)⟩ (by dsimp only; omega) (slr) (fun w hw => hw.pick [0, 1] (by decide) rfl rfl))
    ·refine .exit (.then_exit (.then_exit (.block_exit ?_)))
     refine AK.then_ (hK7 _ ?_)
     refine .sr fun _ hK16 => ?_
     refine .as rfl (.nt hK16 (.ret ?_))
     refine AK.ret1 rfl rfl (fun w hw => ⟨_, _, _, ?_, rfl, Ret.of (hw.pick [0] (by decide) rfl rfl)⟩)
     have hfull := hg0.2.2
     rw [List.take_of_length_le (by omega)] at hfull
     refine ⟨true, x.2, rfl, rfl, hg0.2.1, rfl, ?_⟩
     rw [fitsE, if_neg (by omega), hfull]; rfl

end Go.Proofs.YtdnhiinakhmhgaaGreatDoor

namespace Go.Proofs.YtdnhiinakhmhgaaGreatDoor
open Go.Sx Go.RowKit
theorem s_fits (d : Nat) : FitsS d := by
  induction d with
  | zero => intro w F lb e s left hA hle hd h; exact s_fits_step 0 (fun d' hd' => by omega) w F lb e s left hA hle hd h
  | succ d ih => intro w F lb e s left hA hle hd h; exact s_fits_step (d + 1) (fun d' hd' => by obtain rfl : d' = d := (by omega); exact ih) w F lb e s left hA hle hd h
theorem s_within (w : World) (e : Ex) (s : Value) (h : RdK (cellR (fun _ => False) w) s e.kids) : CallS Tryz.prog 93 [.agg #[.int .i64 e.op, .int .i64 e.lt, s]] w (fun r o => r = .bool (fitsE 40 e 400).isSome ∧ o = []) := by
 refine spec_of Tryz.func93 rfl (leb rfl) ?_
 refine .sr fun _ hK1 => ?_
 refine AK.box_ (E := 65) (cs := [.int .i64 e.op, .int .i64 e.lt, s]) rfl rfl rfl trivial rfl (fun bx1 => ?_)
 refine .as rfl (.nt hK1 ?_)
 refine .sr fun _ hK2 => ?_
 refine AK.alloc el3 rfl rfl trivial rfl (fun bx3 => ?_)
 refine AK.storeBox 1 (cs' := [.int .i64 ((400 : Nat) : Int)]) rfl sz3 rfl rfl rfl rfl oneP (leb rfl) rfl trivial ?_
 refine .nt hK2 ?_
 refine .sr fun _ hK3 => ?_
 refine .v (.loadBoxG ag65 rfl bsp rfl rfl) ?_
 refine AK.callN 1 rfl co117 rfl (fun w Fs hw hh hfr hal => s_fits 40 w (Fs 1) bx3 e s 400 (hh.at_ 1 _ rfl) (by omega) (by omega) (h.atN hfr hal 1)) trivial rfl ?_
 rintro r A o ⟨b, l2, rfl, rfl, _, rfl, hf⟩
 refine .as rfl (.nt hK3 (.ret ?_))
 refine AK.ret1 rfl rfl (fun w hw => ⟨_, _, ?_, rfl, Ret.of (hw.pick [] (by decide) rfl rfl)⟩)
 rw [hf]
 refine ⟨congrArg Value.bool ?_, rfl⟩
 cases b <;> rfl

def WfS (n : Int) (e : Ex) : Prop := ∀ (w : World) (s : Value) (h : RdK (cellR (fun _ => False) w) s e.kids), CallS Tryz.prog 94 [.agg #[.int .i64 e.op, .int .i64 e.lt, s], .int .i64 n] w (fun r o => r = .bool (wfE n e) ∧ o = [])
set_option maxHeartbeats 1000000 in
theorem s_wf_step (n : Int) (e : Ex) (ih : ∀ i, i < e.kids.length → WfS n (e.kids.getD i default)) (w : World) (s : Value) (h : RdK (cellR (fun _ => False) w) s e.kids) : CallS Tryz.prog 94 [.agg #[.int .i64 e.op, .int .i64 e.lt, s], .int .i64 n] w (fun r o => r = .bool (wfE n e) ∧ o = []) := by
 obtain ⟨ss, hl, hx, hk⟩ := h.inv
 have hr := hx.rd
 have hm := hr.le
 refine spec_of Tryz.func94 rfl (leb rfl) ?_
 refine .sr fun _ hK1 => ?_
 refine AK.box_ (E := 65) (cs := [.int .i64 e.op, .int .i64 e.lt, s]) rfl rfl rfl trivial rfl (fun bx2 => ?_)
 refine .as rfl (.nt hK1 ?_)
 refine .seq fun _ hK2 => ?_
 refine .sr fun _ hK3 => ?_
 refine .v (.fieldAddr fd65_0 rfl) (.v (.loadBox on3 rfl bsp rfl) (.v (.eql rfl rfl) (.nt hK3 ?_)))
 refine AK.condD rfl (fun hc0 => ?_) (fun hc0 => ?_)
 ·refine .sr fun _ hK4 => ?_
  refine .v (.fieldAddr fd65_2 rfl) (.v (.loadBox on63 rfl bsp rfl) (.v (.lenR sl63 rfl rdp) (.v (.eql rfl rfl) (.mv rfl ?_))))
  refine AK.splitB (g := 14) rfl (fun hg_2_4 => ?_) (fun hg_2_4 => ?_)
  ·have hg_2_4' := hg_2_4
   try simp only [bs] at hg_2_4'
   refine AK.val _ (Yl.fieldAddr fd65_1 rfl) ⟨_, rfl, gB hg_2_4⟩ rfl ?_
   refine AK.val _ (Yl.loadBox on3 rfl bsp rfl) ⟨_, rfl, gB hg_2_4⟩ rfl ?_
   refine AK.val _ (Yl.geq rfl rfl) ⟨_, rfl, gB hg_2_4⟩ rfl ?_
   refine .v (.pickT rfl (hg_2_4) rfl) (.mv rfl ?_)
   refine AK.splitB (g := 19) rfl (fun hg_2_9 => ?_) (fun hg_2_9 => ?_)
   ·have hg_2_9' := hg_2_9
    try simp only [bs] at hg_2_9'
    refine AK.val _ (Yl.fieldAddr fd65_1 rfl) ⟨_, rfl, gB hg_2_9⟩ rfl ?_
    refine AK.val _ (Yl.loadBox on3 rfl bsp rfl) ⟨_, rfl, gB hg_2_9⟩ rfl ?_
    refine AK.val _ (Yl.move rfl) ⟨_, rfl, gB hg_2_9⟩ rfl ?_
    refine AK.val _ (Yl.lss rfl rfl) ⟨_, rfl, gB hg_2_9⟩ rfl ?_
    refine .v (.pickT rfl (hg_2_9) rfl) (.as rfl (.nt hK4 (.ret (.then_ret ?_))))
    refine AK.ret1 rfl rfl (fun w hw => ⟨_, _, ?_, rfl, Ret.of (hw.pick [] (by decide) rfl rfl)⟩)
    refine ⟨congrArg Value.bool ?_, rfl⟩
    rw [wfE_eq]
    clear hk hr h hx ih hl hw
    generalize e.kids.length = m at *
    generalize e.kids.all (wfE n) = b at *
    first | (simp_all; done) | grind
   ·have hg_2_9' := hg_2_9
    try simp only [bs] at hg_2_9'
    refine AK.pass rfl rfl (hg_2_9) rfl ?_
    refine AK.pass rfl rfl (hg_2_9) rfl ?_
    refine AK.pass rfl rfl (hg_2_9) rfl ?_
    refine AK.pass rfl rfl (hg_2_9) rfl ?_
    refine .v (.pickF rfl (hg_2_9) rfl) (.as rfl (.nt hK4 (.ret (.then_ret ?_))))
    refine AK.ret1 rfl rfl (fun w hw => ⟨_, _, ?_, rfl, Ret.of (hw.pick [] (by decide) rfl rfl)⟩)
    refine ⟨congrArg Value.bool ?_, rfl⟩
    rw [wfE_eq]
    clear hk hr h hx ih hl hw
    generalize e.kids.length = m at *
    generalize e.kids.all (wfE n) = b at *
    first | (simp_all; done) | grind
  ·have hg_2_4' := hg_2_4
   try simp only [bs] at hg_2_4'
   refine AK.pass rfl rfl (hg_2_4) rfl ?_
   refine AK.pass rfl rfl (hg_2_4) rfl ?_
   refine AK.pass rfl rfl (hg_2_4) rfl ?_
   refine .v (.pickF rfl (hg_2_4) rfl) (.mv rfl ?_)
   refine AK.pass rfl rfl rfl rfl ?_
   refine AK.pass rfl rfl rfl rfl ?_
   refine AK.pass rfl rfl rfl rfl ?_
   refine AK.pass rfl rfl rfl rfl ?_
   refine .v (.pickF rfl (rfl) rfl) (.as rfl (.nt hK4 (.ret (.then_ret ?_))))
   refine AK.ret1 rfl rfl (fun w hw => ⟨_, _, ?_, rfl, Ret.of (hw.pick [] (by decide) rfl rfl)⟩)
   refine ⟨congrArg Value.bool ?_, rfl⟩
   rw [wfE_eq]
   clear hk hr h hx ih hl hw
   generalize e.kids.length = m at *
   generalize e.kids.all (wfE n) = b at *
   first | (simp_all; done) | grind
 ·refine .skip ?_
  refine AK.then_ (hK2 _ ?_)
  refine .seq fun _ hK5 => ?_
  refine .sr fun _ hK6 => ?_
  refine .v (.fieldAddr fd65_1 rfl) (.v (.loadBox on3 rfl bsp rfl) (.v (.neq rfl rfl) (.nt hK6 ?_)))
  refine AK.condNe rfl (fun hc1 => ?_) (fun hc1 => ?_)
  ·refine .sr fun _ hK7 => ?_
   refine .as rfl (.nt hK7 (.ret (.then_ret ?_)))
   refine AK.ret1 rfl rfl (fun w hw => ⟨_, _, ?_, rfl, Ret.of (hw.pick [] (by decide) rfl rfl)⟩)
   refine ⟨congrArg Value.bool ?_, rfl⟩
   rw [wfE_eq]
   clear hk hr h hx ih hl hw
   generalize e.kids.length = m at *
   generalize e.kids.all (wfE n) = b at *
   first | (simp_all; done) | grind
  ·refine .skip ?_
   refine AK.then_ (hK5 _ ?_)
   refine .seq fun _ hK8 => ?_
   refine .sr fun _ hK9 => ?_
   refine .v (.fieldAddr fd65_0 rfl) (.v (.loadBox on3 rfl bsp rfl) (.nt hK9 (.block ?_)))
   refine .seq fun _ hK10 => ?_
   refine .sr fun _ hK11 => ?_
   refine .v (.eql rfl rfl) (.as rfl (.nt hK11 ?_))
   refine AK.condD rfl (fun hc2 => ?_) (fun hc2 => ?_)
   ·refine .skip ?_
    refine AK.then_ (hK10 _ ?_)
    refine AK.cond_t rfl (decide_eq_true hc2) ?_
    refine .sr fun _ hK12 => ?_
    refine .v (.fieldAddr fd65_2 rfl) (.v (.loadBox on63 rfl bsp rfl) (.v (.lenR sl63 rfl rdp) (.v (.eql rfl rfl) (.as rfl (.nt hK12 (.ret (.block_ret (.then_ret ?_))))))))
    refine AK.ret1 rfl rfl (fun w hw => ⟨_, _, ?_, rfl, Ret.of (hw.pick [] (by decide) rfl rfl)⟩)
    refine ⟨congrArg Value.bool ?_, rfl⟩
    rw [wfE_eq]
    clear hk hr h hx ih hl hw
    generalize e.kids.length = m at *
    generalize e.kids.all (wfE n) = b at *
    first | (simp_all; done) | grind
   ·refine AK.region ?_
    refine .v (.eql rfl rfl) (.as rfl (.nt hK10 ?_))
    refine AK.condD rfl (fun hc3 => ?_) (fun hc3 => ?_)
    ·refine .sr fun _ hK13 => ?_
     refine .v (.fieldAddr fd65_2 rfl) (.v (.loadBox on63 rfl bsp rfl) (.v (.lenR sl63 rfl rdp) (.v (.eql rfl rfl) (.as rfl (.nt hK13 (.ret (.block_ret (.then_ret ?_))))))))
     refine AK.ret1 rfl rfl (fun w hw => ⟨_, _, ?_, rfl, Ret.of (hw.pick [] (by decide) rfl rfl)⟩)
     refine ⟨congrArg Value.bool ?_, rfl⟩
     rw [wfE_eq]
     clear hk hr h hx ih hl hw
     generalize e.kids.length = m at *
     generalize e.kids.all (wfE n) = b at *
     first | (simp_all; done) | grind
    ·refine .seq fun _ hK14 => ?_
     refine .sr fun _ hK15 => ?_
     refine .v (.eql rfl rfl) (.as rfl (.nt hK15 ?_))
     refine AK.condD rfl (fun hc4 => ?_) (fun hc4 => ?_)
     ·refine .skip ?_
      refine AK.then_ (hK14 _ ?_)
      refine AK.cond_t rfl (decide_eq_true hc4) ?_
      refine .sr fun _ hK16 => ?_
      refine .v (.fieldAddr fd65_2 rfl) (.v (.loadBox on63 rfl bsp rfl) (.v (.lenR sl63 rfl rdp) (.v (.lss rfl rfl) (.nt hK16 ?_))))
      refine AK.condD rfl (fun hc7 => ?_) (fun hc7 => ?_)
      ·refine .sr fun _ hK17 => ?_
       refine .as rfl (.nt hK17 (.ret (.block_ret (.then_ret ?_))))
       refine AK.ret1 rfl rfl (fun w hw => ⟨_, _, ?_, rfl, Ret.of (hw.pick [] (by decide) rfl rfl)⟩)
       refine ⟨congrArg Value.bool ?_, rfl⟩
       rw [wfE_eq]
       clear hk hr h hx ih hl hw
       generalize e.kids.length = m at *
       generalize e.kids.all (wfE n) = b at *
       first | (simp_all; done) | grind
      ·refine .skip (.block_normal ?_)
       refine AK.then_ (hK8 _ ?_)
       refine .seq fun _ hK18 => ?_
       refine .sr fun _ hK19 => ?_
       refine .v (.fieldAddr fd65_2 rfl) (.v (.loadBox on63 rfl bsp rfl) (.v (.lenR sl63 rfl rdp) (.mv rfl (.nt hK19 (.block ?_)))))
       refine AK.loopK (X := Nat) [(1, _), (53, _), (54, _)] (fun k => [(55, .int .i64 (k : Int))]) (fun k => [box bx2 65 3 [.int .i64 e.op, .int .i64 e.lt, s]]) (fun k => k ≤ e.kids.length ∧ ∀ i, i < k → wfE n (e.kids.getD i default) = true) (fun k => e.kids.length - k) (0) slr ?_ ?_ ?_ ?_
       ·exact ⟨Nat.zero_le _, fun i hi => (by omega)⟩
       ·exact slr
       ·exact fun w hw => hw
       ·intro k hg0 _ hK20
        refine .sr fun _ hK21 => ?_
        refine .v (.lss rfl rfl) (.nt hK21 ?_)
        refine .seq fun _ hK22 => ?_
        refine AK.condD rfl (fun hc11 => ?_) (fun hc11 => ?_)
        ·have sk := (hk k (by omega)).sl
         refine .skip ?_
         refine AK.then_ (hK22 _ ?_)
         refine .seq fun _ hK23 => ?_
         refine .block ?_
         refine .sr fun _ hK24 => ?_
         first | refine .v (.iN sl63 rfl rfl) ?_ | refine .v (.iK sl63 rfl rfl) ?_
         refine .v (.loadE ag65 rfl rdp (by assumption) rfl (by omega)) ?_
         refine AK.alloc el65 rfl rfl trivial rfl (fun bx6 => ?_)
         refine AK.storeBox 1 (us := [.int .i64 (e.kids.getD k default).op, .int .i64 (e.kids.getD k default).lt, ss.getD k undef]) (cs' := [.int .i64 (e.kids.getD k default).op, .int .i64 (e.kids.getD k default).lt, ss.getD k undef]) rfl sz65 rfl rfl rfl rfl oneP (leb rfl) rfl trivial ?_
         refine .nt hK24 ?_
         refine .sr fun _ hK25 => ?_
         refine .v (.loadBoxG ag65 rfl bsp rfl rfl) (.mv rfl ?_)
         refine AK.call co94 rfl (fun w hw => ih k (by omega) w _ ((hk k (by omega)).at hw)) trivial rfl ?_
         rintro r o ⟨rfl, rfl⟩
         refine .v (.not rfl) (.nt hK25 ?_)
         refine AK.condB rfl (fun hc12 => ?_) (fun hc12 => ?_)
         ·refine .sr fun _ hK26 => ?_
          refine .as rfl (.nt hK26 (.ret (.block_ret (.then_ret (.then_ret (.block_ret (.then_ret ?_)))))))
          refine AK.ret1 rfl rfl (fun w hw => ⟨_, _, ?_, rfl, Ret.of (hw.pick [] (by decide) rfl rfl)⟩)
          refine ⟨congrArg Value.bool ?_, rfl⟩
          rw [wfE_eq, all_false (k := k) (by omega) (by simpa using hc12)]
          clear hk hr h hx ih hl hw hg0 hc11 hc12
          generalize e.kids.length = m at *
          first | (simp_all; done) | grind
         ·refine .skip (.block_normal ?_)
          refine AK.then_ (hK23 _ ?_)
          refine AK.region ?_
          refine .v (.add rfl rfl (by omega)) ?_
          refine .mv rfl (.nil ?_)
          refine AK.then_ (hK20 _ _ (k + 1) ⟨by omega, fun i hi => by rcases Nat.lt_or_ge i k with hik | hik; exact hg0.2 i hik; obtain rfl : i = k := (by omega); simpa using hc12⟩ (by omega) (slr) (fun w hw => hw.pick [0] (by decide) rfl rfl))
        ·refine .exit (.then_exit (.then_exit (.block_exit ?_)))
         refine AK.then_ (hK18 _ ?_)
         refine .sr fun _ hK27 => ?_
         refine .as rfl (.nt hK27 (.ret ?_))
         refine AK.ret1 rfl rfl (fun w hw => ⟨_, _, ?_, rfl, Ret.of (hw.pick [] (by decide) rfl rfl)⟩)
         refine ⟨congrArg Value.bool ?_, rfl⟩
         have ha := all_true (p := wfE n) (ks := e.kids) (fun i hi => hg0.2 i (by omega))
         rw [wfE_eq, ha]
         clear hk hr h hx ih hl hg0 hw hc11 ha
         generalize e.kids.length = m at *
         first | (simp_all; done) | grind
     ·refine .sr fun _ hK28 => ?_
      refine .v (.eql rfl rfl) (.as rfl (.nt hK28 ?_))
      refine AK.condD rfl (fun hc5 => ?_) (fun hc5 => ?_)
      ·refine .skip ?_
       refine AK.then_ (hK14 _ ?_)
       refine AK.cond_t rfl (decide_eq_true hc5) ?_
       refine .sr fun _ hK29 => ?_
       refine .v (.fieldAddr fd65_2 rfl) (.v (.loadBox on63 rfl bsp rfl) (.v (.lenR sl63 rfl rdp) (.v (.lss rfl rfl) (.nt hK29 ?_))))
       refine AK.condD rfl (fun hc7 => ?_) (fun hc7 => ?_)
       ·refine .sr fun _ hK30 => ?_
        refine .as rfl (.nt hK30 (.ret (.block_ret (.then_ret ?_))))
        refine AK.ret1 rfl rfl (fun w hw => ⟨_, _, ?_, rfl, Ret.of (hw.pick [] (by decide) rfl rfl)⟩)
        refine ⟨congrArg Value.bool ?_, rfl⟩
        rw [wfE_eq]
        clear hk hr h hx ih hl hw
        generalize e.kids.length = m at *
        generalize e.kids.all (wfE n) = b at *
        first | (simp_all; done) | grind
       ·refine .skip (.block_normal ?_)
        refine AK.then_ (hK8 _ ?_)
        refine .seq fun _ hK31 => ?_
        refine .sr fun _ hK32 => ?_
        refine .v (.fieldAddr fd65_2 rfl) (.v (.loadBox on63 rfl bsp rfl) (.v (.lenR sl63 rfl rdp) (.mv rfl (.nt hK32 (.block ?_)))))
        refine AK.loopK (X := Nat) [(1, _), (53, _), (54, _)] (fun k => [(55, .int .i64 (k : Int))]) (fun k => [box bx2 65 3 [.int .i64 e.op, .int .i64 e.lt, s]]) (fun k => k ≤ e.kids.length ∧ ∀ i, i < k → wfE n (e.kids.getD i default) = true) (fun k => e.kids.length - k) (0) slr ?_ ?_ ?_ ?_
        ·exact ⟨Nat.zero_le _, fun i hi => (by omega)⟩
        ·exact slr
        ·exact fun w hw => hw
        ·intro k hg0 _ hK33
         refine .sr fun _ hK34 => ?_
         refine .v (.lss rfl rfl) (.nt hK34 ?_)
         refine .seq fun _ hK35 => ?_
         refine AK.condD rfl (fun hc11 => ?_) (fun hc11 => ?_)
         ·have sk := (hk k (by omega)).sl
          refine .skip ?_
          refine AK.then_ (hK35 _ ?_)
          refine .seq fun _ hK36 => ?_
          refine .block ?_
          refine .sr fun _ hK37 => ?_
          first | refine .v (.iN sl63 rfl rfl) ?_ | refine .v (.iK sl63 rfl rfl) ?_
          refine .v (.loadE ag65 rfl rdp (by assumption) rfl (by omega)) ?_
          refine AK.alloc el65 rfl rfl trivial rfl (fun bx6 => ?_)
          refine AK.storeBox 1 (us := [.int .i64 (e.kids.getD k default).op, .int .i64 (e.kids.getD k default).lt, ss.getD k undef]) (cs' := [.int .i64 (e.kids.getD k default).op, .int .i64 (e.kids.getD k default).lt, ss.getD k undef]) rfl sz65 rfl rfl rfl rfl oneP (leb rfl) rfl trivial ?_
          refine .nt hK37 ?_
          refine .sr fun _ hK38 => ?_
          refine .v (.loadBoxG ag65 rfl bsp rfl rfl) (.mv rfl ?_)
          refine AK.call co94 rfl (fun w hw => ih k (by omega) w _ ((hk k (by omega)).at hw)) trivial rfl ?_
          rintro r o ⟨rfl, rfl⟩
          refine .v (.not rfl) (.nt hK38 ?_)
          refine AK.condB rfl (fun hc12 => ?_) (fun hc12 => ?_)
          ·refine .sr fun _ hK39 => ?_
           refine .as rfl (.nt hK39 (.ret (.block_ret (.then_ret (.then_ret (.block_ret (.then_ret ?_)))))))
           refine AK.ret1 rfl rfl (fun w hw => ⟨_, _, ?_, rfl, Ret.of (hw.pick [] (by decide) rfl rfl)⟩)
           refine ⟨congrArg Value.bool ?_, rfl⟩
           rw [wfE_eq, all_false (k := k) (by omega) (by simpa using hc12)]
           clear hk hr h hx ih hl hw hg0 hc11 hc12
           generalize e.kids.length = m at *
           first | (simp_all; done) | grind
          ·refine .skip (.block_normal ?_)
           refine AK.then_ (hK36 _ ?_)
           refine AK.region ?_
           refine .v (.add rfl rfl (by omega)) ?_
           refine .mv rfl (.nil ?_)
           refine AK.then_ (hK33 _ _ (k + 1) ⟨by omega, fun i hi => by rcases Nat.lt_or_ge i k with hik | hik; exact hg0.2 i hik; obtain rfl : i = k := (by omega); simpa using hc12⟩ (by omega) (slr) (fun w hw => hw.pick [0] (by decide) rfl rfl))
         ·refine .exit (.then_exit (.then_exit (.block_exit ?_)))
          refine AK.then_ (hK31 _ ?_)
          refine .sr fun _ hK40 => ?_
          refine .as rfl (.nt hK40 (.ret ?_))
          refine AK.ret1 rfl rfl (fun w hw => ⟨_, _, ?_, rfl, Ret.of (hw.pick [] (by decide) rfl rfl)⟩)
          refine ⟨congrArg Value.bool ?_, rfl⟩
          have ha := all_true (p := wfE n) (ks := e.kids) (fun i hi => hg0.2 i (by omega))
          rw [wfE_eq, ha]
          clear hk hr h hx ih hl hg0 hw hc11 ha
          generalize e.kids.length = m at *
          first | (simp_all; done) | grind
      ·refine AK.region ?_
       refine .v (.eql rfl rfl) (.as rfl (.nt hK14 ?_))
       refine AK.condD rfl (fun hc6 => ?_) (fun hc6 => ?_)
       ·refine .sr fun _ hK41 => ?_
        refine .v (.fieldAddr fd65_2 rfl) (.v (.loadBox on63 rfl bsp rfl) (.v (.lenR sl63 rfl rdp) (.v (.lss rfl rfl) (.nt hK41 ?_))))
        refine AK.condD rfl (fun hc7 => ?_) (fun hc7 => ?_)
        ·refine .sr fun _ hK42 => ?_
         refine .as rfl (.nt hK42 (.ret (.block_ret (.then_ret ?_))))
         refine AK.ret1 rfl rfl (fun w hw => ⟨_, _, ?_, rfl, Ret.of (hw.pick [] (by decide) rfl rfl)⟩)
         refine ⟨congrArg Value.bool ?_, rfl⟩
         rw [wfE_eq]
         clear hk hr h hx ih hl hw
         generalize e.kids.length = m at *
         generalize e.kids.all (wfE n) = b at *
         first | (simp_all; done) | grind
        ·refine .skip (.block_normal ?_)
         refine AK.then_ (hK8 _ ?_)
         refine .seq fun _ hK43 => ?_
         refine .sr fun _ hK44 => ?_
         refine .v (.fieldAddr fd65_2 rfl) (.v (.loadBox on63 rfl bsp rfl) (.v (.lenR sl63 rfl rdp) (.mv rfl (.nt hK44 (.block ?_)))))
         refine AK.loopK (X := Nat) [(1, _), (53, _), (54, _)] (fun k => [(55, .int .i64 (k : Int))]) (fun k => [box bx2 65 3 [.int .i64 e.op, .int .i64 e.lt, s]]) (fun k => k ≤ e.kids.length ∧ ∀ i, i < k → wfE n (e.kids.getD i default) = true) (fun k => e.kids.length - k) (0) slr ?_ ?_ ?_ ?_
         ·exact ⟨Nat.zero_le _, fun i hi => (by omega)⟩
         ·exact slr
         ·exact fun w hw => hw
         ·intro k hg0 _ hK45
          refine .sr fun _ hK46 => ?_
          refine .v (.lss rfl rfl) (.nt hK46 ?_)
          refine .seq fun _ hK47 => ?_
          refine AK.condD rfl (fun hc11 => ?_) (fun hc11 => ?_)
          ·have sk := (hk k (by omega)).sl
           refine .skip ?_
           refine AK.then_ (hK47 _ ?_)
           refine .seq fun _ hK48 => ?_
           refine .block ?_
           refine .sr fun _ hK49 => ?_
           first | refine .v (.iN sl63 rfl rfl) ?_ | refine .v (.iK sl63 rfl rfl) ?_
           refine .v (.loadE ag65 rfl rdp (by assumption) rfl (by omega)) ?_
           refine AK.alloc el65 rfl rfl trivial rfl (fun bx6 => ?_)
           refine AK.storeBox 1 (us := [.int .i64 (e.kids.getD k default).op, .int .i64 (e.kids.getD k default).lt, ss.getD k undef]) (cs' := [.int .i64 (e.kids.getD k default).op, .int .i64 (e.kids.getD k default).lt, ss.getD k undef]) rfl sz65 rfl rfl rfl rfl oneP (leb rfl) rfl trivial ?_
           refine .nt hK49 ?_
           refine .sr fun _ hK50 => ?_
           refine .v (.loadBoxG ag65 rfl bsp rfl rfl) (.mv rfl ?_)
           refine AK.call co94 rfl (fun w hw => ih k (by omega) w _ ((hk k (by omega)).at hw)) trivial rfl ?_
           rintro r o ⟨rfl, rfl⟩
           refine .v (.not rfl) (.nt hK50 ?_)
           refine AK.condB rfl (fun hc12 => ?_) (fun hc12 => ?_)
           ·refine .sr fun _ hK51 => ?_
            refine .as rfl (.nt hK51 (.ret (.block_ret (.then_ret (.then_ret (.block_ret (.then_ret ?_)))))))
            refine AK.ret1 rfl rfl (fun w hw => ⟨_, _, ?_, rfl, Ret.of (hw.pick [] (by decide) rfl rfl)⟩)
            refine ⟨congrArg Value.bool ?_, rfl⟩
            rw [wfE_eq, all_false (k := k) (by omega) (by simpa using hc12)]
            clear hk hr h hx ih hl hw hg0 hc11 hc12
            generalize e.kids.length = m at *
            first | (simp_all; done) | grind
           ·refine .skip (.block_normal ?_)
            refine AK.then_ (hK48 _ ?_)
            refine AK.region ?_
            refine .v (.add rfl rfl (by omega)) ?_
            refine .mv rfl (.nil ?_)
            refine AK.then_ (hK45 _ _ (k + 1) ⟨by omega, fun i hi => by rcases Nat.lt_or_ge i k with hik | hik; exact hg0.2 i hik; obtain rfl : i = k := (by omega); simpa using hc12⟩ (by omega) (slr) (fun w hw => hw.pick [0] (by decide) rfl rfl))
          ·refine .exit (.then_exit (.then_exit (.block_exit ?_)))
           refine AK.then_ (hK43 _ ?_)
           refine .sr fun _ hK52 => ?_
           refine .as rfl (.nt hK52 (.ret ?_))
           refine AK.ret1 rfl rfl (fun w hw => ⟨_, _, ?_, rfl, Ret.of (hw.pick [] (by decide) rfl rfl)⟩)
           refine ⟨congrArg Value.bool ?_, rfl⟩
           have ha := all_true (p := wfE n) (ks := e.kids) (fun i hi => hg0.2 i (by omega))
           rw [wfE_eq, ha]
           clear hk hr h hx ih hl hg0 hw hc11 ha
           generalize e.kids.length = m at *
           first | (simp_all; done) | grind
       ·refine .seq fun _ hK53 => ?_
        refine .sr fun _ hK54 => ?_
        refine .v (.eql rfl rfl) (.as rfl (.nt hK54 ?_))
        refine AK.condD rfl (fun hc8 => ?_) (fun hc8 => ?_)
        ·refine .skip ?_
         refine AK.then_ (hK53 _ ?_)
         refine AK.cond_t rfl (decide_eq_true hc8) ?_
         refine .sr fun _ hK55 => ?_
         refine .v (.fieldAddr fd65_2 rfl) (.v (.loadBox on63 rfl bsp rfl) (.v (.lenR sl63 rfl rdp) (.v (.neq rfl rfl) (.nt hK55 ?_))))
         refine AK.condNe rfl (fun hc10 => ?_) (fun hc10 => ?_)
         ·refine .sr fun _ hK56 => ?_
          refine .as rfl (.nt hK56 (.ret (.block_ret (.then_ret ?_))))
          refine AK.ret1 rfl rfl (fun w hw => ⟨_, _, ?_, rfl, Ret.of (hw.pick [] (by decide) rfl rfl)⟩)
          refine ⟨congrArg Value.bool ?_, rfl⟩
          rw [wfE_eq]
          clear hk hr h hx ih hl hw
          generalize e.kids.length = m at *
          generalize e.kids.all (wfE n) = b at *
          first | (simp_all; done) | grind
         ·refine .skip (.block_normal ?_)
          refine AK.then_ (hK8 _ ?_)
          refine .seq fun _ hK57 => ?_
          refine .sr fun _ hK58 => ?_
          refine .v (.fieldAddr fd65_2 rfl) (.v (.loadBox on63 rfl bsp rfl) (.v (.lenR sl63 rfl rdp) (.mv rfl (.nt hK58 (.block ?_)))))
          refine AK.loopK (X := Nat) [(1, _), (53, _), (54, _)] (fun k => [(55, .int .i64 (k : Int))]) (fun k => [box bx2 65 3 [.int .i64 e.op, .int .i64 e.lt, s]]) (fun k => k ≤ e.kids.length ∧ ∀ i, i < k → wfE n (e.kids.getD i default) = true) (fun k => e.kids.length - k) (0) slr ?_ ?_ ?_ ?_
          ·exact ⟨Nat.zero_le _, fun i hi => (by omega)⟩
          ·exact slr
          ·exact fun w hw => hw
          ·intro k hg0 _ hK59
           refine .sr fun _ hK60 => ?_
           refine .v (.lss rfl rfl) (.nt hK60 ?_)
           refine .seq fun _ hK61 => ?_
           refine AK.condD rfl (fun hc11 => ?_) (fun hc11 => ?_)
           ·have sk := (hk k (by omega)).sl
            refine .skip ?_
            refine AK.then_ (hK61 _ ?_)
            refine .seq fun _ hK62 => ?_
            refine .block ?_
            refine .sr fun _ hK63 => ?_
            first | refine .v (.iN sl63 rfl rfl) ?_ | refine .v (.iK sl63 rfl rfl) ?_
            refine .v (.loadE ag65 rfl rdp (by assumption) rfl (by omega)) ?_
            refine AK.alloc el65 rfl rfl trivial rfl (fun bx6 => ?_)
            refine AK.storeBox 1 (us := [.int .i64 (e.kids.getD k default).op, .int .i64 (e.kids.getD k default).lt, ss.getD k undef]) (cs' := [.int .i64 (e.kids.getD k default).op, .int .i64 (e.kids.getD k default).lt, ss.getD k undef]) rfl sz65 rfl rfl rfl rfl oneP (leb rfl) rfl trivial ?_
            refine .nt hK63 ?_
            refine .sr fun _ hK64 => ?_
            refine .v (.loadBoxG ag65 rfl bsp rfl rfl) (.mv rfl ?_)
            refine AK.call co94 rfl (fun w hw => ih k (by omega) w _ ((hk k (by omega)).at hw)) trivial rfl ?_
            rintro r o ⟨rfl, rfl⟩
            refine .v (.not rfl) (.nt hK64 ?_)
            refine AK.condB rfl (fun hc12 => ?_) (fun hc12 => ?_)
            ·refine .sr fun _ hK65 => ?_
             refine .as rfl (.nt hK65 (.ret (.block_ret (.then_ret (.then_ret (.block_ret (.then_ret ?_)))))))
             refine AK.ret1 rfl rfl (fun w hw => ⟨_, _, ?_, rfl, Ret.of (hw.pick [] (by decide) rfl rfl)⟩)
             refine ⟨congrArg Value.bool ?_, rfl⟩
             rw [wfE_eq, all_false (k := k) (by omega) (by simpa using hc12)]
             clear hk hr h hx ih hl hw hg0 hc11 hc12
             generalize e.kids.length = m at *
             first | (simp_all; done) | grind
            ·refine .skip (.block_normal ?_)
             refine AK.then_ (hK62 _ ?_)
             refine AK.region ?_
             refine .v (.add rfl rfl (by omega)) ?_
             refine .mv rfl (.nil ?_)
             refine AK.then_ (hK59 _ _ (k + 1) ⟨by omega, fun i hi => by rcases Nat.lt_or_ge i k with hik | hik; exact hg0.2 i hik; obtain rfl : i = k := (by omega); simpa using hc12⟩ (by omega) (slr) (fun w hw => hw.pick [0] (by decide) rfl rfl))
           ·refine .exit (.then_exit (.then_exit (.block_exit ?_)))
            refine AK.then_ (hK57 _ ?_)
            refine .sr fun _ hK66 => ?_
            refine .as rfl (.nt hK66 (.ret ?_))
            refine AK.ret1 rfl rfl (fun w hw => ⟨_, _, ?_, rfl, Ret.of (hw.pick [] (by decide) rfl rfl)⟩)
            refine ⟨congrArg Value.bool ?_, rfl⟩
            have ha := all_true (p := wfE n) (ks := e.kids) (fun i hi => hg0.2 i (by omega))
            rw [wfE_eq, ha]
            clear hk hr h hx ih hl hg0 hw hc11 ha
            generalize e.kids.length = m at *
            first | (simp_all; done) | grind
        ·refine AK.region ?_
         refine .v (.eql rfl rfl) (.as rfl (.nt hK53 ?_))
         refine AK.condD rfl (fun hc9 => ?_) (fun hc9 => ?_)
         ·refine .sr fun _ hK67 => ?_
          refine .v (.fieldAddr fd65_2 rfl) (.v (.loadBox on63 rfl bsp rfl) (.v (.lenR sl63 rfl rdp) (.v (.neq rfl rfl) (.nt hK67 ?_))))
          refine AK.condNe rfl (fun hc10 => ?_) (fun hc10 => ?_)
          ·refine .sr fun _ hK68 => ?_
           refine .as rfl (.nt hK68 (.ret (.block_ret (.then_ret ?_))))
           refine AK.ret1 rfl rfl (fun w hw => ⟨_, _, ?_, rfl, Ret.of (hw.pick [] (by decide) rfl rfl)⟩)
           refine ⟨congrArg Value.bool ?_, rfl⟩
           rw [wfE_eq]
           clear hk hr h hx ih hl hw
           generalize e.kids.length = m at *
           generalize e.kids.all (wfE n) = b at *
           first | (simp_all; done) | grind
          ·refine .skip (.block_normal ?_)
           refine AK.then_ (hK8 _ ?_)
           refine .seq fun _ hK69 => ?_
           refine .sr fun _ hK70 => ?_
           refine .v (.fieldAddr fd65_2 rfl) (.v (.loadBox on63 rfl bsp rfl) (.v (.lenR sl63 rfl rdp) (.mv rfl (.nt hK70 (.block ?_)))))
           refine AK.loopK (X := Nat) [(1, _), (53, _), (54, _)] (fun k => [(55, .int .i64 (k : Int))]) (fun k => [box bx2 65 3 [.int .i64 e.op, .int .i64 e.lt, s]]) (fun k => k ≤ e.kids.length ∧ ∀ i, i < k → wfE n (e.kids.getD i default) = true) (fun k => e.kids.length - k) (0) slr ?_ ?_ ?_ ?_
           ·exact ⟨Nat.zero_le _, fun i hi => (by omega)⟩
           ·exact slr
           ·exact fun w hw => hw
           ·intro k hg0 _ hK71
            refine .sr fun _ hK72 => ?_
            refine .v (.lss rfl rfl) (.nt hK72 ?_)
            refine .seq fun _ hK73 => ?_
            refine AK.condD rfl (fun hc11 => ?_) (fun hc11 => ?_)
            ·have sk := (hk k (by omega)).sl
             refine .skip ?_
             refine AK.then_ (hK73 _ ?_)
             refine .seq fun _ hK74 => ?_
             refine .block ?_
             refine .sr fun _ hK75 => ?_
             first | refine .v (.iN sl63 rfl rfl) ?_ | refine .v (.iK sl63 rfl rfl) ?_
             refine .v (.loadE ag65 rfl rdp (by assumption) rfl (by omega)) ?_
             refine AK.alloc el65 rfl rfl trivial rfl (fun bx6 => ?_)
             refine AK.storeBox 1 (us := [.int .i64 (e.kids.getD k default).op, .int .i64 (e.kids.getD k default).lt, ss.getD k undef]) (cs' := [.int .i64 (e.kids.getD k default).op, .int .i64 (e.kids.getD k default).lt, ss.getD k undef]) rfl sz65 rfl rfl rfl rfl oneP (leb rfl) rfl trivial ?_
             refine .nt hK75 ?_
             refine .sr fun _ hK76 => ?_
             refine .v (.loadBoxG ag65 rfl bsp rfl rfl) (.mv rfl ?_)
             refine AK.call co94 rfl (fun w hw => ih k (by omega) w _ ((hk k (by omega)).at hw)) trivial rfl ?_
             rintro r o ⟨rfl, rfl⟩
             refine .v (.not rfl) (.nt hK76 ?_)
             refine AK.condB rfl (fun hc12 => ?_) (fun hc12 => ?_)
             ·refine .sr fun _ hK77 => ?_
              refine .as rfl (.nt hK77 (.ret (.block_ret (.then_ret (.then_ret (.block_ret (.then_ret ?_)))))))
              refine AK.ret1 rfl rfl (fun w hw => ⟨_, _, ?_, rfl, Ret.of (hw.pick [] (by decide) rfl rfl)⟩)
              refine ⟨congrArg Value.bool ?_, rfl⟩
              rw [wfE_eq, all_false (k := k) (by omega) (by simpa using hc12)]
              clear hk hr h hx ih hl hw hg0 hc11 hc12
              generalize e.kids.length = m at *
              first | (simp_all; done) | grind
             ·refine .skip (.block_normal ?_)
              refine AK.then_ (hK74 _ ?_)
              refine AK.region ?_
              refine .v (.add rfl rfl (by omega)) ?_
              refine .mv rfl (.nil ?_)
              refine AK.then_ (hK71 _ _ (k + 1) ⟨by omega, fun i hi => by rcases Nat.lt_or_ge i k with hik | hik; exact hg0.2 i hik; obtain rfl : i = k := (by omega); simpa using hc12⟩ (by omega) (slr) (fun w hw => hw.pick [0] (by decide) rfl rfl))
            ·refine .exit (.then_exit (.then_exit (.block_exit ?_)))
             refine AK.then_ (hK69 _ ?_)
             refine .sr fun _ hK78 => ?_
             refine .as rfl (.nt hK78 (.ret ?_))
             refine AK.ret1 rfl rfl (fun w hw => ⟨_, _, ?_, rfl, Ret.of (hw.pick [] (by decide) rfl rfl)⟩)
             refine ⟨congrArg Value.bool ?_, rfl⟩
             have ha := all_true (p := wfE n) (ks := e.kids) (fun i hi => hg0.2 i (by omega))
             rw [wfE_eq, ha]
             clear hk hr h hx ih hl hg0 hw hc11 ha
             generalize e.kids.length = m at *
             first | (simp_all; done) | grind
         ·refine .sr fun _ hK79 => ?_
          refine .as rfl (.nt hK79 (.ret (.block_ret (.then_ret ?_))))
          refine AK.ret1 rfl rfl (fun w hw => ⟨_, _, ?_, rfl, Ret.of (hw.pick [] (by decide) rfl rfl)⟩)
          refine ⟨congrArg Value.bool ?_, rfl⟩
          rw [wfE_eq]
          clear hk hr h hx ih hl hw
          generalize e.kids.length = m at *
          generalize e.kids.all (wfE n) = b at *
          first | (simp_all; done) | grind

theorem s_wf (n : Int) (e : Ex) : WfS n e := Ex.ind (P := WfS n) (fun e ih w s h => s_wf_step n e ih w s h) e
theorem s_valid (w : World) (e : Ex) (s : Value) (n : Int) (h : RdK (cellR (fun _ => False) w) s e.kids) : CallS Tryz.prog 57 [.agg #[.int .i64 e.op, .int .i64 e.lt, s], .int .i64 n] w (fun r o => r = .int .i64 (validE e n) ∧ o = []) := by
 refine spec_of Tryz.func57 rfl (leb rfl) ?_
 refine .sr fun _ hK1 => ?_
 refine AK.box_ (E := 65) (cs := [.int .i64 e.op, .int .i64 e.lt, s]) rfl rfl rfl trivial rfl (fun bx2 => ?_)
 refine .as rfl (.nt hK1 ?_)
 refine .seq fun _ hK2 => ?_
 refine .sr fun _ hK3 => ?_
 refine .mv rfl (.v (.lss rfl rfl) (.mv rfl ?_))
 refine AK.splitB (g := 7) rfl (fun hg_1_2 => ?_) (fun hg_1_2 => ?_)
 ·have hg_1_2' := hg_1_2
  try simp only [bs] at hg_1_2'
  refine AK.pass rfl rfl (hg_1_2) rfl ?_
  refine AK.pass rfl rfl (hg_1_2) rfl ?_
  refine .v (.pickT rfl (hg_1_2) rfl) (.nt hK3 ?_)
  refine AK.cond_t rfl (rfl) ?_
  refine .sr fun _ hK4 => ?_
  refine .as rfl (.nt hK4 (.ret (.then_ret ?_)))
  refine AK.ret1 rfl rfl (fun w hw => ⟨_, _, ?_, rfl, Ret.of (hw.pick [] (by decide) rfl rfl)⟩)
  refine ⟨congrArg (Value.int .i64) ?_, rfl⟩
  unfold validE
  clear h
  first | (simp_all; done) | (simp_all <;> omega)
 ·have hg_1_2' := hg_1_2
  try simp only [bs] at hg_1_2'
  refine AK.val _ (Yl.move rfl) ⟨_, rfl, gB hg_1_2⟩ rfl ?_
  refine AK.val _ (Yl.gtr rfl rfl) ⟨_, rfl, gB hg_1_2⟩ rfl ?_
  refine .v (.pickF rfl (hg_1_2) rfl) (.nt hK3 ?_)
  refine AK.condD rfl (fun hc0 => ?_) (fun hc0 => ?_)
  ·refine .sr fun _ hK5 => ?_
   refine .as rfl (.nt hK5 (.ret (.then_ret ?_)))
   refine AK.ret1 rfl rfl (fun w hw => ⟨_, _, ?_, rfl, Ret.of (hw.pick [] (by decide) rfl rfl)⟩)
   refine ⟨congrArg (Value.int .i64) ?_, rfl⟩
   unfold validE
   clear h
   first | (simp_all; done) | (simp_all <;> omega)
  ·refine .skip ?_
   refine AK.then_ (hK2 _ ?_)
   refine .seq fun _ hK6 => ?_
   refine .sr fun _ hK7 => ?_
   refine .v (.loadBoxG ag65 rfl bsp rfl rfl) ?_
   refine AK.call co93 rfl (fun w hw => s_within w e s (h.at hw)) trivial rfl ?_
   rintro r o ⟨rfl, rfl⟩
   refine .v (.not rfl) (.nt hK7 ?_)
   refine AK.condB rfl (fun hc1 => ?_) (fun hc1 => ?_)
   ·refine .sr fun _ hK8 => ?_
    refine .as rfl (.nt hK8 (.ret (.then_ret ?_)))
    refine AK.ret1 rfl rfl (fun w hw => ⟨_, _, ?_, rfl, Ret.of (hw.pick [] (by decide) rfl rfl)⟩)
    refine ⟨congrArg (Value.int .i64) ?_, rfl⟩
    unfold validE
    clear h
    first | (simp_all; done) | (simp_all <;> omega)
   ·refine .skip ?_
    refine AK.then_ (hK6 _ ?_)
    refine .seq fun _ hK9 => ?_
    refine .sr fun _ hK10 => ?_
    refine .v (.loadBoxG ag65 rfl bsp rfl rfl) (.mv rfl ?_)
    refine AK.call co94 rfl (fun w hw => s_wf n e w s (h.at hw)) trivial rfl ?_
    rintro r o ⟨rfl, rfl⟩
    refine .v (.not rfl) (.nt hK10 ?_)
    refine AK.condB rfl (fun hc2 => ?_) (fun hc2 => ?_)
    ·refine .sr fun _ hK11 => ?_
     refine .as rfl (.nt hK11 (.ret (.then_ret ?_)))
     refine AK.ret1 rfl rfl (fun w hw => ⟨_, _, ?_, rfl, Ret.of (hw.pick [] (by decide) rfl rfl)⟩)
     refine ⟨congrArg (Value.int .i64) ?_, rfl⟩
     unfold validE
     clear h
     first | (simp_all; done) | (simp_all <;> omega)
    ·refine .skip ?_
     refine AK.then_ (hK9 _ ?_)
     refine .sr fun _ hK12 => ?_
     refine .as rfl (.nt hK12 (.ret ?_))
     refine AK.ret1 rfl rfl (fun w hw => ⟨_, _, ?_, rfl, Ret.of (hw.pick [] (by decide) rfl rfl)⟩)
     refine ⟨congrArg (Value.int .i64) ?_, rfl⟩
     unfold validE
     clear h
     first | (simp_all; done) | (simp_all <;> omega)

theorem s_val6 (w : World) (e : Ex) (s : Value) (h : RdK (cellR (fun _ => False) w) s e.kids) : CallS Tryz.prog 64 [.agg #[.int .i64 e.op, .int .i64 e.lt, s]] w (fun r o => r = .bool (decide (validE e 6 = 0)) ∧ o = []) := by
 refine spec_of Tryz.func64 rfl (leb rfl) ?_
 refine .sr fun _ hK1 => ?_
 refine AK.box_ (E := 65) (cs := [.int .i64 e.op, .int .i64 e.lt, s]) rfl rfl rfl trivial rfl (fun bx1 => ?_)
 refine .as rfl (.nt hK1 ?_)
 refine .sr fun _ hK2 => ?_
 refine .v (.loadBoxG ag65 rfl bsp rfl rfl) ?_
 refine AK.call co57 rfl (fun w hw => s_valid w e s 6 (h.at hw)) trivial rfl ?_
 rintro r o ⟨rfl, rfl⟩
 refine .v (.eql rfl rfl) (.as rfl (.nt hK2 (.ret ?_)))
 refine AK.ret1 rfl rfl (fun w hw => ⟨_, _, ?_, rfl, Ret.of (hw.pick [] (by decide) rfl rfl)⟩)
 exact ⟨rfl, rfl⟩

theorem s_index (w : World) (f : FuncId) (hco : CallOk Tryz.prog f) (p : Ex → Bool) (s : Value) (ks : List Ex) (ss : List Value) (hl : ss.length = ks.length) (hsl : ∀ i, i < ks.length → IsSl (ss.getD i undef)) (hr : Rd (fun b => ¬ (fun _ => False) b) w s 3 ks.length (xcs ks ss)) (hf : ∀ w', FrameX (fun _ => False) w w' → ∀ i, i < ks.length → CallS Tryz.prog f [.agg #[.int .i64 (ks.getD i default).op, .int .i64 (ks.getD i default).lt, ss.getD i undef]] w' (fun r o => r = .bool (p (ks.getD i default)) ∧ o = [])) : CallS Tryz.prog 157 [s, .func (.func f) #[] #[]] w (fun r o => r = .int .i64 (idxE p ks) ∧ o = []) := by
 have hm := hr.le
 refine spec_of Tryz.func157 rfl (leb rfl) ?_
 refine .sr fun _ hK1 => ?_
 refine .as rfl (.nt hK1 ?_)
 refine .seq fun _ hK2 => ?_
 refine .sr fun _ hK3 => ?_
 refine .mv rfl (.v (.lenR sl63 rfl rdp) (.mv rfl (.nt hK3 (.block ?_))))
 refine AK.loopK (X := Nat) [(0, _), (1, _), (7, _)] (fun k => [(8, .int .i64 (k : Int))]) (fun k => []) (fun k => k ≤ ks.length ∧ ∀ i, i < k → p (ks.getD i default) = false) (fun k => ks.length - k) (0) slr ?_ ?_ ?_ ?_
 ·exact ⟨Nat.zero_le _, fun i hi => (by omega)⟩
 ·exact slr
 ·exact fun w hw => hw
 ·intro k hg0 _ hK4
  refine .sr fun _ hK5 => ?_
  refine .v (.lss rfl rfl) (.nt hK5 ?_)
  refine .seq fun _ hK6 => ?_
  refine AK.condD rfl (fun hc0 => ?_) (fun hc0 => ?_)
  ·refine .skip ?_
   refine AK.then_ (hK6 _ ?_)
   refine .seq fun _ hK7 => ?_
   refine .block ?_
   refine .sr fun _ hK8 => ?_
   refine .mv rfl (.as rfl (.nt hK8 ?_))
   refine .sr fun _ hK9 => ?_
   refine .mv rfl (.mv rfl (.mv rfl ?_))
   first | refine .v (.iN sl63 rfl rfl) ?_ | refine .v (.iK sl63 rfl rfl) ?_
   refine .v (.loadE ag65 rfl rdp (by assumption) rfl (by omega)) ?_
   refine AK.callV (us := []) (cs := []) hco rfl rfl (fun w hw => hf w hw.frame k (by omega)) trivial rfl ?_
   rintro r o ⟨rfl, rfl⟩
   refine .nt hK9 ?_
   refine AK.cond rfl (fun hc1 => ?_) (fun hc1 => ?_)
   ·try simp only [bs] at hc1
    refine .sr fun _ hK10 => ?_
    refine .mv rfl (.as rfl (.nt hK10 (.ret (.block_ret (.then_ret (.then_ret (.block_ret (.then_ret ?_))))))))
    refine AK.ret1 rfl rfl (fun w hw => ⟨_, _, ?_, rfl, Ret.of (hw.pick [] (by decide) rfl rfl)⟩)
    refine ⟨congrArg (Value.int .i64) ?_, rfl⟩
    exact (idxE_some (by omega) hg0.2 (by simpa using hc1)).symm
   ·try simp only [bs] at hc1
    refine .skip (.block_normal ?_)
    refine AK.then_ (hK7 _ ?_)
    refine AK.region ?_
    refine .v (.add rfl rfl (by omega)) ?_
    refine .mv rfl (.nil ?_)
    refine AK.then_ (hK4 _ _ (k + 1) ⟨by omega, fun i hi => by rcases Nat.lt_or_ge i k with hik | hik; exact hg0.2 i hik; obtain rfl : i = k := (by omega); simpa using hc1⟩ (by omega) (slr) (fun w hw => hw))
  ·refine .exit (.then_exit (.then_exit (.block_exit ?_)))
   refine AK.then_ (hK2 _ ?_)
   refine .sr fun _ hK11 => ?_
   refine .as rfl (.nt hK11 (.ret ?_))
   refine AK.ret1 rfl rfl (fun w hw => ⟨_, _, ?_, rfl, Ret.of (hw.pick [] (by decide) rfl rfl)⟩)
   refine ⟨congrArg (Value.int .i64) ?_, rfl⟩
   exact (idxE_none fun i hi => hg0.2 i (by omega)).symm

theorem s_contains (w : World) (f : FuncId) (hco : CallOk Tryz.prog f) (p : Ex → Bool) (s : Value) (ks : List Ex) (ss : List Value) (hl : ss.length = ks.length) (hsl : ∀ i, i < ks.length → IsSl (ss.getD i undef)) (hr : Rd (fun b => ¬ (fun _ => False) b) w s 3 ks.length (xcs ks ss)) (hf : ∀ w', FrameX (fun _ => False) w w' → ∀ i, i < ks.length → CallS Tryz.prog f [.agg #[.int .i64 (ks.getD i default).op, .int .i64 (ks.getD i default).lt, ss.getD i undef]] w' (fun r o => r = .bool (p (ks.getD i default)) ∧ o = [])) : CallS Tryz.prog 123 [s, .func (.func f) #[] #[]] w (fun r o => r = .bool (ks.any p) ∧ o = []) := by
 have hm := hr.le
 refine spec_of Tryz.func123 rfl (leb rfl) ?_
 refine .sr fun _ hK1 => ?_
 refine .as rfl (.nt hK1 ?_)
 refine .sr fun _ hK2 => ?_
 refine .mv rfl (.mv rfl ?_)
 refine AK.call co157 rfl (fun w hw => s_index w f hco p s ks ss hl hsl (hr.mono fun b _ hlt => ⟨id, hw.frame.block b hlt id⟩) (fun w' hfr i hi => hf w' (hw.frame.step hfr (fun _ h _ => h)) i hi)) trivial rfl ?_
 rintro r o ⟨rfl, rfl⟩
 refine .v (.geq rfl rfl) (.as rfl (.nt hK2 (.ret ?_)))
 refine AK.ret1 rfl rfl (fun w hw => ⟨_, _, ?_, rfl, Ret.of (hw.pick [] (by decide) rfl rfl)⟩)
 refine ⟨congrArg Value.bool ?_, rfl⟩
 have := (idxE_any p ks).1
 rw [Bool.eq_iff_iff, this]; simp

def HuS (e : Ex) : Prop := ∀ (w : World) (s : Value) (h : RdK (cellR (fun _ => False) w) s e.kids), CallS Tryz.prog 99 [.agg #[.int .i64 e.op, .int .i64 e.lt, s]] w (fun r o => r = .bool (hasU e) ∧ o = [])
set_option maxHeartbeats 1000000 in
theorem s_hasu_step (e : Ex) (ih : ∀ i, i < e.kids.length → HuS (e.kids.getD i default)) (w : World) (s : Value) (h : RdK (cellR (fun _ => False) w) s e.kids) : CallS Tryz.prog 99 [.agg #[.int .i64 e.op, .int .i64 e.lt, s]] w (fun r o => r = .bool (hasU e) ∧ o = []) := by
 obtain ⟨ss, hl, hx, hk⟩ := h.inv
 have hr := hx.rd
 have hm := hr.le
 refine spec_of Tryz.func99 rfl (leb rfl) ?_
 refine .sr fun _ hK1 => ?_
 refine AK.box_ (E := 65) (cs := [.int .i64 e.op, .int .i64 e.lt, s]) rfl rfl rfl trivial rfl (fun bx1 => ?_)
 refine .as rfl (.nt hK1 ?_)
 refine .seq fun _ hK2 => ?_
 refine .sr fun _ hK3 => ?_
 refine .v (.fieldAddr fd65_0 rfl) (.v (.loadBox on3 rfl bsp rfl) (.nt hK3 (.block ?_)))
 refine .seq fun _ hK4 => ?_
 refine .sr fun _ hK5 => ?_
 refine .v (.eql rfl rfl) (.as rfl (.nt hK5 ?_))
 refine AK.condD rfl (fun hc0 => ?_) (fun hc0 => ?_)
 ·refine .skip ?_
  refine AK.then_ (hK4 _ ?_)
  refine AK.cond_t rfl (decide_eq_true hc0) ?_
  refine .sr fun _ hK6 => ?_
  refine .as rfl (.nt hK6 (.ret (.block_ret (.then_ret ?_))))
  refine AK.ret1 rfl rfl (fun w hw => ⟨_, _, ?_, rfl, Ret.of (hw.pick [] (by decide) rfl rfl)⟩)
  refine ⟨congrArg Value.bool ?_, rfl⟩
  rw [hasU_eq e]
  clear hk hr h hx ih hl hw
  generalize e.kids.getD 0 default = x0 at *
  generalize e.kids.length = m at *
  first | (simp_all; done) | grind
 ·refine AK.region ?_
  refine .v (.eql rfl rfl) (.as rfl (.nt hK4 ?_))
  refine AK.condD rfl (fun hc1 => ?_) (fun hc1 => ?_)
  ·refine .sr fun _ hK7 => ?_
   refine .as rfl (.nt hK7 (.ret (.block_ret (.then_ret ?_))))
   refine AK.ret1 rfl rfl (fun w hw => ⟨_, _, ?_, rfl, Ret.of (hw.pick [] (by decide) rfl rfl)⟩)
   refine ⟨congrArg Value.bool ?_, rfl⟩
   rw [hasU_eq e]
   clear hk hr h hx ih hl hw
   generalize e.kids.getD 0 default = x0 at *
   generalize e.kids.length = m at *
   first | (simp_all; done) | grind
  ·refine .sr fun _ hK8 => ?_
   refine .v (.eql rfl rfl) (.as rfl (.nt hK8 ?_))
   refine AK.condD rfl (fun hc2 => ?_) (fun hc2 => ?_)
   ·refine .sr fun _ hK9 => ?_
    refine .v (.fieldAddr fd65_2 rfl) (.v (.loadBox on63 rfl bsp rfl) ?_)
    refine AK.call co123 rfl (fun w hw => s_contains w 99 co99 hasU s e.kids ss hl (fun i hi => (hk i hi).sl) (hr.mono fun b _ hlt => ⟨id, hw.frame.block b hlt id⟩) (fun w' hfr i hi => ih i hi w' _ (((hk i hi).at hw).fr hfr))) trivial rfl ?_
    rintro r o ⟨rfl, rfl⟩
    refine .as rfl (.nt hK9 (.ret (.block_ret (.then_ret ?_))))
    refine AK.ret1 rfl rfl (fun w hw => ⟨_, _, ?_, rfl, Ret.of (hw.pick [] (by decide) rfl rfl)⟩)
    refine ⟨congrArg Value.bool ?_, rfl⟩
    rw [hasU_eq e]
    clear hk hr h hx ih hl hw
    generalize e.kids.getD 0 default = x0 at *
    generalize e.kids.length = m at *
    first | (simp_all; done) | grind
   ·refine .seq fun _ hK10 => ?_
    refine .sr fun _ hK11 => ?_
    refine .v (.eql rfl rfl) (.as rfl (.nt hK11 ?_))
    refine AK.condD rfl (fun hc3 => ?_) (fun hc3 => ?_)
    ·refine .skip ?_
     refine AK.then_ (hK10 _ ?_)
     refine AK.cond_t rfl (decide_eq_true hc3) ?_
     refine .seq fun _ hK12 => ?_
     refine .sr fun _ hK13 => ?_
     refine .v (.fieldAddr fd65_2 rfl) (.v (.loadBox on63 rfl bsp rfl) (.v (.lenR sl63 rfl rdp) (.mv rfl (.nt hK13 (.block ?_)))))
     refine AK.loopK (X := Nat) [(19, _), (20, _)] (fun k => [(21, .int .i64 (k : Int))]) (fun k => [box bx1 65 3 [.int .i64 e.op, .int .i64 e.lt, s]]) (fun k => k ≤ e.kids.length ∧ ∀ i, i < k → hasU (e.kids.getD i default) = true) (fun k => e.kids.length - k) (0) slr ?_ ?_ ?_ ?_
     ·exact ⟨Nat.zero_le _, fun i hi => (by omega)⟩
     ·exact slr
     ·exact fun w hw => hw
     ·intro k hg0 _ hK14
      refine .sr fun _ hK15 => ?_
      refine .v (.lss rfl rfl) (.nt hK15 ?_)
      refine .seq fun _ hK16 => ?_
      refine AK.condD rfl (fun hc5 => ?_) (fun hc5 => ?_)
      ·have sk := (hk k (by omega)).sl
       refine .skip ?_
       refine AK.then_ (hK16 _ ?_)
       refine .seq fun _ hK17 => ?_
       refine .block ?_
       refine .sr fun _ hK18 => ?_
       first | refine .v (.iN sl63 rfl rfl) ?_ | refine .v (.iK sl63 rfl rfl) ?_
       refine .v (.loadE ag65 rfl rdp (by assumption) rfl (by omega)) ?_
       refine AK.alloc el65 rfl rfl trivial rfl (fun bx4 => ?_)
       refine AK.storeBox 1 (us := [.int .i64 (e.kids.getD k default).op, .int .i64 (e.kids.getD k default).lt, ss.getD k undef]) (cs' := [.int .i64 (e.kids.getD k default).op, .int .i64 (e.kids.getD k default).lt, ss.getD k undef]) rfl sz65 rfl rfl rfl rfl oneP (leb rfl) rfl trivial ?_
       refine .nt hK18 ?_
       refine .sr fun _ hK19 => ?_
       refine .v (.loadBoxG ag65 rfl bsp rfl rfl) ?_
       refine AK.call co99 rfl (fun w hw => ih k (by omega) w _ ((hk k (by omega)).at hw)) trivial rfl ?_
       rintro r o ⟨rfl, rfl⟩
       refine .v (.not rfl) (.nt hK19 ?_)
       refine AK.condB rfl (fun hc6 => ?_) (fun hc6 => ?_)
       ·refine .sr fun _ hK20 => ?_
        refine .as rfl (.nt hK20 (.ret (.block_ret (.then_ret (.then_ret (.block_ret (.then_ret (.block_ret (.then_ret ?_)))))))))
        refine AK.ret1 rfl rfl (fun w hw => ⟨_, _, ?_, rfl, Ret.of (hw.pick [] (by decide) rfl rfl)⟩)
        refine ⟨congrArg Value.bool ?_, rfl⟩
        rw [hasU_eq e, all_false (k := k) (by omega) (by simpa using hc6)]
        clear hk hr h hx ih hl hg0
        first | (simp_all; done) | (simp_all <;> omega)
       ·refine .skip (.block_normal ?_)
        refine AK.then_ (hK17 _ ?_)
        refine AK.region ?_
        refine .v (.add rfl rfl (by omega)) ?_
        refine .mv rfl (.nil ?_)
        refine AK.then_ (hK14 _ _ (k + 1) ⟨by omega, fun i hi => by rcases Nat.lt_or_ge i k with hik | hik; exact hg0.2 i hik; obtain rfl : i = k := (by omega); simpa using hc6⟩ (by omega) (slr) (fun w hw => hw.pick [0] (by decide) rfl rfl))
      ·refine .exit (.then_exit (.then_exit (.block_exit ?_)))
       refine AK.then_ (hK12 _ ?_)
       refine .sr fun _ hK21 => ?_
       refine .as rfl (.nt hK21 (.ret (.block_ret (.then_ret ?_))))
       refine AK.ret1 rfl rfl (fun w hw => ⟨_, _, ?_, rfl, Ret.of (hw.pick [] (by decide) rfl rfl)⟩)
       refine ⟨congrArg Value.bool ?_, rfl⟩
       have ha := all_true (p := hasU) (ks := e.kids) (fun i hi => hg0.2 i (by omega))
       rw [hasU_eq e, ha]
       clear hk hr h hx ih hl hg0
       first | (simp_all; done) | (simp_all <;> omega)
    ·refine AK.region ?_
     refine .v (.eql rfl rfl) (.as rfl (.nt hK10 ?_))
     refine AK.condD rfl (fun hc4 => ?_) (fun hc4 => ?_)
     ·refine .seq fun _ hK22 => ?_
      refine .sr fun _ hK23 => ?_
      refine .v (.fieldAddr fd65_2 rfl) (.v (.loadBox on63 rfl bsp rfl) (.v (.lenR sl63 rfl rdp) (.mv rfl (.nt hK23 (.block ?_)))))
      refine AK.loopK (X := Nat) [(19, _), (20, _)] (fun k => [(21, .int .i64 (k : Int))]) (fun k => [box bx1 65 3 [.int .i64 e.op, .int .i64 e.lt, s]]) (fun k => k ≤ e.kids.length ∧ ∀ i, i < k → hasU (e.kids.getD i default) = true) (fun k => e.kids.length - k) (0) slr ?_ ?_ ?_ ?_
      ·exact ⟨Nat.zero_le _, fun i hi => (by omega)⟩
      ·exact slr
      ·exact fun w hw => hw
      ·intro k hg0 _ hK24
       refine .sr fun _ hK25 => ?_
       refine .v (.lss rfl rfl) (.nt hK25 ?_)
       refine .seq fun _ hK26 => ?_
       refine AK.condD rfl (fun hc5 => ?_) (fun hc5 => ?_)
       ·have sk := (hk k (by omega)).sl
        refine .skip ?_
        refine AK.then_ (hK26 _ ?_)
        refine .seq fun _ hK27 => ?_
        refine .block ?_
        refine .sr fun _ hK28 => ?_
        first | refine .v (.iN sl63 rfl rfl) ?_ | refine .v (.iK sl63 rfl rfl) ?_
        refine .v (.loadE ag65 rfl rdp (by assumption) rfl (by omega)) ?_
        refine AK.alloc el65 rfl rfl trivial rfl (fun bx4 => ?_)
        refine AK.storeBox 1 (us := [.int .i64 (e.kids.getD k default).op, .int .i64 (e.kids.getD k default).lt, ss.getD k undef]) (cs' := [.int .i64 (e.kids.getD k default).op, .int .i64 (e.kids.getD k default).lt, ss.getD k undef]) rfl sz65 rfl rfl rfl rfl oneP (leb rfl) rfl trivial ?_
        refine .nt hK28 ?_
        refine .sr fun _ hK29 => ?_
        refine .v (.loadBoxG ag65 rfl bsp rfl rfl) ?_
        refine AK.call co99 rfl (fun w hw => ih k (by omega) w _ ((hk k (by omega)).at hw)) trivial rfl ?_
        rintro r o ⟨rfl, rfl⟩
        refine .v (.not rfl) (.nt hK29 ?_)
        refine AK.condB rfl (fun hc6 => ?_) (fun hc6 => ?_)
        ·refine .sr fun _ hK30 => ?_
         refine .as rfl (.nt hK30 (.ret (.block_ret (.then_ret (.then_ret (.block_ret (.then_ret (.block_ret (.then_ret ?_)))))))))
         refine AK.ret1 rfl rfl (fun w hw => ⟨_, _, ?_, rfl, Ret.of (hw.pick [] (by decide) rfl rfl)⟩)
         refine ⟨congrArg Value.bool ?_, rfl⟩
         rw [hasU_eq e, all_false (k := k) (by omega) (by simpa using hc6)]
         clear hk hr h hx ih hl hg0
         first | (simp_all; done) | (simp_all <;> omega)
        ·refine .skip (.block_normal ?_)
         refine AK.then_ (hK27 _ ?_)
         refine AK.region ?_
         refine .v (.add rfl rfl (by omega)) ?_
         refine .mv rfl (.nil ?_)
         refine AK.then_ (hK24 _ _ (k + 1) ⟨by omega, fun i hi => by rcases Nat.lt_or_ge i k with hik | hik; exact hg0.2 i hik; obtain rfl : i = k := (by omega); simpa using hc6⟩ (by omega) (slr) (fun w hw => hw.pick [0] (by decide) rfl rfl))
       ·refine .exit (.then_exit (.then_exit (.block_exit ?_)))
        refine AK.then_ (hK22 _ ?_)
        refine .sr fun _ hK31 => ?_
        refine .as rfl (.nt hK31 (.ret (.block_ret (.then_ret ?_))))
        refine AK.ret1 rfl rfl (fun w hw => ⟨_, _, ?_, rfl, Ret.of (hw.pick [] (by decide) rfl rfl)⟩)
        refine ⟨congrArg Value.bool ?_, rfl⟩
        have ha := all_true (p := hasU) (ks := e.kids) (fun i hi => hg0.2 i (by omega))
        rw [hasU_eq e, ha]
        clear hk hr h hx ih hl hg0
        first | (simp_all; done) | (simp_all <;> omega)
     ·refine .sr fun _ hK32 => ?_
      refine .v (.eql rfl rfl) (.as rfl (.nt hK32 ?_))
      refine AK.condD rfl (fun hc7 => ?_) (fun hc7 => ?_)
      ·refine .sr fun _ hK33 => ?_
       refine .v (.fieldAddr fd65_2 rfl) (.v (.loadBox on63 rfl bsp rfl) (.v (.lenR sl63 rfl rdp) (.v (.eql rfl rfl) (.mv rfl ?_))))
       refine AK.splitB (g := 35) rfl (fun hg_17_4 => ?_) (fun hg_17_4 => ?_)
       ·have hg_17_4' := hg_17_4
        try simp only [bs] at hg_17_4'
        refine AK.val _ (Yl.fieldAddr fd65_2 rfl) ⟨_, rfl, gB hg_17_4⟩ rfl ?_
        refine AK.val _ (Yl.loadBox on63 rfl bsp rfl) ⟨_, rfl, gB hg_17_4⟩ rfl ?_
        refine AK.val _ (Yl.idxN (k := 0) sl63 rfl rfl rdp (by decide) (by have := hg_17_4; simp at this; omega)) ⟨_, rfl, gB hg_17_4⟩ rfl ?_
        refine AK.val _ (Yl.loadE ag65 rfl rdp (by assumption) rfl (by omega)) ⟨_, rfl, gB hg_17_4⟩ rfl ?_
        refine AK.call co99 rfl (fun w hw => ih 0 (by have := hg_17_4; simp at this; omega) w _ ((hk 0 (by have := hg_17_4; simp at this; omega)).at hw)) ⟨_, rfl, gB hg_17_4⟩ rfl ?_
        rintro r o ⟨rfl, rfl⟩
        refine AK.val _ (Yl.not rfl) ⟨_, rfl, gB hg_17_4⟩ rfl ?_
        refine .v (.pickT rfl (hg_17_4) rfl) (.as rfl (.nt hK33 (.ret (.block_ret (.then_ret ?_)))))
        refine AK.ret1 rfl rfl (fun w hw => ⟨_, _, ?_, rfl, Ret.of (hw.pick [] (by decide) rfl rfl)⟩)
        refine ⟨congrArg Value.bool ?_, rfl⟩
        rw [hasU_eq e]
        clear hk hr h hx ih hl hw
        generalize e.kids.getD 0 default = x0 at *
        generalize e.kids.length = m at *
        first | (simp_all; done) | grind
       ·have hg_17_4' := hg_17_4
        try simp only [bs] at hg_17_4'
        refine AK.pass rfl rfl (hg_17_4) rfl ?_
        refine AK.pass rfl rfl (hg_17_4) rfl ?_
        refine AK.pass rfl rfl (hg_17_4) rfl ?_
        refine AK.pass rfl rfl (hg_17_4) rfl ?_
        refine AK.pass rfl rfl (hg_17_4) rfl ?_
        refine AK.pass rfl rfl (hg_17_4) rfl ?_
        refine .v (.pickF rfl (hg_17_4) rfl) (.as rfl (.nt hK33 (.ret (.block_ret (.then_ret ?_)))))
        refine AK.ret1 rfl rfl (fun w hw => ⟨_, _, ?_, rfl, Ret.of (hw.pick [] (by decide) rfl rfl)⟩)
        refine ⟨congrArg Value.bool ?_, rfl⟩
        rw [hasU_eq e]
        clear hk hr h hx ih hl hw
        generalize e.kids.getD 0 default = x0 at *
        generalize e.kids.length = m at *
        first | (simp_all; done) | grind
      ·refine .skip (.block_normal ?_)
       refine AK.then_ (hK2 _ ?_)
       refine .sr fun _ hK34 => ?_
       refine .as rfl (.nt hK34 (.ret ?_))
       refine AK.ret1 rfl rfl (fun w hw => ⟨_, _, ?_, rfl, Ret.of (hw.pick [] (by decide) rfl rfl)⟩)
       refine ⟨congrArg Value.bool ?_, rfl⟩
       rw [hasU_eq e]
       clear hk hr h hx ih hl hw
       generalize e.kids.getD 0 default = x0 at *
       generalize e.kids.length = m at *
       first | (simp_all; done) | grind

theorem s_hasu (e : Ex) : HuS e := Ex.ind (P := HuS) (fun e ih w s h => s_hasu_step e ih w s h) e
end Go.Proofs.YtdnhiinakhmhgaaGreatDoor

namespace Go.Proofs.YtdnhiinakhmhgaaGreatDoor
open Go.Sx Go.RowKit
set_option maxHeartbeats 800000 in
theorem s_flatten (w : World) (op : Int) (s : Value) (ks : List Ex) (ss : List Value) (tss : List (List Value)) (hl : ss.length = ks.length) (htl : tss.length = ks.length) (h3 : ∀ i, i < ks.length → (tss.getD i []).length = (ks.getD i default).kids.length) (hr : Rd (fun b => ¬ (fun _ => False) b) w s 3 ks.length (xcs ks ss)) (hkr : ∀ i, i < ks.length → Rd (fun b => ¬ (fun _ => False) b) w (ss.getD i undef) 3 (ks.getD i default).kids.length (xcs (ks.getD i default).kids (tss.getD i []))) (hsl : ∀ i, i < ks.length → IsSl (ss.getD i undef)) (hsl2 : ∀ i, i < ks.length → ∀ j, j < (ks.getD i default).kids.length → IsSl ((tss.getD i []).getD j undef)) (hlim : (flatE op ks).length ≤ 1073741824) : CallS Tryz.prog 172 [.int .i64 op, s] w (fun r o => IsSl r ∧ o = [row r 65 3 (flatE op ks).length (xcs (flatE op ks) (flatS op ks ss tss))]) := by
 have hm := hr.le
 refine spec_of Tryz.func172 rfl (leb rfl) ?_
 refine .sr fun _ hK1 => ?_
 refine .as rfl (.nt hK1 ?_)
 refine .sr fun _ hK2 => ?_
 refine .as rfl (.nt hK2 ?_)
 refine .seq fun _ hK3 => ?_
 refine .sr fun _ hK4 => ?_
 refine .mv rfl (.v (.lenR sl63 rfl rdp) (.mv rfl (.nt hK4 (.block ?_))))
 refine AK.loopK (X := Nat × Value) [(0, _), (8, _), (9, _)] (fun x => [(10, .int .i64 (x.1 : Int)), (5, x.2)]) (fun x => [row x.2 65 3 (flatE op (ks.take x.1)).length (xcs (flatE op (ks.take x.1)) (flatS op (ks.take x.1) (ss.take x.1) (tss.take x.1)))]) (fun x => x.1 ≤ ks.length ∧ IsSl x.2) (fun x => ks.length - x.1) ((0, .slice none 0 0)) slr ?_ ?_ ?_ ?_
 ·exact ⟨Nat.zero_le _, nilSl⟩
 ·exact slr
 ·exact fun w hw => by simpa [flatE, flatS, xcs] using hw.ghost 65 3
 ·intro x hg0 _ hK5
  refine .sr fun _ hK6 => ?_
  refine .v (.lss rfl rfl) (.nt hK6 ?_)
  refine .seq fun _ hK7 => ?_
  refine AK.condD rfl (fun hc0 => ?_) (fun hc0 => ?_)
  ·have sk := hsl x.1 (by omega)
   have hb := flatE_take_le op ks (x.1 + 1)
   rw [take_snocD default ks x.1 (by omega), flatE_snoc, List.length_append] at hb
   refine .skip ?_
   refine AK.then_ (hK7 _ ?_)
   refine .seq fun _ hK8 => ?_
   refine .block ?_
   refine .sr fun _ hK9 => ?_
   first | refine .v (.iN sl63 rfl rfl) ?_ | refine .v (.iK sl63 rfl rfl) ?_
   refine .v (.loadE ag65 rfl rdp (by assumption) rfl (by omega)) ?_
   refine AK.alloc el65 rfl rfl trivial rfl (fun bx7 => ?_)
   refine AK.storeBox 1 (us := [.int .i64 (ks.getD x.1 default).op, .int .i64 (ks.getD x.1 default).lt, ss.getD x.1 undef]) (cs' := [.int .i64 (ks.getD x.1 default).op, .int .i64 (ks.getD x.1 default).lt, ss.getD x.1 undef]) rfl sz65 rfl rfl rfl rfl oneP (leb rfl) rfl trivial ?_
   refine .nt hK9 ?_
   refine .sr fun _ hK10 => ?_
   refine .v (.fieldAddr fd65_0 rfl) (.v (.loadBox on3 rfl bsp rfl) (.mv rfl (.v (.eql rfl rfl) (.nt hK10 ?_))))
   refine AK.condD rfl (fun hc1 => ?_) (fun hc1 => ?_)
   ·rw [if_pos hc1] at hb
    refine AK.region ?_
    refine .mv rfl (.v (.fieldAddr fd65_2 rfl) (.v (.loadBox on63 rfl bsp rfl) ?_))
    refine AK.appendS 0 rfl sl63 el65 rfl (by decide) rfl rfl rfl (RdS.arg (hkr x.1 (by omega))) (one'_ecs _ _ (all_getD fun j hj => hsl2 x.1 (by omega) j (by rw [← h3 x.1 (by omega)]; exact hj))) (by omega) (by omega) trivial rfl (fun av21 => ?_)
    refine AK.shape 0 rfl (fun sav => ?_)
    refine .as rfl (.nil (.block_normal ?_))
    refine AK.then_ (hK8 _ ?_)
    refine AK.region ?_
    refine .v (.add rfl rfl (by omega)) ?_
    refine .mv rfl (.nil ?_)
    first | refine AK.then_ (hK5 _ _ ((x.1 + 1, av21)) ⟨by dsimp only; omega, sav⟩ (by dsimp only; omega) (slr) (fun w hw => by dsimp only; rw [take_snocD default ks x.1 (by omega), take_snocD undef ss x.1 (by omega), take_snocD [] tss x.1 (by omega), flatE_snoc, flatS_snoc op _ _ _ _ _ _ (by simp; omega) (by simp; omega), xcs_append _ _ _ _ (flatT_len hl htl h3 x.1), List.length_append, if_pos hc1, if_pos hc1]; exact hw.pick [0] (by decide) rfl rfl)) | refine AK.then_ (hK5 _ _ ((x.1 + 1, av25)) ⟨by dsimp only; omega, hsl25⟩ (by dsimp only; omega) (slr) (fun w hw => by dsimp only; rw [take_snocD default ks x.1 (by omega), take_snocD undef ss x.1 (by omega), take_snocD [] tss x.1 (by omega), flatE_snoc, flatS_snoc op _ _ _ _ _ _ (by simp; omega) (by simp; omega), xcs_append _ _ _ _ (flatT_len hl htl h3 x.1), List.length_append, if_neg hc1, if_neg hc1]; exact hw.pick [0] (by decide) rfl rfl))
   ·rw [if_neg hc1, List.length_singleton] at hb
    refine AK.region ?_
    refine .mv rfl (.v (.loadBoxG ag65 rfl bsp rfl rfl) ?_)
    refine AK.append1 0 rfl sl63 el65 rfl (by decide) rfl (by intro k hk; cases hk; rfl) rfl (one'_cons rfl (one'_cons rfl (one'_cons (IsSl.one sk) one'_nil))) (by omega) (by omega) (by decide) rfl rfl (fun av25 _ hsl25 => ?_)
    refine .as rfl (.nil (.block_normal ?_))
    refine AK.then_ (hK8 _ ?_)
    refine AK.region ?_
    refine .v (.add rfl rfl (by omega)) ?_
    refine .mv rfl (.nil ?_)
    first | refine AK.then_ (hK5 _ _ ((x.1 + 1, av21)) ⟨by dsimp only; omega, sav⟩ (by dsimp only; omega) (slr) (fun w hw => by dsimp only; rw [take_snocD default ks x.1 (by omega), take_snocD undef ss x.1 (by omega), take_snocD [] tss x.1 (by omega), flatE_snoc, flatS_snoc op _ _ _ _ _ _ (by simp; omega) (by simp; omega), xcs_append _ _ _ _ (flatT_len hl htl h3 x.1), List.length_append, if_pos hc1, if_pos hc1]; exact hw.pick [0] (by decide) rfl rfl)) | refine AK.then_ (hK5 _ _ ((x.1 + 1, av25)) ⟨by dsimp only; omega, hsl25⟩ (by dsimp only; omega) (slr) (fun w hw => by dsimp only; rw [take_snocD default ks x.1 (by omega), take_snocD undef ss x.1 (by omega), take_snocD [] tss x.1 (by omega), flatE_snoc, flatS_snoc op _ _ _ _ _ _ (by simp; omega) (by simp; omega), xcs_append _ _ _ _ (flatT_len hl htl h3 x.1), List.length_append, if_neg hc1, if_neg hc1]; exact hw.pick [0] (by decide) rfl rfl))
  ·refine .exit (.then_exit (.then_exit (.block_exit ?_)))
   refine AK.then_ (hK3 _ ?_)
   refine .sr fun _ hK11 => ?_
   refine .mv rfl (.as rfl (.nt hK11 (.ret ?_)))
   refine AK.ret1 rfl rfl (fun w hw => ⟨_, _, ?_, rfl, Ret.of (hw.pick [0] (by decide) rfl rfl)⟩)
   have e1 : x.1 = ks.length := by omega
   rw [e1, List.take_length, List.take_of_length_le (by omega), List.take_of_length_le (by omega)]
   exact ⟨hg0.2, rfl⟩

set_option maxHeartbeats 800000 in
theorem s_delete (w : World) (F : Nat → Prop) (f : FuncId) (hco : CallOk Tryz.prog f) (p : Ex → Bool) (s : Value) (ks : List Ex) (ss : List Value) (hl : ss.length = ks.length) (hsl : ∀ i, i < ks.length → IsSl (ss.getD i undef)) (hA : (row s 65 3 ks.length (xcs ks ss)).holds w F) (hf : ∀ w', FrameX F w w' → ∀ i, i < ks.length → CallS Tryz.prog f [.agg #[.int .i64 (ks.getD i default).op, .int .i64 (ks.getD i default).lt, ss.getD i undef]] w' (fun r o => r = .bool (p (ks.getD i default)) ∧ o = [])) : CallM Tryz.prog 171 [s, .func (.func f) #[] #[]] w F (fun r A o => ∃ ss', IsSl r ∧ A = row r 65 3 (ks.filter (fun e => !p e)).length (xcs (ks.filter (fun e => !p e)) ss') ∧ o = [] ∧ PSub (ks.filter (fun e => !p e)) ss' ks ss) := by
 have hsv := row_sl hA
 have hm := (row_rd hA).le
 refine specM_of Tryz.func171 rfl (leb rfl) hA ?_
 refine .sr fun _ hK1 => ?_
 refine .as rfl (.nt hK1 ?_)
 refine .sr fun _ hK2 => ?_
 refine .mv rfl (.mv rfl ?_)
 refine AK.call co157 rfl (fun w hw => s_index w f hco p s ks ss hl hsl ((RdS.own 0 rfl w hw).mono fun b _ _ => ⟨id, rfl⟩) (fun w' hfr i hi => hf w' (hw.frame.step hfr (fun _ h _ => h.elim)) i hi)) trivial rfl ?_
 rintro r o ⟨rfl, rfl⟩
 obtain ⟨ia, ib, ic⟩ := idxE_any p ks
 refine .as rfl (.nt hK2 ?_)
 refine .seq fun _ hK3 => ?_
 refine .sr fun _ hK4 => ?_
 refine .mv rfl (.v (.eql rfl rfl) (.nt hK4 ?_))
 refine AK.condD rfl (fun hc0 => ?_) (fun hc0 => ?_)
 ·refine .sr fun _ hK5 => ?_
  refine .mv rfl (.as rfl (.nt hK5 (.ret (.then_ret ?_))))
  refine AK.ret1 rfl rfl (fun w hw => ⟨_, _, _, ?_, rfl, Ret.of (hw.pick [0] (by decide) rfl rfl)⟩)
  have hany : ks.any p = false := by
   cases h : ks.any p with
   | false => rfl
   | true => have := ia.1 h; omega
  rw [filter_not hany]
  exact ⟨ss, hsv, rfl, rfl, PSub.rfl hl⟩
 ·have hany : ks.any p = true := ia.2 (by omega)
  have hix : idxE p ks = ((ks.findIdx p : Nat) : Int) := by unfold idxE; rw [if_pos hany]
  rw [hix] at ib ic hc0 ⊢
  have hst := DelI.start (p := p) hl hany
  have hilt := (findIdx_first hany).1
  refine .skip ?_
  refine AK.then_ (hK3 _ ?_)
  refine .seq fun _ hK6 => ?_
  refine .sr fun _ hK7 => ?_
  refine .mv rfl ?_
  refine .v (.add rfl rfl (by omega)) ?_
  refine .as rfl (.nt hK7 (.block ?_))
  refine AK.loopK (X := Nat × Nat × List Ex × List Value) [(0, _), (1, _)] (fun x => [(6, .int .i64 (x.1 : Int)), (5, .int .i64 (x.2.1 : Int))]) (fun x => [row s 65 3 ks.length (xcs x.2.2.1 x.2.2.2)]) (fun x => DelI (fun e => !p e) ks ss x.1 x.2.1 x.2.2.1 x.2.2.2) (fun x => ks.length - x.1) ((ks.findIdx p + 1, ks.findIdx p, ks, ss)) slr ?_ ?_ ?_ ?_
  ·exact hst
  ·exact .cons (slI rfl (by omega)) (slr)
  ·exact fun w hw => hw
  ·intro x hg0 _ hK8
   refine .seq fun _ hK9 => ?_
   refine .sr fun _ hK10 => ?_
   refine .mv rfl (.mv rfl (.v (.lenR sl63 rfl rdp) (.v (.lss rfl rfl) (.nt hK10 ?_))))
   refine AK.condD rfl (fun hc1 => ?_) (fun hc1 => ?_)
   ·have hjlt : x.1 < ks.length := by omega
    have hil := hg0.lt
    have hkl := hg0.len
    have hksl := hg0.slen
    have sk : IsSl (x.2.2.2.getD x.1 undef) := by rw [(hg0.suf x.1 (Nat.le_refl _)).2]; exact hsl x.1 hjlt
    refine .skip ?_
    refine AK.then_ (hK9 _ ?_)
    refine .seq fun _ hK11 => ?_
    refine .block ?_
    refine .sr fun _ hK12 => ?_
    refine .mv rfl (.mv rfl ?_)
    first | refine .v (.iN sl63 rfl rfl) ?_ | refine .v (.iK sl63 rfl rfl) ?_
    refine .v (.loadE ag65 rfl rdp (by assumption) (by omega) (by omega)) ?_
    refine AK.alloc el65 rfl rfl trivial rfl (fun bx7 => ?_)
    refine AK.storeBox 1 (us := [.int .i64 (x.2.2.1.getD x.1 default).op, .int .i64 (x.2.2.1.getD x.1 default).lt, x.2.2.2.getD x.1 undef]) (cs' := [.int .i64 (x.2.2.1.getD x.1 default).op, .int .i64 (x.2.2.1.getD x.1 default).lt, x.2.2.2.getD x.1 undef]) rfl sz65 rfl rfl rfl rfl oneP (leb rfl) rfl trivial ?_
    refine .nt hK12 ?_
    refine .sr fun _ hK13 => ?_
    refine .mv rfl (.v (.loadBoxG ag65 rfl bsp rfl rfl) ?_)
    refine AK.callV (us := []) (cs := []) hco rfl rfl (fun w hw => (by have := hf w hw.frame x.1 (by omega); have e := hg0.suf x.1 (Nat.le_refl _); rw [← e.1, ← e.2] at this; exact this)) trivial rfl ?_
    rintro r o ⟨rfl, rfl⟩
    refine .v (.not rfl) (.nt hK13 ?_)
    refine AK.condB rfl (fun hc2 => ?_) (fun hc2 => ?_)
    ·refine .sr fun _ hK14 => ?_
     refine .mv rfl (.mv rfl (.v (.loadBoxG ag65 rfl bsp rfl rfl) ?_))
     first | refine .v (.iN sl63 rfl rfl) ?_ | refine .v (.iK sl63 rfl rfl) ?_
     refine AK.storeG 0 rfl sz65 rfl rfl rfl rfl (one'_cons rfl (one'_cons rfl (one'_cons (IsSl.one sk) one'_nil))) (by omega) (cs' := xcs (x.2.2.1.set x.2.1 (x.2.2.1.getD x.1 default)) (x.2.2.2.set x.2.1 (x.2.2.2.getD x.1 undef))) (xcs_set _ _ _ hksl (by omega) _ _) trivial ?_
     refine .nt hK14 ?_
     refine AK.region ?_
     refine .mv rfl ?_
     refine .v (.add rfl rfl (by omega)) ?_
     refine .as rfl (.nil (.block_normal ?_))
     refine AK.then_ (hK11 _ ?_)
     refine AK.region ?_
     refine .mv rfl ?_
     refine .v (.add rfl rfl (by omega)) ?_
     refine .as rfl (.nil ?_)
     refine AK.then_ (hK8 _ _ ((x.1 + 1, x.2.1 + 1, x.2.2.1.set x.2.1 (x.2.2.1.getD x.1 default), x.2.2.2.set x.2.1 (x.2.2.2.getD x.1 undef))) (hg0.keep hjlt (by have e := (hg0.suf x.1 (Nat.le_refl _)).1; rw [e] at hc2; show (!p _) = _; rw [hc2]; rfl)) (by dsimp only; omega) (slr) (fun w hw => hw.pick [0] (by decide) rfl rfl))
    ·refine .skip (.block_normal ?_)
     refine AK.then_ (hK11 _ ?_)
     refine AK.region ?_
     refine .mv rfl ?_
     refine .v (.add rfl rfl (by omega)) ?_
     refine .as rfl (.nil ?_)
     refine AK.then_ (hK8 _ _ ((x.1 + 1, x.2.1, x.2.2.1, x.2.2.2)) (hg0.drop hjlt (by have e := (hg0.suf x.1 (Nat.le_refl _)).1; rw [e] at hc2; show (!p _) = _; rw [hc2]; rfl)) (by dsimp only; omega) (slr) (fun w hw => hw.pick [0] (by decide) rfl rfl))
   ·have hil := hg0.lt
    have hle := hg0.le
    have hkl := hg0.len
    have hksl := hg0.slen
    refine .exit (.then_exit (.then_exit (.block_exit ?_)))
    refine AK.then_ (hK6 _ ?_)
    refine .sr fun _ hK15 => ?_
    refine .mv rfl (.mv rfl ?_)
    refine .v (.sliceFr (CutS.row 0 rfl) sl63 rfl rfl (by omega)) ?_
    refine AK.clearE 0 (ks := x.2.2.1) (ss := x.2.2.2) rfl sl63 el65 rfl (by omega) hksl (by omega) trivial (fun cs hcs => ?_)
    refine .nt hK15 ?_
    refine .sr fun _ hK16 => ?_
    refine .mv rfl (.mv rfl ?_)
    refine .v (.sliceTo 0 rfl sl63 rfl rfl (by omega)) ?_
    refine .as rfl (.nt hK16 (.ret ?_))
    refine AK.reslice 0 x.2.1 rfl (by omega) ?_
    refine AK.ret1 rfl rfl (fun w hw => ⟨_, _, _, ?_, rfl, Ret.of (hw.pick [0] (by decide) rfl rfl)⟩)
    have hx1 : x.1 = ks.length := by omega
    rw [hx1] at hg0
    obtain ⟨ps, e1, e2⟩ := hg0.psub
    have hcs' : cs.take (x.2.1 * 3) = xcs (x.2.2.1.take x.2.1) (x.2.2.2.take x.2.1) := hcs
    rw [e1] at hcs'
    refine ⟨x.2.2.2.take x.2.1, slTo_sl _ hsv, ?_, rfl, ps⟩
    rw [hcs', ← e2]
    rfl

theorem s_collect (w : World) (op : Int) (s : Value) (ks : List Ex) (ss : List Value) (hl : ss.length = ks.length) (hr : Rd (fun b => ¬ (fun _ => False) b) w s 3 ks.length (xcs ks ss)) (nn : Ex) (ns : Value) (hsl : ∀ i, i < ks.length → IsSl (ss.getD i undef)) (hns : IsSl ns) : CallS Tryz.prog 173 [.int .i64 op, s, .agg #[.int .i64 nn.op, .int .i64 nn.lt, ns]] w (fun r o => ∃ sr, r = .agg #[.int .i64 (collectE op ks nn).op, .int .i64 (collectE op ks nn).lt, sr] ∧ IsSl sr ∧ o = [] ∧ ((ks = [] ∧ sr = ns) ∨ (ks.length = 1 ∧ sr = ss.getD 0 undef) ∨ (2 ≤ ks.length ∧ sr = s))) := by
 have hm := hr.le
 have hss := Rd.sl hr
 refine spec_of Tryz.func173 rfl (leb rfl) ?_
 refine .sr fun _ hK1 => ?_
 refine AK.box_ (E := 65) (cs := [.int .i64 nn.op, .int .i64 nn.lt, ns]) rfl rfl rfl trivial rfl (fun bx5 => ?_)
 refine AK.alloc el65 rfl rfl trivial rfl (fun bx6 => ?_)
 refine .nt hK1 ?_
 refine .seq fun _ hK2 => ?_
 refine .sr fun _ hK3 => ?_
 refine .mv rfl (.v (.lenR sl63 rfl rdp) (.nt hK3 (.block ?_)))
 refine .sr fun _ hK4 => ?_
 refine .v (.eql rfl rfl) (.as rfl (.nt hK4 ?_))
 refine AK.condD rfl (fun hc0 => ?_) (fun hc0 => ?_)
 ·refine .sr fun _ hK5 => ?_
  refine .v (.loadBoxG ag65 rfl bsp rfl rfl) ?_
  refine AK.storeBox 1 (us := [.int .i64 nn.op, .int .i64 nn.lt, ns]) (cs' := [.int .i64 nn.op, .int .i64 nn.lt, ns]) rfl sz65 rfl rfl rfl rfl oneP (leb rfl) rfl trivial ?_
  refine .nt hK5 (.ret (.block_ret (.then_ret ?_)))
  refine AK.retG [.cell 6 65] rfl (.cons (.cell ag65 rfl bsp rfl rfl) (.nil)) (fun w hw => ⟨_, _, ?_, rfl, Ret.of (hw.pick [] (by decide) rfl rfl)⟩)
  have hk0 : ks = [] := List.eq_nil_of_length_eq_zero (by omega)
  subst hk0
  exact ⟨ns, rfl, hns, rfl, .inl ⟨rfl, rfl⟩⟩
 ·refine .sr fun _ hK6 => ?_
  refine .v (.eql rfl rfl) (.as rfl (.nt hK6 ?_))
  refine AK.condD rfl (fun hc1 => ?_) (fun hc1 => ?_)
  ·have hk1 : ks.length = 1 := by omega
   have sk := hsl 0 (by omega)
   refine .sr fun _ hK7 => ?_
   refine .mv rfl ?_
   refine .v (.idxN (k := 0) sl63 rfl rfl rdp (by decide) (by omega)) ?_
   refine .v (.loadE ag65 rfl rdp (by assumption) rfl (by omega)) ?_
   refine AK.storeBox 1 (us := [.int .i64 (ks.getD 0 default).op, .int .i64 (ks.getD 0 default).lt, ss.getD 0 undef]) (cs' := [.int .i64 (ks.getD 0 default).op, .int .i64 (ks.getD 0 default).lt, ss.getD 0 undef]) rfl sz65 rfl rfl rfl rfl oneP (leb rfl) rfl trivial ?_
   refine .nt hK7 (.ret (.block_ret (.then_ret ?_)))
   refine AK.retG [.cell 6 65] rfl (.cons (.cell ag65 rfl bsp rfl rfl) (.nil)) (fun w hw => ⟨_, _, ?_, rfl, Ret.of (hw.pick [] (by decide) rfl rfl)⟩)
   obtain ⟨k, rfl⟩ : ∃ k, ks = [k] := List.length_eq_one_iff.1 hk1
   exact ⟨_, rfl, sk, rfl, .inr (.inl ⟨rfl, rfl⟩)⟩
  ·refine .skip (.block_normal ?_)
   refine AK.then_ (hK2 _ ?_)
   refine .sr fun _ hK8 => ?_
   refine .mv rfl (.mv rfl ?_)
   refine .v (.build (parts := [(0, .tmp 17), (2, .tmp 18)]) (cs := #[.int .i64 op, .int .i64 0, s]) rfl (by obtain ⟨_, _, _, rfl⟩ := hss; kernel_rfl)) ?_
   refine AK.storeBox 1 (us := [.int .i64 op, .int .i64 0, s]) (cs' := [.int .i64 op, .int .i64 0, s]) rfl sz65 rfl rfl rfl rfl oneP (leb rfl) rfl trivial ?_
   refine .nt hK8 (.ret ?_)
   refine AK.retG [.cell 6 65] rfl (.cons (.cell ag65 rfl bsp rfl rfl) (.nil)) (fun w hw => ⟨_, _, ?_, rfl, Ret.of (hw.pick [] (by decide) rfl rfl)⟩)
   match ks, hc0, hc1 with
   | [], h, _ => simp at h
   | [k], _, h => simp at h
   | a :: b :: l, _, _ => exact ⟨s, rfl, hss, rfl, .inr (.inr ⟨by simp, rfl⟩)⟩

end Go.Proofs.YtdnhiinakhmhgaaGreatDoor

/-
  DERIVED: THE SHELF's CONTRACTS AT THIS DUMP, IN PLAIN WORDS (tools/lay-plain.mjs out of 'TryzShelf.lean', which tools/lay-shelf.mjs wrote): THE SAME DECLARATIONS UNDER THE SAME NAMES: 'import', 'namespace', 'open', 'def', 'theorem' AND NOTHING ELSE: no command of the shelf's: FOR A HAND-IN. Each laying: the table of numbers ('.._ren') and one theorem, a field a fact of the dump's own or the kernel's comparison; each contract: ONE APPLICATION.
-/
namespace Go.Proofs
open Go.Shelf
def Tryz.lays169_ren : Go.Shelf.Ren := ⟨fun | 169 => 122 | n => n, fun | 70 => 185 | 9 => 9 | 0 => 0 | 72 => 187 | 37 => 23 | 127 => 218 | 3 => 3 | 5 => 5 | n => n, fun | n => n⟩
theorem Tryz.lays169 : Go.Proofs.Lays.n169 Tryz.prog Tryz.lays169_ren := {
  mixed := by kernel_rfl
  f169 := Tryz.func122.trans (congrArg some (by kernel_rfl))
  t0 := Tryz.underlying0
  a0 := Tryz.isAgg0
  z0 := Tryz.sizeOf0
  v0 := Tryz.zeroValue0
  t3 := Tryz.underlying3
  a3 := Tryz.isAgg3
  z3 := Tryz.sizeOf3
  v3 := Tryz.zeroValue3
  t9 := Tryz.underlying9
  a9 := Tryz.isAgg9
  z9 := Tryz.sizeOf9
  v9 := Tryz.zeroValue9
  t37 := Tryz.underlying23
  a37 := Tryz.isAgg23
  z37 := Tryz.sizeOf23
  v37 := Tryz.zeroValue23
  t70 := Tryz.underlying185
  a70 := Tryz.isAgg185
  z70 := Tryz.sizeOf185
  v70 := Tryz.zeroValue185
  t72 := Tryz.underlying187
  a72 := Tryz.isAgg187
  z72 := Tryz.sizeOf187
  v72 := Tryz.zeroValue187
  t127 := Tryz.underlying218
  a127 := Tryz.isAgg218
  z127 := Tryz.sizeOf218
  v127 := Tryz.zeroValue218 }
theorem Tryz.Builder_Extra_169 : Builder.Extra Tryz.prog Tryz.lays169_ren := {
  sizeBuilder := by kernel_rfl
  liesBuilder := by kernel_rfl
  t5 := Tryz.underlying5
  a5 := Tryz.isAgg5
  z5 := Tryz.sizeOf5
  v5 := Tryz.zeroValue5
  infoByte := by kernel_rfl
  cellsByte := by kernel_rfl
  sizeByte := by kernel_rfl
  neB5 := by decide }
open Go.RowKit in
/-- (*strings.Builder).String: "String returns the accumulated string.": WHATEVER THE BUILDER HOLDS. (LAID: no walk: one application.) -/
theorem Tryz.Builder_String_any (B b : Nat) (l : List UInt8) (w : World) (h : Lib.IsBuilder 187 5 B b (Lib.byteCells l) w) (hBw : B ≤ w.heap.size) :
    Calls Tryz.prog 122 #[.pointer (some ⟨b, 0, none⟩)] w fun e w' => e = .returned (.string ⟨l.toArray⟩) ∧ Below B w w' := Any.Builder_String_any Tryz.lays169 Tryz.Builder_Extra_169 B b l w h hBw
def Tryz.lays125_ren : Go.Shelf.Ren := ⟨fun | 125 => 111 | 128 => 142 | 129 => 143 | n => n, fun | 46 => 160 | 3 => 3 | 51 => 204 | 53 => 127 | 4 => 4 | 5 => 5 | 9 => 9 | n => n, fun | n => n⟩
theorem Tryz.lays125 : Go.Proofs.Lays.n125 Tryz.prog Tryz.lays125_ren := {
  mixed := by kernel_rfl
  f125 := Tryz.func111.trans (congrArg some (by kernel_rfl))
  f128 := Tryz.func142.trans (congrArg some (by kernel_rfl))
  f129 := Tryz.func143.trans (congrArg some (by kernel_rfl))
  t3 := Tryz.underlying3
  a3 := Tryz.isAgg3
  z3 := Tryz.sizeOf3
  v3 := Tryz.zeroValue3
  t4 := Tryz.underlying4
  a4 := Tryz.isAgg4
  z4 := Tryz.sizeOf4
  v4 := Tryz.zeroValue4
  t5 := Tryz.underlying5
  a5 := Tryz.isAgg5
  z5 := Tryz.sizeOf5
  v5 := Tryz.zeroValue5
  t9 := Tryz.underlying9
  a9 := Tryz.isAgg9
  z9 := Tryz.sizeOf9
  v9 := Tryz.zeroValue9
  t46 := Tryz.underlying160
  a46 := Tryz.isAgg160
  z46 := Tryz.sizeOf160
  v46 := Tryz.zeroValue160
  t51 := Tryz.underlying204
  a51 := Tryz.isAgg204
  z51 := Tryz.sizeOf204
  v51 := Tryz.zeroValue204
  t53 := Tryz.underlying127
  a53 := Tryz.isAgg127
  z53 := Tryz.sizeOf127
  v53 := Tryz.zeroValue127 }
/-- bits.Len: "Len returns the minimum number of bits required to represent x; the result is 0 for x == 0.": IT RETURNS 'Lib.bitLen x'; the world is as it was. (A uint has 64 bits in the model.) ITS CALLEE bits.Len64 IS MET BY ITS OWN CONTRACT OFF THE SHELF (lay that first). (LAID: no walk: one application.) -/
theorem Tryz.bits_Len (x : Int) (w : World) (h0 : 0 ≤ x) (h1 : x ≤ 18446744073709551615) :
    Calls Tryz.prog 111 #[.int .u64 x] w fun e w' => e = .returned (.int .i64 (Lib.bitLen x.toNat)) ∧ w' = w := Any.bits_Len Tryz.lays125 x w h0 h1
def Tryz.lays106_ren : Go.Shelf.Ren := ⟨fun | 106 => 116 | 213 => 148 | 265 => 169 | n => n, fun | 9 => 9 | 3 => 3 | n => n, fun | n => n⟩
theorem Tryz.lays106 : Go.Proofs.Lays.n106 Tryz.prog Tryz.lays106_ren := {
  mixed := by kernel_rfl
  f106 := Tryz.func116.trans (congrArg some (by kernel_rfl))
  f213 := Tryz.func148.trans (congrArg some (by kernel_rfl))
  f265 := Tryz.func169.trans (congrArg some (by kernel_rfl))
  t3 := Tryz.underlying3
  a3 := Tryz.isAgg3
  z3 := Tryz.sizeOf3
  v3 := Tryz.zeroValue3
  t9 := Tryz.underlying9
  a9 := Tryz.isAgg9
  z9 := Tryz.sizeOf9
  v9 := Tryz.zeroValue9 }
open Go.RowKit in
/-- strings.Compare: "Compare returns an integer comparing two strings lexicographically. The result will be 0 if a == b, -1 if a < b, and +1 if a > b.": IT RETURNS 'Lib.compareBytes a b'; the world is as it was. (LAID: no walk: one application.) -/
theorem Tryz.strings_Compare (a b : ByteArray) (w : World) :
    Calls Tryz.prog 116 #[.string a, .string b] w fun e w' => e = .returned (.int .i64 (Lib.compareBytes a.data.toList b.data.toList)) ∧ w' = w := Any.strings_Compare Tryz.lays106 a b w
end Go.Proofs

namespace Go.Proofs.YtdnhiinakhmhgaaGreatDoor
open Go.Sx Go.RowKit
theorem s_insort1 (w : World) (s f : Value) (a b : Int) (ha : 0 ≤ a ∧ a ≤ 4611686018427387904) (hb : b ≤ a + 1) : CallS Tryz.prog 192 [s, .int .i64 a, .int .i64 b, f] w (fun r o => o = []) := by
 refine spec_of Tryz.func192 rfl (leb rfl) ?_
 refine .sr fun _ hK1 => ?_
 refine .mv rfl ?_
 refine .v (.add rfl rfl (by omega)) ?_
 refine .as rfl (.nt hK1 (.block ?_))
 refine AK.loopK (X := Unit) [(0, _), (1, _), (2, _), (3, _)] (fun x => [(8, .int .i64 (a + 1))]) (fun x => []) (fun x => True) (fun x => 0) (()) slr ?_ ?_ ?_ ?_
 ·trivial
 ·exact slr
 ·exact fun w hw => hw
 ·intro x hg0 _ hK2
  refine .seq fun _ hK3 => ?_
  refine .sr fun _ hK4 => ?_
  refine .mv rfl (.mv rfl (.v (.lss rfl rfl) (.nt hK4 ?_)))
  refine AK.cond_f rfl (decide_eq_false (by omega)) ?_
  refine .exit (.then_exit (.then_exit (.block_exit ?_)))
  refine AK.endG [] rfl (.nil) (fun w hw => ⟨_, _, ?_, rfl, Ret.of (hw.pick [] (by decide) rfl rfl)⟩)
  rfl

theorem s_pdq1 (w : World) (s f : Value) (n lm : Int) (hb : 0 ≤ n ∧ n ≤ 1) : CallS Tryz.prog 190 [s, .int .i64 0, .int .i64 n, .int .i64 lm, f] w (fun r o => o = []) := by
 refine spec_of Tryz.func190 rfl (leb rfl) ?_
 refine .sr fun _ hK1 => ?_
 refine .as rfl (.nt hK1 ?_)
 refine .sr fun _ hK2 => ?_
 refine .as rfl (.nt hK2 (.block ?_))
 refine AK.loopK (X := Unit) [(0, _), (4, _)] (fun x => [(1, .int .i64 0), (2, .int .i64 n), (3, .int .i64 lm), (10, .bool true), (11, .bool true)]) (fun x => []) (fun x => True) (fun x => 0) (()) slr ?_ ?_ ?_ ?_
 ·trivial
 ·exact slr
 ·exact fun w hw => hw
 ·intro x hg0 _ hK3
  refine .block ?_
  refine .sr fun _ hK4 => ?_
  refine .mv rfl (.mv rfl ?_)
  refine .v (.sub rfl rfl (by omega)) ?_
  refine .as rfl (.nt hK4 ?_)
  refine .seq fun _ hK5 => ?_
  refine .sr fun _ hK6 => ?_
  refine .mv rfl (.v (.leq rfl rfl) (.nt hK6 ?_))
  refine AK.cond_t rfl (decide_eq_true (by omega)) ?_
  refine .sr fun _ hK7 => ?_
  refine .mv rfl (.mv rfl (.mv rfl (.mv rfl ?_)))
  refine AK.call co192 rfl (fun w hw => s_insort1 w s f 0 n (by omega) (by omega)) trivial rfl ?_
  rintro r o rfl
  refine .nt hK7 (.ret (.then_ret (.block_ret (.then_ret (.block_ret ?_)))))
  refine AK.retG [] rfl (.nil) (fun w hw => ⟨_, _, ?_, rfl, Ret.of (hw.pick [] (by decide) rfl rfl)⟩)
  rfl

theorem s_sort1 (w : World) (s f : Value) (n : Nat) (cs : List Value) (hn : n ≤ 1) (hr : Rd (fun b => ¬ (fun _ => False) b) w s 3 n cs) : CallS Tryz.prog 185 [s, f] w (fun r o => o = []) := by
 refine spec_of Tryz.func185 rfl (leb rfl) ?_
 refine .sr fun _ hK1 => ?_
 refine .mv rfl (.v (.lenR sl63 rfl rdp) (.as rfl (.nt hK1 ?_)))
 refine AK.region ?_
 refine .mv rfl (.mv rfl (.mv rfl ?_))
 refine .v (.convI (by kernel_rfl) un160 rfl (wrap_u64 (by omega))) ?_
 refine AK.call co111 rfl (fun w hw => callS_pureT (Tryz.bits_Len _ w (by omega) (by omega)) (φ := fun r o => r = .int .i64 (Lib.bitLen ((n : Int)).toNat) ∧ o = []) ⟨rfl, rfl⟩) trivial rfl ?_
 rintro r o ⟨rfl, rfl⟩
 refine .mv rfl ?_
 refine AK.call co190 rfl (fun w hw => s_pdq1 w s f n _ (by omega)) trivial rfl ?_
 rintro r o rfl
 refine .nil ?_
 refine AK.endG [] rfl (.nil) (fun w hw => ⟨_, _, ?_, rfl, Ret.of (hw.pick [] (by decide) rfl rfl)⟩)
 rfl

theorem s_compact1 (w : World) (s f : Value) (n : Nat) (cs : List Value) (hn : n ≤ 1) (hr : Rd (fun b => ¬ (fun _ => False) b) w s 3 n cs) : CallS Tryz.prog 187 [s, f] w (fun r o => r = s ∧ o = []) := by
 refine spec_of Tryz.func187 rfl (leb rfl) ?_
 refine .sr fun _ hK1 => ?_
 refine .as rfl (.nt hK1 ?_)
 refine .seq fun _ hK2 => ?_
 refine .sr fun _ hK3 => ?_
 refine .mv rfl (.v (.lenR sl63 rfl rdp) (.v (.lss rfl rfl) (.nt hK3 ?_)))
 refine AK.cond_t rfl (decide_eq_true (by omega)) ?_
 refine .sr fun _ hK4 => ?_
 refine .mv rfl (.as rfl (.nt hK4 (.ret (.then_ret ?_))))
 refine AK.ret1 rfl rfl (fun w hw => ⟨_, _, ?_, rfl, Ret.of (hw.pick [] (by decide) rfl rfl)⟩)
 exact ⟨rfl, rfl⟩

theorem s_ordered (w : World) (F : Nat → Prop) (s : Value) (ks : List Ex) (ss : List Value) (hl : ss.length = ks.length) (ks' : List Ex) (ho : ordE ks = some ks') (hA : (row s 65 3 ks.length (xcs ks ss)).holds w F) : CallM Tryz.prog 174 [s] w F (fun r A o => ∃ ss', IsSl r ∧ A = row r 65 3 ks'.length (xcs ks' ss') ∧ o = [] ∧ PSub ks' ss' ks ss) := by
 obtain ⟨hn, rfl⟩ := ordE_len ho
 have hsv := row_sl hA
 refine specM_of Tryz.func174 rfl (leb rfl) hA ?_
 refine .sr fun _ hK1 => ?_
 refine .as rfl (.nt hK1 ?_)
 refine .sr fun _ hK2 => ?_
 refine .mv rfl ?_
 refine AK.call co185 rfl (fun w hw => s_sort1 w s _ _ _ hn ((RdS.own 0 rfl w hw).mono fun b _ _ => ⟨id, rfl⟩)) trivial rfl ?_
 rintro r o rfl
 refine .nt hK2 ?_
 refine .sr fun _ hK3 => ?_
 refine .mv rfl ?_
 refine AK.call co187 rfl (fun w hw => s_compact1 w s _ _ _ hn ((RdS.own 0 rfl w hw).mono fun b _ _ => ⟨id, rfl⟩)) trivial rfl ?_
 rintro r o ⟨rfl, rfl⟩
 refine .as rfl (.nt hK3 (.ret ?_))
 refine AK.ret1 rfl rfl (fun w hw => ⟨_, _, _, ?_, rfl, Ret.of (hw.pick [0] (by decide) rfl rfl)⟩)
 exact ⟨ss, hsv, rfl, rfl, PSub.rfl hl⟩

end Go.Proofs.YtdnhiinakhmhgaaGreatDoor

namespace Go.Proofs.YtdnhiinakhmhgaaGreatDoor
open Go.Sx Go.RowKit
set_option maxHeartbeats 800000 in
theorem s_joinc (w : World) (F : Nat → Prop) (B : Bs) (l : List Itm) (hB : BsOk B w F) (hA : (forest B l).holds w F) (s : Value) (ks : List Ex) (hm : Itm.deep s ks ∈ l) (j : Ex) (hj : joinC ks = some j) : CallM Tryz.prog 150 [s] w F (fun r A o => ∃ sr l', r = .agg #[.int .i64 j.op, .int .i64 j.lt, sr] ∧ IsSl sr ∧ A = forest B l' ∧ (∀ x ∈ l, x ∈ l') ∧ Itm.deep sr j.kids ∈ l' ∧ o = []) := by
 refine specM_of Tryz.func150 rfl (leb rfl) hA ?_
 refine AK.open2 0 rfl hm fun l1 ss tss h2 => ?_
 refine .sr fun _ hK1 => ?_
 refine AK.alloc el65 rfl rfl trivial rfl (fun bx2 => ?_)
 refine .nt hK1 ?_
 refine .seq fun _ hK2 => ?_
 refine .sr fun _ hK3 => ?_
 refine .mv rfl ?_
 refine AK.call co123 rfl (fun w hw => s_contains w 158 co158 isEmptyE s ks ss h2.o.len h2.o.sls ((RdS.tree hB 0 rfl h2.o.rw w hw).mono fun b _ _ => ⟨id, rfl⟩) (fun w' hfr i hi => s_isempty w' _ _)) trivial rfl ?_
 rintro r o ⟨rfl, rfl⟩
 refine .nt hK3 ?_
 refine AK.cond rfl (fun hc0 => ?_) (fun hc0 => ?_)
 ·try simp only [bs] at hc0
  unfold joinC at hj
  rw [hc0] at hj
  simp only [if_true] at hj
  cases hj
  refine .sr fun _ hK4 => ?_
  refine AK.call co175 rfl (fun w hw => s_empty w) trivial rfl ?_
  rintro r o ⟨rfl, rfl⟩
  refine AK.storeBox 1 (us := [.int .i64 emptyE.op, .int .i64 emptyE.lt, nilV]) (cs' := [.int .i64 emptyE.op, .int .i64 emptyE.lt, nilV]) rfl sz65 rfl rfl rfl rfl oneP (leb rfl) rfl trivial ?_
  refine .nt hK4 (.ret (.then_ret ?_))
  refine AK.add' 0 (.deep nilV []) rfl (fun R => RdK.nil R) (fun l2 hs2 hm2 => ?_)
  refine AK.retG [.cell 2 65] rfl (.cons (.cell ag65 rfl bsp rfl rfl) (.nil)) (fun w hw => ⟨_, _, _, ?_, rfl, Ret.of (hw.pick [0] (by decide) rfl rfl)⟩)
  exact ⟨nilV, l2, rfl, nilSl, rfl, fun x hx => hs2 _ (h2.o.sub x hx), hm2, rfl⟩
 ·try simp only [bs] at hc0
  unfold joinC at hj
  rw [hc0] at hj
  simp only [Bool.false_eq_true, if_false] at hj
  obtain ⟨p, hp, hj⟩ := bind_some hj
  obtain ⟨rfl, hlim⟩ := lim_some hp
  cases hj
  refine .skip ?_
  refine AK.then_ (hK2 _ ?_)
  refine .sr fun _ hK5 => ?_
  refine .mv rfl ?_
  refine AK.call co172 rfl (fun w hw => s_flatten w 5 s ks ss tss h2.o.len h2.tl (fun i hi => (h2.each i hi).len) ((RdS.tree hB 0 rfl h2.o.rw w hw).mono fun b _ _ => ⟨id, rfl⟩) (fun i hi => ((RdS.tree hB 0 rfl (h2.each i hi).rw w hw).mono fun b _ _ => ⟨id, rfl⟩)) h2.o.sls (fun i hi j hj => (h2.each i hi).sls j hj) hlim) trivial rfl ?_
  rintro pv o ⟨spv, rfl⟩
  refine AK.callN 2 rfl co171 rfl (fun w Fs hw hh hfr hal => s_delete w (Fs 2) 176 co176 isUnitE pv (flatE 5 ks) (flatS 5 ks ss tss) (h2.flat 5).1 (fun i hi => ((h2.flat 5).2 i hi).2) (hh.at_ 2 _ rfl) (fun w' hfr2 i hi => s_isunit w' _ _)) trivial rfl ?_
  rintro v2 A o ⟨ss2, sv2, rfl, rfl, ps⟩
  refine .as rfl (.nt hK5 ?_)
  refine .sr fun _ hK6 => ?_
  refine .mv rfl ?_
  refine AK.call co152 rfl (fun w hw => s_unit w) trivial rfl ?_
  rintro r o ⟨rfl, rfl⟩
  refine AK.call co173 rfl (fun w hw => s_collect w 5 v2 _ ss2 ps.len ((RdS.own 2 rfl w hw).mono fun b _ _ => ⟨id, rfl⟩) unitE nilV (ps.sls fun i hi => ((h2.flat 5).2 i hi).2) nilSl) trivial rfl ?_
  rintro r o ⟨sr, rfl, ssr, rfl, hcase⟩
  refine AK.storeBox 1 (us := [.int .i64 (collectE 5 ((flatE 5 ks).filter fun e => !isUnitE e) unitE).op, .int .i64 (collectE 5 ((flatE 5 ks).filter fun e => !isUnitE e) unitE).lt, sr]) (cs' := [.int .i64 (collectE 5 ((flatE 5 ks).filter fun e => !isUnitE e) unitE).op, .int .i64 (collectE 5 ((flatE 5 ks).filter fun e => !isUnitE e) unitE).lt, sr]) rfl sz65 rfl rfl rfl rfl oneP (leb rfl) rfl trivial ?_
  refine .nt hK6 (.ret ?_)
  refine AK.close' 0 2 _ ss2 (by decide) rfl rfl rfl rfl ps.len (ps.deep fun k hk => ((h2.flat 5).2 k hk).1) (fun l2 hs2 hm2 hr2 => ?_)
  refine AK.add' 0 (.deep nilV []) rfl (fun R => RdK.nil R) (fun l3 hs3 hm3 => ?_)
  refine AK.retG [.cell 2 65] rfl (.cons (.cell ag65 rfl bsp rfl rfl) (.nil)) (fun w hw => ⟨_, _, _, ?_, rfl, Ret.of (hw.pick [0] (by decide) rfl rfl)⟩)
  exact ⟨sr, l3, rfl, ssr, rfl, fun x hx => hs3 _ (hs2 _ (h2.o.sub x hx)), collect_deep (fun k hk => hs3 _ (hs2 _ (ps.deep (fun k hk => ((h2.flat 5).2 k hk).1) k hk))) (hs3 _ hm2) hm3 hcase, rfl⟩

set_option maxHeartbeats 800000 in
theorem s_joinu (w : World) (F : Nat → Prop) (B : Bs) (l : List Itm) (hB : BsOk B w F) (hA : (forest B l).holds w F) (s : Value) (ks : List Ex) (hm : Itm.deep s ks ∈ l) (j : Ex) (hj : joinU ks = some j) : CallM Tryz.prog 149 [s] w F (fun r A o => ∃ sr l', r = .agg #[.int .i64 j.op, .int .i64 j.lt, sr] ∧ IsSl sr ∧ A = forest B l' ∧ (∀ x ∈ l, x ∈ l') ∧ Itm.deep sr j.kids ∈ l' ∧ o = []) := by
 refine specM_of Tryz.func149 rfl (leb rfl) hA ?_
 refine AK.open2 0 rfl hm fun l1 ss tss h2 => ?_
 refine .sr fun _ hK1 => ?_
 refine AK.alloc el65 rfl rfl trivial rfl (fun bx2 => ?_)
 refine .nt hK1 ?_
 refine .seq fun _ hK2 => ?_
 refine .sr fun _ hK3 => ?_
 refine .mv rfl ?_
 refine AK.call co123 rfl (fun w hw => s_contains w 126 co126 isUnivE s ks ss h2.o.len h2.o.sls ((RdS.tree hB 0 rfl h2.o.rw w hw).mono fun b _ _ => ⟨id, rfl⟩) (fun w' hfr i hi => s_isuniv w' _ _ ((hw.kidR hB 0 rfl (h2.o.kid i hi)).fr hfr))) trivial rfl ?_
 rintro r o ⟨rfl, rfl⟩
 refine .nt hK3 ?_
 refine AK.cond rfl (fun hc0 => ?_) (fun hc0 => ?_)
 ·try simp only [bs] at hc0
  unfold joinU at hj
  rw [hc0] at hj
  simp only [if_true] at hj
  cases hj
  refine .sr fun _ hK4 => ?_
  refine AK.call co170 rfl (fun w hw => s_univ w) trivial rfl ?_
  rintro r o ⟨us, rfl, rfl⟩
  refine AK.shape 2 rfl (fun sus => ?_)
  refine AK.storeBox 1 (us := [.int .i64 univE.op, .int .i64 univE.lt, us]) (cs' := [.int .i64 univE.op, .int .i64 univE.lt, us]) rfl sz65 rfl rfl rfl rfl oneP (leb rfl) rfl trivial ?_
  refine .nt hK4 (.ret (.then_ret ?_))
  refine AK.add' 0 (.deep nilV []) rfl (fun R => RdK.nil R) (fun l2 hs2 hm2 => ?_)
  refine AK.close' 0 2 [emptyE] [nilV] (by decide) rfl rfl rfl rfl rfl (one_deep hm2) (fun l3 hs3 hm3 hr3 => ?_)
  refine AK.retG [.cell 2 65] rfl (.cons (.cell ag65 rfl bsp rfl rfl) (.nil)) (fun w hw => ⟨_, _, _, ?_, rfl, Ret.of (hw.pick [0] (by decide) rfl rfl)⟩)
  exact ⟨us, l3, rfl, sus, rfl, fun x hx => hs3 _ (hs2 _ (h2.o.sub x hx)), hm3, rfl⟩
 ·try simp only [bs] at hc0
  unfold joinU at hj
  rw [hc0] at hj
  simp only [Bool.false_eq_true, if_false] at hj
  obtain ⟨p, hp, hj⟩ := bind_some hj
  obtain ⟨rfl, hlim⟩ := lim_some hp
  obtain ⟨q, hq, hj⟩ := bind_some hj
  cases hj
  refine .skip ?_
  refine AK.then_ (hK2 _ ?_)
  refine .sr fun _ hK5 => ?_
  refine .mv rfl ?_
  refine AK.call co172 rfl (fun w hw => s_flatten w 4 s ks ss tss h2.o.len h2.tl (fun i hi => (h2.each i hi).len) ((RdS.tree hB 0 rfl h2.o.rw w hw).mono fun b _ _ => ⟨id, rfl⟩) (fun i hi => ((RdS.tree hB 0 rfl (h2.each i hi).rw w hw).mono fun b _ _ => ⟨id, rfl⟩)) h2.o.sls (fun i hi j hj => (h2.each i hi).sls j hj) hlim) trivial rfl ?_
  rintro pv o ⟨spv, rfl⟩
  refine AK.callN 2 rfl co171 rfl (fun w Fs hw hh hfr hal => s_delete w (Fs 2) 158 co158 isEmptyE pv (flatE 4 ks) (flatS 4 ks ss tss) (h2.flat 4).1 (fun i hi => ((h2.flat 4).2 i hi).2) (hh.at_ 2 _ rfl) (fun w' hfr2 i hi => s_isempty w' _ _)) trivial rfl ?_
  rintro v2 A o ⟨ss2, sv2, rfl, rfl, ps⟩
  refine .as rfl (.nt hK5 ?_)
  refine .sr fun _ hK6 => ?_
  refine .mv rfl ?_
  refine AK.callN 2 rfl co174 rfl (fun w Fs hw hh hfr hal => s_ordered w (Fs 2) v2 _ ss2 ps.len q hq (hh.at_ 2 _ rfl)) trivial rfl ?_
  rintro v3 A o ⟨ss3, sv3, rfl, rfl, ps3⟩
  refine AK.call co175 rfl (fun w hw => s_empty w) trivial rfl ?_
  rintro r o ⟨rfl, rfl⟩
  refine AK.call co173 rfl (fun w hw => s_collect w 4 v3 _ ss3 ps3.len ((RdS.own 2 rfl w hw).mono fun b _ _ => ⟨id, rfl⟩) emptyE nilV ((ps3.trans ps).sls fun i hi => ((h2.flat 4).2 i hi).2) nilSl) trivial rfl ?_
  rintro r o ⟨sr, rfl, ssr, rfl, hcase⟩
  refine AK.storeBox 1 (us := [.int .i64 (collectE 4 q emptyE).op, .int .i64 (collectE 4 q emptyE).lt, sr]) (cs' := [.int .i64 (collectE 4 q emptyE).op, .int .i64 (collectE 4 q emptyE).lt, sr]) rfl sz65 rfl rfl rfl rfl oneP (leb rfl) rfl trivial ?_
  refine .nt hK6 (.ret ?_)
  refine AK.close' 0 2 _ ss3 (by decide) rfl rfl rfl rfl ps3.len ((ps3.trans ps).deep fun k hk => ((h2.flat 4).2 k hk).1) (fun l2 hs2 hm2 hr2 => ?_)
  refine AK.add' 0 (.deep nilV []) rfl (fun R => RdK.nil R) (fun l3 hs3 hm3 => ?_)
  refine AK.retG [.cell 2 65] rfl (.cons (.cell ag65 rfl bsp rfl rfl) (.nil)) (fun w hw => ⟨_, _, _, ?_, rfl, Ret.of (hw.pick [0] (by decide) rfl rfl)⟩)
  exact ⟨sr, l3, rfl, ssr, rfl, fun x hx => hs3 _ (hs2 _ (h2.o.sub x hx)), collect_deep (fun k hk => hs3 _ (hs2 _ ((ps3.trans ps).deep (fun k hk => ((h2.flat 4).2 k hk).1) k hk))) (hs3 _ hm2) hm3 hcase, rfl⟩

set_option maxHeartbeats 800000 in
theorem s_joina (w : World) (F : Nat → Prop) (B : Bs) (l : List Itm) (hB : BsOk B w F) (hA : (forest B l).holds w F) (s : Value) (ks : List Ex) (hm : Itm.deep s ks ∈ l) (j : Ex) (hj : joinA ks = some j) : CallM Tryz.prog 151 [s] w F (fun r A o => ∃ sr l', r = .agg #[.int .i64 j.op, .int .i64 j.lt, sr] ∧ IsSl sr ∧ A = forest B l' ∧ (∀ x ∈ l, x ∈ l') ∧ Itm.deep sr j.kids ∈ l' ∧ o = []) := by
 refine specM_of Tryz.func151 rfl (leb rfl) hA ?_
 refine AK.open2 0 rfl hm fun l1 ss tss h2 => ?_
 refine .sr fun _ hK1 => ?_
 refine AK.alloc el65 rfl rfl trivial rfl (fun bx2 => ?_)
 refine .nt hK1 ?_
 refine .seq fun _ hK2 => ?_
 refine .sr fun _ hK3 => ?_
 refine .mv rfl ?_
 refine AK.call co123 rfl (fun w hw => s_contains w 158 co158 isEmptyE s ks ss h2.o.len h2.o.sls ((RdS.tree hB 0 rfl h2.o.rw w hw).mono fun b _ _ => ⟨id, rfl⟩) (fun w' hfr i hi => s_isempty w' _ _)) trivial rfl ?_
 rintro r o ⟨rfl, rfl⟩
 refine .nt hK3 ?_
 refine AK.cond rfl (fun hc0 => ?_) (fun hc0 => ?_)
 ·try simp only [bs] at hc0
  unfold joinA at hj
  rw [hc0] at hj
  simp only [if_true] at hj
  cases hj
  refine .sr fun _ hK4 => ?_
  refine AK.call co175 rfl (fun w hw => s_empty w) trivial rfl ?_
  rintro r o ⟨rfl, rfl⟩
  refine AK.storeBox 1 (us := [.int .i64 emptyE.op, .int .i64 emptyE.lt, nilV]) (cs' := [.int .i64 emptyE.op, .int .i64 emptyE.lt, nilV]) rfl sz65 rfl rfl rfl rfl oneP (leb rfl) rfl trivial ?_
  refine .nt hK4 (.ret (.then_ret ?_))
  refine AK.add' 0 (.deep nilV []) rfl (fun R => RdK.nil R) (fun l2 hs2 hm2 => ?_)
  refine AK.retG [.cell 2 65] rfl (.cons (.cell ag65 rfl bsp rfl rfl) (.nil)) (fun w hw => ⟨_, _, _, ?_, rfl, Ret.of (hw.pick [0] (by decide) rfl rfl)⟩)
  exact ⟨nilV, l2, rfl, nilSl, rfl, fun x hx => hs2 _ (h2.o.sub x hx), hm2, rfl⟩
 ·try simp only [bs] at hc0
  unfold joinA at hj
  rw [hc0] at hj
  simp only [Bool.false_eq_true, if_false] at hj
  obtain ⟨p, hp, hj⟩ := bind_some hj
  obtain ⟨rfl, hlim⟩ := lim_some hp
  obtain ⟨q, hq, hj⟩ := bind_some hj
  cases hj
  refine .skip ?_
  refine AK.then_ (hK2 _ ?_)
  refine .sr fun _ hK5 => ?_
  refine .mv rfl ?_
  refine AK.call co172 rfl (fun w hw => s_flatten w 6 s ks ss tss h2.o.len h2.tl (fun i hi => (h2.each i hi).len) ((RdS.tree hB 0 rfl h2.o.rw w hw).mono fun b _ _ => ⟨id, rfl⟩) (fun i hi => ((RdS.tree hB 0 rfl (h2.each i hi).rw w hw).mono fun b _ _ => ⟨id, rfl⟩)) h2.o.sls (fun i hi j hj => (h2.each i hi).sls j hj) hlim) trivial rfl ?_
  rintro pv o ⟨spv, rfl⟩
  refine AK.callN 2 rfl co171 rfl (fun w Fs hw hh hfr hal => s_delete w (Fs 2) 126 co126 isUnivE pv (flatE 6 ks) (flatS 6 ks ss tss) (h2.flat 6).1 (fun i hi => ((h2.flat 6).2 i hi).2) (hh.at_ 2 _ rfl) (fun w' hfr2 i hi => s_isuniv w' _ _ ((hh.kidR hB 0 2 (by decide) rfl ((h2.flat 6).2 i hi).1 hfr hal).fr hfr2).wk)) trivial rfl ?_
  rintro v2 A o ⟨ss2, sv2, rfl, rfl, ps⟩
  refine .as rfl (.nt hK5 ?_)
  refine .sr fun _ hK6 => ?_
  refine .mv rfl ?_
  refine AK.callN 2 rfl co174 rfl (fun w Fs hw hh hfr hal => s_ordered w (Fs 2) v2 _ ss2 ps.len q hq (hh.at_ 2 _ rfl)) trivial rfl ?_
  rintro v3 A o ⟨ss3, sv3, rfl, rfl, ps3⟩
  refine AK.call co170 rfl (fun w hw => s_univ w) trivial rfl ?_
  rintro r o ⟨us, rfl, rfl⟩
  refine AK.shape 3 rfl (fun sus => ?_)
  refine AK.call co173 rfl (fun w hw => s_collect w 6 v3 _ ss3 ps3.len ((RdS.own 2 rfl w hw).mono fun b _ _ => ⟨id, rfl⟩) univE us ((ps3.trans ps).sls fun i hi => ((h2.flat 6).2 i hi).2) sus) trivial rfl ?_
  rintro r o ⟨sr, rfl, ssr, rfl, hcase⟩
  refine AK.storeBox 1 (us := [.int .i64 (collectE 6 q univE).op, .int .i64 (collectE 6 q univE).lt, sr]) (cs' := [.int .i64 (collectE 6 q univE).op, .int .i64 (collectE 6 q univE).lt, sr]) rfl sz65 rfl rfl rfl rfl oneP (leb rfl) rfl trivial ?_
  refine .nt hK6 (.ret ?_)
  refine AK.close' 0 2 _ ss3 (by decide) rfl rfl rfl rfl ps3.len ((ps3.trans ps).deep fun k hk => ((h2.flat 6).2 k hk).1) (fun l2 hs2 hm2 hr2 => ?_)
  refine AK.add' 0 (.deep nilV []) rfl (fun R => RdK.nil R) (fun l3 hs3 hm3 => ?_)
  refine AK.close' 0 3 [emptyE] [nilV] (by decide) rfl rfl rfl rfl rfl (one_deep hm3) (fun l4 hs4 hm4 hr4 => ?_)
  refine AK.retG [.cell 2 65] rfl (.cons (.cell ag65 rfl bsp rfl rfl) (.nil)) (fun w hw => ⟨_, _, _, ?_, rfl, Ret.of (hw.pick [0] (by decide) rfl rfl)⟩)
  exact ⟨sr, l4, rfl, ssr, rfl, fun x hx => hs4 _ (hs3 _ (hs2 _ (h2.o.sub x hx))), collect_deep (fun k hk => hs4 _ (hs3 _ (hs2 _ ((ps3.trans ps).deep (fun k hk => ((h2.flat 6).2 k hk).1) k hk)))) (hs4 _ (hs3 _ hm2)) hm4 hcase, rfl⟩

end Go.Proofs.YtdnhiinakhmhgaaGreatDoor
