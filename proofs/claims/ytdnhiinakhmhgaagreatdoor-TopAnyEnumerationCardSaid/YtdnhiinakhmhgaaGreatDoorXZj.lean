import Derived.Shelf.Strings.Builder1
import Derived.Shelf.Small.Bits
import Derived.Shelf.Small.Strs
import Derived.Shelf.Small.Wraps
import Derived.Shelf.Strconv.Itoa0
import Derived.Test.YtdnhiinakhmhgaaGreatDoorProg
import Derived.Test.YtdnhiinakhmhgaaGreatDoorXZi
import Derived.Test.YtdnhiinakhmhgaaGreatDoorXZf
import Derived.Test.YtdnhiinakhmhgaaGreatDoorXZg
set_option linter.unusedVariables false
set_option linter.unusedSimpArgs false
set_option maxRecDepth 100000
/-
  DERIVED: THE SHELF's CONTRACTS AT THIS DUMP, IN PLAIN WORDS (tools/lay-plain.mjs out of 'TryzShelf.lean', which tools/lay-shelf.mjs wrote): THE SAME DECLARATIONS UNDER THE SAME NAMES: 'import', 'namespace', 'open', 'def', 'theorem' AND NOTHING ELSE: no command of the shelf's: FOR A HAND-IN. Each laying: the table of numbers ('.._ren') and one theorem, a field a fact of the dump's own or the kernel's comparison; each contract: ONE APPLICATION.
-/
namespace Go.Proofs
open Go.Shelf
def Tryz.lays169_ren : Go.Shelf.Ren := ⟨fun | 169 => 122 | n => n, fun | 70 => 185 | 9 => 9 | 0 => 0 | 72 => 187 | 37 => 23 | 127 => 218 | 3 => 3 | 5 => 5 | n => n, fun | n => n⟩
theorem Tryz.lays169 : Go.Proofs.Lays.n169 Tryz.prog Tryz.lays169_ren := {
  mixed := by kernel_rfl
  f169 := Tryz.func122.trans (congrArg some (by kernel_rfl))
  t0 := Tryz.underlying0
  a0 := Tryz.isAgg0
  z0 := Tryz.sizeOf0
  v0 := Tryz.zeroValue0
  t3 := Tryz.underlying3
  a3 := Tryz.isAgg3
  z3 := Tryz.sizeOf3
  v3 := Tryz.zeroValue3
  t9 := Tryz.underlying9
  a9 := Tryz.isAgg9
  z9 := Tryz.sizeOf9
  v9 := Tryz.zeroValue9
  t37 := Tryz.underlying23
  a37 := Tryz.isAgg23
  z37 := Tryz.sizeOf23
  v37 := Tryz.zeroValue23
  t70 := Tryz.underlying185
  a70 := Tryz.isAgg185
  z70 := Tryz.sizeOf185
  v70 := Tryz.zeroValue185
  t72 := Tryz.underlying187
  a72 := Tryz.isAgg187
  z72 := Tryz.sizeOf187
  v72 := Tryz.zeroValue187
  t127 := Tryz.underlying218
  a127 := Tryz.isAgg218
  z127 := Tryz.sizeOf218
  v127 := Tryz.zeroValue218 }
theorem Tryz.Builder_Extra_169 : Builder.Extra Tryz.prog Tryz.lays169_ren := {
  sizeBuilder := by kernel_rfl
  liesBuilder := by kernel_rfl
  t5 := Tryz.underlying5
  a5 := Tryz.isAgg5
  z5 := Tryz.sizeOf5
  v5 := Tryz.zeroValue5
  infoByte := by kernel_rfl
  cellsByte := by kernel_rfl
  sizeByte := by kernel_rfl
  neB5 := by decide }
open Go.RowKit in
/-- (*strings.Builder).String: "String returns the accumulated string.": WHATEVER THE BUILDER HOLDS. (LAID: no walk: one application.) -/
theorem Tryz.Builder_String_any (B b : Nat) (l : List UInt8) (w : World) (h : Lib.IsBuilder 187 5 B b (Lib.byteCells l) w) (hBw : B ≤ w.heap.size) :
    Calls Tryz.prog 122 #[.pointer (some ⟨b, 0, none⟩)] w fun e w' => e = .returned (.string ⟨l.toArray⟩) ∧ Below B w w' := Any.Builder_String_any Tryz.lays169 Tryz.Builder_Extra_169 B b l w h hBw
def Tryz.lays125_ren : Go.Shelf.Ren := ⟨fun | 125 => 111 | 128 => 142 | 129 => 143 | n => n, fun | 46 => 160 | 3 => 3 | 51 => 204 | 53 => 127 | 4 => 4 | 5 => 5 | 9 => 9 | n => n, fun | n => n⟩
theorem Tryz.lays125 : Go.Proofs.Lays.n125 Tryz.prog Tryz.lays125_ren := {
  mixed := by kernel_rfl
  f125 := Tryz.func111.trans (congrArg some (by kernel_rfl))
  f128 := Tryz.func142.trans (congrArg some (by kernel_rfl))
  f129 := Tryz.func143.trans (congrArg some (by kernel_rfl))
  t3 := Tryz.underlying3
  a3 := Tryz.isAgg3
  z3 := Tryz.sizeOf3
  v3 := Tryz.zeroValue3
  t4 := Tryz.underlying4
  a4 := Tryz.isAgg4
  z4 := Tryz.sizeOf4
  v4 := Tryz.zeroValue4
  t5 := Tryz.underlying5
  a5 := Tryz.isAgg5
  z5 := Tryz.sizeOf5
  v5 := Tryz.zeroValue5
  t9 := Tryz.underlying9
  a9 := Tryz.isAgg9
  z9 := Tryz.sizeOf9
  v9 := Tryz.zeroValue9
  t46 := Tryz.underlying160
  a46 := Tryz.isAgg160
  z46 := Tryz.sizeOf160
  v46 := Tryz.zeroValue160
  t51 := Tryz.underlying204
  a51 := Tryz.isAgg204
  z51 := Tryz.sizeOf204
  v51 := Tryz.zeroValue204
  t53 := Tryz.underlying127
  a53 := Tryz.isAgg127
  z53 := Tryz.sizeOf127
  v53 := Tryz.zeroValue127 }
/-- bits.Len: "Len returns the minimum number of bits required to represent x; the result is 0 for x == 0.": IT RETURNS 'Lib.bitLen x'; the world is as it was. (A uint has 64 bits in the model.) ITS CALLEE bits.Len64 IS MET BY ITS OWN CONTRACT OFF THE SHELF (lay that first). (LAID: no walk: one application.) -/
theorem Tryz.bits_Len (x : Int) (w : World) (h0 : 0 ≤ x) (h1 : x ≤ 18446744073709551615) :
    Calls Tryz.prog 111 #[.int .u64 x] w fun e w' => e = .returned (.int .i64 (Lib.bitLen x.toNat)) ∧ w' = w := Any.bits_Len Tryz.lays125 x w h0 h1
end Go.Proofs

namespace Go.Proofs.YtdnhiinakhmhgaaGreatDoor
open Go.Sx Go.RowKit
theorem s_insort1 (w : World) (s f : Value) (a b : Int) (ha : 0 ≤ a ∧ a ≤ 4611686018427387904) (hb : b ≤ a + 1) : CallS Tryz.prog 192 [s, .int .i64 a, .int .i64 b, f] w (fun r o => o = []) := by
 refine spec_of Tryz.func192 rfl (leb rfl) ?_
 refine .sr fun _ hK1 => ?_
 refine .mv rfl ?_
 refine .v (.add rfl rfl (by omega)) ?_
 refine .as rfl (.nt hK1 (.block ?_))
 refine AK.loopK (X := Unit) [(0, _), (1, _), (2, _), (3, _)] (fun x => [(8, .int .i64 (a + 1))]) (fun x => []) (fun x => True) (fun x => 0) (()) slr ?_ ?_ ?_ ?_
 ·trivial
 ·exact slr
 ·exact fun w hw => hw
 ·intro x hg0 _ hK2
  refine .seq fun _ hK3 => ?_
  refine .sr fun _ hK4 => ?_
  refine .mv rfl (.mv rfl ?_)
  refine .v (.lss rfl rfl) ?_
  refine .nt hK4 ?_
  refine AK.cond_f rfl (decide_eq_false (by omega)) ?_
  refine .exit (.then_exit (.then_exit (.block_exit ?_)))
  refine AK.endG [] rfl (.nil) (fun w hw => ⟨_, _, ?_, rfl, Ret.of (hw.pick [] (by decide) rfl rfl)⟩)
  rfl

theorem s_pdq1 (w : World) (s f : Value) (n lm : Int) (hb : 0 ≤ n ∧ n ≤ 1) : CallS Tryz.prog 190 [s, .int .i64 0, .int .i64 n, .int .i64 lm, f] w (fun r o => o = []) := by
 refine spec_of Tryz.func190 rfl (leb rfl) ?_
 refine .sr fun _ hK1 => ?_
 refine .as rfl (.nt hK1 ?_)
 refine .sr fun _ hK2 => ?_
 refine .as rfl (.nt hK2 (.block ?_))
 refine AK.loopK (X := Unit) [(0, _), (4, _)] (fun x => [(1, .int .i64 0), (2, .int .i64 n), (3, .int .i64 lm), (10, .bool true), (11, .bool true)]) (fun x => []) (fun x => True) (fun x => 0) (()) slr ?_ ?_ ?_ ?_
 ·trivial
 ·exact slr
 ·exact fun w hw => hw
 ·intro x hg0 _ hK3
  refine .block ?_
  refine .sr fun _ hK4 => ?_
  refine .mv rfl (.mv rfl ?_)
  refine .v (.sub rfl rfl (by omega)) ?_
  refine .as rfl (.nt hK4 ?_)
  refine .seq fun _ hK5 => ?_
  refine .sr fun _ hK6 => ?_
  refine .mv rfl ?_
  refine .v (.leq rfl rfl) ?_
  refine .nt hK6 ?_
  refine AK.cond_t rfl (decide_eq_true (by omega)) ?_
  refine .sr fun _ hK7 => ?_
  refine .mv rfl (.mv rfl (.mv rfl (.mv rfl ?_)))
  refine AK.call co192 rfl (fun w hw => s_insort1 w s f 0 n (by omega) (by omega)) trivial rfl ?_
  rintro r o rfl
  refine .nt hK7 (.ret (.then_ret (.block_ret (.then_ret (.block_ret ?_)))))
  refine AK.retG [] rfl (.nil) (fun w hw => ⟨_, _, ?_, rfl, Ret.of (hw.pick [] (by decide) rfl rfl)⟩)
  rfl

theorem s_sort1 (w : World) (s f : Value) (n : Nat) (cs : List Value) (hn : n ≤ 1) (hr : Rd (fun b => ¬ (fun _ => False) b) w s 3 n cs) : CallS Tryz.prog 185 [s, f] w (fun r o => o = []) := by
 refine spec_of Tryz.func185 rfl (leb rfl) ?_
 refine .sr fun _ hK1 => ?_
 refine .mv rfl ?_
 refine .v (.lenR sl63 rfl rdp) ?_
 refine .as rfl (.nt hK1 ?_)
 refine AK.region ?_
 refine .mv rfl (.mv rfl (.mv rfl ?_))
 refine .v (.convI (by kernel_rfl) un160 rfl (wrap_u64 (by omega))) ?_
 refine AK.call co111 rfl (fun w hw => callS_pureT (Tryz.bits_Len _ w (by omega) (by omega)) (φ := fun r o => r = .int .i64 (Lib.bitLen ((n : Int)).toNat) ∧ o = []) ⟨rfl, rfl⟩) trivial rfl ?_
 rintro r o ⟨rfl, rfl⟩
 refine .mv rfl ?_
 refine AK.call co190 rfl (fun w hw => s_pdq1 w s f n _ (by omega)) trivial rfl ?_
 rintro r o rfl
 refine .nil ?_
 refine AK.endG [] rfl (.nil) (fun w hw => ⟨_, _, ?_, rfl, Ret.of (hw.pick [] (by decide) rfl rfl)⟩)
 rfl

theorem s_compact1 (w : World) (s f : Value) (n : Nat) (cs : List Value) (hn : n ≤ 1) (hr : Rd (fun b => ¬ (fun _ => False) b) w s 3 n cs) : CallS Tryz.prog 187 [s, f] w (fun r o => r = s ∧ o = []) := by
 refine spec_of Tryz.func187 rfl (leb rfl) ?_
 refine .sr fun _ hK1 => ?_
 refine .as rfl (.nt hK1 ?_)
 refine .seq fun _ hK2 => ?_
 refine .sr fun _ hK3 => ?_
 refine .mv rfl ?_
 refine .v (.lenR sl63 rfl rdp) ?_
 refine .v (.lss rfl rfl) ?_
 refine .nt hK3 ?_
 refine AK.cond_t rfl (decide_eq_true (by omega)) ?_
 refine .sr fun _ hK4 => ?_
 refine .mv rfl (.as rfl (.nt hK4 (.ret (.then_ret ?_))))
 refine AK.ret1 rfl rfl (fun w hw => ⟨_, _, ?_, rfl, Ret.of (hw.pick [] (by decide) rfl rfl)⟩)
 exact ⟨rfl, rfl⟩

theorem s_ordered (w : World) (F : Nat → Prop) (s : Value) (ks : List Ex) (ss : List Value) (hl : ss.length = ks.length) (ks' : List Ex) (ho : ordE ks = some ks') (hA : (row s 65 3 ks.length (xcs ks ss)).holds w F) : CallM Tryz.prog 174 [s] w F (fun r A o => ∃ ss', IsSl r ∧ A = row r 65 3 ks'.length (xcs ks' ss') ∧ o = [] ∧ PSub ks' ss' ks ss) := by
 obtain ⟨hn, rfl⟩ := ordE_len ho
 have hsv := row_sl hA
 refine specM_of Tryz.func174 rfl (leb rfl) hA ?_
 refine .sr fun _ hK1 => ?_
 refine .as rfl (.nt hK1 ?_)
 refine .sr fun _ hK2 => ?_
 refine .mv rfl ?_
 refine AK.call co185 rfl (fun w hw => s_sort1 w s _ _ _ hn ((RdS.own 0 rfl w hw).mono fun b _ _ => ⟨id, rfl⟩)) trivial rfl ?_
 rintro r o rfl
 refine .nt hK2 ?_
 refine .sr fun _ hK3 => ?_
 refine .mv rfl ?_
 refine AK.call co187 rfl (fun w hw => s_compact1 w s _ _ _ hn ((RdS.own 0 rfl w hw).mono fun b _ _ => ⟨id, rfl⟩)) trivial rfl ?_
 rintro r o ⟨rfl, rfl⟩
 refine .as rfl (.nt hK3 (.ret ?_))
 refine AK.ret1 rfl rfl (fun w hw => ⟨_, _, _, ?_, rfl, Ret.of (hw.pick [0] (by decide) rfl rfl)⟩)
 exact ⟨ss, hsv, rfl, rfl, PSub.rfl hl⟩

end Go.Proofs.YtdnhiinakhmhgaaGreatDoor

namespace Go.Proofs.YtdnhiinakhmhgaaGreatDoor
open Go.Sx Go.RowKit
set_option maxHeartbeats 800000 in
theorem s_joinc (w : World) (F : Nat → Prop) (B : Bs) (l : List Itm) (hB : BsOk B w F) (hA : (forest B l).holds w F) (s : Value) (ks : List Ex) (hm : Itm.deep s ks ∈ l) (j : Ex) (hj : joinC ks = some j) : CallM Tryz.prog 150 [s] w F (fun r A o => ∃ sr l', r = .agg #[.int .i64 j.op, .int .i64 j.lt, sr] ∧ IsSl sr ∧ A = forest B l' ∧ (∀ x ∈ l, x ∈ l') ∧ Itm.deep sr j.kids ∈ l' ∧ o = []) := by
 refine specM_of Tryz.func150 rfl (leb rfl) hA ?_
 refine AK.open2 0 rfl hm fun l1 ss tss h2 => ?_
 refine .sr fun _ hK1 => ?_
 refine AK.alloc el65 rfl rfl trivial rfl (fun bx2 => ?_)
 refine .nt hK1 ?_
 refine .seq fun _ hK2 => ?_
 refine .sr fun _ hK3 => ?_
 refine .mv rfl ?_
 refine AK.call co123 rfl (fun w hw => s_contains w 158 co158 isEmptyE s ks ss h2.o.len h2.o.sls ((RdS.tree hB 0 rfl h2.o.rw w hw).mono fun b _ _ => ⟨id, rfl⟩) (fun w' hfr i hi => s_isempty w' _ _)) trivial rfl ?_
 rintro r o ⟨rfl, rfl⟩
 refine .nt hK3 ?_
 refine AK.cond rfl (fun hc0 => ?_) (fun hc0 => ?_)
 ·try simp only [bs] at hc0
  unfold joinC at hj
  rw [hc0] at hj
  simp only [if_true] at hj
  cases hj
  refine .sr fun _ hK4 => ?_
  refine AK.call co175 rfl (fun w hw => s_empty w) trivial rfl ?_
  rintro r o ⟨rfl, rfl⟩
  refine AK.storeBox 1 (us := [.int .i64 emptyE.op, .int .i64 emptyE.lt, nilV]) (cs' := [.int .i64 emptyE.op, .int .i64 emptyE.lt, nilV]) rfl sz65 rfl rfl rfl rfl oneP (leb rfl) rfl trivial ?_
  refine .nt hK4 (.ret (.then_ret ?_))
  refine AK.add' 0 (.deep nilV []) rfl (fun R => RdK.nil R) (fun l2 hs2 hm2 => ?_)
  refine AK.retG [.cell 2 65] rfl (.cons (.cell ag65 rfl bsp rfl rfl) (.nil)) (fun w hw => ⟨_, _, _, ?_, rfl, Ret.of (hw.pick [0] (by decide) rfl rfl)⟩)
  exact ⟨nilV, l2, rfl, nilSl, rfl, fun x hx => hs2 _ (h2.o.sub x hx), hm2, rfl⟩
 ·try simp only [bs] at hc0
  unfold joinC at hj
  rw [hc0] at hj
  simp only [Bool.false_eq_true, if_false] at hj
  obtain ⟨p, hp, hj⟩ := bind_some hj
  obtain ⟨rfl, hlim⟩ := lim_some hp
  cases hj
  refine .skip ?_
  refine AK.then_ (hK2 _ ?_)
  refine .sr fun _ hK5 => ?_
  refine .mv rfl ?_
  refine AK.call co172 rfl (fun w hw => s_flatten w 5 s ks ss tss h2.o.len h2.tl (fun i hi => (h2.each i hi).len) ((RdS.tree hB 0 rfl h2.o.rw w hw).mono fun b _ _ => ⟨id, rfl⟩) (fun i hi => ((RdS.tree hB 0 rfl (h2.each i hi).rw w hw).mono fun b _ _ => ⟨id, rfl⟩)) h2.o.sls (fun i hi j hj => (h2.each i hi).sls j hj) hlim) trivial rfl ?_
  rintro pv o ⟨spv, rfl⟩
  refine AK.callN 2 rfl co171 rfl (fun w Fs hw hh hfr hal => s_delete w (Fs 2) 176 co176 isUnitE pv (flatE 5 ks) (flatS 5 ks ss tss) (h2.flat 5).1 (fun i hi => ((h2.flat 5).2 i hi).2) (hh.at_ 2 _ rfl) (fun w' hfr2 i hi => s_isunit w' _ _)) trivial rfl ?_
  rintro v2 A o ⟨ss2, sv2, rfl, rfl, ps⟩
  refine .as rfl (.nt hK5 ?_)
  refine .sr fun _ hK6 => ?_
  refine .mv rfl ?_
  refine AK.call co152 rfl (fun w hw => s_unit w) trivial rfl ?_
  rintro r o ⟨rfl, rfl⟩
  refine AK.call co173 rfl (fun w hw => s_collect w 5 v2 _ ss2 ps.len ((RdS.own 2 rfl w hw).mono fun b _ _ => ⟨id, rfl⟩) unitE nilV (ps.sls fun i hi => ((h2.flat 5).2 i hi).2) nilSl) trivial rfl ?_
  rintro r o ⟨sr, rfl, ssr, rfl, hcase⟩
  refine AK.storeBox 1 (us := [.int .i64 (collectE 5 ((flatE 5 ks).filter fun e => !isUnitE e) unitE).op, .int .i64 (collectE 5 ((flatE 5 ks).filter fun e => !isUnitE e) unitE).lt, sr]) (cs' := [.int .i64 (collectE 5 ((flatE 5 ks).filter fun e => !isUnitE e) unitE).op, .int .i64 (collectE 5 ((flatE 5 ks).filter fun e => !isUnitE e) unitE).lt, sr]) rfl sz65 rfl rfl rfl rfl oneP (leb rfl) rfl trivial ?_
  refine .nt hK6 (.ret ?_)
  refine AK.close' 0 2 _ ss2 (by decide) rfl rfl rfl rfl ps.len (ps.deep fun k hk => ((h2.flat 5).2 k hk).1) (fun l2 hs2 hm2 hr2 => ?_)
  refine AK.add' 0 (.deep nilV []) rfl (fun R => RdK.nil R) (fun l3 hs3 hm3 => ?_)
  refine AK.retG [.cell 2 65] rfl (.cons (.cell ag65 rfl bsp rfl rfl) (.nil)) (fun w hw => ⟨_, _, _, ?_, rfl, Ret.of (hw.pick [0] (by decide) rfl rfl)⟩)
  exact ⟨sr, l3, rfl, ssr, rfl, fun x hx => hs3 _ (hs2 _ (h2.o.sub x hx)), collect_deep (fun k hk => hs3 _ (hs2 _ (ps.deep (fun k hk => ((h2.flat 5).2 k hk).1) k hk))) (hs3 _ hm2) hm3 hcase, rfl⟩

set_option maxHeartbeats 800000 in
theorem s_joinu (w : World) (F : Nat → Prop) (B : Bs) (l : List Itm) (hB : BsOk B w F) (hA : (forest B l).holds w F) (s : Value) (ks : List Ex) (hm : Itm.deep s ks ∈ l) (j : Ex) (hj : joinU ks = some j) : CallM Tryz.prog 149 [s] w F (fun r A o => ∃ sr l', r = .agg #[.int .i64 j.op, .int .i64 j.lt, sr] ∧ IsSl sr ∧ A = forest B l' ∧ (∀ x ∈ l, x ∈ l') ∧ Itm.deep sr j.kids ∈ l' ∧ o = []) := by
 refine specM_of Tryz.func149 rfl (leb rfl) hA ?_
 refine AK.open2 0 rfl hm fun l1 ss tss h2 => ?_
 refine .sr fun _ hK1 => ?_
 refine AK.alloc el65 rfl rfl trivial rfl (fun bx2 => ?_)
 refine .nt hK1 ?_
 refine .seq fun _ hK2 => ?_
 refine .sr fun _ hK3 => ?_
 refine .mv rfl ?_
 refine AK.call co123 rfl (fun w hw => s_contains w 126 co126 isUnivE s ks ss h2.o.len h2.o.sls ((RdS.tree hB 0 rfl h2.o.rw w hw).mono fun b _ _ => ⟨id, rfl⟩) (fun w' hfr i hi => s_isuniv w' _ _ ((hw.kidR hB 0 rfl (h2.o.kid i hi)).fr hfr))) trivial rfl ?_
 rintro r o ⟨rfl, rfl⟩
 refine .nt hK3 ?_
 refine AK.cond rfl (fun hc0 => ?_) (fun hc0 => ?_)
 ·try simp only [bs] at hc0
  unfold joinU at hj
  rw [hc0] at hj
  simp only [if_true] at hj
  cases hj
  refine .sr fun _ hK4 => ?_
  refine AK.call co170 rfl (fun w hw => s_univ w) trivial rfl ?_
  rintro r o ⟨us, rfl, rfl⟩
  refine AK.shape 2 rfl (fun sus => ?_)
  refine AK.storeBox 1 (us := [.int .i64 univE.op, .int .i64 univE.lt, us]) (cs' := [.int .i64 univE.op, .int .i64 univE.lt, us]) rfl sz65 rfl rfl rfl rfl oneP (leb rfl) rfl trivial ?_
  refine .nt hK4 (.ret (.then_ret ?_))
  refine AK.add' 0 (.deep nilV []) rfl (fun R => RdK.nil R) (fun l2 hs2 hm2 => ?_)
  refine AK.close' 0 2 [emptyE] [nilV] (by decide) rfl rfl rfl rfl rfl (one_deep hm2) (fun l3 hs3 hm3 hr3 => ?_)
  refine AK.retG [.cell 2 65] rfl (.cons (.cell ag65 rfl bsp rfl rfl) (.nil)) (fun w hw => ⟨_, _, _, ?_, rfl, Ret.of (hw.pick [0] (by decide) rfl rfl)⟩)
  exact ⟨us, l3, rfl, sus, rfl, fun x hx => hs3 _ (hs2 _ (h2.o.sub x hx)), hm3, rfl⟩
 ·try simp only [bs] at hc0
  unfold joinU at hj
  rw [hc0] at hj
  simp only [Bool.false_eq_true, if_false] at hj
  obtain ⟨p, hp, hj⟩ := bind_some hj
  obtain ⟨rfl, hlim⟩ := lim_some hp
  obtain ⟨q, hq, hj⟩ := bind_some hj
  cases hj
  refine .skip ?_
  refine AK.then_ (hK2 _ ?_)
  refine .sr fun _ hK5 => ?_
  refine .mv rfl ?_
  refine AK.call co172 rfl (fun w hw => s_flatten w 4 s ks ss tss h2.o.len h2.tl (fun i hi => (h2.each i hi).len) ((RdS.tree hB 0 rfl h2.o.rw w hw).mono fun b _ _ => ⟨id, rfl⟩) (fun i hi => ((RdS.tree hB 0 rfl (h2.each i hi).rw w hw).mono fun b _ _ => ⟨id, rfl⟩)) h2.o.sls (fun i hi j hj => (h2.each i hi).sls j hj) hlim) trivial rfl ?_
  rintro pv o ⟨spv, rfl⟩
  refine AK.callN 2 rfl co171 rfl (fun w Fs hw hh hfr hal => s_delete w (Fs 2) 158 co158 isEmptyE pv (flatE 4 ks) (flatS 4 ks ss tss) (h2.flat 4).1 (fun i hi => ((h2.flat 4).2 i hi).2) (hh.at_ 2 _ rfl) (fun w' hfr2 i hi => s_isempty w' _ _)) trivial rfl ?_
  rintro v2 A o ⟨ss2, sv2, rfl, rfl, ps⟩
  refine .as rfl (.nt hK5 ?_)
  refine .sr fun _ hK6 => ?_
  refine .mv rfl ?_
  refine AK.callN 2 rfl co174 rfl (fun w Fs hw hh hfr hal => s_ordered w (Fs 2) v2 _ ss2 ps.len q hq (hh.at_ 2 _ rfl)) trivial rfl ?_
  rintro v3 A o ⟨ss3, sv3, rfl, rfl, ps3⟩
  refine AK.call co175 rfl (fun w hw => s_empty w) trivial rfl ?_
  rintro r o ⟨rfl, rfl⟩
  refine AK.call co173 rfl (fun w hw => s_collect w 4 v3 _ ss3 ps3.len ((RdS.own 2 rfl w hw).mono fun b _ _ => ⟨id, rfl⟩) emptyE nilV ((ps3.trans ps).sls fun i hi => ((h2.flat 4).2 i hi).2) nilSl) trivial rfl ?_
  rintro r o ⟨sr, rfl, ssr, rfl, hcase⟩
  refine AK.storeBox 1 (us := [.int .i64 (collectE 4 q emptyE).op, .int .i64 (collectE 4 q emptyE).lt, sr]) (cs' := [.int .i64 (collectE 4 q emptyE).op, .int .i64 (collectE 4 q emptyE).lt, sr]) rfl sz65 rfl rfl rfl rfl oneP (leb rfl) rfl trivial ?_
  refine .nt hK6 (.ret ?_)
  refine AK.close' 0 2 _ ss3 (by decide) rfl rfl rfl rfl ps3.len ((ps3.trans ps).deep fun k hk => ((h2.flat 4).2 k hk).1) (fun l2 hs2 hm2 hr2 => ?_)
  refine AK.add' 0 (.deep nilV []) rfl (fun R => RdK.nil R) (fun l3 hs3 hm3 => ?_)
  refine AK.retG [.cell 2 65] rfl (.cons (.cell ag65 rfl bsp rfl rfl) (.nil)) (fun w hw => ⟨_, _, _, ?_, rfl, Ret.of (hw.pick [0] (by decide) rfl rfl)⟩)
  exact ⟨sr, l3, rfl, ssr, rfl, fun x hx => hs3 _ (hs2 _ (h2.o.sub x hx)), collect_deep (fun k hk => hs3 _ (hs2 _ ((ps3.trans ps).deep (fun k hk => ((h2.flat 4).2 k hk).1) k hk))) (hs3 _ hm2) hm3 hcase, rfl⟩

set_option maxHeartbeats 800000 in
theorem s_joina (w : World) (F : Nat → Prop) (B : Bs) (l : List Itm) (hB : BsOk B w F) (hA : (forest B l).holds w F) (s : Value) (ks : List Ex) (hm : Itm.deep s ks ∈ l) (j : Ex) (hj : joinA ks = some j) : CallM Tryz.prog 151 [s] w F (fun r A o => ∃ sr l', r = .agg #[.int .i64 j.op, .int .i64 j.lt, sr] ∧ IsSl sr ∧ A = forest B l' ∧ (∀ x ∈ l, x ∈ l') ∧ Itm.deep sr j.kids ∈ l' ∧ o = []) := by
 refine specM_of Tryz.func151 rfl (leb rfl) hA ?_
 refine AK.open2 0 rfl hm fun l1 ss tss h2 => ?_
 refine .sr fun _ hK1 => ?_
 refine AK.alloc el65 rfl rfl trivial rfl (fun bx2 => ?_)
 refine .nt hK1 ?_
 refine .seq fun _ hK2 => ?_
 refine .sr fun _ hK3 => ?_
 refine .mv rfl ?_
 refine AK.call co123 rfl (fun w hw => s_contains w 158 co158 isEmptyE s ks ss h2.o.len h2.o.sls ((RdS.tree hB 0 rfl h2.o.rw w hw).mono fun b _ _ => ⟨id, rfl⟩) (fun w' hfr i hi => s_isempty w' _ _)) trivial rfl ?_
 rintro r o ⟨rfl, rfl⟩
 refine .nt hK3 ?_
 refine AK.cond rfl (fun hc0 => ?_) (fun hc0 => ?_)
 ·try simp only [bs] at hc0
  unfold joinA at hj
  rw [hc0] at hj
  simp only [if_true] at hj
  cases hj
  refine .sr fun _ hK4 => ?_
  refine AK.call co175 rfl (fun w hw => s_empty w) trivial rfl ?_
  rintro r o ⟨rfl, rfl⟩
  refine AK.storeBox 1 (us := [.int .i64 emptyE.op, .int .i64 emptyE.lt, nilV]) (cs' := [.int .i64 emptyE.op, .int .i64 emptyE.lt, nilV]) rfl sz65 rfl rfl rfl rfl oneP (leb rfl) rfl trivial ?_
  refine .nt hK4 (.ret (.then_ret ?_))
  refine AK.add' 0 (.deep nilV []) rfl (fun R => RdK.nil R) (fun l2 hs2 hm2 => ?_)
  refine AK.retG [.cell 2 65] rfl (.cons (.cell ag65 rfl bsp rfl rfl) (.nil)) (fun w hw => ⟨_, _, _, ?_, rfl, Ret.of (hw.pick [0] (by decide) rfl rfl)⟩)
  exact ⟨nilV, l2, rfl, nilSl, rfl, fun x hx => hs2 _ (h2.o.sub x hx), hm2, rfl⟩
 ·try simp only [bs] at hc0
  unfold joinA at hj
  rw [hc0] at hj
  simp only [Bool.false_eq_true, if_false] at hj
  obtain ⟨p, hp, hj⟩ := bind_some hj
  obtain ⟨rfl, hlim⟩ := lim_some hp
  obtain ⟨q, hq, hj⟩ := bind_some hj
  cases hj
  refine .skip ?_
  refine AK.then_ (hK2 _ ?_)
  refine .sr fun _ hK5 => ?_
  refine .mv rfl ?_
  refine AK.call co172 rfl (fun w hw => s_flatten w 6 s ks ss tss h2.o.len h2.tl (fun i hi => (h2.each i hi).len) ((RdS.tree hB 0 rfl h2.o.rw w hw).mono fun b _ _ => ⟨id, rfl⟩) (fun i hi => ((RdS.tree hB 0 rfl (h2.each i hi).rw w hw).mono fun b _ _ => ⟨id, rfl⟩)) h2.o.sls (fun i hi j hj => (h2.each i hi).sls j hj) hlim) trivial rfl ?_
  rintro pv o ⟨spv, rfl⟩
  refine AK.callN 2 rfl co171 rfl (fun w Fs hw hh hfr hal => s_delete w (Fs 2) 126 co126 isUnivE pv (flatE 6 ks) (flatS 6 ks ss tss) (h2.flat 6).1 (fun i hi => ((h2.flat 6).2 i hi).2) (hh.at_ 2 _ rfl) (fun w' hfr2 i hi => s_isuniv w' _ _ ((hh.kidR hB 0 2 (by decide) rfl ((h2.flat 6).2 i hi).1 hfr hal).fr hfr2).wk)) trivial rfl ?_
  rintro v2 A o ⟨ss2, sv2, rfl, rfl, ps⟩
  refine .as rfl (.nt hK5 ?_)
  refine .sr fun _ hK6 => ?_
  refine .mv rfl ?_
  refine AK.callN 2 rfl co174 rfl (fun w Fs hw hh hfr hal => s_ordered w (Fs 2) v2 _ ss2 ps.len q hq (hh.at_ 2 _ rfl)) trivial rfl ?_
  rintro v3 A o ⟨ss3, sv3, rfl, rfl, ps3⟩
  refine AK.call co170 rfl (fun w hw => s_univ w) trivial rfl ?_
  rintro r o ⟨us, rfl, rfl⟩
  refine AK.shape 3 rfl (fun sus => ?_)
  refine AK.call co173 rfl (fun w hw => s_collect w 6 v3 _ ss3 ps3.len ((RdS.own 2 rfl w hw).mono fun b _ _ => ⟨id, rfl⟩) univE us ((ps3.trans ps).sls fun i hi => ((h2.flat 6).2 i hi).2) sus) trivial rfl ?_
  rintro r o ⟨sr, rfl, ssr, rfl, hcase⟩
  refine AK.storeBox 1 (us := [.int .i64 (collectE 6 q univE).op, .int .i64 (collectE 6 q univE).lt, sr]) (cs' := [.int .i64 (collectE 6 q univE).op, .int .i64 (collectE 6 q univE).lt, sr]) rfl sz65 rfl rfl rfl rfl oneP (leb rfl) rfl trivial ?_
  refine .nt hK6 (.ret ?_)
  refine AK.close' 0 2 _ ss3 (by decide) rfl rfl rfl rfl ps3.len ((ps3.trans ps).deep fun k hk => ((h2.flat 6).2 k hk).1) (fun l2 hs2 hm2 hr2 => ?_)
  refine AK.add' 0 (.deep nilV []) rfl (fun R => RdK.nil R) (fun l3 hs3 hm3 => ?_)
  refine AK.close' 0 3 [emptyE] [nilV] (by decide) rfl rfl rfl rfl rfl (one_deep hm3) (fun l4 hs4 hm4 hr4 => ?_)
  refine AK.retG [.cell 2 65] rfl (.cons (.cell ag65 rfl bsp rfl rfl) (.nil)) (fun w hw => ⟨_, _, _, ?_, rfl, Ret.of (hw.pick [0] (by decide) rfl rfl)⟩)
  exact ⟨sr, l4, rfl, ssr, rfl, fun x hx => hs4 _ (hs3 _ (hs2 _ (h2.o.sub x hx))), collect_deep (fun k hk => hs4 _ (hs3 _ (hs2 _ ((ps3.trans ps).deep (fun k hk => ((h2.flat 6).2 k hk).1) k hk)))) (hs4 _ (hs3 _ hm2)) hm4 hcase, rfl⟩

end Go.Proofs.YtdnhiinakhmhgaaGreatDoor

namespace Go.Proofs.YtdnhiinakhmhgaaGreatDoor
open Go.Sx Go.RowKit
set_option maxHeartbeats 2000000 in
theorem s_join (w : World) (F : Nat → Prop) (B : Bs) (l : List Itm) (hB : BsOk B w F) (hA : (forest B l).holds w F) (op : Int) (s : Value) (ks : List Ex) (hm : Itm.deep s ks ∈ l) (j : Ex) (hj : joinE op ks = some j) : CallM Tryz.prog 118 [.int .i64 op, s] w F (fun r A o => ∃ sr l', r = .agg #[.int .i64 j.op, .int .i64 j.lt, sr] ∧ IsSl sr ∧ A = forest B l' ∧ (∀ x ∈ l, x ∈ l') ∧ Itm.deep sr j.kids ∈ l' ∧ o = []) := by
 refine specM_of Tryz.func118 rfl (leb rfl) hA ?_
 refine AK.open2 0 rfl hm fun l1 ss tss h2 => ?_
 have hmx := h2.o.mx'
 refine .sr fun _ hK1 => ?_
 refine AK.alloc el65 rfl rfl trivial rfl (fun bx4 => ?_)
 refine .nt hK1 ?_
 refine .seq fun _ hK2 => ?_
 refine .sr fun _ hK3 => ?_
 refine .mv rfl (.nt hK3 (.block ?_))
 refine .sr fun _ hK4 => ?_
 refine .v (.eql rfl rfl) ?_
 refine .as rfl (.nt hK4 ?_)
 refine AK.condD rfl (fun hc0 => ?_) (fun hc0 => ?_)
 ·refine .sr fun _ hK5 => ?_
  refine .mv rfl ?_
  refine AK.callN 0 rfl co149 rfl (fun w Fs hw hh hfr hal => s_joinu w (Fs 0) B l1 (hB.later hfr hal 0) (hh.at_ 0 _ rfl) s ks (h2.o.sub _ hm) j (by rw [joinE, if_pos hc0] at hj; exact hj)) trivial rfl ?_
  rintro r A o ⟨sr, l2, rfl, ssr, rfl, hs2, hm2, rfl⟩
  refine AK.storeBox 1 (us := [.int .i64 j.op, .int .i64 j.lt, sr]) (cs' := [.int .i64 j.op, .int .i64 j.lt, sr]) rfl sz65 rfl rfl rfl rfl oneP (leb rfl) rfl trivial ?_
  refine .nt hK5 (.ret (.block_ret (.then_ret ?_)))
  refine AK.retG [.cell 4 65] rfl (.cons (.cell ag65 rfl bsp rfl rfl) (.nil)) (fun w hw => ⟨_, _, _, ?_, rfl, Ret.of (hw.pick [0] (by decide) rfl rfl)⟩)
  exact ⟨sr, l2, rfl, ssr, rfl, fun x hx => hs2 _ (h2.o.sub x hx), hm2, rfl⟩
 ·refine .sr fun _ hK6 => ?_
  refine .v (.eql rfl rfl) ?_
  refine .as rfl (.nt hK6 ?_)
  refine AK.condD rfl (fun hc1 => ?_) (fun hc1 => ?_)
  ·refine .sr fun _ hK7 => ?_
   refine .mv rfl ?_
   refine AK.callN 0 rfl co150 rfl (fun w Fs hw hh hfr hal => s_joinc w (Fs 0) B l1 (hB.later hfr hal 0) (hh.at_ 0 _ rfl) s ks (h2.o.sub _ hm) j (by rw [joinE, if_neg hc0, if_pos hc1] at hj; exact hj)) trivial rfl ?_
   rintro r A o ⟨sr, l2, rfl, ssr, rfl, hs2, hm2, rfl⟩
   refine AK.storeBox 1 (us := [.int .i64 j.op, .int .i64 j.lt, sr]) (cs' := [.int .i64 j.op, .int .i64 j.lt, sr]) rfl sz65 rfl rfl rfl rfl oneP (leb rfl) rfl trivial ?_
   refine .nt hK7 (.ret (.block_ret (.then_ret ?_)))
   refine AK.retG [.cell 4 65] rfl (.cons (.cell ag65 rfl bsp rfl rfl) (.nil)) (fun w hw => ⟨_, _, _, ?_, rfl, Ret.of (hw.pick [0] (by decide) rfl rfl)⟩)
   exact ⟨sr, l2, rfl, ssr, rfl, fun x hx => hs2 _ (h2.o.sub x hx), hm2, rfl⟩
  ·refine .sr fun _ hK8 => ?_
   refine .v (.eql rfl rfl) ?_
   refine .as rfl (.nt hK8 ?_)
   refine AK.condD rfl (fun hc2 => ?_) (fun hc2 => ?_)
   ·refine .sr fun _ hK9 => ?_
    refine .mv rfl ?_
    refine AK.callN 0 rfl co151 rfl (fun w Fs hw hh hfr hal => s_joina w (Fs 0) B l1 (hB.later hfr hal 0) (hh.at_ 0 _ rfl) s ks (h2.o.sub _ hm) j (by rw [joinE, if_neg hc0, if_neg hc1, if_pos hc2] at hj; exact hj)) trivial rfl ?_
    rintro r A o ⟨sr, l2, rfl, ssr, rfl, hs2, hm2, rfl⟩
    refine AK.storeBox 1 (us := [.int .i64 j.op, .int .i64 j.lt, sr]) (cs' := [.int .i64 j.op, .int .i64 j.lt, sr]) rfl sz65 rfl rfl rfl rfl oneP (leb rfl) rfl trivial ?_
    refine .nt hK9 (.ret (.block_ret (.then_ret ?_)))
    refine AK.retG [.cell 4 65] rfl (.cons (.cell ag65 rfl bsp rfl rfl) (.nil)) (fun w hw => ⟨_, _, _, ?_, rfl, Ret.of (hw.pick [0] (by decide) rfl rfl)⟩)
    exact ⟨sr, l2, rfl, ssr, rfl, fun x hx => hs2 _ (h2.o.sub x hx), hm2, rfl⟩
   ·refine .skip (.block_normal ?_)
    refine AK.then_ (hK2 _ ?_)
    refine .seq fun _ hK10 => ?_
    refine .sr fun _ hK11 => ?_
    refine .mv rfl ?_
    refine .v (.lenR sl63 rfl (by first | exact rdp | exact RdS.tree hB 0 rfl h2.o.rw | exact RdS.tree hB 0 rfl h20.rw)) ?_
    refine .v (.neq rfl rfl) ?_
    refine .nt hK11 ?_
    refine AK.condNe rfl (fun hc3 => ?_) (fun hc3 => ?_)
    ·rw [joinE, if_neg hc0, if_neg hc1, if_neg hc2, if_neg (by omega)] at hj
     cases hj
     refine .sr fun _ hK12 => ?_
     refine .v (.build (parts := []) (cs := #[.int .i64 0, .int .i64 0, .slice none 0 0]) rfl (by kernel_rfl)) ?_
     refine AK.storeBox 1 (us := [.int .i64 e0.op, .int .i64 e0.lt, nilV]) (cs' := [.int .i64 e0.op, .int .i64 e0.lt, nilV]) rfl sz65 rfl rfl rfl rfl oneP (leb rfl) rfl trivial ?_
     refine .nt hK12 (.ret (.then_ret ?_))
     refine AK.add' 0 (.deep nilV []) rfl (fun R => RdK.nil R) (fun l2 hs2 hm2 => ?_)
     refine AK.retG [.cell 4 65] rfl (.cons (.cell ag65 rfl bsp rfl rfl) (.nil)) (fun w hw => ⟨_, _, _, ?_, rfl, Ret.of (hw.pick [0] (by decide) rfl rfl)⟩)
     exact ⟨nilV, l2, rfl, nilSl, rfl, fun x hx => hs2 _ (h2.o.sub x hx), hm2, rfl⟩
    ·have hk1 : ks.length = 1 := by omega
     rw [joinE, if_neg hc0, if_neg hc1, if_neg hc2, if_pos hk1] at hj
     cases hj
     have h20 := h2.each 0 (by omega)
     have hmx0 := h20.mx'
     have sk := h2.o.sls 0 (by omega)
     refine .skip ?_
     refine AK.then_ (hK10 _ ?_)
     refine .sr fun _ hK13 => ?_
     refine .mv rfl ?_
     refine .v (.idxN (k := 0) sl63 rfl rfl (by first | exact rdp | exact RdS.tree hB 0 rfl h2.o.rw | exact RdS.tree hB 0 rfl h20.rw) (by decide) (by omega)) ?_
     refine .v (.loadE ag65 rfl (by first | exact rdp | exact RdS.tree hB 0 rfl h2.o.rw | exact RdS.tree hB 0 rfl h20.rw) (h2.o.len) rfl (by omega)) ?_
     refine AK.alloc el65 rfl rfl trivial rfl (fun bx5 => ?_)
     refine AK.storeBox 2 (us := [.int .i64 (ks.getD 0 default).op, .int .i64 (ks.getD 0 default).lt, ss.getD 0 undef]) (cs' := [.int .i64 (ks.getD 0 default).op, .int .i64 (ks.getD 0 default).lt, ss.getD 0 undef]) rfl sz65 rfl rfl rfl rfl oneP (leb rfl) rfl trivial ?_
     refine .nt hK13 ?_
     refine .seq fun _ hK14 => ?_
     refine .sr fun _ hK15 => ?_
     refine .mv rfl (.nt hK15 (.block ?_))
     refine .sr fun _ hK16 => ?_
     refine .v (.eql rfl rfl) ?_
     refine .as rfl (.nt hK16 ?_)
     refine AK.condD rfl (fun hc4 => ?_) (fun hc4 => ?_)
     ·refine .seq fun _ hK17 => ?_
      refine .sr fun _ hK18 => ?_
      refine .v (.fieldAddr fd65_0 rfl) ?_
      refine .v (.loadBox on3 rfl bsp rfl) ?_
      refine .v (.eql rfl rfl) ?_
      refine .mv rfl ?_
      refine AK.splitB (g := 32) rfl (fun hg_13_3 => ?_) (fun hg_13_3 => ?_)
      ·have hg_13_3' := hg_13_3
       try simp only [bs] at hg_13_3'
       refine AK.val _ (Yl.fieldAddr fd65_2 rfl) ⟨_, rfl, gB hg_13_3⟩ rfl ?_
       refine AK.val _ (Yl.loadBox on63 rfl bsp rfl) ⟨_, rfl, gB hg_13_3⟩ rfl ?_
       refine AK.val _ (Yl.lenR sl63 rfl (by first | exact rdp | exact RdS.tree hB 0 rfl h2.o.rw | exact RdS.tree hB 0 rfl h20.rw)) ⟨_, rfl, gB hg_13_3⟩ rfl ?_
       refine AK.val _ (Yl.eql rfl rfl) ⟨_, rfl, gB hg_13_3⟩ rfl ?_
       refine .v (.pickT rfl (hg_13_3) rfl) ?_
       refine .nt hK18 ?_
       refine AK.condD rfl (fun hc5 => ?_) (fun hc5 => ?_)
       ·have hkk : (ks.getD 0 default).op = 8 ∧ (ks.getD 0 default).kids.length = 1 := ⟨hg_13_3', by omega⟩
        have sk0 := h20.sls 0 (by omega)
        refine .sr fun _ hK19 => ?_
        refine .v (.fieldAddr fd65_2 rfl) ?_
        refine .v (.loadBox on63 rfl bsp rfl) ?_
        refine .v (.idxN (k := 0) sl63 rfl rfl (by first | exact rdp | exact RdS.tree hB 0 rfl h2.o.rw | exact RdS.tree hB 0 rfl h20.rw) (by decide) (by omega)) ?_
        refine .v (.loadE ag65 rfl (by first | exact rdp | exact RdS.tree hB 0 rfl h2.o.rw | exact RdS.tree hB 0 rfl h20.rw) (h20.len) rfl (by omega)) ?_
        refine AK.storeBox 1 (us := [.int .i64 ((ks.getD 0 default).kids.getD 0 default).op, .int .i64 ((ks.getD 0 default).kids.getD 0 default).lt, (tss.getD 0 []).getD 0 undef]) (cs' := [.int .i64 ((ks.getD 0 default).kids.getD 0 default).op, .int .i64 ((ks.getD 0 default).kids.getD 0 default).lt, (tss.getD 0 []).getD 0 undef]) rfl sz65 rfl rfl rfl rfl oneP (leb rfl) rfl trivial ?_
        refine .nt hK19 (.ret (.then_ret (.block_ret (.then_ret ?_))))
        refine AK.retG [.cell 4 65] rfl (.cons (.cell ag65 rfl bsp rfl rfl) (.nil)) (fun w hw => ⟨_, _, _, ?_, rfl, Ret.of (hw.pick [0] (by decide) rfl rfl)⟩)
        rw [show join1 op (ks.getD 0 default) = (ks.getD 0 default).kids.getD 0 default from by unfold join1; rw [if_pos hc4, if_pos hkk]]
        exact ⟨(tss.getD 0 []).getD 0 undef, l1, rfl, sk0, rfl, h2.o.sub, h20.kid 0 (by omega), rfl⟩
       ·refine .skip ?_
        refine AK.then_ (hK17 _ ?_)
        refine .sr fun _ hK20 => ?_
        refine .v (.loadBoxG ag65 rfl bsp rfl rfl) ?_
        refine AK.lit (xs := [.tmp 42]) sl63 el65 rfl rfl rfl (by simp [Value.cells]) (by decide) (by decide) trivial rfl (fun lv => ?_)
        refine AK.shape 3 rfl (fun slv => ?_)
        refine .v (.build (parts := [(0, .const (.int .i64 8)), (2, .tmp 43)]) (cs := #[.int .i64 8, .int .i64 0, lv]) rfl (by obtain ⟨_, _, _, rfl⟩ := slv; kernel_rfl)) ?_
        refine AK.storeBox 1 (us := [.int .i64 8, .int .i64 0, lv]) (cs' := [.int .i64 8, .int .i64 0, lv]) rfl sz65 rfl rfl rfl rfl oneP (leb rfl) rfl trivial ?_
        refine .nt hK20 (.ret (.block_ret (.then_ret ?_)))
        refine AK.close' 0 3 [(ks.getD 0 default)] [ss.getD 0 undef] (by decide) rfl rfl rfl rfl rfl (one_deep (h2.o.kid 0 (by omega))) (fun l2 hs2 hm2 hr2 => ?_)
        refine AK.retG [.cell 4 65] rfl (.cons (.cell ag65 rfl bsp rfl rfl) (.nil)) (fun w hw => ⟨_, _, _, ?_, rfl, Ret.of (hw.pick [0] (by decide) rfl rfl)⟩)
        rw [show join1 op (ks.getD 0 default) = .mk 8 0 [(ks.getD 0 default)] from by unfold join1; rw [if_pos hc4, if_neg (by rintro ⟨a, b⟩; first | exact hg_13_3' a | omega)]]
        exact ⟨lv, l2, rfl, slv, rfl, fun x hx => hs2 _ (h2.o.sub x hx), hm2, rfl⟩
      ·have hg_13_3' := hg_13_3
       try simp only [bs] at hg_13_3'
       refine AK.pass rfl rfl (hg_13_3) rfl ?_
       refine AK.pass rfl rfl (hg_13_3) rfl ?_
       refine AK.pass rfl rfl (hg_13_3) rfl ?_
       refine AK.pass rfl rfl (hg_13_3) rfl ?_
       refine .v (.pickF rfl (hg_13_3) rfl) ?_
       refine .nt hK18 ?_
       refine AK.cond_f rfl (rfl) ?_
       refine .skip ?_
       refine AK.then_ (hK17 _ ?_)
       refine .sr fun _ hK21 => ?_
       refine .v (.loadBoxG ag65 rfl bsp rfl rfl) ?_
       refine AK.lit (xs := [.tmp 42]) sl63 el65 rfl rfl rfl (by simp [Value.cells]) (by decide) (by decide) trivial rfl (fun lv => ?_)
       refine AK.shape 3 rfl (fun slv => ?_)
       refine .v (.build (parts := [(0, .const (.int .i64 8)), (2, .tmp 43)]) (cs := #[.int .i64 8, .int .i64 0, lv]) rfl (by obtain ⟨_, _, _, rfl⟩ := slv; kernel_rfl)) ?_
       refine AK.storeBox 1 (us := [.int .i64 8, .int .i64 0, lv]) (cs' := [.int .i64 8, .int .i64 0, lv]) rfl sz65 rfl rfl rfl rfl oneP (leb rfl) rfl trivial ?_
       refine .nt hK21 (.ret (.block_ret (.then_ret ?_)))
       refine AK.close' 0 3 [(ks.getD 0 default)] [ss.getD 0 undef] (by decide) rfl rfl rfl rfl rfl (one_deep (h2.o.kid 0 (by omega))) (fun l2 hs2 hm2 hr2 => ?_)
       refine AK.retG [.cell 4 65] rfl (.cons (.cell ag65 rfl bsp rfl rfl) (.nil)) (fun w hw => ⟨_, _, _, ?_, rfl, Ret.of (hw.pick [0] (by decide) rfl rfl)⟩)
       rw [show join1 op (ks.getD 0 default) = .mk 8 0 [(ks.getD 0 default)] from by unfold join1; rw [if_pos hc4, if_neg (by rintro ⟨a, b⟩; first | exact hg_13_3' a | omega)]]
       exact ⟨lv, l2, rfl, slv, rfl, fun x hx => hs2 _ (h2.o.sub x hx), hm2, rfl⟩
     ·refine .sr fun _ hK22 => ?_
      refine .v (.eql rfl rfl) ?_
      refine .as rfl (.nt hK22 ?_)
      refine AK.condD rfl (fun hc6 => ?_) (fun hc6 => ?_)
      ·refine .seq fun _ hK23 => ?_
       refine .block ?_
       refine .sr fun _ hK24 => ?_
       refine .v (.fieldAddr fd65_0 rfl) ?_
       refine .v (.loadBox on3 rfl bsp rfl) ?_
       refine .v (.eql rfl rfl) ?_
       refine .mv rfl ?_
       refine AK.splitB (g := 51) rfl (fun hg_17_3 => ?_) (fun hg_17_3 => ?_)
       ·have hg_17_3' := hg_17_3
        try simp only [bs] at hg_17_3'
        refine AK.pass rfl rfl (hg_17_3) rfl ?_
        refine AK.pass rfl rfl (hg_17_3) rfl ?_
        refine AK.pass rfl rfl (hg_17_3) rfl ?_
        refine .v (.pickT rfl (hg_17_3) rfl) ?_
        refine .as rfl (.nt hK24 ?_)
        refine AK.cond_t rfl (rfl) ?_
        refine .sr fun _ hK25 => ?_
        refine AK.call co152 rfl (fun w hw => s_unit w) trivial rfl ?_
        rintro r o ⟨rfl, rfl⟩
        refine AK.storeBox 1 (us := [.int .i64 unitE.op, .int .i64 unitE.lt, nilV]) (cs' := [.int .i64 unitE.op, .int .i64 unitE.lt, nilV]) rfl sz65 rfl rfl rfl rfl oneP (leb rfl) rfl trivial ?_
        refine .nt hK25 (.ret (.block_ret (.then_ret (.block_ret (.then_ret ?_)))))
        refine AK.add' 0 (.deep nilV []) rfl (fun R => RdK.nil R) (fun l2 hs2 hm2 => ?_)
        refine AK.retG [.cell 4 65] rfl (.cons (.cell ag65 rfl bsp rfl rfl) (.nil)) (fun w hw => ⟨_, _, _, ?_, rfl, Ret.of (hw.pick [0] (by decide) rfl rfl)⟩)
        rw [show join1 op (ks.getD 0 default) = unitE from by unfold join1; rw [if_neg hc4, if_pos hc6, if_pos (by first | exact .inl hg_17_3' | exact .inr hc7)]]
        exact ⟨nilV, l2, rfl, nilSl, rfl, fun x hx => hs2 _ (h2.o.sub x hx), hm2, rfl⟩
       ·have hg_17_3' := hg_17_3
        try simp only [bs] at hg_17_3'
        refine AK.val _ (Yl.fieldAddr fd65_0 rfl) ⟨_, rfl, gB hg_17_3⟩ rfl ?_
        refine AK.val _ (Yl.loadBox on3 rfl bsp rfl) ⟨_, rfl, gB hg_17_3⟩ rfl ?_
        refine AK.val _ (Yl.eql rfl rfl) ⟨_, rfl, gB hg_17_3⟩ rfl ?_
        refine .v (.pickF rfl (hg_17_3) rfl) ?_
        refine .as rfl (.nt hK24 ?_)
        refine AK.condD rfl (fun hc7 => ?_) (fun hc7 => ?_)
        ·refine .sr fun _ hK26 => ?_
         refine AK.call co152 rfl (fun w hw => s_unit w) trivial rfl ?_
         rintro r o ⟨rfl, rfl⟩
         refine AK.storeBox 1 (us := [.int .i64 unitE.op, .int .i64 unitE.lt, nilV]) (cs' := [.int .i64 unitE.op, .int .i64 unitE.lt, nilV]) rfl sz65 rfl rfl rfl rfl oneP (leb rfl) rfl trivial ?_
         refine .nt hK26 (.ret (.block_ret (.then_ret (.block_ret (.then_ret ?_)))))
         refine AK.add' 0 (.deep nilV []) rfl (fun R => RdK.nil R) (fun l2 hs2 hm2 => ?_)
         refine AK.retG [.cell 4 65] rfl (.cons (.cell ag65 rfl bsp rfl rfl) (.nil)) (fun w hw => ⟨_, _, _, ?_, rfl, Ret.of (hw.pick [0] (by decide) rfl rfl)⟩)
         rw [show join1 op (ks.getD 0 default) = unitE from by unfold join1; rw [if_neg hc4, if_pos hc6, if_pos (by first | exact .inl hg_17_3' | exact .inr hc7)]]
         exact ⟨nilV, l2, rfl, nilSl, rfl, fun x hx => hs2 _ (h2.o.sub x hx), hm2, rfl⟩
        ·refine .sr fun _ hK27 => ?_
         refine .v (.fieldAddr fd65_0 rfl) ?_
         refine .v (.loadBox on3 rfl bsp rfl) ?_
         refine .v (.eql rfl rfl) ?_
         refine .mv rfl ?_
         refine AK.splitB (g := 61) rfl (fun hg_19_3 => ?_) (fun hg_19_3 => ?_)
         ·have hg_19_3' := hg_19_3
          try simp only [bs] at hg_19_3'
          refine AK.pass rfl rfl (hg_19_3) rfl ?_
          refine AK.pass rfl rfl (hg_19_3) rfl ?_
          refine .v (.pickT rfl (hg_19_3) rfl) ?_
          refine .as rfl (.nt hK27 ?_)
          refine AK.cond_t rfl (rfl) ?_
          refine .sr fun _ hK28 => ?_
          refine .v (.loadBoxG ag65 rfl bsp rfl rfl) ?_
          refine AK.storeBox 1 (us := [.int .i64 (ks.getD 0 default).op, .int .i64 (ks.getD 0 default).lt, ss.getD 0 undef]) (cs' := [.int .i64 (ks.getD 0 default).op, .int .i64 (ks.getD 0 default).lt, ss.getD 0 undef]) rfl sz65 rfl rfl rfl rfl oneP (leb rfl) rfl trivial ?_
          refine .nt hK28 (.ret (.block_ret (.then_ret (.block_ret (.then_ret ?_)))))
          refine AK.retG [.cell 4 65] rfl (.cons (.cell ag65 rfl bsp rfl rfl) (.nil)) (fun w hw => ⟨_, _, _, ?_, rfl, Ret.of (hw.pick [0] (by decide) rfl rfl)⟩)
          rw [show join1 op (ks.getD 0 default) = (ks.getD 0 default) from by unfold join1; rw [if_neg hc4, if_pos hc6, if_neg (by rintro (h | h); exact hg_17_3' h; exact hc7 h), if_pos (by first | exact .inl hg_19_3' | exact .inr hc8)]]
          exact ⟨ss.getD 0 undef, l1, rfl, sk, rfl, h2.o.sub, h2.o.kid 0 (by omega), rfl⟩
         ·have hg_19_3' := hg_19_3
          try simp only [bs] at hg_19_3'
          refine AK.val _ (Yl.loadBoxG ag65 rfl bsp rfl rfl) ⟨_, rfl, gB hg_19_3⟩ rfl ?_
          refine AK.call co126 rfl (fun w hw => s_isuniv w (ks.getD 0 default) _ (hw.kidR hB 0 rfl (h2.o.kid 0 (by omega)))) ⟨_, rfl, gB hg_19_3⟩ rfl ?_
          rintro r o ⟨rfl, rfl⟩
          refine .v (.pickF rfl (hg_19_3) rfl) ?_
          refine .as rfl (.nt hK27 ?_)
          refine AK.cond rfl (fun hc8 => ?_) (fun hc8 => ?_)
          ·try simp only [bs] at hc8
           refine .sr fun _ hK29 => ?_
           refine .v (.loadBoxG ag65 rfl bsp rfl rfl) ?_
           refine AK.storeBox 1 (us := [.int .i64 (ks.getD 0 default).op, .int .i64 (ks.getD 0 default).lt, ss.getD 0 undef]) (cs' := [.int .i64 (ks.getD 0 default).op, .int .i64 (ks.getD 0 default).lt, ss.getD 0 undef]) rfl sz65 rfl rfl rfl rfl oneP (leb rfl) rfl trivial ?_
           refine .nt hK29 (.ret (.block_ret (.then_ret (.block_ret (.then_ret ?_)))))
           refine AK.retG [.cell 4 65] rfl (.cons (.cell ag65 rfl bsp rfl rfl) (.nil)) (fun w hw => ⟨_, _, _, ?_, rfl, Ret.of (hw.pick [0] (by decide) rfl rfl)⟩)
           rw [show join1 op (ks.getD 0 default) = (ks.getD 0 default) from by unfold join1; rw [if_neg hc4, if_pos hc6, if_neg (by rintro (h | h); exact hg_17_3' h; exact hc7 h), if_pos (by first | exact .inl hg_19_3' | exact .inr hc8)]]
           exact ⟨ss.getD 0 undef, l1, rfl, sk, rfl, h2.o.sub, h2.o.kid 0 (by omega), rfl⟩
          ·try simp only [bs] at hc8
           refine .skip (.block_normal ?_)
           refine AK.then_ (hK23 _ ?_)
           refine .sr fun _ hK30 => ?_
           refine .v (.loadBoxG ag65 rfl bsp rfl rfl) ?_
           refine AK.lit (xs := [.tmp 66]) sl63 el65 rfl rfl rfl (by simp [Value.cells]) (by decide) (by decide) trivial rfl (fun lv => ?_)
           refine AK.shape 3 rfl (fun slv => ?_)
           refine .v (.build (parts := [(0, .const (.int .i64 7)), (2, .tmp 67)]) (cs := #[.int .i64 7, .int .i64 0, lv]) rfl (by obtain ⟨_, _, _, rfl⟩ := slv; kernel_rfl)) ?_
           refine AK.storeBox 1 (us := [.int .i64 7, .int .i64 0, lv]) (cs' := [.int .i64 7, .int .i64 0, lv]) rfl sz65 rfl rfl rfl rfl oneP (leb rfl) rfl trivial ?_
           refine .nt hK30 (.ret (.block_ret (.then_ret ?_)))
           refine AK.close' 0 3 [(ks.getD 0 default)] [ss.getD 0 undef] (by decide) rfl rfl rfl rfl rfl (one_deep (h2.o.kid 0 (by omega))) (fun l2 hs2 hm2 hr2 => ?_)
           refine AK.retG [.cell 4 65] rfl (.cons (.cell ag65 rfl bsp rfl rfl) (.nil)) (fun w hw => ⟨_, _, _, ?_, rfl, Ret.of (hw.pick [0] (by decide) rfl rfl)⟩)
           rw [show join1 op (ks.getD 0 default) = .mk 7 0 [(ks.getD 0 default)] from by unfold join1; rw [if_neg hc4, if_pos hc6, if_neg (by rintro (h | h); exact hg_17_3' h; exact hc7 h), if_neg (by rintro (h | h); exact hg_19_3' h; rw [hc8] at h; cases h)]]
           exact ⟨lv, l2, rfl, slv, rfl, fun x hx => hs2 _ (h2.o.sub x hx), hm2, rfl⟩
      ·refine .skip (.block_normal ?_)
       refine AK.then_ (hK14 _ ?_)
       refine .sr fun _ hK31 => ?_
       refine .v (.build (parts := []) (cs := #[.int .i64 0, .int .i64 0, .slice none 0 0]) rfl (by kernel_rfl)) ?_
       refine AK.storeBox 1 (us := [.int .i64 e0.op, .int .i64 e0.lt, nilV]) (cs' := [.int .i64 e0.op, .int .i64 e0.lt, nilV]) rfl sz65 rfl rfl rfl rfl oneP (leb rfl) rfl trivial ?_
       refine .nt hK31 (.ret ?_)
       refine AK.add' 0 (.deep nilV []) rfl (fun R => RdK.nil R) (fun l2 hs2 hm2 => ?_)
       refine AK.retG [.cell 4 65] rfl (.cons (.cell ag65 rfl bsp rfl rfl) (.nil)) (fun w hw => ⟨_, _, _, ?_, rfl, Ret.of (hw.pick [0] (by decide) rfl rfl)⟩)
       rw [show join1 op (ks.getD 0 default) = e0 from by unfold join1; rw [if_neg hc4, if_neg hc6]]
       exact ⟨nilV, l2, rfl, nilSl, rfl, fun x hx => hs2 _ (h2.o.sub x hx), hm2, rfl⟩

end Go.Proofs.YtdnhiinakhmhgaaGreatDoor

namespace Go.Proofs.YtdnhiinakhmhgaaGreatDoor
open Go.Sx Go.RowKit
def SimS (e : Ex) : Prop := ∀ (w : World) (F : Nat → Prop) (B : Bs) (l : List Itm) (hB : BsOk B w F) (hA : (forest B l).holds w F) (s : Value) (hm : Itm.deep s e.kids ∈ l) (j : Ex) (hj : simpE e = some j), CallM Tryz.prog 96 [.agg #[.int .i64 e.op, .int .i64 e.lt, s]] w F (fun r A o => ∃ sr l', r = .agg #[.int .i64 j.op, .int .i64 j.lt, sr] ∧ IsSl sr ∧ A = forest B l' ∧ (∀ x ∈ l, x ∈ l') ∧ Itm.deep sr j.kids ∈ l' ∧ o = [])
set_option maxHeartbeats 2000000 in
theorem s_simp_step (e : Ex) (ih : ∀ i, i < e.kids.length → SimS (e.kids.getD i default)) (w : World) (F : Nat → Prop) (B : Bs) (l : List Itm) (hB : BsOk B w F) (hA : (forest B l).holds w F) (s : Value) (hm : Itm.deep s e.kids ∈ l) (j : Ex) (hj : simpE e = some j) : CallM Tryz.prog 96 [.agg #[.int .i64 e.op, .int .i64 e.lt, s]] w F (fun r A o => ∃ sr l', r = .agg #[.int .i64 j.op, .int .i64 j.lt, sr] ∧ IsSl sr ∧ A = forest B l' ∧ (∀ x ∈ l, x ∈ l') ∧ Itm.deep sr j.kids ∈ l' ∧ o = []) := by
 refine specM_of Tryz.func96 rfl (leb rfl) hA ?_
 refine AK.open' 0 rfl hm fun l1 ss h2 => ?_
 have hmx := h2.mx'
 rw [simpE_eq] at hj
 refine .sr fun _ hK1 => ?_
 refine AK.box_ (E := 65) (cs := [.int .i64 e.op, .int .i64 e.lt, s]) rfl rfl rfl trivial rfl (fun bx1 => ?_)
 refine AK.alloc el65 rfl rfl trivial rfl (fun bx2 => ?_)
 refine .nt hK1 ?_
 refine .seq fun _ hK2 => ?_
 refine .sr fun _ hK3 => ?_
 refine .v (.fieldAddr fd65_2 rfl) ?_
 refine .v (.loadBox on63 rfl bsp rfl) ?_
 refine .v (.lenR sl63 rfl (by first | exact rdp | exact RdS.tree hB 0 rfl h2.rw | exact RdS.tree hB 0 rfl (hg0.2.1 _ h2.rw))) ?_
 refine .v (.eql rfl rfl) ?_
 refine .nt hK3 ?_
 refine AK.condD rfl (fun hc0 => ?_) (fun hc0 => ?_)
 ·rw [if_pos (by omega)] at hj
  cases hj
  refine .sr fun _ hK4 => ?_
  refine .v (.fieldAddr fd65_0 rfl) ?_
  refine .v (.loadBox on3 rfl bsp rfl) ?_
  refine .v (.fieldAddr fd65_1 rfl) ?_
  refine .v (.loadBox on3 rfl bsp rfl) ?_
  refine .v (.build (parts := [(0, .tmp 11), (1, .tmp 13)]) (cs := #[.int .i64 e.op, .int .i64 e.lt, .slice none 0 0]) rfl (by kernel_rfl)) ?_
  refine AK.storeBox 2 (us := [.int .i64 (Ex.mk e.op e.lt []).op, .int .i64 (Ex.mk e.op e.lt []).lt, nilV]) (cs' := [.int .i64 (Ex.mk e.op e.lt []).op, .int .i64 (Ex.mk e.op e.lt []).lt, nilV]) rfl sz65 rfl rfl rfl rfl oneP (leb rfl) rfl trivial ?_
  refine .nt hK4 (.ret (.then_ret ?_))
  refine AK.add' 0 (.deep nilV []) rfl (fun R => RdK.nil R) (fun l2 hs2 hm2 => ?_)
  refine AK.retG [.cell 2 65] rfl (.cons (.cell ag65 rfl bsp rfl rfl) (.nil)) (fun w hw => ⟨_, _, _, ?_, rfl, Ret.of (hw.pick [0] (by decide) rfl rfl)⟩)
  exact ⟨nilV, l2, rfl, nilSl, rfl, fun x hx => hs2 _ (h2.sub x hx), hm2, rfl⟩
 ·rw [if_neg (by omega)] at hj
  split at hj
  rotate_left
  ·cases hj
  rename_i hlim
  obtain ⟨L, hL, hj⟩ := bind_some hj
  obtain ⟨hLn, hLk⟩ := simpL_at hL
  refine .skip ?_
  refine AK.then_ (hK2 _ ?_)
  refine .sr fun _ hK5 => ?_
  refine .v (.fieldAddr fd65_2 rfl) ?_
  refine .v (.loadBox on63 rfl bsp rfl) ?_
  refine .v (.lenR sl63 rfl (by first | exact rdp | exact RdS.tree hB 0 rfl h2.rw | exact RdS.tree hB 0 rfl (hg0.2.1 _ h2.rw))) ?_
  refine AK.makeE sl63 el65 rfl rfl (by omega) (by omega) trivial rfl (fun mv0 => ?_)
  refine .as rfl (.nt hK5 ?_)
  refine .seq fun _ hK6 => ?_
  refine .sr fun _ hK7 => ?_
  refine .v (.fieldAddr fd65_2 rfl) ?_
  refine .v (.loadBox on63 rfl bsp rfl) ?_
  refine .v (.lenR sl63 rfl (by first | exact rdp | exact RdS.tree hB 0 rfl h2.rw | exact RdS.tree hB 0 rfl (hg0.2.1 _ h2.rw))) ?_
  refine .mv rfl (.nt hK7 (.block ?_))
  refine AK.loopK (X := List Value × List Itm) [(1, _), (2, _), (3, _), (20, _), (21, _)] (fun x => [(22, .int .i64 (x.1.length : Int))]) (fun x => [forest B x.2, box bx1 65 3 [.int .i64 e.op, .int .i64 e.lt, s], box bx2 65 3 [.int .i64 0, .int .i64 0, .slice none 0 0], row mv0 65 3 e.kids.length (xcs (fillE e.kids.length L x.1.length) (fillVT e.kids.length x.1))]) (fun x => x.1.length ≤ e.kids.length ∧ (∀ y ∈ l1, y ∈ x.2) ∧ Got x.2 L x.1) (fun x => e.kids.length - x.1.length) (([], l1)) slr ?_ ?_ ?_ ?_
  ·exact ⟨Nat.zero_le _, fun y hy => hy, Got.nil _ _⟩
  ·exact slr
  ·exact fun w hw => by obtain ⟨e1, e2⟩ := fill_zero e.kids.length L; simp only [List.length_nil]; rw [e1, e2]; exact hw
  ·intro x hg0 _ hK8
   refine .sr fun _ hK9 => ?_
   refine .v (.lss rfl rfl) ?_
   refine .nt hK9 ?_
   refine .seq fun _ hK10 => ?_
   refine AK.condD rfl (fun hc1 => ?_) (fun hc1 => ?_)
   ·have hkl : x.1.length < e.kids.length := by omega
    have sk := h2.sls x.1.length hkl
    refine .skip ?_
    refine AK.then_ (hK10 _ ?_)
    refine .seq fun _ hK11 => ?_
    refine .block ?_
    refine .sr fun _ hK12 => ?_
    refine .mv rfl ?_
    first | refine .v (.iN sl63 rfl rfl (hr := (by first | exact rdp | exact RdS.tree hB 0 rfl h2.rw | exact RdS.tree hB 0 rfl (hg0.2.1 _ h2.rw)))) ?_ | refine .v (.iK sl63 rfl rfl (hr := (by first | exact rdp | exact RdS.tree hB 0 rfl h2.rw | exact RdS.tree hB 0 rfl (hg0.2.1 _ h2.rw)))) ?_
    refine .v (.loadE ag65 rfl (by first | exact rdp | exact RdS.tree hB 0 rfl h2.rw | exact RdS.tree hB 0 rfl (hg0.2.1 _ h2.rw)) h2.len rfl (by omega)) ?_
    refine AK.alloc el65 rfl rfl trivial rfl (fun bx5 => ?_)
    refine .as rfl ?_
    refine AK.storeBox 4 (us := [.int .i64 (e.kids.getD x.1.length default).op, .int .i64 (e.kids.getD x.1.length default).lt, ss.getD x.1.length undef]) (cs' := [.int .i64 (e.kids.getD x.1.length default).op, .int .i64 (e.kids.getD x.1.length default).lt, ss.getD x.1.length undef]) rfl sz65 rfl rfl rfl rfl oneP (leb rfl) rfl trivial ?_
    refine .nt hK12 ?_
    refine AK.region ?_
    refine .mv rfl (.mv rfl ?_)
    refine .v (.loadBoxG ag65 rfl bsp rfl rfl) ?_
    refine AK.callN 0 rfl co96 rfl (fun w Fs hw hh hfr hal => ih x.1.length hkl w (Fs 0) B x.2 (hB.later hfr hal 0) (hh.at_ 0 _ rfl) _ (hg0.2.1 _ (h2.kid _ hkl)) (L.getD x.1.length default) (hLk _ hkl)) trivial rfl ?_
    rintro r A o ⟨sr, l2, rfl, ssr, rfl, hs2, hm2, rfl⟩
    first | refine .v (.iN sl63 rfl rfl (hr := (by first | exact rdp | exact RdS.tree hB 0 rfl h2.rw | exact RdS.tree hB 0 rfl (hg0.2.1 _ h2.rw)))) ?_ | refine .v (.iK sl63 rfl rfl (hr := (by first | exact rdp | exact RdS.tree hB 0 rfl h2.rw | exact RdS.tree hB 0 rfl (hg0.2.1 _ h2.rw)))) ?_
    refine AK.storeG 3 rfl sz65 rfl rfl rfl rfl (one'_cons rfl (one'_cons rfl (one'_cons (IsSl.one ssr) one'_nil))) (by omega) (cs' := xcs (fillE e.kids.length L (x.1.length + 1)) (fillVT e.kids.length (x.1 ++ [sr]))) (xcs_fill hLn hkl sr) trivial ?_
    refine .nil (.block_normal ?_)
    refine AK.then_ (hK11 _ ?_)
    refine AK.region ?_
    refine .v (.add rfl rfl (by omega)) ?_
    refine .mv rfl (.nil ?_)
    refine AK.then_ (hK8 _ _ ((x.1 ++ [sr], l2)) ⟨by simp; omega, fun y hy => hs2 _ (hg0.2.1 y hy), (hg0.2.2.later hs2).snoc hm2 ssr⟩ (by simp; omega) (.cons (slI rfl (by simp)) (slr)) (fun w hw => by have h := hw.pick [0, 1, 2, 3] (by decide) rfl rfl; simpa using h))
   ·have hkl : x.1.length = e.kids.length := by omega
    refine .exit (.then_exit (.then_exit (.block_exit ?_)))
    refine AK.then_ (hK6 _ ?_)
    refine .sr fun _ hK13 => ?_
    refine .v (.fieldAddr fd65_0 rfl) ?_
    refine .v (.loadBox on3 rfl bsp rfl) ?_
    refine .mv rfl ?_
    refine AK.close' 0 3 L x.1 (by decide) rfl rfl hLn.symm (by rw [hkl]; obtain ⟨e1, e2⟩ := fill_full hLn hkl; rw [e1, e2]) (by omega) (fun k hk => hg0.2.2.d k (by omega)) (fun l2 hs2 hm2 hr2 => ?_)
    refine AK.callN 0 rfl co118 rfl (fun w Fs hw hh hfr hal => s_join w (Fs 0) B l2 (hB.later hfr hal 0) (hh.at_ 0 _ rfl) e.op _ L hm2 j hj) trivial rfl ?_
    rintro r A o ⟨sr, l3, rfl, ssr, rfl, hs3, hm3, rfl⟩
    refine AK.storeBox 2 (us := [.int .i64 j.op, .int .i64 j.lt, sr]) (cs' := [.int .i64 j.op, .int .i64 j.lt, sr]) rfl sz65 rfl rfl rfl rfl oneP (leb rfl) rfl trivial ?_
    refine .nt hK13 (.ret ?_)
    refine AK.retG [.cell 2 65] rfl (.cons (.cell ag65 rfl bsp rfl rfl) (.nil)) (fun w hw => ⟨_, _, _, ?_, rfl, Ret.of (hw.pick [0] (by decide) rfl rfl)⟩)
    exact ⟨sr, l3, rfl, ssr, rfl, fun y hy => hs3 _ (hs2 _ (hg0.2.1 _ (h2.sub y hy))), hm3, rfl⟩

theorem s_simp (e : Ex) : SimS e := Ex.ind (P := SimS) (fun e ih w F B l hB hA s hm j hj => s_simp_step e ih w F B l hB hA s hm j hj) e
set_option maxHeartbeats 800000 in
theorem s_norm (e : Ex) (w : World) (F : Nat → Prop) (B : Bs) (l : List Itm) (hB : BsOk B w F) (hA : (forest B l).holds w F) (s : Value) (hm : Itm.deep s e.kids ∈ l) (j : Ex) (hj : normE e = some j) : CallM Tryz.prog 59 [.agg #[.int .i64 e.op, .int .i64 e.lt, s]] w F (fun r A o => ∃ sr l', r = .agg #[.int .i64 j.op, .int .i64 j.lt, sr] ∧ IsSl sr ∧ A = forest B l' ∧ (∀ x ∈ l, x ∈ l') ∧ Itm.deep sr j.kids ∈ l' ∧ o = []) := by
 refine specM_of Tryz.func59 rfl (leb rfl) hA ?_
 refine .sr fun _ hK1 => ?_
 refine AK.box_ (E := 65) (cs := [.int .i64 e.op, .int .i64 e.lt, s]) rfl rfl rfl trivial rfl (fun bx1 => ?_)
 refine AK.alloc el65 rfl rfl trivial rfl (fun bx2 => ?_)
 refine .nt hK1 ?_
 refine .seq fun _ hK2 => ?_
 refine .sr fun _ hK3 => ?_
 refine .v (.loadBoxG ag65 rfl bsp rfl rfl) ?_
 refine AK.call co64 rfl (fun w hw => s_val6 w e s (hw.kidR hB 0 rfl hm)) trivial rfl ?_
 rintro r o ⟨rfl, rfl⟩
 refine .v (.not rfl) ?_
 refine .nt hK3 ?_
 refine AK.condB rfl (fun hc0 => ?_) (fun hc0 => ?_)
 ·unfold normE at hj
  rw [if_neg (by simpa using hc0)] at hj
  cases hj
  refine .sr fun _ hK4 => ?_
  refine .v (.build (parts := []) (cs := #[.int .i64 0, .int .i64 0, .slice none 0 0]) rfl (by kernel_rfl)) ?_
  refine AK.storeBox 2 (us := [.int .i64 e0.op, .int .i64 e0.lt, nilV]) (cs' := [.int .i64 e0.op, .int .i64 e0.lt, nilV]) rfl sz65 rfl rfl rfl rfl oneP (leb rfl) rfl trivial ?_
  refine .nt hK4 (.ret (.then_ret ?_))
  refine AK.add' 0 (.deep nilV []) rfl (fun R => RdK.nil R) (fun l2 hs2 hm2 => ?_)
  refine AK.retG [.cell 2 65] rfl (.cons (.cell ag65 rfl bsp rfl rfl) (.nil)) (fun w hw => ⟨_, _, _, ?_, rfl, Ret.of (hw.pick [0] (by decide) rfl rfl)⟩)
  exact ⟨nilV, l2, rfl, nilSl, rfl, hs2, hm2, rfl⟩
 ·unfold normE at hj
  rw [if_pos (by simpa using hc0)] at hj
  refine .skip ?_
  refine AK.then_ (hK2 _ ?_)
  refine .sr fun _ hK5 => ?_
  refine .v (.loadBoxG ag65 rfl bsp rfl rfl) ?_
  refine AK.callN 0 rfl co96 rfl (fun w Fs hw hh hfr hal => s_simp e w (Fs 0) B l (hB.later hfr hal 0) (hh.at_ 0 _ rfl) s hm j hj) trivial rfl ?_
  rintro r A o ⟨sr, l2, rfl, ssr, rfl, hs2, hm2, rfl⟩
  refine AK.storeBox 2 (us := [.int .i64 j.op, .int .i64 j.lt, sr]) (cs' := [.int .i64 j.op, .int .i64 j.lt, sr]) rfl sz65 rfl rfl rfl rfl oneP (leb rfl) rfl trivial ?_
  refine .nt hK5 (.ret ?_)
  refine AK.retG [.cell 2 65] rfl (.cons (.cell ag65 rfl bsp rfl rfl) (.nil)) (fun w hw => ⟨_, _, _, ?_, rfl, Ret.of (hw.pick [0] (by decide) rfl rfl)⟩)
  exact ⟨sr, l2, rfl, ssr, rfl, hs2, hm2, rfl⟩

end Go.Proofs.YtdnhiinakhmhgaaGreatDoor

namespace Go.Proofs.YtdnhiinakhmhgaaGreatDoor
open Go.Sx Go.RowKit
def DerS (a : Int) (nm : Bool) (e : Ex) : Prop := ∀ (w : World) (F : Nat → Prop) (B : Bs) (l : List Itm) (hB : BsOk B w F) (hA : (forest B l).holds w F) (s : Value) (hm : Itm.deep s e.kids ∈ l) (d : Dv) (hd : dervE a nm e = some d), CallM Tryz.prog 120 [.agg #[.int .i64 a, .bool nm], .agg #[.int .i64 e.op, .int .i64 e.lt, s]] w F (fun r A o => ∃ sb sf l', r = .agg #[.int .i64 d.1.op, .int .i64 d.1.lt, sb, .int .i64 d.2.1.op, .int .i64 d.2.1.lt, sf, .bool d.2.2] ∧ IsSl sb ∧ IsSl sf ∧ A = forest B l' ∧ (∀ x ∈ l, x ∈ l') ∧ Itm.deep sb d.1.kids ∈ l' ∧ Itm.deep sf d.2.1.kids ∈ l' ∧ o = [])
set_option maxHeartbeats 4000000 in
theorem s_boolean (a : Int) (nm : Bool) (e : Ex) (ho : e.op = 4 ∨ e.op = 6 ∨ e.op = 8) (ih : ∀ i, i < e.kids.length → DerS a nm (e.kids.getD i default)) (w : World) (F : Nat → Prop) (B : Bs) (l : List Itm) (hB : BsOk B w F) (hA : (forest B l).holds w F) (s : Value) (hm : Itm.deep s e.kids ∈ l) (d : Dv) (hd : dervE a nm e = some d) : CallM Tryz.prog 153 [.agg #[.int .i64 a, .bool nm], .agg #[.int .i64 e.op, .int .i64 e.lt, s]] w F (fun r A o => ∃ sb sf l', r = .agg #[.int .i64 d.1.op, .int .i64 d.1.lt, sb, .int .i64 d.2.1.op, .int .i64 d.2.1.lt, sf, .bool d.2.2] ∧ IsSl sb ∧ IsSl sf ∧ A = forest B l' ∧ (∀ x ∈ l, x ∈ l') ∧ Itm.deep sb d.1.kids ∈ l' ∧ Itm.deep sf d.2.1.kids ∈ l' ∧ o = []) := by
 refine specM_of Tryz.func153 rfl (leb rfl) hA ?_
 refine AK.open' 0 rfl hm fun l1 ss h2 => ?_
 have hmx := h2.mx'
 obtain ⟨hlim, ds, hds, hbd⟩ := dervE_bool hd ho
 obtain ⟨hdn, hdk⟩ := dervL_at hds
 obtain ⟨h1b, h1s, h3⟩ := boolD_some hbd
 have hcl := count_le ds
 have hLB : (ds.map (·.1)).length = e.kids.length := by simp [hdn]
 have hLS : (ds.map (·.2.1)).length = e.kids.length := by simp [hdn]
 refine .sr fun _ hK1 => ?_
 refine AK.box_ (E := 183) (cs := [.int .i64 a, .bool nm]) rfl rfl rfl trivial rfl (fun bx2 => ?_)
 refine AK.box_ (E := 65) (cs := [.int .i64 e.op, .int .i64 e.lt, s]) rfl rfl rfl trivial rfl (fun bx3 => ?_)
 refine AK.alloc el181 rfl rfl trivial rfl (fun bx4 => ?_)
 refine .nt hK1 ?_
 refine .seq fun _ hK2 => ?_
 refine AK.joinK (X := Value × Value) [(2, _), (3, _), (4, _)] (fun z => [(5, z.1), (6, z.2)]) (fun z => [forest B l1, box bx2 183 2 [.int .i64 a, .bool nm], box bx3 65 3 [.int .i64 e.op, .int .i64 e.lt, s], box bx4 181 7 [.int .i64 0, .int .i64 0, .slice none 0 0, .int .i64 0, .int .i64 0, .slice none 0 0, .bool false], row z.1 65 3 e.kids.length (xcs (List.replicate e.kids.length e0) (List.replicate e.kids.length nilV)), row z.2 65 3 e.kids.length (xcs (List.replicate e.kids.length e0) (List.replicate e.kids.length nilV))]) (fun z => True) slr (fun _ hJ => ?_) (fun z hg => ?_)
 ·try (conv => enter [2, 2]; simp only [nrm])
  refine AK.held 10 mixed ?_
  refine HeldK.first 0 (fuel := 9) (listed' := (lb 10 1)) _ rfl krf krf rfl (Yl.fieldAddr fd65_2 rfl) trivial rfl ?_
  refine HeldK.first 1 (fuel := 8) (listed' := (lb 10 3)) _ rfl krf krf rfl (Yl.loadBox on63 rfl bsp rfl) trivial rfl ?_
  refine HeldK.first 2 (fuel := 7) (listed' := (lb 10 7)) _ rfl krf krf rfl (Yl.lenR sl63 rfl (by first | exact rdp | exact RdS.tree hB 0 rfl h2.rw | exact RdS.tree hB 0 rfl (hg0.2.2.1 _ h2.rw) | exact RdS.tree hB 0 rfl (hg.2.2.1 _ (hs5 _ (hs4 _ (hg0.2.2.1 _ h2.rw)))))) trivial rfl ?_
  refine HeldK.first 4 (fuel := 6) (listed' := (lb 10 23)) _ rfl krf krf rfl (Yl.fieldAddr fd65_2 rfl) trivial rfl ?_
  refine HeldK.first 5 (fuel := 5) (listed' := (lb 10 55)) _ rfl krf krf rfl (Yl.loadBox on63 rfl bsp rfl) trivial rfl ?_
  refine HeldK.first 6 (fuel := 4) (listed' := (lb 10 119)) _ rfl krf krf rfl (Yl.lenR sl63 rfl (by first | exact rdp | exact RdS.tree hB 0 rfl h2.rw | exact RdS.tree hB 0 rfl (hg0.2.2.1 _ h2.rw) | exact RdS.tree hB 0 rfl (hg.2.2.1 _ (hs5 _ (hs4 _ (hg0.2.2.1 _ h2.rw)))))) trivial rfl ?_
  refine HeldK.two 3 7 (fuel := 3) (listed1 := (lb 10 127)) (listed2 := (lb 10 247)) krf rfl rfl krf krf ?_ ?_
  ·refine AK.makeE sl63 el65 rfl rfl (by omega) (by omega) trivial rfl (fun mv0 => ?_)
   refine .nil ?_
   try (conv => enter [2, 2]; simp only [nrm])
   refine HeldK.back Go.Sx.hle ?_
   refine HeldK.first 8 (fuel := 2) (listed' := (lb 10 383)) _ rfl krf krf rfl (Yl.assign rfl) trivial rfl ?_
   refine HeldK.one 7 (fuel := 1) (listed' := (lb 10 511)) krf rfl krf ?_
   refine AK.makeE sl63 el65 rfl rfl (by omega) (by omega) trivial rfl (fun mv1 => ?_)
   refine .nil ?_
   try (conv => enter [2, 2]; simp only [nrm])
   refine HeldK.back Go.Sx.hle ?_
   refine HeldK.first 9 (fuel := 0) (listed' := (lb 10 1023)) _ rfl krf krf rfl (Yl.assign rfl) trivial rfl ?_
   refine HeldK.done krf ?_
   exact hJ _ _ ((mv0, mv1)) trivial (slr) (fun w hw => by first | exact hw.pickLe [0, 1, 2, 3, 4, 5] (by decide) pkl | exact hw.pickLe [0, 1, 2, 3, 5, 4] (by decide) pkl)
  ·refine AK.makeE sl63 el65 rfl rfl (by omega) (by omega) trivial rfl (fun mv1 => ?_)
   refine .nil ?_
   try (conv => enter [2, 2]; simp only [nrm])
   refine HeldK.back Go.Sx.hle ?_
   refine HeldK.one 3 (fuel := 2) (listed' := (lb 10 255)) krf rfl krf ?_
   refine AK.makeE sl63 el65 rfl rfl (by omega) (by omega) trivial rfl (fun mv0 => ?_)
   refine .nil ?_
   try (conv => enter [2, 2]; simp only [nrm])
   refine HeldK.back Go.Sx.hle ?_
   refine HeldK.first 8 (fuel := 1) (listed' := (lb 10 511)) _ rfl krf krf rfl (Yl.assign rfl) trivial rfl ?_
   refine HeldK.first 9 (fuel := 0) (listed' := (lb 10 1023)) _ rfl krf krf rfl (Yl.assign rfl) trivial rfl ?_
   refine HeldK.done krf ?_
   exact hJ _ _ ((mv0, mv1)) trivial (slr) (fun w hw => by first | exact hw.pickLe [0, 1, 2, 3, 4, 5] (by decide) pkl | exact hw.pickLe [0, 1, 2, 3, 5, 4] (by decide) pkl)
 ·skip
  refine AK.then_ (hK2 _ ?_)
  refine .sr fun _ hK3 => ?_
  refine .as rfl (.nt hK3 ?_)
  refine .seq fun _ hK4 => ?_
  refine .sr fun _ hK5 => ?_
  refine .v (.fieldAddr fd65_2 rfl) ?_
  refine .v (.loadBox on63 rfl bsp rfl) ?_
  refine .v (.lenR sl63 rfl (by first | exact rdp | exact RdS.tree hB 0 rfl h2.rw | exact RdS.tree hB 0 rfl (hg0.2.2.1 _ h2.rw) | exact RdS.tree hB 0 rfl (hg.2.2.1 _ (hs5 _ (hs4 _ (hg0.2.2.1 _ h2.rw)))))) ?_
  refine .mv rfl (.nt hK5 (.block ?_))
  refine AK.loopK (X := List Value × List Value × List Itm) [(2, _), (3, _), (4, _), (5, _), (6, _), (21, _), (22, _)] (fun x => [(7, .int .i64 ((((ds.take x.1.length).filter (·.2.2)).length : Nat) : Int)), (23, .int .i64 (x.1.length : Int))]) (fun x => [forest B x.2.2, box bx2 183 2 [.int .i64 a, .bool nm], box bx3 65 3 [.int .i64 e.op, .int .i64 e.lt, s], box bx4 181 7 [.int .i64 0, .int .i64 0, .slice none 0 0, .int .i64 0, .int .i64 0, .slice none 0 0, .bool false], row z.1 65 3 e.kids.length (xcs (fillE e.kids.length (ds.map (·.1)) x.1.length) (fillVT e.kids.length x.1)), row z.2 65 3 e.kids.length (xcs (fillE e.kids.length (ds.map (·.2.1)) x.2.1.length) (fillVT e.kids.length x.2.1))]) (fun x => x.1.length ≤ e.kids.length ∧ x.2.1.length = x.1.length ∧ (∀ y ∈ l1, y ∈ x.2.2) ∧ Got x.2.2 (ds.map (·.1)) x.1 ∧ Got x.2.2 (ds.map (·.2.1)) x.2.1) (fun x => e.kids.length - x.1.length) (([], [], l1)) slr ?_ ?_ ?_ ?_
  ·exact ⟨Nat.zero_le _, rfl, fun y hy => hy, Got.nil _ _, Got.nil _ _⟩
  ·exact slr
  ·exact fun w hw => by obtain ⟨e1, e2⟩ := fill_zero e.kids.length (ds.map (·.1)); obtain ⟨e3, e4⟩ := fill_zero e.kids.length (ds.map (·.2.1)); simp only [List.length_nil]; rw [e1, e2, e3]; exact hw
  ·intro x hg0 _ hK6
   refine .sr fun _ hK7 => ?_
   refine .v (.lss rfl rfl) ?_
   refine .nt hK7 ?_
   refine .seq fun _ hK8 => ?_
   refine AK.condD rfl (fun hc0 => ?_) (fun hc0 => ?_)
   ·have hkl : x.1.length < e.kids.length := by omega
    have sk := h2.sls x.1.length hkl
    obtain ⟨eB1, eB2⟩ := map_getD1 ds x.1.length (by omega)
    have hck := hcl x.1.length
    refine .skip ?_
    refine AK.then_ (hK8 _ ?_)
    refine .seq fun _ hK9 => ?_
    refine .block ?_
    refine .sr fun _ hK10 => ?_
    refine .mv rfl ?_
    first | refine .v (.iN sl63 rfl rfl (hr := (by first | exact rdp | exact RdS.tree hB 0 rfl h2.rw | exact RdS.tree hB 0 rfl (hg0.2.2.1 _ h2.rw) | exact RdS.tree hB 0 rfl (hg.2.2.1 _ (hs5 _ (hs4 _ (hg0.2.2.1 _ h2.rw))))))) ?_ | refine .v (.iK sl63 rfl rfl (hr := (by first | exact rdp | exact RdS.tree hB 0 rfl h2.rw | exact RdS.tree hB 0 rfl (hg0.2.2.1 _ h2.rw) | exact RdS.tree hB 0 rfl (hg.2.2.1 _ (hs5 _ (hs4 _ (hg0.2.2.1 _ h2.rw))))))) ?_
    refine .v (.loadE ag65 rfl (by first | exact rdp | exact RdS.tree hB 0 rfl h2.rw | exact RdS.tree hB 0 rfl (hg0.2.2.1 _ h2.rw) | exact RdS.tree hB 0 rfl (hg.2.2.1 _ (hs5 _ (hs4 _ (hg0.2.2.1 _ h2.rw))))) h2.len rfl (by omega)) ?_
    refine AK.alloc el65 rfl rfl trivial rfl (fun bx9 => ?_)
    refine .as rfl ?_
    refine AK.storeBox 6 (us := [.int .i64 (e.kids.getD x.1.length default).op, .int .i64 (e.kids.getD x.1.length default).lt, ss.getD x.1.length undef]) (cs' := [.int .i64 (e.kids.getD x.1.length default).op, .int .i64 (e.kids.getD x.1.length default).lt, ss.getD x.1.length undef]) rfl sz65 rfl rfl rfl rfl oneP (leb rfl) rfl trivial ?_
    refine .nt hK10 ?_
    refine .sr fun _ hK11 => ?_
    refine .v (.loadBoxG ag183 rfl bsp rfl rfl) ?_
    refine .v (.loadBoxG ag65 rfl bsp rfl rfl) ?_
    refine AK.callN 0 rfl co120 rfl (fun w Fs hw hh hfr hal => ih x.1.length hkl w (Fs 0) B x.2.2 (hB.later hfr hal 0) (hh.at_ 0 _ rfl) _ (hg0.2.2.1 _ (h2.kid _ hkl)) (ds.getD x.1.length default) (hdk _ hkl)) trivial rfl ?_
    rintro r A o ⟨sb, sf, l2, rfl, ssb, ssf, rfl, hs2, hmb, hmf, rfl⟩
    refine AK.alloc el181 rfl rfl trivial rfl (fun bx10 => ?_)
    refine AK.storeBox 7 (us := [.int .i64 (ds.getD x.1.length default).1.op, .int .i64 (ds.getD x.1.length default).1.lt, sb, .int .i64 (ds.getD x.1.length default).2.1.op, .int .i64 (ds.getD x.1.length default).2.1.lt, sf, .bool (ds.getD x.1.length default).2.2]) (cs' := [.int .i64 (ds.getD x.1.length default).1.op, .int .i64 (ds.getD x.1.length default).1.lt, sb, .int .i64 (ds.getD x.1.length default).2.1.op, .int .i64 (ds.getD x.1.length default).2.1.lt, sf, .bool (ds.getD x.1.length default).2.2]) rfl sz181 rfl rfl rfl rfl oneP (leb rfl) rfl trivial ?_
    refine .nt hK11 ?_
    refine .seq fun _ hK12 => ?_
    try (conv => enter [2, 2]; simp only [nrm])
    refine AK.heldS [box bx10 181 7 [.int .i64 (ds.getD x.1.length default).1.op, .int .i64 (ds.getD x.1.length default).1.lt, sb, .int .i64 (ds.getD x.1.length default).2.1.op, .int .i64 (ds.getD x.1.length default).2.1.lt, sf, .bool (ds.getD x.1.length default).2.2], rowX z.1 65 3 e.kids.length, rowX z.2 65 3 e.kids.length] 12 (fun _ hw => by have h := HW.toX 2 rfl (HW.toX 1 rfl (hw.pick [7, 4, 5] (by decide) rfl rfl)); exact h) mixed ?_
    refine HeldK.firstS (fun _ hw => by have h := HW.toX 2 rfl (HW.toX 1 rfl (hw.pick [7, 4, 5] (by decide) rfl rfl)); exact h) 0 (fuel := 11) (listed' := (lb 12 1)) _ rfl krf krf rfl (Yl.move rfl) trivial rfl ?_
    refine HeldK.firstS (fun _ hw => by have h := HW.toX 2 rfl (HW.toX 1 rfl (hw.pick [7, 4, 5] (by decide) rfl rfl)); exact h) 1 (fuel := 10) (listed' := (lb 12 3)) _ rfl krf krf rfl (Yl.move rfl) trivial rfl ?_
    refine HeldK.firstS (fun _ hw => by have h := HW.toX 2 rfl (HW.toX 1 rfl (hw.pick [7, 4, 5] (by decide) rfl rfl)); exact h) 2 (fuel := 9) (listed' := (lb 12 7)) _ rfl krf krf rfl (Yl.move rfl) trivial rfl ?_
    refine HeldK.firstS (fun _ hw => by have h := HW.toX 2 rfl (HW.toX 1 rfl (hw.pick [7, 4, 5] (by decide) rfl rfl)); exact h) 3 (fuel := 8) (listed' := (lb 12 15)) _ rfl krf krf rfl (Yl.move rfl) trivial rfl ?_
    refine HeldK.firstS (fun _ hw => by have h := HW.toX 2 rfl (HW.toX 1 rfl (hw.pick [7, 4, 5] (by decide) rfl rfl)); exact h) 4 (fuel := 7) (listed' := (lb 12 31)) _ rfl krf krf rfl (Yl.fieldAddr fd181_0 rfl) trivial rfl ?_
    refine HeldK.firstS (fun _ hw => by have h := HW.toX 2 rfl (HW.toX 1 rfl (hw.pick [7, 4, 5] (by decide) rfl rfl)); exact h) 5 (fuel := 6) (listed' := (lb 12 63)) _ rfl krf krf rfl (Yl.loadBoxG ag65 rfl bsp rfl rfl) trivial rfl ?_
    refine HeldK.firstS (fun _ hw => by have h := HW.toX 2 rfl (HW.toX 1 rfl (hw.pick [7, 4, 5] (by decide) rfl rfl)); exact h) 6 (fuel := 5) (listed' := (lb 12 127)) _ rfl krf krf rfl (Yl.fieldAddr fd181_1 rfl) trivial rfl ?_
    refine HeldK.firstS (fun _ hw => by have h := HW.toX 2 rfl (HW.toX 1 rfl (hw.pick [7, 4, 5] (by decide) rfl rfl)); exact h) 7 (fuel := 4) (listed' := (lb 12 255)) _ rfl krf krf rfl (Yl.loadBoxG ag65 rfl bsp rfl rfl) trivial rfl ?_
    refine HeldK.firstS (fun _ hw => by have h := HW.toX 2 rfl (HW.toX 1 rfl (hw.pick [7, 4, 5] (by decide) rfl rfl)); exact h) 8 (fuel := 3) (listed' := (lb 12 511)) _ rfl krf krf rfl (Yl.idxX 1 rfl sl63 rfl rfl (by decide) (by omega)) trivial rfl ?_
    refine HeldK.one 9 (fuel := 2) (listed' := (lb 12 1023)) krf rfl krf ?_
    refine AK.storeG 4 rfl sz65 rfl rfl rfl rfl (one'_cons rfl (one'_cons rfl (one'_cons (IsSl.one ssb) one'_nil))) (by omega) (cs' := xcs (fillE e.kids.length (ds.map (·.1)) (x.1.length + 1)) (fillVT e.kids.length (x.1 ++ [sb]))) ((by have h := xcs_fill hLB hkl sb; rw [eB1] at h; exact h)) trivial ?_
    refine .nil ?_
    try (conv => enter [2, 2]; simp only [nrm])
    refine HeldK.backS (fun _ hw => by have h := HW.toX 2 rfl (HW.toX 1 rfl (hw.pick [7, 4, 5] (by decide) rfl rfl)); exact h) ?_
    refine HeldK.firstS (fun _ hw => by have h := HW.toX 2 rfl (HW.toX 1 rfl (hw.pick [7, 4, 5] (by decide) rfl rfl)); exact h) 10 (fuel := 1) (listed' := (lb 12 2047)) _ rfl krf krf rfl (Yl.idxX 2 rfl sl63 rfl rfl (by decide) (by omega)) trivial rfl ?_
    refine HeldK.one 11 (fuel := 0) (listed' := (lb 12 4095)) krf rfl krf ?_
    refine AK.storeG 5 rfl sz65 rfl rfl rfl rfl (one'_cons rfl (one'_cons rfl (one'_cons (IsSl.one ssf) one'_nil))) (by omega) (cs' := xcs (fillE e.kids.length (ds.map (·.2.1)) (x.2.1.length + 1)) (fillVT e.kids.length (x.2.1 ++ [sf]))) ((by have h := xcs_fill (ts := x.2.1) hLS (by omega) sf; rw [hg0.2.1, eB2] at h; rw [hg0.2.1]; exact h)) trivial ?_
    refine .nil ?_
    try (conv => enter [2, 2]; simp only [nrm])
    refine HeldK.backS (fun _ hw => by have h := HW.toX 2 rfl (HW.toX 1 rfl (hw.pick [7, 4, 5] (by decide) rfl rfl)); exact h) ?_
    refine HeldK.done krf ?_
    refine AK.then_ (hK12 _ ?_)
    refine .sr fun _ hK13 => ?_
    refine .v (.fieldAddr fd181_2 rfl) ?_
    refine .v (.loadBox on4 rfl bsp rfl) ?_
    refine .nt hK13 ?_
    refine AK.cond rfl (fun hc1 => ?_) (fun hc1 => ?_)
    ·try simp only [bs] at hc1
     refine AK.region ?_
     refine .mv rfl ?_
     refine .v (.add rfl rfl (by omega)) ?_
     refine .as rfl (.nil (.block_normal ?_))
     refine AK.then_ (hK9 _ ?_)
     refine AK.region ?_
     refine .v (.add rfl rfl (by omega)) ?_
     refine .mv rfl (.nil ?_)
     refine AK.then_ (hK6 _ _ ((x.1 ++ [sb], x.2.1 ++ [sf], l2)) ⟨by simp; omega, by simp; omega, fun y hy => hs2 _ (hg0.2.2.1 y hy), (hg0.2.2.2.1.later hs2).snoc (by rw [eB1]; exact hmb) ssb, (hg0.2.2.2.2.later hs2).snoc (by rw [hg0.2.1, eB2]; exact hmf) ssf⟩ (by simp; omega) (.cons (slI rfl (by rw [List.length_append, List.length_singleton, count_snoc ds x.1.length (by omega), if_pos hc1]; simp)) (.cons (slI rfl (by simp)) (slr))) (fun w hw => by have h := hw.pick [0, 1, 2, 3, 4, 5] (by decide) rfl rfl; simpa [hg0.2.1] using h))
    ·try simp only [bs] at hc1
     refine .skip (.block_normal ?_)
     refine AK.then_ (hK9 _ ?_)
     refine AK.region ?_
     refine .v (.add rfl rfl (by omega)) ?_
     refine .mv rfl (.nil ?_)
     refine AK.then_ (hK6 _ _ ((x.1 ++ [sb], x.2.1 ++ [sf], l2)) ⟨by simp; omega, by simp; omega, fun y hy => hs2 _ (hg0.2.2.1 y hy), (hg0.2.2.2.1.later hs2).snoc (by rw [eB1]; exact hmb) ssb, (hg0.2.2.2.2.later hs2).snoc (by rw [hg0.2.1, eB2]; exact hmf) ssf⟩ (by simp; omega) (.cons (slI rfl (by rw [List.length_append, List.length_singleton, count_snoc ds x.1.length (by omega), if_neg (by rw [hc1]; decide)]; simp)) (.cons (slI rfl (by simp)) (slr))) (fun w hw => by have h := hw.pick [0, 1, 2, 3, 4, 5] (by decide) rfl rfl; simpa [hg0.2.1] using h))
   ·have hkl : x.1.length = e.kids.length := by omega
    refine AK.close' 0 4 (ds.map (·.1)) x.1 (by decide) rfl rfl hLB.symm (by rw [hkl]; obtain ⟨e1, e2⟩ := fill_full hLB hkl; rw [e1, e2]) (by omega) (fun k hk => hg0.2.2.2.1.d k (by omega)) (fun l4 hs4 hm4 hr4 => ?_)
    refine AK.close' 0 5 (ds.map (·.2.1)) x.2.1 (by decide) rfl rfl hLS.symm (by rw [show x.2.1.length = e.kids.length by omega]; obtain ⟨e1, e2⟩ := fill_full hLS (show x.2.1.length = e.kids.length by omega); rw [e1, e2]) (by omega) (fun k hk => hs4 _ (hg0.2.2.2.2.d k (by omega))) (fun l5 hs5 hm5 hr5 => ?_)
    refine AK.own' [forest B l5, box bx2 183 2 [.int .i64 a, .bool nm], box bx3 65 3 [.int .i64 e.op, .int .i64 e.lt, s], box bx4 181 7 [.int .i64 0, .int .i64 0, .slice none 0 0, .int .i64 0, .int .i64 0, .slice none 0 0, .bool false]] (fun w hw => hw.pick [0, 1, 2, 3] (by decide) rfl rfl) ?_
    have hdt : ds.take x.1.length = ds := by rw [hkl, ← hdn, List.take_length]
    rw [hdt]
    refine .exit (.then_exit (.then_exit (.block_exit ?_)))
    refine AK.then_ (hK4 _ ?_)
    refine .seq fun _ hK14 => ?_
    refine AK.joinK (X := Value × Value × List Itm × Nat) [(3, _), (4, _), (7, _)] (fun z => [(11, .pointer (some ⟨z.2.2.2, 0, none⟩))]) (fun z => [forest B z.2.2.1, box bx2 183 2 [.int .i64 a, .bool nm], box bx3 65 3 [.int .i64 e.op, .int .i64 e.lt, s], box bx4 181 7 [.int .i64 0, .int .i64 0, .slice none 0 0, .int .i64 0, .int .i64 0, .slice none 0 0, .bool false], box z.2.2.2 181 7 [.int .i64 d.1.op, .int .i64 d.1.lt, z.1, .int .i64 d.2.1.op, .int .i64 d.2.1.lt, z.2.1, .bool false]]) (fun z => IsSl z.1 ∧ IsSl z.2.1 ∧ (∀ y ∈ l5, y ∈ z.2.2.1) ∧ Itm.deep z.1 d.1.kids ∈ z.2.2.1 ∧ Itm.deep z.2.1 d.2.1.kids ∈ z.2.2.1) slr (fun _ hJ => ?_) (fun z hg => ?_)
    ·try (conv => enter [2, 2]; simp only [nrm])
     refine AK.heldS _ 10 (fun _ hw => hw.pick [2] (by decide) rfl rfl) mixed ?_
     refine HeldK.firstS (fun _ hw => hw.pick [2] (by decide) rfl rfl) 0 (fuel := 10) (listed' := (lb 11 1)) _ rfl krf krf rfl (Yl.fieldAddr fd65_0 rfl) trivial rfl ?_
     refine HeldK.firstS (fun _ hw => hw.pick [2] (by decide) rfl rfl) 1 (fuel := 9) (listed' := (lb 11 3)) _ rfl krf krf rfl (Yl.loadBox on3 rfl bsp rfl) trivial rfl ?_
     refine HeldK.firstS (fun _ hw => hw.pick [2] (by decide) rfl rfl) 2 (fuel := 8) (listed' := (lb 11 7)) _ rfl krf krf rfl (Yl.move rfl) trivial rfl ?_
     refine HeldK.firstS (fun _ hw => hw.pick [2] (by decide) rfl rfl) 4 (fuel := 7) (listed' := (lb 11 23)) _ rfl krf krf rfl (Yl.fieldAddr fd65_0 rfl) trivial rfl ?_
     refine HeldK.firstS (fun _ hw => hw.pick [2] (by decide) rfl rfl) 5 (fuel := 6) (listed' := (lb 11 55)) _ rfl krf krf rfl (Yl.loadBox on3 rfl bsp rfl) trivial rfl ?_
     refine HeldK.firstS (fun _ hw => hw.pick [2] (by decide) rfl rfl) 6 (fuel := 5) (listed' := (lb 11 119)) _ rfl krf krf rfl (Yl.move rfl) trivial rfl ?_
     refine HeldK.two 3 9 (fuel := 4) (listed1 := (lb 11 127)) (listed2 := (lb 11 631)) krf rfl rfl krf krf ?_ ?_
     ·refine AK.callN 0 rfl co118 rfl (fun w Fs hw hh hfr hal => s_join w (Fs 0) B l5 (hB.later hfr hal 0) (hh.at_ 0 _ rfl) e.op _ _ (hs5 _ hm4) d.1 h1b) trivial rfl ?_
      rintro r A o ⟨sb2, l6, rfl, ssb2, rfl, hs6, hm6, rfl⟩
      refine .nil ?_
      try (conv => enter [2, 2]; simp only [nrm])
      refine HeldK.backS (fun _ hw => hw.pick [2] (by decide) rfl rfl) ?_
      refine HeldK.two 7 9 (fuel := 3) (listed1 := (lb 11 255)) (listed2 := (lb 11 639)) krf rfl rfl krf krf ?_ ?_
      ·refine AK.callN 0 rfl co118 rfl (fun w Fs hw hh hfr hal => s_join w (Fs 0) B l6 (hB.later hfr hal 0) (hh.at_ 0 _ rfl) e.op _ _ (hs6 _ hm5) d.2.1 h1s) trivial rfl ?_
       rintro r A o ⟨sf2, l7, rfl, ssf2, rfl, hs7, hm7, rfl⟩
       refine .nil ?_
       try (conv => enter [2, 2]; simp only [nrm])
       refine HeldK.backS (fun _ hw => hw.pick [2] (by decide) rfl rfl) ?_
       refine HeldK.firstS (fun _ hw => hw.pick [2] (by decide) rfl rfl) 8 (fuel := 2) (listed' := (lb 11 511)) _ rfl krf krf rfl (Yl.build (parts := [(0, .tmp 49), (1, .tmp 53)]) (cs := #[.int .i64 d.1.op, .int .i64 d.1.lt, sb2, .int .i64 d.2.1.op, .int .i64 d.2.1.lt, sf2, .bool false]) rfl (by obtain ⟨_, _, _, rfl⟩ := ssb2; obtain ⟨_, _, _, rfl⟩ := ssf2; kernel_rfl)) trivial rfl ?_
       refine HeldK.one 9 (fuel := 1) (listed' := (lb 11 1023)) krf rfl krf ?_
       refine AK.alloc el181 rfl rfl trivial rfl (fun bx11 => ?_)
       refine .nil ?_
       try (conv => enter [2, 2]; simp only [nrm])
       refine HeldK.backS (fun _ hw => hw.pick [2] (by decide) rfl rfl) ?_
       refine HeldK.one 10 (fuel := 0) (listed' := (lb 11 2047)) krf rfl krf ?_
       refine AK.storeBox 4 (us := [.int .i64 d.1.op, .int .i64 d.1.lt, sb2, .int .i64 d.2.1.op, .int .i64 d.2.1.lt, sf2, .bool false]) (cs' := [.int .i64 d.1.op, .int .i64 d.1.lt, sb2, .int .i64 d.2.1.op, .int .i64 d.2.1.lt, sf2, .bool false]) rfl sz181 rfl rfl rfl rfl oneP (leb rfl) rfl trivial ?_
       refine .nil ?_
       try (conv => enter [2, 2]; simp only [nrm])
       refine HeldK.backN 11 krf rfl krf ?_
       refine .nil ?_
       refine AK.fromQn ?_
       exact hJ _ _ ((sb2, sf2, l7, bx11)) ⟨ssb2, ssf2, fun y hy => hs7 _ (hs6 _ hy), hs7 _ hm6, hm7⟩ (slr) (fun w hw => by first | exact hw.pickLe [0, 1, 2, 3, 4] (by decide) pkl)
      ·refine AK.alloc el181 rfl rfl trivial rfl (fun bx11 => ?_)
       refine .nil ?_
       try (conv => enter [2, 2]; simp only [nrm])
       refine HeldK.backS (fun _ hw => hw.pick [2] (by decide) rfl rfl) ?_
       refine HeldK.one 7 (fuel := 2) (listed' := (lb 11 767)) krf rfl krf ?_
       refine AK.callN 0 rfl co118 rfl (fun w Fs hw hh hfr hal => s_join w (Fs 0) B l6 (hB.later hfr hal 0) (hh.at_ 0 _ rfl) e.op _ _ (hs6 _ hm5) d.2.1 h1s) trivial rfl ?_
       rintro r A o ⟨sf2, l7, rfl, ssf2, rfl, hs7, hm7, rfl⟩
       refine .nil ?_
       try (conv => enter [2, 2]; simp only [nrm])
       refine HeldK.backS (fun _ hw => hw.pick [2] (by decide) rfl rfl) ?_
       refine HeldK.firstS (fun _ hw => hw.pick [2] (by decide) rfl rfl) 8 (fuel := 1) (listed' := (lb 11 1023)) _ rfl krf krf rfl (Yl.build (parts := [(0, .tmp 49), (1, .tmp 53)]) (cs := #[.int .i64 d.1.op, .int .i64 d.1.lt, sb2, .int .i64 d.2.1.op, .int .i64 d.2.1.lt, sf2, .bool false]) rfl (by obtain ⟨_, _, _, rfl⟩ := ssb2; obtain ⟨_, _, _, rfl⟩ := ssf2; kernel_rfl)) trivial rfl ?_
       refine HeldK.one 10 (fuel := 0) (listed' := (lb 11 2047)) krf rfl krf ?_
       refine AK.storeBox 4 (us := [.int .i64 d.1.op, .int .i64 d.1.lt, sb2, .int .i64 d.2.1.op, .int .i64 d.2.1.lt, sf2, .bool false]) (cs' := [.int .i64 d.1.op, .int .i64 d.1.lt, sb2, .int .i64 d.2.1.op, .int .i64 d.2.1.lt, sf2, .bool false]) rfl sz181 rfl rfl rfl rfl oneP (leb rfl) rfl trivial ?_
       refine .nil ?_
       try (conv => enter [2, 2]; simp only [nrm])
       refine HeldK.backN 11 krf rfl krf ?_
       refine .nil ?_
       refine AK.fromQn ?_
       exact hJ _ _ ((sb2, sf2, l7, bx11)) ⟨ssb2, ssf2, fun y hy => hs7 _ (hs6 _ hy), hs7 _ hm6, hm7⟩ (slr) (fun w hw => by first | exact hw.pickLe [0, 1, 2, 3, 4] (by decide) pkl)
     ·refine AK.alloc el181 rfl rfl trivial rfl (fun bx11 => ?_)
      refine .nil ?_
      try (conv => enter [2, 2]; simp only [nrm])
      refine HeldK.backS (fun _ hw => hw.pick [2] (by decide) rfl rfl) ?_
      refine HeldK.one 3 (fuel := 3) (listed' := (lb 11 639)) krf rfl krf ?_
      refine AK.callN 0 rfl co118 rfl (fun w Fs hw hh hfr hal => s_join w (Fs 0) B l5 (hB.later hfr hal 0) (hh.at_ 0 _ rfl) e.op _ _ (hs5 _ hm4) d.1 h1b) trivial rfl ?_
      rintro r A o ⟨sb2, l6, rfl, ssb2, rfl, hs6, hm6, rfl⟩
      refine .nil ?_
      try (conv => enter [2, 2]; simp only [nrm])
      refine HeldK.backS (fun _ hw => hw.pick [2] (by decide) rfl rfl) ?_
      refine HeldK.one 7 (fuel := 2) (listed' := (lb 11 767)) krf rfl krf ?_
      refine AK.callN 0 rfl co118 rfl (fun w Fs hw hh hfr hal => s_join w (Fs 0) B l6 (hB.later hfr hal 0) (hh.at_ 0 _ rfl) e.op _ _ (hs6 _ hm5) d.2.1 h1s) trivial rfl ?_
      rintro r A o ⟨sf2, l7, rfl, ssf2, rfl, hs7, hm7, rfl⟩
      refine .nil ?_
      try (conv => enter [2, 2]; simp only [nrm])
      refine HeldK.backS (fun _ hw => hw.pick [2] (by decide) rfl rfl) ?_
      refine HeldK.firstS (fun _ hw => hw.pick [2] (by decide) rfl rfl) 8 (fuel := 1) (listed' := (lb 11 1023)) _ rfl krf krf rfl (Yl.build (parts := [(0, .tmp 49), (1, .tmp 53)]) (cs := #[.int .i64 d.1.op, .int .i64 d.1.lt, sb2, .int .i64 d.2.1.op, .int .i64 d.2.1.lt, sf2, .bool false]) rfl (by obtain ⟨_, _, _, rfl⟩ := ssb2; obtain ⟨_, _, _, rfl⟩ := ssf2; kernel_rfl)) trivial rfl ?_
      refine HeldK.one 10 (fuel := 0) (listed' := (lb 11 2047)) krf rfl krf ?_
      refine AK.storeBox 4 (us := [.int .i64 d.1.op, .int .i64 d.1.lt, sb2, .int .i64 d.2.1.op, .int .i64 d.2.1.lt, sf2, .bool false]) (cs' := [.int .i64 d.1.op, .int .i64 d.1.lt, sb2, .int .i64 d.2.1.op, .int .i64 d.2.1.lt, sf2, .bool false]) rfl sz181 rfl rfl rfl rfl oneP (leb rfl) rfl trivial ?_
      refine .nil ?_
      try (conv => enter [2, 2]; simp only [nrm])
      refine HeldK.backN 11 krf rfl krf ?_
      refine .nil ?_
      refine AK.fromQn ?_
      exact hJ _ _ ((sb2, sf2, l7, bx11)) ⟨ssb2, ssf2, fun y hy => hs7 _ (hs6 _ hy), hs7 _ hm6, hm7⟩ (slr) (fun w hw => by first | exact hw.pickLe [0, 1, 2, 3, 4] (by decide) pkl)
    ·have sz1 := hg.1
     have sz2 := hg.2.1
     refine AK.then_ (hK14 _ ?_)
     refine .seq fun _ hK15 => ?_
     refine .sr fun _ hK16 => ?_
     refine .v (.fieldAddr fd65_0 rfl) ?_
     refine .v (.loadBox on3 rfl bsp rfl) ?_
     refine .nt hK16 (.block ?_)
     refine .sr fun _ hK17 => ?_
     refine .v (.eql rfl rfl) ?_
     refine .as rfl (.nt hK17 ?_)
     refine AK.condD rfl (fun hc2 => ?_) (fun hc2 => ?_)
     ·refine AK.region ?_
      refine .mv rfl ?_
      refine .v (.gtr rfl rfl) ?_
      refine .v (.fieldAddr fd181_2 rfl) ?_
      refine AK.storeBox 4 (us := [.bool (decide ((0 : Int) < ((ds.filter (·.2.2)).length : Nat)))]) (cs' := [.int .i64 d.1.op, .int .i64 d.1.lt, z.1, .int .i64 d.2.1.op, .int .i64 d.2.1.lt, z.2.1, .bool (decide ((0 : Int) < ((ds.filter (·.2.2)).length : Nat)))]) rfl sz4 rfl rfl rfl rfl oneP (leb rfl) rfl trivial ?_
      refine .nil (.block_normal ?_)
      refine AK.then_ (hK15 _ ?_)
      refine .sr fun _ hK18 => ?_
      refine .v (.loadBoxG ag181 rfl bsp rfl rfl) ?_
      refine AK.storeBox 3 (us := [.int .i64 d.1.op, .int .i64 d.1.lt, z.1, .int .i64 d.2.1.op, .int .i64 d.2.1.lt, z.2.1, .bool (decide ((0 : Int) < ((ds.filter (·.2.2)).length : Nat)))]) (cs' := [.int .i64 d.1.op, .int .i64 d.1.lt, z.1, .int .i64 d.2.1.op, .int .i64 d.2.1.lt, z.2.1, .bool (decide ((0 : Int) < ((ds.filter (·.2.2)).length : Nat)))]) rfl sz181 rfl rfl rfl rfl oneP (leb rfl) rfl trivial ?_
      refine .nt hK18 (.ret ?_)
      refine AK.retG [.cell 4 181] rfl (.cons (.cell ag181 rfl bsp rfl rfl) (.nil)) (fun w hw => ⟨_, _, _, ?_, rfl, Ret.of (hw.pick [0] (by decide) rfl rfl)⟩)
      rw [show ((decide ((0 : Int) < ((ds.filter (·.2.2)).length : Nat))) : Bool) = d.2.2 from by rw [h3]; unfold nlD; rw [if_pos hc2]; exact decide_eq_decide.2 (by omega)]
      exact ⟨z.1, z.2.1, z.2.2.1, rfl, hg.1, hg.2.1, rfl, fun y hy => hg.2.2.1 _ (hs5 _ (hs4 _ (hg0.2.2.1 _ (h2.sub y hy)))), hg.2.2.2.1, hg.2.2.2.2, rfl⟩
     ·refine .sr fun _ hK19 => ?_
      refine .v (.eql rfl rfl) ?_
      refine .as rfl (.nt hK19 ?_)
      refine AK.condD rfl (fun hc3 => ?_) (fun hc3 => ?_)
      ·refine AK.region ?_
       refine .mv rfl ?_
       refine .v (.fieldAddr fd65_2 rfl) ?_
       refine .v (.loadBox on63 rfl bsp rfl) ?_
       refine .v (.lenR sl63 rfl (by first | exact rdp | exact RdS.tree hB 0 rfl h2.rw | exact RdS.tree hB 0 rfl (hg0.2.2.1 _ h2.rw) | exact RdS.tree hB 0 rfl (hg.2.2.1 _ (hs5 _ (hs4 _ (hg0.2.2.1 _ h2.rw)))))) ?_
       refine .v (.eql rfl rfl) ?_
       refine .v (.fieldAddr fd181_2 rfl) ?_
       refine AK.storeBox 4 (us := [.bool (decide ((((ds.filter (·.2.2)).length : Nat) : Int) = (e.kids.length : Int)))]) (cs' := [.int .i64 d.1.op, .int .i64 d.1.lt, z.1, .int .i64 d.2.1.op, .int .i64 d.2.1.lt, z.2.1, .bool (decide ((((ds.filter (·.2.2)).length : Nat) : Int) = (e.kids.length : Int)))]) rfl sz4 rfl rfl rfl rfl oneP (leb rfl) rfl trivial ?_
       refine .nil (.block_normal ?_)
       refine AK.then_ (hK15 _ ?_)
       refine .sr fun _ hK20 => ?_
       refine .v (.loadBoxG ag181 rfl bsp rfl rfl) ?_
       refine AK.storeBox 3 (us := [.int .i64 d.1.op, .int .i64 d.1.lt, z.1, .int .i64 d.2.1.op, .int .i64 d.2.1.lt, z.2.1, .bool (decide ((((ds.filter (·.2.2)).length : Nat) : Int) = (e.kids.length : Int)))]) (cs' := [.int .i64 d.1.op, .int .i64 d.1.lt, z.1, .int .i64 d.2.1.op, .int .i64 d.2.1.lt, z.2.1, .bool (decide ((((ds.filter (·.2.2)).length : Nat) : Int) = (e.kids.length : Int)))]) rfl sz181 rfl rfl rfl rfl oneP (leb rfl) rfl trivial ?_
       refine .nt hK20 (.ret ?_)
       refine AK.retG [.cell 4 181] rfl (.cons (.cell ag181 rfl bsp rfl rfl) (.nil)) (fun w hw => ⟨_, _, _, ?_, rfl, Ret.of (hw.pick [0] (by decide) rfl rfl)⟩)
       rw [show ((decide ((((ds.filter (·.2.2)).length : Nat) : Int) = (e.kids.length : Int))) : Bool) = d.2.2 from by rw [h3]; unfold nlD; rw [if_neg hc2, if_pos hc3]; exact decide_eq_decide.2 (by omega)]
       exact ⟨z.1, z.2.1, z.2.2.1, rfl, hg.1, hg.2.1, rfl, fun y hy => hg.2.2.1 _ (hs5 _ (hs4 _ (hg0.2.2.1 _ (h2.sub y hy)))), hg.2.2.2.1, hg.2.2.2.2, rfl⟩
      ·refine .sr fun _ hK21 => ?_
       refine .v (.eql rfl rfl) ?_
       refine .as rfl (.nt hK21 ?_)
       refine AK.condD rfl (fun hc4 => ?_) (fun hc4 => ?_)
       ·refine AK.region ?_
        refine .mv rfl ?_
        refine .v (.eql rfl rfl) ?_
        refine .v (.fieldAddr fd181_2 rfl) ?_
        refine AK.storeBox 4 (us := [.bool (decide ((((ds.filter (·.2.2)).length : Nat) : Int) = 0))]) (cs' := [.int .i64 d.1.op, .int .i64 d.1.lt, z.1, .int .i64 d.2.1.op, .int .i64 d.2.1.lt, z.2.1, .bool (decide ((((ds.filter (·.2.2)).length : Nat) : Int) = 0))]) rfl sz4 rfl rfl rfl rfl oneP (leb rfl) rfl trivial ?_
        refine .nil (.block_normal ?_)
        refine AK.then_ (hK15 _ ?_)
        refine .sr fun _ hK22 => ?_
        refine .v (.loadBoxG ag181 rfl bsp rfl rfl) ?_
        refine AK.storeBox 3 (us := [.int .i64 d.1.op, .int .i64 d.1.lt, z.1, .int .i64 d.2.1.op, .int .i64 d.2.1.lt, z.2.1, .bool (decide ((((ds.filter (·.2.2)).length : Nat) : Int) = 0))]) (cs' := [.int .i64 d.1.op, .int .i64 d.1.lt, z.1, .int .i64 d.2.1.op, .int .i64 d.2.1.lt, z.2.1, .bool (decide ((((ds.filter (·.2.2)).length : Nat) : Int) = 0))]) rfl sz181 rfl rfl rfl rfl oneP (leb rfl) rfl trivial ?_
        refine .nt hK22 (.ret ?_)
        refine AK.retG [.cell 4 181] rfl (.cons (.cell ag181 rfl bsp rfl rfl) (.nil)) (fun w hw => ⟨_, _, _, ?_, rfl, Ret.of (hw.pick [0] (by decide) rfl rfl)⟩)
        rw [show ((decide ((((ds.filter (·.2.2)).length : Nat) : Int) = 0)) : Bool) = d.2.2 from by rw [h3]; unfold nlD; rw [if_neg hc2, if_neg hc3, if_pos hc4]; exact decide_eq_decide.2 (by omega)]
        exact ⟨z.1, z.2.1, z.2.2.1, rfl, hg.1, hg.2.1, rfl, fun y hy => hg.2.2.1 _ (hs5 _ (hs4 _ (hg0.2.2.1 _ (h2.sub y hy)))), hg.2.2.2.1, hg.2.2.2.2, rfl⟩
       ·refine .skip (.block_normal ?_)
        refine AK.then_ (hK15 _ ?_)
        refine .sr fun _ hK23 => ?_
        refine .v (.loadBoxG ag181 rfl bsp rfl rfl) ?_
        refine AK.storeBox 3 (us := [.int .i64 d.1.op, .int .i64 d.1.lt, z.1, .int .i64 d.2.1.op, .int .i64 d.2.1.lt, z.2.1, .bool false]) (cs' := [.int .i64 d.1.op, .int .i64 d.1.lt, z.1, .int .i64 d.2.1.op, .int .i64 d.2.1.lt, z.2.1, .bool false]) rfl sz181 rfl rfl rfl rfl oneP (leb rfl) rfl trivial ?_
        refine .nt hK23 (.ret ?_)
        refine AK.retG [.cell 4 181] rfl (.cons (.cell ag181 rfl bsp rfl rfl) (.nil)) (fun w hw => ⟨_, _, _, ?_, rfl, Ret.of (hw.pick [0] (by decide) rfl rfl)⟩)
        rw [show (false : Bool) = d.2.2 from by rw [h3]; unfold nlD; rw [if_neg hc2, if_neg hc3, if_neg hc4]]
        exact ⟨z.1, z.2.1, z.2.2.1, rfl, hg.1, hg.2.1, rfl, fun y hy => hg.2.2.1 _ (hs5 _ (hs4 _ (hg0.2.2.1 _ (h2.sub y hy)))), hg.2.2.2.1, hg.2.2.2.2, rfl⟩

end Go.Proofs.YtdnhiinakhmhgaaGreatDoor

namespace Go.Proofs.YtdnhiinakhmhgaaGreatDoor
open Go.Sx Go.RowKit
set_option maxHeartbeats 800000 in
theorem s_smp (a : Int) (nm : Bool) (e : Ex) (w : World) (F : Nat → Prop) (B : Bs) (l : List Itm) (hB : BsOk B w F) (hA : (forest B l).holds w F) (s : Value) (hm : Itm.deep s e.kids ∈ l) (j : Ex) (hj : (if nm then some e else simpE e) = some j) : CallM Tryz.prog 177 [.agg #[.int .i64 a, .bool nm], .agg #[.int .i64 e.op, .int .i64 e.lt, s]] w F (fun r A o => ∃ sr l', r = .agg #[.int .i64 j.op, .int .i64 j.lt, sr] ∧ IsSl sr ∧ A = forest B l' ∧ (∀ x ∈ l, x ∈ l') ∧ Itm.deep sr j.kids ∈ l' ∧ o = []) := by
 refine specM_of Tryz.func177 rfl (leb rfl) hA ?_
 refine AK.forestSl 0 rfl hm (fun ssl => ?_)
 refine .sr fun _ hK1 => ?_
 refine AK.box_ (E := 183) (cs := [.int .i64 a, .bool nm]) rfl rfl rfl trivial rfl (fun bx2 => ?_)
 refine AK.box_ (E := 65) (cs := [.int .i64 e.op, .int .i64 e.lt, s]) rfl rfl rfl trivial rfl (fun bx3 => ?_)
 refine AK.alloc el65 rfl rfl trivial rfl (fun bx4 => ?_)
 refine .nt hK1 ?_
 refine .seq fun _ hK2 => ?_
 refine .sr fun _ hK3 => ?_
 refine .v (.fieldAddr fd183_1 rfl) ?_
 refine .v (.loadBox on4 rfl bsp rfl) ?_
 refine .nt hK3 ?_
 refine AK.cond rfl (fun hc0 => ?_) (fun hc0 => ?_)
 ·try simp only [bs] at hc0
  rw [if_pos hc0] at hj
  cases hj
  refine .sr fun _ hK4 => ?_
  refine .v (.loadBoxG ag65 rfl bsp rfl rfl) ?_
  refine AK.storeBox 3 (us := [.int .i64 e.op, .int .i64 e.lt, s]) (cs' := [.int .i64 e.op, .int .i64 e.lt, s]) rfl sz65 rfl rfl rfl rfl oneP (leb rfl) rfl trivial ?_
  refine .nt hK4 (.ret (.then_ret ?_))
  refine AK.retG [.cell 4 65] rfl (.cons (.cell ag65 rfl bsp rfl rfl) (.nil)) (fun w hw => ⟨_, _, _, ?_, rfl, Ret.of (hw.pick [0] (by decide) rfl rfl)⟩)
  exact ⟨s, l, rfl, ssl, rfl, fun x hx => hx, hm, rfl⟩
 ·try simp only [bs] at hc0
  rw [if_neg (by rw [hc0]; decide)] at hj
  refine .skip ?_
  refine AK.then_ (hK2 _ ?_)
  refine .sr fun _ hK5 => ?_
  refine .v (.loadBoxG ag65 rfl bsp rfl rfl) ?_
  refine AK.callN 0 rfl co96 rfl (fun w Fs hw hh hfr hal => s_simp e w (Fs 0) B l (hB.later hfr hal 0) (hh.at_ 0 _ rfl) s hm j hj) trivial rfl ?_
  rintro r A o ⟨sr, l2, rfl, ssr, rfl, hs2, hm2, rfl⟩
  refine AK.storeBox 3 (us := [.int .i64 j.op, .int .i64 j.lt, sr]) (cs' := [.int .i64 j.op, .int .i64 j.lt, sr]) rfl sz65 rfl rfl rfl rfl oneP (leb rfl) rfl trivial ?_
  refine .nt hK5 (.ret ?_)
  refine AK.retG [.cell 4 65] rfl (.cons (.cell ag65 rfl bsp rfl rfl) (.nil)) (fun w hw => ⟨_, _, _, ?_, rfl, Ret.of (hw.pick [0] (by decide) rfl rfl)⟩)
  exact ⟨sr, l2, rfl, ssr, rfl, hs2, hm2, rfl⟩

set_option maxHeartbeats 4000000 in
theorem s_dconcat (a : Int) (nm : Bool) (e : Ex) (ho : e.op = 5) (ih : ∀ i, i < e.kids.length → DerS a nm (e.kids.getD i default)) (w : World) (F : Nat → Prop) (B : Bs) (l : List Itm) (hB : BsOk B w F) (hA : (forest B l).holds w F) (s : Value) (hm : Itm.deep s e.kids ∈ l) (d : Dv) (hd : dervE a nm e = some d) : CallM Tryz.prog 154 [.agg #[.int .i64 a, .bool nm], .agg #[.int .i64 e.op, .int .i64 e.lt, s]] w F (fun r A o => ∃ sb sf l', r = .agg #[.int .i64 d.1.op, .int .i64 d.1.lt, sb, .int .i64 d.2.1.op, .int .i64 d.2.1.lt, sf, .bool d.2.2] ∧ IsSl sb ∧ IsSl sf ∧ A = forest B l' ∧ (∀ x ∈ l, x ∈ l') ∧ Itm.deep sb d.1.kids ∈ l' ∧ Itm.deep sf d.2.1.kids ∈ l' ∧ o = []) := by
 refine specM_of Tryz.func154 rfl (leb rfl) hA ?_
 refine AK.open' 0 rfl hm fun l1 ss h2 => ?_
 have hmx := h2.mx'
 obtain ⟨hlim, BY, SV, N, P, hcat0, hP, h1b, h1s, h3⟩ := dervE_con hd ho
 obtain ⟨hSVn, hBYn⟩ := dervC_len hcat0
 simp only at hSVn hBYn
 obtain ⟨hPn, hPk⟩ := partsD_at hP
 refine .sr fun _ hK1 => ?_
 refine AK.box_ (E := 183) (cs := [.int .i64 a, .bool nm]) rfl rfl rfl trivial rfl (fun bx2 => ?_)
 refine AK.box_ (E := 65) (cs := [.int .i64 e.op, .int .i64 e.lt, s]) rfl rfl rfl trivial rfl (fun bx3 => ?_)
 refine AK.alloc el181 rfl rfl trivial rfl (fun bx4 => ?_)
 refine .nt hK1 ?_
 refine .sr fun _ hK2 => ?_
 refine .as rfl (.nt hK2 ?_)
 refine .sr fun _ hK3 => ?_
 refine .v (.fieldAddr fd65_2 rfl) ?_
 refine .v (.loadBox on63 rfl bsp rfl) ?_
 refine .v (.lenR sl63 rfl (by first | exact rdp | exact RdS.tree hB 0 rfl h2.rw | exact RdS.tree hB 0 rfl (hg0.2.2.1 _ h2.rw) | exact RdS.tree hB 0 rfl (hs5 _ hr4) | exact RdS.tree hB 0 rfl (hg1.2.1 _ (hs5 _ hr4)))) ?_
 refine AK.makeE sl63 el65 rfl rfl (by omega) (by omega) trivial rfl (fun mv0 => ?_)
 refine .as rfl (.nt hK3 ?_)
 refine .sr fun _ hK4 => ?_
 refine .as rfl (.nt hK4 ?_)
 refine .seq fun _ hK5 => ?_
 refine .sr fun _ hK6 => ?_
 refine .v (.fieldAddr fd65_2 rfl) ?_
 refine .v (.loadBox on63 rfl bsp rfl) ?_
 refine .v (.lenR sl63 rfl (by first | exact rdp | exact RdS.tree hB 0 rfl h2.rw | exact RdS.tree hB 0 rfl (hg0.2.2.1 _ h2.rw) | exact RdS.tree hB 0 rfl (hs5 _ hr4) | exact RdS.tree hB 0 rfl (hg1.2.1 _ (hs5 _ hr4)))) ?_
 refine .mv rfl (.nt hK6 (.block ?_))
 refine AK.loopK (X := Value × List Value × List Value × Bool × List Itm) [(2, _), (4, _), (6, _), (20, _), (21, _)] (fun x => [(5, x.1), (7, .bool x.2.2.2.1), (22, .int .i64 (x.2.2.1.length : Int))]) (fun x => [forest B x.2.2.2.2, box bx2 183 2 [.int .i64 a, .bool nm], box bx3 65 3 [.int .i64 e.op, .int .i64 e.lt, s], box bx4 181 7 [.int .i64 0, .int .i64 0, .slice none 0 0, .int .i64 0, .int .i64 0, .slice none 0 0, .bool false], row mv0 65 3 e.kids.length (xcs (fillE e.kids.length SV x.2.2.1.length) (fillVT e.kids.length x.2.2.1)), row x.1 65 3 x.2.1.length (xcs (BY.take x.2.1.length) x.2.1)]) (fun x => CatI a nm e.kids BY SV N x.2.2.2.1 x.2.2.1.length x.2.1.length ∧ IsSl x.1 ∧ (∀ y ∈ l1, y ∈ x.2.2.2.2) ∧ Got x.2.2.2.2 BY x.2.1 ∧ Got x.2.2.2.2 SV x.2.2.1) (fun x => e.kids.length - x.2.2.1.length) ((.slice none 0 0, [], [], true, l1)) slr ?_ ?_ ?_ ?_
 ·exact ⟨CatI.start hcat0, nilSl, fun y hy => hy, Got.nil _ _, Got.nil _ _⟩
 ·exact slr
 ·exact fun w hw => by obtain ⟨e1, e2⟩ := fill_zero e.kids.length SV; simp only [List.length_nil]; rw [e1, e2]; exact hw.ghost 65 3
 ·intro x hg0 _ hK7
  refine .sr fun _ hK8 => ?_
  refine .v (.lss rfl rfl) ?_
  refine .nt hK8 ?_
  refine .seq fun _ hK9 => ?_
  refine AK.condD rfl (fun hc0 => ?_) (fun hc0 => ?_)
  ·have hkl : x.2.2.1.length < e.kids.length := by omega
   have sk := h2.sls x.2.2.1.length hkl
   have hcml := hg0.1.ml
   refine .skip ?_
   refine AK.then_ (hK9 _ ?_)
   refine .seq fun _ hK10 => ?_
   refine .block ?_
   refine .sr fun _ hK11 => ?_
   refine .mv rfl ?_
   first | refine .v (.iN sl63 rfl rfl (hr := (by first | exact rdp | exact RdS.tree hB 0 rfl h2.rw | exact RdS.tree hB 0 rfl (hg0.2.2.1 _ h2.rw) | exact RdS.tree hB 0 rfl (hs5 _ hr4) | exact RdS.tree hB 0 rfl (hg1.2.1 _ (hs5 _ hr4))))) ?_ | refine .v (.iK sl63 rfl rfl (hr := (by first | exact rdp | exact RdS.tree hB 0 rfl h2.rw | exact RdS.tree hB 0 rfl (hg0.2.2.1 _ h2.rw) | exact RdS.tree hB 0 rfl (hs5 _ hr4) | exact RdS.tree hB 0 rfl (hg1.2.1 _ (hs5 _ hr4))))) ?_
   refine .v (.loadE ag65 rfl (by first | exact rdp | exact RdS.tree hB 0 rfl h2.rw | exact RdS.tree hB 0 rfl (hg0.2.2.1 _ h2.rw) | exact RdS.tree hB 0 rfl (hs5 _ hr4) | exact RdS.tree hB 0 rfl (hg1.2.1 _ (hs5 _ hr4))) h2.len rfl (by omega)) ?_
   refine AK.alloc el65 rfl rfl trivial rfl (fun bx9 => ?_)
   refine .as rfl ?_
   refine AK.storeBox 6 (us := [.int .i64 (e.kids.getD x.2.2.1.length default).op, .int .i64 (e.kids.getD x.2.2.1.length default).lt, ss.getD x.2.2.1.length undef]) (cs' := [.int .i64 (e.kids.getD x.2.2.1.length default).op, .int .i64 (e.kids.getD x.2.2.1.length default).lt, ss.getD x.2.2.1.length undef]) rfl sz65 rfl rfl rfl rfl oneP (leb rfl) rfl trivial ?_
   refine .nt hK11 ?_
   refine .seq fun _ hK12 => ?_
   refine .sr fun _ hK13 => ?_
   refine .mv rfl ?_
   refine .v (.not rfl) ?_
   refine .nt hK13 ?_
   refine AK.condB rfl (fun hc1 => ?_) (fun hc1 => ?_)
   ·have hcat := hg0.1
    rw [hc1] at hcat
    obtain ⟨hsm, hcat2⟩ := hcat.no hkl
    refine .sr fun _ hK14 => ?_
    refine .mv rfl (.mv rfl ?_)
    refine .v (.loadBoxG ag183 rfl bsp rfl rfl) ?_
    refine .v (.loadBoxG ag65 rfl bsp rfl rfl) ?_
    refine AK.callN 0 rfl co177 rfl (fun w Fs hw hh hfr hal => s_smp a nm _ w (Fs 0) B x.2.2.2.2 (hB.later hfr hal 0) (hh.at_ 0 _ rfl) _ (hg0.2.2.1 _ (h2.kid _ hkl)) _ hsm) trivial rfl ?_
    rintro r A o ⟨sr, l2, rfl, ssr, rfl, hs2, hm2, rfl⟩
    first | refine .v (.iN sl63 rfl rfl (hr := (by first | exact rdp | exact RdS.tree hB 0 rfl h2.rw | exact RdS.tree hB 0 rfl (hg0.2.2.1 _ h2.rw) | exact RdS.tree hB 0 rfl (hs5 _ hr4) | exact RdS.tree hB 0 rfl (hg1.2.1 _ (hs5 _ hr4))))) ?_ | refine .v (.iK sl63 rfl rfl (hr := (by first | exact rdp | exact RdS.tree hB 0 rfl h2.rw | exact RdS.tree hB 0 rfl (hg0.2.2.1 _ h2.rw) | exact RdS.tree hB 0 rfl (hs5 _ hr4) | exact RdS.tree hB 0 rfl (hg1.2.1 _ (hs5 _ hr4))))) ?_
    refine AK.storeG 4 rfl sz65 rfl rfl rfl rfl (one'_cons rfl (one'_cons rfl (one'_cons (IsSl.one ssr) one'_nil))) (by omega) (cs' := xcs (fillE e.kids.length SV (x.2.2.1.length + 1)) (fillVT e.kids.length (x.2.2.1 ++ [sr]))) (xcs_fill hSVn hkl sr) trivial ?_
    refine .nt hK14 (.exit (.then_exit (.block_exit ?_)))
    refine AK.then_ (hK10 _ ?_)
    refine AK.region ?_
    refine .v (.add rfl rfl (by omega)) ?_
    refine .mv rfl (.nil ?_)
    refine AK.then_ (hK7 _ _ ((x.1, x.2.1, x.2.2.1 ++ [sr], false, l2)) ⟨by simpa using hcat2, hg0.2.1, fun y hy => hs2 _ (hg0.2.2.1 y hy), hg0.2.2.2.1.later hs2, (hg0.2.2.2.2.later hs2).snoc hm2 ssr⟩ (by simp; omega) (.cons (rfl) (.cons (gB hc1) (.cons (slI rfl (by simp)) (slr)))) (fun w hw => by have h := hw.pick [0, 1, 2, 3, 4, 5] (by decide) rfl rfl; simpa using h))
   ·have hcat := hg0.1
    rw [hc1] at hcat
    obtain ⟨d1, hd1, hml, hBm, hSk, hcat2⟩ := hcat.yes hkl
    refine .skip ?_
    refine AK.then_ (hK12 _ ?_)
    refine .sr fun _ hK15 => ?_
    refine .v (.loadBoxG ag183 rfl bsp rfl rfl) ?_
    refine .v (.loadBoxG ag65 rfl bsp rfl rfl) ?_
    refine AK.callN 0 rfl co120 rfl (fun w Fs hw hh hfr hal => ih x.2.2.1.length hkl w (Fs 0) B x.2.2.2.2 (hB.later hfr hal 0) (hh.at_ 0 _ rfl) _ (hg0.2.2.1 _ (h2.kid _ hkl)) d1 hd1) trivial rfl ?_
    rintro r A o ⟨sb, sf, l2, rfl, ssb, ssf, rfl, hs2, hmb, hmf, rfl⟩
    refine AK.alloc el181 rfl rfl trivial rfl (fun bx10 => ?_)
    refine AK.storeBox 7 (us := [.int .i64 d1.1.op, .int .i64 d1.1.lt, sb, .int .i64 d1.2.1.op, .int .i64 d1.2.1.lt, sf, .bool d1.2.2]) (cs' := [.int .i64 d1.1.op, .int .i64 d1.1.lt, sb, .int .i64 d1.2.1.op, .int .i64 d1.2.1.lt, sf, .bool d1.2.2]) rfl sz181 rfl rfl rfl rfl oneP (leb rfl) rfl trivial ?_
    refine .nt hK15 ?_
    try (conv => enter [2, 2]; simp only [nrm])
    refine AK.heldS [box bx10 181 7 [.int .i64 d1.1.op, .int .i64 d1.1.lt, sb, .int .i64 d1.2.1.op, .int .i64 d1.2.1.lt, sf, .bool d1.2.2], rowX mv0 65 3 e.kids.length] 15 (fun _ hw => by have h := HW.toX 1 rfl (hw.pick [7, 4] (by decide) rfl rfl); exact h) mixed ?_
    refine HeldK.firstS (fun _ hw => by have h := HW.toX 1 rfl (hw.pick [7, 4] (by decide) rfl rfl); exact h) 0 (fuel := 14) (listed' := (lb 15 1)) _ rfl krf krf rfl (Yl.move rfl) trivial rfl ?_
    refine HeldK.firstS (fun _ hw => by have h := HW.toX 1 rfl (hw.pick [7, 4] (by decide) rfl rfl); exact h) 1 (fuel := 13) (listed' := (lb 15 3)) _ rfl krf krf rfl (Yl.move rfl) trivial rfl ?_
    refine HeldK.firstS (fun _ hw => by have h := HW.toX 1 rfl (hw.pick [7, 4] (by decide) rfl rfl); exact h) 2 (fuel := 12) (listed' := (lb 15 7)) _ rfl krf krf rfl (Yl.move rfl) trivial rfl ?_
    refine HeldK.firstS (fun _ hw => by have h := HW.toX 1 rfl (hw.pick [7, 4] (by decide) rfl rfl); exact h) 3 (fuel := 11) (listed' := (lb 15 15)) _ rfl krf krf rfl (Yl.fieldAddr fd181_0 rfl) trivial rfl ?_
    refine HeldK.firstS (fun _ hw => by have h := HW.toX 1 rfl (hw.pick [7, 4] (by decide) rfl rfl); exact h) 4 (fuel := 10) (listed' := (lb 15 31)) _ rfl krf krf rfl (Yl.loadBoxG ag65 rfl bsp rfl rfl) trivial rfl ?_
    refine HeldK.firstS (fun _ hw => by have h := HW.toX 1 rfl (hw.pick [7, 4] (by decide) rfl rfl); exact h) 7 (fuel := 9) (listed' := (lb 15 159)) _ rfl krf krf rfl (Yl.fieldAddr fd181_1 rfl) trivial rfl ?_
    refine HeldK.firstS (fun _ hw => by have h := HW.toX 1 rfl (hw.pick [7, 4] (by decide) rfl rfl); exact h) 8 (fuel := 8) (listed' := (lb 15 415)) _ rfl krf krf rfl (Yl.loadBoxG ag65 rfl bsp rfl rfl) trivial rfl ?_
    refine HeldK.firstS (fun _ hw => by have h := HW.toX 1 rfl (hw.pick [7, 4] (by decide) rfl rfl); exact h) 9 (fuel := 7) (listed' := (lb 15 927)) _ rfl krf krf rfl (Yl.fieldAddr fd181_2 rfl) trivial rfl ?_
    refine HeldK.firstS (fun _ hw => by have h := HW.toX 1 rfl (hw.pick [7, 4] (by decide) rfl rfl); exact h) 10 (fuel := 6) (listed' := (lb 15 1951)) _ rfl krf krf rfl (Yl.loadBox on4 rfl bsp rfl) trivial rfl ?_
    refine HeldK.one 5 (fuel := 5) (listed' := (lb 15 1983)) krf rfl krf ?_
    refine AK.lit (xs := [.tmp 42]) sl63 el65 rfl rfl rfl (by simp [Value.cells]) (by decide) (by decide) trivial rfl (fun lv => ?_)
    refine .nil ?_
    try (conv => enter [2, 2]; simp only [nrm])
    refine HeldK.backS (fun _ hw => by have h := HW.toX 1 rfl (hw.pick [7, 4] (by decide) rfl rfl); exact h) ?_
    refine HeldK.one 6 (fuel := 4) (listed' := (lb 15 2047)) krf rfl krf ?_
    refine AK.appendS 5 rfl sl63 el65 rfl (by decide) rfl rfl rfl (by first | exact rdp | exact RdS.tree hB 0 rfl h2.rw | exact RdS.tree hB 0 rfl (hg0.2.2.1 _ h2.rw) | exact RdS.tree hB 0 rfl (hs5 _ hr4) | exact RdS.tree hB 0 rfl (hg1.2.1 _ (hs5 _ hr4))) (one'_cons rfl (one'_cons rfl (one'_cons (IsSl.one ssb) one'_nil))) (by omega) (by omega) trivial rfl (fun av44 => ?_)
    refine AK.shape 5 rfl (fun sav => ?_)
    refine .nil ?_
    try (conv => enter [2, 2]; simp only [nrm])
    refine HeldK.backS (fun _ hw => by have h := HW.toX 1 rfl (hw.pick [7, 4] (by decide) rfl rfl); exact h) ?_
    refine HeldK.firstS (fun _ hw => by have h := HW.toX 1 rfl (hw.pick [7, 4] (by decide) rfl rfl); exact h) 11 (fuel := 3) (listed' := (lb 15 4095)) _ rfl krf krf rfl (Yl.assign rfl) trivial rfl ?_
    refine HeldK.firstS (fun _ hw => by have h := HW.toX 1 rfl (hw.pick [7, 4] (by decide) rfl rfl); exact h) 12 (fuel := 2) (listed' := (lb 15 8191)) _ rfl krf krf rfl (Yl.idxX 1 rfl sl63 rfl rfl (by decide) (by omega)) trivial rfl ?_
    refine HeldK.one 13 (fuel := 1) (listed' := (lb 15 16383)) krf rfl krf ?_
    refine AK.storeG 4 rfl sz65 rfl rfl rfl rfl (one'_cons rfl (one'_cons rfl (one'_cons (IsSl.one ssf) one'_nil))) (by omega) (cs' := xcs (fillE e.kids.length SV (x.2.2.1.length + 1)) (fillVT e.kids.length (x.2.2.1 ++ [sf]))) ((by have h := xcs_fill hSVn hkl sf; rw [hSk] at h; exact h)) trivial ?_
    refine .nil ?_
    try (conv => enter [2, 2]; simp only [nrm])
    refine HeldK.backS (fun _ hw => by have h := HW.toX 1 rfl (hw.pick [7, 4] (by decide) rfl rfl); exact h) ?_
    refine HeldK.firstS (fun _ hw => by have h := HW.toX 1 rfl (hw.pick [7, 4] (by decide) rfl rfl); exact h) 14 (fuel := 0) (listed' := (lb 15 32767)) _ rfl krf krf rfl (Yl.assign rfl) trivial rfl ?_
    refine HeldK.done krf ?_
    refine .block_normal ?_
    refine AK.then_ (hK10 _ ?_)
    refine AK.region ?_
    refine .v (.add rfl rfl (by omega)) ?_
    refine .mv rfl (.nil ?_)
    refine AK.then_ (hK7 _ _ ((av44, x.2.1 ++ [sb], x.2.2.1 ++ [sf], d1.2.2, l2)) ⟨by simpa using hcat2, sav, fun y hy => hs2 _ (hg0.2.2.1 y hy), (hg0.2.2.2.1.later hs2).snoc (by rw [hBm]; exact hmb) ssb, (hg0.2.2.2.2.later hs2).snoc (by rw [hSk]; exact hmf) ssf⟩ (by simp; omega) (.cons (rfl) (.cons (rfl) (.cons (slI rfl (by simp)) (slr)))) (fun w hw => by have h := hw.pick [0, 1, 2, 3, 4, 5] (by decide) rfl rfl; dsimp only; rw [List.length_append, List.length_append, List.length_singleton, List.length_singleton, take_snocD default BY x.2.1.length hml, ← xcs_snoc _ _ _ _ (by simp; omega), hBm]; exact h))
  ·have hkn : x.2.2.1.length = e.kids.length := by have := hg0.1.kl; omega
   have hcf := hg0.1
   rw [hkn] at hcf
   obtain ⟨hmB, hnN⟩ := hcf.fin
   refine AK.close' 0 5 BY x.2.1 (by decide) rfl rfl hmB (by rw [hmB, List.take_length]) hmB (fun k hk => hg0.2.2.2.1.d k (by omega)) (fun l4 hs4 hm4 hr4 => ?_)
   refine AK.close' 0 4 SV x.2.2.1 (by decide) rfl rfl hSVn.symm (by rw [hkn]; obtain ⟨e1, e2⟩ := fill_full hSVn hkn; rw [e1, e2]) (by omega) (fun k hk => hs4 _ (hg0.2.2.2.2.d k (by omega))) (fun l5 hs5 hm5 hr5 => ?_)
   refine AK.own' [forest B l5, box bx2 183 2 [.int .i64 a, .bool nm], box bx3 65 3 [.int .i64 e.op, .int .i64 e.lt, s], box bx4 181 7 [.int .i64 0, .int .i64 0, .slice none 0 0, .int .i64 0, .int .i64 0, .slice none 0 0, .bool false]] (fun w hw => hw.pick [0, 1, 2, 3] (by decide) rfl rfl) ?_
   refine .exit (.then_exit (.then_exit (.block_exit ?_)))
   refine AK.then_ (hK5 _ ?_)
   refine .sr fun _ hK16 => ?_
   refine .mv rfl ?_
   refine .v (.lenR sl63 rfl (by first | exact rdp | exact RdS.tree hB 0 rfl h2.rw | exact RdS.tree hB 0 rfl (hg0.2.2.1 _ h2.rw) | exact RdS.tree hB 0 rfl (hs5 _ hr4) | exact RdS.tree hB 0 rfl (hg1.2.1 _ (hs5 _ hr4)))) ?_
   refine AK.makeE sl63 el65 rfl rfl (by omega) (by omega) trivial rfl (fun mv1 => ?_)
   refine .as rfl (.nt hK16 ?_)
   refine .seq fun _ hK17 => ?_
   refine .sr fun _ hK18 => ?_
   refine .mv rfl ?_
   refine .v (.lenR sl63 rfl (by first | exact rdp | exact RdS.tree hB 0 rfl h2.rw | exact RdS.tree hB 0 rfl (hg0.2.2.1 _ h2.rw) | exact RdS.tree hB 0 rfl (hs5 _ hr4) | exact RdS.tree hB 0 rfl (hg1.2.1 _ (hs5 _ hr4)))) ?_
   refine .mv rfl (.nt hK18 (.block ?_))
   refine AK.loopK (X := List Value × List Itm) [(4, _), (6, _), (7, _), (11, _), (54, _), (55, _)] (fun y => [(56, .int .i64 (y.1.length : Int))]) (fun y => [forest B y.2, box bx2 183 2 [.int .i64 a, .bool nm], box bx3 65 3 [.int .i64 e.op, .int .i64 e.lt, s], box bx4 181 7 [.int .i64 0, .int .i64 0, .slice none 0 0, .int .i64 0, .int .i64 0, .slice none 0 0, .bool false], row mv1 65 3 BY.length (xcs (fillE BY.length P y.1.length) (fillVT BY.length y.1))]) (fun y => y.1.length ≤ BY.length ∧ (∀ z ∈ l5, z ∈ y.2) ∧ Got y.2 P y.1) (fun y => BY.length - y.1.length) (([], l5)) slr ?_ ?_ ?_ ?_
   ·exact ⟨Nat.zero_le _, fun z hz => hz, Got.nil _ _⟩
   ·exact slr
   ·exact fun w hw => by obtain ⟨e1, e2⟩ := fill_zero BY.length P; simp only [List.length_nil]; rw [e1, e2]; exact hw
   ·intro y hg1 _ hK19
    refine .sr fun _ hK20 => ?_
    refine .v (.lss rfl rfl) ?_
    refine .nt hK20 ?_
    refine .seq fun _ hK21 => ?_
    refine AK.condD rfl (fun hc2 => ?_) (fun hc2 => ?_)
    ·have hil : y.1.length < BY.length := by omega
     have sk2 := hg0.2.2.2.1.s y.1.length (by omega)
     have hdk := hs5 _ (hs4 _ (hg0.2.2.2.1.d y.1.length (by omega)))
     have hpk := hPk y.1.length hil
     refine .skip ?_
     refine AK.then_ (hK21 _ ?_)
     refine .seq fun _ hK22 => ?_
     refine .block ?_
     refine .sr fun _ hK23 => ?_
     refine .mv rfl ?_
     first | refine .v (.iN sl63 rfl rfl (hr := (by first | exact rdp | exact RdS.tree hB 0 rfl h2.rw | exact RdS.tree hB 0 rfl (hg0.2.2.1 _ h2.rw) | exact RdS.tree hB 0 rfl (hs5 _ hr4) | exact RdS.tree hB 0 rfl (hg1.2.1 _ (hs5 _ hr4))))) ?_ | refine .v (.iK sl63 rfl rfl (hr := (by first | exact rdp | exact RdS.tree hB 0 rfl h2.rw | exact RdS.tree hB 0 rfl (hg0.2.2.1 _ h2.rw) | exact RdS.tree hB 0 rfl (hs5 _ hr4) | exact RdS.tree hB 0 rfl (hg1.2.1 _ (hs5 _ hr4))))) ?_
     refine .v (.loadE ag65 rfl (by first | exact rdp | exact RdS.tree hB 0 rfl h2.rw | exact RdS.tree hB 0 rfl (hg0.2.2.1 _ h2.rw) | exact RdS.tree hB 0 rfl (hs5 _ hr4) | exact RdS.tree hB 0 rfl (hg1.2.1 _ (hs5 _ hr4))) (by omega) rfl (by omega)) ?_
     refine AK.alloc el65 rfl rfl trivial rfl (fun bx13 => ?_)
     refine .as rfl ?_
     refine AK.storeBox 5 (us := [.int .i64 (BY.getD y.1.length default).op, .int .i64 (BY.getD y.1.length default).lt, x.2.1.getD y.1.length undef]) (cs' := [.int .i64 (BY.getD y.1.length default).op, .int .i64 (BY.getD y.1.length default).lt, x.2.1.getD y.1.length undef]) rfl sz65 rfl rfl rfl rfl oneP (leb rfl) rfl trivial ?_
     refine .nt hK23 ?_
     refine .seq fun _ hK24 => ?_
     refine .sr fun _ hK25 => ?_
     refine .v (.fieldAddr fd65_0 rfl) ?_
     refine .v (.loadBox on3 rfl bsp rfl) ?_
     refine .v (.eql rfl rfl) ?_
     refine .nt hK25 ?_
     refine AK.condD rfl (fun hc3 => ?_) (fun hc3 => ?_)
     ·rw [if_pos hc3] at hpk
      have hPe : BY.getD y.1.length default = P.getD y.1.length default := Option.some.inj hpk
      refine .sr fun _ hK26 => ?_
      refine .mv rfl (.mv rfl ?_)
      refine .v (.loadBoxG ag65 rfl bsp rfl rfl) ?_
      first | refine .v (.iN sl63 rfl rfl (hr := (by first | exact rdp | exact RdS.tree hB 0 rfl h2.rw | exact RdS.tree hB 0 rfl (hg0.2.2.1 _ h2.rw) | exact RdS.tree hB 0 rfl (hs5 _ hr4) | exact RdS.tree hB 0 rfl (hg1.2.1 _ (hs5 _ hr4))))) ?_ | refine .v (.iK sl63 rfl rfl (hr := (by first | exact rdp | exact RdS.tree hB 0 rfl h2.rw | exact RdS.tree hB 0 rfl (hg0.2.2.1 _ h2.rw) | exact RdS.tree hB 0 rfl (hs5 _ hr4) | exact RdS.tree hB 0 rfl (hg1.2.1 _ (hs5 _ hr4))))) ?_
      refine AK.storeG 4 rfl sz65 rfl rfl rfl rfl (one'_cons rfl (one'_cons rfl (one'_cons (IsSl.one sk2) one'_nil))) (by omega) (cs' := xcs (fillE BY.length P (y.1.length + 1)) (fillVT BY.length (y.1 ++ [x.2.1.getD y.1.length undef]))) ((by have h := xcs_fill hPn hil (x.2.1.getD y.1.length undef); rw [← hPe] at h; exact h)) trivial ?_
      refine .nt hK26 (.exit (.then_exit (.block_exit ?_)))
      refine AK.then_ (hK22 _ ?_)
      refine AK.region ?_
      refine .v (.add rfl rfl (by omega)) ?_
      refine .mv rfl (.nil ?_)
      refine AK.then_ (hK19 _ _ ((y.1 ++ [x.2.1.getD y.1.length undef], y.2)) ⟨by simp; omega, hg1.2.1, hg1.2.2.snoc (by rw [← hPe]; exact hg1.2.1 _ hdk) sk2⟩ (by simp; omega) (.cons (slI rfl (by simp)) (slr)) (fun w hw => by have h := hw.pick [0, 1, 2, 3, 4] (by decide) rfl rfl; simpa using h))
     ·rw [if_neg hc3] at hpk
      refine .skip ?_
      refine AK.then_ (hK24 _ ?_)
      refine .seq fun _ hK27 => ?_
      try (conv => enter [2, 2]; simp only [nrm])
      refine AK.heldS _ 8 (fun _ hw => hw.pick [0, 1, 2, 3, 4, 5] (by decide) rfl rfl) mixed ?_
      refine HeldK.firstS (fun _ hw => hw.pick [0, 1, 2, 3, 4, 5] (by decide) rfl rfl) 0 (fuel := 7) (listed' := (lb 8 1)) _ rfl krf krf rfl (Yl.loadBoxG ag65 rfl bsp rfl rfl) trivial rfl ?_
      refine HeldK.firstS (fun _ hw => hw.pick [0, 1, 2, 3, 4, 5] (by decide) rfl rfl) 2 (fuel := 6) (listed' := (lb 8 5)) _ rfl krf krf rfl (Yl.move rfl) trivial rfl ?_
      refine HeldK.firstS (fun _ hw => hw.pick [0, 1, 2, 3, 4, 5] (by decide) rfl rfl) 3 (fuel := 5) (listed' := (lb 8 13)) _ rfl krf krf rfl (Yl.move rfl) trivial rfl ?_
      refine HeldK.firstS (fun _ hw => hw.pick [0, 1, 2, 3, 4, 5] (by decide) rfl rfl) 4 (fuel := 4) (listed' := (lb 8 29)) _ rfl krf krf rfl (Yl.addE (((y.1.length + 1 : Nat) : Int)) rfl rfl (by omega) (by omega)) trivial rfl ?_
      refine HeldK.firstS (fun _ hw => hw.pick [0, 1, 2, 3, 4, 5] (by decide) rfl rfl) 5 (fuel := 3) (listed' := (lb 8 61)) _ rfl krf krf rfl (Yl.sliceFr (CutS.tree hB 0 rfl (hg1.2.1 _ hr5)) sl63 rfl rfl (by omega)) trivial rfl ?_
      refine HeldK.one 1 (fuel := 2) (listed' := (lb 8 63)) krf rfl krf ?_
      refine AK.lit (xs := [.tmp 68]) sl63 el65 rfl rfl rfl (by simp [Value.cells]) (by decide) (by decide) trivial rfl (fun lf => ?_)
      refine .nil ?_
      try (conv => enter [2, 2]; simp only [nrm])
      refine HeldK.backS (fun _ hw => hw.pick [0, 1, 2, 3, 4, 5] (by decide) rfl rfl) ?_
      refine HeldK.one 6 (fuel := 1) (listed' := (lb 8 127)) krf rfl krf ?_
      refine AK.appendS 6 rfl sl63 el65 rfl (by decide) rfl rfl rfl ((RdS.tree hB 0 rfl (hg1.2.1 _ hr5)).fr (CutS.tree hB 0 rfl (hg1.2.1 _ hr5)) (by omega)) (fun u hu => one'_ecs SV x.2.2.1 (all_getD fun j hj => hg0.2.2.2.2.s j hj) u (List.mem_of_mem_drop hu)) (by omega) (by omega) trivial rfl (fun av74 => ?_)
      refine .nil ?_
      try (conv => enter [2, 2]; simp only [nrm])
      refine HeldK.backS (fun _ hw => hw.pick [0, 1, 2, 3, 4, 5] (by decide) rfl rfl) ?_
      refine HeldK.firstS (fun _ hw => hw.pick [0, 1, 2, 3, 4, 5] (by decide) rfl rfl) 7 (fuel := 0) (listed' := (lb 8 255)) _ rfl krf krf rfl (Yl.assign rfl) trivial rfl ?_
      refine HeldK.done krf ?_
      refine AK.then_ (hK27 _ ?_)
      refine AK.region ?_
      refine .mv rfl (.mv rfl (.mv rfl ?_))
      refine AK.close' 0 6 (BY.getD y.1.length default :: SV.drop (y.1.length + 1)) (x.2.1.getD y.1.length undef :: x.2.2.1.drop (y.1.length + 1)) (by decide) rfl rfl (by rw [List.length_cons, List.length_drop, hSVn]; omega) (by rw [xcs_cons, ← xcs_drop _ _ _ (by omega)]; rfl) (by simp; omega) (deep_cons_drop (hg1.2.1 _ hdk) (hg0.2.2.2.2.later fun z hz => hg1.2.1 _ (hs5 _ (hs4 _ hz))) (by omega)) (fun l6 hs6 hm6 hr6 => ?_)
      refine AK.callN 0 rfl co118 rfl (fun w Fs hw hh hfr hal => s_join w (Fs 0) B l6 (hB.later hfr hal 0) (hh.at_ 0 _ rfl) 5 _ _ hm6 _ hpk) trivial rfl ?_
      rintro r A o ⟨sr, l7, rfl, ssr, rfl, hs7, hm7, rfl⟩
      first | refine .v (.iN sl63 rfl rfl (hr := (by first | exact rdp | exact RdS.tree hB 0 rfl h2.rw | exact RdS.tree hB 0 rfl (hg0.2.2.1 _ h2.rw) | exact RdS.tree hB 0 rfl (hs5 _ hr4) | exact RdS.tree hB 0 rfl (hg1.2.1 _ (hs5 _ hr4))))) ?_ | refine .v (.iK sl63 rfl rfl (hr := (by first | exact rdp | exact RdS.tree hB 0 rfl h2.rw | exact RdS.tree hB 0 rfl (hg0.2.2.1 _ h2.rw) | exact RdS.tree hB 0 rfl (hs5 _ hr4) | exact RdS.tree hB 0 rfl (hg1.2.1 _ (hs5 _ hr4))))) ?_
      refine AK.storeG 4 rfl sz65 rfl rfl rfl rfl (one'_cons rfl (one'_cons rfl (one'_cons (IsSl.one ssr) one'_nil))) (by omega) (cs' := xcs (fillE BY.length P (y.1.length + 1)) (fillVT BY.length (y.1 ++ [sr]))) (xcs_fill hPn hil sr) trivial ?_
      refine .nil (.block_normal ?_)
      refine AK.then_ (hK22 _ ?_)
      refine AK.region ?_
      refine .v (.add rfl rfl (by omega)) ?_
      refine .mv rfl (.nil ?_)
      refine AK.then_ (hK19 _ _ ((y.1 ++ [sr], l7)) ⟨by simp; omega, fun z hz => hs7 _ (hs6 _ (hg1.2.1 z hz)), (hg1.2.2.later (fun z hz => hs7 _ (hs6 _ hz))).snoc hm7 ssr⟩ (by simp; omega) (.cons (slI rfl (by simp)) (slr)) (fun w hw => by have h := hw.pick [0, 1, 2, 3, 4] (by decide) rfl rfl; simpa using h))
    ·have hil : y.1.length = BY.length := by omega
     refine AK.close' 0 4 P y.1 (by decide) rfl rfl hPn.symm (by rw [hil]; obtain ⟨e1, e2⟩ := fill_full hPn hil; rw [e1, e2]) (by omega) (fun k hk => hg1.2.2.d k (by omega)) (fun l8 hs8 hm8 hr8 => ?_)
     refine .exit (.then_exit (.then_exit (.block_exit ?_)))
     refine AK.then_ (hK17 _ ?_)
     refine .sr fun _ hK28 => ?_
     refine .mv rfl ?_
     refine AK.callN 0 rfl co118 rfl (fun w Fs hw hh hfr hal => s_join w (Fs 0) B l8 (hB.later hfr hal 0) (hh.at_ 0 _ rfl) 4 _ _ hm8 d.1 h1b) trivial rfl ?_
     rintro r A o ⟨sr1, l9, rfl, ssr1, rfl, hs9, hm9, rfl⟩
     refine .mv rfl ?_
     refine AK.callN 0 rfl co118 rfl (fun w Fs hw hh hfr hal => s_join w (Fs 0) B l9 (hB.later hfr hal 0) (hh.at_ 0 _ rfl) 5 _ _ (hs9 _ (hs8 _ (hg1.2.1 _ hm5))) d.2.1 h1s) trivial rfl ?_
     rintro r A o ⟨sr2, l10, rfl, ssr2, rfl, hs10, hm10, rfl⟩
     refine .mv rfl ?_
     refine .v (.build (parts := [(0, .tmp 82), (1, .tmp 84), (2, .tmp 85)]) (cs := #[.int .i64 d.1.op, .int .i64 d.1.lt, sr1, .int .i64 d.2.1.op, .int .i64 d.2.1.lt, sr2, .bool x.2.2.2.1]) rfl (by obtain ⟨_, _, _, rfl⟩ := ssr1; obtain ⟨_, _, _, rfl⟩ := ssr2; kernel_rfl)) ?_
     refine AK.storeBox 3 (us := [.int .i64 d.1.op, .int .i64 d.1.lt, sr1, .int .i64 d.2.1.op, .int .i64 d.2.1.lt, sr2, .bool x.2.2.2.1]) (cs' := [.int .i64 d.1.op, .int .i64 d.1.lt, sr1, .int .i64 d.2.1.op, .int .i64 d.2.1.lt, sr2, .bool x.2.2.2.1]) rfl sz181 rfl rfl rfl rfl oneP (leb rfl) rfl trivial ?_
     refine .nt hK28 (.ret ?_)
     refine AK.retG [.cell 4 181] rfl (.cons (.cell ag181 rfl bsp rfl rfl) (.nil)) (fun w hw => ⟨_, _, _, ?_, rfl, Ret.of (hw.pick [0] (by decide) rfl rfl)⟩)
     rw [show x.2.2.2.1 = d.2.2 from by rw [h3, hnN]]
     exact ⟨sr1, sr2, l10, rfl, ssr1, ssr2, rfl, fun z hz => hs10 _ (hs9 _ (hs8 _ (hg1.2.1 _ (hs5 _ (hs4 _ (hg0.2.2.1 _ (h2.sub z hz))))))), hs10 _ hm9, hm10, rfl⟩

end Go.Proofs.YtdnhiinakhmhgaaGreatDoor
