import Derived.Test.YtdnhiinakhmhgaaGreatDoorYZi
import Derived.Test.YtdnhiinakhmhgaaGreatDoorYZf
import Derived.Test.YtdnhiinakhmhgaaGreatDoorYZg
set_option linter.unusedVariables false
set_option linter.unusedSimpArgs false
set_option maxRecDepth 100000
namespace Go.Proofs.YtdnhiinakhmhgaaGreatDoor
open Go.Sx Go.RowKit
set_option maxHeartbeats 2000000 in
theorem s_join (w : World) (F : Nat → Prop) (B : Bs) (l : List Itm) (hB : BsOk B w F) (hA : (forest B l).holds w F) (op : Int) (s : Value) (ks : List Ex) (hm : Itm.deep s ks ∈ l) (j : Ex) (hj : joinE op ks = some j) : CallM Tryz.prog 118 [.int .i64 op, s] w F (fun r A o => ∃ sr l', r = .agg #[.int .i64 j.op, .int .i64 j.lt, sr] ∧ IsSl sr ∧ A = forest B l' ∧ (∀ x ∈ l, x ∈ l') ∧ Itm.deep sr j.kids ∈ l' ∧ o = []) := by
 refine specM_of Tryz.func118 rfl (leb rfl) hA ?_
 refine AK.open2 0 rfl hm fun l1 ss tss h2 => ?_
 have hmx := h2.o.mx'
 refine .sr fun _ hK1 => ?_
 refine AK.alloc el65 rfl rfl trivial rfl (fun bx4 => ?_)
 refine .nt hK1 ?_
 refine .seq fun _ hK2 => ?_
 refine .sr fun _ hK3 => ?_
 refine .mv rfl (.nt hK3 (.block ?_))
 refine .sr fun _ hK4 => ?_
 refine .v (.eql rfl rfl) (.as rfl (.nt hK4 ?_))
 refine AK.condD rfl (fun hc0 => ?_) (fun hc0 => ?_)
 ·refine .sr fun _ hK5 => ?_
  refine .mv rfl ?_
  refine AK.callN 0 rfl co149 rfl (fun w Fs hw hh hfr hal => s_joinu w (Fs 0) B l1 (hB.later hfr hal 0) (hh.at_ 0 _ rfl) s ks (h2.o.sub _ hm) j (by rw [joinE, if_pos hc0] at hj; exact hj)) trivial rfl ?_
  rintro r A o ⟨sr, l2, rfl, ssr, rfl, hs2, hm2, rfl⟩
  refine AK.storeBox 1 (us := [.int .i64 j.op, .int .i64 j.lt, sr]) (cs' := [.int .i64 j.op, .int .i64 j.lt, sr]) rfl sz65 rfl rfl rfl rfl oneP (leb rfl) rfl trivial ?_
  refine .nt hK5 (.ret (.block_ret (.then_ret ?_)))
  refine AK.retG [.cell 4 65] rfl (.cons (.cell ag65 rfl bsp rfl rfl) (.nil)) (fun w hw => ⟨_, _, _, ?_, rfl, Ret.of (hw.pick [0] (by decide) rfl rfl)⟩)
  exact ⟨sr, l2, rfl, ssr, rfl, fun x hx => hs2 _ (h2.o.sub x hx), hm2, rfl⟩
 ·refine .sr fun _ hK6 => ?_
  refine .v (.eql rfl rfl) (.as rfl (.nt hK6 ?_))
  refine AK.condD rfl (fun hc1 => ?_) (fun hc1 => ?_)
  ·refine .sr fun _ hK7 => ?_
   refine .mv rfl ?_
   refine AK.callN 0 rfl co150 rfl (fun w Fs hw hh hfr hal => s_joinc w (Fs 0) B l1 (hB.later hfr hal 0) (hh.at_ 0 _ rfl) s ks (h2.o.sub _ hm) j (by rw [joinE, if_neg hc0, if_pos hc1] at hj; exact hj)) trivial rfl ?_
   rintro r A o ⟨sr, l2, rfl, ssr, rfl, hs2, hm2, rfl⟩
   refine AK.storeBox 1 (us := [.int .i64 j.op, .int .i64 j.lt, sr]) (cs' := [.int .i64 j.op, .int .i64 j.lt, sr]) rfl sz65 rfl rfl rfl rfl oneP (leb rfl) rfl trivial ?_
   refine .nt hK7 (.ret (.block_ret (.then_ret ?_)))
   refine AK.retG [.cell 4 65] rfl (.cons (.cell ag65 rfl bsp rfl rfl) (.nil)) (fun w hw => ⟨_, _, _, ?_, rfl, Ret.of (hw.pick [0] (by decide) rfl rfl)⟩)
   exact ⟨sr, l2, rfl, ssr, rfl, fun x hx => hs2 _ (h2.o.sub x hx), hm2, rfl⟩
  ·refine .sr fun _ hK8 => ?_
   refine .v (.eql rfl rfl) (.as rfl (.nt hK8 ?_))
   refine AK.condD rfl (fun hc2 => ?_) (fun hc2 => ?_)
   ·refine .sr fun _ hK9 => ?_
    refine .mv rfl ?_
    refine AK.callN 0 rfl co151 rfl (fun w Fs hw hh hfr hal => s_joina w (Fs 0) B l1 (hB.later hfr hal 0) (hh.at_ 0 _ rfl) s ks (h2.o.sub _ hm) j (by rw [joinE, if_neg hc0, if_neg hc1, if_pos hc2] at hj; exact hj)) trivial rfl ?_
    rintro r A o ⟨sr, l2, rfl, ssr, rfl, hs2, hm2, rfl⟩
    refine AK.storeBox 1 (us := [.int .i64 j.op, .int .i64 j.lt, sr]) (cs' := [.int .i64 j.op, .int .i64 j.lt, sr]) rfl sz65 rfl rfl rfl rfl oneP (leb rfl) rfl trivial ?_
    refine .nt hK9 (.ret (.block_ret (.then_ret ?_)))
    refine AK.retG [.cell 4 65] rfl (.cons (.cell ag65 rfl bsp rfl rfl) (.nil)) (fun w hw => ⟨_, _, _, ?_, rfl, Ret.of (hw.pick [0] (by decide) rfl rfl)⟩)
    exact ⟨sr, l2, rfl, ssr, rfl, fun x hx => hs2 _ (h2.o.sub x hx), hm2, rfl⟩
   ·refine .skip (.block_normal ?_)
    refine AK.then_ (hK2 _ ?_)
    refine .seq fun _ hK10 => ?_
    refine .sr fun _ hK11 => ?_
    refine .mv rfl ?_
    refine .v (.lenR sl63 rfl (by first | exact rdp | exact RdS.tree hB 0 rfl h2.o.rw | exact RdS.tree hB 0 rfl h20.rw)) ?_
    refine .v (.neq rfl rfl) (.nt hK11 ?_)
    refine AK.condNe rfl (fun hc3 => ?_) (fun hc3 => ?_)
    ·rw [joinE, if_neg hc0, if_neg hc1, if_neg hc2, if_neg (by omega)] at hj
     cases hj
     refine .sr fun _ hK12 => ?_
     refine .v (.build (parts := []) (cs := #[.int .i64 0, .int .i64 0, .slice none 0 0]) rfl (by kernel_rfl)) ?_
     refine AK.storeBox 1 (us := [.int .i64 e0.op, .int .i64 e0.lt, nilV]) (cs' := [.int .i64 e0.op, .int .i64 e0.lt, nilV]) rfl sz65 rfl rfl rfl rfl oneP (leb rfl) rfl trivial ?_
     refine .nt hK12 (.ret (.then_ret ?_))
     refine AK.add' 0 (.deep nilV []) rfl (fun R => RdK.nil R) (fun l2 hs2 hm2 => ?_)
     refine AK.retG [.cell 4 65] rfl (.cons (.cell ag65 rfl bsp rfl rfl) (.nil)) (fun w hw => ⟨_, _, _, ?_, rfl, Ret.of (hw.pick [0] (by decide) rfl rfl)⟩)
     exact ⟨nilV, l2, rfl, nilSl, rfl, fun x hx => hs2 _ (h2.o.sub x hx), hm2, rfl⟩
    ·have hk1 : ks.length = 1 := by omega
     rw [joinE, if_neg hc0, if_neg hc1, if_neg hc2, if_pos hk1] at hj
     cases hj
     have h20 := h2.each 0 (by omega)
     have hmx0 := h20.mx'
     have sk := h2.o.sls 0 (by omega)
     refine .skip ?_
     refine AK.then_ (hK10 _ ?_)
     refine .sr fun _ hK13 => ?_
     refine .mv rfl ?_
     refine .v (.idxN (k := 0) sl63 rfl rfl (by first | exact rdp | exact RdS.tree hB 0 rfl h2.o.rw | exact RdS.tree hB 0 rfl h20.rw) (by decide) (by omega)) ?_
     refine .v (.loadE ag65 rfl (by first | exact rdp | exact RdS.tree hB 0 rfl h2.o.rw | exact RdS.tree hB 0 rfl h20.rw) (h2.o.len) rfl (by omega)) ?_
     refine AK.alloc el65 rfl rfl trivial rfl (fun bx5 => ?_)
     refine AK.storeBox 2 (us := [.int .i64 (ks.getD 0 default).op, .int .i64 (ks.getD 0 default).lt, ss.getD 0 undef]) (cs' := [.int .i64 (ks.getD 0 default).op, .int .i64 (ks.getD 0 default).lt, ss.getD 0 undef]) rfl sz65 rfl rfl rfl rfl oneP (leb rfl) rfl trivial ?_
     refine .nt hK13 ?_
     refine .seq fun _ hK14 => ?_
     refine .sr fun _ hK15 => ?_
     refine .mv rfl (.nt hK15 (.block ?_))
     refine .sr fun _ hK16 => ?_
     refine .v (.eql rfl rfl) (.as rfl (.nt hK16 ?_))
     refine AK.condD rfl (fun hc4 => ?_) (fun hc4 => ?_)
     ·refine .seq fun _ hK17 => ?_
      refine .sr fun _ hK18 => ?_
      refine .v (.fieldAddr fd65_0 rfl) (.v (.loadBox on3 rfl bsp rfl) (.v (.eql rfl rfl) (.mv rfl ?_)))
      refine AK.splitB (g := 32) rfl (fun hg_13_3 => ?_) (fun hg_13_3 => ?_)
      ·have hg_13_3' := hg_13_3
       try simp only [bs] at hg_13_3'
       refine AK.val _ (Yl.fieldAddr fd65_2 rfl) ⟨_, rfl, gB hg_13_3⟩ rfl ?_
       refine AK.val _ (Yl.loadBox on63 rfl bsp rfl) ⟨_, rfl, gB hg_13_3⟩ rfl ?_
       refine AK.val _ (Yl.lenR sl63 rfl (by first | exact rdp | exact RdS.tree hB 0 rfl h2.o.rw | exact RdS.tree hB 0 rfl h20.rw)) ⟨_, rfl, gB hg_13_3⟩ rfl ?_
       refine AK.val _ (Yl.eql rfl rfl) ⟨_, rfl, gB hg_13_3⟩ rfl ?_
       refine .v (.pickT rfl (hg_13_3) rfl) (.nt hK18 ?_)
       refine AK.condD rfl (fun hc5 => ?_) (fun hc5 => ?_)
       ·have hkk : (ks.getD 0 default).op = 8 ∧ (ks.getD 0 default).kids.length = 1 := ⟨hg_13_3', by omega⟩
        have sk0 := h20.sls 0 (by omega)
        refine .sr fun _ hK19 => ?_
        refine .v (.fieldAddr fd65_2 rfl) (.v (.loadBox on63 rfl bsp rfl) ?_)
        refine .v (.idxN (k := 0) sl63 rfl rfl (by first | exact rdp | exact RdS.tree hB 0 rfl h2.o.rw | exact RdS.tree hB 0 rfl h20.rw) (by decide) (by omega)) ?_
        refine .v (.loadE ag65 rfl (by first | exact rdp | exact RdS.tree hB 0 rfl h2.o.rw | exact RdS.tree hB 0 rfl h20.rw) (h20.len) rfl (by omega)) ?_
        refine AK.storeBox 1 (us := [.int .i64 ((ks.getD 0 default).kids.getD 0 default).op, .int .i64 ((ks.getD 0 default).kids.getD 0 default).lt, (tss.getD 0 []).getD 0 undef]) (cs' := [.int .i64 ((ks.getD 0 default).kids.getD 0 default).op, .int .i64 ((ks.getD 0 default).kids.getD 0 default).lt, (tss.getD 0 []).getD 0 undef]) rfl sz65 rfl rfl rfl rfl oneP (leb rfl) rfl trivial ?_
        refine .nt hK19 (.ret (.then_ret (.block_ret (.then_ret ?_))))
        refine AK.retG [.cell 4 65] rfl (.cons (.cell ag65 rfl bsp rfl rfl) (.nil)) (fun w hw => ⟨_, _, _, ?_, rfl, Ret.of (hw.pick [0] (by decide) rfl rfl)⟩)
        rw [show join1 op (ks.getD 0 default) = (ks.getD 0 default).kids.getD 0 default from by unfold join1; rw [if_pos hc4, if_pos hkk]]
        exact ⟨(tss.getD 0 []).getD 0 undef, l1, rfl, sk0, rfl, h2.o.sub, h20.kid 0 (by omega), rfl⟩
       ·refine .skip ?_
        refine AK.then_ (hK17 _ ?_)
        refine .sr fun _ hK20 => ?_
        refine .v (.loadBoxG ag65 rfl bsp rfl rfl) ?_
        refine AK.lit (xs := [.tmp 42]) sl63 el65 rfl rfl rfl (by simp [Value.cells]) (by decide) (by decide) trivial rfl (fun lv => ?_)
        refine AK.shape 3 rfl (fun slv => ?_)
        refine .v (.build (parts := [(0, .const (.int .i64 8)), (2, .tmp 43)]) (cs := #[.int .i64 8, .int .i64 0, lv]) rfl (by obtain ⟨_, _, _, rfl⟩ := slv; kernel_rfl)) ?_
        refine AK.storeBox 1 (us := [.int .i64 8, .int .i64 0, lv]) (cs' := [.int .i64 8, .int .i64 0, lv]) rfl sz65 rfl rfl rfl rfl oneP (leb rfl) rfl trivial ?_
        refine .nt hK20 (.ret (.block_ret (.then_ret ?_)))
        refine AK.close' 0 3 [(ks.getD 0 default)] [ss.getD 0 undef] (by decide) rfl rfl rfl rfl rfl (one_deep (h2.o.kid 0 (by omega))) (fun l2 hs2 hm2 hr2 => ?_)
        refine AK.retG [.cell 4 65] rfl (.cons (.cell ag65 rfl bsp rfl rfl) (.nil)) (fun w hw => ⟨_, _, _, ?_, rfl, Ret.of (hw.pick [0] (by decide) rfl rfl)⟩)
        rw [show join1 op (ks.getD 0 default) = .mk 8 0 [(ks.getD 0 default)] from by unfold join1; rw [if_pos hc4, if_neg (by rintro ⟨a, b⟩; first | exact hg_13_3' a | omega)]]
        exact ⟨lv, l2, rfl, slv, rfl, fun x hx => hs2 _ (h2.o.sub x hx), hm2, rfl⟩
      ·have hg_13_3' := hg_13_3
       try simp only [bs] at hg_13_3'
       refine AK.pass rfl rfl (hg_13_3) rfl ?_
       refine AK.pass rfl rfl (hg_13_3) rfl ?_
       refine AK.pass rfl rfl (hg_13_3) rfl ?_
       refine AK.pass rfl rfl (hg_13_3) rfl ?_
       refine .v (.pickF rfl (hg_13_3) rfl) (.nt hK18 ?_)
       refine AK.cond_f rfl (rfl) ?_
       refine .skip ?_
       refine AK.then_ (hK17 _ ?_)
       refine .sr fun _ hK21 => ?_
       refine .v (.loadBoxG ag65 rfl bsp rfl rfl) ?_
       refine AK.lit (xs := [.tmp 42]) sl63 el65 rfl rfl rfl (by simp [Value.cells]) (by decide) (by decide) trivial rfl (fun lv => ?_)
       refine AK.shape 3 rfl (fun slv => ?_)
       refine .v (.build (parts := [(0, .const (.int .i64 8)), (2, .tmp 43)]) (cs := #[.int .i64 8, .int .i64 0, lv]) rfl (by obtain ⟨_, _, _, rfl⟩ := slv; kernel_rfl)) ?_
       refine AK.storeBox 1 (us := [.int .i64 8, .int .i64 0, lv]) (cs' := [.int .i64 8, .int .i64 0, lv]) rfl sz65 rfl rfl rfl rfl oneP (leb rfl) rfl trivial ?_
       refine .nt hK21 (.ret (.block_ret (.then_ret ?_)))
       refine AK.close' 0 3 [(ks.getD 0 default)] [ss.getD 0 undef] (by decide) rfl rfl rfl rfl rfl (one_deep (h2.o.kid 0 (by omega))) (fun l2 hs2 hm2 hr2 => ?_)
       refine AK.retG [.cell 4 65] rfl (.cons (.cell ag65 rfl bsp rfl rfl) (.nil)) (fun w hw => ⟨_, _, _, ?_, rfl, Ret.of (hw.pick [0] (by decide) rfl rfl)⟩)
       rw [show join1 op (ks.getD 0 default) = .mk 8 0 [(ks.getD 0 default)] from by unfold join1; rw [if_pos hc4, if_neg (by rintro ⟨a, b⟩; first | exact hg_13_3' a | omega)]]
       exact ⟨lv, l2, rfl, slv, rfl, fun x hx => hs2 _ (h2.o.sub x hx), hm2, rfl⟩
     ·refine .sr fun _ hK22 => ?_
      refine .v (.eql rfl rfl) (.as rfl (.nt hK22 ?_))
      refine AK.condD rfl (fun hc6 => ?_) (fun hc6 => ?_)
      ·refine .seq fun _ hK23 => ?_
       refine .block ?_
       refine .sr fun _ hK24 => ?_
       refine .v (.fieldAddr fd65_0 rfl) (.v (.loadBox on3 rfl bsp rfl) (.v (.eql rfl rfl) (.mv rfl ?_)))
       refine AK.splitB (g := 51) rfl (fun hg_17_3 => ?_) (fun hg_17_3 => ?_)
       ·have hg_17_3' := hg_17_3
        try simp only [bs] at hg_17_3'
        refine AK.pass rfl rfl (hg_17_3) rfl ?_
        refine AK.pass rfl rfl (hg_17_3) rfl ?_
        refine AK.pass rfl rfl (hg_17_3) rfl ?_
        refine .v (.pickT rfl (hg_17_3) rfl) (.as rfl (.nt hK24 ?_))
        refine AK.cond_t rfl (rfl) ?_
        refine .sr fun _ hK25 => ?_
        refine AK.call co152 rfl (fun w hw => s_unit w) trivial rfl ?_
        rintro r o ⟨rfl, rfl⟩
        refine AK.storeBox 1 (us := [.int .i64 unitE.op, .int .i64 unitE.lt, nilV]) (cs' := [.int .i64 unitE.op, .int .i64 unitE.lt, nilV]) rfl sz65 rfl rfl rfl rfl oneP (leb rfl) rfl trivial ?_
        refine .nt hK25 (.ret (.block_ret (.then_ret (.block_ret (.then_ret ?_)))))
        refine AK.add' 0 (.deep nilV []) rfl (fun R => RdK.nil R) (fun l2 hs2 hm2 => ?_)
        refine AK.retG [.cell 4 65] rfl (.cons (.cell ag65 rfl bsp rfl rfl) (.nil)) (fun w hw => ⟨_, _, _, ?_, rfl, Ret.of (hw.pick [0] (by decide) rfl rfl)⟩)
        rw [show join1 op (ks.getD 0 default) = unitE from by unfold join1; rw [if_neg hc4, if_pos hc6, if_pos (by first | exact .inl hg_17_3' | exact .inr hc7)]]
        exact ⟨nilV, l2, rfl, nilSl, rfl, fun x hx => hs2 _ (h2.o.sub x hx), hm2, rfl⟩
       ·have hg_17_3' := hg_17_3
        try simp only [bs] at hg_17_3'
        refine AK.val _ (Yl.fieldAddr fd65_0 rfl) ⟨_, rfl, gB hg_17_3⟩ rfl ?_
        refine AK.val _ (Yl.loadBox on3 rfl bsp rfl) ⟨_, rfl, gB hg_17_3⟩ rfl ?_
        refine AK.val _ (Yl.eql rfl rfl) ⟨_, rfl, gB hg_17_3⟩ rfl ?_
        refine .v (.pickF rfl (hg_17_3) rfl) (.as rfl (.nt hK24 ?_))
        refine AK.condD rfl (fun hc7 => ?_) (fun hc7 => ?_)
        ·refine .sr fun _ hK26 => ?_
         refine AK.call co152 rfl (fun w hw => s_unit w) trivial rfl ?_
         rintro r o ⟨rfl, rfl⟩
         refine AK.storeBox 1 (us := [.int .i64 unitE.op, .int .i64 unitE.lt, nilV]) (cs' := [.int .i64 unitE.op, .int .i64 unitE.lt, nilV]) rfl sz65 rfl rfl rfl rfl oneP (leb rfl) rfl trivial ?_
         refine .nt hK26 (.ret (.block_ret (.then_ret (.block_ret (.then_ret ?_)))))
         refine AK.add' 0 (.deep nilV []) rfl (fun R => RdK.nil R) (fun l2 hs2 hm2 => ?_)
         refine AK.retG [.cell 4 65] rfl (.cons (.cell ag65 rfl bsp rfl rfl) (.nil)) (fun w hw => ⟨_, _, _, ?_, rfl, Ret.of (hw.pick [0] (by decide) rfl rfl)⟩)
         rw [show join1 op (ks.getD 0 default) = unitE from by unfold join1; rw [if_neg hc4, if_pos hc6, if_pos (by first | exact .inl hg_17_3' | exact .inr hc7)]]
         exact ⟨nilV, l2, rfl, nilSl, rfl, fun x hx => hs2 _ (h2.o.sub x hx), hm2, rfl⟩
        ·refine .sr fun _ hK27 => ?_
         refine .v (.fieldAddr fd65_0 rfl) (.v (.loadBox on3 rfl bsp rfl) (.v (.eql rfl rfl) (.mv rfl ?_)))
         refine AK.splitB (g := 61) rfl (fun hg_19_3 => ?_) (fun hg_19_3 => ?_)
         ·have hg_19_3' := hg_19_3
          try simp only [bs] at hg_19_3'
          refine AK.pass rfl rfl (hg_19_3) rfl ?_
          refine AK.pass rfl rfl (hg_19_3) rfl ?_
          refine .v (.pickT rfl (hg_19_3) rfl) (.as rfl (.nt hK27 ?_))
          refine AK.cond_t rfl (rfl) ?_
          refine .sr fun _ hK28 => ?_
          refine .v (.loadBoxG ag65 rfl bsp rfl rfl) ?_
          refine AK.storeBox 1 (us := [.int .i64 (ks.getD 0 default).op, .int .i64 (ks.getD 0 default).lt, ss.getD 0 undef]) (cs' := [.int .i64 (ks.getD 0 default).op, .int .i64 (ks.getD 0 default).lt, ss.getD 0 undef]) rfl sz65 rfl rfl rfl rfl oneP (leb rfl) rfl trivial ?_
          refine .nt hK28 (.ret (.block_ret (.then_ret (.block_ret (.then_ret ?_)))))
          refine AK.retG [.cell 4 65] rfl (.cons (.cell ag65 rfl bsp rfl rfl) (.nil)) (fun w hw => ⟨_, _, _, ?_, rfl, Ret.of (hw.pick [0] (by decide) rfl rfl)⟩)
          rw [show join1 op (ks.getD 0 default) = (ks.getD 0 default) from by unfold join1; rw [if_neg hc4, if_pos hc6, if_neg (by rintro (h | h); exact hg_17_3' h; exact hc7 h), if_pos (by first | exact .inl hg_19_3' | exact .inr hc8)]]
          exact ⟨ss.getD 0 undef, l1, rfl, sk, rfl, h2.o.sub, h2.o.kid 0 (by omega), rfl⟩
         ·have hg_19_3' := hg_19_3
          try simp only [bs] at hg_19_3'
          refine AK.val _ (Yl.loadBoxG ag65 rfl bsp rfl rfl) ⟨_, rfl, gB hg_19_3⟩ rfl ?_
          refine AK.call co126 rfl (fun w hw => s_isuniv w (ks.getD 0 default) _ (hw.kidR hB 0 rfl (h2.o.kid 0 (by omega)))) ⟨_, rfl, gB hg_19_3⟩ rfl ?_
          rintro r o ⟨rfl, rfl⟩
          refine .v (.pickF rfl (hg_19_3) rfl) (.as rfl (.nt hK27 ?_))
          refine AK.cond rfl (fun hc8 => ?_) (fun hc8 => ?_)
          ·try simp only [bs] at hc8
           refine .sr fun _ hK29 => ?_
           refine .v (.loadBoxG ag65 rfl bsp rfl rfl) ?_
           refine AK.storeBox 1 (us := [.int .i64 (ks.getD 0 default).op, .int .i64 (ks.getD 0 default).lt, ss.getD 0 undef]) (cs' := [.int .i64 (ks.getD 0 default).op, .int .i64 (ks.getD 0 default).lt, ss.getD 0 undef]) rfl sz65 rfl rfl rfl rfl oneP (leb rfl) rfl trivial ?_
           refine .nt hK29 (.ret (.block_ret (.then_ret (.block_ret (.then_ret ?_)))))
           refine AK.retG [.cell 4 65] rfl (.cons (.cell ag65 rfl bsp rfl rfl) (.nil)) (fun w hw => ⟨_, _, _, ?_, rfl, Ret.of (hw.pick [0] (by decide) rfl rfl)⟩)
           rw [show join1 op (ks.getD 0 default) = (ks.getD 0 default) from by unfold join1; rw [if_neg hc4, if_pos hc6, if_neg (by rintro (h | h); exact hg_17_3' h; exact hc7 h), if_pos (by first | exact .inl hg_19_3' | exact .inr hc8)]]
           exact ⟨ss.getD 0 undef, l1, rfl, sk, rfl, h2.o.sub, h2.o.kid 0 (by omega), rfl⟩
          ·try simp only [bs] at hc8
           refine .skip (.block_normal ?_)
           refine AK.then_ (hK23 _ ?_)
           refine .sr fun _ hK30 => ?_
           refine .v (.loadBoxG ag65 rfl bsp rfl rfl) ?_
           refine AK.lit (xs := [.tmp 66]) sl63 el65 rfl rfl rfl (by simp [Value.cells]) (by decide) (by decide) trivial rfl (fun lv => ?_)
           refine AK.shape 3 rfl (fun slv => ?_)
           refine .v (.build (parts := [(0, .const (.int .i64 7)), (2, .tmp 67)]) (cs := #[.int .i64 7, .int .i64 0, lv]) rfl (by obtain ⟨_, _, _, rfl⟩ := slv; kernel_rfl)) ?_
           refine AK.storeBox 1 (us := [.int .i64 7, .int .i64 0, lv]) (cs' := [.int .i64 7, .int .i64 0, lv]) rfl sz65 rfl rfl rfl rfl oneP (leb rfl) rfl trivial ?_
           refine .nt hK30 (.ret (.block_ret (.then_ret ?_)))
           refine AK.close' 0 3 [(ks.getD 0 default)] [ss.getD 0 undef] (by decide) rfl rfl rfl rfl rfl (one_deep (h2.o.kid 0 (by omega))) (fun l2 hs2 hm2 hr2 => ?_)
           refine AK.retG [.cell 4 65] rfl (.cons (.cell ag65 rfl bsp rfl rfl) (.nil)) (fun w hw => ⟨_, _, _, ?_, rfl, Ret.of (hw.pick [0] (by decide) rfl rfl)⟩)
           rw [show join1 op (ks.getD 0 default) = .mk 7 0 [(ks.getD 0 default)] from by unfold join1; rw [if_neg hc4, if_pos hc6, if_neg (by rintro (h | h); exact hg_17_3' h; exact hc7 h), if_neg (by rintro (h | h); exact hg_19_3' h; rw [hc8] at h; cases h)]]
           exact ⟨lv, l2, rfl, slv, rfl, fun x hx => hs2 _ (h2.o.sub x hx), hm2, rfl⟩
      ·refine .skip (.block_normal ?_)
       refine AK.then_ (hK14 _ ?_)
       refine .sr fun _ hK31 => ?_
       refine .v (.build (parts := []) (cs := #[.int .i64 0, .int .i64 0, .slice none 0 0]) rfl (by kernel_rfl)) ?_
       refine AK.storeBox 1 (us := [.int .i64 e0.op, .int .i64 e0.lt, nilV]) (cs' := [.int .i64 e0.op, .int .i64 e0.lt, nilV]) rfl sz65 rfl rfl rfl rfl oneP (leb rfl) rfl trivial ?_
       refine .nt hK31 (.ret ?_)
       refine AK.add' 0 (.deep nilV []) rfl (fun R => RdK.nil R) (fun l2 hs2 hm2 => ?_)
       refine AK.retG [.cell 4 65] rfl (.cons (.cell ag65 rfl bsp rfl rfl) (.nil)) (fun w hw => ⟨_, _, _, ?_, rfl, Ret.of (hw.pick [0] (by decide) rfl rfl)⟩)
       rw [show join1 op (ks.getD 0 default) = e0 from by unfold join1; rw [if_neg hc4, if_neg hc6]]
       exact ⟨nilV, l2, rfl, nilSl, rfl, fun x hx => hs2 _ (h2.o.sub x hx), hm2, rfl⟩

end Go.Proofs.YtdnhiinakhmhgaaGreatDoor

namespace Go.Proofs.YtdnhiinakhmhgaaGreatDoor
open Go.Sx Go.RowKit
def SimS (e : Ex) : Prop := ∀ (w : World) (F : Nat → Prop) (B : Bs) (l : List Itm) (hB : BsOk B w F) (hA : (forest B l).holds w F) (s : Value) (hm : Itm.deep s e.kids ∈ l) (j : Ex) (hj : simpE e = some j), CallM Tryz.prog 96 [.agg #[.int .i64 e.op, .int .i64 e.lt, s]] w F (fun r A o => ∃ sr l', r = .agg #[.int .i64 j.op, .int .i64 j.lt, sr] ∧ IsSl sr ∧ A = forest B l' ∧ (∀ x ∈ l, x ∈ l') ∧ Itm.deep sr j.kids ∈ l' ∧ o = [])
set_option maxHeartbeats 2000000 in
theorem s_simp_step (e : Ex) (ih : ∀ i, i < e.kids.length → SimS (e.kids.getD i default)) (w : World) (F : Nat → Prop) (B : Bs) (l : List Itm) (hB : BsOk B w F) (hA : (forest B l).holds w F) (s : Value) (hm : Itm.deep s e.kids ∈ l) (j : Ex) (hj : simpE e = some j) : CallM Tryz.prog 96 [.agg #[.int .i64 e.op, .int .i64 e.lt, s]] w F (fun r A o => ∃ sr l', r = .agg #[.int .i64 j.op, .int .i64 j.lt, sr] ∧ IsSl sr ∧ A = forest B l' ∧ (∀ x ∈ l, x ∈ l') ∧ Itm.deep sr j.kids ∈ l' ∧ o = []) := by
 refine specM_of Tryz.func96 rfl (leb rfl) hA ?_
 refine AK.open' 0 rfl hm fun l1 ss h2 => ?_
 have hmx := h2.mx'
 rw [simpE_eq] at hj
 refine .sr fun _ hK1 => ?_
 refine AK.box_ (E := 65) (cs := [.int .i64 e.op, .int .i64 e.lt, s]) rfl rfl rfl trivial rfl (fun bx1 => ?_)
 refine AK.alloc el65 rfl rfl trivial rfl (fun bx2 => ?_)
 refine .nt hK1 ?_
 refine .seq fun _ hK2 => ?_
 refine .sr fun _ hK3 => ?_
 refine .v (.fieldAddr fd65_2 rfl) (.v (.loadBox on63 rfl bsp rfl) ?_)
 refine .v (.lenR sl63 rfl (by first | exact rdp | exact RdS.tree hB 0 rfl h2.rw | exact RdS.tree hB 0 rfl (hg0.2.1 _ h2.rw))) ?_
 refine .v (.eql rfl rfl) (.nt hK3 ?_)
 refine AK.condD rfl (fun hc0 => ?_) (fun hc0 => ?_)
 ·rw [if_pos (by omega)] at hj
  cases hj
  refine .sr fun _ hK4 => ?_
  refine .v (.fieldAddr fd65_0 rfl) (.v (.loadBox on3 rfl bsp rfl) (.v (.fieldAddr fd65_1 rfl) (.v (.loadBox on3 rfl bsp rfl) ?_)))
  refine .v (.build (parts := [(0, .tmp 11), (1, .tmp 13)]) (cs := #[.int .i64 e.op, .int .i64 e.lt, .slice none 0 0]) rfl (by kernel_rfl)) ?_
  refine AK.storeBox 2 (us := [.int .i64 (Ex.mk e.op e.lt []).op, .int .i64 (Ex.mk e.op e.lt []).lt, nilV]) (cs' := [.int .i64 (Ex.mk e.op e.lt []).op, .int .i64 (Ex.mk e.op e.lt []).lt, nilV]) rfl sz65 rfl rfl rfl rfl oneP (leb rfl) rfl trivial ?_
  refine .nt hK4 (.ret (.then_ret ?_))
  refine AK.add' 0 (.deep nilV []) rfl (fun R => RdK.nil R) (fun l2 hs2 hm2 => ?_)
  refine AK.retG [.cell 2 65] rfl (.cons (.cell ag65 rfl bsp rfl rfl) (.nil)) (fun w hw => ⟨_, _, _, ?_, rfl, Ret.of (hw.pick [0] (by decide) rfl rfl)⟩)
  exact ⟨nilV, l2, rfl, nilSl, rfl, fun x hx => hs2 _ (h2.sub x hx), hm2, rfl⟩
 ·rw [if_neg (by omega)] at hj
  split at hj
  rotate_left
  ·cases hj
  rename_i hlim
  obtain ⟨L, hL, hj⟩ := bind_some hj
  obtain ⟨hLn, hLk⟩ := simpL_at hL
  refine .skip ?_
  refine AK.then_ (hK2 _ ?_)
  refine .sr fun _ hK5 => ?_
  refine .v (.fieldAddr fd65_2 rfl) (.v (.loadBox on63 rfl bsp rfl) ?_)
  refine .v (.lenR sl63 rfl (by first | exact rdp | exact RdS.tree hB 0 rfl h2.rw | exact RdS.tree hB 0 rfl (hg0.2.1 _ h2.rw))) ?_
  refine AK.makeE sl63 el65 rfl rfl (by omega) (by omega) trivial rfl (fun mv0 => ?_)
  refine .as rfl (.nt hK5 ?_)
  refine .seq fun _ hK6 => ?_
  refine .sr fun _ hK7 => ?_
  refine .v (.fieldAddr fd65_2 rfl) (.v (.loadBox on63 rfl bsp rfl) ?_)
  refine .v (.lenR sl63 rfl (by first | exact rdp | exact RdS.tree hB 0 rfl h2.rw | exact RdS.tree hB 0 rfl (hg0.2.1 _ h2.rw))) ?_
  refine .mv rfl (.nt hK7 (.block ?_))
  refine AK.loopK (X := List Value × List Itm) [(1, _), (2, _), (3, _), (20, _), (21, _)] (fun x => [(22, .int .i64 (x.1.length : Int))]) (fun x => [forest B x.2, box bx1 65 3 [.int .i64 e.op, .int .i64 e.lt, s], box bx2 65 3 [.int .i64 0, .int .i64 0, .slice none 0 0], row mv0 65 3 e.kids.length (xcs (fillE e.kids.length L x.1.length) (fillVT e.kids.length x.1))]) (fun x => x.1.length ≤ e.kids.length ∧ (∀ y ∈ l1, y ∈ x.2) ∧ Got x.2 L x.1) (fun x => e.kids.length - x.1.length) (([], l1)) slr ?_ ?_ ?_ ?_
  ·exact ⟨Nat.zero_le _, fun y hy => hy, Got.nil _ _⟩
  ·exact slr
  ·exact fun w hw => by obtain ⟨e1, e2⟩ := fill_zero e.kids.length L; simp only [List.length_nil]; rw [e1, e2]; exact hw
  ·intro x hg0 _ hK8
   refine .sr fun _ hK9 => ?_
   refine .v (.lss rfl rfl) (.nt hK9 ?_)
   refine .seq fun _ hK10 => ?_
   refine AK.condD rfl (fun hc1 => ?_) (fun hc1 => ?_)
   ·have hkl : x.1.length < e.kids.length := by omega
    have sk := h2.sls x.1.length hkl
    refine .skip ?_
    refine AK.then_ (hK10 _ ?_)
    refine .seq fun _ hK11 => ?_
    refine .block ?_
    refine .sr fun _ hK12 => ?_
    refine .mv rfl ?_
    first | refine .v (.iN sl63 rfl rfl (hr := (by first | exact rdp | exact RdS.tree hB 0 rfl h2.rw | exact RdS.tree hB 0 rfl (hg0.2.1 _ h2.rw)))) ?_ | refine .v (.iK sl63 rfl rfl (hr := (by first | exact rdp | exact RdS.tree hB 0 rfl h2.rw | exact RdS.tree hB 0 rfl (hg0.2.1 _ h2.rw)))) ?_
    refine .v (.loadE ag65 rfl (by first | exact rdp | exact RdS.tree hB 0 rfl h2.rw | exact RdS.tree hB 0 rfl (hg0.2.1 _ h2.rw)) h2.len rfl (by omega)) ?_
    refine AK.alloc el65 rfl rfl trivial rfl (fun bx5 => ?_)
    refine .as rfl ?_
    refine AK.storeBox 4 (us := [.int .i64 (e.kids.getD x.1.length default).op, .int .i64 (e.kids.getD x.1.length default).lt, ss.getD x.1.length undef]) (cs' := [.int .i64 (e.kids.getD x.1.length default).op, .int .i64 (e.kids.getD x.1.length default).lt, ss.getD x.1.length undef]) rfl sz65 rfl rfl rfl rfl oneP (leb rfl) rfl trivial ?_
    refine .nt hK12 ?_
    refine AK.region ?_
    refine .mv rfl (.mv rfl (.v (.loadBoxG ag65 rfl bsp rfl rfl) ?_))
    refine AK.callN 0 rfl co96 rfl (fun w Fs hw hh hfr hal => ih x.1.length hkl w (Fs 0) B x.2 (hB.later hfr hal 0) (hh.at_ 0 _ rfl) _ (hg0.2.1 _ (h2.kid _ hkl)) (L.getD x.1.length default) (hLk _ hkl)) trivial rfl ?_
    rintro r A o ⟨sr, l2, rfl, ssr, rfl, hs2, hm2, rfl⟩
    first | refine .v (.iN sl63 rfl rfl (hr := (by first | exact rdp | exact RdS.tree hB 0 rfl h2.rw | exact RdS.tree hB 0 rfl (hg0.2.1 _ h2.rw)))) ?_ | refine .v (.iK sl63 rfl rfl (hr := (by first | exact rdp | exact RdS.tree hB 0 rfl h2.rw | exact RdS.tree hB 0 rfl (hg0.2.1 _ h2.rw)))) ?_
    refine AK.storeG 3 rfl sz65 rfl rfl rfl rfl (one'_cons rfl (one'_cons rfl (one'_cons (IsSl.one ssr) one'_nil))) (by omega) (cs' := xcs (fillE e.kids.length L (x.1.length + 1)) (fillVT e.kids.length (x.1 ++ [sr]))) (xcs_fill hLn hkl sr) trivial ?_
    refine .nil (.block_normal ?_)
    refine AK.then_ (hK11 _ ?_)
    refine AK.region ?_
    refine .v (.add rfl rfl (by omega)) ?_
    refine .mv rfl (.nil ?_)
    refine AK.then_ (hK8 _ _ ((x.1 ++ [sr], l2)) ⟨by simp; omega, fun y hy => hs2 _ (hg0.2.1 y hy), (hg0.2.2.later hs2).snoc hm2 ssr⟩ (by simp; omega) (.cons (slI rfl (by simp)) (slr)) (fun w hw => by have h := hw.pick [0, 1, 2, 3] (by decide) rfl rfl; simpa using h))
   ·have hkl : x.1.length = e.kids.length := by omega
    refine .exit (.then_exit (.then_exit (.block_exit ?_)))
    refine AK.then_ (hK6 _ ?_)
    refine .sr fun _ hK13 => ?_
    refine .v (.fieldAddr fd65_0 rfl) (.v (.loadBox on3 rfl bsp rfl) (.mv rfl ?_))
    refine AK.close' 0 3 L x.1 (by decide) rfl rfl hLn.symm (by rw [hkl]; obtain ⟨e1, e2⟩ := fill_full hLn hkl; rw [e1, e2]) (by omega) (fun k hk => hg0.2.2.d k (by omega)) (fun l2 hs2 hm2 hr2 => ?_)
    refine AK.callN 0 rfl co118 rfl (fun w Fs hw hh hfr hal => s_join w (Fs 0) B l2 (hB.later hfr hal 0) (hh.at_ 0 _ rfl) e.op _ L hm2 j hj) trivial rfl ?_
    rintro r A o ⟨sr, l3, rfl, ssr, rfl, hs3, hm3, rfl⟩
    refine AK.storeBox 2 (us := [.int .i64 j.op, .int .i64 j.lt, sr]) (cs' := [.int .i64 j.op, .int .i64 j.lt, sr]) rfl sz65 rfl rfl rfl rfl oneP (leb rfl) rfl trivial ?_
    refine .nt hK13 (.ret ?_)
    refine AK.retG [.cell 2 65] rfl (.cons (.cell ag65 rfl bsp rfl rfl) (.nil)) (fun w hw => ⟨_, _, _, ?_, rfl, Ret.of (hw.pick [0] (by decide) rfl rfl)⟩)
    exact ⟨sr, l3, rfl, ssr, rfl, fun y hy => hs3 _ (hs2 _ (hg0.2.1 _ (h2.sub y hy))), hm3, rfl⟩

theorem s_simp (e : Ex) : SimS e := Ex.ind (P := SimS) (fun e ih w F B l hB hA s hm j hj => s_simp_step e ih w F B l hB hA s hm j hj) e
set_option maxHeartbeats 800000 in
theorem s_norm (e : Ex) (w : World) (F : Nat → Prop) (B : Bs) (l : List Itm) (hB : BsOk B w F) (hA : (forest B l).holds w F) (s : Value) (hm : Itm.deep s e.kids ∈ l) (j : Ex) (hj : normE e = some j) : CallM Tryz.prog 59 [.agg #[.int .i64 e.op, .int .i64 e.lt, s]] w F (fun r A o => ∃ sr l', r = .agg #[.int .i64 j.op, .int .i64 j.lt, sr] ∧ IsSl sr ∧ A = forest B l' ∧ (∀ x ∈ l, x ∈ l') ∧ Itm.deep sr j.kids ∈ l' ∧ o = []) := by
 refine specM_of Tryz.func59 rfl (leb rfl) hA ?_
 refine .sr fun _ hK1 => ?_
 refine AK.box_ (E := 65) (cs := [.int .i64 e.op, .int .i64 e.lt, s]) rfl rfl rfl trivial rfl (fun bx1 => ?_)
 refine AK.alloc el65 rfl rfl trivial rfl (fun bx2 => ?_)
 refine .nt hK1 ?_
 refine .seq fun _ hK2 => ?_
 refine .sr fun _ hK3 => ?_
 refine .v (.loadBoxG ag65 rfl bsp rfl rfl) ?_
 refine AK.call co64 rfl (fun w hw => s_val6 w e s (hw.kidR hB 0 rfl hm)) trivial rfl ?_
 rintro r o ⟨rfl, rfl⟩
 refine .v (.not rfl) (.nt hK3 ?_)
 refine AK.condB rfl (fun hc0 => ?_) (fun hc0 => ?_)
 ·unfold normE at hj
  rw [if_neg (by simpa using hc0)] at hj
  cases hj
  refine .sr fun _ hK4 => ?_
  refine .v (.build (parts := []) (cs := #[.int .i64 0, .int .i64 0, .slice none 0 0]) rfl (by kernel_rfl)) ?_
  refine AK.storeBox 2 (us := [.int .i64 e0.op, .int .i64 e0.lt, nilV]) (cs' := [.int .i64 e0.op, .int .i64 e0.lt, nilV]) rfl sz65 rfl rfl rfl rfl oneP (leb rfl) rfl trivial ?_
  refine .nt hK4 (.ret (.then_ret ?_))
  refine AK.add' 0 (.deep nilV []) rfl (fun R => RdK.nil R) (fun l2 hs2 hm2 => ?_)
  refine AK.retG [.cell 2 65] rfl (.cons (.cell ag65 rfl bsp rfl rfl) (.nil)) (fun w hw => ⟨_, _, _, ?_, rfl, Ret.of (hw.pick [0] (by decide) rfl rfl)⟩)
  exact ⟨nilV, l2, rfl, nilSl, rfl, hs2, hm2, rfl⟩
 ·unfold normE at hj
  rw [if_pos (by simpa using hc0)] at hj
  refine .skip ?_
  refine AK.then_ (hK2 _ ?_)
  refine .sr fun _ hK5 => ?_
  refine .v (.loadBoxG ag65 rfl bsp rfl rfl) ?_
  refine AK.callN 0 rfl co96 rfl (fun w Fs hw hh hfr hal => s_simp e w (Fs 0) B l (hB.later hfr hal 0) (hh.at_ 0 _ rfl) s hm j hj) trivial rfl ?_
  rintro r A o ⟨sr, l2, rfl, ssr, rfl, hs2, hm2, rfl⟩
  refine AK.storeBox 2 (us := [.int .i64 j.op, .int .i64 j.lt, sr]) (cs' := [.int .i64 j.op, .int .i64 j.lt, sr]) rfl sz65 rfl rfl rfl rfl oneP (leb rfl) rfl trivial ?_
  refine .nt hK5 (.ret ?_)
  refine AK.retG [.cell 2 65] rfl (.cons (.cell ag65 rfl bsp rfl rfl) (.nil)) (fun w hw => ⟨_, _, _, ?_, rfl, Ret.of (hw.pick [0] (by decide) rfl rfl)⟩)
  exact ⟨sr, l2, rfl, ssr, rfl, hs2, hm2, rfl⟩

end Go.Proofs.YtdnhiinakhmhgaaGreatDoor

namespace Go.Proofs.YtdnhiinakhmhgaaGreatDoor
open Go.Sx Go.RowKit
def DerS (a : Int) (nm : Bool) (e : Ex) : Prop := ∀ (w : World) (F : Nat → Prop) (B : Bs) (l : List Itm) (hB : BsOk B w F) (hA : (forest B l).holds w F) (s : Value) (hm : Itm.deep s e.kids ∈ l) (d : Dv) (hd : dervE a nm e = some d), CallM Tryz.prog 120 [.agg #[.int .i64 a, .bool nm], .agg #[.int .i64 e.op, .int .i64 e.lt, s]] w F (fun r A o => ∃ sb sf l', r = .agg #[.int .i64 d.1.op, .int .i64 d.1.lt, sb, .int .i64 d.2.1.op, .int .i64 d.2.1.lt, sf, .bool d.2.2] ∧ IsSl sb ∧ IsSl sf ∧ A = forest B l' ∧ (∀ x ∈ l, x ∈ l') ∧ Itm.deep sb d.1.kids ∈ l' ∧ Itm.deep sf d.2.1.kids ∈ l' ∧ o = [])
set_option maxHeartbeats 4000000 in
theorem s_boolean (a : Int) (nm : Bool) (e : Ex) (ho : e.op = 4 ∨ e.op = 6 ∨ e.op = 8) (ih : ∀ i, i < e.kids.length → DerS a nm (e.kids.getD i default)) (w : World) (F : Nat → Prop) (B : Bs) (l : List Itm) (hB : BsOk B w F) (hA : (forest B l).holds w F) (s : Value) (hm : Itm.deep s e.kids ∈ l) (d : Dv) (hd : dervE a nm e = some d) : CallM Tryz.prog 153 [.agg #[.int .i64 a, .bool nm], .agg #[.int .i64 e.op, .int .i64 e.lt, s]] w F (fun r A o => ∃ sb sf l', r = .agg #[.int .i64 d.1.op, .int .i64 d.1.lt, sb, .int .i64 d.2.1.op, .int .i64 d.2.1.lt, sf, .bool d.2.2] ∧ IsSl sb ∧ IsSl sf ∧ A = forest B l' ∧ (∀ x ∈ l, x ∈ l') ∧ Itm.deep sb d.1.kids ∈ l' ∧ Itm.deep sf d.2.1.kids ∈ l' ∧ o = []) := by
 refine specM_of Tryz.func153 rfl (leb rfl) hA ?_
 refine AK.open' 0 rfl hm fun l1 ss h2 => ?_
 have hmx := h2.mx'
 obtain ⟨hlim, ds, hds, hbd⟩ := dervE_bool hd ho
 obtain ⟨hdn, hdk⟩ := dervL_at hds
 obtain ⟨h1b, h1s, h3⟩ := boolD_some hbd
 have hcl := count_le ds
 have hLB : (ds.map (·.1)).length = e.kids.length := by simp [hdn]
 have hLS : (ds.map (·.2.1)).length = e.kids.length := by simp [hdn]
 refine .sr fun _ hK1 => ?_
 refine AK.box_ (E := 183) (cs := [.int .i64 a, .bool nm]) rfl rfl rfl trivial rfl (fun bx2 => ?_)
 refine AK.box_ (E := 65) (cs := [.int .i64 e.op, .int .i64 e.lt, s]) rfl rfl rfl trivial rfl (fun bx3 => ?_)
 refine AK.alloc el181 rfl rfl trivial rfl (fun bx4 => ?_)
 refine .nt hK1 ?_
 refine .seq fun _ hK2 => ?_
 refine AK.joinK (X := Value × Value) [(2, _), (3, _), (4, _)] (fun z => [(5, z.1), (6, z.2)]) (fun z => [forest B l1, box bx2 183 2 [.int .i64 a, .bool nm], box bx3 65 3 [.int .i64 e.op, .int .i64 e.lt, s], box bx4 181 7 [.int .i64 0, .int .i64 0, .slice none 0 0, .int .i64 0, .int .i64 0, .slice none 0 0, .bool false], row z.1 65 3 e.kids.length (xcs (List.replicate e.kids.length e0) (List.replicate e.kids.length nilV)), row z.2 65 3 e.kids.length (xcs (List.replicate e.kids.length e0) (List.replicate e.kids.length nilV))]) (fun z => True) slr (fun _ hJ => ?_) (fun z hg => ?_)
 ·try (conv => enter [2, 2]; simp only [nrm])
  refine AK.held 10 mixed ?_
  refine HeldK.first 0 (fuel := 9) (listed' := (lb 10 1)) _ rfl krf krf rfl (Yl.fieldAddr fd65_2 rfl) trivial rfl ?_
  refine HeldK.first 1 (fuel := 8) (listed' := (lb 10 3)) _ rfl krf krf rfl (Yl.loadBox on63 rfl bsp rfl) trivial rfl ?_
  refine HeldK.first 2 (fuel := 7) (listed' := (lb 10 7)) _ rfl krf krf rfl (Yl.lenR sl63 rfl (by first | exact rdp | exact RdS.tree hB 0 rfl h2.rw | exact RdS.tree hB 0 rfl (hg0.2.2.1 _ h2.rw) | exact RdS.tree hB 0 rfl (hg.2.2.1 _ (hs5 _ (hs4 _ (hg0.2.2.1 _ h2.rw)))))) trivial rfl ?_
  refine HeldK.first 4 (fuel := 6) (listed' := (lb 10 23)) _ rfl krf krf rfl (Yl.fieldAddr fd65_2 rfl) trivial rfl ?_
  refine HeldK.first 5 (fuel := 5) (listed' := (lb 10 55)) _ rfl krf krf rfl (Yl.loadBox on63 rfl bsp rfl) trivial rfl ?_
  refine HeldK.first 6 (fuel := 4) (listed' := (lb 10 119)) _ rfl krf krf rfl (Yl.lenR sl63 rfl (by first | exact rdp | exact RdS.tree hB 0 rfl h2.rw | exact RdS.tree hB 0 rfl (hg0.2.2.1 _ h2.rw) | exact RdS.tree hB 0 rfl (hg.2.2.1 _ (hs5 _ (hs4 _ (hg0.2.2.1 _ h2.rw)))))) trivial rfl ?_
  refine HeldK.two 3 7 (fuel := 3) (listed1 := (lb 10 127)) (listed2 := (lb 10 247)) krf rfl rfl krf krf ?_ ?_
  ·refine AK.makeE sl63 el65 rfl rfl (by omega) (by omega) trivial rfl (fun mv0 => ?_)
   refine .nil ?_
   try (conv => enter [2, 2]; simp only [nrm])
   refine HeldK.back Go.Sx.hle ?_
   refine HeldK.first 8 (fuel := 2) (listed' := (lb 10 383)) _ rfl krf krf rfl (Yl.assign rfl) trivial rfl ?_
   refine HeldK.one 7 (fuel := 1) (listed' := (lb 10 511)) krf rfl krf ?_
   refine AK.makeE sl63 el65 rfl rfl (by omega) (by omega) trivial rfl (fun mv1 => ?_)
   refine .nil ?_
   try (conv => enter [2, 2]; simp only [nrm])
   refine HeldK.back Go.Sx.hle ?_
   refine HeldK.first 9 (fuel := 0) (listed' := (lb 10 1023)) _ rfl krf krf rfl (Yl.assign rfl) trivial rfl ?_
   refine HeldK.done krf ?_
   exact hJ _ _ ((mv0, mv1)) trivial (slr) (fun w hw => by first | exact hw.pickLe [0, 1, 2, 3, 4, 5] (by decide) pkl | exact hw.pickLe [0, 1, 2, 3, 5, 4] (by decide) pkl)
  ·refine AK.makeE sl63 el65 rfl rfl (by omega) (by omega) trivial rfl (fun mv1 => ?_)
   refine .nil ?_
   try (conv => enter [2, 2]; simp only [nrm])
   refine HeldK.back Go.Sx.hle ?_
   refine HeldK.one 3 (fuel := 2) (listed' := (lb 10 255)) krf rfl krf ?_
   refine AK.makeE sl63 el65 rfl rfl (by omega) (by omega) trivial rfl (fun mv0 => ?_)
   refine .nil ?_
   try (conv => enter [2, 2]; simp only [nrm])
   refine HeldK.back Go.Sx.hle ?_
   refine HeldK.first 8 (fuel := 1) (listed' := (lb 10 511)) _ rfl krf krf rfl (Yl.assign rfl) trivial rfl ?_
   refine HeldK.first 9 (fuel := 0) (listed' := (lb 10 1023)) _ rfl krf krf rfl (Yl.assign rfl) trivial rfl ?_
   refine HeldK.done krf ?_
   exact hJ _ _ ((mv0, mv1)) trivial (slr) (fun w hw => by first | exact hw.pickLe [0, 1, 2, 3, 4, 5] (by decide) pkl | exact hw.pickLe [0, 1, 2, 3, 5, 4] (by decide) pkl)
 ·skip
  refine AK.then_ (hK2 _ ?_)
  refine .sr fun _ hK3 => ?_
  refine .as rfl (.nt hK3 ?_)
  refine .seq fun _ hK4 => ?_
  refine .sr fun _ hK5 => ?_
  refine .v (.fieldAddr fd65_2 rfl) (.v (.loadBox on63 rfl bsp rfl) ?_)
  refine .v (.lenR sl63 rfl (by first | exact rdp | exact RdS.tree hB 0 rfl h2.rw | exact RdS.tree hB 0 rfl (hg0.2.2.1 _ h2.rw) | exact RdS.tree hB 0 rfl (hg.2.2.1 _ (hs5 _ (hs4 _ (hg0.2.2.1 _ h2.rw)))))) ?_
  refine .mv rfl (.nt hK5 (.block ?_))
  refine AK.loopK (X := List Value × List Value × List Itm) [(2, _), (3, _), (4, _), (5, _), (6, _), (21, _), (22, _)] (fun x => [(7, .int .i64 ((((ds.take x.1.length).filter (·.2.2)).length : Nat) : Int)), (23, .int .i64 (x.1.length : Int))]) (fun x => [forest B x.2.2, box bx2 183 2 [.int .i64 a, .bool nm], box bx3 65 3 [.int .i64 e.op, .int .i64 e.lt, s], box bx4 181 7 [.int .i64 0, .int .i64 0, .slice none 0 0, .int .i64 0, .int .i64 0, .slice none 0 0, .bool false], row z.1 65 3 e.kids.length (xcs (fillE e.kids.length (ds.map (·.1)) x.1.length) (fillVT e.kids.length x.1)), row z.2 65 3 e.kids.length (xcs (fillE e.kids.length (ds.map (·.2.1)) x.2.1.length) (fillVT e.kids.length x.2.1))]) (fun x => x.1.length ≤ e.kids.length ∧ x.2.1.length = x.1.length ∧ (∀ y ∈ l1, y ∈ x.2.2) ∧ Got x.2.2 (ds.map (·.1)) x.1 ∧ Got x.2.2 (ds.map (·.2.1)) x.2.1) (fun x => e.kids.length - x.1.length) (([], [], l1)) slr ?_ ?_ ?_ ?_
  ·exact ⟨Nat.zero_le _, rfl, fun y hy => hy, Got.nil _ _, Got.nil _ _⟩
  ·exact slr
  ·exact fun w hw => by obtain ⟨e1, e2⟩ := fill_zero e.kids.length (ds.map (·.1)); obtain ⟨e3, e4⟩ := fill_zero e.kids.length (ds.map (·.2.1)); simp only [List.length_nil]; rw [e1, e2, e3]; exact hw
  ·intro x hg0 _ hK6
   refine .sr fun _ hK7 => ?_
   refine .v (.lss rfl rfl) (.nt hK7 ?_)
   refine .seq fun _ hK8 => ?_
   refine AK.condD rfl (fun hc0 => ?_) (fun hc0 => ?_)
   ·have hkl : x.1.length < e.kids.length := by omega
    have sk := h2.sls x.1.length hkl
    obtain ⟨eB1, eB2⟩ := map_getD1 ds x.1.length (by omega)
    have hck := hcl x.1.length
    refine .skip ?_
    refine AK.then_ (hK8 _ ?_)
    refine .seq fun _ hK9 => ?_
    refine .block ?_
    refine .sr fun _ hK10 => ?_
    refine .mv rfl ?_
    first | refine .v (.iN sl63 rfl rfl (hr := (by first | exact rdp | exact RdS.tree hB 0 rfl h2.rw | exact RdS.tree hB 0 rfl (hg0.2.2.1 _ h2.rw) | exact RdS.tree hB 0 rfl (hg.2.2.1 _ (hs5 _ (hs4 _ (hg0.2.2.1 _ h2.rw))))))) ?_ | refine .v (.iK sl63 rfl rfl (hr := (by first | exact rdp | exact RdS.tree hB 0 rfl h2.rw | exact RdS.tree hB 0 rfl (hg0.2.2.1 _ h2.rw) | exact RdS.tree hB 0 rfl (hg.2.2.1 _ (hs5 _ (hs4 _ (hg0.2.2.1 _ h2.rw))))))) ?_
    refine .v (.loadE ag65 rfl (by first | exact rdp | exact RdS.tree hB 0 rfl h2.rw | exact RdS.tree hB 0 rfl (hg0.2.2.1 _ h2.rw) | exact RdS.tree hB 0 rfl (hg.2.2.1 _ (hs5 _ (hs4 _ (hg0.2.2.1 _ h2.rw))))) h2.len rfl (by omega)) ?_
    refine AK.alloc el65 rfl rfl trivial rfl (fun bx9 => ?_)
    refine .as rfl ?_
    refine AK.storeBox 6 (us := [.int .i64 (e.kids.getD x.1.length default).op, .int .i64 (e.kids.getD x.1.length default).lt, ss.getD x.1.length undef]) (cs' := [.int .i64 (e.kids.getD x.1.length default).op, .int .i64 (e.kids.getD x.1.length default).lt, ss.getD x.1.length undef]) rfl sz65 rfl rfl rfl rfl oneP (leb rfl) rfl trivial ?_
    refine .nt hK10 ?_
    refine .sr fun _ hK11 => ?_
    refine .v (.loadBoxG ag183 rfl bsp rfl rfl) (.v (.loadBoxG ag65 rfl bsp rfl rfl) ?_)
    refine AK.callN 0 rfl co120 rfl (fun w Fs hw hh hfr hal => ih x.1.length hkl w (Fs 0) B x.2.2 (hB.later hfr hal 0) (hh.at_ 0 _ rfl) _ (hg0.2.2.1 _ (h2.kid _ hkl)) (ds.getD x.1.length default) (hdk _ hkl)) trivial rfl ?_
    rintro r A o ⟨sb, sf, l2, rfl, ssb, ssf, rfl, hs2, hmb, hmf, rfl⟩
    refine AK.alloc el181 rfl rfl trivial rfl (fun bx10 => ?_)
    refine AK.storeBox 7 (us := [.int .i64 (ds.getD x.1.length default).1.op, .int .i64 (ds.getD x.1.length default).1.lt, sb, .int .i64 (ds.getD x.1.length default).2.1.op, .int .i64 (ds.getD x.1.length default).2.1.lt, sf, .bool (ds.getD x.1.length default).2.2]) (cs' := [.int .i64 (ds.getD x.1.length default).1.op, .int .i64 (ds.getD x.1.length default).1.lt, sb, .int .i64 (ds.getD x.1.length default).2.1.op, .int .i64 (ds.getD x.1.length default).2.1.lt, sf, .bool (ds.getD x.1.length default).2.2]) rfl sz181 rfl rfl rfl rfl oneP (leb rfl) rfl trivial ?_
    refine .nt hK11 ?_
    refine .seq fun _ hK12 => ?_
    try (conv => enter [2, 2]; simp only [nrm])
    refine AK.heldS [box bx10 181 7 [.int .i64 (ds.getD x.1.length default).1.op, .int .i64 (ds.getD x.1.length default).1.lt, sb, .int .i64 (ds.getD x.1.length default).2.1.op, .int .i64 (ds.getD x.1.length default).2.1.lt, sf, .bool (ds.getD x.1.length default).2.2], rowX z.1 65 3 e.kids.length, rowX z.2 65 3 e.kids.length] 12 (fun _ hw => by have h := HW.toX 2 rfl (HW.toX 1 rfl (hw.pick [7, 4, 5] (by decide) rfl rfl)); exact h) mixed ?_
    refine HeldK.firstS (fun _ hw => by have h := HW.toX 2 rfl (HW.toX 1 rfl (hw.pick [7, 4, 5] (by decide) rfl rfl)); exact h) 0 (fuel := 11) (listed' := (lb 12 1)) _ rfl krf krf rfl (Yl.move rfl) trivial rfl ?_
    refine HeldK.firstS (fun _ hw => by have h := HW.toX 2 rfl (HW.toX 1 rfl (hw.pick [7, 4, 5] (by decide) rfl rfl)); exact h) 1 (fuel := 10) (listed' := (lb 12 3)) _ rfl krf krf rfl (Yl.move rfl) trivial rfl ?_
    refine HeldK.firstS (fun _ hw => by have h := HW.toX 2 rfl (HW.toX 1 rfl (hw.pick [7, 4, 5] (by decide) rfl rfl)); exact h) 2 (fuel := 9) (listed' := (lb 12 7)) _ rfl krf krf rfl (Yl.move rfl) trivial rfl ?_
    refine HeldK.firstS (fun _ hw => by have h := HW.toX 2 rfl (HW.toX 1 rfl (hw.pick [7, 4, 5] (by decide) rfl rfl)); exact h) 3 (fuel := 8) (listed' := (lb 12 15)) _ rfl krf krf rfl (Yl.move rfl) trivial rfl ?_
    refine HeldK.firstS (fun _ hw => by have h := HW.toX 2 rfl (HW.toX 1 rfl (hw.pick [7, 4, 5] (by decide) rfl rfl)); exact h) 4 (fuel := 7) (listed' := (lb 12 31)) _ rfl krf krf rfl (Yl.fieldAddr fd181_0 rfl) trivial rfl ?_
    refine HeldK.firstS (fun _ hw => by have h := HW.toX 2 rfl (HW.toX 1 rfl (hw.pick [7, 4, 5] (by decide) rfl rfl)); exact h) 5 (fuel := 6) (listed' := (lb 12 63)) _ rfl krf krf rfl (Yl.loadBoxG ag65 rfl bsp rfl rfl) trivial rfl ?_
    refine HeldK.firstS (fun _ hw => by have h := HW.toX 2 rfl (HW.toX 1 rfl (hw.pick [7, 4, 5] (by decide) rfl rfl)); exact h) 6 (fuel := 5) (listed' := (lb 12 127)) _ rfl krf krf rfl (Yl.fieldAddr fd181_1 rfl) trivial rfl ?_
    refine HeldK.firstS (fun _ hw => by have h := HW.toX 2 rfl (HW.toX 1 rfl (hw.pick [7, 4, 5] (by decide) rfl rfl)); exact h) 7 (fuel := 4) (listed' := (lb 12 255)) _ rfl krf krf rfl (Yl.loadBoxG ag65 rfl bsp rfl rfl) trivial rfl ?_
    refine HeldK.firstS (fun _ hw => by have h := HW.toX 2 rfl (HW.toX 1 rfl (hw.pick [7, 4, 5] (by decide) rfl rfl)); exact h) 8 (fuel := 3) (listed' := (lb 12 511)) _ rfl krf krf rfl (Yl.idxX 1 rfl sl63 rfl rfl (by decide) (by omega)) trivial rfl ?_
    refine HeldK.one 9 (fuel := 2) (listed' := (lb 12 1023)) krf rfl krf ?_
    refine AK.storeG 4 rfl sz65 rfl rfl rfl rfl (one'_cons rfl (one'_cons rfl (one'_cons (IsSl.one ssb) one'_nil))) (by omega) (cs' := xcs (fillE e.kids.length (ds.map (·.1)) (x.1.length + 1)) (fillVT e.kids.length (x.1 ++ [sb]))) ((by have h := xcs_fill hLB hkl sb; rw [eB1] at h; exact h)) trivial ?_
    refine .nil ?_
    try (conv => enter [2, 2]; simp only [nrm])
    refine HeldK.backS (fun _ hw => by have h := HW.toX 2 rfl (HW.toX 1 rfl (hw.pick [7, 4, 5] (by decide) rfl rfl)); exact h) ?_
    refine HeldK.firstS (fun _ hw => by have h := HW.toX 2 rfl (HW.toX 1 rfl (hw.pick [7, 4, 5] (by decide) rfl rfl)); exact h) 10 (fuel := 1) (listed' := (lb 12 2047)) _ rfl krf krf rfl (Yl.idxX 2 rfl sl63 rfl rfl (by decide) (by omega)) trivial rfl ?_
    refine HeldK.one 11 (fuel := 0) (listed' := (lb 12 4095)) krf rfl krf ?_
    refine AK.storeG 5 rfl sz65 rfl rfl rfl rfl (one'_cons rfl (one'_cons rfl (one'_cons (IsSl.one ssf) one'_nil))) (by omega) (cs' := xcs (fillE e.kids.length (ds.map (·.2.1)) (x.2.1.length + 1)) (fillVT e.kids.length (x.2.1 ++ [sf]))) ((by have h := xcs_fill (ts := x.2.1) hLS (by omega) sf; rw [hg0.2.1, eB2] at h; rw [hg0.2.1]; exact h)) trivial ?_
    refine .nil ?_
    try (conv => enter [2, 2]; simp only [nrm])
    refine HeldK.backS (fun _ hw => by have h := HW.toX 2 rfl (HW.toX 1 rfl (hw.pick [7, 4, 5] (by decide) rfl rfl)); exact h) ?_
    refine HeldK.done krf ?_
    refine AK.then_ (hK12 _ ?_)
    refine .sr fun _ hK13 => ?_
    refine .v (.fieldAddr fd181_2 rfl) (.v (.loadBox on4 rfl bsp rfl) (.nt hK13 ?_))
    refine AK.cond rfl (fun hc1 => ?_) (fun hc1 => ?_)
    ·try simp only [bs] at hc1
     refine AK.region ?_
     refine .mv rfl ?_
     refine .v (.add rfl rfl (by omega)) ?_
     refine .as rfl (.nil (.block_normal ?_))
     refine AK.then_ (hK9 _ ?_)
     refine AK.region ?_
     refine .v (.add rfl rfl (by omega)) ?_
     refine .mv rfl (.nil ?_)
     refine AK.then_ (hK6 _ _ ((x.1 ++ [sb], x.2.1 ++ [sf], l2)) ⟨by simp; omega, by simp; omega, fun y hy => hs2 _ (hg0.2.2.1 y hy), (hg0.2.2.2.1.later hs2).snoc (by rw [eB1]; exact hmb) ssb, (hg0.2.2.2.2.later hs2).snoc (by rw [hg0.2.1, eB2]; exact hmf) ssf⟩ (by simp; omega) (.cons (slI rfl (by rw [List.length_append, List.length_singleton, count_snoc ds x.1.length (by omega), if_pos hc1]; simp)) (.cons (slI rfl (by simp)) (slr))) (fun w hw => by have h := hw.pick [0, 1, 2, 3, 4, 5] (by decide) rfl rfl; simpa [hg0.2.1] using h))
    ·try simp only [bs] at hc1
     refine .skip (.block_normal ?_)
     refine AK.then_ (hK9 _ ?_)
     refine AK.region ?_
     refine .v (.add rfl rfl (by omega)) ?_
     refine .mv rfl (.nil ?_)
     refine AK.then_ (hK6 _ _ ((x.1 ++ [sb], x.2.1 ++ [sf], l2)) ⟨by simp; omega, by simp; omega, fun y hy => hs2 _ (hg0.2.2.1 y hy), (hg0.2.2.2.1.later hs2).snoc (by rw [eB1]; exact hmb) ssb, (hg0.2.2.2.2.later hs2).snoc (by rw [hg0.2.1, eB2]; exact hmf) ssf⟩ (by simp; omega) (.cons (slI rfl (by rw [List.length_append, List.length_singleton, count_snoc ds x.1.length (by omega), if_neg (by rw [hc1]; decide)]; simp)) (.cons (slI rfl (by simp)) (slr))) (fun w hw => by have h := hw.pick [0, 1, 2, 3, 4, 5] (by decide) rfl rfl; simpa [hg0.2.1] using h))
   ·have hkl : x.1.length = e.kids.length := by omega
    refine AK.close' 0 4 (ds.map (·.1)) x.1 (by decide) rfl rfl hLB.symm (by rw [hkl]; obtain ⟨e1, e2⟩ := fill_full hLB hkl; rw [e1, e2]) (by omega) (fun k hk => hg0.2.2.2.1.d k (by omega)) (fun l4 hs4 hm4 hr4 => ?_)
    refine AK.close' 0 5 (ds.map (·.2.1)) x.2.1 (by decide) rfl rfl hLS.symm (by rw [show x.2.1.length = e.kids.length by omega]; obtain ⟨e1, e2⟩ := fill_full hLS (show x.2.1.length = e.kids.length by omega); rw [e1, e2]) (by omega) (fun k hk => hs4 _ (hg0.2.2.2.2.d k (by omega))) (fun l5 hs5 hm5 hr5 => ?_)
    refine AK.own' [forest B l5, box bx2 183 2 [.int .i64 a, .bool nm], box bx3 65 3 [.int .i64 e.op, .int .i64 e.lt, s], box bx4 181 7 [.int .i64 0, .int .i64 0, .slice none 0 0, .int .i64 0, .int .i64 0, .slice none 0 0, .bool false]] (fun w hw => hw.pick [0, 1, 2, 3] (by decide) rfl rfl) ?_
    have hdt : ds.take x.1.length = ds := by rw [hkl, ← hdn, List.take_length]
    rw [hdt]
    refine .exit (.then_exit (.then_exit (.block_exit ?_)))
    refine AK.then_ (hK4 _ ?_)
    refine .seq fun _ hK14 => ?_
    refine AK.joinK (X := Value × Value × List Itm × Nat) [(3, _), (4, _), (7, _)] (fun z => [(11, .pointer (some ⟨z.2.2.2, 0, none⟩))]) (fun z => [forest B z.2.2.1, box bx2 183 2 [.int .i64 a, .bool nm], box bx3 65 3 [.int .i64 e.op, .int .i64 e.lt, s], box bx4 181 7 [.int .i64 0, .int .i64 0, .slice none 0 0, .int .i64 0, .int .i64 0, .slice none 0 0, .bool false], box z.2.2.2 181 7 [.int .i64 d.1.op, .int .i64 d.1.lt, z.1, .int .i64 d.2.1.op, .int .i64 d.2.1.lt, z.2.1, .bool false]]) (fun z => IsSl z.1 ∧ IsSl z.2.1 ∧ (∀ y ∈ l5, y ∈ z.2.2.1) ∧ Itm.deep z.1 d.1.kids ∈ z.2.2.1 ∧ Itm.deep z.2.1 d.2.1.kids ∈ z.2.2.1) slr (fun _ hJ => ?_) (fun z hg => ?_)
    ·try (conv => enter [2, 2]; simp only [nrm])
     refine AK.heldS _ 10 (fun _ hw => hw.pick [2] (by decide) rfl rfl) mixed ?_
     refine HeldK.firstS (fun _ hw => hw.pick [2] (by decide) rfl rfl) 0 (fuel := 10) (listed' := (lb 11 1)) _ rfl krf krf rfl (Yl.fieldAddr fd65_0 rfl) trivial rfl ?_
     refine HeldK.firstS (fun _ hw => hw.pick [2] (by decide) rfl rfl) 1 (fuel := 9) (listed' := (lb 11 3)) _ rfl krf krf rfl (Yl.loadBox on3 rfl bsp rfl) trivial rfl ?_
     refine HeldK.firstS (fun _ hw => hw.pick [2] (by decide) rfl rfl) 2 (fuel := 8) (listed' := (lb 11 7)) _ rfl krf krf rfl (Yl.move rfl) trivial rfl ?_
     refine HeldK.firstS (fun _ hw => hw.pick [2] (by decide) rfl rfl) 4 (fuel := 7) (listed' := (lb 11 23)) _ rfl krf krf rfl (Yl.fieldAddr fd65_0 rfl) trivial rfl ?_
     refine HeldK.firstS (fun _ hw => hw.pick [2] (by decide) rfl rfl) 5 (fuel := 6) (listed' := (lb 11 55)) _ rfl krf krf rfl (Yl.loadBox on3 rfl bsp rfl) trivial rfl ?_
     refine HeldK.firstS (fun _ hw => hw.pick [2] (by decide) rfl rfl) 6 (fuel := 5) (listed' := (lb 11 119)) _ rfl krf krf rfl (Yl.move rfl) trivial rfl ?_
     refine HeldK.two 3 9 (fuel := 4) (listed1 := (lb 11 127)) (listed2 := (lb 11 631)) krf rfl rfl krf krf ?_ ?_
     ·refine AK.callN 0 rfl co118 rfl (fun w Fs hw hh hfr hal => s_join w (Fs 0) B l5 (hB.later hfr hal 0) (hh.at_ 0 _ rfl) e.op _ _ (hs5 _ hm4) d.1 h1b) trivial rfl ?_
      rintro r A o ⟨sb2, l6, rfl, ssb2, rfl, hs6, hm6, rfl⟩
      refine .nil ?_
      try (conv => enter [2, 2]; simp only [nrm])
      refine HeldK.backS (fun _ hw => hw.pick [2] (by decide) rfl rfl) ?_
      refine HeldK.two 7 9 (fuel := 3) (listed1 := (lb 11 255)) (listed2 := (lb 11 639)) krf rfl rfl krf krf ?_ ?_
      ·refine AK.callN 0 rfl co118 rfl (fun w Fs hw hh hfr hal => s_join w (Fs 0) B l6 (hB.later hfr hal 0) (hh.at_ 0 _ rfl) e.op _ _ (hs6 _ hm5) d.2.1 h1s) trivial rfl ?_
       rintro r A o ⟨sf2, l7, rfl, ssf2, rfl, hs7, hm7, rfl⟩
       refine .nil ?_
       try (conv => enter [2, 2]; simp only [nrm])
       refine HeldK.backS (fun _ hw => hw.pick [2] (by decide) rfl rfl) ?_
       refine HeldK.firstS (fun _ hw => hw.pick [2] (by decide) rfl rfl) 8 (fuel := 2) (listed' := (lb 11 511)) _ rfl krf krf rfl (Yl.build (parts := [(0, .tmp 49), (1, .tmp 53)]) (cs := #[.int .i64 d.1.op, .int .i64 d.1.lt, sb2, .int .i64 d.2.1.op, .int .i64 d.2.1.lt, sf2, .bool false]) rfl (by obtain ⟨_, _, _, rfl⟩ := ssb2; obtain ⟨_, _, _, rfl⟩ := ssf2; kernel_rfl)) trivial rfl ?_
       refine HeldK.one 9 (fuel := 1) (listed' := (lb 11 1023)) krf rfl krf ?_
       refine AK.alloc el181 rfl rfl trivial rfl (fun bx11 => ?_)
       refine .nil ?_
       try (conv => enter [2, 2]; simp only [nrm])
       refine HeldK.backS (fun _ hw => hw.pick [2] (by decide) rfl rfl) ?_
       refine HeldK.one 10 (fuel := 0) (listed' := (lb 11 2047)) krf rfl krf ?_
       refine AK.storeBox 4 (us := [.int .i64 d.1.op, .int .i64 d.1.lt, sb2, .int .i64 d.2.1.op, .int .i64 d.2.1.lt, sf2, .bool false]) (cs' := [.int .i64 d.1.op, .int .i64 d.1.lt, sb2, .int .i64 d.2.1.op, .int .i64 d.2.1.lt, sf2, .bool false]) rfl sz181 rfl rfl rfl rfl oneP (leb rfl) rfl trivial ?_
       refine .nil ?_
       try (conv => enter [2, 2]; simp only [nrm])
       refine HeldK.backN 11 krf rfl krf ?_
       refine .nil ?_
       refine AK.fromQn ?_
       exact hJ _ _ ((sb2, sf2, l7, bx11)) ⟨ssb2, ssf2, fun y hy => hs7 _ (hs6 _ hy), hs7 _ hm6, hm7⟩ (slr) (fun w hw => by first | exact hw.pickLe [0, 1, 2, 3, 4] (by decide) pkl)
      ·refine AK.alloc el181 rfl rfl trivial rfl (fun bx11 => ?_)
       refine .nil ?_
       try (conv => enter [2, 2]; simp only [nrm])
       refine HeldK.backS (fun _ hw => hw.pick [2] (by decide) rfl rfl) ?_
       refine HeldK.one 7 (fuel := 2) (listed' := (lb 11 767)) krf rfl krf ?_
       refine AK.callN 0 rfl co118 rfl (fun w Fs hw hh hfr hal => s_join w (Fs 0) B l6 (hB.later hfr hal 0) (hh.at_ 0 _ rfl) e.op _ _ (hs6 _ hm5) d.2.1 h1s) trivial rfl ?_
       rintro r A o ⟨sf2, l7, rfl, ssf2, rfl, hs7, hm7, rfl⟩
       refine .nil ?_
       try (conv => enter [2, 2]; simp only [nrm])
       refine HeldK.backS (fun _ hw => hw.pick [2] (by decide) rfl rfl) ?_
       refine HeldK.firstS (fun _ hw => hw.pick [2] (by decide) rfl rfl) 8 (fuel := 1) (listed' := (lb 11 1023)) _ rfl krf krf rfl (Yl.build (parts := [(0, .tmp 49), (1, .tmp 53)]) (cs := #[.int .i64 d.1.op, .int .i64 d.1.lt, sb2, .int .i64 d.2.1.op, .int .i64 d.2.1.lt, sf2, .bool false]) rfl (by obtain ⟨_, _, _, rfl⟩ := ssb2; obtain ⟨_, _, _, rfl⟩ := ssf2; kernel_rfl)) trivial rfl ?_
       refine HeldK.one 10 (fuel := 0) (listed' := (lb 11 2047)) krf rfl krf ?_
       refine AK.storeBox 4 (us := [.int .i64 d.1.op, .int .i64 d.1.lt, sb2, .int .i64 d.2.1.op, .int .i64 d.2.1.lt, sf2, .bool false]) (cs' := [.int .i64 d.1.op, .int .i64 d.1.lt, sb2, .int .i64 d.2.1.op, .int .i64 d.2.1.lt, sf2, .bool false]) rfl sz181 rfl rfl rfl rfl oneP (leb rfl) rfl trivial ?_
       refine .nil ?_
       try (conv => enter [2, 2]; simp only [nrm])
       refine HeldK.backN 11 krf rfl krf ?_
       refine .nil ?_
       refine AK.fromQn ?_
       exact hJ _ _ ((sb2, sf2, l7, bx11)) ⟨ssb2, ssf2, fun y hy => hs7 _ (hs6 _ hy), hs7 _ hm6, hm7⟩ (slr) (fun w hw => by first | exact hw.pickLe [0, 1, 2, 3, 4] (by decide) pkl)
     ·refine AK.alloc el181 rfl rfl trivial rfl (fun bx11 => ?_)
      refine .nil ?_
      try (conv => enter [2, 2]; simp only [nrm])
      refine HeldK.backS (fun _ hw => hw.pick [2] (by decide) rfl rfl) ?_
      refine HeldK.one 3 (fuel := 3) (listed' := (lb 11 639)) krf rfl krf ?_
      refine AK.callN 0 rfl co118 rfl (fun w Fs hw hh hfr hal => s_join w (Fs 0) B l5 (hB.later hfr hal 0) (hh.at_ 0 _ rfl) e.op _ _ (hs5 _ hm4) d.1 h1b) trivial rfl ?_
      rintro r A o ⟨sb2, l6, rfl, ssb2, rfl, hs6, hm6, rfl⟩
      refine .nil ?_
      try (conv => enter [2, 2]; simp only [nrm])
      refine HeldK.backS (fun _ hw => hw.pick [2] (by decide) rfl rfl) ?_
      refine HeldK.one 7 (fuel := 2) (listed' := (lb 11 767)) krf rfl krf ?_
      refine AK.callN 0 rfl co118 rfl (fun w Fs hw hh hfr hal => s_join w (Fs 0) B l6 (hB.later hfr hal 0) (hh.at_ 0 _ rfl) e.op _ _ (hs6 _ hm5) d.2.1 h1s) trivial rfl ?_
      rintro r A o ⟨sf2, l7, rfl, ssf2, rfl, hs7, hm7, rfl⟩
      refine .nil ?_
      try (conv => enter [2, 2]; simp only [nrm])
      refine HeldK.backS (fun _ hw => hw.pick [2] (by decide) rfl rfl) ?_
      refine HeldK.firstS (fun _ hw => hw.pick [2] (by decide) rfl rfl) 8 (fuel := 1) (listed' := (lb 11 1023)) _ rfl krf krf rfl (Yl.build (parts := [(0, .tmp 49), (1, .tmp 53)]) (cs := #[.int .i64 d.1.op, .int .i64 d.1.lt, sb2, .int .i64 d.2.1.op, .int .i64 d.2.1.lt, sf2, .bool false]) rfl (by obtain ⟨_, _, _, rfl⟩ := ssb2; obtain ⟨_, _, _, rfl⟩ := ssf2; kernel_rfl)) trivial rfl ?_
      refine HeldK.one 10 (fuel := 0) (listed' := (lb 11 2047)) krf rfl krf ?_
      refine AK.storeBox 4 (us := [.int .i64 d.1.op, .int .i64 d.1.lt, sb2, .int .i64 d.2.1.op, .int .i64 d.2.1.lt, sf2, .bool false]) (cs' := [.int .i64 d.1.op, .int .i64 d.1.lt, sb2, .int .i64 d.2.1.op, .int .i64 d.2.1.lt, sf2, .bool false]) rfl sz181 rfl rfl rfl rfl oneP (leb rfl) rfl trivial ?_
      refine .nil ?_
      try (conv => enter [2, 2]; simp only [nrm])
      refine HeldK.backN 11 krf rfl krf ?_
      refine .nil ?_
      refine AK.fromQn ?_
      exact hJ _ _ ((sb2, sf2, l7, bx11)) ⟨ssb2, ssf2, fun y hy => hs7 _ (hs6 _ hy), hs7 _ hm6, hm7⟩ (slr) (fun w hw => by first | exact hw.pickLe [0, 1, 2, 3, 4] (by decide) pkl)
    ·have sz1 := hg.1
     have sz2 := hg.2.1
     refine AK.then_ (hK14 _ ?_)
     refine .seq fun _ hK15 => ?_
     refine .sr fun _ hK16 => ?_
     refine .v (.fieldAddr fd65_0 rfl) (.v (.loadBox on3 rfl bsp rfl) (.nt hK16 (.block ?_)))
     refine .sr fun _ hK17 => ?_
     refine .v (.eql rfl rfl) (.as rfl (.nt hK17 ?_))
     refine AK.condD rfl (fun hc2 => ?_) (fun hc2 => ?_)
     ·refine AK.region ?_
      refine .mv rfl (.v (.gtr rfl rfl) (.v (.fieldAddr fd181_2 rfl) ?_))
      refine AK.storeBox 4 (us := [.bool (decide ((0 : Int) < ((ds.filter (·.2.2)).length : Nat)))]) (cs' := [.int .i64 d.1.op, .int .i64 d.1.lt, z.1, .int .i64 d.2.1.op, .int .i64 d.2.1.lt, z.2.1, .bool (decide ((0 : Int) < ((ds.filter (·.2.2)).length : Nat)))]) rfl sz4 rfl rfl rfl rfl oneP (leb rfl) rfl trivial ?_
      refine .nil (.block_normal ?_)
      refine AK.then_ (hK15 _ ?_)
      refine .sr fun _ hK18 => ?_
      refine .v (.loadBoxG ag181 rfl bsp rfl rfl) ?_
      refine AK.storeBox 3 (us := [.int .i64 d.1.op, .int .i64 d.1.lt, z.1, .int .i64 d.2.1.op, .int .i64 d.2.1.lt, z.2.1, .bool (decide ((0 : Int) < ((ds.filter (·.2.2)).length : Nat)))]) (cs' := [.int .i64 d.1.op, .int .i64 d.1.lt, z.1, .int .i64 d.2.1.op, .int .i64 d.2.1.lt, z.2.1, .bool (decide ((0 : Int) < ((ds.filter (·.2.2)).length : Nat)))]) rfl sz181 rfl rfl rfl rfl oneP (leb rfl) rfl trivial ?_
      refine .nt hK18 (.ret ?_)
      refine AK.retG [.cell 4 181] rfl (.cons (.cell ag181 rfl bsp rfl rfl) (.nil)) (fun w hw => ⟨_, _, _, ?_, rfl, Ret.of (hw.pick [0] (by decide) rfl rfl)⟩)
      rw [show ((decide ((0 : Int) < ((ds.filter (·.2.2)).length : Nat))) : Bool) = d.2.2 from by rw [h3]; unfold nlD; rw [if_pos hc2]; exact decide_eq_decide.2 (by omega)]
      exact ⟨z.1, z.2.1, z.2.2.1, rfl, hg.1, hg.2.1, rfl, fun y hy => hg.2.2.1 _ (hs5 _ (hs4 _ (hg0.2.2.1 _ (h2.sub y hy)))), hg.2.2.2.1, hg.2.2.2.2, rfl⟩
     ·refine .sr fun _ hK19 => ?_
      refine .v (.eql rfl rfl) (.as rfl (.nt hK19 ?_))
      refine AK.condD rfl (fun hc3 => ?_) (fun hc3 => ?_)
      ·refine AK.region ?_
       refine .mv rfl (.v (.fieldAddr fd65_2 rfl) (.v (.loadBox on63 rfl bsp rfl) ?_))
       refine .v (.lenR sl63 rfl (by first | exact rdp | exact RdS.tree hB 0 rfl h2.rw | exact RdS.tree hB 0 rfl (hg0.2.2.1 _ h2.rw) | exact RdS.tree hB 0 rfl (hg.2.2.1 _ (hs5 _ (hs4 _ (hg0.2.2.1 _ h2.rw)))))) ?_
       refine .v (.eql rfl rfl) (.v (.fieldAddr fd181_2 rfl) ?_)
       refine AK.storeBox 4 (us := [.bool (decide ((((ds.filter (·.2.2)).length : Nat) : Int) = (e.kids.length : Int)))]) (cs' := [.int .i64 d.1.op, .int .i64 d.1.lt, z.1, .int .i64 d.2.1.op, .int .i64 d.2.1.lt, z.2.1, .bool (decide ((((ds.filter (·.2.2)).length : Nat) : Int) = (e.kids.length : Int)))]) rfl sz4 rfl rfl rfl rfl oneP (leb rfl) rfl trivial ?_
       refine .nil (.block_normal ?_)
       refine AK.then_ (hK15 _ ?_)
       refine .sr fun _ hK20 => ?_
       refine .v (.loadBoxG ag181 rfl bsp rfl rfl) ?_
       refine AK.storeBox 3 (us := [.int .i64 d.1.op, .int .i64 d.1.lt, z.1, .int .i64 d.2.1.op, .int .i64 d.2.1.lt, z.2.1, .bool (decide ((((ds.filter (·.2.2)).length : Nat) : Int) = (e.kids.length : Int)))]) (cs' := [.int .i64 d.1.op, .int .i64 d.1.lt, z.1, .int .i64 d.2.1.op, .int .i64 d.2.1.lt, z.2.1, .bool (decide ((((ds.filter (·.2.2)).length : Nat) : Int) = (e.kids.length : Int)))]) rfl sz181 rfl rfl rfl rfl oneP (leb rfl) rfl trivial ?_
       refine .nt hK20 (.ret ?_)
       refine AK.retG [.cell 4 181] rfl (.cons (.cell ag181 rfl bsp rfl rfl) (.nil)) (fun w hw => ⟨_, _, _, ?_, rfl, Ret.of (hw.pick [0] (by decide) rfl rfl)⟩)
       rw [show ((decide ((((ds.filter (·.2.2)).length : Nat) : Int) = (e.kids.length : Int))) : Bool) = d.2.2 from by rw [h3]; unfold nlD; rw [if_neg hc2, if_pos hc3]; exact decide_eq_decide.2 (by omega)]
       exact ⟨z.1, z.2.1, z.2.2.1, rfl, hg.1, hg.2.1, rfl, fun y hy => hg.2.2.1 _ (hs5 _ (hs4 _ (hg0.2.2.1 _ (h2.sub y hy)))), hg.2.2.2.1, hg.2.2.2.2, rfl⟩
      ·refine .sr fun _ hK21 => ?_
       refine .v (.eql rfl rfl) (.as rfl (.nt hK21 ?_))
       refine AK.condD rfl (fun hc4 => ?_) (fun hc4 => ?_)
       ·refine AK.region ?_
        refine .mv rfl (.v (.eql rfl rfl) (.v (.fieldAddr fd181_2 rfl) ?_))
        refine AK.storeBox 4 (us := [.bool (decide ((((ds.filter (·.2.2)).length : Nat) : Int) = 0))]) (cs' := [.int .i64 d.1.op, .int .i64 d.1.lt, z.1, .int .i64 d.2.1.op, .int .i64 d.2.1.lt, z.2.1, .bool (decide ((((ds.filter (·.2.2)).length : Nat) : Int) = 0))]) rfl sz4 rfl rfl rfl rfl oneP (leb rfl) rfl trivial ?_
        refine .nil (.block_normal ?_)
        refine AK.then_ (hK15 _ ?_)
        refine .sr fun _ hK22 => ?_
        refine .v (.loadBoxG ag181 rfl bsp rfl rfl) ?_
        refine AK.storeBox 3 (us := [.int .i64 d.1.op, .int .i64 d.1.lt, z.1, .int .i64 d.2.1.op, .int .i64 d.2.1.lt, z.2.1, .bool (decide ((((ds.filter (·.2.2)).length : Nat) : Int) = 0))]) (cs' := [.int .i64 d.1.op, .int .i64 d.1.lt, z.1, .int .i64 d.2.1.op, .int .i64 d.2.1.lt, z.2.1, .bool (decide ((((ds.filter (·.2.2)).length : Nat) : Int) = 0))]) rfl sz181 rfl rfl rfl rfl oneP (leb rfl) rfl trivial ?_
        refine .nt hK22 (.ret ?_)
        refine AK.retG [.cell 4 181] rfl (.cons (.cell ag181 rfl bsp rfl rfl) (.nil)) (fun w hw => ⟨_, _, _, ?_, rfl, Ret.of (hw.pick [0] (by decide) rfl rfl)⟩)
        rw [show ((decide ((((ds.filter (·.2.2)).length : Nat) : Int) = 0)) : Bool) = d.2.2 from by rw [h3]; unfold nlD; rw [if_neg hc2, if_neg hc3, if_pos hc4]; exact decide_eq_decide.2 (by omega)]
        exact ⟨z.1, z.2.1, z.2.2.1, rfl, hg.1, hg.2.1, rfl, fun y hy => hg.2.2.1 _ (hs5 _ (hs4 _ (hg0.2.2.1 _ (h2.sub y hy)))), hg.2.2.2.1, hg.2.2.2.2, rfl⟩
       ·refine .skip (.block_normal ?_)
        refine AK.then_ (hK15 _ ?_)
        refine .sr fun _ hK23 => ?_
        refine .v (.loadBoxG ag181 rfl bsp rfl rfl) ?_
        refine AK.storeBox 3 (us := [.int .i64 d.1.op, .int .i64 d.1.lt, z.1, .int .i64 d.2.1.op, .int .i64 d.2.1.lt, z.2.1, .bool false]) (cs' := [.int .i64 d.1.op, .int .i64 d.1.lt, z.1, .int .i64 d.2.1.op, .int .i64 d.2.1.lt, z.2.1, .bool false]) rfl sz181 rfl rfl rfl rfl oneP (leb rfl) rfl trivial ?_
        refine .nt hK23 (.ret ?_)
        refine AK.retG [.cell 4 181] rfl (.cons (.cell ag181 rfl bsp rfl rfl) (.nil)) (fun w hw => ⟨_, _, _, ?_, rfl, Ret.of (hw.pick [0] (by decide) rfl rfl)⟩)
        rw [show (false : Bool) = d.2.2 from by rw [h3]; unfold nlD; rw [if_neg hc2, if_neg hc3, if_neg hc4]]
        exact ⟨z.1, z.2.1, z.2.2.1, rfl, hg.1, hg.2.1, rfl, fun y hy => hg.2.2.1 _ (hs5 _ (hs4 _ (hg0.2.2.1 _ (h2.sub y hy)))), hg.2.2.2.1, hg.2.2.2.2, rfl⟩

end Go.Proofs.YtdnhiinakhmhgaaGreatDoor

namespace Go.Proofs.YtdnhiinakhmhgaaGreatDoor
open Go.Sx Go.RowKit
set_option maxHeartbeats 800000 in
theorem s_smp (a : Int) (nm : Bool) (e : Ex) (w : World) (F : Nat → Prop) (B : Bs) (l : List Itm) (hB : BsOk B w F) (hA : (forest B l).holds w F) (s : Value) (hm : Itm.deep s e.kids ∈ l) (j : Ex) (hj : (if nm then some e else simpE e) = some j) : CallM Tryz.prog 177 [.agg #[.int .i64 a, .bool nm], .agg #[.int .i64 e.op, .int .i64 e.lt, s]] w F (fun r A o => ∃ sr l', r = .agg #[.int .i64 j.op, .int .i64 j.lt, sr] ∧ IsSl sr ∧ A = forest B l' ∧ (∀ x ∈ l, x ∈ l') ∧ Itm.deep sr j.kids ∈ l' ∧ o = []) := by
 refine specM_of Tryz.func177 rfl (leb rfl) hA ?_
 refine AK.forestSl 0 rfl hm (fun ssl => ?_)
 refine .sr fun _ hK1 => ?_
 refine AK.box_ (E := 183) (cs := [.int .i64 a, .bool nm]) rfl rfl rfl trivial rfl (fun bx2 => ?_)
 refine AK.box_ (E := 65) (cs := [.int .i64 e.op, .int .i64 e.lt, s]) rfl rfl rfl trivial rfl (fun bx3 => ?_)
 refine AK.alloc el65 rfl rfl trivial rfl (fun bx4 => ?_)
 refine .nt hK1 ?_
 refine .seq fun _ hK2 => ?_
 refine .sr fun _ hK3 => ?_
 refine .v (.fieldAddr fd183_1 rfl) (.v (.loadBox on4 rfl bsp rfl) (.nt hK3 ?_))
 refine AK.cond rfl (fun hc0 => ?_) (fun hc0 => ?_)
 ·try simp only [bs] at hc0
  rw [if_pos hc0] at hj
  cases hj
  refine .sr fun _ hK4 => ?_
  refine .v (.loadBoxG ag65 rfl bsp rfl rfl) ?_
  refine AK.storeBox 3 (us := [.int .i64 e.op, .int .i64 e.lt, s]) (cs' := [.int .i64 e.op, .int .i64 e.lt, s]) rfl sz65 rfl rfl rfl rfl oneP (leb rfl) rfl trivial ?_
  refine .nt hK4 (.ret (.then_ret ?_))
  refine AK.retG [.cell 4 65] rfl (.cons (.cell ag65 rfl bsp rfl rfl) (.nil)) (fun w hw => ⟨_, _, _, ?_, rfl, Ret.of (hw.pick [0] (by decide) rfl rfl)⟩)
  exact ⟨s, l, rfl, ssl, rfl, fun x hx => hx, hm, rfl⟩
 ·try simp only [bs] at hc0
  rw [if_neg (by rw [hc0]; decide)] at hj
  refine .skip ?_
  refine AK.then_ (hK2 _ ?_)
  refine .sr fun _ hK5 => ?_
  refine .v (.loadBoxG ag65 rfl bsp rfl rfl) ?_
  refine AK.callN 0 rfl co96 rfl (fun w Fs hw hh hfr hal => s_simp e w (Fs 0) B l (hB.later hfr hal 0) (hh.at_ 0 _ rfl) s hm j hj) trivial rfl ?_
  rintro r A o ⟨sr, l2, rfl, ssr, rfl, hs2, hm2, rfl⟩
  refine AK.storeBox 3 (us := [.int .i64 j.op, .int .i64 j.lt, sr]) (cs' := [.int .i64 j.op, .int .i64 j.lt, sr]) rfl sz65 rfl rfl rfl rfl oneP (leb rfl) rfl trivial ?_
  refine .nt hK5 (.ret ?_)
  refine AK.retG [.cell 4 65] rfl (.cons (.cell ag65 rfl bsp rfl rfl) (.nil)) (fun w hw => ⟨_, _, _, ?_, rfl, Ret.of (hw.pick [0] (by decide) rfl rfl)⟩)
  exact ⟨sr, l2, rfl, ssr, rfl, hs2, hm2, rfl⟩

set_option maxHeartbeats 4000000 in
theorem s_dconcat (a : Int) (nm : Bool) (e : Ex) (ho : e.op = 5) (ih : ∀ i, i < e.kids.length → DerS a nm (e.kids.getD i default)) (w : World) (F : Nat → Prop) (B : Bs) (l : List Itm) (hB : BsOk B w F) (hA : (forest B l).holds w F) (s : Value) (hm : Itm.deep s e.kids ∈ l) (d : Dv) (hd : dervE a nm e = some d) : CallM Tryz.prog 154 [.agg #[.int .i64 a, .bool nm], .agg #[.int .i64 e.op, .int .i64 e.lt, s]] w F (fun r A o => ∃ sb sf l', r = .agg #[.int .i64 d.1.op, .int .i64 d.1.lt, sb, .int .i64 d.2.1.op, .int .i64 d.2.1.lt, sf, .bool d.2.2] ∧ IsSl sb ∧ IsSl sf ∧ A = forest B l' ∧ (∀ x ∈ l, x ∈ l') ∧ Itm.deep sb d.1.kids ∈ l' ∧ Itm.deep sf d.2.1.kids ∈ l' ∧ o = []) := by
 refine specM_of Tryz.func154 rfl (leb rfl) hA ?_
 refine AK.open' 0 rfl hm fun l1 ss h2 => ?_
 have hmx := h2.mx'
 obtain ⟨hlim, BY, SV, N, P, hcat0, hP, h1b, h1s, h3⟩ := dervE_con hd ho
 obtain ⟨hSVn, hBYn⟩ := dervC_len hcat0
 simp only at hSVn hBYn
 obtain ⟨hPn, hPk⟩ := partsD_at hP
 refine .sr fun _ hK1 => ?_
 refine AK.box_ (E := 183) (cs := [.int .i64 a, .bool nm]) rfl rfl rfl trivial rfl (fun bx2 => ?_)
 refine AK.box_ (E := 65) (cs := [.int .i64 e.op, .int .i64 e.lt, s]) rfl rfl rfl trivial rfl (fun bx3 => ?_)
 refine AK.alloc el181 rfl rfl trivial rfl (fun bx4 => ?_)
 refine .nt hK1 ?_
 refine .sr fun _ hK2 => ?_
 refine .as rfl (.nt hK2 ?_)
 refine .sr fun _ hK3 => ?_
 refine .v (.fieldAddr fd65_2 rfl) (.v (.loadBox on63 rfl bsp rfl) ?_)
 refine .v (.lenR sl63 rfl (by first | exact rdp | exact RdS.tree hB 0 rfl h2.rw | exact RdS.tree hB 0 rfl (hg0.2.2.1 _ h2.rw) | exact RdS.tree hB 0 rfl (hs5 _ hr4) | exact RdS.tree hB 0 rfl (hg1.2.1 _ (hs5 _ hr4)))) ?_
 refine AK.makeE sl63 el65 rfl rfl (by omega) (by omega) trivial rfl (fun mv0 => ?_)
 refine .as rfl (.nt hK3 ?_)
 refine .sr fun _ hK4 => ?_
 refine .as rfl (.nt hK4 ?_)
 refine .seq fun _ hK5 => ?_
 refine .sr fun _ hK6 => ?_
 refine .v (.fieldAddr fd65_2 rfl) (.v (.loadBox on63 rfl bsp rfl) ?_)
 refine .v (.lenR sl63 rfl (by first | exact rdp | exact RdS.tree hB 0 rfl h2.rw | exact RdS.tree hB 0 rfl (hg0.2.2.1 _ h2.rw) | exact RdS.tree hB 0 rfl (hs5 _ hr4) | exact RdS.tree hB 0 rfl (hg1.2.1 _ (hs5 _ hr4)))) ?_
 refine .mv rfl (.nt hK6 (.block ?_))
 refine AK.loopK (X := Value × List Value × List Value × Bool × List Itm) [(2, _), (4, _), (6, _), (20, _), (21, _)] (fun x => [(5, x.1), (7, .bool x.2.2.2.1), (22, .int .i64 (x.2.2.1.length : Int))]) (fun x => [forest B x.2.2.2.2, box bx2 183 2 [.int .i64 a, .bool nm], box bx3 65 3 [.int .i64 e.op, .int .i64 e.lt, s], box bx4 181 7 [.int .i64 0, .int .i64 0, .slice none 0 0, .int .i64 0, .int .i64 0, .slice none 0 0, .bool false], row mv0 65 3 e.kids.length (xcs (fillE e.kids.length SV x.2.2.1.length) (fillVT e.kids.length x.2.2.1)), row x.1 65 3 x.2.1.length (xcs (BY.take x.2.1.length) x.2.1)]) (fun x => CatI a nm e.kids BY SV N x.2.2.2.1 x.2.2.1.length x.2.1.length ∧ IsSl x.1 ∧ (∀ y ∈ l1, y ∈ x.2.2.2.2) ∧ Got x.2.2.2.2 BY x.2.1 ∧ Got x.2.2.2.2 SV x.2.2.1) (fun x => e.kids.length - x.2.2.1.length) ((.slice none 0 0, [], [], true, l1)) slr ?_ ?_ ?_ ?_
 ·exact ⟨CatI.start hcat0, nilSl, fun y hy => hy, Got.nil _ _, Got.nil _ _⟩
 ·exact slr
 ·exact fun w hw => by obtain ⟨e1, e2⟩ := fill_zero e.kids.length SV; simp only [List.length_nil]; rw [e1, e2]; exact hw.ghost 65 3
 ·intro x hg0 _ hK7
  refine .sr fun _ hK8 => ?_
  refine .v (.lss rfl rfl) (.nt hK8 ?_)
  refine .seq fun _ hK9 => ?_
  refine AK.condD rfl (fun hc0 => ?_) (fun hc0 => ?_)
  ·have hkl : x.2.2.1.length < e.kids.length := by omega
   have sk := h2.sls x.2.2.1.length hkl
   have hcml := hg0.1.ml
   refine .skip ?_
   refine AK.then_ (hK9 _ ?_)
   refine .seq fun _ hK10 => ?_
   refine .block ?_
   refine .sr fun _ hK11 => ?_
   refine .mv rfl ?_
   first | refine .v (.iN sl63 rfl rfl (hr := (by first | exact rdp | exact RdS.tree hB 0 rfl h2.rw | exact RdS.tree hB 0 rfl (hg0.2.2.1 _ h2.rw) | exact RdS.tree hB 0 rfl (hs5 _ hr4) | exact RdS.tree hB 0 rfl (hg1.2.1 _ (hs5 _ hr4))))) ?_ | refine .v (.iK sl63 rfl rfl (hr := (by first | exact rdp | exact RdS.tree hB 0 rfl h2.rw | exact RdS.tree hB 0 rfl (hg0.2.2.1 _ h2.rw) | exact RdS.tree hB 0 rfl (hs5 _ hr4) | exact RdS.tree hB 0 rfl (hg1.2.1 _ (hs5 _ hr4))))) ?_
   refine .v (.loadE ag65 rfl (by first | exact rdp | exact RdS.tree hB 0 rfl h2.rw | exact RdS.tree hB 0 rfl (hg0.2.2.1 _ h2.rw) | exact RdS.tree hB 0 rfl (hs5 _ hr4) | exact RdS.tree hB 0 rfl (hg1.2.1 _ (hs5 _ hr4))) h2.len rfl (by omega)) ?_
   refine AK.alloc el65 rfl rfl trivial rfl (fun bx9 => ?_)
   refine .as rfl ?_
   refine AK.storeBox 6 (us := [.int .i64 (e.kids.getD x.2.2.1.length default).op, .int .i64 (e.kids.getD x.2.2.1.length default).lt, ss.getD x.2.2.1.length undef]) (cs' := [.int .i64 (e.kids.getD x.2.2.1.length default).op, .int .i64 (e.kids.getD x.2.2.1.length default).lt, ss.getD x.2.2.1.length undef]) rfl sz65 rfl rfl rfl rfl oneP (leb rfl) rfl trivial ?_
   refine .nt hK11 ?_
   refine .seq fun _ hK12 => ?_
   refine .sr fun _ hK13 => ?_
   refine .mv rfl (.v (.not rfl) (.nt hK13 ?_))
   refine AK.condB rfl (fun hc1 => ?_) (fun hc1 => ?_)
   ·have hcat := hg0.1
    rw [hc1] at hcat
    obtain ⟨hsm, hcat2⟩ := hcat.no hkl
    refine .sr fun _ hK14 => ?_
    refine .mv rfl (.mv rfl (.v (.loadBoxG ag183 rfl bsp rfl rfl) (.v (.loadBoxG ag65 rfl bsp rfl rfl) ?_)))
    refine AK.callN 0 rfl co177 rfl (fun w Fs hw hh hfr hal => s_smp a nm _ w (Fs 0) B x.2.2.2.2 (hB.later hfr hal 0) (hh.at_ 0 _ rfl) _ (hg0.2.2.1 _ (h2.kid _ hkl)) _ hsm) trivial rfl ?_
    rintro r A o ⟨sr, l2, rfl, ssr, rfl, hs2, hm2, rfl⟩
    first | refine .v (.iN sl63 rfl rfl (hr := (by first | exact rdp | exact RdS.tree hB 0 rfl h2.rw | exact RdS.tree hB 0 rfl (hg0.2.2.1 _ h2.rw) | exact RdS.tree hB 0 rfl (hs5 _ hr4) | exact RdS.tree hB 0 rfl (hg1.2.1 _ (hs5 _ hr4))))) ?_ | refine .v (.iK sl63 rfl rfl (hr := (by first | exact rdp | exact RdS.tree hB 0 rfl h2.rw | exact RdS.tree hB 0 rfl (hg0.2.2.1 _ h2.rw) | exact RdS.tree hB 0 rfl (hs5 _ hr4) | exact RdS.tree hB 0 rfl (hg1.2.1 _ (hs5 _ hr4))))) ?_
    refine AK.storeG 4 rfl sz65 rfl rfl rfl rfl (one'_cons rfl (one'_cons rfl (one'_cons (IsSl.one ssr) one'_nil))) (by omega) (cs' := xcs (fillE e.kids.length SV (x.2.2.1.length + 1)) (fillVT e.kids.length (x.2.2.1 ++ [sr]))) (xcs_fill hSVn hkl sr) trivial ?_
    refine .nt hK14 (.exit (.then_exit (.block_exit ?_)))
    refine AK.then_ (hK10 _ ?_)
    refine AK.region ?_
    refine .v (.add rfl rfl (by omega)) ?_
    refine .mv rfl (.nil ?_)
    refine AK.then_ (hK7 _ _ ((x.1, x.2.1, x.2.2.1 ++ [sr], false, l2)) ⟨by simpa using hcat2, hg0.2.1, fun y hy => hs2 _ (hg0.2.2.1 y hy), hg0.2.2.2.1.later hs2, (hg0.2.2.2.2.later hs2).snoc hm2 ssr⟩ (by simp; omega) (.cons (rfl) (.cons (gB hc1) (.cons (slI rfl (by simp)) (slr)))) (fun w hw => by have h := hw.pick [0, 1, 2, 3, 4, 5] (by decide) rfl rfl; simpa using h))
   ·have hcat := hg0.1
    rw [hc1] at hcat
    obtain ⟨d1, hd1, hml, hBm, hSk, hcat2⟩ := hcat.yes hkl
    refine .skip ?_
    refine AK.then_ (hK12 _ ?_)
    refine .sr fun _ hK15 => ?_
    refine .v (.loadBoxG ag183 rfl bsp rfl rfl) (.v (.loadBoxG ag65 rfl bsp rfl rfl) ?_)
    refine AK.callN 0 rfl co120 rfl (fun w Fs hw hh hfr hal => ih x.2.2.1.length hkl w (Fs 0) B x.2.2.2.2 (hB.later hfr hal 0) (hh.at_ 0 _ rfl) _ (hg0.2.2.1 _ (h2.kid _ hkl)) d1 hd1) trivial rfl ?_
    rintro r A o ⟨sb, sf, l2, rfl, ssb, ssf, rfl, hs2, hmb, hmf, rfl⟩
    refine AK.alloc el181 rfl rfl trivial rfl (fun bx10 => ?_)
    refine AK.storeBox 7 (us := [.int .i64 d1.1.op, .int .i64 d1.1.lt, sb, .int .i64 d1.2.1.op, .int .i64 d1.2.1.lt, sf, .bool d1.2.2]) (cs' := [.int .i64 d1.1.op, .int .i64 d1.1.lt, sb, .int .i64 d1.2.1.op, .int .i64 d1.2.1.lt, sf, .bool d1.2.2]) rfl sz181 rfl rfl rfl rfl oneP (leb rfl) rfl trivial ?_
    refine .nt hK15 ?_
    try (conv => enter [2, 2]; simp only [nrm])
    refine AK.heldS [box bx10 181 7 [.int .i64 d1.1.op, .int .i64 d1.1.lt, sb, .int .i64 d1.2.1.op, .int .i64 d1.2.1.lt, sf, .bool d1.2.2], rowX mv0 65 3 e.kids.length] 15 (fun _ hw => by have h := HW.toX 1 rfl (hw.pick [7, 4] (by decide) rfl rfl); exact h) mixed ?_
    refine HeldK.firstS (fun _ hw => by have h := HW.toX 1 rfl (hw.pick [7, 4] (by decide) rfl rfl); exact h) 0 (fuel := 14) (listed' := (lb 15 1)) _ rfl krf krf rfl (Yl.move rfl) trivial rfl ?_
    refine HeldK.firstS (fun _ hw => by have h := HW.toX 1 rfl (hw.pick [7, 4] (by decide) rfl rfl); exact h) 1 (fuel := 13) (listed' := (lb 15 3)) _ rfl krf krf rfl (Yl.move rfl) trivial rfl ?_
    refine HeldK.firstS (fun _ hw => by have h := HW.toX 1 rfl (hw.pick [7, 4] (by decide) rfl rfl); exact h) 2 (fuel := 12) (listed' := (lb 15 7)) _ rfl krf krf rfl (Yl.move rfl) trivial rfl ?_
    refine HeldK.firstS (fun _ hw => by have h := HW.toX 1 rfl (hw.pick [7, 4] (by decide) rfl rfl); exact h) 3 (fuel := 11) (listed' := (lb 15 15)) _ rfl krf krf rfl (Yl.fieldAddr fd181_0 rfl) trivial rfl ?_
    refine HeldK.firstS (fun _ hw => by have h := HW.toX 1 rfl (hw.pick [7, 4] (by decide) rfl rfl); exact h) 4 (fuel := 10) (listed' := (lb 15 31)) _ rfl krf krf rfl (Yl.loadBoxG ag65 rfl bsp rfl rfl) trivial rfl ?_
    refine HeldK.firstS (fun _ hw => by have h := HW.toX 1 rfl (hw.pick [7, 4] (by decide) rfl rfl); exact h) 7 (fuel := 9) (listed' := (lb 15 159)) _ rfl krf krf rfl (Yl.fieldAddr fd181_1 rfl) trivial rfl ?_
    refine HeldK.firstS (fun _ hw => by have h := HW.toX 1 rfl (hw.pick [7, 4] (by decide) rfl rfl); exact h) 8 (fuel := 8) (listed' := (lb 15 415)) _ rfl krf krf rfl (Yl.loadBoxG ag65 rfl bsp rfl rfl) trivial rfl ?_
    refine HeldK.firstS (fun _ hw => by have h := HW.toX 1 rfl (hw.pick [7, 4] (by decide) rfl rfl); exact h) 9 (fuel := 7) (listed' := (lb 15 927)) _ rfl krf krf rfl (Yl.fieldAddr fd181_2 rfl) trivial rfl ?_
    refine HeldK.firstS (fun _ hw => by have h := HW.toX 1 rfl (hw.pick [7, 4] (by decide) rfl rfl); exact h) 10 (fuel := 6) (listed' := (lb 15 1951)) _ rfl krf krf rfl (Yl.loadBox on4 rfl bsp rfl) trivial rfl ?_
    refine HeldK.one 5 (fuel := 5) (listed' := (lb 15 1983)) krf rfl krf ?_
    refine AK.lit (xs := [.tmp 42]) sl63 el65 rfl rfl rfl (by simp [Value.cells]) (by decide) (by decide) trivial rfl (fun lv => ?_)
    refine .nil ?_
    try (conv => enter [2, 2]; simp only [nrm])
    refine HeldK.backS (fun _ hw => by have h := HW.toX 1 rfl (hw.pick [7, 4] (by decide) rfl rfl); exact h) ?_
    refine HeldK.one 6 (fuel := 4) (listed' := (lb 15 2047)) krf rfl krf ?_
    refine AK.appendS 5 rfl sl63 el65 rfl (by decide) rfl rfl rfl (by first | exact rdp | exact RdS.tree hB 0 rfl h2.rw | exact RdS.tree hB 0 rfl (hg0.2.2.1 _ h2.rw) | exact RdS.tree hB 0 rfl (hs5 _ hr4) | exact RdS.tree hB 0 rfl (hg1.2.1 _ (hs5 _ hr4))) (one'_cons rfl (one'_cons rfl (one'_cons (IsSl.one ssb) one'_nil))) (by omega) (by omega) trivial rfl (fun av44 => ?_)
    refine AK.shape 5 rfl (fun sav => ?_)
    refine .nil ?_
    try (conv => enter [2, 2]; simp only [nrm])
    refine HeldK.backS (fun _ hw => by have h := HW.toX 1 rfl (hw.pick [7, 4] (by decide) rfl rfl); exact h) ?_
    refine HeldK.firstS (fun _ hw => by have h := HW.toX 1 rfl (hw.pick [7, 4] (by decide) rfl rfl); exact h) 11 (fuel := 3) (listed' := (lb 15 4095)) _ rfl krf krf rfl (Yl.assign rfl) trivial rfl ?_
    refine HeldK.firstS (fun _ hw => by have h := HW.toX 1 rfl (hw.pick [7, 4] (by decide) rfl rfl); exact h) 12 (fuel := 2) (listed' := (lb 15 8191)) _ rfl krf krf rfl (Yl.idxX 1 rfl sl63 rfl rfl (by decide) (by omega)) trivial rfl ?_
    refine HeldK.one 13 (fuel := 1) (listed' := (lb 15 16383)) krf rfl krf ?_
    refine AK.storeG 4 rfl sz65 rfl rfl rfl rfl (one'_cons rfl (one'_cons rfl (one'_cons (IsSl.one ssf) one'_nil))) (by omega) (cs' := xcs (fillE e.kids.length SV (x.2.2.1.length + 1)) (fillVT e.kids.length (x.2.2.1 ++ [sf]))) ((by have h := xcs_fill hSVn hkl sf; rw [hSk] at h; exact h)) trivial ?_
    refine .nil ?_
    try (conv => enter [2, 2]; simp only [nrm])
    refine HeldK.backS (fun _ hw => by have h := HW.toX 1 rfl (hw.pick [7, 4] (by decide) rfl rfl); exact h) ?_
    refine HeldK.firstS (fun _ hw => by have h := HW.toX 1 rfl (hw.pick [7, 4] (by decide) rfl rfl); exact h) 14 (fuel := 0) (listed' := (lb 15 32767)) _ rfl krf krf rfl (Yl.assign rfl) trivial rfl ?_
    refine HeldK.done krf ?_
    refine .block_normal ?_
    refine AK.then_ (hK10 _ ?_)
    refine AK.region ?_
    refine .v (.add rfl rfl (by omega)) ?_
    refine .mv rfl (.nil ?_)
    refine AK.then_ (hK7 _ _ ((av44, x.2.1 ++ [sb], x.2.2.1 ++ [sf], d1.2.2, l2)) ⟨by simpa using hcat2, sav, fun y hy => hs2 _ (hg0.2.2.1 y hy), (hg0.2.2.2.1.later hs2).snoc (by rw [hBm]; exact hmb) ssb, (hg0.2.2.2.2.later hs2).snoc (by rw [hSk]; exact hmf) ssf⟩ (by simp; omega) (.cons (rfl) (.cons (rfl) (.cons (slI rfl (by simp)) (slr)))) (fun w hw => by have h := hw.pick [0, 1, 2, 3, 4, 5] (by decide) rfl rfl; dsimp only; rw [List.length_append, List.length_append, List.length_singleton, List.length_singleton, take_snocD default BY x.2.1.length hml, ← xcs_snoc _ _ _ _ (by simp; omega), hBm]; exact h))
  ·have hkn : x.2.2.1.length = e.kids.length := by have := hg0.1.kl; omega
   have hcf := hg0.1
   rw [hkn] at hcf
   obtain ⟨hmB, hnN⟩ := hcf.fin
   refine AK.close' 0 5 BY x.2.1 (by decide) rfl rfl hmB (by rw [hmB, List.take_length]) hmB (fun k hk => hg0.2.2.2.1.d k (by omega)) (fun l4 hs4 hm4 hr4 => ?_)
   refine AK.close' 0 4 SV x.2.2.1 (by decide) rfl rfl hSVn.symm (by rw [hkn]; obtain ⟨e1, e2⟩ := fill_full hSVn hkn; rw [e1, e2]) (by omega) (fun k hk => hs4 _ (hg0.2.2.2.2.d k (by omega))) (fun l5 hs5 hm5 hr5 => ?_)
   refine AK.own' [forest B l5, box bx2 183 2 [.int .i64 a, .bool nm], box bx3 65 3 [.int .i64 e.op, .int .i64 e.lt, s], box bx4 181 7 [.int .i64 0, .int .i64 0, .slice none 0 0, .int .i64 0, .int .i64 0, .slice none 0 0, .bool false]] (fun w hw => hw.pick [0, 1, 2, 3] (by decide) rfl rfl) ?_
   refine .exit (.then_exit (.then_exit (.block_exit ?_)))
   refine AK.then_ (hK5 _ ?_)
   refine .sr fun _ hK16 => ?_
   refine .mv rfl ?_
   refine .v (.lenR sl63 rfl (by first | exact rdp | exact RdS.tree hB 0 rfl h2.rw | exact RdS.tree hB 0 rfl (hg0.2.2.1 _ h2.rw) | exact RdS.tree hB 0 rfl (hs5 _ hr4) | exact RdS.tree hB 0 rfl (hg1.2.1 _ (hs5 _ hr4)))) ?_
   refine AK.makeE sl63 el65 rfl rfl (by omega) (by omega) trivial rfl (fun mv1 => ?_)
   refine .as rfl (.nt hK16 ?_)
   refine .seq fun _ hK17 => ?_
   refine .sr fun _ hK18 => ?_
   refine .mv rfl ?_
   refine .v (.lenR sl63 rfl (by first | exact rdp | exact RdS.tree hB 0 rfl h2.rw | exact RdS.tree hB 0 rfl (hg0.2.2.1 _ h2.rw) | exact RdS.tree hB 0 rfl (hs5 _ hr4) | exact RdS.tree hB 0 rfl (hg1.2.1 _ (hs5 _ hr4)))) ?_
   refine .mv rfl (.nt hK18 (.block ?_))
   refine AK.loopK (X := List Value × List Itm) [(4, _), (6, _), (7, _), (11, _), (54, _), (55, _)] (fun y => [(56, .int .i64 (y.1.length : Int))]) (fun y => [forest B y.2, box bx2 183 2 [.int .i64 a, .bool nm], box bx3 65 3 [.int .i64 e.op, .int .i64 e.lt, s], box bx4 181 7 [.int .i64 0, .int .i64 0, .slice none 0 0, .int .i64 0, .int .i64 0, .slice none 0 0, .bool false], row mv1 65 3 BY.length (xcs (fillE BY.length P y.1.length) (fillVT BY.length y.1))]) (fun y => y.1.length ≤ BY.length ∧ (∀ z ∈ l5, z ∈ y.2) ∧ Got y.2 P y.1) (fun y => BY.length - y.1.length) (([], l5)) slr ?_ ?_ ?_ ?_
   ·exact ⟨Nat.zero_le _, fun z hz => hz, Got.nil _ _⟩
   ·exact slr
   ·exact fun w hw => by obtain ⟨e1, e2⟩ := fill_zero BY.length P; simp only [List.length_nil]; rw [e1, e2]; exact hw
   ·intro y hg1 _ hK19
    refine .sr fun _ hK20 => ?_
    refine .v (.lss rfl rfl) (.nt hK20 ?_)
    refine .seq fun _ hK21 => ?_
    refine AK.condD rfl (fun hc2 => ?_) (fun hc2 => ?_)
    ·have hil : y.1.length < BY.length := by omega
     have sk2 := hg0.2.2.2.1.s y.1.length (by omega)
     have hdk := hs5 _ (hs4 _ (hg0.2.2.2.1.d y.1.length (by omega)))
     have hpk := hPk y.1.length hil
     refine .skip ?_
     refine AK.then_ (hK21 _ ?_)
     refine .seq fun _ hK22 => ?_
     refine .block ?_
     refine .sr fun _ hK23 => ?_
     refine .mv rfl ?_
     first | refine .v (.iN sl63 rfl rfl (hr := (by first | exact rdp | exact RdS.tree hB 0 rfl h2.rw | exact RdS.tree hB 0 rfl (hg0.2.2.1 _ h2.rw) | exact RdS.tree hB 0 rfl (hs5 _ hr4) | exact RdS.tree hB 0 rfl (hg1.2.1 _ (hs5 _ hr4))))) ?_ | refine .v (.iK sl63 rfl rfl (hr := (by first | exact rdp | exact RdS.tree hB 0 rfl h2.rw | exact RdS.tree hB 0 rfl (hg0.2.2.1 _ h2.rw) | exact RdS.tree hB 0 rfl (hs5 _ hr4) | exact RdS.tree hB 0 rfl (hg1.2.1 _ (hs5 _ hr4))))) ?_
     refine .v (.loadE ag65 rfl (by first | exact rdp | exact RdS.tree hB 0 rfl h2.rw | exact RdS.tree hB 0 rfl (hg0.2.2.1 _ h2.rw) | exact RdS.tree hB 0 rfl (hs5 _ hr4) | exact RdS.tree hB 0 rfl (hg1.2.1 _ (hs5 _ hr4))) (by omega) rfl (by omega)) ?_
     refine AK.alloc el65 rfl rfl trivial rfl (fun bx13 => ?_)
     refine .as rfl ?_
     refine AK.storeBox 5 (us := [.int .i64 (BY.getD y.1.length default).op, .int .i64 (BY.getD y.1.length default).lt, x.2.1.getD y.1.length undef]) (cs' := [.int .i64 (BY.getD y.1.length default).op, .int .i64 (BY.getD y.1.length default).lt, x.2.1.getD y.1.length undef]) rfl sz65 rfl rfl rfl rfl oneP (leb rfl) rfl trivial ?_
     refine .nt hK23 ?_
     refine .seq fun _ hK24 => ?_
     refine .sr fun _ hK25 => ?_
     refine .v (.fieldAddr fd65_0 rfl) (.v (.loadBox on3 rfl bsp rfl) (.v (.eql rfl rfl) (.nt hK25 ?_)))
     refine AK.condD rfl (fun hc3 => ?_) (fun hc3 => ?_)
     ·rw [if_pos hc3] at hpk
      have hPe : BY.getD y.1.length default = P.getD y.1.length default := Option.some.inj hpk
      refine .sr fun _ hK26 => ?_
      refine .mv rfl (.mv rfl (.v (.loadBoxG ag65 rfl bsp rfl rfl) ?_))
      first | refine .v (.iN sl63 rfl rfl (hr := (by first | exact rdp | exact RdS.tree hB 0 rfl h2.rw | exact RdS.tree hB 0 rfl (hg0.2.2.1 _ h2.rw) | exact RdS.tree hB 0 rfl (hs5 _ hr4) | exact RdS.tree hB 0 rfl (hg1.2.1 _ (hs5 _ hr4))))) ?_ | refine .v (.iK sl63 rfl rfl (hr := (by first | exact rdp | exact RdS.tree hB 0 rfl h2.rw | exact RdS.tree hB 0 rfl (hg0.2.2.1 _ h2.rw) | exact RdS.tree hB 0 rfl (hs5 _ hr4) | exact RdS.tree hB 0 rfl (hg1.2.1 _ (hs5 _ hr4))))) ?_
      refine AK.storeG 4 rfl sz65 rfl rfl rfl rfl (one'_cons rfl (one'_cons rfl (one'_cons (IsSl.one sk2) one'_nil))) (by omega) (cs' := xcs (fillE BY.length P (y.1.length + 1)) (fillVT BY.length (y.1 ++ [x.2.1.getD y.1.length undef]))) ((by have h := xcs_fill hPn hil (x.2.1.getD y.1.length undef); rw [← hPe] at h; exact h)) trivial ?_
      refine .nt hK26 (.exit (.then_exit (.block_exit ?_)))
      refine AK.then_ (hK22 _ ?_)
      refine AK.region ?_
      refine .v (.add rfl rfl (by omega)) ?_
      refine .mv rfl (.nil ?_)
      refine AK.then_ (hK19 _ _ ((y.1 ++ [x.2.1.getD y.1.length undef], y.2)) ⟨by simp; omega, hg1.2.1, hg1.2.2.snoc (by rw [← hPe]; exact hg1.2.1 _ hdk) sk2⟩ (by simp; omega) (.cons (slI rfl (by simp)) (slr)) (fun w hw => by have h := hw.pick [0, 1, 2, 3, 4] (by decide) rfl rfl; simpa using h))
     ·rw [if_neg hc3] at hpk
      refine .skip ?_
      refine AK.then_ (hK24 _ ?_)
      refine .seq fun _ hK27 => ?_
      try (conv => enter [2, 2]; simp only [nrm])
      refine AK.heldS _ 8 (fun _ hw => hw.pick [0, 1, 2, 3, 4, 5] (by decide) rfl rfl) mixed ?_
      refine HeldK.firstS (fun _ hw => hw.pick [0, 1, 2, 3, 4, 5] (by decide) rfl rfl) 0 (fuel := 7) (listed' := (lb 8 1)) _ rfl krf krf rfl (Yl.loadBoxG ag65 rfl bsp rfl rfl) trivial rfl ?_
      refine HeldK.firstS (fun _ hw => hw.pick [0, 1, 2, 3, 4, 5] (by decide) rfl rfl) 2 (fuel := 6) (listed' := (lb 8 5)) _ rfl krf krf rfl (Yl.move rfl) trivial rfl ?_
      refine HeldK.firstS (fun _ hw => hw.pick [0, 1, 2, 3, 4, 5] (by decide) rfl rfl) 3 (fuel := 5) (listed' := (lb 8 13)) _ rfl krf krf rfl (Yl.move rfl) trivial rfl ?_
      refine HeldK.firstS (fun _ hw => hw.pick [0, 1, 2, 3, 4, 5] (by decide) rfl rfl) 4 (fuel := 4) (listed' := (lb 8 29)) _ rfl krf krf rfl (Yl.addE (((y.1.length + 1 : Nat) : Int)) rfl rfl (by omega) (by omega)) trivial rfl ?_
      refine HeldK.firstS (fun _ hw => hw.pick [0, 1, 2, 3, 4, 5] (by decide) rfl rfl) 5 (fuel := 3) (listed' := (lb 8 61)) _ rfl krf krf rfl (Yl.sliceFr (CutS.tree hB 0 rfl (hg1.2.1 _ hr5)) sl63 rfl rfl (by omega)) trivial rfl ?_
      refine HeldK.one 1 (fuel := 2) (listed' := (lb 8 63)) krf rfl krf ?_
      refine AK.lit (xs := [.tmp 68]) sl63 el65 rfl rfl rfl (by simp [Value.cells]) (by decide) (by decide) trivial rfl (fun lf => ?_)
      refine .nil ?_
      try (conv => enter [2, 2]; simp only [nrm])
      refine HeldK.backS (fun _ hw => hw.pick [0, 1, 2, 3, 4, 5] (by decide) rfl rfl) ?_
      refine HeldK.one 6 (fuel := 1) (listed' := (lb 8 127)) krf rfl krf ?_
      refine AK.appendS 6 rfl sl63 el65 rfl (by decide) rfl rfl rfl ((RdS.tree hB 0 rfl (hg1.2.1 _ hr5)).fr (CutS.tree hB 0 rfl (hg1.2.1 _ hr5)) (by omega)) (fun u hu => one'_ecs SV x.2.2.1 (all_getD fun j hj => hg0.2.2.2.2.s j hj) u (List.mem_of_mem_drop hu)) (by omega) (by omega) trivial rfl (fun av74 => ?_)
      refine .nil ?_
      try (conv => enter [2, 2]; simp only [nrm])
      refine HeldK.backS (fun _ hw => hw.pick [0, 1, 2, 3, 4, 5] (by decide) rfl rfl) ?_
      refine HeldK.firstS (fun _ hw => hw.pick [0, 1, 2, 3, 4, 5] (by decide) rfl rfl) 7 (fuel := 0) (listed' := (lb 8 255)) _ rfl krf krf rfl (Yl.assign rfl) trivial rfl ?_
      refine HeldK.done krf ?_
      refine AK.then_ (hK27 _ ?_)
      refine AK.region ?_
      refine .mv rfl (.mv rfl (.mv rfl ?_))
      refine AK.close' 0 6 (BY.getD y.1.length default :: SV.drop (y.1.length + 1)) (x.2.1.getD y.1.length undef :: x.2.2.1.drop (y.1.length + 1)) (by decide) rfl rfl (by rw [List.length_cons, List.length_drop, hSVn]; omega) (by rw [xcs_cons, ← xcs_drop _ _ _ (by omega)]; rfl) (by simp; omega) (deep_cons_drop (hg1.2.1 _ hdk) (hg0.2.2.2.2.later fun z hz => hg1.2.1 _ (hs5 _ (hs4 _ hz))) (by omega)) (fun l6 hs6 hm6 hr6 => ?_)
      refine AK.callN 0 rfl co118 rfl (fun w Fs hw hh hfr hal => s_join w (Fs 0) B l6 (hB.later hfr hal 0) (hh.at_ 0 _ rfl) 5 _ _ hm6 _ hpk) trivial rfl ?_
      rintro r A o ⟨sr, l7, rfl, ssr, rfl, hs7, hm7, rfl⟩
      first | refine .v (.iN sl63 rfl rfl (hr := (by first | exact rdp | exact RdS.tree hB 0 rfl h2.rw | exact RdS.tree hB 0 rfl (hg0.2.2.1 _ h2.rw) | exact RdS.tree hB 0 rfl (hs5 _ hr4) | exact RdS.tree hB 0 rfl (hg1.2.1 _ (hs5 _ hr4))))) ?_ | refine .v (.iK sl63 rfl rfl (hr := (by first | exact rdp | exact RdS.tree hB 0 rfl h2.rw | exact RdS.tree hB 0 rfl (hg0.2.2.1 _ h2.rw) | exact RdS.tree hB 0 rfl (hs5 _ hr4) | exact RdS.tree hB 0 rfl (hg1.2.1 _ (hs5 _ hr4))))) ?_
      refine AK.storeG 4 rfl sz65 rfl rfl rfl rfl (one'_cons rfl (one'_cons rfl (one'_cons (IsSl.one ssr) one'_nil))) (by omega) (cs' := xcs (fillE BY.length P (y.1.length + 1)) (fillVT BY.length (y.1 ++ [sr]))) (xcs_fill hPn hil sr) trivial ?_
      refine .nil (.block_normal ?_)
      refine AK.then_ (hK22 _ ?_)
      refine AK.region ?_
      refine .v (.add rfl rfl (by omega)) ?_
      refine .mv rfl (.nil ?_)
      refine AK.then_ (hK19 _ _ ((y.1 ++ [sr], l7)) ⟨by simp; omega, fun z hz => hs7 _ (hs6 _ (hg1.2.1 z hz)), (hg1.2.2.later (fun z hz => hs7 _ (hs6 _ hz))).snoc hm7 ssr⟩ (by simp; omega) (.cons (slI rfl (by simp)) (slr)) (fun w hw => by have h := hw.pick [0, 1, 2, 3, 4] (by decide) rfl rfl; simpa using h))
    ·have hil : y.1.length = BY.length := by omega
     refine AK.close' 0 4 P y.1 (by decide) rfl rfl hPn.symm (by rw [hil]; obtain ⟨e1, e2⟩ := fill_full hPn hil; rw [e1, e2]) (by omega) (fun k hk => hg1.2.2.d k (by omega)) (fun l8 hs8 hm8 hr8 => ?_)
     refine .exit (.then_exit (.then_exit (.block_exit ?_)))
     refine AK.then_ (hK17 _ ?_)
     refine .sr fun _ hK28 => ?_
     refine .mv rfl ?_
     refine AK.callN 0 rfl co118 rfl (fun w Fs hw hh hfr hal => s_join w (Fs 0) B l8 (hB.later hfr hal 0) (hh.at_ 0 _ rfl) 4 _ _ hm8 d.1 h1b) trivial rfl ?_
     rintro r A o ⟨sr1, l9, rfl, ssr1, rfl, hs9, hm9, rfl⟩
     refine .mv rfl ?_
     refine AK.callN 0 rfl co118 rfl (fun w Fs hw hh hfr hal => s_join w (Fs 0) B l9 (hB.later hfr hal 0) (hh.at_ 0 _ rfl) 5 _ _ (hs9 _ (hs8 _ (hg1.2.1 _ hm5))) d.2.1 h1s) trivial rfl ?_
     rintro r A o ⟨sr2, l10, rfl, ssr2, rfl, hs10, hm10, rfl⟩
     refine .mv rfl ?_
     refine .v (.build (parts := [(0, .tmp 82), (1, .tmp 84), (2, .tmp 85)]) (cs := #[.int .i64 d.1.op, .int .i64 d.1.lt, sr1, .int .i64 d.2.1.op, .int .i64 d.2.1.lt, sr2, .bool x.2.2.2.1]) rfl (by obtain ⟨_, _, _, rfl⟩ := ssr1; obtain ⟨_, _, _, rfl⟩ := ssr2; kernel_rfl)) ?_
     refine AK.storeBox 3 (us := [.int .i64 d.1.op, .int .i64 d.1.lt, sr1, .int .i64 d.2.1.op, .int .i64 d.2.1.lt, sr2, .bool x.2.2.2.1]) (cs' := [.int .i64 d.1.op, .int .i64 d.1.lt, sr1, .int .i64 d.2.1.op, .int .i64 d.2.1.lt, sr2, .bool x.2.2.2.1]) rfl sz181 rfl rfl rfl rfl oneP (leb rfl) rfl trivial ?_
     refine .nt hK28 (.ret ?_)
     refine AK.retG [.cell 4 181] rfl (.cons (.cell ag181 rfl bsp rfl rfl) (.nil)) (fun w hw => ⟨_, _, _, ?_, rfl, Ret.of (hw.pick [0] (by decide) rfl rfl)⟩)
     rw [show x.2.2.2.1 = d.2.2 from by rw [h3, hnN]]
     exact ⟨sr1, sr2, l10, rfl, ssr1, ssr2, rfl, fun z hz => hs10 _ (hs9 _ (hs8 _ (hg1.2.1 _ (hs5 _ (hs4 _ (hg0.2.2.1 _ (h2.sub z hz))))))), hs10 _ hm9, hm10, rfl⟩

end Go.Proofs.YtdnhiinakhmhgaaGreatDoor

namespace Go.Proofs.YtdnhiinakhmhgaaGreatDoor
open Go.Sx Go.RowKit
set_option maxHeartbeats 4000000 in
theorem s_der_step (a : Int) (nm : Bool) (e : Ex) (ih : ∀ i, i < e.kids.length → DerS a nm (e.kids.getD i default)) (w : World) (F : Nat → Prop) (B : Bs) (l : List Itm) (hB : BsOk B w F) (hA : (forest B l).holds w F) (s : Value) (hm : Itm.deep s e.kids ∈ l) (d : Dv) (hd : dervE a nm e = some d) : CallM Tryz.prog 120 [.agg #[.int .i64 a, .bool nm], .agg #[.int .i64 e.op, .int .i64 e.lt, s]] w F (fun r A o => ∃ sb sf l', r = .agg #[.int .i64 d.1.op, .int .i64 d.1.lt, sb, .int .i64 d.2.1.op, .int .i64 d.2.1.lt, sf, .bool d.2.2] ∧ IsSl sb ∧ IsSl sf ∧ A = forest B l' ∧ (∀ x ∈ l, x ∈ l') ∧ Itm.deep sb d.1.kids ∈ l' ∧ Itm.deep sf d.2.1.kids ∈ l' ∧ o = []) := by
 refine specM_of Tryz.func120 rfl (leb rfl) hA ?_
 refine AK.open' 0 rfl hm fun l1 ss h2 => ?_
 have hmx := h2.mx'
 refine .sr fun _ hK1 => ?_
 refine AK.box_ (E := 183) (cs := [.int .i64 a, .bool nm]) rfl rfl rfl trivial rfl (fun bx2 => ?_)
 refine AK.box_ (E := 65) (cs := [.int .i64 e.op, .int .i64 e.lt, s]) rfl rfl rfl trivial rfl (fun bx3 => ?_)
 refine AK.alloc el181 rfl rfl trivial rfl (fun bx4 => ?_)
 refine .nt hK1 ?_
 refine .sr fun _ hK2 => ?_
 refine .v (.build (parts := [(0, .const (.int .i64 1))]) (cs := #[.int .i64 emptyE.op, .int .i64 emptyE.lt, .slice none 0 0]) rfl (by kernel_rfl)) ?_
 refine .v (.build (parts := [(0, .const (.int .i64 2))]) (cs := #[.int .i64 unitE.op, .int .i64 unitE.lt, .slice none 0 0]) rfl (by kernel_rfl)) ?_
 refine AK.alloc el65 rfl rfl trivial rfl (fun bx5 => ?_)
 refine AK.alloc el65 rfl rfl trivial rfl (fun bx6 => ?_)
 refine AK.storeBox 4 (us := [.int .i64 emptyE.op, .int .i64 emptyE.lt, nilV]) (cs' := [.int .i64 emptyE.op, .int .i64 emptyE.lt, nilV]) rfl sz65 rfl rfl rfl rfl oneP (leb rfl) rfl trivial ?_
 refine AK.storeBox 5 (us := [.int .i64 unitE.op, .int .i64 unitE.lt, nilV]) (cs' := [.int .i64 unitE.op, .int .i64 unitE.lt, nilV]) rfl sz65 rfl rfl rfl rfl oneP (leb rfl) rfl trivial ?_
 refine .nt hK2 ?_
 refine .seq fun _ hK3 => ?_
 refine .sr fun _ hK4 => ?_
 refine .v (.fieldAddr fd65_0 rfl) (.v (.loadBox on3 rfl bsp rfl) (.nt hK4 (.block ?_)))
 refine .sr fun _ hK5 => ?_
 refine .v (.eql rfl rfl) (.as rfl (.nt hK5 ?_))
 refine AK.condD rfl (fun hc0 => ?_) (fun hc0 => ?_)
 ·refine .sr fun _ hK6 => ?_
  refine .v (.loadBoxG ag65 rfl bsp rfl rfl) (.v (.loadBoxG ag65 rfl bsp rfl rfl) ?_)
  refine .v (.build (parts := [(0, .tmp 15), (1, .tmp 16), (2, .const (.bool true))]) (cs := #[.int .i64 emptyE.op, .int .i64 emptyE.lt, nilV, .int .i64 unitE.op, .int .i64 unitE.lt, nilV, .bool true]) rfl (by kernel_rfl)) ?_
  refine AK.storeBox 3 (us := [.int .i64 emptyE.op, .int .i64 emptyE.lt, nilV, .int .i64 unitE.op, .int .i64 unitE.lt, nilV, .bool true]) (cs' := [.int .i64 emptyE.op, .int .i64 emptyE.lt, nilV, .int .i64 unitE.op, .int .i64 unitE.lt, nilV, .bool true]) rfl sz181 rfl rfl rfl rfl oneP (leb rfl) rfl trivial ?_
  refine .nt hK6 (.ret (.block_ret (.then_ret ?_)))
  refine AK.add' 0 (.deep nilV []) rfl (fun R => RdK.nil R) (fun l2 hs2 hm2 => ?_)
  refine AK.retG [.cell 4 181] rfl (.cons (.cell ag181 rfl bsp rfl rfl) (.nil)) (fun w hw => ⟨_, _, _, ?_, rfl, Ret.of (hw.pick [0] (by decide) rfl rfl)⟩)
  obtain rfl := dervE_unit hd hc0
  exact ⟨nilV, nilV, l2, rfl, nilSl, nilSl, rfl, fun y hy => hs2 _ (h2.sub y hy), hm2, hm2, rfl⟩
 ·refine .sr fun _ hK7 => ?_
  refine .v (.eql rfl rfl) (.as rfl (.nt hK7 ?_))
  refine AK.condD rfl (fun hc1 => ?_) (fun hc1 => ?_)
  ·refine .seq fun _ hK8 => ?_
   refine .sr fun _ hK9 => ?_
   refine .v (.fieldAddr fd65_1 rfl) (.v (.loadBox on3 rfl bsp rfl) (.v (.fieldAddr fd183_0 rfl) (.v (.loadBox on3 rfl bsp rfl) (.v (.eql rfl rfl) (.nt hK9 ?_)))))
   refine AK.condD rfl (fun hc2 => ?_) (fun hc2 => ?_)
   ·refine AK.region ?_
    refine .v (.loadBoxG ag65 rfl bsp rfl rfl) ?_
    refine AK.storeBox 4 (us := [.int .i64 unitE.op, .int .i64 unitE.lt, nilV]) (cs' := [.int .i64 unitE.op, .int .i64 unitE.lt, nilV]) rfl sz65 rfl rfl rfl rfl oneP (leb rfl) rfl trivial ?_
    refine .nt hK8 ?_
    refine .sr fun _ hK10 => ?_
    refine .v (.loadBoxG ag65 rfl bsp rfl rfl) (.v (.fieldAddr fd65_1 rfl) (.v (.loadBox on3 rfl bsp rfl) ?_))
    refine .v (.build (parts := [(0, .const (.int .i64 3)), (1, .tmp 28)]) (cs := #[.int .i64 3, .int .i64 e.lt, .slice none 0 0]) rfl (by kernel_rfl)) ?_
    refine .v (.build (parts := [(0, .tmp 26), (1, .tmp 29), (2, .const (.bool false))]) (cs := #[.int .i64 unitE.op, .int .i64 unitE.lt, nilV, .int .i64 (Ex.mk 3 e.lt []).op, .int .i64 (Ex.mk 3 e.lt []).lt, nilV, .bool false]) rfl (by kernel_rfl)) ?_
    refine AK.storeBox 3 (us := [.int .i64 unitE.op, .int .i64 unitE.lt, nilV, .int .i64 (Ex.mk 3 e.lt []).op, .int .i64 (Ex.mk 3 e.lt []).lt, nilV, .bool false]) (cs' := [.int .i64 unitE.op, .int .i64 unitE.lt, nilV, .int .i64 (Ex.mk 3 e.lt []).op, .int .i64 (Ex.mk 3 e.lt []).lt, nilV, .bool false]) rfl sz181 rfl rfl rfl rfl oneP (leb rfl) rfl trivial ?_
    refine .nt hK10 (.ret (.block_ret (.then_ret ?_)))
    refine AK.add' 0 (.deep nilV []) rfl (fun R => RdK.nil R) (fun l2 hs2 hm2 => ?_)
    refine AK.retG [.cell 4 181] rfl (.cons (.cell ag181 rfl bsp rfl rfl) (.nil)) (fun w hw => ⟨_, _, _, ?_, rfl, Ret.of (hw.pick [0] (by decide) rfl rfl)⟩)
    obtain rfl := dervE_let hd hc1
    rw [if_pos hc2]
    exact ⟨nilV, nilV, l2, rfl, nilSl, nilSl, rfl, fun y hy => hs2 _ (h2.sub y hy), hm2, hm2, rfl⟩
   ·refine .skip ?_
    refine AK.then_ (hK8 _ ?_)
    refine .sr fun _ hK11 => ?_
    refine .v (.loadBoxG ag65 rfl bsp rfl rfl) (.v (.fieldAddr fd65_1 rfl) (.v (.loadBox on3 rfl bsp rfl) ?_))
    refine .v (.build (parts := [(0, .const (.int .i64 3)), (1, .tmp 28)]) (cs := #[.int .i64 3, .int .i64 e.lt, .slice none 0 0]) rfl (by kernel_rfl)) ?_
    refine .v (.build (parts := [(0, .tmp 26), (1, .tmp 29), (2, .const (.bool false))]) (cs := #[.int .i64 emptyE.op, .int .i64 emptyE.lt, nilV, .int .i64 (Ex.mk 3 e.lt []).op, .int .i64 (Ex.mk 3 e.lt []).lt, nilV, .bool false]) rfl (by kernel_rfl)) ?_
    refine AK.storeBox 3 (us := [.int .i64 emptyE.op, .int .i64 emptyE.lt, nilV, .int .i64 (Ex.mk 3 e.lt []).op, .int .i64 (Ex.mk 3 e.lt []).lt, nilV, .bool false]) (cs' := [.int .i64 emptyE.op, .int .i64 emptyE.lt, nilV, .int .i64 (Ex.mk 3 e.lt []).op, .int .i64 (Ex.mk 3 e.lt []).lt, nilV, .bool false]) rfl sz181 rfl rfl rfl rfl oneP (leb rfl) rfl trivial ?_
    refine .nt hK11 (.ret (.block_ret (.then_ret ?_)))
    refine AK.add' 0 (.deep nilV []) rfl (fun R => RdK.nil R) (fun l2 hs2 hm2 => ?_)
    refine AK.retG [.cell 4 181] rfl (.cons (.cell ag181 rfl bsp rfl rfl) (.nil)) (fun w hw => ⟨_, _, _, ?_, rfl, Ret.of (hw.pick [0] (by decide) rfl rfl)⟩)
    obtain rfl := dervE_let hd hc1
    rw [if_neg hc2]
    exact ⟨nilV, nilV, l2, rfl, nilSl, nilSl, rfl, fun y hy => hs2 _ (h2.sub y hy), hm2, hm2, rfl⟩
  ·refine .seq fun _ hK12 => ?_
   refine .sr fun _ hK13 => ?_
   refine .v (.eql rfl rfl) (.as rfl (.nt hK13 ?_))
   refine AK.condD rfl (fun hc3 => ?_) (fun hc3 => ?_)
   ·refine .skip ?_
    refine AK.then_ (hK12 _ ?_)
    refine AK.cond_t rfl (decide_eq_true hc3) ?_
    refine .sr fun _ hK14 => ?_
    refine .v (.loadBoxG ag183 rfl bsp rfl rfl) (.v (.loadBoxG ag65 rfl bsp rfl rfl) ?_)
    refine AK.callN 0 rfl co153 rfl (fun w Fs hw hh hfr hal => s_boolean a nm e (by omega) ih w (Fs 0) B l1 (hB.later hfr hal 0) (hh.at_ 0 _ rfl) s (h2.sub _ hm) d hd) trivial rfl ?_
    rintro r A o ⟨sb, sf, l2, rfl, ssb, ssf, rfl, hs2, hmb, hmf, rfl⟩
    refine AK.storeBox 3 (us := [.int .i64 d.1.op, .int .i64 d.1.lt, sb, .int .i64 d.2.1.op, .int .i64 d.2.1.lt, sf, .bool d.2.2]) (cs' := [.int .i64 d.1.op, .int .i64 d.1.lt, sb, .int .i64 d.2.1.op, .int .i64 d.2.1.lt, sf, .bool d.2.2]) rfl sz181 rfl rfl rfl rfl oneP (leb rfl) rfl trivial ?_
    refine .nt hK14 (.ret (.block_ret (.then_ret ?_)))
    refine AK.retG [.cell 4 181] rfl (.cons (.cell ag181 rfl bsp rfl rfl) (.nil)) (fun w hw => ⟨_, _, _, ?_, rfl, Ret.of (hw.pick [0] (by decide) rfl rfl)⟩)
    exact ⟨sb, sf, l2, rfl, ssb, ssf, rfl, fun y hy => hs2 _ (h2.sub y hy), hmb, hmf, rfl⟩
   ·refine .sr fun _ hK15 => ?_
    refine .v (.eql rfl rfl) (.as rfl (.nt hK15 ?_))
    refine AK.condD rfl (fun hc4 => ?_) (fun hc4 => ?_)
    ·refine .skip ?_
     refine AK.then_ (hK12 _ ?_)
     refine AK.cond_t rfl (decide_eq_true hc4) ?_
     refine .sr fun _ hK16 => ?_
     refine .v (.loadBoxG ag183 rfl bsp rfl rfl) (.v (.loadBoxG ag65 rfl bsp rfl rfl) ?_)
     refine AK.callN 0 rfl co153 rfl (fun w Fs hw hh hfr hal => s_boolean a nm e (by omega) ih w (Fs 0) B l1 (hB.later hfr hal 0) (hh.at_ 0 _ rfl) s (h2.sub _ hm) d hd) trivial rfl ?_
     rintro r A o ⟨sb, sf, l2, rfl, ssb, ssf, rfl, hs2, hmb, hmf, rfl⟩
     refine AK.storeBox 3 (us := [.int .i64 d.1.op, .int .i64 d.1.lt, sb, .int .i64 d.2.1.op, .int .i64 d.2.1.lt, sf, .bool d.2.2]) (cs' := [.int .i64 d.1.op, .int .i64 d.1.lt, sb, .int .i64 d.2.1.op, .int .i64 d.2.1.lt, sf, .bool d.2.2]) rfl sz181 rfl rfl rfl rfl oneP (leb rfl) rfl trivial ?_
     refine .nt hK16 (.ret (.block_ret (.then_ret ?_)))
     refine AK.retG [.cell 4 181] rfl (.cons (.cell ag181 rfl bsp rfl rfl) (.nil)) (fun w hw => ⟨_, _, _, ?_, rfl, Ret.of (hw.pick [0] (by decide) rfl rfl)⟩)
     exact ⟨sb, sf, l2, rfl, ssb, ssf, rfl, fun y hy => hs2 _ (h2.sub y hy), hmb, hmf, rfl⟩
    ·refine AK.region ?_
     refine .v (.eql rfl rfl) (.as rfl (.nt hK12 ?_))
     refine AK.condD rfl (fun hc5 => ?_) (fun hc5 => ?_)
     ·refine .sr fun _ hK17 => ?_
      refine .v (.loadBoxG ag183 rfl bsp rfl rfl) (.v (.loadBoxG ag65 rfl bsp rfl rfl) ?_)
      refine AK.callN 0 rfl co153 rfl (fun w Fs hw hh hfr hal => s_boolean a nm e (by omega) ih w (Fs 0) B l1 (hB.later hfr hal 0) (hh.at_ 0 _ rfl) s (h2.sub _ hm) d hd) trivial rfl ?_
      rintro r A o ⟨sb, sf, l2, rfl, ssb, ssf, rfl, hs2, hmb, hmf, rfl⟩
      refine AK.storeBox 3 (us := [.int .i64 d.1.op, .int .i64 d.1.lt, sb, .int .i64 d.2.1.op, .int .i64 d.2.1.lt, sf, .bool d.2.2]) (cs' := [.int .i64 d.1.op, .int .i64 d.1.lt, sb, .int .i64 d.2.1.op, .int .i64 d.2.1.lt, sf, .bool d.2.2]) rfl sz181 rfl rfl rfl rfl oneP (leb rfl) rfl trivial ?_
      refine .nt hK17 (.ret (.block_ret (.then_ret ?_)))
      refine AK.retG [.cell 4 181] rfl (.cons (.cell ag181 rfl bsp rfl rfl) (.nil)) (fun w hw => ⟨_, _, _, ?_, rfl, Ret.of (hw.pick [0] (by decide) rfl rfl)⟩)
      exact ⟨sb, sf, l2, rfl, ssb, ssf, rfl, fun y hy => hs2 _ (h2.sub y hy), hmb, hmf, rfl⟩
     ·refine .sr fun _ hK18 => ?_
      refine .v (.eql rfl rfl) (.as rfl (.nt hK18 ?_))
      refine AK.condD rfl (fun hc6 => ?_) (fun hc6 => ?_)
      ·obtain ⟨k0, s1, b, hk0l, hk0, hj1, hj2, rfl⟩ := dervE_star hd hc6
       have sk0 := h2.sls 0 hk0l
       refine .seq fun _ hK19 => ?_
       refine AK.joinK (X := Value × Value × List Itm × Nat) [(4, _)] (fun z => [(7, .pointer (some ⟨z.2.2.2, 0, none⟩))]) (fun z => [forest B z.2.2.1, box bx2 183 2 [.int .i64 a, .bool nm], box bx3 65 3 [.int .i64 e.op, .int .i64 e.lt, s], box bx4 181 7 [.int .i64 0, .int .i64 0, .slice none 0 0, .int .i64 0, .int .i64 0, .slice none 0 0, .bool false], box bx5 65 3 [.int .i64 emptyE.op, .int .i64 emptyE.lt, nilV], box bx6 65 3 [.int .i64 unitE.op, .int .i64 unitE.lt, nilV], box z.2.2.2 181 7 [.int .i64 k0.1.op, .int .i64 k0.1.lt, z.1, .int .i64 k0.2.1.op, .int .i64 k0.2.1.lt, z.2.1, .bool k0.2.2]]) (fun z => IsSl z.1 ∧ IsSl z.2.1 ∧ (∀ y ∈ l1, y ∈ z.2.2.1) ∧ Itm.deep z.1 k0.1.kids ∈ z.2.2.1 ∧ Itm.deep z.2.1 k0.2.1.kids ∈ z.2.2.1) slr (fun _ hJ => ?_) (fun z hg => ?_)
       ·try (conv => enter [2, 2]; simp only [nrm])
        refine AK.heldS [forest B l1, box bx2 183 2 [.int .i64 a, .bool nm], box bx3 65 3 [.int .i64 e.op, .int .i64 e.lt, s]] 7 (fun _ hw => by first | exact hw.pick [0, 1, 2] (by decide) rfl rfl | (have h := HW.forestLe 0 rfl hs2 (hw.pick [0, 1, 2] (by decide) rfl rfl); exact h)) mixed ?_
        refine HeldK.firstS (fun _ hw => by first | exact hw.pick [0, 1, 2] (by decide) rfl rfl | (have h := HW.forestLe 0 rfl hs2 (hw.pick [0, 1, 2] (by decide) rfl rfl); exact h)) 0 (fuel := 7) (listed' := (lb 8 1)) _ rfl krf krf rfl (Yl.loadBoxG ag183 rfl bsp rfl rfl) trivial rfl ?_
        refine HeldK.firstS (fun _ hw => by first | exact hw.pick [0, 1, 2] (by decide) rfl rfl | (have h := HW.forestLe 0 rfl hs2 (hw.pick [0, 1, 2] (by decide) rfl rfl); exact h)) 1 (fuel := 6) (listed' := (lb 8 3)) _ rfl krf krf rfl (Yl.fieldAddr fd65_2 rfl) trivial rfl ?_
        refine HeldK.firstS (fun _ hw => by first | exact hw.pick [0, 1, 2] (by decide) rfl rfl | (have h := HW.forestLe 0 rfl hs2 (hw.pick [0, 1, 2] (by decide) rfl rfl); exact h)) 2 (fuel := 5) (listed' := (lb 8 7)) _ rfl krf krf rfl (Yl.loadBox on63 rfl bsp rfl) trivial rfl ?_
        refine HeldK.firstS (fun _ hw => by first | exact hw.pick [0, 1, 2] (by decide) rfl rfl | (have h := HW.forestLe 0 rfl hs2 (hw.pick [0, 1, 2] (by decide) rfl rfl); exact h)) 3 (fuel := 4) (listed' := (lb 8 15)) _ rfl krf krf rfl (Yl.idxN (k := 0) sl63 rfl rfl (by first | exact rdp | exact RdS.tree hB 0 rfl h2.rw) (by decide) (by omega)) trivial rfl ?_
        refine HeldK.firstS (fun _ hw => by first | exact hw.pick [0, 1, 2] (by decide) rfl rfl | (have h := HW.forestLe 0 rfl hs2 (hw.pick [0, 1, 2] (by decide) rfl rfl); exact h)) 4 (fuel := 3) (listed' := (lb 8 31)) _ rfl krf krf rfl (Yl.loadE ag65 rfl (by first | exact rdp | exact RdS.tree hB 0 rfl h2.rw) h2.len rfl (by omega)) trivial rfl ?_
        refine HeldK.two 5 6 (fuel := 2) (listed1 := (lb 8 63)) (listed2 := (lb 8 95)) krf rfl rfl krf krf ?_ ?_
        ·refine AK.callN 0 rfl co120 rfl (fun w Fs hw hh hfr hal => ih 0 hk0l w (Fs 0) B l1 (hB.later hfr hal 0) (hh.at_ 0 _ rfl) _ (h2.kid 0 hk0l) k0 hk0) trivial rfl ?_
         rintro r A o ⟨sb0, sf0, l2, rfl, ssb0, ssf0, rfl, hs2, hmb0, hmf0, rfl⟩
         refine .nil ?_
         try (conv => enter [2, 2]; simp only [nrm])
         refine HeldK.backS (fun _ hw => by first | exact hw.pick [0, 1, 2] (by decide) rfl rfl | (have h := HW.forestLe 0 rfl hs2 (hw.pick [0, 1, 2] (by decide) rfl rfl); exact h)) ?_
         refine HeldK.one 6 (fuel := 1) (listed' := (lb 8 127)) krf rfl krf ?_
         refine AK.alloc el181 rfl rfl trivial rfl (fun bx7 => ?_)
         refine .nil ?_
         try (conv => enter [2, 2]; simp only [nrm])
         refine HeldK.backS (fun _ hw => by first | exact hw.pick [0, 1, 2] (by decide) rfl rfl | (have h := HW.forestLe 0 rfl hs2 (hw.pick [0, 1, 2] (by decide) rfl rfl); exact h)) ?_
         refine HeldK.one 7 (fuel := 0) (listed' := (lb 8 255)) krf rfl krf ?_
         refine AK.storeBox 6 (us := [.int .i64 k0.1.op, .int .i64 k0.1.lt, sb0, .int .i64 k0.2.1.op, .int .i64 k0.2.1.lt, sf0, .bool k0.2.2]) (cs' := [.int .i64 k0.1.op, .int .i64 k0.1.lt, sb0, .int .i64 k0.2.1.op, .int .i64 k0.2.1.lt, sf0, .bool k0.2.2]) rfl sz181 rfl rfl rfl rfl oneP (leb rfl) rfl trivial ?_
         refine .nil ?_
         try (conv => enter [2, 2]; simp only [nrm])
         refine HeldK.backN 8 krf rfl krf ?_
         refine .nil ?_
         refine AK.fromQn ?_
         exact hJ _ _ ((sb0, sf0, l2, bx7)) ⟨ssb0, ssf0, hs2, hmb0, hmf0⟩ (slr) (fun w hw => by first | exact hw.pickLe [0, 1, 2, 3, 4, 5, 6] (by decide) pkl)
        ·refine AK.alloc el181 rfl rfl trivial rfl (fun bx7 => ?_)
         refine .nil ?_
         try (conv => enter [2, 2]; simp only [nrm])
         refine HeldK.backS (fun _ hw => by first | exact hw.pick [0, 1, 2] (by decide) rfl rfl | (have h := HW.forestLe 0 rfl hs2 (hw.pick [0, 1, 2] (by decide) rfl rfl); exact h)) ?_
         refine HeldK.one 5 (fuel := 1) (listed' := (lb 8 127)) krf rfl krf ?_
         refine AK.callN 0 rfl co120 rfl (fun w Fs hw hh hfr hal => ih 0 hk0l w (Fs 0) B l1 (hB.later hfr hal 0) (hh.at_ 0 _ rfl) _ (h2.kid 0 hk0l) k0 hk0) trivial rfl ?_
         rintro r A o ⟨sb0, sf0, l2, rfl, ssb0, ssf0, rfl, hs2, hmb0, hmf0, rfl⟩
         refine .nil ?_
         try (conv => enter [2, 2]; simp only [nrm])
         refine HeldK.backS (fun _ hw => by first | exact hw.pick [0, 1, 2] (by decide) rfl rfl | (have h := HW.forestLe 0 rfl hs2 (hw.pick [0, 1, 2] (by decide) rfl rfl); exact h)) ?_
         refine HeldK.one 7 (fuel := 0) (listed' := (lb 8 255)) krf rfl krf ?_
         refine AK.storeBox 6 (us := [.int .i64 k0.1.op, .int .i64 k0.1.lt, sb0, .int .i64 k0.2.1.op, .int .i64 k0.2.1.lt, sf0, .bool k0.2.2]) (cs' := [.int .i64 k0.1.op, .int .i64 k0.1.lt, sb0, .int .i64 k0.2.1.op, .int .i64 k0.2.1.lt, sf0, .bool k0.2.2]) rfl sz181 rfl rfl rfl rfl oneP (leb rfl) rfl trivial ?_
         refine .nil ?_
         try (conv => enter [2, 2]; simp only [nrm])
         refine HeldK.backN 8 krf rfl krf ?_
         refine .nil ?_
         refine AK.fromQn ?_
         exact hJ _ _ ((sb0, sf0, l2, bx7)) ⟨ssb0, ssf0, hs2, hmb0, hmf0⟩ (slr) (fun w hw => by first | exact hw.pickLe [0, 1, 2, 3, 4, 5, 6] (by decide) pkl)
       ·have sz1 := hg.1
        have sz2 := hg.2.1
        refine AK.then_ (hK19 _ ?_)
        refine .sr fun _ hK20 => ?_
        refine .v (.fieldAddr fd181_1 rfl) (.v (.loadBoxG ag65 rfl bsp rfl rfl) ?_)
        refine AK.lit (xs := [.tmp 47]) sl63 el65 rfl rfl rfl (by simp [Value.cells]) (by decide) (by decide) trivial rfl (fun lv => ?_)
        refine AK.close' 0 7 [k0.2.1] [z.2.1] (by decide) rfl rfl rfl rfl rfl (one_deep hg.2.2.2.2) (fun l3 hs3 hm3 hr3 => ?_)
        refine AK.callN 0 rfl co118 rfl (fun w Fs hw hh hfr hal => s_join w (Fs 0) B l3 (hB.later hfr hal 0) (hh.at_ 0 _ rfl) 7 _ _ hm3 s1 hj1) trivial rfl ?_
        rintro r A o ⟨sf, l4, rfl, ssf, rfl, hs4, hm4, rfl⟩
        refine AK.alloc el65 rfl rfl trivial rfl (fun bx8 => ?_)
        refine AK.storeBox 8 (us := [.int .i64 s1.op, .int .i64 s1.lt, sf]) (cs' := [.int .i64 s1.op, .int .i64 s1.lt, sf]) rfl sz65 rfl rfl rfl rfl oneP (leb rfl) rfl trivial ?_
        refine .nt hK20 ?_
        refine .seq fun _ hK21 => ?_
        try (conv => enter [2, 2]; simp only [nrm])
        refine AK.heldS _ 7 (fun _ hw => hw.pick [6, 8] (by decide) rfl rfl) mixed ?_
        refine HeldK.firstS (fun _ hw => hw.pick [6, 8] (by decide) rfl rfl) 0 (fuel := 7) (listed' := (lb 8 1)) _ rfl krf krf rfl (Yl.fieldAddr fd181_0 rfl) trivial rfl ?_
        refine HeldK.firstS (fun _ hw => hw.pick [6, 8] (by decide) rfl rfl) 1 (fuel := 6) (listed' := (lb 8 3)) _ rfl krf krf rfl (Yl.loadBoxG ag65 rfl bsp rfl rfl) trivial rfl ?_
        refine HeldK.firstS (fun _ hw => hw.pick [6, 8] (by decide) rfl rfl) 2 (fuel := 5) (listed' := (lb 8 7)) _ rfl krf krf rfl (Yl.loadBoxG ag65 rfl bsp rfl rfl) trivial rfl ?_
        refine HeldK.firstS (fun _ hw => hw.pick [6, 8] (by decide) rfl rfl) 5 (fuel := 4) (listed' := (lb 8 39)) _ rfl krf krf rfl (Yl.loadBoxG ag65 rfl bsp rfl rfl) trivial rfl ?_
        refine HeldK.one 3 (fuel := 3) (listed' := (lb 8 47)) krf rfl krf ?_
        refine AK.lit (xs := [.tmp 51, .tmp 52]) sl63 el65 rfl rfl rfl (by simp [Value.cells]) (by decide) (by decide) trivial rfl (fun lw => ?_)
        refine .nil ?_
        try (conv => enter [2, 2]; simp only [nrm])
        refine HeldK.backS (fun _ hw => hw.pick [6, 8] (by decide) rfl rfl) ?_
        refine HeldK.one 4 (fuel := 2) (listed' := (lb 8 63)) krf rfl krf ?_
        refine AK.close' 0 9 [k0.1, s1] [z.1, sf] (by decide) rfl rfl rfl rfl rfl (two_deep (hs4 _ (hs3 _ hg.2.2.2.1)) hm4) (fun l5 hs5 hm5 hr5 => ?_)
        refine AK.callN 0 rfl co118 rfl (fun w Fs hw hh hfr hal => s_join w (Fs 0) B l5 (hB.later hfr hal 0) (hh.at_ 0 _ rfl) 5 _ _ hm5 b hj2) trivial rfl ?_
        rintro r A o ⟨sb, l6, rfl, ssb, rfl, hs6, hm6, rfl⟩
        refine .nil ?_
        try (conv => enter [2, 2]; simp only [nrm])
        refine HeldK.backS (fun _ hw => hw.pick [6, 8] (by decide) rfl rfl) ?_
        refine HeldK.firstS (fun _ hw => hw.pick [6, 8] (by decide) rfl rfl) 6 (fuel := 1) (listed' := (lb 8 127)) _ rfl krf krf rfl (Yl.build (parts := [(0, .tmp 54), (1, .tmp 55), (2, .const (.bool true))]) (cs := #[.int .i64 b.op, .int .i64 b.lt, sb, .int .i64 s1.op, .int .i64 s1.lt, sf, .bool true]) rfl (by obtain ⟨_, _, _, rfl⟩ := ssb; obtain ⟨_, _, _, rfl⟩ := ssf; kernel_rfl)) trivial rfl ?_
        refine HeldK.one 7 (fuel := 0) (listed' := (lb 8 255)) krf rfl krf ?_
        refine AK.storeBox 3 (us := [.int .i64 b.op, .int .i64 b.lt, sb, .int .i64 s1.op, .int .i64 s1.lt, sf, .bool true]) (cs' := [.int .i64 b.op, .int .i64 b.lt, sb, .int .i64 s1.op, .int .i64 s1.lt, sf, .bool true]) rfl sz181 rfl rfl rfl rfl oneP (leb rfl) rfl trivial ?_
        refine .nil ?_
        try (conv => enter [2, 2]; simp only [nrm])
        refine HeldK.backN 8 krf rfl krf ?_
        refine .nil ?_
        refine AK.fromQn ?_
        refine AK.then_ (hK21 _ ?_)
        refine .ret (.block_ret (.then_ret ?_))
        refine AK.retG [.cell 4 181] rfl (.cons (.cell ag181 rfl bsp rfl rfl) (.nil)) (fun w hw => ⟨_, _, _, ?_, rfl, Ret.of (hw.pick [0] (by decide) rfl rfl)⟩)
        exact ⟨sb, sf, l6, rfl, ssb, ssf, rfl, fun y hy => hs6 _ (hs5 _ (hs4 _ (hs3 _ (hg.2.2.1 _ (h2.sub y hy))))), hm6, hs6 _ (hs5 _ hm4), rfl⟩
      ·refine .sr fun _ hK22 => ?_
       refine .v (.eql rfl rfl) (.as rfl (.nt hK22 ?_))
       refine AK.condD rfl (fun hc7 => ?_) (fun hc7 => ?_)
       ·refine .sr fun _ hK23 => ?_
        refine .v (.loadBoxG ag183 rfl bsp rfl rfl) (.v (.loadBoxG ag65 rfl bsp rfl rfl) ?_)
        refine AK.callN 0 rfl co154 rfl (fun w Fs hw hh hfr hal => s_dconcat a nm e (hc7) ih w (Fs 0) B l1 (hB.later hfr hal 0) (hh.at_ 0 _ rfl) s (h2.sub _ hm) d hd) trivial rfl ?_
        rintro r A o ⟨sb, sf, l2, rfl, ssb, ssf, rfl, hs2, hmb, hmf, rfl⟩
        refine AK.storeBox 3 (us := [.int .i64 d.1.op, .int .i64 d.1.lt, sb, .int .i64 d.2.1.op, .int .i64 d.2.1.lt, sf, .bool d.2.2]) (cs' := [.int .i64 d.1.op, .int .i64 d.1.lt, sb, .int .i64 d.2.1.op, .int .i64 d.2.1.lt, sf, .bool d.2.2]) rfl sz181 rfl rfl rfl rfl oneP (leb rfl) rfl trivial ?_
        refine .nt hK23 (.ret (.block_ret (.then_ret ?_)))
        refine AK.retG [.cell 4 181] rfl (.cons (.cell ag181 rfl bsp rfl rfl) (.nil)) (fun w hw => ⟨_, _, _, ?_, rfl, Ret.of (hw.pick [0] (by decide) rfl rfl)⟩)
        exact ⟨sb, sf, l2, rfl, ssb, ssf, rfl, fun y hy => hs2 _ (h2.sub y hy), hmb, hmf, rfl⟩
       ·refine .skip (.block_normal ?_)
        refine AK.then_ (hK3 _ ?_)
        refine .sr fun _ hK24 => ?_
        refine .v (.loadBoxG ag65 rfl bsp rfl rfl) (.v (.loadBoxG ag65 rfl bsp rfl rfl) ?_)
        refine .v (.build (parts := [(0, .tmp 62), (1, .tmp 63), (2, .const (.bool false))]) (cs := #[.int .i64 emptyE.op, .int .i64 emptyE.lt, nilV, .int .i64 emptyE.op, .int .i64 emptyE.lt, nilV, .bool false]) rfl (by kernel_rfl)) ?_
        refine AK.storeBox 3 (us := [.int .i64 emptyE.op, .int .i64 emptyE.lt, nilV, .int .i64 emptyE.op, .int .i64 emptyE.lt, nilV, .bool false]) (cs' := [.int .i64 emptyE.op, .int .i64 emptyE.lt, nilV, .int .i64 emptyE.op, .int .i64 emptyE.lt, nilV, .bool false]) rfl sz181 rfl rfl rfl rfl oneP (leb rfl) rfl trivial ?_
        refine .nt hK24 (.ret ?_)
        refine AK.add' 0 (.deep nilV []) rfl (fun R => RdK.nil R) (fun l2 hs2 hm2 => ?_)
        refine AK.retG [.cell 4 181] rfl (.cons (.cell ag181 rfl bsp rfl rfl) (.nil)) (fun w hw => ⟨_, _, _, ?_, rfl, Ret.of (hw.pick [0] (by decide) rfl rfl)⟩)
        obtain rfl := dervE_rest hd (by omega) (by omega) (by omega) (by omega) (by omega) (by omega) (by omega)
        exact ⟨nilV, nilV, l2, rfl, nilSl, nilSl, rfl, fun y hy => hs2 _ (h2.sub y hy), hm2, hm2, rfl⟩

theorem s_der (a : Int) (nm : Bool) (e : Ex) : DerS a nm e := Ex.ind (P := DerS a nm) (fun e ih w F B l hB hA s hm d hd => s_der_step a nm e ih w F B l hB hA s hm d hd) e
set_option maxHeartbeats 800000 in
theorem s_limited (w : World) (d : Dv) (sb sf : Value) (ssb : IsSl sb) (h : RdK (cellR (fun _ => False) w) sb d.1.kids) : CallS Tryz.prog 119 [.agg #[.int .i64 d.1.op, .int .i64 d.1.lt, sb, .int .i64 d.2.1.op, .int .i64 d.2.1.lt, sf, .bool d.2.2]] w (fun r o => r = .tuple #[.agg #[.int .i64 (limE d).1.op, .int .i64 (limE d).1.lt, limS d sb], .int .i64 (limE d).2] ∧ o = []) := by
 refine spec_of Tryz.func119 rfl (leb rfl) ?_
 refine .sr fun _ hK1 => ?_
 refine AK.box_ (E := 181) (cs := [.int .i64 d.1.op, .int .i64 d.1.lt, sb, .int .i64 d.2.1.op, .int .i64 d.2.1.lt, sf, .bool d.2.2]) rfl rfl rfl trivial rfl (fun bx1 => ?_)
 refine AK.alloc el65 rfl rfl trivial rfl (fun bx2 => ?_)
 refine .as rfl (.nt hK1 ?_)
 refine .seq fun _ hK2 => ?_
 refine .sr fun _ hK3 => ?_
 refine .v (.fieldAddr fd181_0 rfl) (.v (.loadBoxG ag65 rfl bsp rfl rfl) ?_)
 refine AK.call co57 rfl (fun w hw => s_valid w d.1 sb 6 (h.at hw)) trivial rfl ?_
 rintro r o ⟨rfl, rfl⟩
 refine .v (.neq rfl rfl) (.nt hK3 ?_)
 refine AK.condNe rfl (fun hc0 => ?_) (fun hc0 => ?_)
 ·refine .sr fun _ hK4 => ?_
  refine .v (.build (parts := []) (cs := #[.int .i64 0, .int .i64 0, .slice none 0 0]) rfl (by kernel_rfl)) ?_
  refine AK.storeBox 1 (us := [.int .i64 e0.op, .int .i64 e0.lt, nilV]) (cs' := [.int .i64 e0.op, .int .i64 e0.lt, nilV]) rfl sz65 rfl rfl rfl rfl oneP (leb rfl) rfl trivial ?_
  refine .as rfl (.nt hK4 (.ret (.then_ret ?_)))
  refine AK.retG [.cell 2 65, .tmp 3] rfl (.cons (.cell ag65 rfl bsp rfl rfl) (.cons (.tmp rfl) (.nil))) (fun w hw => ⟨_, _, ?_, rfl, Ret.of (hw.pick [] (by decide) rfl rfl)⟩)
  rw [show limE d = (e0, 3) from if_neg hc0, show limS d sb = nilV from if_neg hc0]
  exact ⟨rfl, rfl⟩
 ·refine .skip ?_
  refine AK.then_ (hK2 _ ?_)
  refine .sr fun _ hK5 => ?_
  refine .v (.fieldAddr fd181_0 rfl) (.v (.loadBoxG ag65 rfl bsp rfl rfl) ?_)
  refine AK.storeBox 1 (us := [.int .i64 d.1.op, .int .i64 d.1.lt, sb]) (cs' := [.int .i64 d.1.op, .int .i64 d.1.lt, sb]) rfl sz65 rfl rfl rfl rfl oneP (leb rfl) rfl trivial ?_
  refine .as rfl (.nt hK5 (.ret ?_))
  refine AK.retG [.cell 2 65, .tmp 3] rfl (.cons (.cell ag65 rfl bsp rfl rfl) (.cons (.tmp rfl) (.nil))) (fun w hw => ⟨_, _, ?_, rfl, Ret.of (hw.pick [] (by decide) rfl rfl)⟩)
  rw [show limE d = (d.1, 0) from if_pos (by omega), show limS d sb = sb from if_pos (by omega)]
  exact ⟨rfl, rfl⟩

set_option maxHeartbeats 800000 in
theorem s_byletter (a : Int) (e : Ex) (w : World) (F : Nat → Prop) (B : Bs) (l : List Itm) (hB : BsOk B w F) (hA : (forest B l).holds w F) (s : Value) (hm : Itm.deep s e.kids ∈ l) (p : Ex × Int) (hp : letE e a = some p) : CallM Tryz.prog 97 [.agg #[.int .i64 e.op, .int .i64 e.lt, s], .int .i64 a] w F (fun r A o => ∃ sp l', r = .tuple #[.agg #[.int .i64 p.1.op, .int .i64 p.1.lt, sp], .int .i64 p.2] ∧ IsSl sp ∧ A = forest B l' ∧ (∀ x ∈ l, x ∈ l') ∧ Itm.deep sp p.1.kids ∈ l' ∧ o = []) := by
 refine specM_of Tryz.func97 rfl (leb rfl) hA ?_
 obtain ⟨d, hd, rfl⟩ := letE_some hp
 refine .sr fun _ hK1 => ?_
 refine AK.box_ (E := 65) (cs := [.int .i64 e.op, .int .i64 e.lt, s]) rfl rfl rfl trivial rfl (fun bx2 => ?_)
 refine AK.alloc el65 rfl rfl trivial rfl (fun bx4 => ?_)
 refine .as rfl (.nt hK1 ?_)
 refine .sr fun _ hK2 => ?_
 refine .mv rfl ?_
 refine .v (.build (parts := [(0, .tmp 6), (1, .const (.bool true))]) (cs := #[.int .i64 a, .bool true]) rfl (by kernel_rfl)) ?_
 refine .v (.loadBoxG ag65 rfl bsp rfl rfl) ?_
 refine AK.callN 0 rfl co120 rfl (fun w Fs hw hh hfr hal => s_der a true e w (Fs 0) B l (hB.later hfr hal 0) (hh.at_ 0 _ rfl) s hm d hd) trivial rfl ?_
 rintro r A o ⟨sb, sf, l2, rfl, ssb, ssf, rfl, hs2, hmb, hmf, rfl⟩
 refine AK.call co119 rfl (fun w hw => s_limited w d sb sf ssb (hw.kidR hB 0 rfl hmb)) trivial rfl ?_
 rintro r o ⟨rfl, rfl⟩
 have ssl : IsSl (limS d sb) := by unfold limS; split; exact ssb; exact nilSl
 refine .v (.extract rfl rfl) (.v (.extract rfl rfl) ?_)
 refine AK.storeBox 2 (us := [.int .i64 (limE d).1.op, .int .i64 (limE d).1.lt, limS d sb]) (cs' := [.int .i64 (limE d).1.op, .int .i64 (limE d).1.lt, limS d sb]) rfl sz65 rfl rfl rfl rfl oneP (leb rfl) rfl trivial ?_
 refine .as rfl (.nt hK2 (.ret ?_))
 refine AK.add' 0 (.deep nilV []) rfl (fun R => RdK.nil R) (fun l3 hs3 hm3 => ?_)
 refine AK.retG [.cell 4 65, .tmp 5] rfl (.cons (.cell ag65 rfl bsp rfl rfl) (.cons (.tmp rfl) (.nil))) (fun w hw => ⟨_, _, _, ?_, rfl, Ret.of (hw.pick [0] (by decide) rfl rfl)⟩)
 refine ⟨limS d sb, l3, rfl, ssl, rfl, fun x hx => hs3 _ (hs2 x hx), ?_, rfl⟩
 unfold limE limS
 split
 ·exact hs3 _ hmb
 ·exact hm3

end Go.Proofs.YtdnhiinakhmhgaaGreatDoor
