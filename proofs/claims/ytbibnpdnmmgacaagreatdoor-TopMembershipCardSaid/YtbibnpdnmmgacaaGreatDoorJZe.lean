import Derived.Test.YtbibnpdnmmgacaaGreatDoorJZd
import Derived.Test.YtbibnpdnmmgacaaGreatDoorJZc
import Derived.Test.YtbibnpdnmmgacaaGreatDoorJZb
import Derived.ChangeKeysEq
import Derived.Laws.IdiomCopy
set_option linter.unusedVariables false
set_option linter.unusedSimpArgs false
set_option maxRecDepth 100000
namespace Go.Proofs.YtbibnpdnmmgacaaGreatDoor
open Go.Sx Go.RowKit
theorem s_may (w:World) (n:Int):CallS Tryz.prog 35 [.int .i64 n] w (fun r o=>r = .bool (decide (1≤n∧n≤6))∧o=[]):=by
 refine spec_of Tryz.func35 rfl (leb rfl) ?_
 refine .sr fun _ hK1=>?_
 refine .as rfl (.nt hK1 ?_)
 refine .sr fun _ hK2=>?_
 refine .mv rfl (.v (.geq rfl rfl) (.mv rfl ?_))
 refine AK.splitB (g:=5) rfl (fun hg_1_2=>?_) (fun hg_1_2=>?_)
 ·have hg_1_2':=hg_1_2
  try simp only [bs] at hg_1_2'
  refine AK.val _ (Yl.move rfl) ⟨_,rfl,gB hg_1_2⟩ rfl ?_
  refine AK.val _ (Yl.leq rfl rfl) ⟨_,rfl,gB hg_1_2⟩ rfl ?_
  refine .v (.pickT rfl (hg_1_2) rfl) (.as rfl (.nt hK2 (.ret ?_)))
  refine AK.ret1 rfl rfl (fun w hw=>⟨_,_,?_,rfl,Ret.of (hw.pick [] (by decide) rfl rfl)⟩)
  refine ⟨congrArg Value.bool ?_,rfl⟩
  first | (symm;rw [decide_eq_false_iff_not];omega) | (apply decide_eq_decide.2;omega)
 ·have hg_1_2':=hg_1_2
  try simp only [bs] at hg_1_2'
  refine AK.pass rfl rfl (hg_1_2) rfl ?_
  refine AK.pass rfl rfl (hg_1_2) rfl ?_
  refine .v (.pickF rfl (hg_1_2) rfl) (.as rfl (.nt hK2 (.ret ?_)))
  refine AK.ret1 rfl rfl (fun w hw=>⟨_,_,?_,rfl,Ret.of (hw.pick [] (by decide) rfl rfl)⟩)
  refine ⟨congrArg Value.bool ?_,rfl⟩
  first | (symm;rw [decide_eq_false_iff_not];omega) | (apply decide_eq_decide.2;omega)
theorem s_validate (w:World) (v:Value) (d:Dfa) (h:RdD (fun _=>False) w v d):CallS Tryz.prog 23 [v] w (fun r o=>r = .int .i64 (errV d)∧o=[]):=by
 have h0:=h
 obtain ⟨vF,vN,rfl,hF,hN⟩:=h
 obtain ⟨rs,hrl,hNr,hNi⟩:=hN
 have sF:=hF.sl
 have sN:=hNr.sl
 have hmf:=hF.le
 have hmn:=hNr.le
 unfold RdL at hF
 refine spec_of Tryz.func23 rfl (leb rfl) ?_
 refine .sr fun _ hK1=>?_
 refine AK.box_ (E:=32) (cs:=[.int .i64 d.L,.int .i64 d.s,vF,vN]) rfl rfl rfl trivial rfl (fun bx1=>?_)
 refine .as rfl (.nt hK1 ?_)
 refine .seq fun _ hK2=>?_
 refine .sr fun _ hK3=>?_
 refine .v (.fieldAddr fd32_0 rfl) (.v (.loadBox on3 rfl bsp rfl) (.v (.lss rfl rfl) (.mv rfl ?_)))
 refine AK.splitB (g:=11) rfl (fun hg_1_3=>?_) (fun hg_1_3=>?_)
 ·have hg_1_3':=hg_1_3
  try simp only [bs] at hg_1_3'
  refine AK.pass rfl rfl (hg_1_3) rfl ?_
  refine AK.pass rfl rfl (hg_1_3) rfl ?_
  refine AK.pass rfl rfl (hg_1_3) rfl ?_
  refine .v (.pickT rfl (hg_1_3) rfl) (.nt hK3 ?_)
  refine AK.cond_t rfl (rfl) ?_
  refine .sr fun _ hK4=>?_
  refine .as rfl (.nt hK4 (.ret (.then_ret ?_)))
  refine AK.ret1 rfl rfl (fun w hw=>⟨_,_,?_,rfl,Ret.of (hw.pick [] (by decide) rfl rfl)⟩)
  refine ⟨congrArg (Value.int .i64) ?_,rfl⟩;unfold errV;rw [if_pos (by omega)]
 ·have hg_1_3':=hg_1_3
  try simp only [bs] at hg_1_3'
  refine AK.val _ (Yl.fieldAddr fd32_0 rfl) ⟨_,rfl,gB hg_1_3⟩ rfl ?_
  refine AK.val _ (Yl.loadBox on3 rfl bsp rfl) ⟨_,rfl,gB hg_1_3⟩ rfl ?_
  refine AK.val _ (Yl.gtr rfl rfl) ⟨_,rfl,gB hg_1_3⟩ rfl ?_
  refine .v (.pickF rfl (hg_1_3) rfl) (.nt hK3 ?_)
  refine AK.condD rfl (fun hc0=>?_) (fun hc0=>?_)
  ·refine .sr fun _ hK5=>?_
   refine .as rfl (.nt hK5 (.ret (.then_ret ?_)))
   refine AK.ret1 rfl rfl (fun w hw=>⟨_,_,?_,rfl,Ret.of (hw.pick [] (by decide) rfl rfl)⟩)
   refine ⟨congrArg (Value.int .i64) ?_,rfl⟩;unfold errV;rw [if_pos (by omega)]
  ·refine .skip ?_
   refine AK.then_ (hK2 _ ?_)
   refine .sr fun _ hK6=>?_
   refine .v (.fieldAddr fd32_2 rfl) (.v (.loadBox on29 rfl bsp rfl) ?_)
   refine .v (.lenR sl29 rfl (by first | exact rdp | exact .arg (hNi k (by omega)))) ?_
   refine .as rfl (.nt hK6 ?_)
   refine .seq fun _ hK7=>?_
   refine .sr fun _ hK8=>?_
   refine .mv rfl (.v (.gtr rfl rfl) (.nt hK8 ?_))
   refine AK.condD rfl (fun hc1=>?_) (fun hc1=>?_)
   ·refine .sr fun _ hK9=>?_
    refine .as rfl (.nt hK9 (.ret (.then_ret ?_)))
    refine AK.ret1 rfl rfl (fun w hw=>⟨_,_,?_,rfl,Ret.of (hw.pick [] (by decide) rfl rfl)⟩)
    refine ⟨congrArg (Value.int .i64) ?_,rfl⟩;unfold errV;rw [if_neg (by omega),if_pos (by omega)]
   ·refine .skip ?_
    refine AK.then_ (hK7 _ ?_)
    refine .seq fun _ hK10=>?_
    refine .sr fun _ hK11=>?_
    refine .v (.fieldAddr fd32_3 rfl) (.v (.loadBox on30 rfl bsp rfl) ?_)
    refine .v (.lenR sl30 rfl (by first | exact rdp | exact .arg (hNi k (by omega)))) ?_
    refine .mv rfl (.v (.neq rfl rfl) (.mv rfl ?_))
    refine AK.splitB (g:=26) rfl (fun hg_6_5=>?_) (fun hg_6_5=>?_)
    ·have hg_6_5':=hg_6_5
     try simp only [bs] at hg_6_5'
     refine AK.pass rfl rfl (hg_6_5) rfl ?_
     refine AK.pass rfl rfl (hg_6_5) rfl ?_
     refine AK.pass rfl rfl (hg_6_5) rfl ?_
     refine .v (.pickT rfl (hg_6_5) rfl) (.mv rfl ?_)
     refine AK.pass rfl rfl rfl rfl ?_
     refine AK.pass rfl rfl rfl rfl ?_
     refine AK.pass rfl rfl rfl rfl ?_
     refine AK.pass rfl rfl rfl rfl ?_
     refine .v (.pickT rfl (rfl) rfl) (.nt hK11 ?_)
     refine AK.cond_t rfl (rfl) ?_
     refine .sr fun _ hK12=>?_
     refine .as rfl (.nt hK12 (.ret (.then_ret ?_)))
     refine AK.ret1 rfl rfl (fun w hw=>⟨_,_,?_,rfl,Ret.of (hw.pick [] (by decide) rfl rfl)⟩)
     refine ⟨congrArg (Value.int .i64) ?_,rfl⟩;unfold errV;rw [if_neg (by omega),if_neg (by omega),if_pos (by omega)]
    ·have hg_6_5':=hg_6_5
     try simp only [bs] at hg_6_5'
     refine AK.val _ (Yl.fieldAddr fd32_1 rfl) ⟨_,rfl,gB hg_6_5⟩ rfl ?_
     refine AK.val _ (Yl.loadBox on3 rfl bsp rfl) ⟨_,rfl,gB hg_6_5⟩ rfl ?_
     refine AK.val _ (Yl.lss rfl rfl) ⟨_,rfl,gB hg_6_5⟩ rfl ?_
     refine .v (.pickF rfl (hg_6_5) rfl) (.mv rfl ?_)
     refine AK.splitB (g:=31) rfl (fun hg_6_10=>?_) (fun hg_6_10=>?_)
     ·have hg_6_10':=hg_6_10
      try simp only [bs] at hg_6_10'
      refine AK.pass rfl rfl (hg_6_10) rfl ?_
      refine AK.pass rfl rfl (hg_6_10) rfl ?_
      refine AK.pass rfl rfl (hg_6_10) rfl ?_
      refine AK.pass rfl rfl (hg_6_10) rfl ?_
      refine .v (.pickT rfl (hg_6_10) rfl) (.nt hK11 ?_)
      refine AK.cond_t rfl (rfl) ?_
      refine .sr fun _ hK13=>?_
      refine .as rfl (.nt hK13 (.ret (.then_ret ?_)))
      refine AK.ret1 rfl rfl (fun w hw=>⟨_,_,?_,rfl,Ret.of (hw.pick [] (by decide) rfl rfl)⟩)
      refine ⟨congrArg (Value.int .i64) ?_,rfl⟩;unfold errV;rw [if_neg (by omega),if_neg (by omega),if_pos (by omega)]
     ·have hg_6_10':=hg_6_10
      try simp only [bs] at hg_6_10'
      refine AK.val _ (Yl.fieldAddr fd32_1 rfl) ⟨_,rfl,gB hg_6_10⟩ rfl ?_
      refine AK.val _ (Yl.loadBox on3 rfl bsp rfl) ⟨_,rfl,gB hg_6_10⟩ rfl ?_
      refine AK.val _ (Yl.move rfl) ⟨_,rfl,gB hg_6_10⟩ rfl ?_
      refine AK.val _ (Yl.geq rfl rfl) ⟨_,rfl,gB hg_6_10⟩ rfl ?_
      refine .v (.pickF rfl (hg_6_10) rfl) (.nt hK11 ?_)
      refine AK.condD rfl (fun hc2=>?_) (fun hc2=>?_)
      ·refine .sr fun _ hK14=>?_
       refine .as rfl (.nt hK14 (.ret (.then_ret ?_)))
       refine AK.ret1 rfl rfl (fun w hw=>⟨_,_,?_,rfl,Ret.of (hw.pick [] (by decide) rfl rfl)⟩)
       refine ⟨congrArg (Value.int .i64) ?_,rfl⟩;unfold errV;rw [if_neg (by omega),if_neg (by omega),if_pos (by omega)]
      ·refine .skip ?_
       refine AK.then_ (hK10 _ ?_)
       refine .seq fun _ hK15=>?_
       refine .sr fun _ hK16=>?_
       refine .v (.fieldAddr fd32_3 rfl) (.v (.loadBox on30 rfl bsp rfl) ?_)
       refine .v (.lenR sl30 rfl (by first | exact rdp | exact .arg (hNi k (by omega)))) ?_
       refine .mv rfl (.nt hK16 (.block ?_))
       refine AK.loopK (X:=Nat) [(1,_),(3,_),(38,_),(39,_)] (fun k=>[(40,.int .i64 (k:Int))]) (fun k=>[box bx1 32 4 [.int .i64 d.L,.int .i64 d.s,vF,vN]]) (fun k=>k≤d.nx.length∧(d.nx.take k).any (badRow d.fin.length d.L)=false) (fun k=>d.nx.length - k) (0) slr ?_ ?_ ?_ ?_
       ·exact ⟨Nat.zero_le _,rfl⟩
       ·exact slr
       ·exact fun w hw=>hw
       ·intro k hg0 _ hK17
        obtain ⟨hk,hg1⟩:=hg0
        have hrk:=fun hk1=>(hNi k hk1).le
        refine .sr fun _ hK18=>?_
        refine .v (.lss rfl rfl) (.nt hK18 ?_)
        refine .seq fun _ hK19=>?_
        refine AK.condD rfl (fun hc3=>?_) (fun hc3=>?_)
        ·refine .skip ?_
         refine AK.then_ (hK19 _ ?_)
         refine .seq fun _ hK20=>?_
         refine .block ?_
         refine .sr fun _ hK21=>?_
         first | refine .v (.iN sl30 rfl rfl (hr:=(by first | exact rdp | exact .arg (hNi k (by omega))))) ?_ | refine .v (.iK sl30 rfl rfl (hr:=(by first | exact rdp | exact .arg (hNi k (by omega))))) ?_
         refine .v (.loadV on67 rfl (by first | exact rdp | exact .arg (hNi k (by omega))) (by omega)) ?_
         refine .as rfl (.nt hK21 ?_)
         refine .seq fun _ hK22=>?_
         refine .sr fun _ hK23=>?_
         refine .mv rfl ?_
         refine .v (.lenR sl67 rfl (by first | exact rdp | exact .arg (hNi k (by omega)))) ?_
         refine .v (.fieldAddr fd32_0 rfl) (.v (.loadBox on3 rfl bsp rfl) (.v (.neq rfl rfl) (.nt hK23 ?_)))
         refine AK.condNe rfl (fun hc4=>?_) (fun hc4=>?_)
         ·refine .sr fun _ hK24=>?_
          refine .as rfl (.nt hK24 (.ret (.then_ret (.block_ret (.then_ret (.then_ret (.block_ret (.then_ret ?_))))))))
          refine AK.ret1 rfl rfl (fun w hw=>⟨_,_,?_,rfl,Ret.of (hw.pick [] (by decide) rfl rfl)⟩)
          refine ⟨congrArg (Value.int .i64) ?_,rfl⟩;unfold errV;rw [if_neg (by omega),if_neg (by omega),if_neg (by omega),if_pos (any_at _ [] (by omega:k<d.nx.length) ?_)]
          unfold badRow;rw [Bool.or_eq_true];exact .inl (decide_eq_true (by omega))
         ·refine .skip ?_
          refine AK.then_ (hK22 _ ?_)
          refine .sr fun _ hK25=>?_
          refine .mv rfl ?_
          refine .v (.lenR sl67 rfl (by first | exact rdp | exact .arg (hNi k (by omega)))) ?_
          refine .mv rfl (.nt hK25 (.block ?_))
          refine AK.loopK (X:=Nat) [(1,_),(3,_),(38,_),(39,_),(40,_),(49,_),(50,_)] (fun j=>[(51,.int .i64 (j:Int))]) (fun j=>[box bx1 32 4 [.int .i64 d.L,.int .i64 d.s,vF,vN]]) (fun j=>j≤(d.nx.getD k []).length∧((d.nx.getD k []).take j).any (badQ d.fin.length)=false) (fun j=>(d.nx.getD k []).length - j) (0) slr ?_ ?_ ?_ ?_
          ·exact ⟨Nat.zero_le _,rfl⟩
          ·exact slr
          ·exact fun w hw=>hw
          ·intro j hg1 _ hK26
           obtain ⟨hj,hg2⟩:=hg1
           refine .sr fun _ hK27=>?_
           refine .v (.lss rfl rfl) (.nt hK27 ?_)
           refine .seq fun _ hK28=>?_
           refine AK.condD rfl (fun hc5=>?_) (fun hc5=>?_)
           ·refine .skip ?_
            refine AK.then_ (hK28 _ ?_)
            refine .seq fun _ hK29=>?_
            refine .block ?_
            refine .sr fun _ hK30=>?_
            first | refine .v (.iN sl67 rfl rfl (hr:=(by first | exact rdp | exact .arg (hNi k (by omega))))) ?_ | refine .v (.iK sl67 rfl rfl (hr:=(by first | exact rdp | exact .arg (hNi k (by omega))))) ?_
            refine .v (.loadI on3 rfl (by first | exact rdp | exact .arg (hNi k (by omega))) (by omega)) ?_
            refine .as rfl (.nt hK30 ?_)
            refine .sr fun _ hK31=>?_
            refine .mv rfl (.v (.lss rfl rfl) (.mv rfl ?_))
            refine AK.splitB (g:=57) rfl (fun hg_16_2=>?_) (fun hg_16_2=>?_)
            ·have hg_16_2':=hg_16_2
             try simp only [bs] at hg_16_2'
             refine AK.pass rfl rfl (hg_16_2) rfl ?_
             refine AK.pass rfl rfl (hg_16_2) rfl ?_
             refine AK.pass rfl rfl (hg_16_2) rfl ?_
             refine .v (.pickT rfl (hg_16_2) rfl) (.nt hK31 ?_)
             refine AK.cond_t rfl (rfl) ?_
             refine .sr fun _ hK32=>?_
             refine .as rfl (.nt hK32 (.ret (.block_ret (.then_ret (.then_ret (.block_ret (.block_ret (.then_ret (.then_ret (.block_ret (.then_ret ?_)))))))))))
             refine AK.ret1 rfl rfl (fun w hw=>⟨_,_,?_,rfl,Ret.of (hw.pick [] (by decide) rfl rfl)⟩)
             refine ⟨congrArg (Value.int .i64) ?_,rfl⟩;unfold errV;rw [if_neg (by omega),if_neg (by omega),if_neg (by omega),if_pos (any_at _ [] (by omega:k<d.nx.length) ?_)]
             unfold badRow;rw [Bool.or_eq_true];refine .inr (any_at _ 0 (by omega:j<(d.nx.getD k []).length) ?_);unfold badQ;rw [Bool.or_eq_true,decide_eq_true_eq,decide_eq_true_eq];omega
            ·have hg_16_2':=hg_16_2
             try simp only [bs] at hg_16_2'
             refine AK.val _ (Yl.move rfl) ⟨_,rfl,gB hg_16_2⟩ rfl ?_
             refine AK.val _ (Yl.move rfl) ⟨_,rfl,gB hg_16_2⟩ rfl ?_
             refine AK.val _ (Yl.geq rfl rfl) ⟨_,rfl,gB hg_16_2⟩ rfl ?_
             refine .v (.pickF rfl (hg_16_2) rfl) (.nt hK31 ?_)
             refine AK.condD rfl (fun hc6=>?_) (fun hc6=>?_)
             ·refine .sr fun _ hK33=>?_
              refine .as rfl (.nt hK33 (.ret (.block_ret (.then_ret (.then_ret (.block_ret (.block_ret (.then_ret (.then_ret (.block_ret (.then_ret ?_)))))))))))
              refine AK.ret1 rfl rfl (fun w hw=>⟨_,_,?_,rfl,Ret.of (hw.pick [] (by decide) rfl rfl)⟩)
              refine ⟨congrArg (Value.int .i64) ?_,rfl⟩;unfold errV;rw [if_neg (by omega),if_neg (by omega),if_neg (by omega),if_pos (any_at _ [] (by omega:k<d.nx.length) ?_)]
              unfold badRow;rw [Bool.or_eq_true];refine .inr (any_at _ 0 (by omega:j<(d.nx.getD k []).length) ?_);unfold badQ;rw [Bool.or_eq_true,decide_eq_true_eq,decide_eq_true_eq];omega
             ·refine .skip (.block_normal ?_)
              refine AK.then_ (hK29 _ ?_)
              refine AK.region ?_
              refine .v (.add rfl rfl (by omega)) ?_
              refine .mv rfl (.nil ?_)
              refine AK.then_ (hK26 _ _ (j+1) ⟨by omega,any_take_succ _ 0 (by omega) hg2 (by unfold badQ;rw [Bool.or_eq_false_iff,decide_eq_false_iff_not,decide_eq_false_iff_not];omega)⟩ (by omega) (slr) (fun w hw=>hw))
           ·refine .exit (.then_exit (.then_exit (.block_exit (.block_normal ?_))))
            refine AK.then_ (hK20 _ ?_)
            refine AK.region ?_
            refine .v (.add rfl rfl (by omega)) ?_
            refine .mv rfl (.nil ?_)
            refine AK.then_ (hK17 _ _ (k+1) ⟨by omega,any_take_succ _ [] (by omega) hg1 (by unfold badRow;rw [show j=(d.nx.getD k []).length by omega,List.take_length] at hg2;rw [hg2,Bool.or_false];exact decide_eq_false (by omega))⟩ (by omega) (slr) (fun w hw=>hw))
        ·refine .exit (.then_exit (.then_exit (.block_exit ?_)))
         refine AK.then_ (hK15 _ ?_)
         refine .sr fun _ hK34=>?_
         refine .as rfl (.nt hK34 (.ret ?_))
         refine AK.ret1 rfl rfl (fun w hw=>⟨_,_,?_,rfl,Ret.of (hw.pick [] (by decide) rfl rfl)⟩)
         refine ⟨congrArg (Value.int .i64) ?_,rfl⟩;unfold errV;rw [if_neg (by omega),if_neg (by omega),if_neg (by omega),if_neg];rw [show k=d.nx.length by omega,List.take_length] at hg1;rw [hg1];exact Bool.false_ne_true
end Go.Proofs.YtbibnpdnmmgacaaGreatDoor
namespace Go.Proofs.YtbibnpdnmmgacaaGreatDoor
open Go.Sx Go.RowKit
theorem s_states (w:World) (x:Int) (hx:0≤x):CallS Tryz.prog 113 [.int .i64 x] w (fun r o=>r=uv (below x)∧o=[]):=by
 refine spec_of Tryz.func113 rfl (leb rfl) ?_
 refine .sr fun _ hK1=>?_
 refine .as rfl (.nt hK1 ?_)
 refine .sr fun _ hK2=>?_
 refine .mv rfl ?_
 refine .v (.shlU (a:=1) rfl rfl (by omega)) ?_
 refine .v (.subU (b:=1) rfl rfl) (.as rfl (.nt hK2 (.ret ?_)))
 refine AK.ret1 rfl rfl (fun w hw=>⟨_,_,?_,rfl,Ret.of (hw.pick [] (by decide) rfl rfl)⟩)
 exact ⟨rfl,rfl⟩
theorem s_points (w:World) (x:Int) (hx:0≤x):CallS Tryz.prog 115 [.int .i64 x] w (fun r o=>r=uv (below x)∧o=[]):=by
 refine spec_of Tryz.func115 rfl (leb rfl) ?_
 refine .sr fun _ hK1=>?_
 refine .as rfl (.nt hK1 ?_)
 refine .sr fun _ hK2=>?_
 refine .mv rfl ?_
 refine .v (.shlU (a:=1) rfl rfl (by omega)) ?_
 refine .v (.subU (b:=1) rfl rfl) (.as rfl (.nt hK2 (.ret ?_)))
 refine AK.ret1 rfl rfl (fun w hw=>⟨_,_,?_,rfl,Ret.of (hw.pick [] (by decide) rfl rfl)⟩)
 exact ⟨rfl,rfl⟩
theorem s_isnan (w:World) (x:Int):CallS Tryz.prog 165 [.int .i64 x] w (fun r o=>r = .bool false∧o=[]):=by
 refine spec_of Tryz.func165 rfl (leb rfl) ?_
 refine .sr fun _ hK1=>?_
 refine .as rfl (.nt hK1 ?_)
 refine .sr fun _ hK2=>?_
 refine .mv rfl (.mv rfl (.v (.neq rfl rfl) (.as rfl (.nt hK2 (.ret ?_)))))
 refine AK.ret1 rfl rfl (fun w hw=>⟨_,_,?_,rfl,Ret.of (hw.pick [] (by decide) rfl rfl)⟩)
 refine ⟨congrArg Value.bool ?_,rfl⟩
 simp
theorem s_cmpi (w:World) (x y:Int):CallS Tryz.prog 112 [.int .i64 x,.int .i64 y] w (fun r o=>r = .int .i64 (cmpI x y)∧o=[]):=by
 refine spec_of Tryz.func112 rfl (leb rfl) ?_
 refine .sr fun _ hK1=>?_
 refine .as rfl (.nt hK1 ?_)
 refine .sr fun _ hK2=>?_
 refine .mv rfl ?_
 refine AK.call co165 rfl (fun w hw=>s_isnan w x) trivial rfl ?_
 rintro r o ⟨rfl,rfl⟩
 refine .as rfl (.nt hK2 ?_)
 refine .sr fun _ hK3=>?_
 refine .mv rfl ?_
 refine AK.call co165 rfl (fun w hw=>s_isnan w y) trivial rfl ?_
 rintro r o ⟨rfl,rfl⟩
 refine .as rfl (.nt hK3 ?_)
 refine .seq fun _ hK4=>?_
 refine .sr fun _ hK5=>?_
 refine .mv rfl (.nt hK5 ?_)
 refine AK.cond_f rfl (rfl) ?_
 refine .skip ?_
 refine AK.then_ (hK4 _ ?_)
 refine .seq fun _ hK6=>?_
 refine .sr fun _ hK7=>?_
 refine .mv rfl (.nt hK7 ?_)
 refine AK.cond_f rfl (rfl) ?_
 refine .skip ?_
 refine AK.then_ (hK6 _ ?_)
 refine .seq fun _ hK8=>?_
 refine .sr fun _ hK9=>?_
 refine .mv rfl (.mv rfl (.v (.lss rfl rfl) (.nt hK9 ?_)))
 refine AK.condD rfl (fun hc3=>?_) (fun hc3=>?_)
 ·refine .sr fun _ hK10=>?_
  refine .as rfl (.nt hK10 (.ret (.then_ret ?_)))
  refine AK.ret1 rfl rfl (fun w hw=>⟨_,_,?_,rfl,Ret.of (hw.pick [] (by decide) rfl rfl)⟩)
  refine ⟨congrArg (Value.int .i64) ?_,rfl⟩
  unfold cmpI
  first | (rw [if_pos (by omega)];done) | (rw [if_neg (by omega),if_pos (by omega)];done) | (rw [if_neg (by omega),if_neg (by omega)];done)
 ·refine .skip ?_
  refine AK.then_ (hK8 _ ?_)
  refine .seq fun _ hK11=>?_
  refine .sr fun _ hK12=>?_
  refine .mv rfl (.mv rfl (.v (.gtr rfl rfl) (.nt hK12 ?_)))
  refine AK.condD rfl (fun hc4=>?_) (fun hc4=>?_)
  ·refine .sr fun _ hK13=>?_
   refine .as rfl (.nt hK13 (.ret (.then_ret ?_)))
   refine AK.ret1 rfl rfl (fun w hw=>⟨_,_,?_,rfl,Ret.of (hw.pick [] (by decide) rfl rfl)⟩)
   refine ⟨congrArg (Value.int .i64) ?_,rfl⟩
   unfold cmpI
   first | (rw [if_pos (by omega)];done) | (rw [if_neg (by omega),if_pos (by omega)];done) | (rw [if_neg (by omega),if_neg (by omega)];done)
  ·refine .skip ?_
   refine AK.then_ (hK11 _ ?_)
   refine .sr fun _ hK14=>?_
   refine .as rfl (.nt hK14 (.ret ?_))
   refine AK.ret1 rfl rfl (fun w hw=>⟨_,_,?_,rfl,Ret.of (hw.pick [] (by decide) rfl rfl)⟩)
   refine ⟨congrArg (Value.int .i64) ?_,rfl⟩
   unfold cmpI
   first | (rw [if_pos (by omega)];done) | (rw [if_neg (by omega),if_pos (by omega)];done) | (rw [if_neg (by omega),if_neg (by omega)];done)
theorem s_or (w:World) (v:Value) (xs:List Int) (h:RdI w v xs):CallS Tryz.prog 111 [v] w (fun r o=>r = .int .i64 (orI xs)∧o=[]):=by
 unfold RdI at h
 have hb:=Rd.le h
 refine spec_of Tryz.func111 rfl (leb rfl) ?_
 refine .sr fun _ hK1=>?_
 refine .as rfl (.nt hK1 ?_)
 refine .sr fun _ hK2=>?_
 refine .as rfl (.nt hK2 ?_)
 refine .seq fun _ hK3=>?_
 refine .sr fun _ hK4=>?_
 refine .mv rfl (.v (.lenR sl67 rfl rdp) (.mv rfl (.nt hK4 (.block ?_))))
 refine AK.loopK (X:=Nat) [(3,_),(6,_),(7,_)] (fun k=>[(8,.int .i64 (k:Int))]) (fun k=>[]) (fun k=>k≤xs.length∧orI xs=orI (xs.drop k)) (fun k=>xs.length - k) (0) slr ?_ ?_ ?_ ?_
 ·exact ⟨Nat.zero_le _,rfl⟩
 ·exact slr
 ·exact fun w hw=>hw
 ·intro k hg0 _ hK5
  refine .sr fun _ hK6=>?_
  refine .v (.lss rfl rfl) (.nt hK6 ?_)
  refine .seq fun _ hK7=>?_
  refine AK.condD rfl (fun hc0=>?_) (fun hc0=>?_)
  ·refine .skip ?_
   refine AK.then_ (hK7 _ ?_)
   refine .seq fun _ hK8=>?_
   refine .block ?_
   refine .sr fun _ hK9=>?_
   first | refine .v (.iN sl67 rfl rfl) ?_ | refine .v (.iK sl67 rfl rfl) ?_
   refine .v (.loadI on3 rfl rdp (by omega)) ?_
   refine .as rfl (.nt hK9 ?_)
   refine .sr fun _ hK10=>?_
   refine .mv rfl (.mv rfl (.v (.neq rfl rfl) (.nt hK10 ?_)))
   refine AK.condNe rfl (fun hc1=>?_) (fun hc1=>?_)
   ·refine .sr fun _ hK11=>?_
    refine .mv rfl (.as rfl (.nt hK11 (.ret (.block_ret (.then_ret (.then_ret (.block_ret (.then_ret ?_))))))))
    refine AK.ret1 rfl rfl (fun w hw=>⟨_,_,?_,rfl,Ret.of (hw.pick [] (by decide) rfl rfl)⟩)
    exact ⟨congrArg (Value.int .i64) (hg0.2.trans (orI_hit (by omega) (by assumption))).symm,rfl⟩
   ·refine .skip (.block_normal ?_)
    refine AK.then_ (hK8 _ ?_)
    refine AK.region ?_
    refine .v (.add rfl rfl (by omega)) ?_
    refine .mv rfl (.nil ?_)
    refine AK.then_ (hK5 _ _ (k+1) ⟨by omega,hg0.2.trans (orI_drop (by omega) (by assumption))⟩ (by omega) (slr) (fun w hw=>hw))
  ·refine .exit (.then_exit (.then_exit (.block_exit ?_)))
   refine AK.then_ (hK3 _ ?_)
   refine .sr fun _ hK12=>?_
   refine .mv rfl (.as rfl (.nt hK12 (.ret ?_)))
   refine AK.ret1 rfl rfl (fun w hw=>⟨_,_,?_,rfl,Ret.of (hw.pick [] (by decide) rfl rfl)⟩)
   exact ⟨congrArg (Value.int .i64) (hg0.2.trans (orI_end (by omega))).symm,rfl⟩
set_option maxHeartbeats 1000000 in
theorem s_cmpe (w:World) (a b:Edg):CallS Tryz.prog 58 [ev a,ev b] w (fun r o=>r = .int .i64 (cmpE a b)∧o=[]):=by
 refine spec_of Tryz.func58 rfl (leb rfl) ?_
 refine .sr fun _ hK1=>?_
 refine AK.box_ (E:=98) (cs:=ecs a) rfl rfl rfl trivial rfl (fun bx2=>?_)
 refine AK.box_ (E:=98) (cs:=ecs b) rfl rfl rfl trivial rfl (fun bx3=>?_)
 refine .as rfl (.nt hK1 ?_)
 refine .seq fun _ hK2=>?_
 refine AK.joinK (X:=Unit) [] (fun z=>[(4,.int .i64 (cmpE a b))]) (fun z=>[box bx2 98 3 (ecs a),box bx3 98 3 (ecs b)]) (fun z=>True) slr (fun _ hJ=>?_) (fun z hg=>?_)
 ·try (conv=>enter [2,2];simp only [nrm])
  refine AK.held 18 mixed ?_
  refine HeldK.first 0 (fuel:=17) (listed':=(lb 18 1)) _ rfl krf krf rfl (Yl.fieldAddr fd98_0 rfl) trivial rfl ?_
  refine HeldK.first 1 (fuel:=16) (listed':=(lb 18 3)) _ rfl krf krf rfl (Yl.loadBox on3 rfl bsp rfl) trivial rfl ?_
  refine HeldK.first 2 (fuel:=15) (listed':=(lb 18 7)) _ rfl krf krf rfl (Yl.fieldAddr fd98_0 rfl) trivial rfl ?_
  refine HeldK.first 3 (fuel:=14) (listed':=(lb 18 15)) _ rfl krf krf rfl (Yl.loadBox on3 rfl bsp rfl) trivial rfl ?_
  refine HeldK.first 5 (fuel:=13) (listed':=(lb 18 47)) _ rfl krf krf rfl (Yl.fieldAddr fd98_1 rfl) trivial rfl ?_
  refine HeldK.first 6 (fuel:=12) (listed':=(lb 18 111)) _ rfl krf krf rfl (Yl.loadBox on3 rfl bsp rfl) trivial rfl ?_
  refine HeldK.first 7 (fuel:=11) (listed':=(lb 18 239)) _ rfl krf krf rfl (Yl.fieldAddr fd98_1 rfl) trivial rfl ?_
  refine HeldK.first 8 (fuel:=10) (listed':=(lb 18 495)) _ rfl krf krf rfl (Yl.loadBox on3 rfl bsp rfl) trivial rfl ?_
  refine HeldK.first 10 (fuel:=9) (listed':=(lb 18 1519)) _ rfl krf krf rfl (Yl.fieldAddr fd98_2 rfl) trivial rfl ?_
  refine HeldK.first 11 (fuel:=8) (listed':=(lb 18 3567)) _ rfl krf krf rfl (Yl.loadBox on3 rfl bsp rfl) trivial rfl ?_
  refine HeldK.first 12 (fuel:=7) (listed':=(lb 18 7663)) _ rfl krf krf rfl (Yl.fieldAddr fd98_2 rfl) trivial rfl ?_
  refine HeldK.first 13 (fuel:=6) (listed':=(lb 18 15855)) _ rfl krf krf rfl (Yl.loadBox on3 rfl bsp rfl) trivial rfl ?_
  refine HeldK.one 4 (fuel:=5) (listed':=(lb 18 15871)) krf rfl krf ?_
  refine AK.call co112 rfl (fun w hw=>s_cmpi w a.1 b.1) trivial rfl ?_
  rintro r o ⟨rfl,rfl⟩
  refine .nil ?_
  try (conv=>enter [2,2];simp only [nrm])
  refine HeldK.back Go.Sx.hle ?_
  refine HeldK.one 9 (fuel:=4) (listed':=(lb 18 16383)) krf rfl krf ?_
  refine AK.call co112 rfl (fun w hw=>s_cmpi w a.2.1 b.2.1) trivial rfl ?_
  rintro r o ⟨rfl,rfl⟩
  refine .nil ?_
  try (conv=>enter [2,2];simp only [nrm])
  refine HeldK.back Go.Sx.hle ?_
  refine HeldK.one 14 (fuel:=3) (listed':=(lb 18 32767)) krf rfl krf ?_
  refine AK.call co112 rfl (fun w hw=>s_cmpi w a.2.2 b.2.2) trivial rfl ?_
  rintro r o ⟨rfl,rfl⟩
  refine .nil ?_
  try (conv=>enter [2,2];simp only [nrm])
  refine HeldK.back Go.Sx.hle ?_
  refine HeldK.one 15 (fuel:=2) (listed':=(lb 18 65535)) krf rfl krf ?_
  refine AK.lit (xs:=[.tmp 9,.tmp 14,.tmp 19]) sl67 el3 rfl rfl rfl (by intro a ha;simp at ha;rcases ha with rfl | rfl | rfl <;> rfl) (by decide) (by decide) trivial rfl (fun lv=>?_)
  refine .nil ?_
  try (conv=>enter [2,2];simp only [nrm])
  refine HeldK.back Go.Sx.hle ?_
  refine HeldK.one 16 (fuel:=1) (listed':=(lb 18 131071)) krf rfl krf ?_
  refine AK.call co111 rfl (fun w hw=>s_or w lv [cmpI a.1 b.1,cmpI a.2.1 b.2.1,cmpI a.2.2 b.2.2] (RdI.own 2 hw rfl)) trivial rfl ?_
  rintro r o ⟨rfl,rfl⟩
  refine .nil ?_
  try (conv=>enter [2,2];simp only [nrm])
  refine HeldK.back Go.Sx.hle ?_
  refine HeldK.first 17 (fuel:=0) (listed':=(lb 18 262143)) _ rfl krf krf rfl (Yl.assign rfl) trivial rfl ?_
  refine HeldK.done krf ?_
  exact hJ _ _ (()) trivial (slr) (fun w hw=>by first | exact hw.pickLe [0,1] (by decide) pkl)
 ·skip
  refine AK.then_ (hK2 _ ?_)
  refine .ret ?_
  refine AK.ret1 rfl rfl (fun w hw=>⟨_,_,?_,rfl,Ret.of (hw.pick [] (by decide) rfl rfl)⟩)
  exact ⟨rfl,rfl⟩
end Go.Proofs.YtbibnpdnmmgacaaGreatDoor
namespace Go.Proofs.YtbibnpdnmmgacaaGreatDoor
open Go.Sx Go.RowKit
theorem s_wvalid (w:World) (l:List UInt8) (L:Int) (hm:l.length≤9223372036854775807):CallS Tryz.prog 38 [sv l,.int .i64 L] w (fun r o=>r = .bool (validW L l)∧o=[]):=by
 refine spec_of Tryz.func38 rfl (leb rfl) ?_
 refine .sr fun _ hK1=>?_
 refine .as rfl (.nt hK1 ?_)
 refine .seq fun _ hK2=>?_
 refine .sr fun _ hK3=>?_
 refine .mv rfl (.v (.lss rfl rfl) (.mv rfl ?_))
 refine AK.splitB (g:=8) rfl (fun hg_1_2=>?_) (fun hg_1_2=>?_)
 ·have hg_1_2':=hg_1_2
  try simp only [bs] at hg_1_2'
  refine AK.pass rfl rfl (hg_1_2) rfl ?_
  refine AK.pass rfl rfl (hg_1_2) rfl ?_
  refine .v (.pickT rfl (hg_1_2) rfl) (.mv rfl ?_)
  refine AK.pass rfl rfl rfl rfl ?_
  refine AK.pass rfl rfl rfl rfl ?_
  refine AK.pass rfl rfl rfl rfl ?_
  refine .v (.pickT rfl (rfl) rfl) (.nt hK3 ?_)
  refine AK.cond_t rfl (rfl) ?_
  refine .sr fun _ hK4=>?_
  refine .as rfl (.nt hK4 (.ret (.then_ret ?_)))
  refine AK.ret1 rfl rfl (fun w hw=>⟨_,_,?_,rfl,Ret.of (hw.pick [] (by decide) rfl rfl)⟩)
  refine ⟨congrArg Value.bool ?_,rfl⟩
  symm;unfold validW;rw [decide_eq_false (by omega),Bool.false_and]
 ·have hg_1_2':=hg_1_2
  try simp only [bs] at hg_1_2'
  refine AK.val _ (Yl.move rfl) ⟨_,rfl,gB hg_1_2⟩ rfl ?_
  refine AK.val _ (Yl.gtr rfl rfl) ⟨_,rfl,gB hg_1_2⟩ rfl ?_
  refine .v (.pickF rfl (hg_1_2) rfl) (.mv rfl ?_)
  refine AK.splitB (g:=12) rfl (fun hg_1_6=>?_) (fun hg_1_6=>?_)
  ·have hg_1_6':=hg_1_6
   try simp only [bs] at hg_1_6'
   refine AK.pass rfl rfl (hg_1_6) rfl ?_
   refine AK.pass rfl rfl (hg_1_6) rfl ?_
   refine AK.pass rfl rfl (hg_1_6) rfl ?_
   refine .v (.pickT rfl (hg_1_6) rfl) (.nt hK3 ?_)
   refine AK.cond_t rfl (rfl) ?_
   refine .sr fun _ hK5=>?_
   refine .as rfl (.nt hK5 (.ret (.then_ret ?_)))
   refine AK.ret1 rfl rfl (fun w hw=>⟨_,_,?_,rfl,Ret.of (hw.pick [] (by decide) rfl rfl)⟩)
   refine ⟨congrArg Value.bool ?_,rfl⟩
   symm;unfold validW;rw [decide_eq_false (by omega),Bool.false_and]
  ·have hg_1_6':=hg_1_6
   try simp only [bs] at hg_1_6'
   refine AK.val _ (Yl.move rfl) ⟨_,rfl,gB hg_1_6⟩ rfl ?_
   refine AK.val _ (Yl.lenS un9 rfl) ⟨_,rfl,gB hg_1_6⟩ rfl ?_
   refine AK.val _ (Yl.gtr rfl rfl) ⟨_,rfl,gB hg_1_6⟩ rfl ?_
   refine .v (.pickF rfl (hg_1_6) rfl) (.nt hK3 ?_)
   refine AK.condD rfl (fun hc0=>?_) (fun hc0=>?_)
   ·refine .sr fun _ hK6=>?_
    refine .as rfl (.nt hK6 (.ret (.then_ret ?_)))
    refine AK.ret1 rfl rfl (fun w hw=>⟨_,_,?_,rfl,Ret.of (hw.pick [] (by decide) rfl rfl)⟩)
    refine ⟨congrArg Value.bool ?_,rfl⟩
    symm;unfold validW;rw [decide_eq_false (by omega),Bool.false_and]
   ·refine .skip ?_
    refine AK.then_ (hK2 _ ?_)
    refine .seq fun _ hK7=>?_
    refine .sr fun _ hK8=>?_
    refine .mv rfl (.v (.lenS un9 rfl) (.mv rfl (.nt hK8 (.block ?_))))
    refine AK.loopK (X:=Nat) [(0,_),(1,_),(18,_)] (fun k=>[(19,.int .i64 (k:Int))]) (fun k=>[]) (fun k=>k≤l.length∧(1≤L∧L≤6∧l.length≤2048)∧(l.take k).all (okB L)=true) (fun k=>l.length - k) (0) slr ?_ ?_ ?_ ?_
    ·exact ⟨Nat.zero_le _,by omega,rfl⟩
    ·exact slr
    ·exact fun w hw=>hw
    ·intro k hg0 _ hK9
     obtain ⟨hk,hL,ha⟩:=hg0
     have hc8:=UInt8.toNat_lt (l.getD k 0)
     refine .sr fun _ hK10=>?_
     refine .v (.lss rfl rfl) (.nt hK10 ?_)
     refine .seq fun _ hK11=>?_
     refine AK.condD rfl (fun hc1=>?_) (fun hc1=>?_)
     ·refine .skip ?_
      refine AK.then_ (hK11 _ ?_)
      refine .seq fun _ hK12=>?_
      refine .block ?_
      refine .sr fun _ hK13=>?_
      refine .mv rfl (.as rfl (.nt hK13 ?_))
      refine .sr fun _ hK14=>?_
      refine .mv rfl (.mv rfl ?_)
      first | refine .v (.idxSN un9 rfl rfl (by omega)) ?_ | refine .v (.idxS un9 rfl rfl (by omega)) ?_
      refine .v (.lss rfl rfl) (.mv rfl ?_)
      refine AK.splitB (g:=26) rfl (fun hg_6_4=>?_) (fun hg_6_4=>?_)
      ·have hg_6_4':=hg_6_4
       try simp only [bs] at hg_6_4'
       refine AK.pass rfl rfl (hg_6_4) rfl ?_
       refine AK.pass rfl rfl (hg_6_4) rfl ?_
       refine AK.pass rfl rfl (hg_6_4) rfl ?_
       refine AK.pass rfl rfl (hg_6_4) rfl ?_
       refine AK.pass rfl rfl (hg_6_4) rfl ?_
       refine AK.pass rfl rfl (hg_6_4) rfl ?_
       refine AK.pass rfl rfl (hg_6_4) rfl ?_
       refine .v (.pickT rfl (hg_6_4) rfl) (.nt hK14 ?_)
       refine AK.cond_t rfl (rfl) ?_
       refine .sr fun _ hK15=>?_
       refine .as rfl (.nt hK15 (.ret (.block_ret (.then_ret (.then_ret (.block_ret (.then_ret ?_)))))))
       refine AK.ret1 rfl rfl (fun w hw=>⟨_,_,?_,rfl,Ret.of (hw.pick [] (by decide) rfl rfl)⟩)
       refine ⟨congrArg Value.bool ?_,rfl⟩
       symm;unfold validW;rw [all_at _ 0 (by omega:k<l.length) (by unfold okB;rw [decide_eq_false_iff_not];omega),Bool.and_false]
      ·have hg_6_4':=hg_6_4
       try simp only [bs] at hg_6_4'
       refine AK.val _ (Yl.move rfl) ⟨_,rfl,gB hg_6_4⟩ rfl ?_
       refine AK.val _ (Yl.move rfl) ⟨_,rfl,gB hg_6_4⟩ rfl ?_
       first | refine AK.val _ (Yl.idxSN un9 rfl rfl (by omega)) ⟨_,rfl,gB hg_6_4⟩ rfl ?_ | refine AK.val _ (Yl.idxS un9 rfl rfl (by omega)) ⟨_,rfl,gB hg_6_4⟩ rfl ?_
       refine AK.val _ (Yl.subU8 rfl rfl (by omega)) ⟨_,rfl,gB hg_6_4⟩ rfl ?_
       refine AK.val _ (Yl.convI (by kernel_rfl) un3 rfl (wrap_i64 (by omega))) ⟨_,rfl,gB hg_6_4⟩ rfl ?_
       refine AK.val _ (Yl.move rfl) ⟨_,rfl,gB hg_6_4⟩ rfl ?_
       refine AK.val _ (Yl.geq rfl rfl) ⟨_,rfl,gB hg_6_4⟩ rfl ?_
       refine .v (.pickF rfl (hg_6_4) rfl) (.nt hK14 ?_)
       refine AK.condD rfl (fun hc2=>?_) (fun hc2=>?_)
       ·refine .sr fun _ hK16=>?_
        refine .as rfl (.nt hK16 (.ret (.block_ret (.then_ret (.then_ret (.block_ret (.then_ret ?_)))))))
        refine AK.ret1 rfl rfl (fun w hw=>⟨_,_,?_,rfl,Ret.of (hw.pick [] (by decide) rfl rfl)⟩)
        refine ⟨congrArg Value.bool ?_,rfl⟩
        symm;unfold validW;rw [all_at _ 0 (by omega:k<l.length) (by unfold okB;rw [decide_eq_false_iff_not];omega),Bool.and_false]
       ·refine .skip (.block_normal ?_)
        refine AK.then_ (hK12 _ ?_)
        refine AK.region ?_
        refine .v (.add rfl rfl (by omega)) ?_
        refine .mv rfl (.nil ?_)
        refine AK.then_ (hK9 _ _ (k+1) ⟨by omega,hL,all_take_succ _ 0 (by omega) ha (by unfold okB;rw [decide_eq_true_eq];omega)⟩ (by omega) (slr) (fun w hw=>hw))
     ·refine .exit (.then_exit (.then_exit (.block_exit ?_)))
      refine AK.then_ (hK7 _ ?_)
      refine .sr fun _ hK17=>?_
      refine .as rfl (.nt hK17 (.ret ?_))
      refine AK.ret1 rfl rfl (fun w hw=>⟨_,_,?_,rfl,Ret.of (hw.pick [] (by decide) rfl rfl)⟩)
      refine ⟨congrArg Value.bool ?_,rfl⟩
      rw [show k=l.length by omega,List.take_length] at ha
      symm;unfold validW;rw [decide_eq_true hL,ha];rfl
theorem s_refwvalid (w:World) (l:List UInt8) (L:Int) (hm:l.length≤9223372036854775807):CallS Tryz.prog 8 [sv l,.int .i64 L] w (fun r o=>r = .bool (validW L l)∧o=[]):=by
 refine spec_of Tryz.func8 rfl (leb rfl) ?_
 refine .sr fun _ hK1=>?_
 refine .as rfl (.nt hK1 ?_)
 refine .seq fun _ hK2=>?_
 refine .sr fun _ hK3=>?_
 refine .mv rfl ?_
 refine AK.call co35 rfl (fun w hw=>s_may w L) trivial rfl ?_
 rintro r o ⟨rfl,rfl⟩
 refine .v (.not rfl) (.mv rfl ?_)
 refine AK.splitB (g:=9) rfl (fun hg_1_3=>?_) (fun hg_1_3=>?_)
 ·have hg_1_3':=hg_1_3
  try simp only [bs] at hg_1_3'
  refine AK.pass rfl rfl (hg_1_3) rfl ?_
  refine AK.pass rfl rfl (hg_1_3) rfl ?_
  refine AK.pass rfl rfl (hg_1_3) rfl ?_
  refine .v (.pickT rfl (hg_1_3) rfl) (.nt hK3 ?_)
  refine AK.cond_t rfl (rfl) ?_
  refine .sr fun _ hK4=>?_
  refine .as rfl (.nt hK4 (.ret (.then_ret ?_)))
  refine AK.ret1 rfl rfl (fun w hw=>⟨_,_,?_,rfl,Ret.of (hw.pick [] (by decide) rfl rfl)⟩)
  refine ⟨congrArg Value.bool ?_,rfl⟩
  symm;unfold validW;rw [decide_eq_false (by omega),Bool.false_and]
 ·have hg_1_3':=hg_1_3
  try simp only [bs] at hg_1_3'
  refine AK.val _ (Yl.move rfl) ⟨_,rfl,gB hg_1_3⟩ rfl ?_
  refine AK.val _ (Yl.lenS un9 rfl) ⟨_,rfl,gB hg_1_3⟩ rfl ?_
  refine AK.val _ (Yl.gtr rfl rfl) ⟨_,rfl,gB hg_1_3⟩ rfl ?_
  refine .v (.pickF rfl (hg_1_3) rfl) (.nt hK3 ?_)
  refine AK.condD rfl (fun hc0=>?_) (fun hc0=>?_)
  ·refine .sr fun _ hK5=>?_
   refine .as rfl (.nt hK5 (.ret (.then_ret ?_)))
   refine AK.ret1 rfl rfl (fun w hw=>⟨_,_,?_,rfl,Ret.of (hw.pick [] (by decide) rfl rfl)⟩)
   refine ⟨congrArg Value.bool ?_,rfl⟩
   symm;unfold validW;rw [decide_eq_false (by omega),Bool.false_and]
  ·refine .skip ?_
   refine AK.then_ (hK2 _ ?_)
   refine .seq fun _ hK6=>?_
   refine .sr fun _ hK7=>?_
   refine .as rfl (.nt hK7 (.block ?_))
   refine AK.loopK (X:=Nat) [(0,_),(1,_)] (fun k=>[(5,.int .i64 (k:Int))]) (fun k=>[]) (fun k=>k≤l.length∧(1≤L∧L≤6∧l.length≤2048)∧(l.take k).all (okB L)=true) (fun k=>l.length - k) (0) slr ?_ ?_ ?_ ?_
   ·exact ⟨Nat.zero_le _,by omega,rfl⟩
   ·exact slr
   ·exact fun w hw=>hw
   ·intro k hg0 _ hK8
    obtain ⟨hk,hL,ha⟩:=hg0
    have hc8:=UInt8.toNat_lt (l.getD k 0)
    refine .seq fun _ hK9=>?_
    refine .sr fun _ hK10=>?_
    refine .mv rfl (.mv rfl (.v (.lenS un9 rfl) (.v (.lss rfl rfl) (.nt hK10 ?_))))
    refine AK.condD rfl (fun hc1=>?_) (fun hc1=>?_)
    ·refine .skip ?_
     refine AK.then_ (hK9 _ ?_)
     refine .seq fun _ hK11=>?_
     refine .block ?_
     refine .sr fun _ hK12=>?_
     refine .mv rfl (.mv rfl ?_)
     first | refine .v (.idxSN un9 rfl rfl (by omega)) ?_ | refine .v (.idxS un9 rfl rfl (by omega)) ?_
     refine .v (.lss rfl rfl) (.mv rfl ?_)
     refine AK.splitB (g:=24) rfl (fun hg_6_4=>?_) (fun hg_6_4=>?_)
     ·have hg_6_4':=hg_6_4
      try simp only [bs] at hg_6_4'
      refine AK.pass rfl rfl (hg_6_4) rfl ?_
      refine AK.pass rfl rfl (hg_6_4) rfl ?_
      refine AK.pass rfl rfl (hg_6_4) rfl ?_
      refine AK.pass rfl rfl (hg_6_4) rfl ?_
      refine AK.pass rfl rfl (hg_6_4) rfl ?_
      refine AK.pass rfl rfl (hg_6_4) rfl ?_
      refine AK.pass rfl rfl (hg_6_4) rfl ?_
      refine .v (.pickT rfl (hg_6_4) rfl) (.nt hK12 ?_)
      refine AK.cond_t rfl (rfl) ?_
      refine .sr fun _ hK13=>?_
      refine .as rfl (.nt hK13 (.ret (.block_ret (.then_ret (.then_ret (.block_ret (.then_ret ?_)))))))
      refine AK.ret1 rfl rfl (fun w hw=>⟨_,_,?_,rfl,Ret.of (hw.pick [] (by decide) rfl rfl)⟩)
      refine ⟨congrArg Value.bool ?_,rfl⟩
      symm;unfold validW;rw [all_at _ 0 (by omega:k<l.length) (by unfold okB;rw [decide_eq_false_iff_not];omega),Bool.and_false]
     ·have hg_6_4':=hg_6_4
      try simp only [bs] at hg_6_4'
      refine AK.val _ (Yl.move rfl) ⟨_,rfl,gB hg_6_4⟩ rfl ?_
      refine AK.val _ (Yl.move rfl) ⟨_,rfl,gB hg_6_4⟩ rfl ?_
      first | refine AK.val _ (Yl.idxSN un9 rfl rfl (by omega)) ⟨_,rfl,gB hg_6_4⟩ rfl ?_ | refine AK.val _ (Yl.idxS un9 rfl rfl (by omega)) ⟨_,rfl,gB hg_6_4⟩ rfl ?_
      refine AK.val _ (Yl.subU8 rfl rfl (by omega)) ⟨_,rfl,gB hg_6_4⟩ rfl ?_
      refine AK.val _ (Yl.convI (by kernel_rfl) un3 rfl (wrap_i64 (by omega))) ⟨_,rfl,gB hg_6_4⟩ rfl ?_
      refine AK.val _ (Yl.move rfl) ⟨_,rfl,gB hg_6_4⟩ rfl ?_
      refine AK.val _ (Yl.geq rfl rfl) ⟨_,rfl,gB hg_6_4⟩ rfl ?_
      refine .v (.pickF rfl (hg_6_4) rfl) (.nt hK12 ?_)
      refine AK.condD rfl (fun hc2=>?_) (fun hc2=>?_)
      ·refine .sr fun _ hK14=>?_
       refine .as rfl (.nt hK14 (.ret (.block_ret (.then_ret (.then_ret (.block_ret (.then_ret ?_)))))))
       refine AK.ret1 rfl rfl (fun w hw=>⟨_,_,?_,rfl,Ret.of (hw.pick [] (by decide) rfl rfl)⟩)
       refine ⟨congrArg Value.bool ?_,rfl⟩
       symm;unfold validW;rw [all_at _ 0 (by omega:k<l.length) (by unfold okB;rw [decide_eq_false_iff_not];omega),Bool.and_false]
      ·refine .skip (.block_normal ?_)
       refine AK.then_ (hK11 _ ?_)
       refine AK.region ?_
       refine .mv rfl ?_
       refine .v (.add rfl rfl (by omega)) ?_
       refine .as rfl (.nil ?_)
       refine AK.then_ (hK8 _ _ (k+1) ⟨by omega,hL,all_take_succ _ 0 (by omega) ha (by unfold okB;rw [decide_eq_true_eq];omega)⟩ (by omega) (slr) (fun w hw=>hw))
    ·refine .exit (.then_exit (.then_exit (.block_exit ?_)))
     refine AK.then_ (hK6 _ ?_)
     refine .sr fun _ hK15=>?_
     refine .as rfl (.nt hK15 (.ret ?_))
     refine AK.ret1 rfl rfl (fun w hw=>⟨_,_,?_,rfl,Ret.of (hw.pick [] (by decide) rfl rfl)⟩)
     refine ⟨congrArg Value.bool ?_,rfl⟩
     rw [show k=l.length by omega,List.take_length] at ha
     symm;unfold validW;rw [decide_eq_true hL,ha];rfl
theorem s_run (w:World) (v:Value) (d:Dfa) (h:RdD (fun _=>False) w v d) (q:Int) (l:List UInt8) (hm:l.length≤9223372036854775807):CallS Tryz.prog 50 [v,.int .i64 q,sv l] w (fun r o=>r = .int .i64 (RunV d q l)∧o=[]):=by
 have h0:=h
 obtain ⟨vF,vN,rfl,hF,hN⟩:=h
 have hF0:=hF
 have hN0:=hN
 obtain ⟨rs,hrl,hNr,hNi⟩:=hN
 have sF:=hF.sl
 have sN:=hNr.sl
 have hmf:=hF.le
 have hmn:=hNr.le
 unfold RdL at hF
 refine spec_of Tryz.func50 rfl (leb rfl) ?_
 refine .sr fun _ hK1=>?_
 refine AK.box_ (E:=32) (cs:=[.int .i64 d.L,.int .i64 d.s,vF,vN]) rfl rfl rfl trivial rfl (fun bx3=>?_)
 refine .as rfl (.nt hK1 ?_)
 refine .seq fun _ hK2=>?_
 refine .sr fun _ hK3=>?_
 refine .v (.loadBoxG ag32 rfl bsp rfl rfl) ?_
 refine AK.call co23 rfl (fun w hw=>s_validate w _ d (h0.at hw)) trivial rfl ?_
 rintro r o ⟨rfl,rfl⟩
 refine .v (.neq rfl rfl) (.mv rfl ?_)
 refine AK.splitB (g:=11) rfl (fun hg_1_3=>?_) (fun hg_1_3=>?_)
 ·have hg_1_3':=hg_1_3
  try simp only [bs] at hg_1_3'
  refine AK.pass rfl rfl (hg_1_3) rfl ?_
  refine AK.pass rfl rfl (hg_1_3) rfl ?_
  refine .v (.pickT rfl (hg_1_3) rfl) (.mv rfl ?_)
  refine AK.pass rfl rfl rfl rfl ?_
  refine AK.pass rfl rfl rfl rfl ?_
  refine AK.pass rfl rfl rfl rfl ?_
  refine AK.pass rfl rfl rfl rfl ?_
  refine AK.pass rfl rfl rfl rfl ?_
  refine .v (.pickT rfl (rfl) rfl) (.mv rfl ?_)
  refine AK.pass rfl rfl rfl rfl ?_
  refine AK.pass rfl rfl rfl rfl ?_
  refine AK.pass rfl rfl rfl rfl ?_
  refine AK.pass rfl rfl rfl rfl ?_
  refine AK.pass rfl rfl rfl rfl ?_
  refine .v (.pickT rfl (rfl) rfl) (.nt hK3 ?_)
  refine AK.cond_t rfl (rfl) ?_
  refine .sr fun _ hK4=>?_
  refine .as rfl (.nt hK4 (.ret (.then_ret ?_)))
  refine AK.ret1 rfl rfl (fun w hw=>⟨_,_,?_,rfl,Ret.of (hw.pick [] (by decide) rfl rfl)⟩)
  refine ⟨congrArg (Value.int .i64) ?_,rfl⟩
  unfold RunV;rw [if_neg]
  rintro ⟨h1,h2,h3⟩
  first | omega | (simp_all;done) | (simp_all;omega)
 ·have hg_1_3':=hg_1_3
  try simp only [bs] at hg_1_3'
  refine AK.val _ (Yl.move rfl) ⟨_,rfl,gB hg_1_3⟩ rfl ?_
  refine AK.val _ (Yl.lss rfl rfl) ⟨_,rfl,gB hg_1_3⟩ rfl ?_
  refine .v (.pickF rfl (hg_1_3) rfl) (.mv rfl ?_)
  refine AK.splitB (g:=15) rfl (fun hg_1_7=>?_) (fun hg_1_7=>?_)
  ·have hg_1_7':=hg_1_7
   try simp only [bs] at hg_1_7'
   refine AK.pass rfl rfl (hg_1_7) rfl ?_
   refine AK.pass rfl rfl (hg_1_7) rfl ?_
   refine AK.pass rfl rfl (hg_1_7) rfl ?_
   refine AK.pass rfl rfl (hg_1_7) rfl ?_
   refine AK.pass rfl rfl (hg_1_7) rfl ?_
   refine .v (.pickT rfl (hg_1_7) rfl) (.mv rfl ?_)
   refine AK.pass rfl rfl rfl rfl ?_
   refine AK.pass rfl rfl rfl rfl ?_
   refine AK.pass rfl rfl rfl rfl ?_
   refine AK.pass rfl rfl rfl rfl ?_
   refine AK.pass rfl rfl rfl rfl ?_
   refine .v (.pickT rfl (rfl) rfl) (.nt hK3 ?_)
   refine AK.cond_t rfl (rfl) ?_
   refine .sr fun _ hK5=>?_
   refine .as rfl (.nt hK5 (.ret (.then_ret ?_)))
   refine AK.ret1 rfl rfl (fun w hw=>⟨_,_,?_,rfl,Ret.of (hw.pick [] (by decide) rfl rfl)⟩)
   refine ⟨congrArg (Value.int .i64) ?_,rfl⟩
   unfold RunV;rw [if_neg]
   rintro ⟨h1,h2,h3⟩
   first | omega | (simp_all;done) | (simp_all;omega)
  ·have hg_1_7':=hg_1_7
   try simp only [bs] at hg_1_7'
   refine AK.val _ (Yl.move rfl) ⟨_,rfl,gB hg_1_7⟩ rfl ?_
   refine AK.val _ (Yl.fieldAddr fd32_2 rfl) ⟨_,rfl,gB hg_1_7⟩ rfl ?_
   refine AK.val _ (Yl.loadBox on29 rfl bsp rfl) ⟨_,rfl,gB hg_1_7⟩ rfl ?_
   refine AK.val _ (Yl.lenR sl29 rfl (by first | exact rdp | exact .arg (hNi _ (by omega)))) ⟨_,rfl,gB hg_1_7⟩ rfl ?_
   refine AK.val _ (Yl.geq rfl rfl) ⟨_,rfl,gB hg_1_7⟩ rfl ?_
   refine .v (.pickF rfl (hg_1_7) rfl) (.mv rfl ?_)
   refine AK.splitB (g:=22) rfl (fun hg_1_14=>?_) (fun hg_1_14=>?_)
   ·have hg_1_14':=hg_1_14
    try simp only [bs] at hg_1_14'
    refine AK.pass rfl rfl (hg_1_14) rfl ?_
    refine AK.pass rfl rfl (hg_1_14) rfl ?_
    refine AK.pass rfl rfl (hg_1_14) rfl ?_
    refine AK.pass rfl rfl (hg_1_14) rfl ?_
    refine AK.pass rfl rfl (hg_1_14) rfl ?_
    refine .v (.pickT rfl (hg_1_14) rfl) (.nt hK3 ?_)
    refine AK.cond_t rfl (rfl) ?_
    refine .sr fun _ hK6=>?_
    refine .as rfl (.nt hK6 (.ret (.then_ret ?_)))
    refine AK.ret1 rfl rfl (fun w hw=>⟨_,_,?_,rfl,Ret.of (hw.pick [] (by decide) rfl rfl)⟩)
    refine ⟨congrArg (Value.int .i64) ?_,rfl⟩
    unfold RunV;rw [if_neg]
    rintro ⟨h1,h2,h3⟩
    first | omega | (simp_all;done) | (simp_all;omega)
   ·have hg_1_14':=hg_1_14
    try simp only [bs] at hg_1_14'
    refine AK.val _ (Yl.move rfl) ⟨_,rfl,gB hg_1_14⟩ rfl ?_
    refine AK.val _ (Yl.fieldAddr fd32_0 rfl) ⟨_,rfl,gB hg_1_14⟩ rfl ?_
    refine AK.val _ (Yl.loadBox on3 rfl bsp rfl) ⟨_,rfl,gB hg_1_14⟩ rfl ?_
    refine AK.call co38 rfl (fun w hw=>s_wvalid w l d.L hm) ⟨_,rfl,gB hg_1_14⟩ rfl ?_
    rintro r o ⟨rfl,rfl⟩
    refine AK.val _ (Yl.not rfl) ⟨_,rfl,gB hg_1_14⟩ rfl ?_
    refine .v (.pickF rfl (hg_1_14) rfl) (.nt hK3 ?_)
    refine AK.condB rfl (fun hc0=>?_) (fun hc0=>?_)
    ·refine .sr fun _ hK7=>?_
     refine .as rfl (.nt hK7 (.ret (.then_ret ?_)))
     refine AK.ret1 rfl rfl (fun w hw=>⟨_,_,?_,rfl,Ret.of (hw.pick [] (by decide) rfl rfl)⟩)
     refine ⟨congrArg (Value.int .i64) ?_,rfl⟩
     unfold RunV;rw [if_neg]
     rintro ⟨h1,h2,h3⟩
     first | omega | (simp_all;done) | (simp_all;omega)
    ·have hv:VD d:=(errV_iff d).1 hg_1_3'
     have hwv:validW d.L l=true:=by simpa using hc0
     have hq:0≤q∧q<d.fin.length:=by omega
     have hok:=(validW_iff.1 hwv).2
     refine .skip ?_
     refine AK.then_ (hK2 _ ?_)
     refine .seq fun _ hK8=>?_
     refine .sr fun _ hK9=>?_
     refine .mv rfl (.v (.lenS un9 rfl) (.mv rfl (.nt hK9 (.block ?_))))
     refine AK.loopK (X:=Nat) [(2,_),(3,_),(30,_)] (fun k=>[(1,.int .i64 (runI d q (l.take k))),(31,.int .i64 (k:Int))]) (fun k=>[box bx3 32 4 [.int .i64 d.L,.int .i64 d.s,vF,vN]]) (fun k=>k≤l.length) (fun k=>l.length - k) (0) slr ?_ ?_ ?_ ?_
     ·exact Nat.zero_le _
     ·exact slr
     ·exact fun w hw=>hw
     ·intro k hg0 _ hK10
      have hb:=runI_bd hv hq hwv k
      have hrw:=hv.row (runI d q (l.take k)).toNat (by omega)
      have hnx:=hv.nx
      have hc8:=UInt8.toNat_lt (l.getD k 0)
      refine .sr fun _ hK11=>?_
      refine .v (.lss rfl rfl) (.nt hK11 ?_)
      refine .seq fun _ hK12=>?_
      refine AK.condD rfl (fun hc1=>?_) (fun hc1=>?_)
      ·have hok1:=hok k (by omega)
       refine .skip ?_
       refine AK.then_ (hK12 _ ?_)
       refine .seq fun _ hK13=>?_
       refine .block ?_
       refine .sr fun _ hK14=>?_
       refine .mv rfl (.as rfl (.nt hK14 ?_))
       refine AK.quiet mixed krf ?_
       refine .v (.fieldAddr fd32_3 rfl) (.v (.loadBox on30 rfl bsp rfl) (.mv rfl ?_))
       first | refine .v (.iN sl30 rfl rfl (hr:=(by first | exact rdp | exact .arg (hNi _ (by omega))))) ?_ | refine .v (.iK sl30 rfl rfl (hr:=(by first | exact rdp | exact .arg (hNi _ (by omega))))) ?_
       refine .v (.loadV on67 rfl (by first | exact rdp | exact .arg (hNi _ (by omega))) (by omega)) ?_
       refine .mv rfl (.mv rfl ?_)
       first | refine .v (.idxSN un9 rfl rfl (by omega)) ?_ | refine .v (.idxS un9 rfl rfl (by omega)) ?_
       refine .v (.subU8 rfl rfl (by omega)) ?_
       first | refine .v (.iN sl67 rfl rfl (hr:=(by first | exact rdp | exact .arg (hNi _ (by omega))))) ?_ | refine .v (.iK sl67 rfl rfl (hr:=(by first | exact rdp | exact .arg (hNi _ (by omega))))) ?_
       refine .v (.loadI on3 rfl (by first | exact rdp | exact .arg (hNi _ (by omega))) (by omega)) ?_
       refine .as rfl ?_
       refine QK.nil (QK.fin ?_)
       refine .block_normal ?_
       refine AK.then_ (hK13 _ ?_)
       refine AK.region ?_
       refine .v (.add rfl rfl (by omega)) ?_
       refine .mv rfl (.nil ?_)
       refine AK.then_ (hK10 _ _ (k+1) (by omega) (by omega) (.cons (slI rfl (by rw [runI_snoc d q l k (by omega)];rfl)) (slr)) (fun w hw=>hw))
      ·refine .exit (.then_exit (.then_exit (.block_exit ?_)))
       refine AK.then_ (hK8 _ ?_)
       refine .sr fun _ hK15=>?_
       refine .mv rfl (.as rfl (.nt hK15 (.ret ?_)))
       refine AK.ret1 rfl rfl (fun w hw=>⟨_,_,?_,rfl,Ret.of (hw.pick [] (by decide) rfl rfl)⟩)
       refine ⟨congrArg (Value.int .i64) ?_,rfl⟩
       unfold RunV;rw [if_pos ⟨(errV_iff d).2 hv,hq,hwv⟩,show k=l.length by omega,List.take_length]
theorem s_acc (w:World) (v:Value) (d:Dfa) (h:RdD (fun _=>False) w v d) (l:List UInt8) (hm:l.length≤9223372036854775807):CallS Tryz.prog 14 [v,sv l] w (fun r o=>r = .bool (AccV d l)∧o=[]):=by
 have h0:=h
 obtain ⟨vF,vN,rfl,hF,hN⟩:=h
 have hF0:=hF
 have hN0:=hN
 obtain ⟨rs,hrl,hNr,hNi⟩:=hN
 have sF:=hF.sl
 have sN:=hNr.sl
 have hmf:=hF.le
 have hmn:=hNr.le
 unfold RdL at hF
 refine spec_of Tryz.func14 rfl (leb rfl) ?_
 refine .sr fun _ hK1=>?_
 refine AK.box_ (E:=32) (cs:=[.int .i64 d.L,.int .i64 d.s,vF,vN]) rfl rfl rfl trivial rfl (fun bx2=>?_)
 refine .as rfl (.nt hK1 ?_)
 refine .sr fun _ hK2=>?_
 refine .v (.loadBoxG ag32 rfl bsp rfl rfl) (.v (.fieldAddr fd32_1 rfl) (.v (.loadBox on3 rfl bsp rfl) (.mv rfl ?_)))
 refine AK.call co50 rfl (fun w hw=>s_run w _ d (h0.at hw) d.s l hm) trivial rfl ?_
 rintro r o ⟨rfl,rfl⟩
 have hb:=@RunV_bd d d.s l
 refine .as rfl (.nt hK2 ?_)
 refine .sr fun _ hK3=>?_
 refine .mv rfl (.v (.geq rfl rfl) (.mv rfl ?_))
 refine AK.splitB (g:=13) rfl (fun hg_2_2=>?_) (fun hg_2_2=>?_)
 ·have hg_2_2':=hg_2_2
  try simp only [bs] at hg_2_2'
  refine AK.val _ (Yl.fieldAddr fd32_2 rfl) ⟨_,rfl,gB hg_2_2⟩ rfl ?_
  refine AK.val _ (Yl.loadBox on29 rfl bsp rfl) ⟨_,rfl,gB hg_2_2⟩ rfl ?_
  refine AK.val _ (Yl.move rfl) ⟨_,rfl,gB hg_2_2⟩ rfl ?_
  first | refine AK.val _ (.iN sl29 rfl rfl (h0:=(by have:=hb (by omega);omega))) ⟨_,rfl,gB hg_2_2⟩ rfl ?_ | refine AK.val _ (.iK sl29 rfl rfl (h0:=(by have:=hb (by omega);omega))) ⟨_,rfl,gB hg_2_2⟩ rfl ?_
  refine AK.val _ (Yl.loadB on4 rfl rdp (by have:=hb (by omega);omega)) ⟨_,rfl,gB hg_2_2⟩ rfl ?_
  refine .v (.pickT rfl (hg_2_2) rfl) (.as rfl (.nt hK3 (.ret ?_)))
  refine AK.ret1 rfl rfl (fun w hw=>⟨_,_,?_,rfl,Ret.of (hw.pick [] (by decide) rfl rfl)⟩)
  refine ⟨congrArg Value.bool ?_,rfl⟩
  unfold AccV
  first | rw [if_pos (by omega)] | rw [if_neg (by omega)]
 ·have hg_2_2':=hg_2_2
  try simp only [bs] at hg_2_2'
  refine AK.pass rfl rfl (hg_2_2) rfl ?_
  refine AK.pass rfl rfl (hg_2_2) rfl ?_
  refine AK.pass rfl rfl (hg_2_2) rfl ?_
  refine AK.pass rfl rfl (hg_2_2) rfl ?_
  refine AK.pass rfl rfl (hg_2_2) rfl ?_
  refine .v (.pickF rfl (hg_2_2) rfl) (.as rfl (.nt hK3 (.ret ?_)))
  refine AK.ret1 rfl rfl (fun w hw=>⟨_,_,?_,rfl,Ret.of (hw.pick [] (by decide) rfl rfl)⟩)
  refine ⟨congrArg Value.bool ?_,rfl⟩
  unfold AccV
  first | rw [if_pos (by omega)] | rw [if_neg (by omega)]
end Go.Proofs.YtbibnpdnmmgacaaGreatDoor
namespace Go.Proofs.YtbibnpdnmmgacaaGreatDoor
open Go.Sx Go.RowKit
theorem eqe98:eqE3B Tryz.prog 98=true:=by kernel_rfl
theorem any_at' {n:Nfa} {k:Nat} (hk:k<n.es.length) (h:badE n k=true):(List.range n.es.length).any (badE n)=true:=List.any_eq_true.2 ⟨k,List.mem_range.2 hk,h⟩
theorem no_any {n:Nfa} (h:∀ j,j<n.es.length→badE n j=false):¬ (List.range n.es.length).any (badE n)=true:=by
 rw [Bool.not_eq_true,List.any_eq_false]
 intro x hx
 rw [h x (List.mem_range.1 hx)];decide
theorem badE_b {n:Nfa} {k:Nat} (h:badB n k=true):badE n k=true:=by unfold badE;rw [h];rfl
theorem badE_o {n:Nfa} {k:Nat} (hk:0<k) (h:bef (n.es.getD (k - 1) (0,0,0)) (n.es.getD k (0,0,0))=false):badE n k=true:=by unfold badE;rw [h,decide_eq_true hk];cases badB n k <;> rfl
theorem badE_no {n:Nfa} {k:Nat} (h:badB n k=false) (h2:0<k→bef (n.es.getD (k - 1) (0,0,0)) (n.es.getD k (0,0,0))=true):badE n k=false:=by
 unfold badE;rw [h]
 by_cases hk:0<k
 ·rw [h2 hk];simp
 ·rw [decide_eq_false hk];rfl
theorem bef_no {a b:Edg} (h:a=b∨0<cmpE a b):bef a b=false:=by
 cases e:bef a b
 ·rfl
 ·exact absurd h (bef_iff.1 e)
set_option maxHeartbeats 2000000 in
theorem s_nvalidate (w:World) (v:Value) (n:Nfa) (h:RdN (fun _=>False) w v n):CallS Tryz.prog 59 [v] w (fun r o=>r = .int .i64 (errN n)∧o=[]):=by
 have h0:=h
 obtain ⟨vE,rfl,hE⟩:=h
 have sE:=Rd.sl hE
 have hme:=Rd.le hE
 refine spec_of Tryz.func59 rfl (leb rfl) ?_
 refine .sr fun _ hK1=>?_
 refine AK.box_ (E:=45) (cs:=[.int .i64 n.L,.int .i64 n.S,uv n.st,uv n.fi,vE]) rfl rfl rfl trivial rfl (fun bx1=>?_)
 refine .as rfl (.nt hK1 ?_)
 refine .seq fun _ hK2=>?_
 refine .sr fun _ hK3=>?_
 refine .v (.fieldAddr fd45_0 rfl) (.v (.loadBox on3 rfl bsp rfl) (.v (.lss rfl rfl) (.mv rfl ?_)))
 refine AK.splitB (g:=8) rfl (fun hg_1_3=>?_) (fun hg_1_3=>?_)
 ·have hg_1_3':=hg_1_3
  try simp only [bs] at hg_1_3'
  refine AK.pass rfl rfl (hg_1_3) rfl ?_
  refine AK.pass rfl rfl (hg_1_3) rfl ?_
  refine AK.pass rfl rfl (hg_1_3) rfl ?_
  refine .v (.pickT rfl (hg_1_3) rfl) (.mv rfl ?_)
  refine AK.pass rfl rfl rfl rfl ?_
  refine AK.pass rfl rfl rfl rfl ?_
  refine AK.pass rfl rfl rfl rfl ?_
  refine .v (.pickT rfl (rfl) rfl) (.mv rfl ?_)
  refine AK.pass rfl rfl rfl rfl ?_
  refine AK.pass rfl rfl rfl rfl ?_
  refine AK.pass rfl rfl rfl rfl ?_
  refine .v (.pickT rfl (rfl) rfl) (.nt hK3 ?_)
  refine AK.cond_t rfl (rfl) ?_
  refine .sr fun _ hK4=>?_
  refine .as rfl (.nt hK4 (.ret (.then_ret ?_)))
  refine AK.ret1 rfl rfl (fun w hw=>⟨_,_,?_,rfl,Ret.of (hw.pick [] (by decide) rfl rfl)⟩)
  refine ⟨congrArg (Value.int .i64) ?_,rfl⟩
  unfold errN
  rw [if_pos (by omega)]
 ·have hg_1_3':=hg_1_3
  try simp only [bs] at hg_1_3'
  refine AK.val _ (Yl.fieldAddr fd45_0 rfl) ⟨_,rfl,gB hg_1_3⟩ rfl ?_
  refine AK.val _ (Yl.loadBox on3 rfl bsp rfl) ⟨_,rfl,gB hg_1_3⟩ rfl ?_
  refine AK.val _ (Yl.gtr rfl rfl) ⟨_,rfl,gB hg_1_3⟩ rfl ?_
  refine .v (.pickF rfl (hg_1_3) rfl) (.mv rfl ?_)
  refine AK.splitB (g:=13) rfl (fun hg_1_8=>?_) (fun hg_1_8=>?_)
  ·have hg_1_8':=hg_1_8
   try simp only [bs] at hg_1_8'
   refine AK.pass rfl rfl (hg_1_8) rfl ?_
   refine AK.pass rfl rfl (hg_1_8) rfl ?_
   refine AK.pass rfl rfl (hg_1_8) rfl ?_
   refine .v (.pickT rfl (hg_1_8) rfl) (.mv rfl ?_)
   refine AK.pass rfl rfl rfl rfl ?_
   refine AK.pass rfl rfl rfl rfl ?_
   refine AK.pass rfl rfl rfl rfl ?_
   refine .v (.pickT rfl (rfl) rfl) (.nt hK3 ?_)
   refine AK.cond_t rfl (rfl) ?_
   refine .sr fun _ hK5=>?_
   refine .as rfl (.nt hK5 (.ret (.then_ret ?_)))
   refine AK.ret1 rfl rfl (fun w hw=>⟨_,_,?_,rfl,Ret.of (hw.pick [] (by decide) rfl rfl)⟩)
   refine ⟨congrArg (Value.int .i64) ?_,rfl⟩
   unfold errN
   rw [if_pos (by omega)]
  ·have hg_1_8':=hg_1_8
   try simp only [bs] at hg_1_8'
   refine AK.val _ (Yl.fieldAddr fd45_1 rfl) ⟨_,rfl,gB hg_1_8⟩ rfl ?_
   refine AK.val _ (Yl.loadBox on3 rfl bsp rfl) ⟨_,rfl,gB hg_1_8⟩ rfl ?_
   refine AK.val _ (Yl.lss rfl rfl) ⟨_,rfl,gB hg_1_8⟩ rfl ?_
   refine .v (.pickF rfl (hg_1_8) rfl) (.mv rfl ?_)
   refine AK.splitB (g:=18) rfl (fun hg_1_13=>?_) (fun hg_1_13=>?_)
   ·have hg_1_13':=hg_1_13
    try simp only [bs] at hg_1_13'
    refine AK.pass rfl rfl (hg_1_13) rfl ?_
    refine AK.pass rfl rfl (hg_1_13) rfl ?_
    refine AK.pass rfl rfl (hg_1_13) rfl ?_
    refine .v (.pickT rfl (hg_1_13) rfl) (.nt hK3 ?_)
    refine AK.cond_t rfl (rfl) ?_
    refine .sr fun _ hK6=>?_
    refine .as rfl (.nt hK6 (.ret (.then_ret ?_)))
    refine AK.ret1 rfl rfl (fun w hw=>⟨_,_,?_,rfl,Ret.of (hw.pick [] (by decide) rfl rfl)⟩)
    refine ⟨congrArg (Value.int .i64) ?_,rfl⟩
    unfold errN
    rw [if_pos (by omega)]
   ·have hg_1_13':=hg_1_13
    try simp only [bs] at hg_1_13'
    refine AK.val _ (Yl.fieldAddr fd45_1 rfl) ⟨_,rfl,gB hg_1_13⟩ rfl ?_
    refine AK.val _ (Yl.loadBox on3 rfl bsp rfl) ⟨_,rfl,gB hg_1_13⟩ rfl ?_
    refine AK.val _ (Yl.gtr rfl rfl) ⟨_,rfl,gB hg_1_13⟩ rfl ?_
    refine .v (.pickF rfl (hg_1_13) rfl) (.nt hK3 ?_)
    refine AK.condD rfl (fun hc0=>?_) (fun hc0=>?_)
    ·refine .sr fun _ hK7=>?_
     refine .as rfl (.nt hK7 (.ret (.then_ret ?_)))
     refine AK.ret1 rfl rfl (fun w hw=>⟨_,_,?_,rfl,Ret.of (hw.pick [] (by decide) rfl rfl)⟩)
     refine ⟨congrArg (Value.int .i64) ?_,rfl⟩
     unfold errN
     rw [if_pos (by omega)]
    ·have hc0':¬ (¬ (1≤n.L∧n.L≤6)∨n.S<0∨n.S > 64):=(by omega)
     refine .skip ?_
     refine AK.then_ (hK2 _ ?_)
     refine .seq fun _ hK8=>?_
     refine .seq fun _ hK9=>?_
     refine AK.quiet mixed krf ?_
     refine .v (.fieldAddr fd45_2 rfl) (.v (.loadBox on42 rfl bsp rfl) (.v (.fieldAddr fd45_3 rfl) (.v (.loadBox on42 rfl bsp rfl) (.v (.orU rfl rfl) (.v (.fieldAddr fd45_1 rfl) (.v (.loadBox on3 rfl bsp rfl) ?_))))))
     refine QK.call (uv (below n.S)) co113 rfl (fun w hw=>s_states w n.S (by omega)) (fun v o h=>h.1) trivial rfl ?_
     refine .v (.andNotU rfl rfl) (.v (.neqU (b:=0) rfl rfl) ?_)
     refine QK.nil (QK.fin ?_)
     refine AK.then_ (hK9 _ ?_)
     refine AK.condNe rfl (fun hc1=>?_) (fun hc1=>?_)
     ·refine .sr fun _ hK10=>?_
      refine .as rfl (.nt hK10 (.ret (.then_ret ?_)))
      refine AK.ret1 rfl rfl (fun w hw=>⟨_,_,?_,rfl,Ret.of (hw.pick [] (by decide) rfl rfl)⟩)
      refine ⟨congrArg (Value.int .i64) ?_,rfl⟩
      unfold errN
      rw [if_neg hc0',if_pos (by assumption)]
     ·have hc1':¬ ((n.st ||| n.fi) &&& ~~~(below n.S) ≠ 0):=(by first | exact hc1 | exact not_not_intro hc1)
      refine .skip ?_
      refine AK.then_ (hK8 _ ?_)
      refine .seq fun _ hK11=>?_
      refine .sr fun _ hK12=>?_
      refine .v (.fieldAddr fd45_4 rfl) (.v (.loadBox on43 rfl bsp rfl) (.v (.lenR sl43 rfl rdp) (.mv rfl (.nt hK12 (.block ?_)))))
      refine AK.loopK (X:=Nat) [(1,_),(34,_),(35,_)] (fun k=>[(36,.int .i64 (k:Int))]) (fun k=>[box bx1 45 5 [.int .i64 n.L,.int .i64 n.S,uv n.st,uv n.fi,vE]]) (fun k=>k≤n.es.length∧∀ j,j<k→badE n j=false) (fun k=>n.es.length - k) (0) slr ?_ ?_ ?_ ?_
      ·exact ⟨Nat.zero_le _,fun j hj=>by omega⟩
      ·exact slr
      ·exact fun w hw=>hw
      ·intro k hg0 _ hK13
       refine .sr fun _ hK14=>?_
       refine .v (.lss rfl rfl) (.nt hK14 ?_)
       refine .seq fun _ hK15=>?_
       refine AK.condD rfl (fun hc2=>?_) (fun hc2=>?_)
       ·refine .skip ?_
        refine AK.then_ (hK15 _ ?_)
        refine .seq fun _ hK16=>?_
        refine .block ?_
        refine .sr fun _ hK17=>?_
        refine .mv rfl ?_
        first | refine .v (.iN sl43 rfl rfl) ?_ | refine .v (.iK sl43 rfl rfl) ?_
        refine .v (.loadEd ag98 rfl rdp (by omega)) ?_
        refine AK.alloc el98 rfl rfl trivial rfl (fun bx4=>?_)
        refine .as rfl ?_
        refine AK.storeBox 1 (us:=ecs (n.es.getD k (0,0,0))) (cs':=ecs (n.es.getD k (0,0,0))) rfl sz98 rfl rfl rfl rfl (ecs_one _) (leb rfl) rfl trivial ?_
        refine .nt hK17 ?_
        refine .seq fun _ hK18=>?_
        refine .sr fun _ hK19=>?_
        refine .v (.fieldAddr fd98_0 rfl) (.v (.loadBox on3 rfl bsp rfl) (.v (.fieldAddr fd98_1 rfl) (.v (.loadBox on3 rfl bsp rfl) (.v (.fieldAddr fd98_2 rfl) (.v (.loadBox on3 rfl bsp rfl) (.v (.min3 rfl rfl rfl) (.v (.lss rfl rfl) ?_)))))))
        refine .mv rfl ?_
        refine AK.splitB (g:=49) rfl (fun hg_8_8=>?_) (fun hg_8_8=>?_)
        ·have hg_8_8':=hg_8_8
         try simp only [bs] at hg_8_8'
         refine AK.pass rfl rfl (hg_8_8) rfl ?_
         refine AK.pass rfl rfl (hg_8_8) rfl ?_
         refine AK.pass rfl rfl (hg_8_8) rfl ?_
         refine AK.pass rfl rfl (hg_8_8) rfl ?_
         refine AK.pass rfl rfl (hg_8_8) rfl ?_
         refine AK.pass rfl rfl (hg_8_8) rfl ?_
         refine AK.pass rfl rfl (hg_8_8) rfl ?_
         refine AK.pass rfl rfl (hg_8_8) rfl ?_
         refine .v (.pickT rfl (hg_8_8) rfl) (.mv rfl ?_)
         refine AK.pass rfl rfl rfl rfl ?_
         refine AK.pass rfl rfl rfl rfl ?_
         refine AK.pass rfl rfl rfl rfl ?_
         refine AK.pass rfl rfl rfl rfl ?_
         refine AK.pass rfl rfl rfl rfl ?_
         refine .v (.pickT rfl (rfl) rfl) (.nt hK19 ?_)
         refine AK.cond_t rfl (rfl) ?_
         refine .sr fun _ hK20=>?_
         refine .as rfl (.nt hK20 (.ret (.then_ret (.block_ret (.then_ret (.then_ret (.block_ret (.then_ret ?_))))))))
         refine AK.ret1 rfl rfl (fun w hw=>⟨_,_,?_,rfl,Ret.of (hw.pick [] (by decide) rfl rfl)⟩)
         refine ⟨congrArg (Value.int .i64) ?_,rfl⟩
         first | rfl | skip
         unfold errN
         rw [if_neg hc0',if_neg hc1',if_pos (any_at' (k:=k) (by omega) (badE_b (by unfold badB;exact decide_eq_true (by omega))))]
        ·have hg_8_8':=hg_8_8
         try simp only [bs] at hg_8_8'
         refine AK.val _ (Yl.fieldAddr fd98_0 rfl) ⟨_,rfl,gB hg_8_8⟩ rfl ?_
         refine AK.val _ (Yl.loadBox on3 rfl bsp rfl) ⟨_,rfl,gB hg_8_8⟩ rfl ?_
         refine AK.val _ (Yl.fieldAddr fd98_2 rfl) ⟨_,rfl,gB hg_8_8⟩ rfl ?_
         refine AK.val _ (Yl.loadBox on3 rfl bsp rfl) ⟨_,rfl,gB hg_8_8⟩ rfl ?_
         refine AK.val _ (Yl.max rfl rfl) ⟨_,rfl,gB hg_8_8⟩ rfl ?_
         refine AK.val _ (Yl.fieldAddr fd45_1 rfl) ⟨_,rfl,gB hg_8_8⟩ rfl ?_
         refine AK.val _ (Yl.loadBox on3 rfl bsp rfl) ⟨_,rfl,gB hg_8_8⟩ rfl ?_
         refine AK.val _ (Yl.geq rfl rfl) ⟨_,rfl,gB hg_8_8⟩ rfl ?_
         refine .v (.pickF rfl (hg_8_8) rfl) (.mv rfl ?_)
         refine AK.splitB (g:=59) rfl (fun hg_8_18=>?_) (fun hg_8_18=>?_)
         ·have hg_8_18':=hg_8_18
          try simp only [bs] at hg_8_18'
          refine AK.pass rfl rfl (hg_8_18) rfl ?_
          refine AK.pass rfl rfl (hg_8_18) rfl ?_
          refine AK.pass rfl rfl (hg_8_18) rfl ?_
          refine AK.pass rfl rfl (hg_8_18) rfl ?_
          refine AK.pass rfl rfl (hg_8_18) rfl ?_
          refine .v (.pickT rfl (hg_8_18) rfl) (.nt hK19 ?_)
          refine AK.cond_t rfl (rfl) ?_
          refine .sr fun _ hK21=>?_
          refine .as rfl (.nt hK21 (.ret (.then_ret (.block_ret (.then_ret (.then_ret (.block_ret (.then_ret ?_))))))))
          refine AK.ret1 rfl rfl (fun w hw=>⟨_,_,?_,rfl,Ret.of (hw.pick [] (by decide) rfl rfl)⟩)
          refine ⟨congrArg (Value.int .i64) ?_,rfl⟩
          first | rfl | skip
          unfold errN
          rw [if_neg hc0',if_neg hc1',if_pos (any_at' (k:=k) (by omega) (badE_b (by unfold badB;exact decide_eq_true (by omega))))]
         ·have hg_8_18':=hg_8_18
          try simp only [bs] at hg_8_18'
          refine AK.val _ (Yl.fieldAddr fd98_1 rfl) ⟨_,rfl,gB hg_8_18⟩ rfl ?_
          refine AK.val _ (Yl.loadBox on3 rfl bsp rfl) ⟨_,rfl,gB hg_8_18⟩ rfl ?_
          refine AK.val _ (Yl.fieldAddr fd45_0 rfl) ⟨_,rfl,gB hg_8_18⟩ rfl ?_
          refine AK.val _ (Yl.loadBox on3 rfl bsp rfl) ⟨_,rfl,gB hg_8_18⟩ rfl ?_
          refine AK.val _ (Yl.geq rfl rfl) ⟨_,rfl,gB hg_8_18⟩ rfl ?_
          refine .v (.pickF rfl (hg_8_18) rfl) (.nt hK19 ?_)
          refine AK.condD rfl (fun hc3=>?_) (fun hc3=>?_)
          ·refine .sr fun _ hK22=>?_
           refine .as rfl (.nt hK22 (.ret (.then_ret (.block_ret (.then_ret (.then_ret (.block_ret (.then_ret ?_))))))))
           refine AK.ret1 rfl rfl (fun w hw=>⟨_,_,?_,rfl,Ret.of (hw.pick [] (by decide) rfl rfl)⟩)
           refine ⟨congrArg (Value.int .i64) ?_,rfl⟩
           first | rfl | skip
           unfold errN
           rw [if_neg hc0',if_neg hc1',if_pos (any_at' (k:=k) (by omega) (badE_b (by unfold badB;exact decide_eq_true (by omega))))]
          ·have hbb:badB n k=false:=(by unfold badB;exact decide_eq_false (by omega))
           refine .skip ?_
           refine AK.then_ (hK18 _ ?_)
           refine .seq fun _ hK23=>?_
           refine AK.quiet mixed krf ?_
           refine .mv rfl (.v (.gtr rfl rfl) (.mv rfl ?_))
           refine QK.splitB (g:=68) rfl (fun hg_10_2=>?_) (fun hg_10_2=>?_)
           ·have hg_10_2':=hg_10_2
            try simp only [bs] at hg_10_2'
            refine QK.val _ (Yl.fieldAddr fd45_4 rfl) ⟨_,rfl,gB hg_10_2⟩ rfl ?_
            refine QK.val _ (Yl.loadBox on43 rfl bsp rfl) ⟨_,rfl,gB hg_10_2⟩ rfl ?_
            refine QK.val _ (Yl.move rfl) ⟨_,rfl,gB hg_10_2⟩ rfl ?_
            refine QK.val _ (Yl.sub rfl rfl (by omega)) ⟨_,rfl,gB hg_10_2⟩ rfl ?_
            first | refine QK.val _ (.iN sl43 rfl rfl) ⟨_,rfl,gB hg_10_2⟩ rfl ?_ | refine QK.val _ (.iK sl43 rfl rfl) ⟨_,rfl,gB hg_10_2⟩ rfl ?_
            refine QK.val (ev (n.es.getD (k - 1) (0,0,0))) (Yl.valE (Yl.loadEd (j:=k - 1) ag98 (by rw [show k - 1=((k:Int) - 1).toNat by omega];rfl) rdp (by omega)) rfl) ⟨_,rfl,gB hg_10_2⟩ rfl ?_
            refine QK.val _ (Yl.loadBoxE ag98 rfl bsp) ⟨_,rfl,gB hg_10_2⟩ rfl ?_
            refine QK.val _ (Yl.eqlE eqe98 rfl rfl) ⟨_,rfl,gB hg_10_2⟩ rfl ?_
            refine QK.val _ (Yl.move rfl) ⟨_,rfl,gB hg_10_2⟩ rfl ?_
            refine QK.splitB (g:=77) rfl (fun hg_10_11=>?_) (fun hg_10_11=>?_)
            ·have hg_10_11':=hg_10_11
             try simp only [bs] at hg_10_11'
             refine QK.pass rfl rfl (hg_10_11) rfl ?_
             refine QK.pass rfl rfl (hg_10_11) rfl ?_
             refine QK.pass rfl rfl (hg_10_11) rfl ?_
             refine QK.pass rfl rfl (hg_10_11) rfl ?_
             refine QK.pass rfl rfl (hg_10_11) rfl ?_
             refine QK.pass rfl rfl (hg_10_11) rfl ?_
             refine QK.pass rfl rfl (hg_10_11) rfl ?_
             refine QK.pass rfl rfl (hg_10_11) rfl ?_
             refine QK.pass rfl rfl (hg_10_11) rfl ?_
             refine QK.val _ (Yl.pickT rfl (hg_10_11) rfl) ⟨_,rfl,gB hg_10_2⟩ rfl ?_
             refine .v (.pickT rfl (hg_10_2) rfl) ?_
             refine QK.nil (QK.fin ?_)
             refine AK.then_ (hK23 _ ?_)
             refine AK.cond_t rfl (rfl) ?_
             refine .sr fun _ hK24=>?_
             refine .as rfl (.nt hK24 (.ret (.block_ret (.then_ret (.then_ret (.block_ret (.then_ret ?_)))))))
             refine AK.ret1 rfl rfl (fun w hw=>⟨_,_,?_,rfl,Ret.of (hw.pick [] (by decide) rfl rfl)⟩)
             refine ⟨congrArg (Value.int .i64) ?_,rfl⟩
             first | rfl | skip
             unfold errN
             rw [if_neg hc0',if_neg hc1',if_pos (any_at' (k:=k) (by omega) (badE_o (by omega) (bef_no (by first | exact .inl (by assumption) | exact .inr (by omega)))))]
            ·have hg_10_11':=hg_10_11
             try simp only [bs] at hg_10_11'
             refine QK.val _ (Yl.fieldAddr fd45_4 rfl) ⟨_,rfl,gB hg_10_11⟩ rfl ?_
             refine QK.val _ (Yl.loadBox on43 rfl bsp rfl) ⟨_,rfl,gB hg_10_11⟩ rfl ?_
             refine QK.val _ (Yl.move rfl) ⟨_,rfl,gB hg_10_11⟩ rfl ?_
             refine QK.val _ (Yl.sub rfl rfl (by omega)) ⟨_,rfl,gB hg_10_11⟩ rfl ?_
             first | refine QK.val _ (.iN sl43 rfl rfl) ⟨_,rfl,gB hg_10_11⟩ rfl ?_ | refine QK.val _ (.iK sl43 rfl rfl) ⟨_,rfl,gB hg_10_11⟩ rfl ?_
             refine QK.val (ev (n.es.getD (k - 1) (0,0,0))) (Yl.valE (Yl.loadEd (j:=k - 1) ag98 (by rw [show k - 1=((k:Int) - 1).toNat by omega];rfl) rdp (by omega)) rfl) ⟨_,rfl,gB hg_10_11⟩ rfl ?_
             refine QK.val _ (Yl.loadBoxE ag98 rfl bsp) ⟨_,rfl,gB hg_10_11⟩ rfl ?_
             refine QK.call (.int .i64 (cmpE (n.es.getD (k - 1) (0,0,0)) (n.es.getD k (0,0,0)))) co58 rfl (fun w hw=>s_cmpe w (n.es.getD (k - 1) (0,0,0)) (n.es.getD k (0,0,0))) (fun v o h=>h.1) ⟨_,rfl,gB hg_10_11⟩ rfl ?_
             refine QK.val _ (Yl.gtr rfl rfl) ⟨_,rfl,gB hg_10_11⟩ rfl ?_
             refine QK.val _ (Yl.pickF rfl (hg_10_11) rfl) ⟨_,rfl,gB hg_10_2⟩ rfl ?_
             refine .v (.pickT rfl (hg_10_2) rfl) ?_
             refine QK.nil (QK.fin ?_)
             refine AK.then_ (hK23 _ ?_)
             refine AK.condD rfl (fun hc4=>?_) (fun hc4=>?_)
             ·refine .sr fun _ hK25=>?_
              refine .as rfl (.nt hK25 (.ret (.block_ret (.then_ret (.then_ret (.block_ret (.then_ret ?_)))))))
              refine AK.ret1 rfl rfl (fun w hw=>⟨_,_,?_,rfl,Ret.of (hw.pick [] (by decide) rfl rfl)⟩)
              refine ⟨congrArg (Value.int .i64) ?_,rfl⟩
              first | rfl | skip
              unfold errN
              rw [if_neg hc0',if_neg hc1',if_pos (any_at' (k:=k) (by omega) (badE_o (by omega) (bef_no (by first | exact .inl (by assumption) | exact .inr (by omega)))))]
             ·refine .skip (.block_normal ?_)
              refine AK.then_ (hK16 _ ?_)
              refine AK.region ?_
              refine .v (.add rfl rfl (by omega)) ?_
              refine .mv rfl (.nil ?_)
              first | refine AK.then_ (hK13 _ _ (k+1) ⟨by omega,ext_n hg0.2 (badE_no hbb (fun h=>by omega))⟩ (by omega) (slr) (fun w hw=>hw.pick [0] (by decide) rfl rfl)) | refine AK.then_ (hK13 _ _ (k+1) ⟨by omega,ext_n hg0.2 (badE_no hbb (fun _=>bef_iff.2 (fun h=>h.elim (by assumption) (fun h=>by omega))))⟩ (by omega) (slr) (fun w hw=>hw.pick [0] (by decide) rfl rfl))
           ·have hg_10_2':=hg_10_2
            try simp only [bs] at hg_10_2'
            refine QK.pass rfl rfl (hg_10_2) rfl ?_
            refine QK.pass rfl rfl (hg_10_2) rfl ?_
            refine QK.pass rfl rfl (hg_10_2) rfl ?_
            refine QK.pass rfl rfl (hg_10_2) rfl ?_
            refine QK.pass rfl rfl (hg_10_2) rfl ?_
            refine QK.pass rfl rfl (hg_10_2) rfl ?_
            refine QK.pass rfl rfl (hg_10_2) rfl ?_
            refine QK.pass rfl rfl (hg_10_2) rfl ?_
            refine QK.pass rfl rfl (hg_10_2) rfl ?_
            refine QK.pass rfl rfl trivial rfl ?_
            refine QK.pass rfl rfl trivial rfl ?_
            refine QK.pass rfl rfl trivial rfl ?_
            refine QK.pass rfl rfl trivial rfl ?_
            refine QK.pass rfl rfl trivial rfl ?_
            refine QK.pass rfl rfl trivial rfl ?_
            refine QK.pass rfl rfl trivial rfl ?_
            refine QK.pass rfl rfl trivial rfl ?_
            refine QK.pass rfl rfl trivial rfl ?_
            refine QK.pass rfl rfl (hg_10_2) rfl ?_
            refine .v (.pickF rfl (hg_10_2) rfl) ?_
            refine QK.nil (QK.fin ?_)
            refine AK.then_ (hK23 _ ?_)
            refine AK.cond_f rfl (rfl) ?_
            refine .skip (.block_normal ?_)
            refine AK.then_ (hK16 _ ?_)
            refine AK.region ?_
            refine .v (.add rfl rfl (by omega)) ?_
            refine .mv rfl (.nil ?_)
            first | refine AK.then_ (hK13 _ _ (k+1) ⟨by omega,ext_n hg0.2 (badE_no hbb (fun h=>by omega))⟩ (by omega) (slr) (fun w hw=>hw.pick [0] (by decide) rfl rfl)) | refine AK.then_ (hK13 _ _ (k+1) ⟨by omega,ext_n hg0.2 (badE_no hbb (fun _=>bef_iff.2 (fun h=>h.elim (by assumption) (fun h=>by omega))))⟩ (by omega) (slr) (fun w hw=>hw.pick [0] (by decide) rfl rfl))
       ·refine .exit (.then_exit (.then_exit (.block_exit ?_)))
        refine AK.then_ (hK11 _ ?_)
        refine .sr fun _ hK26=>?_
        refine .as rfl (.nt hK26 (.ret ?_))
        refine AK.ret1 rfl rfl (fun w hw=>⟨_,_,?_,rfl,Ret.of (hw.pick [] (by decide) rfl rfl)⟩)
        refine ⟨congrArg (Value.int .i64) ?_,rfl⟩
        unfold errN
        rw [if_neg hc0',if_neg hc1',if_neg (no_any (fun j hj=>hg0.2 j (by omega)))]
end Go.Proofs.YtbibnpdnmmgacaaGreatDoor
namespace Go.Sx
open Go.RowKit
def mI (l:List Nat):List Int:=l.map fun (i:Nat)=>(i:Int)
theorem mI_len (l:List Nat):(mI l).length=l.length:=by simp [mI]
theorem mI_get {l:List Nat} {k:Nat} (h:k<l.length):(mI l).getD k 0=((l.getD k 0:Nat):Int):=by simp [mI,List.getD_eq_getElem?_getD,h]
theorem mI_app (a:List Nat) (i:Nat):mI (a++[i])=mI a++[(i:Int)]:=by simp [mI]
theorem imgL_app {r:List W64}:∀ (l:List Nat) (acc:W64) (i:Nat),imgL r acc (l++[i])=imgL r acc l ||| r.getD i 0
 | [],acc,i=>rfl
 | j :: l,acc,i=>imgL_app l (acc ||| r.getD j 0) i
theorem imgL_next {r:List W64} {l:List Nat} {k:Nat} (h:k<l.length):imgL r 0 (l.take (k+1))=imgL r 0 (l.take k) ||| r.getD (l.getD k 0) 0:=by
 rw [take_snocD 0 l k h,imgL_app]
theorem mem_lt {s:W64} {m k:Nat} (hm:m≤64) (hk:k<(mems (s &&& below (m:Int))).length):(mems (s &&& below (m:Int))).getD k 0<m:=by
 have h:=mem_mems.1 (getD_mem (d:=0) hk)
 generalize (mems (s &&& below (m:Int))).getD k 0=q at h
 rw [BitVec.getLsbD_and,Bool.and_eq_true] at h
 rcases Nat.lt_or_ge q 64 with h4 | h4
 ·have h5:=h.2
  rw [below_bit (by omega) q h4] at h5
  have:=of_decide_eq_true h5
  omega
 ·have h5:=h.2
  rw [BitVec.getLsbD_of_ge _ _ h4] at h5;cases h5
end Go.Sx
namespace Go.Sx
open Go.RowKit
section rowarr
variable {C : Cx} {sl : List (Nat × Value)} {own : List Asn} {dst : Option Nat} {ty : TypeId} {pos : String} {aft : Array Edge} {g : Option (Nat × Bool)}
end rowarr
section rowarr2
variable {C : Cx} {sl : List (Nat × Value)} {own : List Asn} {ops : Array Oper} {Q : Exit → Act → World → Prop} {ty : TypeId} {pos : String} {aft : Array Edge} {g : Option (Nat × Bool)} {rest : List Oper}
end rowarr2
end Go.Sx
namespace Go.Sx
end Go.Sx
namespace Go.Sx
open Go.RowKit
section cuts
variable {C : Cx} {sl : List (Nat × Value)} {own : List Asn} {dst : Option Nat} {ty : TypeId} {pos : String} {aft : Array Edge} {g : Option (Nat × Bool)}
def CutS (C:Cx) (own:List Asn) (v:Value) (n:Nat):Prop:=∀ w,HW C own w→∃ ao c,v = .slice ao n c∧n≤c
theorem CutS.row (i:Nat) {v:Value} {E:TypeId} {sz n:Nat} {cs:List Value} (hi:own[i]? = some (row v E sz n cs)):CutS C own v n:=fun w hw=>by
 obtain ⟨_,Fs,hhp,_⟩:=hw
 obtain ⟨hown,_⟩:=hhp.at_ i _ hi
 rcases hown.2 with ⟨rfl,rfl⟩ | ⟨gb,cp,cur,rfl,_,_,hnc,_⟩
 ·exact ⟨none,0,rfl,Nat.le_refl _⟩
 ·exact ⟨_,cp,rfl,hnc⟩
def slFr (v:Value) (sz m:Nat):Value:=match v with
 | .slice a n c=>.slice (if c=m then a else a.map (·.add (m * sz))) (n - m) (c - m)
 | v=>v
theorem Yl.sliceFr {x l:Operand} {t E:TypeId} {sz n:Nat} {v:Value} {m:Int} (hc:CutS C own v n) (ht:SlT C.P t E sz) (hx:opv ⟨sl,own⟩ x=some v) (hh:opv ⟨sl,own⟩ l=some (.int .i64 m)) (hm:0≤m∧m≤n) :
  Yl C ⟨sl,own⟩ ⟨dst,.slice t x (some l) none none,ty,pos,aft,g⟩ (slFr v sz m.toNat):=
 fun a w hs=>by
  obtain ⟨ao,c,rfl,hnc⟩:=hc w hs.world
  obtain ⟨inf,hi1,hi2⟩:=ht.inf
  simp only [execOp,opv_eval hs hx,Option.map_none,Option.map_some,opv_eval hs hh]
  simp [Instr.sliceAt,Instr.slice,Instr.sliceBounds,Instr.sliceBound,asIntOf,run_underlying ht.1,hm.1,hm.2,sizeOf,typeInfo,hi1,slFr,hi2]
end cuts
section cuts2
variable {C : Cx} {sl : List (Nat × Value)} {own : List Asn} {ops : Array Oper} {Q : Exit → Act → World → Prop} {ty : TypeId} {pos : String} {aft : Array Edge} {g : Option (Nat × Bool)} {rest : List Oper}
end cuts2
end Go.Sx
