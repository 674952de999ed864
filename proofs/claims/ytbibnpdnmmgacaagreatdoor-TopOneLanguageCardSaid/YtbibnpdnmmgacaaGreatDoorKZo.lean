import Derived.Test.YtbibnpdnmmgacaaGreatDoorKZn
import Derived.Test.YtbibnpdnmmgacaaGreatDoorKZi
import Derived.Test.YtbibnpdnmmgacaaGreatDoorKZm
import Derived.Test.YtbibnpdnmmgacaaGreatDoorKZf
import Derived.Test.YtbibnpdnmmgacaaGreatDoorKZg
import Derived.Test.YtbibnpdnmmgacaaGreatDoorKZc
set_option linter.unusedVariables false
set_option linter.unusedSimpArgs false
set_option maxRecDepth 100000
namespace Go.Proofs.YtbibnpdnmmgacaaGreatDoor
open Go.Sx Go.RowKit
theorem Ug (w:World) (s:cF) (hT:vp w):aK Tryz.prog 108 [uv s] w (fun r o=>r = .int .i64 ((Lib.ctz 64 s.toNat:Nat):Int)∧o=[]):=by
 refine aC Tryz.func108 rfl (aT rfl) ?_
 refine .sr fun _ bl=>?_
 refine .as rfl (.nt bl ?_)
 refine .seq fun _ bg=>?_
 refine .sr fun _ bW=>?_
 refine .mv rfl (.v (.UC (b:=0) rfl rfl) (.nt bW ?_))
 refine .aA rfl (fun bx=>?_) (fun bx=>?_)
 ·refine .sr fun _ cr=>?_
  refine .as rfl (.nt cr (.ret (.ae ?_)))
  refine .aG rfl rfl (fun w hw=>⟨_,_,?_,rfl,.of (hw.pk [])⟩)
  rw [bx]
  exact ⟨rfl,rfl⟩
 ·obtain ⟨k,Ho,MP,hk3⟩:=RT (s:=s) bx
  have hct:=(xc bx).1
  refine .skip ?_
  refine .ab (bg _ ?_)
  refine .sr fun _ cJ=>?_
  refine .mv rfl (.mv rfl (.v (.YH rfl) (.v (.HH rfl rfl) (.v (.YJ (b:=285870213051353865) rfl rfl) ?_))))
  refine .val (.int .u64 (k:Int)) (.iW (.Uf (n:=58) rfl rfl (by omega)) (by show uv (((s &&& -s) * 285870213051353865) >>> 58)=_;rw [MP];exact RS Ho)) trivial rfl ?_
  refine .val (.pointer (some ⟨0,k,none⟩)) (.iW (.OA Wi rfl rfl Ho) (by simp)) trivial rfl ?_
  refine .val (.int .u8 ((Lib.ctz 64 s.toNat:Nat):Int)) (.iW (.SC Xl rfl Ho hT) (by rw [hk3])) trivial rfl ?_
  refine .v (.wy (by kernel_rfl) Mk rfl (wrap_i64 (by omega))) ?_
  refine .as rfl (.nt cJ (.ret ?_))
  refine .aG rfl rfl (fun w hw=>⟨_,_,?_,rfl,.of (hw.pk [])⟩)
  exact ⟨rfl,rfl⟩
theorem Gp (w:World) (wd:List UInt8) (hl:wd.length≤62):aK Tryz.prog 39 [.agg #[sv wd]] w (fun r o=>aB r∧o=[row r 42 1 1 ([0].map uv)]):=by
 refine aC Tryz.func39 rfl (aT rfl) ?_
 refine .sr fun _ bl=>?_
 refine .cS (E:=75) (cs:=[sv wd]) rfl rfl rfl trivial rfl (fun jV=>?_)
 refine .as rfl (.nt bl ?_)
 refine .sr fun _ bg=>?_
 refine .v (.fieldAddr As rfl) (.v (.aa Wr rfl ax rfl) (.v (.Ea DM rfl) ?_))
 refine .val (.int .i64 0) (.iW (.shr (n:=6) rfl rfl (by omega) (by omega)) (by rw [JZ (by omega)])) trivial rfl ?_
 refine .val (.int .i64 ((1:Nat):Int)) (.HI 1 rfl rfl (by omega) (by omega)) trivial rfl ?_
 refine .kT Hw JE rfl rfl rfl (by omega) (by omega) trivial rfl (fun iQ=>?_)
 refine .as rfl (.nt bg (.ret ?_))
 refine .shape 1 rfl (fun B0=>?_)
 refine .aG rfl rfl (fun w hw=>⟨_,_,?_,rfl,.of (hw.pk [1])⟩)
 exact ⟨B0,rfl⟩
theorem En (w:World) (F:Nat→Prop) (s:Value) (x:cF) (i:Nat) (hi:i<64) (hA:(row s 42 1 1 ([x].map uv)).holds w F):ck Tryz.prog 40 [s,.int .i64 (i:Int)] w F (fun r A o=>A=row s 42 1 1 ([(x ||| ((1:cF) <<< i))].map uv)∧o=[]):=by
 refine cu Tryz.func40 rfl (aT rfl) hA ?_
 try (conv=>enter [2,2];simp only [cE])
 refine .held 10 mixed ?_
 refine .F 0 10 11 1 rfl (.move rfl) trivial ?_
 refine .F 1 9 11 3 rfl (.move rfl) trivial ?_
 refine .F 2 8 11 7 rfl (.iW (.shr (m:=(i:Int)) (n:=6) rfl rfl (by omega) (by omega)) (show _=Value.int .i64 ((0:Nat):Int) from by rw [JZ hi];rfl)) trivial ?_
 refine .F 3 7 11 15 rfl (.iN Hw rfl rfl) trivial ?_
 refine .F 4 6 11 31 rfl (.rS iY rfl a8 (aT rfl)) trivial ?_
 refine .F 5 5 11 63 rfl (.move rfl) trivial ?_
 refine .F 6 4 11 127 rfl (.iW (.KL rfl rfl) (show _=Value.int .i64 (i:Int) from by rw [Qf hi])) trivial ?_
 refine .F 7 3 11 255 rfl (.D8 (a:=1) (n:=(i:Int)) rfl rfl (by omega)) trivial ?_
 refine .F 8 2 11 511 rfl (.IZ rfl rfl) trivial ?_
 refine .F 9 1 11 1023 rfl (.iN Hw rfl rfl) trivial ?_
 refine .O 10 0 11 2047 rfl ?_
 refine .di 0 rfl zX rfl rfl rfl rfl (by omega) (cs':=([x ||| ((1:cF) <<< i)].map uv)) (rfl) trivial ?_
 refine .nil ?_
 try (conv=>enter [2,2];simp only [cE])
 refine ay.ir 11 cx rfl cx ?_
 refine .nil ?_
 refine .fu ?_
 refine .jz [] rfl (.nil) (fun w hw=>⟨_,_,_,?_,rfl,.of (hw.pk [0])⟩)
 exact ⟨rfl,rfl⟩
theorem Sa (w:World) (s:Value) (x:cF) (i:Nat) (hi:i<64) (hr:Rd (fun b=>¬ (fun _=>False) b) w s 1 1 ([x].map uv)):aK Tryz.prog 42 [s,.int .i64 (i:Int)] w (fun r o=>r = .bool (x.getLsbD i)∧o=[]):=by
 refine aC Tryz.func42 rfl (aT rfl) ?_
 refine .sr fun _ bl=>?_
 refine .as rfl (.nt bl ?_)
 refine .sr fun _ bg=>?_
 refine .mv rfl (.mv rfl ?_)
 refine .v (.iW (.shr (m:=(i:Int)) (n:=6) rfl rfl (by omega) (by omega)) (show _=Value.int .i64 ((0:Nat):Int) from by rw [JZ hi];rfl)) ?_
 refine .v (.iN Hw rfl rfl) (.v (.rS iY rfl a8 (aT rfl)) (.mv rfl ?_))
 refine .v (.iW (.KL rfl rfl) (show _=Value.int .i64 (i:Int) from by rw [Qf hi])) ?_
 refine .v (.Uf (n:=(i:Int)) rfl rfl (by omega)) ?_
 refine .v (.HH (b:=1) rfl rfl) (.v (.UC (b:=1) rfl rfl) (.as rfl (.nt bg (.ret ?_))))
 refine .aG rfl rfl (fun w hw=>⟨_,_,?_,rfl,.of (hw.pk [])⟩)
 exact ⟨congrArg Value.bool (OR x i),rfl⟩
set_option maxHeartbeats 1000000 in
theorem NP (w:World) (F:Nat→Prop) (JP:List Nat→bk→Prop) (A0:bk) (hJ0:JP [] A0) (hA:A0.holds w F) (s:Value) (x:cF) (hr:Rd (fun b=>¬ F b) w s 1 1 ([x].map uv)) (hT:vp w) (hF:¬ F 0) (f:FuncId) (cs:List Value) (zT:aj Tryz.prog f) (hv:∀ (w':World) (F':Nat→Prop) (A:bk) (pre:List Nat) (i:Nat) (post:List Nat),pre++i :: post=c5 x→JP pre A→A.holds w' F'→bj F w w'→(∀ b,F' b→w.heap.size≤b∨F b)→ck Tryz.prog f (.int .i64 (i:Int) :: cs) w' F' (fun r A' o=>JP (pre++[i]) A'∧o=[])):ck Tryz.prog 95 [s,.func (.func f) #[] cs.toArray] w F (fun r A o=>JP (c5 x) A∧o=[]):=by
 have Fz:=mD x
 refine cu Tryz.func95 rfl (aT rfl) hA ?_
 refine .sr fun _ bl=>?_
 refine .mv rfl (.v (.aZ Hw rfl a8) (.mv rfl (.nt bl (.block ?_))))
 refine .bE (X:=Nat × bk × List Nat) [(1,_),(6,_),(7,_)] (fun z=>[(8,.int .i64 (z.1:Int))]) (fun z=>[z.2.1]) (fun z=>z.1≤1∧JP z.2.2 z.2.1∧(z.1=0→z.2.2=[])∧(z.1=1→z.2.2=c5 x)) (fun z=>1 - z.1) ((0,A0,[])) aU ?_ ?_ ?_ ?_
 ·exact ⟨Nat.zero_le _,hJ0,fun _=>rfl,fun h=>absurd h Nat.zero_ne_one⟩
 ·exact aU
 ·exact fun w hw=>hw
 ·intro z aV _ bg
  refine .sr fun _ bW=>?_
  refine .v (.lss rfl rfl) (.nt bW ?_)
  refine .seq fun _ cr=>?_
  refine .aA rfl (fun bx=>?_) (fun bx=>?_)
  ·have hz:z.1=0:=by omega
   refine .skip ?_
   refine .ab (cr _ ?_)
   refine .seq fun _ cJ=>?_
   refine .block ?_
   refine .sr fun _ cU=>?_
   refine .mv rfl (.v (.iN Hw rfl rfl) ?_)
   refine .val (uv x) (.iW (.rS (xs:=[x]) iY rfl a8 (by show z.1<1;omega)) (by rw [hz];rfl)) trivial rfl ?_
   refine .as rfl (.as rfl (.nt cU (.block ?_)))
   refine .bE (X:=cF × bk × List Nat) [(1,_),(4,_),(6,_),(7,_),(8,_)] (fun y=>[(5,uv y.1)]) (fun y=>[y.2.1]) (fun y=>y.2.2++c5 y.1=c5 x∧JP y.2.2 y.2.1) (fun y=>(c5 y.1).length) ((x,z.2.1,z.2.2)) aU ?_ ?_ ?_ ?_
   ·exact ⟨by dsimp only;rw [aV.2.2.1 (by omega)];rfl,aV.2.1⟩
   ·exact aU
   ·exact fun w hw=>hw
   ·intro y c6 _ c7
    refine .seq fun _ dm=>?_
    refine .sr fun _ dD=>?_
    refine .mv rfl (.v (.Jm (b:=0) rfl rfl) (.nt dD ?_))
    refine .df rfl (fun cB=>?_) (fun cB=>?_)
    ·have Mt:=zm cB
     have Pf:=(xc cB).1
     refine .skip ?_
     refine .ab (dm _ ?_)
     refine .seq fun _ bJ=>?_
     refine .block ?_
     refine .region ?_
     refine .mv rfl (.mv rfl ?_)
     refine .v (.iW (.Yx 0 rfl rfl (by omega) (by rw [hz];rfl) (by omega)) (show _=Value.int .i64 0 from rfl)) ?_
     refine .mv rfl ?_
     refine .call P7 rfl (fun w hw=>Ug w y.1 (hT.at hw hF)) trivial rfl ?_
     rintro r o ⟨rfl,rfl⟩
     refine .val (.int .i64 ((Lib.ctz 64 y.1.toNat:Nat):Int)) (.iW (.add rfl rfl (by omega)) (by rw [Int.zero_add])) trivial rfl ?_
     refine .q9 0 rfl (us:=[]) (cs:=cs) zT rfl rfl (fun w Fs hw hh bI bc=>hv w (Fs 0) y.2.1 y.2.2 (Lib.ctz 64 y.1.toNat) (c5 (y.1 &&& (y.1 - 1))) (by rw [← Mt];exact c6.1) c6.2 (hh.at_ 0 _ rfl) bI (bc 0)) trivial rfl ?_
     rintro r A o ⟨hJ1,rfl⟩
     refine .nil (.ag ?_)
     refine .ab (bJ _ ?_)
     refine .region ?_
     refine .mv rfl (.mv rfl (.v (.Je (b:=1) rfl rfl) (.v (.HH rfl rfl) (.as rfl (.nil ?_)))))
     refine .ab (c7 _ _ ((y.1 &&& (y.1 - 1),A,y.2.2++[Lib.ctz 64 y.1.toNat])) ⟨by dsimp only;rw [← c6.1,Mt,List.append_assoc];rfl,hJ1⟩ (by dsimp only;rw [Mt];simp) (aU) (fun w hw=>hw))
    ·refine .exit (.ai (.ai (.ar (.ag ?_))))
     refine .ab (cJ _ ?_)
     refine .region ?_
     refine .v (.add rfl rfl (by omega)) ?_
     refine .mv rfl (.nil ?_)
     refine .ab (bg _ _ ((z.1+1,y.2.1,y.2.2)) ⟨by dsimp only;omega,c6.2,fun h=>absurd h (by dsimp only;omega),fun _=>by have h:=c6.1;rw [show y.1=0 by assumption,zk,List.append_nil] at h;exact h⟩ (by dsimp only;omega) (aU) (fun w hw=>hw))
  ·refine .exit (.ai (.ai (.ar ?_)))
   refine .jz [] rfl (.nil) (fun w hw=>⟨_,_,_,?_,rfl,.of (hw.pk [0])⟩)
   exact ⟨(aV.2.2.2 (by omega)) ▸ aV.2.1,rfl⟩
set_option maxHeartbeats 1000000 in
theorem NW (w:World) (F:Nat→Prop) (e:Ex) (s:Value) (wd:List UInt8) (hl:wd.length≤62) (hv:gK 6 wd=true) (i:Nat) (hi:i≤wd.length) (bm be br:Nat) (vr:Value) (hA:(bh [box bm 75 1 [sv wd],box be 24 3 [.int .i64 e.op,.int .i64 e.lt,s],box br 79 1 [vr],row vr 76 1 (wd.length+1) (List.replicate (wd.length+1) aW)]).holds w F):ck Tryz.prog 96 [.int .i64 (i:Int),.pointer (some ⟨bm,0,none⟩),.pointer (some ⟨br,0,none⟩),.pointer (some ⟨be,0,none⟩)] w F (fun r A o=>∃ nv,aB nv∧A=bh [box bm 75 1 [sv wd],box be 24 3 [.int .i64 e.op,.int .i64 e.lt,s],box br 79 1 [vr],row vr 76 1 (wd.length+1) ((List.replicate (wd.length+1) aW).set i nv),row nv 42 1 1 ([jE e wd i].map uv)]∧o=[]):=by
 refine dW Tryz.func96 rfl (aT rfl) hA ?_
 refine .seq fun _ bl=>?_
 try (conv=>enter [2,2];simp only [cE])
 refine .held 5 mixed ?_
 refine .F 0 5 6 1 rfl (.aa M4 rfl ax rfl) trivial ?_
 refine .F 1 4 6 3 rfl (.move rfl) trivial ?_
 refine .F 2 3 6 7 rfl (.ak RE rfl ax rfl rfl) trivial ?_
 refine .O 3 2 6 15 rfl ?_
 refine .call UM rfl (fun w hw=>Gp w wd hl) trivial rfl ?_
 rintro nv o ⟨IK,rfl⟩
 refine .nil ?_
 try (conv=>enter [2,2];simp only [cE])
 refine ay.back Go.Sx.hle ?_
 refine .F 4 1 6 31 rfl (.iN Ji rfl rfl) trivial ?_
 refine .O 5 0 6 63 rfl ?_
 refine .Kd 3 rfl Yq rfl rfl (aB.cells IK) (aB.one IK) (by omega) trivial ?_
 refine .nil ?_
 try (conv=>enter [2,2];simp only [cE])
 refine ay.ir 6 cx rfl cx ?_
 refine .nil ?_
 refine .fu ?_
 refine .ab (bl _ ?_)
 refine .block ?_
 refine .sr fun _ bg=>?_
 refine .v (.fieldAddr cP rfl) (.v (.aa cQ rfl ax rfl) (.v (.eql rfl rfl) (.as rfl (.nt bg ?_))))
 refine .aA rfl (fun bx=>?_) (fun bx=>?_)
 ·refine .region ?_
  refine .v (.aa M4 rfl ax rfl) (.mv rfl (.v (.iN Ji rfl rfl) ?_))
  refine .val nv (.iW (.jD Q0 rfl a8 (by rw [List.length_set,List.length_replicate];omega)) (AS (by omega))) trivial rfl ?_
  refine .mv rfl ?_
  refine .aY 4 rfl Rx rfl (fun w Fs hw hh bI bc=>En w (Fs 4) nv 0 i (by omega) (hh.at_ 4 _ rfl)) trivial rfl ?_
  rintro r A o ⟨rfl,rfl⟩
  refine .nil (.ag ?_)
  refine .jz [] rfl (.nil) (fun w hw=>⟨_,_,_,?_,rfl,kq.ez hw⟩)
  refine ⟨nv,IK,?_,rfl⟩
  (rw [show jE e wd i=0 ||| (1:cF) <<< i from if_pos bx] <;> rfl)
 ·refine .seq fun _ bW=>?_
  refine .quiet mixed cx ?_
  refine .v (.fieldAddr cP rfl) (.v (.aa cQ rfl ax rfl) (.v (.eql rfl rfl) (.mv rfl ?_)))
  refine .bQ (g:=24) rfl (fun iG=>?_) (fun iG=>?_)
  ·have Bf:=iG
   try simp only [bs] at Bf
   refine .val _ (.move rfl) ⟨_,rfl,gB iG⟩ rfl ?_
   refine .val _ (.fieldAddr As rfl) ⟨_,rfl,gB iG⟩ rfl ?_
   refine .val _ (.aa Wr rfl ax rfl) ⟨_,rfl,gB iG⟩ rfl ?_
   refine .val _ (.Ea DM rfl) ⟨_,rfl,gB iG⟩ rfl ?_
   refine .val _ (.lss rfl rfl) ⟨_,rfl,gB iG⟩ rfl ?_
   refine .v (.bw rfl (iG) rfl) (.mv rfl ?_)
   refine .bQ (g:=31) rfl (fun dB=>?_) (fun dB=>?_)
   ·have xg:=dB
    try simp only [bs] at xg
    refine .val _ (.fieldAddr As rfl) ⟨_,rfl,gB dB⟩ rfl ?_
    refine .val _ (.aa Wr rfl ax rfl) ⟨_,rfl,gB dB⟩ rfl ?_
    refine .val _ (.move rfl) ⟨_,rfl,gB dB⟩ rfl ?_
    refine .val _ (.JQ DM rfl rfl (by omega)) ⟨_,rfl,gB dB⟩ rfl ?_
    refine .val _ (.Ps rfl rfl (by have:=Ga hv (i:=i) (by omega);omega)) ⟨_,rfl,gB dB⟩ rfl ?_
    refine .val _ (.wy (by kernel_rfl) Mk rfl (wrap_i64 (by have:=Ga hv (i:=i) (by omega);omega))) ⟨_,rfl,gB dB⟩ rfl ?_
    refine .val _ (.fieldAddr gr rfl) ⟨_,rfl,gB dB⟩ rfl ?_
    refine .val _ (.aa cQ rfl ax rfl) ⟨_,rfl,gB dB⟩ rfl ?_
    refine .val _ (.eql rfl rfl) ⟨_,rfl,gB dB⟩ rfl ?_
    refine .v (.bw rfl (dB) rfl) (.as rfl (.nil (QK.fin ?_)))
    refine .ab (bW _ ?_)
    refine .aA rfl (fun cB=>?_) (fun cB=>?_)
    ·refine .region ?_
     refine .v (.aa M4 rfl ax rfl) (.mv rfl (.v (.iN Ji rfl rfl) ?_))
     refine .val nv (.iW (.jD Q0 rfl a8 (by rw [List.length_set,List.length_replicate];omega)) (AS (by omega))) trivial rfl ?_
     refine .mv rfl ?_
     refine .v (.add rfl rfl (by omega)) ?_
     refine .aY 4 rfl Rx rfl (fun w Fs hw hh bI bc=>En w (Fs 4) nv 0 (i+1) (by omega) (hh.at_ 4 _ rfl)) trivial rfl ?_
     rintro r A o ⟨rfl,rfl⟩
     refine .nil (.ag ?_)
     refine .jz [] rfl (.nil) (fun w hw=>⟨_,_,_,?_,rfl,kq.ez hw⟩)
     refine ⟨nv,IK,?_,rfl⟩
     (rw [show jE e wd i=0 ||| (1:cF) <<< (i+1) from by unfold jE;rw [if_neg bx,if_pos (by omega)]] <;> rfl)
    ·refine .skip (.ag ?_)
     refine .jz [] rfl (.nil) (fun w hw=>⟨_,_,_,?_,rfl,kq.ez hw⟩)
     refine ⟨nv,IK,?_,rfl⟩
     (rw [show jE e wd i=0 from by unfold jE;rw [if_neg bx,if_neg (by omega)]] <;> rfl)
   ·have xg:=dB
    try simp only [bs] at xg
    refine .pass rfl rfl (dB) rfl ?_
    refine .pass rfl rfl (dB) rfl ?_
    refine .pass rfl rfl (dB) rfl ?_
    refine .pass rfl rfl (dB) rfl ?_
    refine .pass rfl rfl (dB) rfl ?_
    refine .pass rfl rfl (dB) rfl ?_
    refine .pass rfl rfl (dB) rfl ?_
    refine .pass rfl rfl (dB) rfl ?_
    refine .pass rfl rfl (dB) rfl ?_
    refine .v (.cH rfl (dB) rfl) (.as rfl (.nil (QK.fin ?_)))
    refine .ab (bW _ ?_)
    refine .dH rfl (rfl) ?_
    refine .skip (.ag ?_)
    refine .jz [] rfl (.nil) (fun w hw=>⟨_,_,_,?_,rfl,kq.ez hw⟩)
    refine ⟨nv,IK,?_,rfl⟩
    (rw [show jE e wd i=0 from by unfold jE;rw [if_neg bx,if_neg (by omega)]] <;> rfl)
  ·have Bf:=iG
   try simp only [bs] at Bf
   refine .pass rfl rfl (iG) rfl ?_
   refine .pass rfl rfl (iG) rfl ?_
   refine .pass rfl rfl (iG) rfl ?_
   refine .pass rfl rfl (iG) rfl ?_
   refine .pass rfl rfl (iG) rfl ?_
   refine .v (.cH rfl (iG) rfl) (.mv rfl ?_)
   refine .pass rfl rfl rfl rfl ?_
   refine .pass rfl rfl rfl rfl ?_
   refine .pass rfl rfl rfl rfl ?_
   refine .pass rfl rfl rfl rfl ?_
   refine .pass rfl rfl rfl rfl ?_
   refine .pass rfl rfl rfl rfl ?_
   refine .pass rfl rfl rfl rfl ?_
   refine .pass rfl rfl rfl rfl ?_
   refine .pass rfl rfl rfl rfl ?_
   refine .v (.cH rfl (rfl) rfl) (.as rfl (.nil (QK.fin ?_)))
   refine .ab (bW _ ?_)
   refine .dH rfl (rfl) ?_
   refine .skip (.ag ?_)
   refine .jz [] rfl (.nil) (fun w hw=>⟨_,_,_,?_,rfl,kq.ez hw⟩)
   refine ⟨nv,IK,?_,rfl⟩
   (rw [show jE e wd i=0 from by unfold jE;rw [if_neg bx,if_neg (by omega)]] <;> rfl)
theorem E6 (e:Ex) (s:Value) (wd:List UInt8) (hl:wd.length≤62) (hv:gK 6 wd=true) (bm be br:Nat) (vr:Value) (x:cF) (hx:c5 x=[0]) (w:World) (F:Nat→Prop) (A:bk) (pre:List Nat) (i:Nat) (post:List Nat) (hp:pre++i :: post=c5 x) (hJ:(fun (l:List Nat) (A:bk)=>(l=[]∧A=bh [box bm 75 1 [sv wd],box be 24 3 [.int .i64 e.op,.int .i64 e.lt,s],box br 79 1 [vr],row vr 76 1 (wd.length+1) (List.replicate (wd.length+1) aW)])∨(l=[0]∧∃ nv,aB nv∧A=bh [box bm 75 1 [sv wd],box be 24 3 [.int .i64 e.op,.int .i64 e.lt,s],box br 79 1 [vr],row vr 76 1 (wd.length+1) ((List.replicate (wd.length+1) aW).set 0 nv),row nv 42 1 1 ([jE e wd 0].map uv)])) pre A) (hA:A.holds w F) :
  ck Tryz.prog 96 [.int .i64 (i:Int),.pointer (some ⟨bm,0,none⟩),.pointer (some ⟨br,0,none⟩),.pointer (some ⟨be,0,none⟩)] w F (fun r A' o=>(fun (l:List Nat) (A:bk)=>(l=[]∧A=bh [box bm 75 1 [sv wd],box be 24 3 [.int .i64 e.op,.int .i64 e.lt,s],box br 79 1 [vr],row vr 76 1 (wd.length+1) (List.replicate (wd.length+1) aW)])∨(l=[0]∧∃ nv,aB nv∧A=bh [box bm 75 1 [sv wd],box be 24 3 [.int .i64 e.op,.int .i64 e.lt,s],box br 79 1 [vr],row vr 76 1 (wd.length+1) ((List.replicate (wd.length+1) aW).set 0 nv),row nv 42 1 1 ([jE e wd 0].map uv)])) (pre++[i]) A'∧o=[]):=by
 rw [hx] at hp
 obtain ⟨rfl,rfl,rfl⟩:pre=[]∧i=0∧post=[]:=by
  cases pre with
  | nil=>simpa using hp
  | cons a t=>simp at hp
 obtain ⟨_,rfl⟩:_∧_:=by
  rcases hJ with h | ⟨h,_⟩
  ·exact h
  ·cases h
 refine (NW w F e s wd hl hv 0 (Nat.zero_le _) bm be br vr hA).mono ?_
 rintro E w' ⟨v,A',own',⟨nv,IK,hA',ho⟩,h1,h2⟩
 exact ⟨v,A',own',⟨.inr ⟨rfl,nv,IK,hA'⟩,ho⟩,h1,h2⟩
set_option maxHeartbeats 1000000 in
theorem Sf (w:World) (e:Ex) (s:Value) (wd:List UInt8) (hl:wd.length≤62) (hv:gK 6 wd=true) (XL:Ap e) (f:Value) (x:cF) (hx:c5 x=[0]) (hr:lQ (fun _=>False) uv w f [x]) (hT:vp w):aK Tryz.prog 41 [.agg #[sv wd],.agg #[.int .i64 e.op,.int .i64 e.lt,s],f] w (fun r o=>∃ nv,aB nv∧o=[row r 76 1 (wd.length+1) ((List.replicate (wd.length+1) aW).set 0 nv),row nv 42 1 1 ([jE e wd 0].map uv)]):=by
 obtain ⟨n4,n5,n6,n7,n8⟩:=XL
 refine aC Tryz.func41 rfl (aT rfl) ?_
 refine .sr fun _ bl=>?_
 refine .cS (E:=75) (cs:=[sv wd]) rfl rfl rfl trivial rfl (fun ga=>?_)
 refine .cS (E:=24) (cs:=[.int .i64 e.op,.int .i64 e.lt,s]) rfl rfl rfl trivial rfl (fun iD=>?_)
 refine .as rfl (.nt bl ?_)
 refine .seq fun _ bg=>?_
 refine .sr fun _ bW=>?_
 refine .v (.fieldAddr cP rfl) (.v (.aa cQ rfl ax rfl) (.nt bW (.block ?_)))
 refine .sr fun _ cr=>?_
 refine .v (.eql rfl rfl) (.as rfl (.nt cr ?_))
 refine .dH rfl (decide_eq_false n5) ?_
 refine .sr fun _ cJ=>?_
 refine .v (.eql rfl rfl) (.as rfl (.nt cJ ?_))
 refine .dH rfl (decide_eq_false n7) ?_
 refine .seq fun _ cU=>?_
 refine .sr fun _ c7=>?_
 refine .v (.eql rfl rfl) (.as rfl (.nt c7 ?_))
 refine .dH rfl (decide_eq_false n4) ?_
 refine .region ?_
 refine .v (.eql rfl rfl) (.as rfl (.nt cU ?_))
 refine .dH rfl (decide_eq_false n6) ?_
 refine .sr fun _ dm=>?_
 refine .v (.eql rfl rfl) (.as rfl (.nt dm ?_))
 refine .dH rfl (decide_eq_false n8) ?_
 refine .skip (.ag ?_)
 refine .ab (bg _ ?_)
 refine .sr fun _ dD=>?_
 refine .v (.fieldAddr As rfl) (.v (.aa Wr rfl ax rfl) (.v (.Ea DM rfl) ?_))
 refine .val (.int .i64 ((wd.length+1:Nat):Int)) (.HI (wd.length+1) rfl rfl (by omega) (by omega)) trivial rfl ?_
 refine .kT Ji Z3 rfl rfl rfl (by omega) (by omega) trivial rfl (fun iQ=>?_)
 refine .shape 2 rfl (fun B0=>?_)
 refine .alloc Z2 rfl rfl trivial rfl (fun oe=>?_)
 refine .ah 3 (us:=[iQ]) (cs':=[iQ]) rfl Yp rfl rfl (by rw [aB.cells B0]) rfl aJ (aT rfl) rfl trivial ?_
 refine .nt dD ?_
 refine .sr fun _ bJ=>?_
 refine .mv rfl (.v (.makeFunc (first:=[]) (captured:=[.tmp 3,.tmp 7,.tmp 4]) rfl rfl) ?_)
 refine .own' [bh [box ga 75 1 [sv wd],box iD 24 3 [.int .i64 e.op,.int .i64 e.lt,s],box oe 79 1 [iQ],row iQ 76 1 (wd.length+1) (List.replicate (wd.length+1) aW)]] (fun w hw=>by have h:=HW.fU (l:=[box ga 75 1 [sv wd],box iD 24 3 [.int .i64 e.op,.int .i64 e.lt,s],box oe 79 1 [iQ],row iQ 76 1 (wd.length+1) (List.replicate (wd.length+1) aW)]) (own:=[]) (hw.pk [0,1,3,2]);exact h) ?_
 refine .aY 0 rfl aaa rfl (fun w Fs hw hh bI bc=>NP w (Fs 0) (fun (l:List Nat) (A:bk)=>(l=[]∧A=bh [box ga 75 1 [sv wd],box iD 24 3 [.int .i64 e.op,.int .i64 e.lt,s],box oe 79 1 [iQ],row iQ 76 1 (wd.length+1) (List.replicate (wd.length+1) aW)])∨(l=[0]∧∃ nv,aB nv∧A=bh [box ga 75 1 [sv wd],box iD 24 3 [.int .i64 e.op,.int .i64 e.lt,s],box oe 79 1 [iQ],row iQ 76 1 (wd.length+1) ((List.replicate (wd.length+1) aW).set 0 nv),row nv 42 1 1 ([jE e wd 0].map uv)])) (bh [box ga 75 1 [sv wd],box iD 24 3 [.int .i64 e.op,.int .i64 e.lt,s],box oe 79 1 [iQ],row iQ 76 1 (wd.length+1) (List.replicate (wd.length+1) aW)]) (.inl ⟨rfl,rfl⟩) (hh.at_ 0 _ rfl) f x (lQ.off (f:=uv) (xs:=[x]) hr bI bc) (hT.at hw) (fun h0=>by rcases bc 0 0 h0 with h | h;exact absurd h (Nat.not_le.2 hT.lt);exact h) 96 [.pointer (some ⟨ga,0,none⟩),.pointer (some ⟨oe,0,none⟩),.pointer (some ⟨iD,0,none⟩)] Z9 (fun w' F' A pre i post hp hJ hA _ _=>E6 e s wd hl hv ga iD oe iQ x hx w' F' A pre i post hp hJ hA)) trivial rfl ?_
 rintro r A o ⟨hJ,rfl⟩
 obtain ⟨nv,IK,rfl⟩:∃ nv,aB nv∧A=bh [box ga 75 1 [sv wd],box iD 24 3 [.int .i64 e.op,.int .i64 e.lt,s],box oe 79 1 [iQ],row iQ 76 1 (wd.length+1) ((List.replicate (wd.length+1) aW).set 0 nv),row nv 42 1 1 ([jE e wd 0].map uv)]:=by
  rcases hJ with ⟨h,_⟩ | ⟨_,h⟩
  ·rw [hx] at h;cases h
  ·exact h
 refine .mo rfl ?_
 refine .nt bJ ?_
 refine .sr fun _ bP=>?_
 refine .v (.aa M4 rfl ax rfl) (.as rfl (.nt bP (.ret ?_)))
 refine .aG rfl rfl (fun w hw=>⟨_,_,?_,rfl,.of (hw.pk [3,4])⟩)
 exact ⟨nv,IK,rfl⟩
set_option maxHeartbeats 1000000 in
theorem NQ (w:World) (e:Ex) (s:Value) (h:dy (bD (fun _=>False) w) s e.kids) (wd:List UInt8) (hl:wd.length≤62) (hv:gK 6 wd=true) (he:cg e 6=0) (XL:Ap e) (hT:vp w):aK Tryz.prog 10 [.agg #[.int .i64 e.op,.int .i64 e.lt,s],sv wd] w (fun r o=>r = .bool ((jE e wd 0).getLsbD wd.length)∧o=[]):=by
 refine aC Tryz.func10 rfl (aT rfl) ?_
 refine .sr fun _ bl=>?_
 refine .cS (E:=24) (cs:=[.int .i64 e.op,.int .i64 e.lt,s]) rfl rfl rfl trivial rfl (fun eu=>?_)
 refine .as rfl (.nt bl ?_)
 refine .seq fun _ bg=>?_
 refine .sr fun _ bW=>?_
 refine .v (.ak aM rfl ax rfl rfl) ?_
 refine .call Ry rfl (fun w hw=>El w e s (h.at hw)) trivial rfl ?_
 rintro r o ⟨rfl,rfl⟩
 refine .v (.not rfl) (.mv rfl ?_)
 refine .SE (g:=10) rfl (by rw [he];rfl) (fun a7=>?_)
 refine .val _ (.move rfl) ⟨_,rfl,gB a7⟩ rfl ?_
 refine .call aau rfl (fun w hw=>K6 w wd 6 (by omega)) ⟨_,rfl,gB a7⟩ rfl ?_
 rintro r o ⟨rfl,rfl⟩
 refine .val _ (.not rfl) ⟨_,rfl,gB a7⟩ rfl ?_
 refine .v (.cH rfl (a7) rfl) (.nt bW ?_)
 refine .dH rfl (by rw [hv];rfl) ?_
 refine .skip ?_
 refine .ab (bg _ ?_)
 refine .sr fun _ cr=>?_
 refine .mv rfl ?_
 refine .v (.build (parts:=[(0,.tmp 15)]) (cs:=#[sv wd]) rfl (by kernel_rfl)) ?_
 refine .alloc Z4 rfl rfl trivial rfl (fun D4=>?_)
 refine .ah 1 (us:=[sv wd]) (cs':=[sv wd]) rfl Yr rfl rfl rfl rfl aJ (aT rfl) rfl trivial ?_
 refine .nt cr ?_
 refine .sr fun _ cJ=>?_
 refine .v (.ak RE rfl ax rfl rfl) ?_
 refine .call UM rfl (fun w hw=>Gp w wd hl) trivial rfl ?_
 rintro fv o ⟨sfv,rfl⟩
 refine .as rfl (.nt cJ ?_)
 refine .sr fun _ cU=>?_
 refine .mv rfl ?_
 refine .aY 2 rfl Rx rfl (fun w Fs hw hh bI bc=>En w (Fs 2) fv 0 0 (by omega) (hh.at_ 2 _ rfl)) trivial rfl ?_
 rintro r A o ⟨rfl,rfl⟩
 refine .nt cU ?_
 refine .sr fun _ c7=>?_
 refine .v (.ak RE rfl ax rfl rfl) (.v (.ak aM rfl ax rfl rfl) (.mv rfl ?_))
 refine .call aat rfl (fun w hw=>Sf w e s wd hl hv XL fv (0 ||| (1:cF) <<< 0) (by decide +kernel) (Rd.mono (cR.own 2 rfl w hw) (fun b _ _=>⟨id,rfl⟩)) (hT.at hw)) trivial rfl ?_
 rintro rv o ⟨nv,IK,rfl⟩
 refine .v (.qi (k:=0) Ji rfl rfl a8 (by decide) (by omega)) ?_
 refine .val nv (.iW (.jD Q0 rfl a8 (by rw [List.length_set,List.length_replicate];omega)) (AS (by omega))) trivial rfl ?_
 refine .mv rfl (.v (.Ea DM rfl) ?_)
 refine .call aas rfl (fun w hw=>Sa w nv (jE e wd 0) wd.length (by omega) (Rd.mono (cR.own 4 rfl w hw) (fun b _ _=>⟨id,rfl⟩))) trivial rfl ?_
 rintro r o ⟨rfl,rfl⟩
 refine .as rfl (.nt c7 (.ret ?_))
 refine .aG rfl rfl (fun w hw=>⟨_,_,?_,rfl,.of (hw.pk [])⟩)
 exact ⟨rfl,rfl⟩
end Go.Proofs.YtbibnpdnmmgacaaGreatDoor
namespace Go.Proofs.YtbibnpdnmmgacaaGreatDoor
open Go.Sx Go.RowKit
set_option maxHeartbeats 1000000 in
theorem tU (w:World) (s:cF) (hT:vp w):aK Tryz.prog 56 [uv s] w (fun r o=>aB r∧o=[row r 3 1 (c5 s).length ((mI (c5 s)).map (Value.int .i64))]):=by
 refine aC Tryz.func56 rfl (aT rfl) ?_
 refine .sr fun _ bl=>?_
 refine .as rfl (.nt bl ?_)
 refine .sr fun _ bg=>?_
 refine .as rfl (.nt bg ?_)
 refine .seq fun _ bW=>?_
 refine .block ?_
 refine .bE (X:=cF × Value × List Nat) [] (fun x=>[(0,uv x.1),(3,x.2.1)]) (fun x=>[row x.2.1 3 1 x.2.2.length ((mI x.2.2).map (Value.int .i64))]) (fun x=>x.2.2++c5 x.1=c5 s∧aB x.2.1) (fun x=>(c5 x.1).length) ((s,.slice none 0 0,[])) aU ?_ ?_ ?_ ?_
 ·exact ⟨rfl,cq⟩
 ·exact aU
 ·exact fun w hw=>by exact hw.ghost 3 1
 ·intro x aV _ cr
  have sx:=aV.2
  refine .seq fun _ cJ=>?_
  refine .sr fun _ cU=>?_
  refine .mv rfl (.v (.Jm (b:=0) rfl rfl) (.nt cU ?_))
  refine .df rfl (fun bx=>?_) (fun bx=>?_)
  ·have Mt:=zm bx
   have Fz:=mD s
   rw [← aV.1,Mt,List.length_append,List.length_cons] at Fz
   refine .skip ?_
   refine .ab (cJ _ ?_)
   refine .seq fun _ c7=>?_
   refine .block ?_
   refine .region ?_
   refine .mv rfl (.mv rfl ?_)
   refine .call P7 rfl (fun w hw=>Ug w x.1 (hT.at hw)) trivial rfl ?_
   rintro r o ⟨rfl,rfl⟩
   refine .fF 0 rfl bX uL rfl (by decide) rfl (by intro k hk;cases hk;rfl) rfl (by intro u hu;simp [Value.cells] at hu;subst hu;rfl) (by omega) (by omega) (by decide) rfl rfl (fun va _ ha=>?_)
   refine .as rfl (.nil (.ag ?_))
   refine .ab (c7 _ ?_)
   refine .region ?_
   refine .mv rfl (.mv rfl (.v (.Je (b:=1) rfl rfl) (.v (.HH rfl rfl) (.as rfl (.nil ?_)))))
   refine .ab (cr _ _ ((x.1 &&& (x.1 - 1),va,x.2.2++[Lib.ctz 64 x.1.toNat])) ⟨by dsimp only;rw [← aV.1,Mt,List.append_assoc];rfl,ha⟩ (by dsimp only;rw [Mt];simp) (aU) (fun w hw=>by dsimp only;rw [SA,List.length_append,List.map_append];exact hw))
  ·refine .exit (.ai (.ai (.ar ?_)))
   refine .ab (bW _ ?_)
   refine .sr fun _ dm=>?_
   refine .mv rfl (.as rfl (.nt dm (.ret ?_)))
   refine .aG rfl rfl (fun w hw=>⟨_,_,?_,rfl,.of (hw.pk [0])⟩)
   have e:x.2.2=c5 s:=(by rw [← aV.1,bx,zk,List.append_nil])
   rw [← e]
   exact ⟨aV.2,rfl⟩
theorem EW (w:World) (v:Value) (rs:List cF) (h:lQ (fun _=>False) uv w v rs) (hl:rs.length≤64) (hr:∀ j,j<rs.length→rs.getD j 0 &&& ~~~(below (rs.length:Int))=0):aK Tryz.prog 114 [v] w (fun r o=>r = .bool true∧o=[]):=by
 unfold lQ at h
 have hb:=Rd.le h
 refine aC Tryz.func114 rfl (aT rfl) ?_
 refine .sr fun _ bl=>?_
 refine .as rfl (.nt bl ?_)
 refine .seq fun _ bg=>?_
 refine .sr fun _ bW=>?_
 refine .mv rfl (.v (.aZ lB rfl a8) (.v (.gtr rfl rfl) (.nt bW ?_)))
 refine .dH rfl (decide_eq_false (by omega)) ?_
 refine .skip ?_
 refine .ab (bg _ ?_)
 refine .seq fun _ cr=>?_
 refine .sr fun _ cJ=>?_
 refine .mv rfl (.v (.aZ lB rfl a8) (.mv rfl (.nt cJ (.block ?_))))
 refine .bE (X:=Nat) [(0,_),(8,_),(9,_)] (fun k=>[(10,.int .i64 (k:Int))]) (fun k=>[]) (fun k=>k≤rs.length) (fun k=>rs.length - k) (0) aU ?_ ?_ ?_ ?_
 ·exact Nat.zero_le _
 ·exact aU
 ·exact fun w hw=>hw
 ·intro k aV _ cU
  refine .sr fun _ c7=>?_
  refine .v (.lss rfl rfl) (.nt c7 ?_)
  refine .seq fun _ dm=>?_
  refine .aA rfl (fun cB=>?_) (fun cB=>?_)
  ·refine .skip ?_
   refine .ab (dm _ ?_)
   refine .seq fun _ dD=>?_
   refine .block ?_
   refine .sr fun _ bJ=>?_
   refine .v (.iN lB rfl rfl) ?_
   refine .v (.rS iY rfl a8 (by omega)) ?_
   refine .as rfl (.nt bJ ?_)
   refine .sr fun _ bP=>?_
   refine .mv rfl (.mv rfl (.v (.aZ lB rfl a8) ?_))
   refine .call P0 rfl (fun w hw=>CL w (rs.length:Int) (by omega)) trivial rfl ?_
   rintro r o ⟨rfl,rfl⟩
   refine .v (.Hc rfl rfl) (.v (.Jm (b:=0) rfl rfl) (.nt bP ?_))
   refine .dH rfl (decide_eq_false (not_not_intro (hr k (by omega)))) ?_
   refine .skip (.ag ?_)
   refine .ab (dD _ ?_)
   refine .region ?_
   refine .v (.add rfl rfl (by omega)) ?_
   refine .mv rfl (.nil ?_)
   refine .ab (cU _ _ (k+1) (by omega) (by omega) (aU) (fun w hw=>hw))
  ·refine .exit (.ai (.ai (.ar ?_)))
   refine .ab (cr _ ?_)
   refine .sr fun _ ct=>?_
   refine .as rfl (.nt ct (.ret ?_))
   refine .aG rfl rfl (fun w hw=>⟨_,_,?_,rfl,.of (hw.pk [])⟩)
   exact ⟨rfl,rfl⟩
set_option maxHeartbeats 1000000 in
theorem NU (w:World) (v:Value) (rs:List cF) (h:lQ (fun _=>False) uv w v rs) (hl:rs.length≤64) (hr:∀ j,j<rs.length→rs.getD j 0 &&& ~~~(below (rs.length:Int))=0) (s:cF) (hT:vp w):aK Tryz.prog 61 [v,uv s] w (fun r o=>r=uv (M8 rs s)∧o=[]):=by
 have h0:=h
 unfold lQ at h
 have hb:=Rd.le h
 have Fz:=mD (s &&& below (rs.length:Int))
 refine aC Tryz.func61 rfl (aT rfl) ?_
 refine .sr fun _ bl=>?_
 refine .as rfl (.nt bl ?_)
 refine .seq fun _ bg=>?_
 refine .sr fun _ bW=>?_
 refine .mv rfl ?_
 refine .call Wc rfl (fun w hw=>EW w v rs (lQ.at h0 hw) hl hr) trivial rfl ?_
 rintro r o ⟨rfl,rfl⟩
 refine .v (.not rfl) (.nt bW ?_)
 refine .dH rfl (rfl) ?_
 refine .skip ?_
 refine .ab (bg _ ?_)
 refine .sr fun _ cr=>?_
 refine .as rfl (.nt cr ?_)
 refine .seq fun _ cJ=>?_
 refine .sr fun _ cU=>?_
 refine .mv rfl (.mv rfl (.v (.aZ lB rfl a8) ?_))
 refine .call P0 rfl (fun w hw=>CL w (rs.length:Int) (by omega)) trivial rfl ?_
 rintro r o ⟨rfl,rfl⟩
 refine .v (.HH rfl rfl) ?_
 refine .call Rw rfl (fun w hw=>tU w (s &&& below (rs.length:Int)) (hT.at hw)) trivial rfl ?_
 rintro mv o ⟨B0,rfl⟩
 refine .v (.aZ bX rfl a8) (.mv rfl (.nt cU (.block ?_)))
 refine .bE (X:=Nat) [(0,_),(16,_),(17,_)] (fun k=>[(5,uv (yw rs 0 ((c5 (s &&& below (rs.length:Int))).take k))),(18,.int .i64 (k:Int))]) (fun k=>[row mv 3 1 (c5 (s &&& below (rs.length:Int))).length ((mI (c5 (s &&& below (rs.length:Int)))).map (Value.int .i64))]) (fun k=>k≤(c5 (s &&& below (rs.length:Int))).length) (fun k=>(c5 (s &&& below (rs.length:Int))).length - k) (0) aU ?_ ?_ ?_ ?_
 ·exact Nat.zero_le _
 ·exact aU
 ·exact fun w hw=>hw
 ·intro k aV _ c7
  refine .sr fun _ dm=>?_
  refine .v (.lss rfl rfl) (.nt dm ?_)
  refine .seq fun _ dD=>?_
  refine .aA rfl (fun cB=>?_) (fun cB=>?_)
  ·have hqm:=Am (s:=s) hl (k:=k) (by omega)
   refine .skip ?_
   refine .ab (dD _ ?_)
   refine .seq fun _ bJ=>?_
   refine .block ?_
   refine .sr fun _ bP=>?_
   refine .v (.iN bX rfl rfl) ?_
   refine .val (.int .i64 (((c5 (s &&& below (rs.length:Int))).getD k 0:Nat):Int)) (.iW (.ff cQ rfl a8 (by rw [Et];omega)) (congrArg (Value.int .i64) (Eu (by omega)))) trivial rfl ?_
   refine .as rfl (.nt bP ?_)
   refine .region ?_
   refine .mv rfl (.mv rfl (.mv rfl (.v (.iN lB rfl rfl) ?_)))
   refine .v (.rS iY rfl a8 (by omega)) ?_
   refine .v (.IZ rfl rfl) (.as rfl (.nil (.ag ?_)))
   refine .ab (bJ _ ?_)
   refine .region ?_
   refine .v (.add rfl rfl (by omega)) ?_
   refine .mv rfl (.nil ?_)
   refine .ab (c7 _ _ (k+1) (by omega) (by omega) (.cons ((by rw [Ir (by omega)];rfl)) (aU)) (fun w hw=>hw))
  ·refine .exit (.ai (.ai (.ar ?_)))
   refine .ab (cJ _ ?_)
   refine .sr fun _ ct=>?_
   refine .mv rfl (.as rfl (.nt ct (.ret ?_)))
   refine .aG rfl rfl (fun w hw=>⟨_,_,?_,rfl,.of (hw.pk [])⟩)
   unfold M8
   rw [show (c5 (s &&& below (rs.length:Int))).take k=(c5 (s &&& below (rs.length:Int))) from List.take_of_length_le (by omega)]
   exact ⟨rfl,rfl⟩
end Go.Proofs.YtbibnpdnmmgacaaGreatDoor
namespace Go.Proofs.YtbibnpdnmmgacaaGreatDoor
open Go.Sx Go.RowKit
set_option maxHeartbeats 2000000 in
theorem NK (w:World) (v:Value) (n:kc) (h:MB (fun _=>False) w v n) (hv:VN n):aK Tryz.prog 82 [v] w (fun r o=>∃ (bq:Nat) (tq:Value) (ws:List Value),ws.length=n.L.toNat∧r = .func (.func 134) #[] #[.pointer (some ⟨bq,0,none⟩)]∧o=[box bq 102 1 [tq],row tq 64 1 n.L.toNat ws,bh (dQ uv 42 ws (tg n n.es.length))]):=by
 have h0:=h
 obtain ⟨vE,rfl,hE⟩:=h
 have sE:=Rd.sl hE
 have hme:=Rd.le hE
 have hS:=hv.S
 have hL:=hv.L
 refine aC Tryz.func82 rfl (aT rfl) ?_
 refine .sr fun _ bl=>?_
 refine .cS (E:=45) (cs:=[.int .i64 n.L,.int .i64 n.S,uv n.st,uv n.fi,vE]) rfl rfl rfl trivial rfl (fun jV=>?_)
 refine .as rfl (.nt bl ?_)
 refine .sr fun _ bg=>?_
 refine .v (.fieldAddr wN rfl) ?_
 refine .val (.int .i64 ((n.L.toNat:Nat):Int)) (.iW (.aa cQ rfl ax rfl) (congrArg (Value.int .i64) (by omega))) trivial rfl ?_
 refine .kT (n:=n.L.toNat) Co Z5 rfl rfl rfl (by omega) (by omega) trivial rfl (fun tv=>?_)
 refine .shape (v:=tv) 1 rfl (fun stv=>?_)
 refine .alloc VM rfl rfl trivial rfl (fun ga=>?_)
 refine .ah 2 (us:=[tv]) (cs':=[tv]) rfl U1 rfl rfl (by rw [aB.cells (by assumption)]) rfl aJ (aT rfl) rfl trivial ?_
 refine .nt bg ?_
 refine .seq fun _ bW=>?_
 refine .sr fun _ cr=>?_
 refine .v (.aa FV rfl ax rfl) (.v (.aZ Co rfl a8) (.mv rfl (.nt cr (.block ?_))))
 refine .bE (X:=Nat × List Value) [(1,_),(3,_),(11,_)] (fun x=>[(12,.int .i64 (x.1:Int))]) (fun x=>[box jV 45 5 [.int .i64 n.L,.int .i64 n.S,uv n.st,uv n.fi,vE],box ga 102 1 [tv],row tv 64 1 n.L.toNat (x.2++List.replicate (n.L.toNat - x.1) (.slice none 0 0)),bh (dQ uv 42 x.2 (List.replicate x.1 (List.replicate n.S.toNat (0:cF))))]) (fun x=>x.1≤n.L.toNat∧x.2.length=x.1) (fun x=>n.L.toNat - x.1) ((0,[])) aU ?_ ?_ ?_ ?_
 ·exact ⟨Nat.zero_le _,rfl⟩
 ·exact aU
 ·exact fun w hw=>by dsimp only;rw [Nat.sub_zero,List.nil_append];exact (hw.lW (f:=uv) 42).pk [0,2,1,3]
 ·intro x aV _ cJ
  refine .sr fun _ cU=>?_
  refine .v (.lss rfl rfl) (.nt cU ?_)
  refine .seq fun _ c7=>?_
  refine .aA rfl (fun bx=>?_) (fun bx=>?_)
  ·refine .skip ?_
   refine .ab (c7 _ ?_)
   refine .seq fun _ dm=>?_
   refine .block ?_
   refine .sr fun _ dD=>?_
   refine .mv rfl (.as rfl (.nt dD ?_))
   try (conv=>enter [2,2];simp only [cE])
   refine .held 6 mixed ?_
   refine .F 0 6 7 1 rfl (.aa FV rfl ax rfl) trivial ?_
   refine .F 1 5 7 3 rfl (.move rfl) trivial ?_
   refine .F 2 4 7 7 rfl (.fieldAddr tO rfl) trivial ?_
   refine .F 3 3 7 15 rfl (.iW (v':=.int .i64 ((n.S.toNat:Nat):Int)) (.aa cQ rfl ax rfl) (congrArg (Value.int .i64) (by omega))) trivial ?_
   refine .O 4 2 7 31 rfl ?_
   refine .kT (n:=n.S.toNat) lB JE rfl rfl rfl (by omega) (by omega) trivial rfl (fun rv=>?_)
   refine .nil ?_
   try (conv=>enter [2,2];simp only [cE])
   refine ay.back Go.Sx.hle ?_
   refine .shape (v:=rv) 4 rfl (fun srv=>?_)
   refine .F 5 1 7 63 rfl (.iN Co rfl rfl) trivial ?_
   refine .O 6 0 7 127 rfl ?_
   refine .di 2 rfl QV rfl rfl srv.cells srv.one (by omega) (cs':=((x.2++[rv])++List.replicate (n.L.toNat - (x.1+1)) (.slice none 0 0))) (VA aV.2 (by omega)) trivial ?_
   refine .nil ?_
   try (conv=>enter [2,2];simp only [cE])
   refine ay.ir 7 cx rfl cx ?_
   refine .nil ?_
   refine .fu ?_
   refine .ag ?_
   refine .ab (dm _ ?_)
   refine .region ?_
   refine .v (.add rfl rfl (by omega)) ?_
   refine .mv rfl (.nil ?_)
   refine .ab (cJ _ _ ((x.1+1,x.2++[rv])) ⟨by dsimp only;omega,by dsimp only;rw [List.length_append,aV.2];rfl⟩ (by dsimp only;omega) (aU) (fun w hw=>by
     dsimp only
     rw [List.replicate_succ',kL (by rw [List.length_replicate,aV.2]),List.length_replicate,List.map_replicate]
     exact HW.tR (own:=[_,_,_,_]) 3 rfl hw))
  ·have hxL:x.1=n.L.toNat:=(by omega)
   obtain ⟨ws,fA⟩:∃ ws,ws=x.2:=⟨_,rfl⟩
   have I0:ws.length=n.L.toNat:=(by rw [fA,aV.2,hxL])
   refine .own' [box jV 45 5 [.int .i64 n.L,.int .i64 n.S,uv n.st,uv n.fi,vE],box ga 102 1 [tv],row tv 64 1 n.L.toNat ws,bh (dQ uv 42 ws (List.replicate n.L.toNat (List.replicate n.S.toNat (0:cF))))] (fun w hw=>by rw [fA];rw [hxL,Nat.sub_self,List.replicate_zero,List.append_nil] at hw;exact hw) ?_
   refine .exit (.ai (.ai (.ar ?_)))
   refine .ab (bW _ ?_)
   refine .seq fun _ bJ=>?_
   refine .sr fun _ bP=>?_
   refine .v (.fieldAddr lY rfl) (.v (.aa Cd rfl ax rfl) (.v (.aZ yt rfl a8) (.mv rfl (.nt bP (.block ?_)))))
   refine .bE (X:=Nat) [(3,_),(23,_),(24,_)] (fun k=>[(25,.int .i64 (k:Int))]) (fun k=>[box jV 45 5 [.int .i64 n.L,.int .i64 n.S,uv n.st,uv n.fi,vE],box ga 102 1 [tv],row tv 64 1 n.L.toNat ws,bh (dQ uv 42 ws (tg n k))]) (fun k=>k≤n.es.length) (fun k=>n.es.length - k) (0) aU ?_ ?_ ?_ ?_
   ·exact Nat.zero_le _
   ·exact aU
   ·exact fun w hw=>by rw [Lz];exact hw
   ·intro k c6 _ ct
    refine .sr fun _ cK=>?_
    refine .v (.lss rfl rfl) (.nt cK ?_)
    refine .seq fun _ cW=>?_
    refine .aA rfl (fun cB=>?_) (fun cB=>?_)
    ·have hed:=hv.Cl (k:=k) (by omega)
     obtain ⟨a,ha⟩:∃ a:Nat,(n.es.getD k (0,0,0)).2.1=(a:Int):=⟨(n.es.getD k (0,0,0)).2.1.toNat,by omega⟩
     obtain ⟨p,hp⟩:∃ p:Nat,(n.es.getD k (0,0,0)).1=(p:Int):=⟨(n.es.getD k (0,0,0)).1.toNat,by omega⟩
     have QH:a<n.L.toNat:=(by omega)
     have WG:p<n.S.toNat:=(by omega)
     have yM:=o5 (n:=n) (k:=k) QH
     refine .skip ?_
     refine .ab (cW _ ?_)
     refine .seq fun _ c8=>?_
     refine .block ?_
     refine .sr fun _ dw=>?_
     refine .v (.iN yt rfl rfl) ?_
     refine .v (.Ao Cm rfl a8 (by omega)) ?_
     refine .alloc JC rfl rfl trivial rfl (fun oy=>?_)
     refine .ah 4 (us:=BW (n.es.getD k (0,0,0))) (cs':=BW (n.es.getD k (0,0,0))) rfl T9 rfl rfl rfl rfl (BB _) (aT rfl) rfl trivial ?_
     refine .nt dw ?_
     refine .kK 14 mixed cx (fun _ fA=>?_)
     refine .v fA (.aa FV rfl ax rfl) (.v fA (.fieldAddr wL rfl) (.v fA (.aa cQ rfl ax rfl) ?_))
     refine .v fA (.iW (.qi (k:=a) Co rfl (by rw [← ha];rfl) a8 (by decide) QH) rfl) ?_
     refine .val fA (ws.getD a undef) (.jD tw rfl a8 (by omega)) trivial rfl ?_
     refine .v fA (.fieldAddr wM rfl) (.v fA (.aa cQ rfl ax rfl) ?_)
     refine .v fA (.qi (k:=p) lB rfl (by rw [← hp];rfl) (cR.QM 3 a rfl (jr (by rw [dI];exact I0) (by rw [dI];exact QH))) (by decide) (by rw [yM];exact WG)) ?_
     refine .v fA (.rS (j:=p) iY rfl (cR.QM 3 a rfl (jr (by rw [dI];exact I0) (by rw [dI];exact QH))) (by rw [yM];exact WG)) ?_
     refine .v fA (.fieldAddr wK rfl) (.v fA (.aa cQ rfl ax rfl) ?_)
     refine .v fA (.D8 (a:=1) rfl rfl (by omega)) ?_
     refine .v fA (.IZ rfl rfl) ?_
     refine .v fA (.qi (k:=p) lB rfl (by rw [← hp];rfl) (cR.QM 3 a rfl (jr (by rw [dI];exact I0) (by rw [dI];exact QH))) (by decide) (by rw [yM];exact WG)) ?_
     refine .nil (SK.fin fA ?_)
     refine .Nu 3 a (j:=p) (u:=uv (((tg n k).getD a []).getD p 0 ||| bit (n.es.getD k (0,0,0)).2.2)) (cs':=(((tg n k).getD a []).set p (((tg n k).getD a []).getD p 0 ||| bit (n.es.getD k (0,0,0)).2.2)).map uv) rfl (jr (by rw [dI];exact I0) (by rw [dI];exact QH)) zX rfl rfl rfl rfl (by rw [yM];exact WG) (by rw [List.map_set]) trivial ?_
     refine .own' [box jV 45 5 [.int .i64 n.L,.int .i64 n.S,uv n.st,uv n.fi,vE],box ga 102 1 [tv],row tv 64 1 n.L.toNat ws,bh (dQ uv 42 ws ((tg n k).set a (((tg n k).getD a []).set p (((tg n k).getD a []).getD p 0 ||| bit (n.es.getD k (0,0,0)).2.2)))),box oy 98 3 (BW (n.es.getD k (0,0,0)))] (fun w hw=>by rw [← LH (by rw [dI];exact I0) (by rw [dI];exact QH),List.length_set];exact hw) ?_
     refine .nil (.ag ?_)
     refine .ab (c8 _ ?_)
     refine .region ?_
     refine .v (.add rfl rfl (by omega)) ?_
     refine .mv rfl (.nil ?_)
     refine .ab (ct _ _ (k+1) (by omega) (by omega) (aU) (fun w hw=>by rw [LA ha hp];exact hw.pk [0,1,2,3]))
    ·refine .exit (.ai (.ai (.ar ?_)))
     refine .ab (bJ _ ?_)
     refine .sr fun _ dE=>?_
     refine .v (.makeFunc (first:=[]) (captured:=[.tmp 3]) rfl rfl) (.as rfl (.nt dE (.ret ?_)))
     refine .aG rfl rfl (fun w hw=>⟨_,_,?_,rfl,.of (hw.pk [1,2,3])⟩)
     have e:k=n.es.length:=(by omega)
     subst e
     exact ⟨ga,tv,ws,I0,rfl,rfl⟩
theorem NL (w:World) (bq:Nat) (tq:Value) (hb:qL w bq [tq]) (n:kc) (hv:VN n) (h:rL (fun _=>False) uv w tq (tg n n.es.length)) (s:cF) (x:Nat) (hx:x<n.L.toNat) (hT:vp w):aK Tryz.prog 134 [uv s,.int .i64 (x:Int),.pointer (some ⟨bq,0,none⟩)] w (fun r o=>r=uv (Jf n s (x:Int))∧o=[]):=by
 have h0:=h
 obtain ⟨ws,I0,hR,tz⟩:=h
 rw [dI] at I0
 have WR:=iF.arg (C:=⟨Tryz.prog,Tryz.f134.ntmps,w,fun _=>False⟩) (own:=[]) hb
 have Fz:=Rd.le hR
 rw [dI] at Fz
 have hro:=NZ hv (x:Int)
 have hrx:=tz x (by rw [dI];exact hx)
 rw [Oj hx] at hrx
 refine aC Tryz.func134 rfl (aT rfl) ?_
 refine .sr fun _ bl=>?_
 refine .as rfl (.nt bl ?_)
 refine .sr fun _ bg=>?_
 refine .val tq (.aa FV rfl WR rfl) trivial rfl (.mv rfl ?_)
 refine .v (.qi (k:=x) Co rfl rfl (cR.arg hR) (by decide) (by rw [dI];exact hx)) ?_
 refine .val (ws.getD x undef) (.jD tw rfl (cR.arg hR) (by omega)) trivial rfl ?_
 refine .mv rfl ?_
 refine .call aal rfl (fun w hw=>NU w (ws.getD x undef) (jZ n (x:Int)) (lQ.at hrx hw) hro.1 hro.2 s (hT.at hw)) trivial rfl ?_
 rintro r o ⟨rfl,rfl⟩
 refine .as rfl (.nt bg (.ret ?_))
 refine .aG rfl rfl (fun w hw=>⟨_,_,?_,rfl,.of (hw.pk [])⟩)
 rw [LS hv]
 exact ⟨rfl,rfl⟩
theorem R1 (w:World) (b:Nat) (n:kc) (vE:Value) (hb:qL w b [.int .i64 n.L,.int .i64 n.S,uv n.st,uv n.fi,vE]) (s:cF):aK Tryz.prog 83 [uv s,.pointer (some ⟨b,0,none⟩)] w (fun r o=>r = .bool (decide (s &&& n.fi ≠ 0))∧o=[]):=by
 have WR:=iF.arg (C:=⟨Tryz.prog,Tryz.f83.ntmps,w,fun _=>False⟩) (own:=[]) hb
 refine aC Tryz.func83 rfl (aT rfl) ?_
 refine .sr fun _ bl=>?_
 refine .as rfl (.nt bl ?_)
 refine .sr fun _ bg=>?_
 refine .mv rfl (.v (.fieldAddr tL rfl) (.val (uv n.fi) (.aa iY rfl WR rfl) trivial rfl (.v (.HH rfl rfl) (.v (.Jm (b:=0) rfl rfl) (.as rfl (.nt bg (.ret ?_)))))))
 refine .aG rfl rfl (fun w hw=>⟨_,_,?_,rfl,.of (hw.pk [])⟩)
 exact ⟨rfl,rfl⟩
end Go.Proofs.YtbibnpdnmmgacaaGreatDoor
namespace Go.Proofs.YtbibnpdnmmgacaaGreatDoor
open Go.Sx Go.RowKit
set_option maxHeartbeats 400000 in
theorem U7 (w:World) (F:Nat→Prop) (b mb:Nat) (vL:Value) (xs:List Int) (x:Int) (hl:xs.length≤100000) (sL:aB vL) (hA:(bh [box b 213 2 [vL,.map (some mb)],row vL 3 1 xs.length (xs.map (Value.int .i64)),mapA mb (kx (Value.int .i64) (Value.int .i64) (gC xs))]).holds w F):ck Tryz.prog 167 [.pointer (some ⟨b,0,none⟩),Value.int .i64 x] w F (fun r A o=>∃ va,aB va∧r = .int .i64 ((bV xs x:Nat):Int)∧A=bh [box b 213 2 [va,.map (some mb)],row va 3 1 (dY xs x).length ((dY xs x).map (Value.int .i64)),mapA mb (kx (Value.int .i64) (Value.int .i64) (gC (dY xs x)))]∧o=[]):=by
 refine dW Tryz.func167 rfl (aT rfl) hA ?_
 refine .sr fun _ bl=>?_
 refine .as rfl (.nt bl ?_)
 refine .sr fun _ bg=>?_
 refine .mv rfl (.v (.nilCheck rfl) (.v (.fieldAddr nJ rfl) (.v (.aa yU rfl ax rfl) (.mv rfl (.v (.k9 rR (ny Mk) uL rfl rfl MF) (.mv rfl (.v (.extract rfl rfl) ?_)))))))
 refine .v (.extract rfl rfl) (.as rfl (.as rfl (.nt bg ?_)))
 refine .seq fun _ bW=>?_
 refine .sr fun _ cr=>?_
 refine .mv rfl (.v (.not rfl) (.nt cr ?_))
 refine .eW rfl (fun bx=>?_) (fun bx=>?_)
 ·have hx:x ∉ xs:=by
   rw [gU] at bx;intro h;rw [if_pos h] at bx;cases bx
  refine .seq fun _ cJ=>?_
  refine .sr fun _ cU=>?_
  refine .mv rfl (.v (.nilCheck rfl) (.v (.fieldAddr nJ rfl) (.v (.aa yU rfl ax rfl) (.v (.Aw rR rfl) (.nt cU ?_)))))
  refine .dH rfl (rfl) ?_
  refine .skip ?_
  refine .ab (cJ _ ?_)
  refine .sr fun _ c7=>?_
  refine .mv rfl (.v (.nilCheck rfl) (.v (.fieldAddr jS rfl) (.v (.aa hY rfl ax rfl) (.v (.aZ bX rfl a8) (.as rfl (.nt c7 ?_))))))
  refine .sr fun _ dm=>?_
  refine .mv rfl (.v (.nilCheck rfl) (.v (.fieldAddr nJ rfl) (.v (.aa yU rfl ax rfl) (.mv rfl (.mv rfl ?_)))))
  refine .qX 2 rfl rR (ny Mk) rfl rfl rfl trivial ?_
  refine .nt dm ?_
  refine .region ?_
  refine .mv rfl (.mv rfl (.v (.nilCheck rfl) (.v (.fieldAddr jS rfl) (.v (.aa hY rfl ax rfl) (.mv rfl ?_)))))
  refine .fF 1 rfl bX uL rfl (by decide) rfl (by intro k hk;cases hk;rfl) rfl (by intro u hu;simp [Value.cells] at hu;subst hu;rfl) (by omega) (by omega) (by decide) rfl rfl (fun va _ Qy=>?_)
  refine .v (.nilCheck rfl) (.v (.fieldAddr jS rfl) ?_)
  refine .ah 0 (us:=[va]) (cs':=[va,.map (some mb)]) rfl QU rfl rfl (by rw [aB.cells (by assumption)]) rfl aJ (aT rfl) rfl trivial ?_
  refine .nt bW ?_
  refine .sr fun _ dD=>?_
  refine .mv rfl (.as rfl (.nt dD (.ret ?_)))
  refine .grown [box b 213 2 [va,.map (some mb)],row va 3 1 (xs.length+1) ((xs.map (Value.int .i64))++(Value.int .i64 x).cells.toList),mapA mb (kx (Value.int .i64) (Value.int .i64) (jI (gC xs) x (xs.length:Int)))] [0,1,2] (by decide) qn ?_
  refine .aG rfl rfl (fun w hw=>⟨_,_,_,?_,rfl,kq.ez hw⟩)
  refine ⟨va,Qy,?_,?_,rfl⟩
  ·rw [ix hx]
   try rfl
  ·rw [show dY xs x=xs++[x] from if_neg hx,← ua hx];simp [Value.cells]
 ·have hx:x∈xs:=by
   rw [gU] at bx;by_cases h:x∈xs
   ·exact h
   ·rw [if_neg h] at bx;cases bx
  refine .skip ?_
  refine .ab (bW _ ?_)
  refine .sr fun _ bJ=>?_
  refine .mv rfl (.as rfl (.nt bJ (.ret ?_)))
  refine .grown [box b 213 2 [vL,.map (some mb)],row vL 3 1 xs.length (xs.map (Value.int .i64)),mapA mb (kx (Value.int .i64) (Value.int .i64) (gC xs))] [0,1,2] (by decide) qn ?_
  refine .aG rfl rfl (fun w hw=>⟨_,_,_,?_,rfl,kq.ez hw⟩)
  refine ⟨vL,sL,?_,?_,rfl⟩
  ·rw [gU,if_pos hx]
   try rfl
  ·rw [show dY xs x=xs from if_pos hx]
set_option maxHeartbeats 400000 in
theorem Sc (w:World) (F:Nat→Prop) (b:Nat) (x:Int) (hA:(bh [box b 213 2 [.slice none 0 0,.map none]]).holds w F):ck Tryz.prog 167 [.pointer (some ⟨b,0,none⟩),Value.int .i64 x] w F (fun r A o=>∃ va mb,aB va∧r = .int .i64 0∧A=bh [box b 213 2 [va,.map (some mb)],row va 3 1 [x].length ([x].map (Value.int .i64)),mapA mb (kx (Value.int .i64) (Value.int .i64) (gC [x]))]∧o=[]):=by
 refine dW Tryz.func167 rfl (aT rfl) hA ?_
 refine .ghost 3 1 ?_
 refine .sr fun _ bl=>?_
 refine .as rfl (.nt bl ?_)
 refine .sr fun _ bg=>?_
 refine .mv rfl (.v (.nilCheck rfl) (.v (.fieldAddr nJ rfl) (.v (.aa yU rfl ax rfl) (.mv rfl (.v (.k9 (m:=([]:List (Int × Int))) rR (ny Mk) uL rfl rfl oq.nil) (.mv rfl (.v (.extract rfl rfl) ?_)))))))
 refine .v (.extract rfl rfl) (.as rfl (.as rfl (.nt bg ?_)))
 refine .seq fun _ bW=>?_
 refine .sr fun _ cr=>?_
 refine .mv rfl (.v (.not rfl) (.nt cr ?_))
 refine .cD rfl (rfl) ?_
 refine .seq fun _ cJ=>?_
 refine .sr fun _ cU=>?_
 refine .mv rfl (.v (.nilCheck rfl) (.v (.fieldAddr nJ rfl) (.v (.aa yU rfl ax rfl) (.v (.Aw rR rfl) (.nt cU ?_)))))
 refine .cD rfl (rfl) ?_
 refine .region ?_
 refine .mv rfl ?_
 refine .makeMap trivial rfl (fun mb=>?_)
 refine .v (.nilCheck rfl) (.v (.fieldAddr nJ rfl) ?_)
 refine .ah 0 (us:=[.map (some mb)]) (cs':=[.slice none 0 0,.map (some mb)]) rfl UU rfl rfl rfl rfl aJ (aT rfl) rfl trivial ?_
 refine .nt cJ ?_
 refine .sr fun _ c7=>?_
 refine .mv rfl (.v (.nilCheck rfl) (.v (.fieldAddr jS rfl) (.v (.aa hY rfl ax rfl) (.v (.aZ bX rfl a8) (.as rfl (.nt c7 ?_))))))
 refine .sr fun _ dm=>?_
 refine .mv rfl (.v (.nilCheck rfl) (.v (.fieldAddr nJ rfl) (.v (.aa yU rfl ax rfl) (.mv rfl (.mv rfl ?_)))))
 refine .qX 2 (m:=([]:List (Int × Int))) rfl rR (ny Mk) rfl rfl rfl trivial ?_
 refine .nt dm ?_
 refine .region ?_
 refine .mv rfl (.mv rfl (.v (.nilCheck rfl) (.v (.fieldAddr jS rfl) (.v (.aa hY rfl ax rfl) (.mv rfl ?_)))))
 refine .fF 1 rfl bX uL rfl (by decide) rfl (by intro k hk;cases hk;rfl) rfl (by intro u hu;simp [Value.cells] at hu;subst hu;rfl) (by omega) (by omega) (by decide) rfl rfl (fun va _ Qy=>?_)
 refine .v (.nilCheck rfl) (.v (.fieldAddr jS rfl) ?_)
 refine .ah 0 (us:=[va]) (cs':=[va,.map (some mb)]) rfl QU rfl rfl (by rw [aB.cells (by assumption)]) rfl aJ (aT rfl) rfl trivial ?_
 refine .nt bW ?_
 refine .sr fun _ dD=>?_
 refine .mv rfl (.as rfl (.nt dD (.ret ?_)))
 refine .grown [box b 213 2 [va,.map (some mb)],row va 3 1 (0+1) ([]++(Value.int .i64 x).cells.toList),mapA mb (kx (Value.int .i64) (Value.int .i64) (jI ([]:List (Int × Int)) x ((0:Nat):Int)))] [0,1,2] (by decide) qn ?_
 refine .aG rfl rfl (fun w hw=>⟨_,_,_,?_,rfl,kq.ez hw⟩)
 exact ⟨va,mb,Qy,rfl,rfl,rfl⟩
set_option maxHeartbeats 1000000 in
theorem E0 (w:World) (L:Nat) (s:Int) (f:Int→Nat→Int) (g:Int→Bool) (U:List Int) (fN fG:Nat) (cN cG:List Value) (hL:1≤L∧L≤6) (hs:s∈U) (hU:U.length≤512) (hf:∀ q∈U,∀ x,x<L→f q x∈U) (XU:aj Tryz.prog fN) (XW:aj Tryz.prog fG) (hN:∀ w',bj (fun _=>False) w w'→∀ q∈U,∀ x,x<L→aK Tryz.prog fN ([(Value.int .i64 q),.int .i64 (x:Int)]++cN) w' (fun r o=>r=(Value.int .i64 (f q x))∧o=[])) (hG:∀ w',bj (fun _=>False) w w'→∀ q∈U,aK Tryz.prog fG ([(Value.int .i64 q)]++cG) w' (fun r o=>r = .bool (g q)∧o=[])):aK Tryz.prog 123 [.int .i64 (L:Int),Value.int .i64 s,.func (.func fN) #[] cN.toArray,.func (.func fG) #[] cG.toArray] w (fun r o=>∃ (n:Nat) (vL vF vN:Value) (rs:List Value),n=(aH f L s 0 n).length∧rs.length=n∧aB vL∧aB vF∧aB vN∧r = .tuple #[.agg #[.int .i64 (L:Int),.int .i64 0,vF,vN],vL,.int .i64 0]∧o=kg 4 3 67 vF vN rs ⟨(L:Int),0,(tk f L s 0 g n),(vZ f L s 0 n)⟩++[row vL 3 1 (aH f L s 0 n).length ((aH f L s 0 n).map (Value.int .i64))]):=by
 have BT:=k6 (z:=0) hs hf
 have vC:=q8 (z:=0) hs hf
 refine aC Tryz.func123 rfl (aT rfl) ?_
 refine .sr fun _ bl=>?_
 refine .alloc lR rfl rfl trivial rfl (fun lP=>?_)
 refine .as rfl (.as rfl (.nt bl ?_))
 refine .sr fun _ bg=>?_
 refine .alloc VE rfl rfl trivial rfl (fun ja=>?_)
 refine .nt bg ?_
 refine .sr fun _ bW=>?_
 refine .mv rfl ?_
 refine .own' [bh [box ja 213 2 [.slice none 0 0,.map none]],box lP 32 4 [.int .i64 0,.int .i64 0,.slice none 0 0,.slice none 0 0]] (fun w hw=>HW.fU (l:=[_]) (own:=[_]) (hw.pk [1,0])) ?_
 refine .CA 0 rfl PO rfl (fun w F hw hA=>Sc w F ja s hA) trivial rfl ?_
 rintro r A o ⟨vl,mb,Xd,rfl,rfl,rfl⟩
 refine .mo rfl ?_
 refine .nt bW ?_
 refine .sr fun _ cr=>?_
 refine .mv rfl ?_
 refine .v (.build (parts:=[(0,.tmp 19)]) (cs:=#[.int .i64 (L:Int),.int .i64 0,.slice none 0 0,.slice none 0 0]) rfl (by kernel_rfl)) ?_
 refine .alloc lR rfl rfl trivial rfl (fun qk=>?_)
 refine .ah 4 (us:=[.int .i64 (L:Int),.int .i64 0,.slice none 0 0,.slice none 0 0]) (cs':=[.int .i64 (L:Int),.int .i64 0,.slice none 0 0,.slice none 0 0]) rfl jW rfl rfl rfl rfl aJ (aT rfl) rfl trivial ?_
 refine .nt cr ?_
 refine .seq fun _ cJ=>?_
 refine .sr fun _ cU=>?_
 refine .as rfl (.nt cU (.block ?_))
 refine .bE (X:=Nat × Value × Value × Value × List Value) [(0,_),(2,_),(3,_),(8,_),(11,_),(12,_)] (fun x=>[(13,.int .i64 (x.1:Int))]) (fun x=>[box ja 213 2 [x.2.1,.map (some mb)],row x.2.1 3 1 (aH f L s 0 x.1).length ((aH f L s 0 x.1).map (Value.int .i64)),mapA mb (kx (Value.int .i64) (Value.int .i64) (gC (aH f L s 0 x.1))),box lP 32 4 [.int .i64 0,.int .i64 0,.slice none 0 0,.slice none 0 0],box qk 32 4 [.int .i64 (L:Int),.int .i64 0,x.2.2.1,x.2.2.2.1],row x.2.2.1 4 1 x.1 ((tk f L s 0 g x.1).map Value.bool),row x.2.2.2.1 67 1 x.1 x.2.2.2.2,bh (dQ (Value.int .i64) 3 x.2.2.2.2 (vZ f L s 0 x.1))]) (fun x=>x.1≤(aH f L s 0 x.1).length∧x.2.2.2.2.length=x.1∧aB x.2.1∧aB x.2.2.1∧aB x.2.2.2.1) (fun x=>U.length - x.1) ((0,vl,.slice none 0 0,.slice none 0 0,[])) aU ?_ ?_ ?_ ?_
 ·exact ⟨Nat.zero_le _,rfl,Xd,cq,cq⟩
 ·exact aU
 ·exact fun w hw=>by have h1:=((hw.lW (f:=Value.int .i64) 3).ghost 4 1).ghost 67 1;exact h1.pk [0,1,2,3,4,6,7,5]
 ·intro x aV _ c7
  have QG:=vC x.1
  have WD:=aV.2.2.2.1
  have WC:=aV.2.2.2.2
  refine .seq fun _ dm=>?_
  refine .sr fun _ dD=>?_
  refine .mv rfl (.v (.fieldAddr jS rfl) (.v (.aa hY rfl ax rfl) (.v (.aZ bX rfl a8) (.v (.lss rfl rfl) (.nt dD ?_)))))
  refine .aA rfl (fun bx=>?_) (fun bx=>?_)
  ·have bZ:x.1<(aH f L s 0 x.1).length:=(by omega)
   have TQ:((aH f L s 0 x.1).getD x.1 0)∈U:=(BT x.1).2 _ (aX bZ)
   have Ms:=fun k hk=>Kz (z:=0) hs hf (k:=k) bZ hk
   refine .skip ?_
   refine .ab (dm _ ?_)
   refine .seq fun _ bJ=>?_
   refine .block ?_
   refine .sr fun _ bP=>?_
   refine .v (.fieldAddr jS rfl) (.v (.aa hY rfl ax rfl) (.mv rfl (.v (.iN bX rfl rfl) ?_)))
   refine .v (.ff cQ rfl a8 (by omega)) ?_
   refine .as rfl (.nt bP ?_)
   refine .sr fun _ ct=>?_
   refine .mv rfl ?_
   refine .kT (n:=L) bX uL rfl rfl rfl (by omega) (by omega) trivial rfl (fun mv=>?_)
   refine .as rfl (.nt ct ?_)
   refine .seq fun _ cK=>?_
   refine .sr fun _ cW=>?_
   refine .mv rfl (.v (.aZ bX rfl a8) (.mv rfl (.nt cW (.block ?_))))
   refine .bE (X:=Nat × Value) [(0,_),(2,_),(3,_),(8,_),(11,_),(12,_),(13,_),(14,_),(15,_),(36,_)] (fun y=>[(37,.int .i64 (y.1:Int))]) (fun y=>[box ja 213 2 [y.2,.map (some mb)],row y.2 3 1 (gk f ((aH f L s 0 x.1).getD x.1 0) (aH f L s 0 x.1) y.1).length ((gk f ((aH f L s 0 x.1).getD x.1 0) (aH f L s 0 x.1) y.1).map (Value.int .i64)),mapA mb (kx (Value.int .i64) (Value.int .i64) (gC (gk f ((aH f L s 0 x.1).getD x.1 0) (aH f L s 0 x.1) y.1))),box lP 32 4 [.int .i64 0,.int .i64 0,.slice none 0 0,.slice none 0 0],box qk 32 4 [.int .i64 (L:Int),.int .i64 0,x.2.2.1,x.2.2.2.1],row x.2.2.1 4 1 x.1 ((tk f L s 0 g x.1).map Value.bool),row x.2.2.2.1 67 1 x.1 x.2.2.2.2,bh (dQ (Value.int .i64) 3 x.2.2.2.2 (vZ f L s 0 x.1)),row mv 3 1 L (((yh f ((aH f L s 0 x.1).getD x.1 0) (aH f L s 0 x.1) y.1)++List.replicate (L - y.1) 0).map (Value.int .i64))]) (fun y=>y.1≤L∧aB y.2) (fun y=>L - y.1) ((0,x.2.1)) aU ?_ ?_ ?_ ?_
   ·exact ⟨Nat.zero_le _,aV.2.2.1⟩
   ·exact aU
   ·exact fun w hw=>by have e:(((yh f ((aH f L s 0 x.1).getD x.1 0) (aH f L s 0 x.1) 0)++List.replicate (L - 0) 0).map (Value.int .i64))=List.replicate L (Value.int .i64 0):=(by simp [yh]);rw [e];exact hw
   ·intro y c6 _ c8
    refine .sr fun _ dw=>?_
    refine .v (.lss rfl rfl) (.nt dw ?_)
    refine .seq fun _ dE=>?_
    refine .aA rfl (fun cB=>?_) (fun cB=>?_)
    ·refine .skip ?_
     refine .ab (dE _ ?_)
     refine .seq fun _ dR=>?_
     refine .block ?_
     refine .sr fun _ dO=>?_
     refine .mv rfl (.as rfl (.nt dO ?_))
     refine .region ?_
     refine .mv rfl (.mv rfl (.mv rfl (.mv rfl (.mv rfl ?_))))
     refine .oQ XU rfl rfl (fun w hw=>hN w hw.frame _ TQ y.1 (by omega)) trivial rfl ?_
     rintro r o ⟨rfl,rfl⟩
     refine .own' (bh [box ja 213 2 [y.2,.map (some mb)],row y.2 3 1 (gk f ((aH f L s 0 x.1).getD x.1 0) (aH f L s 0 x.1) y.1).length ((gk f ((aH f L s 0 x.1).getD x.1 0) (aH f L s 0 x.1) y.1).map (Value.int .i64)),mapA mb (kx (Value.int .i64) (Value.int .i64) (gC (gk f ((aH f L s 0 x.1).getD x.1 0) (aH f L s 0 x.1) y.1)))] :: [box lP 32 4 [.int .i64 0,.int .i64 0,.slice none 0 0,.slice none 0 0],box qk 32 4 [.int .i64 (L:Int),.int .i64 0,x.2.2.1,x.2.2.2.1],row x.2.2.1 4 1 x.1 ((tk f L s 0 g x.1).map Value.bool),row x.2.2.2.1 67 1 x.1 x.2.2.2.2,bh (dQ (Value.int .i64) 3 x.2.2.2.2 (vZ f L s 0 x.1)),row mv 3 1 L (((yh f ((aH f L s 0 x.1).getD x.1 0) (aH f L s 0 x.1) y.1)++List.replicate (L - y.1) 0).map (Value.int .i64))]) (fun w hw=>HW.fU (l:=[_,_,_]) (own:=[_,_,_,_,_,_]) (hw.pk [0,1,2,3,4,5,6,7,8])) ?_
     refine .CA 0 rfl PO rfl (fun w F hw hA=>U7 w F ja mb y.2 (gk f ((aH f L s 0 x.1).getD x.1 0) (aH f L s 0 x.1) y.1) (f ((aH f L s 0 x.1).getD x.1 0) y.1) (by have:=Ms y.1 (by omega);omega) c6.2 hA) trivial rfl ?_
     rintro r A o ⟨va,sa,rfl,rfl,rfl⟩
     refine .mo rfl ?_
     refine .v (.iN bX rfl rfl) ?_
     refine .di 8 rfl tf rfl rfl rfl rfl (by omega) (cs':=(((yh f ((aH f L s 0 x.1).getD x.1 0) (aH f L s 0 x.1) (y.1+1))++List.replicate (L - (y.1+1)) 0).map (Value.int .i64))) (by exact fJ (Value.int .i64) (yh f ((aH f L s 0 x.1).getD x.1 0) (aH f L s 0 x.1) y.1) 0 _ L y.1 (sc _ _ _ _) (by omega)) trivial ?_
     refine .nil (.ag ?_)
     refine .ab (dR _ ?_)
     refine .region ?_
     refine .v (.add rfl rfl (by omega)) ?_
     refine .mv rfl (.nil ?_)
     refine .ab (c8 _ _ ((y.1+1,va)) ⟨by dsimp only;omega,sa⟩ (by dsimp only;omega) (aU) (fun w hw=>hw))
    ·refine .shape 8 rfl (fun MI=>?_)
     have MG:y.1=L:=(by omega)
     refine .exit (.ai (.ai (.ar ?_)))
     refine .ab (cK _ ?_)
     refine .seq fun _ eJ=>?_
     refine .sr fun _ eY=>?_
     refine .v (.fieldAddr jS rfl) (.v (.aa hY rfl ax rfl) (.v (.aZ bX rfl a8) (.v (.gtr rfl rfl) (.nt eY ?_))))
     refine .dH rfl (decide_eq_false (by have:=Ms y.1 (by omega);omega)) ?_
     refine .skip ?_
     refine .ab (eJ _ ?_)
     refine .sr fun _ eI=>?_
     refine .v (.fieldAddr eQ rfl) (.v (.aa lC rfl ax rfl) (.mv rfl ?_))
     refine .fF 6 rfl kQ JD rfl (by decide) rfl (by intro k hk;cases hk;rfl) (by rw [MI.cells];rfl) (by rw [MI.cells];exact aw MI.one bY) (by omega) (by omega) (by decide) rfl rfl (fun yl _ Tp=>?_)
     refine .v (.fieldAddr eQ rfl) ?_
     refine .ah 4 (us:=[yl]) (cs':=[.int .i64 (L:Int),.int .i64 0,x.2.2.1,yl]) rfl M0 rfl rfl (by rw [aB.cells (by assumption)]) rfl aJ (aT rfl) rfl trivial ?_
     refine .nt eI ?_
     try (conv=>enter [2,2];simp only [cE])
     refine .held 8 mixed ?_
     refine .F 0 8 9 1 rfl (.fieldAddr dp rfl) trivial ?_
     refine .F 1 7 9 3 rfl (.aa jx rfl ax rfl) trivial ?_
     refine .F 2 6 9 7 rfl (.move rfl) trivial ?_
     refine .F 3 5 9 15 rfl (.move rfl) trivial ?_
     refine .O 4 4 9 31 rfl ?_
     refine .oQ XW rfl rfl (fun w hw=>hG w hw.frame _ TQ) trivial rfl ?_
     rintro r o ⟨rfl,rfl⟩
     refine .nil ?_
     try (conv=>enter [2,2];simp only [cE])
     refine ay.back Go.Sx.hle ?_
     refine .O 5 3 9 63 rfl ?_
     refine .lit (xs:=[.tmp 64]) gf Mz rfl rfl rfl (by simp [Value.cells]) (by decide) (by decide) trivial rfl (fun lg=>?_)
     refine .nil ?_
     try (conv=>enter [2,2];simp only [cE])
     refine ay.back Go.Sx.hle ?_
     refine .O 6 2 9 127 rfl ?_
     refine .BH 5 rfl gf Mz rfl (by decide) rfl rfl rfl a8 aJ (by omega) (by omega) trivial rfl (fun Hf Hq=>?_)
     refine .nil ?_
     try (conv=>enter [2,2];simp only [cE])
     refine ay.back Go.Sx.hle ?_
     refine .F 7 1 9 255 rfl (.fieldAddr dp rfl) trivial ?_
     refine .O 8 0 9 511 rfl ?_
     refine .ah 4 (us:=[Hf]) (cs':=[.int .i64 (L:Int),.int .i64 0,Hf,yl]) rfl M1 rfl rfl (by rw [aB.cells (by assumption)]) rfl aJ (aT rfl) rfl trivial ?_
     refine .nil ?_
     try (conv=>enter [2,2];simp only [cE])
     refine ay.ir 9 cx rfl cx ?_
     refine .nil ?_
     refine .fu ?_
     refine .ag ?_
     refine .ab (bJ _ ?_)
     refine .region ?_
     refine .mv rfl ?_
     refine .v (.add rfl rfl (by omega)) ?_
     refine .as rfl (.nil ?_)
     refine .ab (c7 _ _ ((x.1+1,y.2,Hf,yl,x.2.2.2.2++[mv])) ⟨by dsimp only;rw [fm bZ];have:=sg f ((aH f L s 0 x.1).getD x.1 0) (aH f L s 0 x.1) L;obtain ⟨ys,e⟩:=this;rw [e,List.length_append];omega,by simp [aV.2.1],c6.2,Hq,Tp⟩ (by dsimp only;omega) (aU) (fun w hw=>by
      dsimp only
      have e2:dQ (Value.int .i64) 3 (x.2.2.2.2++[mv]) (vZ f L s 0 (x.1+1))=dQ (Value.int .i64) 3 x.2.2.2.2 (vZ f L s 0 x.1)++[row mv 3 1 (yh f ((aH f L s 0 x.1).getD x.1 0) (aH f L s 0 x.1) L).length ((yh f ((aH f L s 0 x.1).getD x.1 0) (aH f L s 0 x.1) L).map (Value.int .i64))]:=kL (by rw [pL];exact aV.2.1) mv _
      have e3:mv.cells.toList=[mv]:=(by rw [MI.cells])
      have e4:L - y.1=0:=(by omega)
      rw [e3,e4] at hw
      rw [e2,fm bZ,sc]
      rw [MG] at hw
      have e5:(tk f L s 0 g (x.1+1)).map Value.bool=(tk f L s 0 g x.1).map Value.bool++[Value.bool (g ((aH f L s 0 x.1).getD x.1 0))].flatMap (·.cells.toList):=(by simp [tk,Value.cells])
      rw [e5]
      have h2:=hw.dG (L:=[_,_,_,_,_,row Hf 4 1 (x.1+1) ((tk f L s 0 g x.1).map Value.bool++[Value.bool (g ((aH f L s 0 x.1).getD x.1 0))].flatMap (·.cells.toList)),_,_,_]) [0,1,2,3,4,5,6,7,8] (by decide) qn
      rw [List.replicate_zero,List.append_nil] at h2
      exact HW.tR (own:=[_,_,_,_,_,_,_,_]) 7 rfl h2))
  ·refine .exit (.ai (.ai (.ar ?_)))
   refine .ab (cJ _ ?_)
   refine .seq fun _ fH=>?_
   try (conv=>enter [2,2];simp only [cE])
   refine .jG _ 6 (fun _ hw=>hw.pk [0,1,2,4,5,6,7]) mixed ?_
   refine .FS (fun _ hw=>hw.pk [0,1,2,4,5,6,7]) 0 5 6 1 rfl (.ak eZ rfl ax rfl rfl) trivial ?_
   refine .FS (fun _ hw=>hw.pk [0,1,2,4,5,6,7]) 1 4 6 3 rfl (.fieldAddr jS rfl) trivial ?_
   refine .FS (fun _ hw=>hw.pk [0,1,2,4,5,6,7]) 2 3 6 7 rfl (.aa hY rfl ax rfl) trivial ?_
   refine .O 3 2 6 15 rfl ?_
   refine .ah 3 (us:=[.int .i64 (L:Int),.int .i64 0,x.2.2.1,x.2.2.2.1]) (cs':=[.int .i64 (L:Int),.int .i64 0,x.2.2.1,x.2.2.2.1]) rfl jW rfl rfl rfl rfl aJ (aT rfl) rfl trivial ?_
   refine .nil ?_
   try (conv=>enter [2,2];simp only [cE])
   refine ay.bo (fun _ hw=>hw.pk [0,1,2,4,5,6,7]) ?_
   refine .FS (fun _ hw=>hw.pk [0,1,2,4,5,6,7]) 4 1 6 31 rfl (.assign rfl) trivial ?_
   refine .FS (fun _ hw=>hw.pk [0,1,2,4,5,6,7]) 5 0 6 63 rfl (.assign rfl) trivial ?_
   refine .done cx ?_
   refine .ab (fH _ ?_)
   refine .ret ?_
   refine .own' ([box ja 213 2 [x.2.1,.map (some mb)],row x.2.1 3 1 (aH f L s 0 x.1).length ((aH f L s 0 x.1).map (Value.int .i64)),mapA mb (kx (Value.int .i64) (Value.int .i64) (gC (aH f L s 0 x.1))),box lP 32 4 [.int .i64 (L:Int),.int .i64 0,x.2.2.1,x.2.2.2.1],box qk 32 4 [.int .i64 (L:Int),.int .i64 0,x.2.2.1,x.2.2.2.1],row x.2.2.1 4 1 x.1 ((tk f L s 0 g x.1).map Value.bool),row x.2.2.2.1 67 1 x.1 x.2.2.2.2,bh (dQ (Value.int .i64) 3 x.2.2.2.2 (vZ f L s 0 x.1))]) (fun w hw=>hw) ?_
   refine .cO [.cell 8 32,.tmp 9,.tmp 10] rfl (.cons (.cell eZ rfl ax rfl rfl) (.cons (.tmp rfl) (.cons (.tmp rfl) (.nil)))) (fun w hw=>⟨_,_,?_,rfl,.of (hw.pk [5,6,7,1])⟩)
   refine ⟨x.1,x.2.1,x.2.2.1,x.2.2.2.1,x.2.2.2.2,by omega,aV.2.1,aV.2.2.1,aV.2.2.2.1,aV.2.2.2.2,rfl,?_⟩
   unfold kg
   rw [BA,pL];rfl
end Go.Proofs.YtbibnpdnmmgacaaGreatDoor
namespace Go.Proofs.YtbibnpdnmmgacaaGreatDoor
open Go.Sx Go.RowKit
set_option maxHeartbeats 400000 in
theorem U6 (w:World) (F:Nat→Prop) (b mb:Nat) (vL:Value) (xs:List cF) (x:cF) (hl:xs.length≤100000) (sL:aB vL) (hA:(bh [box b 176 2 [vL,.map (some mb)],row vL 42 1 xs.length (xs.map uv),mapA mb (kx uv (Value.int .i64) (gC xs))]).holds w F):ck Tryz.prog 133 [.pointer (some ⟨b,0,none⟩),uv x] w F (fun r A o=>∃ va,aB va∧r = .int .i64 ((bV xs x:Nat):Int)∧A=bh [box b 176 2 [va,.map (some mb)],row va 42 1 (dY xs x).length ((dY xs x).map uv),mapA mb (kx uv (Value.int .i64) (gC (dY xs x)))]∧o=[]):=by
 refine dW Tryz.func133 rfl (aT rfl) hA ?_
 refine .sr fun _ bl=>?_
 refine .as rfl (.nt bl ?_)
 refine .sr fun _ bg=>?_
 refine .mv rfl (.v (.nilCheck rfl) (.v (.fieldAddr nK rfl) (.v (.aa yV rfl ax rfl) (.mv rfl (.v (.k9 yX (M6 MZ) uL rfl rfl MF) (.mv rfl (.v (.extract rfl rfl) ?_)))))))
 refine .v (.extract rfl rfl) (.as rfl (.as rfl (.nt bg ?_)))
 refine .seq fun _ bW=>?_
 refine .sr fun _ cr=>?_
 refine .mv rfl (.v (.not rfl) (.nt cr ?_))
 refine .eW rfl (fun bx=>?_) (fun bx=>?_)
 ·have hx:x ∉ xs:=by
   rw [gU] at bx;intro h;rw [if_pos h] at bx;cases bx
  refine .seq fun _ cJ=>?_
  refine .sr fun _ cU=>?_
  refine .mv rfl (.v (.nilCheck rfl) (.v (.fieldAddr nK rfl) (.v (.aa yV rfl ax rfl) (.v (.Aw yX rfl) (.nt cU ?_)))))
  refine .dH rfl (rfl) ?_
  refine .skip ?_
  refine .ab (cJ _ ?_)
  refine .sr fun _ c7=>?_
  refine .mv rfl (.v (.nilCheck rfl) (.v (.fieldAddr jT rfl) (.v (.aa tw rfl ax rfl) (.v (.aZ lB rfl a8) (.as rfl (.nt c7 ?_))))))
  refine .sr fun _ dm=>?_
  refine .mv rfl (.v (.nilCheck rfl) (.v (.fieldAddr nK rfl) (.v (.aa yV rfl ax rfl) (.mv rfl (.mv rfl ?_)))))
  refine .qX 2 rfl yX (M6 MZ) rfl rfl rfl trivial ?_
  refine .nt dm ?_
  refine .region ?_
  refine .mv rfl (.mv rfl (.v (.nilCheck rfl) (.v (.fieldAddr jT rfl) (.v (.aa tw rfl ax rfl) (.mv rfl ?_)))))
  refine .fF 1 rfl lB JE rfl (by decide) rfl (by intro k hk;cases hk;rfl) rfl (by intro u hu;replace hu:u∈[uv x]:=hu;rw [List.mem_singleton] at hu;subst hu;rfl) (by omega) (by omega) (by decide) rfl rfl (fun va _ Qy=>?_)
  refine .v (.nilCheck rfl) (.v (.fieldAddr jT rfl) ?_)
  refine .ah 0 (us:=[va]) (cs':=[va,.map (some mb)]) rfl QV rfl rfl (by rw [aB.cells (by assumption)]) rfl aJ (aT rfl) rfl trivial ?_
  refine .nt bW ?_
  refine .sr fun _ dD=>?_
  refine .mv rfl (.as rfl (.nt dD (.ret ?_)))
  refine .grown [box b 176 2 [va,.map (some mb)],row va 42 1 (xs.length+1) ((xs.map uv)++(uv x).cells.toList),mapA mb (kx uv (Value.int .i64) (jI (gC xs) x (xs.length:Int)))] [0,1,2] (by decide) qn ?_
  refine .aG rfl rfl (fun w hw=>⟨_,_,_,?_,rfl,kq.ez hw⟩)
  refine ⟨va,Qy,?_,?_,rfl⟩
  ·rw [ix hx]
   try rfl
  ·rw [show dY xs x=xs++[x] from if_neg hx,← ua hx];simp [Value.cells,uv]
 ·have hx:x∈xs:=by
   rw [gU] at bx;by_cases h:x∈xs
   ·exact h
   ·rw [if_neg h] at bx;cases bx
  refine .skip ?_
  refine .ab (bW _ ?_)
  refine .sr fun _ bJ=>?_
  refine .mv rfl (.as rfl (.nt bJ (.ret ?_)))
  refine .grown [box b 176 2 [vL,.map (some mb)],row vL 42 1 xs.length (xs.map uv),mapA mb (kx uv (Value.int .i64) (gC xs))] [0,1,2] (by decide) qn ?_
  refine .aG rfl rfl (fun w hw=>⟨_,_,_,?_,rfl,kq.ez hw⟩)
  refine ⟨vL,sL,?_,?_,rfl⟩
  ·rw [gU,if_pos hx]
   try rfl
  ·rw [show dY xs x=xs from if_pos hx]
set_option maxHeartbeats 400000 in
theorem Sb (w:World) (F:Nat→Prop) (b:Nat) (x:cF) (hA:(bh [box b 176 2 [.slice none 0 0,.map none]]).holds w F):ck Tryz.prog 133 [.pointer (some ⟨b,0,none⟩),uv x] w F (fun r A o=>∃ va mb,aB va∧r = .int .i64 0∧A=bh [box b 176 2 [va,.map (some mb)],row va 42 1 [x].length ([x].map uv),mapA mb (kx uv (Value.int .i64) (gC [x]))]∧o=[]):=by
 refine dW Tryz.func133 rfl (aT rfl) hA ?_
 refine .ghost 42 1 ?_
 refine .sr fun _ bl=>?_
 refine .as rfl (.nt bl ?_)
 refine .sr fun _ bg=>?_
 refine .mv rfl (.v (.nilCheck rfl) (.v (.fieldAddr nK rfl) (.v (.aa yV rfl ax rfl) (.mv rfl (.v (.k9 (m:=([]:List (cF × Int))) yX (M6 MZ) uL rfl rfl oq.nil) (.mv rfl (.v (.extract rfl rfl) ?_)))))))
 refine .v (.extract rfl rfl) (.as rfl (.as rfl (.nt bg ?_)))
 refine .seq fun _ bW=>?_
 refine .sr fun _ cr=>?_
 refine .mv rfl (.v (.not rfl) (.nt cr ?_))
 refine .cD rfl (rfl) ?_
 refine .seq fun _ cJ=>?_
 refine .sr fun _ cU=>?_
 refine .mv rfl (.v (.nilCheck rfl) (.v (.fieldAddr nK rfl) (.v (.aa yV rfl ax rfl) (.v (.Aw yX rfl) (.nt cU ?_)))))
 refine .cD rfl (rfl) ?_
 refine .region ?_
 refine .mv rfl ?_
 refine .makeMap trivial rfl (fun mb=>?_)
 refine .v (.nilCheck rfl) (.v (.fieldAddr nK rfl) ?_)
 refine .ah 0 (us:=[.map (some mb)]) (cs':=[.slice none 0 0,.map (some mb)]) rfl UZ rfl rfl rfl rfl aJ (aT rfl) rfl trivial ?_
 refine .nt cJ ?_
 refine .sr fun _ c7=>?_
 refine .mv rfl (.v (.nilCheck rfl) (.v (.fieldAddr jT rfl) (.v (.aa tw rfl ax rfl) (.v (.aZ lB rfl a8) (.as rfl (.nt c7 ?_))))))
 refine .sr fun _ dm=>?_
 refine .mv rfl (.v (.nilCheck rfl) (.v (.fieldAddr nK rfl) (.v (.aa yV rfl ax rfl) (.mv rfl (.mv rfl ?_)))))
 refine .qX 2 (m:=([]:List (cF × Int))) rfl yX (M6 MZ) rfl rfl rfl trivial ?_
 refine .nt dm ?_
 refine .region ?_
 refine .mv rfl (.mv rfl (.v (.nilCheck rfl) (.v (.fieldAddr jT rfl) (.v (.aa tw rfl ax rfl) (.mv rfl ?_)))))
 refine .fF 1 rfl lB JE rfl (by decide) rfl (by intro k hk;cases hk;rfl) rfl (by intro u hu;replace hu:u∈[uv x]:=hu;rw [List.mem_singleton] at hu;subst hu;rfl) (by omega) (by omega) (by decide) rfl rfl (fun va _ Qy=>?_)
 refine .v (.nilCheck rfl) (.v (.fieldAddr jT rfl) ?_)
 refine .ah 0 (us:=[va]) (cs':=[va,.map (some mb)]) rfl QV rfl rfl (by rw [aB.cells (by assumption)]) rfl aJ (aT rfl) rfl trivial ?_
 refine .nt bW ?_
 refine .sr fun _ dD=>?_
 refine .mv rfl (.as rfl (.nt dD (.ret ?_)))
 refine .grown [box b 176 2 [va,.map (some mb)],row va 42 1 (0+1) ([]++(uv x).cells.toList),mapA mb (kx uv (Value.int .i64) (jI ([]:List (cF × Int)) x ((0:Nat):Int)))] [0,1,2] (by decide) qn ?_
 refine .aG rfl rfl (fun w hw=>⟨_,_,_,?_,rfl,kq.ez hw⟩)
 exact ⟨va,mb,Qy,rfl,rfl,rfl⟩
set_option maxHeartbeats 1000000 in
theorem DA (w:World) (L:Nat) (s:cF) (f:cF→Nat→cF) (g:cF→Bool) (Pk:cF→Prop) (fN fG:Nat) (cN cG:List Value) (hL:1≤L∧L≤6) (hs:Pk s) (hf:∀ q,Pk q→∀ x,x<L→Pk (f q x)) (XU:aj Tryz.prog fN) (XW:aj Tryz.prog fG) (hN:∀ w',bj (fun _=>False) w w'→∀ q,Pk q→∀ x,x<L→aK Tryz.prog fN ([(uv q),.int .i64 (x:Int)]++cN) w' (fun r o=>r=(uv (f q x))∧o=[])) (hG:∀ w',bj (fun _=>False) w w'→∀ q,Pk q→aK Tryz.prog fG ([(uv q)]++cG) w' (fun r o=>r = .bool (g q)∧o=[])):aK Tryz.prog 81 [.int .i64 (L:Int),uv s,.func (.func fN) #[] cN.toArray,.func (.func fG) #[] cG.toArray] w (fun r o=>∃ (d:bB) (e:Int) (vL vF vN:Value) (rs:List Value),((e=3∧d=yv)∨(e=0∧Ni (L:Int) L f s g d))∧rs.length=d.nx.length∧aB vL∧aB vF∧aB vN∧r = .tuple #[.agg #[.int .i64 d.L,.int .i64 d.s,vF,vN],vL,.int .i64 e]∧o=kg 4 3 67 vF vN rs d):=by
 have BT:=De (z:=0) (L:=L) hs hf
 refine aC Tryz.func81 rfl (aT rfl) ?_
 refine .sr fun _ bl=>?_
 refine .alloc lR rfl rfl trivial rfl (fun lP=>?_)
 refine .as rfl (.as rfl (.nt bl ?_))
 refine .sr fun _ bg=>?_
 refine .alloc VJ rfl rfl trivial rfl (fun ja=>?_)
 refine .nt bg ?_
 refine .sr fun _ bW=>?_
 refine .mv rfl ?_
 refine .own' [bh [box ja 176 2 [.slice none 0 0,.map none]],box lP 32 4 [.int .i64 0,.int .i64 0,.slice none 0 0,.slice none 0 0]] (fun w hw=>HW.fU (l:=[_]) (own:=[_]) (hw.pk [1,0])) ?_
 refine .CA 0 rfl PW rfl (fun w F hw hA=>Sb w F ja s hA) trivial rfl ?_
 rintro r A o ⟨vl,mb,Xd,rfl,rfl,rfl⟩
 refine .mo rfl ?_
 refine .nt bW ?_
 refine .sr fun _ cr=>?_
 refine .mv rfl ?_
 refine .v (.build (parts:=[(0,.tmp 19)]) (cs:=#[.int .i64 (L:Int),.int .i64 0,.slice none 0 0,.slice none 0 0]) rfl (by kernel_rfl)) ?_
 refine .alloc lR rfl rfl trivial rfl (fun qk=>?_)
 refine .ah 4 (us:=[.int .i64 (L:Int),.int .i64 0,.slice none 0 0,.slice none 0 0]) (cs':=[.int .i64 (L:Int),.int .i64 0,.slice none 0 0,.slice none 0 0]) rfl jW rfl rfl rfl rfl aJ (aT rfl) rfl trivial ?_
 refine .nt cr ?_
 refine .seq fun _ cJ=>?_
 refine .sr fun _ cU=>?_
 refine .as rfl (.nt cU (.block ?_))
 refine .bE (X:=Nat × Value × Value × Value × List Value) [(0,_),(2,_),(3,_),(8,_),(11,_),(12,_)] (fun x=>[(13,.int .i64 (x.1:Int))]) (fun x=>[box ja 176 2 [x.2.1,.map (some mb)],row x.2.1 42 1 (aH f L s 0 x.1).length ((aH f L s 0 x.1).map uv),mapA mb (kx uv (Value.int .i64) (gC (aH f L s 0 x.1))),box lP 32 4 [.int .i64 0,.int .i64 0,.slice none 0 0,.slice none 0 0],box qk 32 4 [.int .i64 (L:Int),.int .i64 0,x.2.2.1,x.2.2.2.1],row x.2.2.1 4 1 x.1 ((tk f L s 0 g x.1).map Value.bool),row x.2.2.2.1 67 1 x.1 x.2.2.2.2,bh (dQ (Value.int .i64) 3 x.2.2.2.2 (vZ f L s 0 x.1))]) (fun x=>x.1≤(aH f L s 0 x.1).length∧x.2.2.2.2.length=x.1∧aB x.2.1∧aB x.2.2.1∧aB x.2.2.2.1∧(aH f L s 0 x.1).length≤512) (fun x=>513 - x.1) ((0,vl,.slice none 0 0,.slice none 0 0,[])) aU ?_ ?_ ?_ ?_
 ·exact ⟨Nat.zero_le _,rfl,Xd,cq,cq,by simp [aH]⟩
 ·exact aU
 ·exact fun w hw=>by have h1:=((hw.lW (f:=Value.int .i64) 3).ghost 4 1).ghost 67 1;exact h1.pk [0,1,2,3,4,6,7,5]
 ·intro x aV _ c7
  have QG:=aV.2.2.2.2.2
  have WD:=aV.2.2.2.1
  have WC:=aV.2.2.2.2.1
  refine .seq fun _ dm=>?_
  refine .sr fun _ dD=>?_
  refine .mv rfl (.v (.fieldAddr jT rfl) (.v (.aa tw rfl ax rfl) (.v (.aZ lB rfl a8) (.v (.lss rfl rfl) (.nt dD ?_)))))
  refine .aA rfl (fun bx=>?_) (fun bx=>?_)
  ·have bZ:x.1<(aH f L s 0 x.1).length:=(by omega)
   have TQ:Pk ((aH f L s 0 x.1).getD x.1 0):=BT x.1 _ (aX bZ)
   have Ms:=fun k=>Ky f ((aH f L s 0 x.1).getD x.1 0) (aH f L s 0 x.1) k
   refine .skip ?_
   refine .ab (dm _ ?_)
   refine .seq fun _ bJ=>?_
   refine .block ?_
   refine .sr fun _ bP=>?_
   refine .v (.fieldAddr jT rfl) (.v (.aa tw rfl ax rfl) (.mv rfl (.v (.iN lB rfl rfl) ?_)))
   refine .v (.rS iY rfl a8 (by omega)) ?_
   refine .as rfl (.nt bP ?_)
   refine .sr fun _ ct=>?_
   refine .mv rfl ?_
   refine .kT (n:=L) bX uL rfl rfl rfl (by omega) (by omega) trivial rfl (fun mv=>?_)
   refine .as rfl (.nt ct ?_)
   refine .seq fun _ cK=>?_
   refine .sr fun _ cW=>?_
   refine .mv rfl (.v (.aZ bX rfl a8) (.mv rfl (.nt cW (.block ?_))))
   refine .bE (X:=Nat × Value) [(0,_),(2,_),(3,_),(8,_),(11,_),(12,_),(13,_),(14,_),(15,_),(36,_)] (fun y=>[(37,.int .i64 (y.1:Int))]) (fun y=>[box ja 176 2 [y.2,.map (some mb)],row y.2 42 1 (gk f ((aH f L s 0 x.1).getD x.1 0) (aH f L s 0 x.1) y.1).length ((gk f ((aH f L s 0 x.1).getD x.1 0) (aH f L s 0 x.1) y.1).map uv),mapA mb (kx uv (Value.int .i64) (gC (gk f ((aH f L s 0 x.1).getD x.1 0) (aH f L s 0 x.1) y.1))),box lP 32 4 [.int .i64 0,.int .i64 0,.slice none 0 0,.slice none 0 0],box qk 32 4 [.int .i64 (L:Int),.int .i64 0,x.2.2.1,x.2.2.2.1],row x.2.2.1 4 1 x.1 ((tk f L s 0 g x.1).map Value.bool),row x.2.2.2.1 67 1 x.1 x.2.2.2.2,bh (dQ (Value.int .i64) 3 x.2.2.2.2 (vZ f L s 0 x.1)),row mv 3 1 L (((yh f ((aH f L s 0 x.1).getD x.1 0) (aH f L s 0 x.1) y.1)++List.replicate (L - y.1) 0).map (Value.int .i64))]) (fun y=>y.1≤L∧aB y.2) (fun y=>L - y.1) ((0,x.2.1)) aU ?_ ?_ ?_ ?_
   ·exact ⟨Nat.zero_le _,aV.2.2.1⟩
   ·exact aU
   ·exact fun w hw=>by have e:(((yh f ((aH f L s 0 x.1).getD x.1 0) (aH f L s 0 x.1) 0)++List.replicate (L - 0) 0).map (Value.int .i64))=List.replicate L (Value.int .i64 0):=(by simp [yh]);rw [e];exact hw
   ·intro y c6 _ c8
    refine .sr fun _ dw=>?_
    refine .v (.lss rfl rfl) (.nt dw ?_)
    refine .seq fun _ dE=>?_
    refine .aA rfl (fun cB=>?_) (fun cB=>?_)
    ·refine .skip ?_
     refine .ab (dE _ ?_)
     refine .seq fun _ dR=>?_
     refine .block ?_
     refine .sr fun _ dO=>?_
     refine .mv rfl (.as rfl (.nt dO ?_))
     refine .region ?_
     refine .mv rfl (.mv rfl (.mv rfl (.mv rfl (.mv rfl ?_))))
     refine .oQ XU rfl rfl (fun w hw=>hN w hw.frame _ TQ y.1 (by omega)) trivial rfl ?_
     rintro r o ⟨rfl,rfl⟩
     refine .own' (bh [box ja 176 2 [y.2,.map (some mb)],row y.2 42 1 (gk f ((aH f L s 0 x.1).getD x.1 0) (aH f L s 0 x.1) y.1).length ((gk f ((aH f L s 0 x.1).getD x.1 0) (aH f L s 0 x.1) y.1).map uv),mapA mb (kx uv (Value.int .i64) (gC (gk f ((aH f L s 0 x.1).getD x.1 0) (aH f L s 0 x.1) y.1)))] :: [box lP 32 4 [.int .i64 0,.int .i64 0,.slice none 0 0,.slice none 0 0],box qk 32 4 [.int .i64 (L:Int),.int .i64 0,x.2.2.1,x.2.2.2.1],row x.2.2.1 4 1 x.1 ((tk f L s 0 g x.1).map Value.bool),row x.2.2.2.1 67 1 x.1 x.2.2.2.2,bh (dQ (Value.int .i64) 3 x.2.2.2.2 (vZ f L s 0 x.1)),row mv 3 1 L (((yh f ((aH f L s 0 x.1).getD x.1 0) (aH f L s 0 x.1) y.1)++List.replicate (L - y.1) 0).map (Value.int .i64))]) (fun w hw=>HW.fU (l:=[_,_,_]) (own:=[_,_,_,_,_,_]) (hw.pk [0,1,2,3,4,5,6,7,8])) ?_
     refine .CA 0 rfl PW rfl (fun w F hw hA=>U6 w F ja mb y.2 (gk f ((aH f L s 0 x.1).getD x.1 0) (aH f L s 0 x.1) y.1) (f ((aH f L s 0 x.1).getD x.1 0) y.1) (by have:=Ms y.1;omega) c6.2 hA) trivial rfl ?_
     rintro r A o ⟨va,sa,rfl,rfl,rfl⟩
     refine .mo rfl ?_
     refine .v (.iN bX rfl rfl) ?_
     refine .di 8 rfl tf rfl rfl rfl rfl (by omega) (cs':=(((yh f ((aH f L s 0 x.1).getD x.1 0) (aH f L s 0 x.1) (y.1+1))++List.replicate (L - (y.1+1)) 0).map (Value.int .i64))) (by exact fJ (Value.int .i64) (yh f ((aH f L s 0 x.1).getD x.1 0) (aH f L s 0 x.1) y.1) 0 _ L y.1 (sc _ _ _ _) (by omega)) trivial ?_
     refine .nil (.ag ?_)
     refine .ab (dR _ ?_)
     refine .region ?_
     refine .v (.add rfl rfl (by omega)) ?_
     refine .mv rfl (.nil ?_)
     refine .ab (c8 _ _ ((y.1+1,va)) ⟨by dsimp only;omega,sa⟩ (by dsimp only;omega) (aU) (fun w hw=>hw))
    ·refine .shape 8 rfl (fun MI=>?_)
     have MG:y.1=L:=(by omega)
     refine .exit (.ai (.ai (.ar ?_)))
     refine .ab (cK _ ?_)
     refine .seq fun _ eJ=>?_
     refine .sr fun _ eY=>?_
     refine .v (.fieldAddr jT rfl) (.v (.aa tw rfl ax rfl) (.v (.aZ lB rfl a8) (.v (.gtr rfl rfl) (.nt eY ?_))))
     refine .aA rfl (fun cZ=>?_) (fun cZ=>?_)
     ·refine .sr fun _ eI=>?_
      refine .v (.build (parts:=[]) (cs:=#[.int .i64 0,.int .i64 0,.slice none 0 0,.slice none 0 0]) rfl (by kernel_rfl)) ?_
      refine .ah 3 (us:=[.int .i64 0,.int .i64 0,.slice none 0 0,.slice none 0 0]) (cs':=[.int .i64 0,.int .i64 0,.slice none 0 0,.slice none 0 0]) rfl jW rfl rfl rfl rfl aJ (aT rfl) rfl trivial ?_
      refine .as rfl (.as rfl (.nt eI (.ret (.ae (.al (.ae (.ae (.al (.ae ?_)))))))))
      refine .own' (kg 4 3 67 (.slice none 0 0) (.slice none 0 0) [] yv++[box lP 32 4 [.int .i64 0,.int .i64 0,.slice none 0 0,.slice none 0 0]]) (fun w hw=>by have h1:=(((hw.pk [3]).ghost 4 1).ghost 67 1).lW (f:=Value.int .i64) 3;exact h1.pk [1,2,3,0]) ?_
      refine .cO [.cell 8 32,.tmp 9,.tmp 10] rfl (.cons (.cell eZ rfl ax rfl rfl) (.cons (.tmp rfl) (.cons (.tmp rfl) (.nil)))) (fun w hw=>⟨_,_,?_,rfl,.of (hw.pk [0,1,2])⟩)
      exact ⟨yv,3,.slice none 0 0,.slice none 0 0,.slice none 0 0,[],.inl ⟨rfl,rfl⟩,rfl,cq,cq,cq,rfl,rfl⟩
     ·refine .skip ?_
      refine .ab (eJ _ ?_)
      refine .sr fun _ fH=>?_
      refine .v (.fieldAddr eQ rfl) (.v (.aa lC rfl ax rfl) (.mv rfl ?_))
      refine .fF 6 rfl kQ JD rfl (by decide) rfl (by intro k hk;cases hk;rfl) (by rw [MI.cells];rfl) (by rw [MI.cells];exact aw MI.one bY) (by omega) (by omega) (by decide) rfl rfl (fun yl _ Tp=>?_)
      refine .v (.fieldAddr eQ rfl) ?_
      refine .ah 4 (us:=[yl]) (cs':=[.int .i64 (L:Int),.int .i64 0,x.2.2.1,yl]) rfl M0 rfl rfl (by rw [aB.cells (by assumption)]) rfl aJ (aT rfl) rfl trivial ?_
      refine .nt fH ?_
      try (conv=>enter [2,2];simp only [cE])
      refine .held 8 mixed ?_
      refine .F 0 8 9 1 rfl (.fieldAddr dp rfl) trivial ?_
      refine .F 1 7 9 3 rfl (.aa jx rfl ax rfl) trivial ?_
      refine .F 2 6 9 7 rfl (.move rfl) trivial ?_
      refine .F 3 5 9 15 rfl (.move rfl) trivial ?_
      refine .O 4 4 9 31 rfl ?_
      refine .oQ XW rfl rfl (fun w hw=>hG w hw.frame _ TQ) trivial rfl ?_
      rintro r o ⟨rfl,rfl⟩
      refine .nil ?_
      try (conv=>enter [2,2];simp only [cE])
      refine ay.back Go.Sx.hle ?_
      refine .O 5 3 9 63 rfl ?_
      refine .lit (xs:=[.tmp 64]) gf Mz rfl rfl rfl (by simp [Value.cells]) (by decide) (by decide) trivial rfl (fun lg=>?_)
      refine .nil ?_
      try (conv=>enter [2,2];simp only [cE])
      refine ay.back Go.Sx.hle ?_
      refine .O 6 2 9 127 rfl ?_
      refine .BH 5 rfl gf Mz rfl (by decide) rfl rfl rfl a8 aJ (by omega) (by omega) trivial rfl (fun Hf Hq=>?_)
      refine .nil ?_
      try (conv=>enter [2,2];simp only [cE])
      refine ay.back Go.Sx.hle ?_
      refine .F 7 1 9 255 rfl (.fieldAddr dp rfl) trivial ?_
      refine .O 8 0 9 511 rfl ?_
      refine .ah 4 (us:=[Hf]) (cs':=[.int .i64 (L:Int),.int .i64 0,Hf,yl]) rfl M1 rfl rfl (by rw [aB.cells (by assumption)]) rfl aJ (aT rfl) rfl trivial ?_
      refine .nil ?_
      try (conv=>enter [2,2];simp only [cE])
      refine ay.ir 9 cx rfl cx ?_
      refine .nil ?_
      refine .fu ?_
      refine .ag ?_
      refine .ab (bJ _ ?_)
      refine .region ?_
      refine .mv rfl ?_
      refine .v (.add rfl rfl (by omega)) ?_
      refine .as rfl (.nil ?_)
      refine .ab (c7 _ _ ((x.1+1,y.2,Hf,yl,x.2.2.2.2++[mv])) ⟨by dsimp only;rw [fm bZ];have:=sg f ((aH f L s 0 x.1).getD x.1 0) (aH f L s 0 x.1) L;obtain ⟨ys,e⟩:=this;rw [e,List.length_append];omega,by simp [aV.2.1],c6.2,Hq,Tp,by dsimp only;rw [fm bZ];have e9:(gk f ((aH f L s 0 x.1).getD x.1 0) (aH f L s 0 x.1) L).length=(gk f ((aH f L s 0 x.1).getD x.1 0) (aH f L s 0 x.1) y.1).length:=(by rw [MG]);omega⟩ (by dsimp only;omega) (aU) (fun w hw=>by
       dsimp only
       have e2:dQ (Value.int .i64) 3 (x.2.2.2.2++[mv]) (vZ f L s 0 (x.1+1))=dQ (Value.int .i64) 3 x.2.2.2.2 (vZ f L s 0 x.1)++[row mv 3 1 (yh f ((aH f L s 0 x.1).getD x.1 0) (aH f L s 0 x.1) L).length ((yh f ((aH f L s 0 x.1).getD x.1 0) (aH f L s 0 x.1) L).map (Value.int .i64))]:=kL (by rw [pL];exact aV.2.1) mv _
       have e3:mv.cells.toList=[mv]:=(by rw [MI.cells])
       have e4:L - y.1=0:=(by omega)
       rw [e3,e4] at hw
       rw [e2,fm bZ,sc]
       rw [MG] at hw
       have e5:(tk f L s 0 g (x.1+1)).map Value.bool=(tk f L s 0 g x.1).map Value.bool++[Value.bool (g ((aH f L s 0 x.1).getD x.1 0))].flatMap (·.cells.toList):=(by simp [tk,Value.cells])
       rw [e5]
       have h2:=hw.dG (L:=[_,_,_,_,_,row Hf 4 1 (x.1+1) ((tk f L s 0 g x.1).map Value.bool++[Value.bool (g ((aH f L s 0 x.1).getD x.1 0))].flatMap (·.cells.toList)),_,_,_]) [0,1,2,3,4,5,6,7,8] (by decide) qn
       rw [List.replicate_zero,List.append_nil] at h2
       exact HW.tR (own:=[_,_,_,_,_,_,_,_]) 7 rfl h2))
  ·refine .exit (.ai (.ai (.ar ?_)))
   refine .ab (cJ _ ?_)
   refine .seq fun _ gq=>?_
   try (conv=>enter [2,2];simp only [cE])
   refine .jG _ 6 (fun _ hw=>hw.pk [0,1,2,4,5,6,7]) mixed ?_
   refine .FS (fun _ hw=>hw.pk [0,1,2,4,5,6,7]) 0 5 6 1 rfl (.ak eZ rfl ax rfl rfl) trivial ?_
   refine .FS (fun _ hw=>hw.pk [0,1,2,4,5,6,7]) 1 4 6 3 rfl (.fieldAddr jT rfl) trivial ?_
   refine .FS (fun _ hw=>hw.pk [0,1,2,4,5,6,7]) 2 3 6 7 rfl (.aa tw rfl ax rfl) trivial ?_
   refine .O 3 2 6 15 rfl ?_
   refine .ah 3 (us:=[.int .i64 (L:Int),.int .i64 0,x.2.2.1,x.2.2.2.1]) (cs':=[.int .i64 (L:Int),.int .i64 0,x.2.2.1,x.2.2.2.1]) rfl jW rfl rfl rfl rfl aJ (aT rfl) rfl trivial ?_
   refine .nil ?_
   try (conv=>enter [2,2];simp only [cE])
   refine ay.bo (fun _ hw=>hw.pk [0,1,2,4,5,6,7]) ?_
   refine .FS (fun _ hw=>hw.pk [0,1,2,4,5,6,7]) 4 1 6 31 rfl (.assign rfl) trivial ?_
   refine .FS (fun _ hw=>hw.pk [0,1,2,4,5,6,7]) 5 0 6 63 rfl (.assign rfl) trivial ?_
   refine .done cx ?_
   refine .ab (gq _ ?_)
   refine .ret ?_
   refine .own' ([box ja 176 2 [x.2.1,.map (some mb)],row x.2.1 42 1 (aH f L s 0 x.1).length ((aH f L s 0 x.1).map uv),mapA mb (kx uv (Value.int .i64) (gC (aH f L s 0 x.1))),box lP 32 4 [.int .i64 (L:Int),.int .i64 0,x.2.2.1,x.2.2.2.1],box qk 32 4 [.int .i64 (L:Int),.int .i64 0,x.2.2.1,x.2.2.2.1],row x.2.2.1 4 1 x.1 ((tk f L s 0 g x.1).map Value.bool),row x.2.2.2.1 67 1 x.1 x.2.2.2.2,bh (dQ (Value.int .i64) 3 x.2.2.2.2 (vZ f L s 0 x.1))]) (fun w hw=>hw) ?_
   refine .cO [.cell 8 32,.tmp 9,.tmp 10] rfl (.cons (.cell eZ rfl ax rfl rfl) (.cons (.tmp rfl) (.cons (.tmp rfl) (.nil)))) (fun w hw=>⟨_,_,?_,rfl,.of (hw.pk [5,6,7])⟩)
   refine ⟨⟨(L:Int),0,(tk f L s 0 g x.1),(vZ f L s 0 x.1)⟩,0,x.2.1,x.2.2.1,x.2.2.2.1,x.2.2.2.2,.inr ⟨rfl,SS (by omega) (by omega) hL⟩,?_,aV.2.2.1,aV.2.2.2.1,aV.2.2.2.2.1,rfl,?_⟩
   ·rw [show (bB.nx ⟨(L:Int),0,(tk f L s 0 g x.1),(vZ f L s 0 x.1)⟩).length=x.1 from pL _ _ _ _ _];exact aV.2.1
   ·unfold kg
    rw [BA,pL];rfl
end Go.Proofs.YtbibnpdnmmgacaaGreatDoor
namespace Go.Proofs.YtbibnpdnmmgacaaGreatDoor
open Go.Sx Go.RowKit
set_option maxHeartbeats 2000000 in
theorem y8 (w:World) (v:Value) (n:kc) (h:MB (fun _=>False) w v n) (hv:VN n) (hT:vp w):aK Tryz.prog 31 [v] w (fun r o=>∃ (d:bB) (e:Int) (vF vN vS:Value) (rs:List Value),((e=3∧d=yv)∨(e=0∧Ni n.L n.L.toNat (fS n) n.st (gS n) d))∧rs.length=d.nx.length∧aB vF∧aB vN∧r = .tuple #[.agg #[.int .i64 d.L,.int .i64 d.s,vF,vN],vS,.int .i64 e]∧o=kg 4 3 67 vF vN rs d):=by
 have h0:=h
 obtain ⟨vE,rfl,hE⟩:=h
 have sE:=Rd.sl hE
 have hme:=Rd.le hE
 have hE0:qR n=0:=L4.2 hv
 have hL:=hv.L
 have X1:((n.L.toNat:Nat):Int)=n.L:=(by omega)
 refine aC Tryz.func31 rfl (aT rfl) ?_
 refine .sr fun _ bl=>?_
 refine .cS (E:=45) (cs:=[.int .i64 n.L,.int .i64 n.S,uv n.st,uv n.fi,vE]) rfl rfl rfl trivial rfl (fun jV=>?_)
 refine .alloc lR rfl rfl trivial rfl (fun eu=>?_)
 refine .as rfl (.as rfl (.nt bl ?_))
 refine .seq fun _ bg=>?_
 refine .sr fun _ bW=>?_
 refine .v (.ak yz rfl ax rfl rfl) ?_
 refine .call aam rfl (fun w hw=>Dy w _ n (h0.at hw)) trivial rfl ?_
 rintro r o ⟨rfl,rfl⟩
 refine .as rfl (.nt bW ?_)
 refine .sr fun _ cr=>?_
 refine .mv rfl (.v (.neq rfl rfl) (.nt cr ?_))
 refine .dH rfl (decide_eq_false (by omega)) ?_
 refine .skip ?_
 refine .ab (bg _ ?_)
 refine .seq fun _ cJ=>?_
 try (conv=>enter [2,2];simp only [cE])
 refine .held 11 mixed ?_
 refine .F 0 13 14 1 rfl (.fieldAddr wN rfl) trivial ?_
 refine .F 1 12 14 3 rfl (.aa cQ rfl ax rfl) trivial ?_
 refine .F 2 11 14 7 rfl (.fieldAddr Kx rfl) trivial ?_
 refine .F 3 10 14 15 rfl (.aa iY rfl ax rfl) trivial ?_
 refine .F 4 9 14 31 rfl (.ak yz rfl ax rfl rfl) trivial ?_
 refine .F 6 8 14 95 rfl (.makeFunc (first:=[]) (captured:=[.tmp 1]) rfl rfl) trivial ?_
 refine .O 5 7 14 127 rfl ?_
 refine .call aah rfl (fun w hw=>NK w _ n (h0.at hw) hv) trivial rfl ?_
 rintro r o ⟨bq,tq,ws,I0,rfl,rfl⟩
 refine .nil ?_
 try (conv=>enter [2,2];simp only [cE])
 refine ay.back Go.Sx.hle ?_
 refine .O 7 6 14 255 rfl ?_
 refine .call aai rfl (fun w hw=>(by have h:=DA w n.L.toNat n.st (fS n) (gS n) (fun _=>True) 134 83 [.pointer (some ⟨bq,0,none⟩)] [.pointer (some ⟨jV,0,none⟩)] (by omega) trivial (fun _ _ _ _=>trivial) V5 aag (fun w' bI q hq x hx=>NL w' bq tq ((qL.own 2 hw rfl).fr bI) n hv ((rL.own 3 4 hw (by rw [dI];exact I0) (by rw [dI];rfl) rfl).fr bI) q x hx ((hT.at hw).fr bI (fun h=>h))) (fun w' bI q hq=>R1 w' jV n vE ((qL.own 0 hw rfl).fr bI) q);rw [X1] at h;exact h)) trivial rfl ?_
 rintro r o ⟨d,e,vL,Hg,BN,IM,hE2,Tk,sL,Xh,Xg,rfl,rfl⟩
 refine .nil ?_
 try (conv=>enter [2,2];simp only [cE])
 refine ay.back Go.Sx.hle ?_
 refine .F 8 5 14 511 rfl (.extract rfl rfl) trivial ?_
 refine .F 9 4 14 1023 rfl (.extract rfl rfl) trivial ?_
 refine .F 10 3 14 2047 rfl (.extract rfl rfl) trivial ?_
 refine .O 11 2 14 4095 rfl ?_
 refine .ah 1 (us:=[.int .i64 d.L,.int .i64 d.s,Hg,BN]) (cs':=[.int .i64 d.L,.int .i64 d.s,Hg,BN]) rfl jW rfl rfl rfl rfl aJ (aT rfl) rfl trivial ?_
 refine .nil ?_
 try (conv=>enter [2,2];simp only [cE])
 refine ay.ir 12 cx rfl cx ?_
 refine .as rfl (.as rfl (.nil ?_))
 refine .fu ?_
 refine .ab (cJ _ ?_)
 refine .ret ?_
 refine .cO [.cell 2 32,.tmp 3,.tmp 4] rfl (.cons (.cell eZ rfl ax rfl rfl) (.cons (.tmp rfl) (.cons (.tmp rfl) (.nil)))) (fun w hw=>⟨_,_,?_,rfl,.of (hw.pk [5,6,7])⟩)
 exact ⟨d,e,Hg,BN,vL,IM,hE2,Tk,Xh,Xg,rfl,rfl⟩
end Go.Proofs.YtbibnpdnmmgacaaGreatDoor
