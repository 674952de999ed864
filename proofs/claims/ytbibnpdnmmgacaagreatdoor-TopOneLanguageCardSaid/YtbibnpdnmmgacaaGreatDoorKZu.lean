import Derived.Test.YtbibnpdnmmgacaaGreatDoorKZm
import Derived.Test.YtbibnpdnmmgacaaGreatDoorKZt
import Derived.Test.YtbibnpdnmmgacaaGreatDoorKZj
import Derived.Test.YtbibnpdnmmgacaaGreatDoorKZf
import Derived.Test.YtbibnpdnmmgacaaGreatDoorKZi
import Derived.Test.YtbibnpdnmmgacaaGreatDoorKZg
import Derived.Test.YtbibnpdnmmgacaaGreatDoorKZp
import Derived.Test.YtbibnpdnmmgacaaGreatDoorKZb
import Derived.Test.YtbibnpdnmmgacaaGreatDoorKZc
import Derived.Test.YtbibnpdnmmgacaaGreatDoorKZs
set_option linter.unusedVariables false
set_option linter.unusedSimpArgs false
set_option maxRecDepth 100000
namespace Go.Proofs.YtbibnpdnmmgacaaGreatDoor
open Go.Sx Go.RowKit Go.Sx.Pt
theorem FT:dF Tryz.prog 178:=by unfold dF;kernel_rfl
theorem Gb (m:Nat) (qs:List (Int × Int)) (p:Int × Int):UR m (qs++[p])=Ai (UR m qs) p.1.toNat ((m:Int)+p.2).toNat:=by unfold UR;rw [List.map_append];exact CH _ _
theorem Aj (w:World) (F:Nat→Prop) (b6:Nat) (pv:Value) (f:List Int) (ρ:Nat→Nat) (n:Nat) (i:Int) (hA:(bh [box b6 67 1 [pv],row pv 3 1 n (f.map (Value.int .i64))]).holds w F) (hr:yj ρ f n) (hi:0≤i∧i<n) (hn:n≤4096):ck Tryz.prog 136 [.int .i64 i,.pointer (some ⟨b6,0,none⟩)] w F (fun r A o=>∃ f',yj ρ f' n∧AtR ρ f f' n∧r = .int .i64 ((ρ i.toNat:Nat):Int)∧A=bh [box b6 67 1 [pv],row pv 3 1 n (f'.map (Value.int .i64))]∧o=[]):=by
 refine dW Tryz.func136 rfl (aT rfl) hA ?_
 refine .sr fun _ bl=>?_
 refine .as rfl (.nt bl ?_)
 refine .seq fun _ bg=>?_
 refine .block ?_
 refine .bE (X:=Nat × List Int) [(1,_)] (fun x=>[(0,.int .i64 (x.1:Int))]) (fun x=>[box b6 67 1 [pv],row pv 3 1 n (x.2.map (Value.int .i64))]) (fun x=>yj ρ x.2 n∧x.1<n∧ρ x.1 = ρ i.toNat∧AtR ρ f x.2 n) (fun x=>x.1) ((i.toNat,f)) aU ?_ ?_ ?_ ?_
 ·exact ⟨hr,by dsimp only;omega,rfl,fun j _ h=>h⟩
 ·exact .cons (s9 rfl (by dsimp only;omega)) (aU)
 ·exact fun w hw=>hw
 ·intro x aV _ bW
  obtain ⟨Hm,ta,hp,Ph⟩:=aV
  have hl:=Hm.1
  obtain ⟨a1,a2,a3,a4,a5⟩:=Hm.2 x.1 ta
  have b:=Hm.2 (x.2.getD x.1 0).toNat (by omega)
  refine .seq fun _ cr=>?_
  refine .sr fun _ cJ=>?_
  refine .v (.aa hY rfl ax rfl) (.mv rfl (.v (.iN bX rfl rfl) ?_))
  refine .v (.ff cQ rfl a8 (by omega)) ?_
  refine .mv rfl (.v (.neq rfl rfl) (.nt cJ ?_))
  refine .df rfl (fun bx=>?_) (fun bx=>?_)
  ·refine .skip ?_
   refine .ab (cr _ ?_)
   refine .block ?_
   refine .seq fun _ cU=>?_
   refine .kK 10 mixed cx (fun _ fA=>?_)
   refine .v fA (.aa hY rfl ax rfl) (.v fA (.move rfl) (.v fA (.aa hY rfl ax rfl) (.v fA (.aa hY rfl ax rfl) (.v fA (.move rfl) (.v fA (.iN bX rfl rfl) ?_)))))
   refine .v fA (.ff cQ rfl a8 (by omega)) ?_
   refine .v fA (.iK bX rfl rfl) ?_
   refine .v fA (.ff cQ rfl a8 (by omega)) ?_
   refine .v fA (.iN bX rfl rfl) (.nil (SK.fin fA ?_))
   refine .di 1 rfl tf rfl rfl rfl rfl (by omega) (cs':=((x.2.set x.1 (x.2.getD (x.2.getD x.1 0).toNat 0)).map (Value.int .i64))) (by rw [List.map_set]) trivial ?_
   refine .nt cU ?_
   refine .region ?_
   refine .v (.aa hY rfl ax rfl) (.mv rfl (.v (.iN bX rfl rfl) ?_))
   refine .v (.ff cQ rfl a8 (by rw [List.length_set];omega)) ?_
   refine .as rfl (.nil (.ag ?_))
   refine .ab (bW _ _ (((x.2.getD (x.2.getD x.1 0).toNat 0).toNat,x.2.set x.1 (x.2.getD (x.2.getD x.1 0).toNat 0))) ⟨Hm.JX ta bx,by dsimp only;omega,by show ρ _=_;rw [b.2.2.1,a3,hp],Ph.JX Hm ta⟩ (by dsimp only;omega) (.cons (s9 rfl (by rw [Pt.fy (by omega)];dsimp only;omega)) (aU)) (fun w hw=>hw))
  ·refine .exit (.ai (.ai (.ar ?_)))
   refine .ab (bg _ ?_)
   refine .sr fun _ c7=>?_
   refine .mv rfl (.as rfl (.nt c7 (.ret ?_)))
   refine .aG rfl rfl (fun w hw=>⟨_,_,_,?_,rfl,kq.ez (hw.pk [0,1])⟩)
   exact ⟨x.2,Hm,Ph,by rw [← hp,a4.1 bx],rfl,rfl⟩
set_option maxHeartbeats 600000 in
theorem Kl (w:World) (F:Nat→Prop) (b2 b3 b6 b7 b8 b9:Nat) (pv qv aF aN bF bN:Value) (f:List Int) (a b:bB) (st:B7) (p q:Int) (hA:(bh [box b6 67 1 [pv],row pv 3 1 (a.fin.length+b.fin.length) (f.map (Value.int .i64)),box b8 161 1 [qv],row qv 164 2 st.1.length (x7 st.1),box b9 4 1 [.bool st.2]]).holds w F) (h2:qL w b2 [.int .i64 a.L,.int .i64 a.s,aF,aN]) (n2:¬ F b2) (h3:qL w b3 [.int .i64 b.L,.int .i64 b.s,bF,bN]) (n3:¬ F b3) (h7:qL w b7 [.func (.func 136) #[] #[.pointer (some ⟨b6,0,none⟩)]]) (n7:¬ F b7) (zV:lQ F Value.bool w aF a.fin) (zU:lQ F Value.bool w bF b.fin) (hr:yj (UR a.fin.length st.1) f (a.fin.length+b.fin.length)) (hp:na a p) (hq:na b q) (ha:VD a) (hb:VD b) (hls:st.1.length≤262144) (sq:aB qv):ck Tryz.prog 137 [.int .i64 p,.int .i64 q,.pointer (some ⟨b7,0,none⟩),.pointer (some ⟨b2,0,none⟩),.pointer (some ⟨b6,0,none⟩),.pointer (some ⟨b8,0,none⟩),.pointer (some ⟨b9,0,none⟩),.pointer (some ⟨b3,0,none⟩)] w F (fun r A o=>∃ f' Xi,aB Xi∧yj (UR a.fin.length (fQ a b st (p,q)).1) f' (a.fin.length+b.fin.length)∧A=bh [box b6 67 1 [pv],row pv 3 1 (a.fin.length+b.fin.length) (f'.map (Value.int .i64)),box b8 161 1 [Xi],row Xi 164 2 (fQ a b st (p,q)).1.length (x7 (fQ a b st (p,q)).1),box b9 4 1 [.bool (fQ a b st (p,q)).2]]∧r = .tuple #[]∧o=[]):=by
 unfold lQ at zV zU
 have yO:=hp.1
 have MK:=hp.2
 have QA:=hq.1
 have I2:=hq.2
 have ML:=ha.n
 have hnb:=hb.n
 have hri:(UR a.fin.length st.1) p.toNat<(a.fin.length+b.fin.length):=by have:=(hr.2 p.toNat (by omega)).2.2.2.2;omega
 have hrj:(UR a.fin.length st.1) ((a.fin.length:Int)+q).toNat<(a.fin.length+b.fin.length):=by have:=(hr.2 ((a.fin.length:Int)+q).toNat (by omega)).2.2.2.2;omega
 refine dW Tryz.func137 rfl (aT rfl) hA ?_
 refine .seq fun _ bl=>?_
 try (conv=>enter [2,2];simp only [cE])
 refine .jG _ 12 (fun _ hw=>hw.pk []) mixed ?_
 refine .FS (fun _ hw=>hw.pk []) 0 11 12 1 rfl (.aa FT rfl ax rfl) trivial ?_
 refine .FS (fun _ hw=>hw.pk []) 1 10 12 3 rfl (.move rfl) trivial ?_
 refine .FS (fun _ hw=>hw.pk []) 3 9 12 11 rfl (.aa FT rfl ax rfl) trivial ?_
 refine .FS (fun _ hw=>hw.pk []) 4 8 12 27 rfl (.fieldAddr dp rfl) trivial ?_
 refine .FS (fun _ hw=>hw.pk []) 5 7 12 59 rfl (.aa jx rfl ax rfl) trivial ?_
 refine .FS (fun _ hw=>hw.pk []) 6 6 12 123 rfl (.aZ gf rfl a8) trivial ?_
 refine .FS (fun _ hw=>hw.pk []) 7 5 12 251 rfl (.move rfl) trivial ?_
 refine .FS (fun _ hw=>hw.pk []) 8 4 12 507 rfl (.add rfl rfl (by omega)) trivial ?_
 refine .O 2 3 12 511 rfl ?_
 refine .own' [bh [box b6 67 1 [pv],row pv 3 1 (a.fin.length+b.fin.length) (f.map (Value.int .i64))],box b8 161 1 [qv],row qv 164 2 st.1.length (x7 st.1),box b9 4 1 [.bool st.2]] (fun w hw=>HW.fU (l:=[_,_]) (own:=[_,_,_]) hw) ?_
 refine .q9 0 rfl (us:=[]) (cs:=[.pointer (some ⟨b6,0,none⟩)]) F4 rfl rfl (fun w Fs hw hh bI bc=>Aj w (Fs 0) b6 pv f (UR a.fin.length st.1) (a.fin.length+b.fin.length) p (hh.at_ 0 _ rfl) hr (by omega) (by omega)) trivial rfl ?_
 rintro r A o ⟨f1,Hm,_,rfl,rfl,rfl⟩
 refine .mo rfl ?_
 refine .nil ?_
 try (conv=>enter [2,2];simp only [cE])
 refine ay.bo (fun _ hw=>hw.pk []) ?_
 refine .O 9 2 12 1023 rfl ?_
 refine .own' [bh [box b6 67 1 [pv],row pv 3 1 (a.fin.length+b.fin.length) (f1.map (Value.int .i64))],box b8 161 1 [qv],row qv 164 2 st.1.length (x7 st.1),box b9 4 1 [.bool st.2]] (fun w hw=>HW.fU (l:=[_,_]) (own:=[_,_,_]) hw) ?_
 refine .q9 0 rfl (us:=[]) (cs:=[.pointer (some ⟨b6,0,none⟩)]) F4 rfl rfl (fun w Fs hw hh bI bc=>Aj w (Fs 0) b6 pv f1 (UR a.fin.length st.1) (a.fin.length+b.fin.length) ((a.fin.length:Int)+q) (hh.at_ 0 _ rfl) Hm (by omega) (by omega)) trivial rfl ?_
 rintro r A o ⟨f2,tj,_,rfl,rfl,rfl⟩
 refine .mo rfl ?_
 refine .nil ?_
 try (conv=>enter [2,2];simp only [cE])
 refine ay.bo (fun _ hw=>hw.pk []) ?_
 refine .FS (fun _ hw=>hw.pk []) 10 1 12 2047 rfl (.assign rfl) trivial ?_
 refine .FS (fun _ hw=>hw.pk []) 11 0 12 4095 rfl (.assign rfl) trivial ?_
 refine .done cx ?_
 refine .ab (bl _ ?_)
 refine .sr fun _ bg=>?_
 refine .mv rfl (.mv rfl (.v (.neq rfl rfl) (.nt bg ?_)))
 refine .df rfl (fun bx=>?_) (fun bx=>?_)
 ·refine .sr fun _ bW=>?_
  refine .v (.aa hY rfl ax rfl) (.mv rfl (.mv rfl (.v (.max rfl rfl) (.mv rfl (.mv rfl (.v (.min rfl rfl) (.v (.iK bX rfl rfl) ?_)))))))
  refine .di 1 rfl tf rfl rfl rfl rfl (by omega) (cs':=((f2.set (max ((UR a.fin.length st.1) p.toNat) ((UR a.fin.length st.1) ((a.fin.length:Int)+q).toNat)) (((min ((UR a.fin.length st.1) p.toNat) ((UR a.fin.length st.1) ((a.fin.length:Int)+q).toNat)):Nat):Int)).map (Value.int .i64))) (by rw [List.map_set,show (max (((UR a.fin.length st.1) p.toNat:Nat):Int) (((UR a.fin.length st.1) ((a.fin.length:Int)+q).toNat:Nat):Int)).toNat=(max ((UR a.fin.length st.1) p.toNat) ((UR a.fin.length st.1) ((a.fin.length:Int)+q).toNat)) from by omega,show min (((UR a.fin.length st.1) p.toNat:Nat):Int) (((UR a.fin.length st.1) ((a.fin.length:Int)+q).toNat:Nat):Int)=(((min ((UR a.fin.length st.1) p.toNat) ((UR a.fin.length st.1) ((a.fin.length:Int)+q).toNat)):Nat):Int) from by omega]) trivial ?_
  refine .nt bW ?_
  refine .sr fun _ cr=>?_
  refine .v (.aa FU rfl ax rfl) (.mv rfl (.mv rfl ?_))
  refine .v (.build (parts:=[(0,.tmp 34),(1,.tmp 35)]) (cs:=#[.int .i64 p,.int .i64 q]) rfl (by kernel_rfl)) ?_
  refine .fF 3 rfl FG VK rfl (by decide) rfl (by intro k hk;cases hk;rfl) rfl (by intro u hu;simp [Value.cells] at hu;rcases hu with rfl | rfl <;> rfl) (by omega) (by omega) (by decide) rfl rfl (fun av _ I8=>?_)
  refine .ah 2 (us:=[av]) (cs':=[av]) rfl U0 rfl rfl (by rw [aB.cells (by assumption)]) rfl aJ (aT rfl) rfl trivial ?_
  refine .nt cr ?_
  refine .kK 14 mixed cx (fun _ fA=>?_)
  refine .v fA (.aa vk rfl ax rfl) (.v fA (.move rfl) ?_)
  refine .bQ (g:=40) rfl (fun cM=>?_) (fun cM=>?_)
  ·have nH:=cM
   try simp only [bs] at nH
   refine .val fA _ (.fieldAddr dp rfl) ⟨_,rfl,gB cM⟩ rfl ?_
   refine .val fA _ (.aa jx rfl ax rfl) ⟨_,rfl,gB cM⟩ rfl ?_
   refine .val fA _ (.move rfl) ⟨_,rfl,gB cM⟩ rfl ?_
   refine .val fA _ (.iK gf rfl rfl) ⟨_,rfl,gB cM⟩ rfl ?_
   refine .val fA _ (.oK vk rfl a8 (by omega)) ⟨_,rfl,gB cM⟩ rfl ?_
   refine .val fA _ (.fieldAddr dp rfl) ⟨_,rfl,gB cM⟩ rfl ?_
   refine .val fA _ (.aa jx rfl ax rfl) ⟨_,rfl,gB cM⟩ rfl ?_
   refine .val fA _ (.move rfl) ⟨_,rfl,gB cM⟩ rfl ?_
   refine .val fA _ (.iK gf rfl rfl) ⟨_,rfl,gB cM⟩ rfl ?_
   refine .val fA _ (.oK vk rfl a8 (by omega)) ⟨_,rfl,gB cM⟩ rfl ?_
   refine .val fA _ (.ZZ T8 rfl rfl) ⟨_,rfl,gB cM⟩ rfl ?_
   refine .v fA (.bw rfl (cM) rfl) (.nil (SK.fin fA ?_))
   refine .ah 4 (us:=[.bool (a.fin.getD p.toNat false == b.fin.getD q.toNat false)]) (cs':=[.bool (a.fin.getD p.toNat false == b.fin.getD q.toNat false)]) rfl IW rfl rfl rfl rfl aJ (aT rfl) rfl trivial ?_
   refine .nil ?_
   refine .jz [] rfl (.nil) (fun w hw=>⟨_,_,_,?_,rfl,kq.ez hw⟩)
   have em:(fQ a b st (p,q))=(st.1++[(p,q)],st.2 && (c9 a p == c9 b q)):=if_neg (fun e=>bx (congrArg (fun (n:Nat)=>(n:Int)) e))
   rw [em]
   refine ⟨_,av,I8,by rw [Gb];exact tj.union (by omega) (by omega),?_,rfl,rfl⟩
   rw [rm,List.length_append,cM]
   rfl
  ·have nH:=cM
   try simp only [bs] at nH
   refine .pass rfl rfl (cM) rfl ?_
   refine .pass rfl rfl (cM) rfl ?_
   refine .pass rfl rfl (cM) rfl ?_
   refine .pass rfl rfl (cM) rfl ?_
   refine .pass rfl rfl (cM) rfl ?_
   refine .pass rfl rfl (cM) rfl ?_
   refine .pass rfl rfl (cM) rfl ?_
   refine .pass rfl rfl (cM) rfl ?_
   refine .pass rfl rfl (cM) rfl ?_
   refine .pass rfl rfl (cM) rfl ?_
   refine .pass rfl rfl (cM) rfl ?_
   refine .v fA (.cH rfl (cM) rfl) (.nil (SK.fin fA ?_))
   refine .ah 4 (us:=[.bool false]) (cs':=[.bool false]) rfl IW rfl rfl rfl rfl aJ (aT rfl) rfl trivial ?_
   refine .nil ?_
   refine .jz [] rfl (.nil) (fun w hw=>⟨_,_,_,?_,rfl,kq.ez hw⟩)
   have em:(fQ a b st (p,q))=(st.1++[(p,q)],st.2 && (c9 a p == c9 b q)):=if_neg (fun e=>bx (congrArg (fun (n:Nat)=>(n:Int)) e))
   rw [em]
   refine ⟨_,av,I8,by rw [Gb];exact tj.union (by omega) (by omega),?_,rfl,rfl⟩
   rw [rm,List.length_append,cM]
   rfl
 ·refine .skip ?_
  refine .jz [] rfl (.nil) (fun w hw=>⟨_,_,_,?_,rfl,kq.ez hw⟩)
  have em:(fQ a b st (p,q))=st:=if_pos (by dsimp only;omega)
  rw [em]
  exact ⟨f2,qv,sq,tj,rfl,rfl,rfl⟩
set_option maxHeartbeats 2000000 in
theorem NH (w:World) (u v:Value) (a b:bB) (hu:oD (fun _=>False) w u a) (hv:oD (fun _=>False) w v b) (ha:VD a) (hb:VD b) (hL:a.L=b.L):aK Tryz.prog 85 [u,v] w (fun r o=>∃ cv TH sm,r = .tuple #[cv,.bool sm]∧aB cv∧o=[row cv 3 1 TH.length (TH.map (Value.int .i64))]∧(sm=true→v7 a b∧TH=nw a b)∧(sm=false→¬ v7 a b∧TH=[])):=by
 have I1:=hu
 have IP:=hv
 obtain ⟨aF,aN,rfl,zV,I9⟩:=hu
 obtain ⟨bF,bN,rfl,zU,I7⟩:=hv
 have Ck:=zV
 have Cj:=zU
 have Rs:=I9
 have Rn:=I7
 obtain ⟨ra,TP,Rr,Ee⟩:=I9
 obtain ⟨rb,Ms,Rm,Ed⟩:=I7
 unfold lQ at zV zU
 have m1:=zV.le
 have m2:=zU.le
 have ML:=ha.n
 have hnb:=hb.n
 have has:=ha.s
 have Ts:=hb.s
 have haL:=ha.L
 have hax:=ha.nx
 have hbx:=hb.nx
 obtain ⟨em0,Y7⟩:=kR.init ha hb
 have BV:a.fin.length * b.fin.length≤262144:=Nat.mul_le_mul ML hnb
 refine aC Tryz.func85 rfl (aT rfl) ?_
 refine .sr fun _ bl=>?_
 refine .cS (E:=32) (cs:=[.int .i64 a.L,.int .i64 a.s,aF,aN]) rfl rfl rfl trivial rfl (fun eu=>?_)
 refine .cS (E:=32) (cs:=[.int .i64 b.L,.int .i64 b.s,bF,bN]) rfl rfl rfl trivial rfl (fun ga=>?_)
 refine .as rfl (.as rfl (.nt bl ?_))
 refine .sr fun _ bg=>?_
 refine .v (.fieldAddr dp rfl) (.v (.aa jx rfl ax rfl) ?_)
 refine .v (.aZ gf rfl (by exact a8)) ?_
 refine .v (.fieldAddr dp rfl) (.v (.aa jx rfl ax rfl) ?_)
 refine .v (.aZ gf rfl (by exact a8)) ?_
 refine .v (.add rfl rfl (by omega)) ?_
 refine .call V4 rfl (fun w hw=>Sm w ((a.fin.length:Int)+b.fin.length)) trivial rfl ?_
 rintro dv o rfl
 have edl:qy ((a.fin.length:Int)+b.fin.length)=B4 (a.fin.length+b.fin.length):=by unfold qy;rw [if_pos (by omega)];congr 1
 rw [edl,nO]
 refine .shape 2 rfl (fun sdv=>?_)
 refine .alloc JD rfl rfl trivial rfl (fun oy=>?_)
 refine .ah 3 (us:=[dv]) (cs':=[dv]) rfl QU rfl rfl (by rw [aB.cells (by assumption)]) rfl aJ (aT rfl) rfl trivial ?_
 refine .nt bg ?_
 refine .sr fun _ bW=>?_
 refine .v (.makeFunc (first:=[]) (captured:=[.tmp 6]) rfl rfl) ?_
 refine .alloc VI rfl rfl trivial rfl (fun oe=>?_)
 refine .ah 4 (us:=[.func (.func 136) #[] #[.pointer (some ⟨oy,0,none⟩)]]) (cs':=[.func (.func 136) #[] #[.pointer (some ⟨oy,0,none⟩)]]) rfl UY rfl rfl rfl rfl aJ (aT rfl) rfl trivial ?_
 refine .nt bW ?_
 refine .sr fun _ cr=>?_
 refine .alloc VL rfl rfl trivial rfl (fun lP=>?_)
 refine .nt cr ?_
 refine .sr fun _ cJ=>?_
 refine .alloc Mz rfl rfl trivial rfl (fun tn=>?_)
 refine .ah 6 (us:=[.bool true]) (cs':=[.bool true]) rfl IW rfl rfl rfl rfl aJ (aT rfl) rfl trivial ?_
 refine .nt cJ ?_
 refine .sr fun _ cU=>?_
 refine .v (.makeFunc (first:=[]) (captured:=[.tmp 7,.tmp 2,.tmp 6,.tmp 8,.tmp 9,.tmp 3]) rfl rfl) (.as rfl (.nt cU ?_))
 refine .sr fun _ c7=>?_
 refine .mv rfl (.v (.fieldAddr kZ rfl) (.v (.aa cQ rfl ax rfl) (.v (.fieldAddr kZ rfl) (.v (.aa cQ rfl ax rfl) ?_))))
 refine .own' [bh [box oy 67 1 [dv],row dv 3 1 (a.fin.length+b.fin.length) ((B4 (a.fin.length+b.fin.length)).map (Value.int .i64)),box lP 161 1 [(.slice none 0 0)],row (.slice none 0 0) 164 2 0 [],box tn 4 1 [.bool true]],box eu 32 4 [.int .i64 a.L,.int .i64 a.s,aF,aN],box ga 32 4 [.int .i64 b.L,.int .i64 b.s,bF,bN],box oe 178 1 [.func (.func 136) #[] #[.pointer (some ⟨oy,0,none⟩)]]] (fun w hw=>HW.fU (l:=[_,_,_,_,_]) (own:=[_,_,_]) ((hw.ghost 164 2).pk [3,2,5,7,6,0,1,4])) ?_
 refine .q9 0 rfl (us:=[]) (cs:=[.pointer (some ⟨oe,0,none⟩),.pointer (some ⟨eu,0,none⟩),.pointer (some ⟨oy,0,none⟩),.pointer (some ⟨lP,0,none⟩),.pointer (some ⟨tn,0,none⟩),.pointer (some ⟨ga,0,none⟩)]) PV rfl rfl (fun w Fs hw hh bI bc=>Kl w (Fs 0) eu ga oy oe lP tn dv (.slice none 0 0) aF aN bF bN (B4 (a.fin.length+b.fin.length)) a b (([]:List (Int × Int)),true) a.s b.s (hh.at_ 0 _ rfl) (qL.own 1 hw rfl) (hh.HG 1 rfl (by decide)) (qL.own 2 hw rfl) (hh.HG 2 rfl (by decide)) (qL.own 3 hw rfl) (hh.HG 3 rfl (by decide)) (Ck.off bI bc) (Cj.off bI bc) (Sk _) has Ts ha hb (Nat.zero_le _) cq) trivial rfl ?_
 rintro r A o ⟨f1,qv1,sq1,Hm,rfl,rfl,rfl⟩
 refine .mo rfl ?_
 refine .nt c7 ?_
 refine .seq fun _ dm=>?_
 refine .sr fun _ dD=>?_
 refine .as rfl (.nt dD (.block ?_))
 refine .bE (X:=Nat × B7 × List Int × Value) [(2,_),(3,_),(6,_),(7,_),(8,_),(9,_),(10,_)] (fun x=>[(11,.int .i64 (x.1:Int))]) (fun x=>[box oy 67 1 [dv],row dv 3 1 (a.fin.length+b.fin.length) (x.2.2.1.map (Value.int .i64)),box lP 161 1 [x.2.2.2],row x.2.2.2 164 2 x.2.1.1.length (x7 x.2.1.1),box tn 4 1 [.bool x.2.1.2],box eu 32 4 [.int .i64 a.L,.int .i64 a.s,aF,aN],box ga 32 4 [.int .i64 b.L,.int .i64 b.s,bF,bN],box oe 178 1 [.func (.func 136) #[] #[.pointer (some ⟨oy,0,none⟩)]]]) (fun x=>x.1≤x.2.1.1.length∧kR a b x.1 0 x.2.1∧yj (UR a.fin.length x.2.1.1) x.2.2.1 (a.fin.length+b.fin.length)∧aB x.2.2.2) (fun x=>a.fin.length * b.fin.length - x.1) ((0,(fQ a b (([]:List (Int × Int)),true) (a.s,b.s)),f1,qv1)) aU ?_ ?_ ?_ ?_
 ·exact ⟨Nat.zero_le _,Y7,Hm,sq1⟩
 ·exact aU
 ·exact fun w hw=>hw
 ·intro x aV _ bJ
  have TL:=aV.2.1.len ha hb hL
  have hxr:=aV.2.2.1.1
  refine .seq fun _ bP=>?_
  refine .sr fun _ ct=>?_
  refine .mv rfl (.v (.aa FU rfl ax rfl) ?_)
  refine .v (.aZ FG rfl (by exact a8)) ?_
  refine .v (.lss rfl rfl) (.mv rfl ?_)
  refine .bQ (g:=36) rfl (fun qZ=>?_) (fun qZ=>?_)
  ·have Ba:=qZ
   try simp only [bs] at Ba
   refine .val _ (.aa vk rfl ax rfl) ⟨_,rfl,gB qZ⟩ rfl ?_
   refine .v (.bw rfl (qZ) rfl) (.nt ct ?_)
   refine .cond rfl (fun bx=>?_) (fun bx=>?_)
   ·try simp only [bs] at bx
    have bZ:x.1<x.2.1.1.length:=by omega
    obtain ⟨⟨yO,MK⟩,hp3,hp4⟩:=aV.2.1.bd ha hb hL (aX (d:=(0,0)) bZ)
    refine .skip ?_
    refine .ab (bP _ ?_)
    refine .seq fun _ cK=>?_
    refine .block ?_
    refine .seq fun _ cW=>?_
    refine .quiet mixed cx ?_
    refine .v (.aa FU rfl ax rfl) (.mv rfl ?_)
    refine .v (.iN FG rfl rfl (hr:=(by exact a8))) ?_
    refine .v (.GM 0 Qe rfl rfl (by decide)) ?_
    refine .val (.int .i64 (x.2.1.1.getD x.1 (0,0)).1) (.CX (sz:=2) cQ rfl (cR.own 3 rfl) (CO bZ).1) trivial rfl (.v (.aa FU rfl ax rfl) (.mv rfl ?_))
    refine .v (.iN FG rfl rfl (hr:=(by exact a8))) ?_
    refine .v (.GM 1 Qe rfl rfl (by decide)) ?_
    refine .val (.int .i64 (x.2.1.1.getD x.1 (0,0)).2) (.CX (sz:=2) cQ rfl (cR.own 3 rfl) (CO bZ).2) trivial rfl (.as rfl (.as rfl (.nil (QK.fin ?_))))
    refine .ab (cW _ ?_)
    refine .sr fun _ c8=>?_
    refine .v (.fieldAddr kn rfl) (.v (.aa cQ rfl ax rfl) (.mv rfl (.nt c8 (.block ?_))))
    refine .bE (X:=Nat × B7 × List Int × Value) [(2,_),(3,_),(6,_),(7,_),(8,_),(9,_),(10,_),(11,_),(12,_),(13,_),(52,_)] (fun y=>[(53,.int .i64 (y.1:Int))]) (fun y=>[box oy 67 1 [dv],row dv 3 1 (a.fin.length+b.fin.length) (y.2.2.1.map (Value.int .i64)),box lP 161 1 [y.2.2.2],row y.2.2.2 164 2 y.2.1.1.length (x7 y.2.1.1),box tn 4 1 [.bool y.2.1.2],box eu 32 4 [.int .i64 a.L,.int .i64 a.s,aF,aN],box ga 32 4 [.int .i64 b.L,.int .i64 b.s,bF,bN],box oe 178 1 [.func (.func 136) #[] #[.pointer (some ⟨oy,0,none⟩)]]]) (fun y=>(y.1:Int)≤a.L∧kR a b x.1 y.1 y.2.1∧yj (UR a.fin.length y.2.1.1) y.2.2.1 (a.fin.length+b.fin.length)∧aB y.2.2.2∧x.1<y.2.1.1.length∧y.2.1.1.getD x.1 (0,0)=(x.2.1.1.getD x.1 (0,0))) (fun y=>a.L.toNat - y.1) ((0,x.2)) aU ?_ ?_ ?_ ?_
    ·exact ⟨by dsimp only;omega,aV.2.1,aV.2.2.1,aV.2.2.2,bZ,rfl⟩
    ·exact aU
    ·exact fun w hw=>hw
    ·intro y c6 _ dw
     refine .sr fun _ dE=>?_
     refine .v (.lss rfl rfl) (.nt dE ?_)
     refine .seq fun _ dR=>?_
     refine .aA rfl (fun cB=>?_) (fun cB=>?_)
     ·have MG:(y.1:Int)<a.L:=by omega
      have aaY:=ha.row (x.2.1.1.getD x.1 (0,0)).1.toNat (by omega)
      have aaX:=hb.row (x.2.1.1.getD x.1 (0,0)).2.toNat (by omega)
      have hyl:=c6.2.1.len ha hb hL
      refine .skip ?_
      refine .ab (dR _ ?_)
      refine .seq fun _ dO=>?_
      refine .block ?_
      refine .sr fun _ eJ=>?_
      refine .mv rfl (.as rfl (.nt eJ ?_))
      refine .kK 17 mixed cx (fun _ fA=>?_)
      refine .v fA (.move rfl) (.v fA (.fieldAddr eQ rfl) (.v fA (.aa lC rfl ax rfl) (.v fA (.move rfl) ?_)))
      refine .v fA (.iK kQ rfl rfl (hr:=(by exact a8))) ?_
      refine .v fA (.jD hY rfl (by exact a8) (by omega)) ?_
      refine .v fA (.move rfl) ?_
      refine .v fA (.iN bX rfl rfl (hr:=(by exact .arg (Ee _ (by omega))))) ?_
      refine .v fA (.ff cQ rfl (by exact .arg (Ee _ (by omega))) (by omega)) ?_
      refine .v fA (.fieldAddr eQ rfl) (.v fA (.aa lC rfl ax rfl) (.v fA (.move rfl) ?_))
      refine .v fA (.iK kQ rfl rfl (hr:=(by exact a8))) ?_
      refine .v fA (.jD hY rfl (by exact a8) (by omega)) ?_
      refine .v fA (.move rfl) ?_
      refine .v fA (.iN bX rfl rfl (hr:=(by exact .arg (Ed _ (by omega))))) ?_
      refine .v fA (.ff cQ rfl (by exact .arg (Ed _ (by omega))) (by omega)) ?_
      refine .nil (SK.fin fA ?_)
      refine .own' [bh [box oy 67 1 [dv],row dv 3 1 (a.fin.length+b.fin.length) (y.2.2.1.map (Value.int .i64)),box lP 161 1 [y.2.2.2],row y.2.2.2 164 2 y.2.1.1.length (x7 y.2.1.1),box tn 4 1 [.bool y.2.1.2]],box eu 32 4 [.int .i64 a.L,.int .i64 a.s,aF,aN],box ga 32 4 [.int .i64 b.L,.int .i64 b.s,bF,bN],box oe 178 1 [.func (.func 136) #[] #[.pointer (some ⟨oy,0,none⟩)]]] (fun w hw=>HW.fU (l:=[_,_,_,_,_]) (own:=[_,_,_]) (hw)) ?_
      refine .q9 0 rfl (us:=[]) (cs:=[.pointer (some ⟨oe,0,none⟩),.pointer (some ⟨eu,0,none⟩),.pointer (some ⟨oy,0,none⟩),.pointer (some ⟨lP,0,none⟩),.pointer (some ⟨tn,0,none⟩),.pointer (some ⟨ga,0,none⟩)]) PV rfl rfl (fun w Fs hw hh bI bc=>Kl w (Fs 0) eu ga oy oe lP tn dv y.2.2.2 aF aN bF bN y.2.2.1 a b y.2.1 (bC a (x.2.1.1.getD x.1 (0,0)).1 y.1) (bC b (x.2.1.1.getD x.1 (0,0)).2 y.1) (hh.at_ 0 _ rfl) (qL.own 1 hw rfl) (hh.HG 1 rfl (by decide)) (qL.own 2 hw rfl) (hh.HG 2 rfl (by decide)) (qL.own 3 hw rfl) (hh.HG 3 rfl (by decide)) (Ck.off bI bc) (Cj.off bI bc) c6.2.2.1 (eH ha ⟨yO,MK⟩ MG) (eH hb ⟨hp3,hp4⟩ (by omega)) ha hb (by omega) c6.2.2.2.1) trivial rfl ?_
      rintro r A o ⟨f2,qv2,sq2,tj,rfl,rfl,rfl⟩
      refine .mo rfl ?_
      refine .nil (.ag ?_)
      refine .ab (dO _ ?_)
      refine .region ?_
      refine .v (.add rfl rfl (by omega)) ?_
      refine .mv rfl (.nil ?_)
      refine .ab (dw _ _ ((y.1+1,fQ a b y.2.1 (az a b (x.2.1.1.getD x.1 (0,0)) y.1),f2,qv2)) ⟨by dsimp only;omega,(by have h:=c6.2.1.meet ha c6.2.2.2.2.1 MG;rw [c6.2.2.2.2.2] at h;exact h),tj,sq2,(by dsimp only;obtain ⟨ys,e⟩:=xa a b y.2.1 (az a b (x.2.1.1.getD x.1 (0,0)) y.1);rw [e,List.length_append];omega),(by dsimp only;obtain ⟨ys,e⟩:=xa a b y.2.1 (az a b (x.2.1.1.getD x.1 (0,0)) y.1);rw [e,gO _ c6.2.2.2.2.1];exact c6.2.2.2.2.2)⟩ (by dsimp only;omega) (aU) (fun w hw=>hw))
     ·refine .exit (.ai (.ai (.ar (.ag ?_))))
      refine .ab (cK _ ?_)
      refine .region ?_
      refine .mv rfl ?_
      refine .v (.add rfl rfl (by omega)) ?_
      refine .as rfl (.nil ?_)
      refine .ab (bJ _ _ ((x.1+1,y.2)) ⟨by dsimp only;omega,c6.2.1.next (by omega),c6.2.2.1,c6.2.2.2.1⟩ (by dsimp only;omega) (aU) (fun w hw=>hw))
   ·try simp only [bs] at bx
    refine .exit (.ai (.ai (.ar ?_)))
    refine .ab (dm _ ?_)
    refine .seq fun _ eY=>?_
    refine .sr fun _ eI=>?_
    refine .v (.aa vk rfl ax rfl) (.v (.not rfl) (.nt eI ?_))
    refine .eW rfl (fun cZ=>?_) (fun cZ=>?_)
    ·have XC:x.2.1.2=false:=by simpa using cZ
     refine .sr fun _ fH=>?_
     refine .as rfl (.as rfl (.nt fH (.ret (.ae ?_))))
     refine .ghost 3 1 ?_
     refine .zZ rfl rfl rfl (fun w hw=>⟨_,_,?_,rfl,.of (hw.pk [8])⟩)
     exact ⟨_,[],false,rfl,cq,rfl,fun h=>(by cases h),fun _=>⟨aV.2.1.differ XC,rfl⟩⟩
    ·have mg:x.2.1.2=true:=by simpa using cZ
     have Hs:=aV.2.1.done ha hb hL (by (rw [mg] at *;simp_all;done)) mg
     refine .skip ?_
     refine .ab (eY _ ?_)
     refine .seq fun _ gq=>?_
     refine .sr fun _ iT=>?_
     refine .v (.aa hY rfl ax rfl) ?_
     refine .v (.aZ bX rfl (by exact a8)) ?_
     refine .mv rfl (.nt iT (.block ?_))
     refine .bE (X:=Nat × List Int) [(6,_),(7,_),(78,_)] (fun z=>[(79,.int .i64 (z.1:Int))]) (fun z=>[box oy 67 1 [dv],row dv 3 1 (a.fin.length+b.fin.length) (z.2.map (Value.int .i64)),box lP 161 1 [x.2.2.2],row x.2.2.2 164 2 x.2.1.1.length (x7 x.2.1.1),box tn 4 1 [.bool x.2.1.2],box eu 32 4 [.int .i64 a.L,.int .i64 a.s,aF,aN],box ga 32 4 [.int .i64 b.L,.int .i64 b.s,bF,bN],box oe 178 1 [.func (.func 136) #[] #[.pointer (some ⟨oy,0,none⟩)]]]) (fun z=>z.1≤(a.fin.length+b.fin.length)∧yj (UR a.fin.length x.2.1.1) z.2 (a.fin.length+b.fin.length)∧∀ j,j<z.1→z.2.getD j 0=(((UR a.fin.length x.2.1.1) j:Nat):Int)) (fun z=>(a.fin.length+b.fin.length) - z.1) ((0,x.2.2.1)) aU ?_ ?_ ?_ ?_
     ·exact ⟨Nat.zero_le _,aV.2.2.1,fun j hj=>by cases hj⟩
     ·exact aU
     ·exact fun w hw=>hw
     ·intro z lO _ iZ
      refine .sr fun _ iS=>?_
      refine .v (.lss rfl rfl) (.nt iS ?_)
      refine .seq fun _ jy=>?_
      refine .aA rfl (fun iz=>?_) (fun iz=>?_)
      ·refine .skip ?_
       refine .ab (jy _ ?_)
       refine .seq fun _ kf=>?_
       refine .block ?_
       refine .sr fun _ kB=>?_
       refine .mv rfl (.as rfl (.nt kB ?_))
       try (conv=>enter [2,2];simp only [cE])
       refine .jG _ 6 (fun _ hw=>hw.pk [0,7]) mixed ?_
       refine .FS (fun _ hw=>hw.pk [0,7]) 0 6 7 1 rfl (.aa hY rfl ax rfl) trivial ?_
       refine .FS (fun _ hw=>hw.pk [0,7]) 1 5 7 3 rfl (.move rfl) trivial ?_
       refine .FS (fun _ hw=>hw.pk [0,7]) 2 4 7 7 rfl (.aa FT rfl ax rfl) trivial ?_
       refine .FS (fun _ hw=>hw.pk [0,7]) 3 3 7 15 rfl (.move rfl) trivial ?_
       refine .O 4 2 7 31 rfl ?_
       refine .own' [bh [box oy 67 1 [dv],row dv 3 1 (a.fin.length+b.fin.length) (z.2.map (Value.int .i64))],box lP 161 1 [x.2.2.2],row x.2.2.2 164 2 x.2.1.1.length (x7 x.2.1.1),box tn 4 1 [.bool x.2.1.2],box eu 32 4 [.int .i64 a.L,.int .i64 a.s,aF,aN],box ga 32 4 [.int .i64 b.L,.int .i64 b.s,bF,bN],box oe 178 1 [.func (.func 136) #[] #[.pointer (some ⟨oy,0,none⟩)]]] (fun w hw=>HW.fU (l:=[_,_]) (own:=[_,_,_,_,_,_]) hw) ?_
       refine .q9 0 rfl (us:=[]) (cs:=[.pointer (some ⟨oy,0,none⟩)]) F4 rfl rfl (fun w Fs hw hh bI bc=>Aj w (Fs 0) oy dv z.2 (UR a.fin.length x.2.1.1) (a.fin.length+b.fin.length) (z.1:Int) (hh.at_ 0 _ rfl) lO.2.1 (by omega) (by omega)) trivial rfl ?_
       rintro r A o ⟨f2,tj,Ph,rfl,rfl,rfl⟩
       refine .mo rfl ?_
       refine .nil ?_
       try (conv=>enter [2,2];simp only [cE])
       refine ay.bo (fun _ hw=>hw.pk [0,7]) ?_
       refine .O 5 1 7 63 rfl ?_
       refine .v (.iN bX rfl rfl (hr:=(by exact a8))) ?_
       refine .nil ?_
       try (conv=>enter [2,2];simp only [cE])
       refine ay.bo (fun _ hw=>hw.pk [0,7]) ?_
       refine .O 6 0 7 127 rfl ?_
       refine .di 1 rfl tf rfl rfl rfl rfl (by omega) (cs':=((f2.set z.1 (((UR a.fin.length x.2.1.1) z.1:Nat):Int)).map (Value.int .i64))) (by rw [List.map_set];simp only [Int.toNat_natCast]) trivial ?_
       refine .nil ?_
       try (conv=>enter [2,2];simp only [cE])
       refine ay.ir 7 cx rfl cx ?_
       refine .nil ?_
       refine .fu ?_
       refine .ag ?_
       refine .ab (kf _ ?_)
       refine .region ?_
       refine .v (.add rfl rfl (by omega)) ?_
       refine .mv rfl (.nil ?_)
       refine .ab (iZ _ _ ((z.1+1,f2.set z.1 (((UR a.fin.length x.2.1.1) z.1:Nat):Int))) ⟨by dsimp only;omega,tj.Gk (by omega),fun j hj=>by
         dsimp only at hj ⊢
         by_cases e:z.1=j
         ·subst e;exact Pt.fy (by rw [tj.1];omega) _
         ·rw [Pt.fO e];exact Ph j (by omega) (lO.2.2 j (by omega))⟩ (by dsimp only;omega) (aU) (fun w hw=>hw))
      ·have kA:z.2=rH (a.fin.length+b.fin.length) (UR a.fin.length x.2.1.1):=Dq lO.2.1.1 (fun j hj=>lO.2.2 j (by omega))
       refine .exit (.ai (.ai (.ar ?_)))
       refine .ab (gq _ ?_)
       refine .sr fun _ ke=>?_
       refine .v (.aa hY rfl ax rfl) ?_
       refine .call PU rfl (fun w hw=>Gz w dv (rH (a.fin.length+b.fin.length) (UR a.fin.length x.2.1.1)) (BX.Uk 1 hw rfl (eF _ _).symm (by rw [kA]))) trivial rfl ?_
       rintro cv o rfl
       refine .shape 8 rfl (fun Te=>?_)
       refine .as rfl (.as rfl (.nt ke (.ret ?_)))
       refine .zZ rfl rfl rfl (fun w hw=>⟨_,_,?_,rfl,.of (hw.pk [8])⟩)
       have X7:lZ (rH (a.fin.length+b.fin.length) (UR a.fin.length x.2.1.1))=nw a b:=by unfold lZ;rw [if_pos (by rw [eF];omega)];exact Hs.2
       rw [X7]
       exact ⟨cv,nw a b,true,rfl,Te,rfl,fun _=>⟨Hs.1,rfl⟩,fun h=>(by cases h)⟩
  ·have Ba:=qZ
   try simp only [bs] at Ba
   refine .pass rfl rfl (qZ) rfl ?_
   refine .v (.cH rfl (qZ) rfl) (.nt ct ?_)
   refine .dH rfl (rfl) ?_
   refine .exit (.ai (.ai (.ar ?_)))
   refine .ab (dm _ ?_)
   refine .seq fun _ nj=>?_
   refine .sr fun _ lE=>?_
   refine .v (.aa vk rfl ax rfl) (.v (.not rfl) (.nt lE ?_))
   refine .eW rfl (fun cZ=>?_) (fun cZ=>?_)
   ·have XC:x.2.1.2=false:=by simpa using cZ
    refine .sr fun _ oG=>?_
    refine .as rfl (.as rfl (.nt oG (.ret (.ae ?_))))
    refine .ghost 3 1 ?_
    refine .zZ rfl rfl rfl (fun w hw=>⟨_,_,?_,rfl,.of (hw.pk [8])⟩)
    exact ⟨_,[],false,rfl,cq,rfl,fun h=>(by cases h),fun _=>⟨aV.2.1.differ XC,rfl⟩⟩
   ·have mg:x.2.1.2=true:=by simpa using cZ
    have Hs:=aV.2.1.done ha hb hL (by omega) mg
    refine .skip ?_
    refine .ab (nj _ ?_)
    refine .seq fun _ wg=>?_
    refine .sr fun _ Ab=>?_
    refine .v (.aa hY rfl ax rfl) ?_
    refine .v (.aZ bX rfl (by exact a8)) ?_
    refine .mv rfl (.nt Ab (.block ?_))
    refine .bE (X:=Nat × List Int) [(6,_),(7,_),(78,_)] (fun z=>[(79,.int .i64 (z.1:Int))]) (fun z=>[box oy 67 1 [dv],row dv 3 1 (a.fin.length+b.fin.length) (z.2.map (Value.int .i64)),box lP 161 1 [x.2.2.2],row x.2.2.2 164 2 x.2.1.1.length (x7 x.2.1.1),box tn 4 1 [.bool x.2.1.2],box eu 32 4 [.int .i64 a.L,.int .i64 a.s,aF,aN],box ga 32 4 [.int .i64 b.L,.int .i64 b.s,bF,bN],box oe 178 1 [.func (.func 136) #[] #[.pointer (some ⟨oy,0,none⟩)]]]) (fun z=>z.1≤(a.fin.length+b.fin.length)∧yj (UR a.fin.length x.2.1.1) z.2 (a.fin.length+b.fin.length)∧∀ j,j<z.1→z.2.getD j 0=(((UR a.fin.length x.2.1.1) j:Nat):Int)) (fun z=>(a.fin.length+b.fin.length) - z.1) ((0,x.2.2.1)) aU ?_ ?_ ?_ ?_
    ·exact ⟨Nat.zero_le _,aV.2.2.1,fun j hj=>by cases hj⟩
    ·exact aU
    ·exact fun w hw=>hw
    ·intro z lO _ Eg
     refine .sr fun _ Ef=>?_
     refine .v (.lss rfl rfl) (.nt Ef ?_)
     refine .seq fun _ Jz=>?_
     refine .aA rfl (fun iz=>?_) (fun iz=>?_)
     ·refine .skip ?_
      refine .ab (Jz _ ?_)
      refine .seq fun _ Jy=>?_
      refine .block ?_
      refine .sr fun _ Jx=>?_
      refine .mv rfl (.as rfl (.nt Jx ?_))
      try (conv=>enter [2,2];simp only [cE])
      refine .jG _ 6 (fun _ hw=>hw.pk [0,7]) mixed ?_
      refine .FS (fun _ hw=>hw.pk [0,7]) 0 6 7 1 rfl (.aa hY rfl ax rfl) trivial ?_
      refine .FS (fun _ hw=>hw.pk [0,7]) 1 5 7 3 rfl (.move rfl) trivial ?_
      refine .FS (fun _ hw=>hw.pk [0,7]) 2 4 7 7 rfl (.aa FT rfl ax rfl) trivial ?_
      refine .FS (fun _ hw=>hw.pk [0,7]) 3 3 7 15 rfl (.move rfl) trivial ?_
      refine .O 4 2 7 31 rfl ?_
      refine .own' [bh [box oy 67 1 [dv],row dv 3 1 (a.fin.length+b.fin.length) (z.2.map (Value.int .i64))],box lP 161 1 [x.2.2.2],row x.2.2.2 164 2 x.2.1.1.length (x7 x.2.1.1),box tn 4 1 [.bool x.2.1.2],box eu 32 4 [.int .i64 a.L,.int .i64 a.s,aF,aN],box ga 32 4 [.int .i64 b.L,.int .i64 b.s,bF,bN],box oe 178 1 [.func (.func 136) #[] #[.pointer (some ⟨oy,0,none⟩)]]] (fun w hw=>HW.fU (l:=[_,_]) (own:=[_,_,_,_,_,_]) hw) ?_
      refine .q9 0 rfl (us:=[]) (cs:=[.pointer (some ⟨oy,0,none⟩)]) F4 rfl rfl (fun w Fs hw hh bI bc=>Aj w (Fs 0) oy dv z.2 (UR a.fin.length x.2.1.1) (a.fin.length+b.fin.length) (z.1:Int) (hh.at_ 0 _ rfl) lO.2.1 (by omega) (by omega)) trivial rfl ?_
      rintro r A o ⟨f2,tj,Ph,rfl,rfl,rfl⟩
      refine .mo rfl ?_
      refine .nil ?_
      try (conv=>enter [2,2];simp only [cE])
      refine ay.bo (fun _ hw=>hw.pk [0,7]) ?_
      refine .O 5 1 7 63 rfl ?_
      refine .v (.iN bX rfl rfl (hr:=(by exact a8))) ?_
      refine .nil ?_
      try (conv=>enter [2,2];simp only [cE])
      refine ay.bo (fun _ hw=>hw.pk [0,7]) ?_
      refine .O 6 0 7 127 rfl ?_
      refine .di 1 rfl tf rfl rfl rfl rfl (by omega) (cs':=((f2.set z.1 (((UR a.fin.length x.2.1.1) z.1:Nat):Int)).map (Value.int .i64))) (by rw [List.map_set];simp only [Int.toNat_natCast]) trivial ?_
      refine .nil ?_
      try (conv=>enter [2,2];simp only [cE])
      refine ay.ir 7 cx rfl cx ?_
      refine .nil ?_
      refine .fu ?_
      refine .ag ?_
      refine .ab (Jy _ ?_)
      refine .region ?_
      refine .v (.add rfl rfl (by omega)) ?_
      refine .mv rfl (.nil ?_)
      refine .ab (Eg _ _ ((z.1+1,f2.set z.1 (((UR a.fin.length x.2.1.1) z.1:Nat):Int))) ⟨by dsimp only;omega,tj.Gk (by omega),fun j hj=>by
        dsimp only at hj ⊢
        by_cases e:z.1=j
        ·subst e;exact Pt.fy (by rw [tj.1];omega) _
        ·rw [Pt.fO e];exact Ph j (by omega) (lO.2.2 j (by omega))⟩ (by dsimp only;omega) (aU) (fun w hw=>hw))
     ·have kA:z.2=rH (a.fin.length+b.fin.length) (UR a.fin.length x.2.1.1):=Dq lO.2.1.1 (fun j hj=>lO.2.2 j (by omega))
      refine .exit (.ai (.ai (.ar ?_)))
      refine .ab (wg _ ?_)
      refine .sr fun _ Jw=>?_
      refine .v (.aa hY rfl ax rfl) ?_
      refine .call PU rfl (fun w hw=>Gz w dv (rH (a.fin.length+b.fin.length) (UR a.fin.length x.2.1.1)) (BX.Uk 1 hw rfl (eF _ _).symm (by rw [kA]))) trivial rfl ?_
      rintro cv o rfl
      refine .shape 8 rfl (fun Te=>?_)
      refine .as rfl (.as rfl (.nt Jw (.ret ?_)))
      refine .zZ rfl rfl rfl (fun w hw=>⟨_,_,?_,rfl,.of (hw.pk [8])⟩)
      have X7:lZ (rH (a.fin.length+b.fin.length) (UR a.fin.length x.2.1.1))=nw a b:=by unfold lZ;rw [if_pos (by rw [eF];omega)];exact Hs.2
      rw [X7]
      exact ⟨cv,nw a b,true,rfl,Te,rfl,fun _=>⟨Hs.1,rfl⟩,fun h=>(by cases h)⟩
end Go.Proofs.YtbibnpdnmmgacaaGreatDoor
namespace Go.Proofs.YtbibnpdnmmgacaaGreatDoor
open Go.Sx Go.RowKit
theorem R6 (w:World) (F:Nat→Prop) (v:Value) (l:List UInt8) (hm:l.length≤9223372036854775807) (hA:(vq v 5 l.length (l.map rC)).holds w F):ck Tryz.prog 170 [v] w F (fun r A o=>A=vq v 5 l.length (l.reverse.map rC)∧r = .tuple #[]∧o=[]):=by
 refine cu Tryz.func170 rfl (aT rfl) hA ?_
 have yM:=jP l
 refine .sr fun _ bl=>?_
 refine .mv rfl ?_
 refine .v (.aZ nX rfl (by exact (cR.Cc 0 rfl))) ?_
 refine .v (.sub rfl rfl (by omega)) ?_
 refine .as rfl (.as rfl (.nt bl (.block ?_)))
 refine .bE (X:=Nat) [(0,_)] (fun k=>[(2,.int .i64 (k:Int)),(3,.int .i64 ((l.length:Int) - 1 - (k:Int)))]) (fun k=>[vq v 5 l.length ((IL l k).map rC)]) (fun k=>(k:Int)≤(l.length:Int) - (k:Int)+1) (fun k=>l.length - k) (0) aU ?_ ?_ ?_ ?_
 ·omega
 ·exact .cons (rfl) (.cons (s9 rfl (by omega)) (aU))
 ·exact fun w hw=>by rw [Lj];exact hw
 ·intro k aV _ bg
  refine .seq fun _ bW=>?_
  refine .sr fun _ cr=>?_
  refine .mv rfl (.mv rfl (.v (.lss rfl rfl) (.nt cr ?_)))
  refine .aA rfl (fun bx=>?_) (fun bx=>?_)
  ·have hrk:=jP l k
   have ej:((l.length:Int) - 1 - (k:Int)).toNat=l.length - 1 - k:=by omega
   have mg:=Lk (l:=l) (k:=k) (m:=l.length - 1 - k) rfl (by omega)
   refine .skip ?_
   refine .ab (bW _ ?_)
   refine .seq fun _ cJ=>?_
   refine .block ?_
   try (conv=>enter [2,2];simp only [cE])
   refine .held 13 mixed ?_
   refine .F 0 15 16 1 rfl (.move rfl) trivial ?_
   refine .F 1 14 16 3 rfl (.move rfl) trivial ?_
   refine .Kw 2 (fuel:=13) (cm:=(lb 16 7)) _ rfl cx cx rfl (PY.move rfl) trivial rfl ?_
   refine .Kw 3 (fuel:=12) (cm:=(lb 16 15)) _ rfl cx cx rfl (PY.move rfl) trivial rfl ?_
   refine .F 4 11 16 31 rfl (.move rfl) trivial ?_
   refine .F 5 10 16 63 rfl (.move rfl) trivial ?_
   refine .F 6 9 16 127 rfl (.iK nX rfl rfl (hr:=(by exact (cR.Cc 0 rfl)))) trivial ?_
   refine .F 7 8 16 255 rfl (.Ks Xl rfl (by exact (cR.Cc 0 rfl)) (by omega)) trivial ?_
   refine .F 8 7 16 511 rfl (.move rfl) trivial ?_
   refine .F 9 6 16 1023 rfl (.move rfl) trivial ?_
   refine .F 10 5 16 2047 rfl (.iN nX rfl rfl (hr:=(by exact (cR.Cc 0 rfl)))) trivial ?_
   refine .F 11 4 16 4095 rfl (.Ks Xl rfl (by exact (cR.Cc 0 rfl)) (by omega)) trivial ?_
   refine .F 12 3 16 8191 rfl (.iN nX rfl rfl (hr:=(by exact (cR.Cc 0 rfl)))) trivial ?_
   refine .O 13 2 16 16383 rfl ?_
   refine .Kc 0 rfl sz5 rfl rfl rfl rfl (by omega) rfl trivial ?_
   refine .nil ?_
   try (conv=>enter [2,2];simp only [cE])
   refine ay.ir 14 cx rfl cx ?_
   refine .v (.iK nX rfl rfl (hr:=(by exact (cR.Cc 0 rfl)))) ?_
   refine .Kc 0 (cs':=(IL l (k+1)).map rC) rfl sz5 rfl rfl rfl rfl (by omega) (by rw [ej];exact mg) trivial ?_
   refine .nil ?_
   refine .fu ?_
   refine .ag ?_
   refine .ab (cJ _ ?_)
   refine .region ?_
   refine .mv rfl ?_
   refine .v (.add rfl rfl (by omega)) ?_
   refine .mv rfl ?_
   refine .v (.sub rfl rfl (by omega)) ?_
   refine .as rfl (.as rfl (.nil ?_))
   refine .ab (bg _ _ (k+1) (by omega) (by omega) (.cons (rfl) (.cons (s9 rfl (by omega)) (aU))) (fun w hw=>hw))
  ·refine .exit (.ai (.ai (.ar ?_)))
   refine .jz [] rfl (.nil) (fun w hw=>⟨_,_,_,?_,rfl,.of (hw.pk [0])⟩)
   rw [NY bx]
   exact ⟨rfl,rfl,rfl⟩
theorem HZ (w:World) (l:List UInt8) (hm:l.length≤9223372036854775807):aK Tryz.prog 139 [sv l] w (fun r o=>r=sv l.reverse∧o=[]):=by
 refine aC Tryz.func139 rfl (aT rfl) ?_
 refine .sr fun _ bl=>?_
 refine .as rfl (.nt bl ?_)
 refine .sr fun _ bg=>?_
 refine .mv rfl ?_
 refine .Nt DM nX.1 Tw rfl hm trivial rfl (fun bz=>?_)
 refine .as rfl (.nt bg ?_)
 refine .sr fun _ bW=>?_
 refine .mv rfl ?_
 refine .CA 0 rfl VX rfl (fun w F hw hA=>R6 w F bz l hm hA) trivial rfl ?_
 rintro r A o ⟨rfl,rfl,rfl⟩
 refine .nt bW ?_
 refine .sr fun _ cr=>?_
 refine .mv rfl ?_
 refine .v (.KF nX.1 Tw DM rfl (by exact (cR.Cc 0 rfl))) ?_
 refine .as rfl (.nt cr (.ret ?_))
 refine .aG rfl rfl (fun w hw=>⟨_,_,?_,rfl,.of (hw.pk [])⟩)
 exact ⟨rfl,rfl⟩
end Go.Proofs.YtbibnpdnmmgacaaGreatDoor
namespace Go.Proofs.YtbibnpdnmmgacaaGreatDoor
open Go.Sx Go.RowKit
set_option maxHeartbeats 4000000 in
theorem La (w:World) (u v:Value) (a b:bB) (hu:oD (fun _=>False) w u a) (hv:oD (fun _=>False) w v b) (ha:VD a) (hb:VD b) (hL:a.L=b.L) (fw:FuncId) (us cs:List Value) (wd:Int × Int→Bool) (zT:aj Tryz.prog fw) (hW:∀ w',bj (fun _=>False) w w'→∀ p∈jY a.fin.length b.fin.length,aK Tryz.prog fw (us++[.int .i64 p.1,.int .i64 p.2]++cs) w' (fun r o=>r = .bool (wd p)∧o=[])):aK Tryz.prog 86 [u,v,.func (.func fw) us.toArray cs.toArray] w (fun r o=>r = .tuple #[sv (oH (az a b) a.L.toNat (a.s,b.s) (0,0) (jY a.fin.length b.fin.length).length wd).1,.bool (oH (az a b) a.L.toNat (a.s,b.s) (0,0) (jY a.fin.length b.fin.length).length wd).2]∧o=[]):=by
 have I1:=hu
 have IP:=hv
 obtain ⟨aF,aN,rfl,zV,I9⟩:=hu
 obtain ⟨bF,bN,rfl,zU,I7⟩:=hv
 have Ck:=zV
 have Cj:=zU
 have Rs:=I9
 have Rn:=I7
 obtain ⟨ra,TP,Rr,Ee⟩:=I9
 obtain ⟨rb,Ms,Rm,Ed⟩:=I7
 unfold lQ at zV zU
 have m1:=zV.le
 have m2:=zU.le
 have haL:=ha.L
 have hax:=ha.nx
 have hbx:=hb.nx
 have ha5:=ha.n
 have hb5:=hb.n
 have has:=ha.s
 have Ts:=hb.s
 have To:(a.fin.length * b.fin.length)≤262144:=Nat.mul_le_mul ha5 hb5
 have mg:=pn ha hb
 have DW:=ri ha hb hL
 have BT:=k6 (z:=(0,0)) mg DW
 have vC:=q8 (z:=(0,0)) mg DW
 rw [tT] at vC
 have I6:0≤a.s * (b.fin.length:Int)∧a.s * (b.fin.length:Int)≤(((a.fin.length * b.fin.length):Nat):Int)∧0≤a.s * (b.fin.length:Int)+b.s∧a.s * (b.fin.length:Int)+b.s<(((a.fin.length * b.fin.length):Nat):Int):=Qb (p:=(a.s,b.s)) (m:=a.fin.length) (n:=b.fin.length) ⟨has,Ts⟩
 refine aC Tryz.func86 rfl (aT rfl) ?_
 refine .sr fun _ bl=>?_
 refine .cS (E:=32) (cs:=[.int .i64 a.L,.int .i64 a.s,aF,aN]) rfl rfl rfl trivial rfl (fun ga=>?_)
 refine .cS (E:=32) (cs:=[.int .i64 b.L,.int .i64 b.s,bF,bN]) rfl rfl rfl trivial rfl (fun iD=>?_)
 refine .as rfl (.as rfl (.nt bl ?_))
 refine .sr fun _ bg=>?_
 refine .v (.fieldAddr kZ rfl) (.v (.aa cQ rfl ax rfl) (.v (.fieldAddr kZ rfl) (.v (.aa cQ rfl ax rfl) ?_)))
 refine .v (.build (parts:=[(0,.tmp 18),(1,.tmp 20),(2,.const (.int .i64 (-1))),(3,.const (.int .i64 0))]) (cs:=#[.int .i64 a.s,.int .i64 b.s,.int .i64 (-1),.int .i64 0]) rfl (by kernel_rfl)) ?_
 refine .lit (xs:=[.tmp 21]) Cn JY rfl rfl rfl (by intro a ha;simp at ha;subst ha;rfl) (by decide) (by decide) trivial rfl (fun qv=>?_)
 refine .shape 2 rfl (fun sqv=>?_)
 refine .as rfl (.nt bg ?_)
 refine .sr fun _ bW=>?_
 refine .v (.fieldAddr dp rfl) (.v (.aa jx rfl ax rfl) ?_)
 refine .v (.aZ gf rfl (by exact a8)) ?_
 refine .v (.fieldAddr dp rfl) (.v (.aa jx rfl ax rfl) ?_)
 refine .v (.aZ gf rfl (by exact a8)) ?_
 refine .v (.YK ((((a.fin.length * b.fin.length):Nat):Int)) rfl rfl (Int.natCast_mul _ _).symm (by omega)) ?_
 refine .kT (n:=(a.fin.length * b.fin.length)) gf Mz rfl rfl rfl (by omega) (by omega) trivial rfl (fun mv=>?_)
 refine .as rfl (.nt bW ?_)
 refine .sr fun _ cr=>?_
 refine .mv rfl (.v (.fieldAddr kZ rfl) (.v (.aa cQ rfl ax rfl) (.v (.fieldAddr dp rfl) (.v (.aa jx rfl ax rfl) ?_))))
 refine .v (.aZ gf rfl (by exact a8)) ?_
 refine .v (.mul rfl rfl (by omega)) ?_
 refine .v (.fieldAddr kZ rfl) (.v (.aa cQ rfl ax rfl) ?_)
 refine .v (.add rfl rfl (by omega)) ?_
 refine .v (.iK gf rfl rfl (hr:=(by exact a8))) ?_
 refine .di 3 rfl IW rfl rfl rfl rfl (by omega) (cs':=((lD (a.fin.length * b.fin.length) [cd b.fin.length (a.s,b.s)]).map Value.bool)) (by exact Ik ⟨I6.2.2.1,I6.2.2.2⟩) trivial ?_
 refine .nt cr ?_
 refine .seq fun _ cJ=>?_
 refine .sr fun _ cU=>?_
 refine .as rfl (.nt cU (.block ?_))
 refine .bE (X:=Nat × Value) [(2,_),(3,_),(4,_),(9,_)] (fun x=>[(8,x.2),(10,.int .i64 (x.1:Int))]) (fun x=>[box ga 32 4 [.int .i64 a.L,.int .i64 a.s,aF,aN],box iD 32 4 [.int .i64 b.L,.int .i64 b.s,bF,bN],row x.2 182 4 (aH (az a b) a.L.toNat (a.s,b.s) (0,0) x.1).length (DN ((aH (az a b) a.L.toNat (a.s,b.s) (0,0) x.1).zip (eV (az a b) a.L.toNat (a.s,b.s) (0,0) x.1))),row mv 4 1 (a.fin.length * b.fin.length) ((lD (a.fin.length * b.fin.length) ((aH (az a b) a.L.toNat (a.s,b.s) (0,0) x.1).map (cd b.fin.length))).map Value.bool)]) (fun x=>x.1≤(aH (az a b) a.L.toNat (a.s,b.s) (0,0) x.1).length∧aB x.2∧∀ j,j<x.1→wd ((aH (az a b) a.L.toNat (a.s,b.s) (0,0) x.1).getD j (0,0))=false) (fun x=>(a.fin.length * b.fin.length) - x.1) ((0,qv)) aU ?_ ?_ ?_ ?_
 ·exact ⟨Nat.zero_le _,sqv,fun j hj=>by cases hj⟩
 ·exact aU
 ·exact fun w hw=>hw
 ·intro x aV _ c7
  have QG:=vC x.1
  have sx2:=aV.2.1
  refine .seq fun _ dm=>?_
  refine .sr fun _ dD=>?_
  refine .mv rfl (.mv rfl ?_)
  refine .v (.aZ Cn rfl (by exact a8)) ?_
  refine .v (.lss rfl rfl) (.nt dD ?_)
  refine .aA rfl (fun bx=>?_) (fun bx=>?_)
  ·have bZ:x.1<(aH (az a b) a.L.toNat (a.s,b.s) (0,0) x.1).length:=by omega
   have WE:=sV (f:=(az a b)) (L:=a.L.toNat) (s:=(a.s,b.s)) (z:=(0,0)) x.1
   have hzl:=CC WE
   have Ht:=G3 (f:=(az a b)) (L:=a.L.toNat) (by omega) (s:=(a.s,b.s)) (z:=(0,0)) x.1
   have me:=fun y hy=>uf.1 ((BT x.1).2 y hy)
   obtain ⟨⟨yO,MK⟩,hp3,hp4⟩:=me _ (aX (d:=(0,0)) bZ)
   have I0:=OJ (f:=(az a b)) (L:=a.L.toNat) (s:=(a.s,b.s)) (z:=(0,0)) x.1 x.1 (by rw [fj];exact bZ)
   refine .skip ?_
   refine .ab (dm _ ?_)
   refine .seq fun _ bJ=>?_
   refine .block ?_
   refine .sr fun _ bP=>?_
   refine .mv rfl (.mv rfl ?_)
   refine .v (.iN Cn rfl rfl (hr:=(by exact a8))) ?_
   refine .val (TC (((aH (az a b) a.L.toNat (a.s,b.s) (0,0) x.1).getD x.1 (0,0)),((eV (az a b) a.L.toNat (a.s,b.s) (0,0) x.1).getD x.1 (0,0)))) (.iW (.Py Qh rfl (cR.own 2 rfl) (by rw [hzl];omega)) (congrArg TC (CD WE (by omega)))) trivial rfl ?_
   refine .alloc JY rfl rfl trivial rfl (fun ja=>?_)
   refine .ah 4 (us:=[.int .i64 ((aH (az a b) a.L.toNat (a.s,b.s) (0,0) x.1).getD x.1 (0,0)).1,.int .i64 ((aH (az a b) a.L.toNat (a.s,b.s) (0,0) x.1).getD x.1 (0,0)).2,.int .i64 ((eV (az a b) a.L.toNat (a.s,b.s) (0,0) x.1).getD x.1 (0,0)).1,.int .i64 ((eV (az a b) a.L.toNat (a.s,b.s) (0,0) x.1).getD x.1 (0,0)).2]) (cs':=[.int .i64 ((aH (az a b) a.L.toNat (a.s,b.s) (0,0) x.1).getD x.1 (0,0)).1,.int .i64 ((aH (az a b) a.L.toNat (a.s,b.s) (0,0) x.1).getD x.1 (0,0)).2,.int .i64 ((eV (az a b) a.L.toNat (a.s,b.s) (0,0) x.1).getD x.1 (0,0)).1,.int .i64 ((eV (az a b) a.L.toNat (a.s,b.s) (0,0) x.1).getD x.1 (0,0)).2]) rfl Pr rfl rfl rfl rfl aJ (aT rfl) rfl trivial ?_
   refine .nt bP ?_
   refine .seq fun _ ct=>?_
   refine .sr fun _ cK=>?_
   refine .mv rfl (.v (.fieldAddr GW rfl) (.v (.aa cQ rfl ax rfl) (.v (.fieldAddr GV rfl) (.v (.aa cQ rfl ax rfl) ?_))))
   refine .oQ (us:=us) (cs:=cs) zT rfl rfl (fun w hw=>hW w hw.frame ((aH (az a b) a.L.toNat (a.s,b.s) (0,0) x.1).getD x.1 (0,0)) ((BT x.1).2 _ (aX (d:=(0,0)) bZ))) trivial rfl ?_
   rintro r o ⟨rfl,rfl⟩
   refine .nt cK ?_
   refine .cond rfl (fun cB=>?_) (fun cB=>?_)
   ·try simp only [bs] at cB
    have hwt:wd ((aH (az a b) a.L.toNat (a.s,b.s) (0,0) x.1).getD x.1 (0,0))=true:=cB
    refine .sr fun _ cW=>?_
    refine .as rfl (.nt cW ?_)
    refine .seq fun _ c8=>?_
    refine .block ?_
    refine .bE (X:=Nat × List UInt8 × Value) [(8,_),(11,_)] (fun y=>[(12,y.2.2)]) (fun y=>[box ga 32 4 [.int .i64 a.L,.int .i64 a.s,aF,aN],box iD 32 4 [.int .i64 b.L,.int .i64 b.s,bF,bN],row x.2 182 4 (aH (az a b) a.L.toNat (a.s,b.s) (0,0) x.1).length (DN ((aH (az a b) a.L.toNat (a.s,b.s) (0,0) x.1).zip (eV (az a b) a.L.toNat (a.s,b.s) (0,0) x.1))),row mv 4 1 (a.fin.length * b.fin.length) ((lD (a.fin.length * b.fin.length) ((aH (az a b) a.L.toNat (a.s,b.s) (0,0) x.1).map (cd b.fin.length))).map Value.bool),box ja 182 4 [.int .i64 ((aH (az a b) a.L.toNat (a.s,b.s) (0,0) x.1).getD y.1 (0,0)).1,.int .i64 ((aH (az a b) a.L.toNat (a.s,b.s) (0,0) x.1).getD y.1 (0,0)).2,.int .i64 ((eV (az a b) a.L.toNat (a.s,b.s) (0,0) x.1).getD y.1 (0,0)).1,.int .i64 ((eV (az a b) a.L.toNat (a.s,b.s) (0,0) x.1).getD y.1 (0,0)).2],row y.2.2 5 1 y.2.1.length (y.2.1.map rC)]) (fun y=>y.1<(aH (az a b) a.L.toNat (a.s,b.s) (0,0) x.1).length∧(cX (az a b) a.L.toNat (a.s,b.s) (0,0) x.1).getD y.1 []++y.2.1.reverse=(cX (az a b) a.L.toNat (a.s,b.s) (0,0) x.1).getD x.1 []∧aB y.2.2) (fun y=>y.1) ((x.1,[],.slice none 0 0)) aU ?_ ?_ ?_ ?_
    ·exact ⟨bZ,by simp,cq⟩
    ·exact aU
    ·exact fun w hw=>by exact hw.ghost 5 1
    ·intro y c6 _ dw
     have bc:y.2.1.length≤2 * (x.1+1) * 8:=by
      have h:=congrArg List.length c6.2.1
      rw [List.length_append,List.length_reverse] at h;omega
     have hgy:=c6.1
     refine .seq fun _ dE=>?_
     refine .sr fun _ dR=>?_
     refine .v (.fieldAddr GU rfl) (.v (.aa cQ rfl ax rfl) (.v (.geq rfl rfl) (.nt dR ?_)))
     refine .aA rfl (fun cZ=>?_) (fun cZ=>?_)
     ·have XO:0<y.1:=by
       rcases Nat.eq_zero_or_pos y.1 with h | h
       ·rw [h,Ht.2.2.1] at cZ;exact absurd cZ (by decide)
       ·exact h
      obtain ⟨g1,g2,g3,g4,g5,g6⟩:=Ht.2.1 y.1 XO (by omega)
      refine .skip ?_
      refine .ab (dE _ ?_)
      refine .seq fun _ dO=>?_
      refine .block ?_
      refine .region ?_
      refine .mv rfl (.v (.fieldAddr OG rfl) (.v (.aa cQ rfl ax rfl) ?_))
      refine .v (.wy (by kernel_rfl) Tw rfl (wrap_u8 (by omega))) ?_
      refine .v (.Qi rfl rfl (by omega)) ?_
      refine .fF 5 rfl nX X5 rfl (by decide) rfl (by intro k hk;cases hk;rfl) rfl (by intro u hu;simp [Value.cells] at hu;subst hu;rfl) (by omega) (by omega) (by decide) rfl rfl (fun vr _ hr=>?_)
      refine .as rfl (.nil (.ag ?_))
      refine .ab (dO _ ?_)
      refine .region ?_
      refine .mv rfl (.v (.fieldAddr GU rfl) (.v (.aa cQ rfl ax rfl) ?_))
      refine .v (.iK Cn rfl rfl (hr:=(by exact a8))) ?_
      refine .val (TC (((aH (az a b) a.L.toNat (a.s,b.s) (0,0) x.1).getD (((eV (az a b) a.L.toNat (a.s,b.s) (0,0) x.1).getD y.1 (0,0)).1).toNat (0,0)),((eV (az a b) a.L.toNat (a.s,b.s) (0,0) x.1).getD (((eV (az a b) a.L.toNat (a.s,b.s) (0,0) x.1).getD y.1 (0,0)).1).toNat (0,0)))) (.iW (.Py Qh rfl (cR.own 2 rfl) (by rw [hzl];omega)) (congrArg TC (CD WE (by omega)))) trivial rfl ?_
      refine .ah 4 (us:=[.int .i64 ((aH (az a b) a.L.toNat (a.s,b.s) (0,0) x.1).getD (((eV (az a b) a.L.toNat (a.s,b.s) (0,0) x.1).getD y.1 (0,0)).1).toNat (0,0)).1,.int .i64 ((aH (az a b) a.L.toNat (a.s,b.s) (0,0) x.1).getD (((eV (az a b) a.L.toNat (a.s,b.s) (0,0) x.1).getD y.1 (0,0)).1).toNat (0,0)).2,.int .i64 ((eV (az a b) a.L.toNat (a.s,b.s) (0,0) x.1).getD (((eV (az a b) a.L.toNat (a.s,b.s) (0,0) x.1).getD y.1 (0,0)).1).toNat (0,0)).1,.int .i64 ((eV (az a b) a.L.toNat (a.s,b.s) (0,0) x.1).getD (((eV (az a b) a.L.toNat (a.s,b.s) (0,0) x.1).getD y.1 (0,0)).1).toNat (0,0)).2]) (cs':=[.int .i64 ((aH (az a b) a.L.toNat (a.s,b.s) (0,0) x.1).getD (((eV (az a b) a.L.toNat (a.s,b.s) (0,0) x.1).getD y.1 (0,0)).1).toNat (0,0)).1,.int .i64 ((aH (az a b) a.L.toNat (a.s,b.s) (0,0) x.1).getD (((eV (az a b) a.L.toNat (a.s,b.s) (0,0) x.1).getD y.1 (0,0)).1).toNat (0,0)).2,.int .i64 ((eV (az a b) a.L.toNat (a.s,b.s) (0,0) x.1).getD (((eV (az a b) a.L.toNat (a.s,b.s) (0,0) x.1).getD y.1 (0,0)).1).toNat (0,0)).1,.int .i64 ((eV (az a b) a.L.toNat (a.s,b.s) (0,0) x.1).getD (((eV (az a b) a.L.toNat (a.s,b.s) (0,0) x.1).getD y.1 (0,0)).1).toNat (0,0)).2]) rfl Pr rfl rfl rfl rfl aJ (aT rfl) rfl trivial ?_
      refine .nil ?_
      refine .ab (dw _ _ (((((eV (az a b) a.L.toNat (a.s,b.s) (0,0) x.1).getD y.1 (0,0)).1).toNat,y.2.1++[mf (((eV (az a b) a.L.toNat (a.s,b.s) (0,0) x.1).getD y.1 (0,0)).2).toNat],vr)) ⟨by dsimp only;omega,by dsimp only;rw [List.reverse_append,List.reverse_singleton,← List.append_assoc,← g6];exact c6.2.1,hr⟩ (by dsimp only;omega) (aU) (fun w hw=>by dsimp only;rw [List.length_append,List.map_append,List.map_cons,List.map_nil,← OQ (by omega),Int.toNat_of_nonneg g4];exact hw))
     ·have XO:y.1=0:=by
       rcases Nat.eq_zero_or_pos y.1 with h | h
       ·exact h
       ·have:=Ht.2.1 y.1 h (by omega)
        omega
      have hw0:y.2.1.reverse=(cX (az a b) a.L.toNat (a.s,b.s) (0,0) x.1).getD x.1 []:=by
       have h:=c6.2.1
       rw [XO,Ht.2.2.2.1] at h;simpa using h
      refine .exit (.ai (.ai (.ar ?_)))
      refine .ab (c8 _ ?_)
      refine .sr fun _ eJ=>?_
      refine .mv rfl ?_
      refine .v (.KF nX.1 Tw DM rfl (by exact a8)) ?_
      refine .call V3 rfl (fun w hw=>HZ w y.2.1 (by omega)) trivial rfl ?_
      rintro r o ⟨rfl,rfl⟩
      refine .as rfl (.as rfl (.nt eJ (.ret (.ae (.al (.ae (.ae (.al (.ae ?_)))))))))
      refine .zZ rfl rfl rfl (fun w hw=>⟨_,_,?_,rfl,.of (hw.pk [])⟩)
      rw [show (oH (az a b) a.L.toNat (a.s,b.s) (0,0) (jY a.fin.length b.fin.length).length wd)=_ from KZ mg DW bZ aV.2.2 hwt,hw0]
      exact ⟨rfl,rfl⟩
   ·try simp only [bs] at cB
    have x9:wd ((aH (az a b) a.L.toNat (a.s,b.s) (0,0) x.1).getD x.1 (0,0))=false:=cB
    have aa0:=ha.row ((aH (az a b) a.L.toNat (a.s,b.s) (0,0) x.1).getD x.1 (0,0)).1.toNat (by omega)
    have aaZ:=hb.row ((aH (az a b) a.L.toNat (a.s,b.s) (0,0) x.1).getD x.1 (0,0)).2.toNat (by omega)
    refine .skip ?_
    refine .ab (ct _ ?_)
    refine .sr fun _ eY=>?_
    refine .v (.fieldAddr kn rfl) (.v (.aa cQ rfl ax rfl) (.mv rfl (.nt eY (.block ?_))))
    refine .bE (X:=Nat × Value) [(2,_),(3,_),(4,_),(9,_),(10,_),(11,_),(77,_)] (fun y=>[(8,y.2),(78,.int .i64 (y.1:Int))]) (fun y=>[box ga 32 4 [.int .i64 a.L,.int .i64 a.s,aF,aN],box iD 32 4 [.int .i64 b.L,.int .i64 b.s,bF,bN],row y.2 182 4 (gk (az a b) ((aH (az a b) a.L.toNat (a.s,b.s) (0,0) x.1).getD x.1 (0,0)) (aH (az a b) a.L.toNat (a.s,b.s) (0,0) x.1) y.1).length (DN ((gk (az a b) ((aH (az a b) a.L.toNat (a.s,b.s) (0,0) x.1).getD x.1 (0,0)) (aH (az a b) a.L.toNat (a.s,b.s) (0,0) x.1) y.1).zip (rJ (az a b) ((aH (az a b) a.L.toNat (a.s,b.s) (0,0) x.1).getD x.1 (0,0)) x.1 (aH (az a b) a.L.toNat (a.s,b.s) (0,0) x.1) (eV (az a b) a.L.toNat (a.s,b.s) (0,0) x.1) y.1))),row mv 4 1 (a.fin.length * b.fin.length) ((lD (a.fin.length * b.fin.length) ((gk (az a b) ((aH (az a b) a.L.toNat (a.s,b.s) (0,0) x.1).getD x.1 (0,0)) (aH (az a b) a.L.toNat (a.s,b.s) (0,0) x.1) y.1).map (cd b.fin.length))).map Value.bool),box ja 182 4 [.int .i64 ((aH (az a b) a.L.toNat (a.s,b.s) (0,0) x.1).getD x.1 (0,0)).1,.int .i64 ((aH (az a b) a.L.toNat (a.s,b.s) (0,0) x.1).getD x.1 (0,0)).2,.int .i64 ((eV (az a b) a.L.toNat (a.s,b.s) (0,0) x.1).getD x.1 (0,0)).1,.int .i64 ((eV (az a b) a.L.toNat (a.s,b.s) (0,0) x.1).getD x.1 (0,0)).2]]) (fun y=>(y.1:Int)≤a.L∧aB y.2) (fun y=>a.L.toNat - y.1) ((0,x.2)) aU ?_ ?_ ?_ ?_
    ·exact ⟨by dsimp only;omega,sx2⟩
    ·exact aU
    ·exact fun w hw=>hw
    ·intro y lO _ eI
     have sy2:=lO.2
     refine .sr fun _ fH=>?_
     refine .v (.lss rfl rfl) (.nt fH ?_)
     refine .seq fun _ gq=>?_
     refine .aA rfl (fun iz=>?_) (fun iz=>?_)
     ·have MG:y.1<a.L.toNat:=by omega
      have hNU:(az a b ((aH (az a b) a.L.toNat (a.s,b.s) (0,0) x.1).getD x.1 (0,0)) y.1)∈jY a.fin.length b.fin.length:=DW _ ((BT x.1).2 _ (aX (d:=(0,0)) bZ)) y.1 MG
      have hNB:=uf.1 hNU
      have Pf:0≤((a.nx.getD ((aH (az a b) a.L.toNat (a.s,b.s) (0,0) x.1).getD x.1 (0,0)).1.toNat []).getD y.1 0) * (b.fin.length:Int)∧((a.nx.getD ((aH (az a b) a.L.toNat (a.s,b.s) (0,0) x.1).getD x.1 (0,0)).1.toNat []).getD y.1 0) * (b.fin.length:Int)≤(((a.fin.length * b.fin.length):Nat):Int)∧0≤((a.nx.getD ((aH (az a b) a.L.toNat (a.s,b.s) (0,0) x.1).getD x.1 (0,0)).1.toNat []).getD y.1 0) * (b.fin.length:Int)+((b.nx.getD ((aH (az a b) a.L.toNat (a.s,b.s) (0,0) x.1).getD x.1 (0,0)).2.toNat []).getD y.1 0)∧((a.nx.getD ((aH (az a b) a.L.toNat (a.s,b.s) (0,0) x.1).getD x.1 (0,0)).1.toNat []).getD y.1 0) * (b.fin.length:Int)+((b.nx.getD ((aH (az a b) a.L.toNat (a.s,b.s) (0,0) x.1).getD x.1 (0,0)).2.toNat []).getD y.1 0)<(((a.fin.length * b.fin.length):Nat):Int):=Qb hNB
      have Zj:∀ u∈(gk (az a b) ((aH (az a b) a.L.toNat (a.s,b.s) (0,0) x.1).getD x.1 (0,0)) (aH (az a b) a.L.toNat (a.s,b.s) (0,0) x.1) y.1),QS a.fin.length b.fin.length u:=fun u hu=>uf.1 (vT (fun u hu=>(BT x.1).2 u hu) (fun k hk=>DW _ ((BT x.1).2 _ (aX (d:=(0,0)) bZ)) k hk) y.1 (by omega) u hu)
      have Pa:(lD (a.fin.length * b.fin.length) ((gk (az a b) ((aH (az a b) a.L.toNat (a.s,b.s) (0,0) x.1).getD x.1 (0,0)) (aH (az a b) a.L.toNat (a.s,b.s) (0,0) x.1) y.1).map (cd b.fin.length))).getD (((a.nx.getD ((aH (az a b) a.L.toNat (a.s,b.s) (0,0) x.1).getD x.1 (0,0)).1.toNat []).getD y.1 0) * (b.fin.length:Int)+((b.nx.getD ((aH (az a b) a.L.toNat (a.s,b.s) (0,0) x.1).getD x.1 (0,0)).2.toNat []).getD y.1 0)).toNat false=decide ((az a b ((aH (az a b) a.L.toNat (a.s,b.s) (0,0) x.1).getD x.1 (0,0)) y.1)∈(gk (az a b) ((aH (az a b) a.L.toNat (a.s,b.s) (0,0) x.1).getD x.1 (0,0)) (aH (az a b) a.L.toNat (a.s,b.s) (0,0) x.1) y.1)):=(LG ⟨Pf.2.2.1,Pf.2.2.2⟩).trans (decide_eq_decide.2 (S3 Zj hNB))
      have yM:=Kz (z:=(0,0)) mg DW bZ (k:=y.1) (by omega)
      rw [tT] at yM
      have hbl:=xy (f:=(az a b)) (q:=((aH (az a b) a.L.toNat (a.s,b.s) (0,0) x.1).getD x.1 (0,0))) (i:=x.1) WE y.1
      have Fz:=LF (a.fin.length * b.fin.length) ((gk (az a b) ((aH (az a b) a.L.toNat (a.s,b.s) (0,0) x.1).getD x.1 (0,0)) (aH (az a b) a.L.toNat (a.s,b.s) (0,0) x.1) y.1).map (cd b.fin.length))
      refine .skip ?_
      refine .ab (gq _ ?_)
      refine .seq fun _ iT=>?_
      refine .block ?_
      refine .sr fun _ iZ=>?_
      refine .mv rfl (.as rfl (.nt iZ ?_))
      refine .seq fun _ iS=>?_
      refine .quiet mixed cx ?_
      refine .v (.fieldAddr eQ rfl) (.v (.aa lC rfl ax rfl) (.v (.fieldAddr GW rfl) (.v (.aa cQ rfl ax rfl) ?_)))
      refine .v (.iK kQ rfl rfl (hr:=(by exact a8))) ?_
      refine .v (.jD hY rfl (by exact a8) (by omega)) ?_
      refine .mv rfl ?_
      refine .v (.iN bX rfl rfl (hr:=(by exact .arg (Ee _ (by omega))))) ?_
      refine .v (.ff cQ rfl (by exact .arg (Ee _ (by omega))) (by omega)) ?_
      refine .v (.fieldAddr eQ rfl) (.v (.aa lC rfl ax rfl) (.v (.fieldAddr GV rfl) (.v (.aa cQ rfl ax rfl) ?_)))
      refine .v (.iK kQ rfl rfl (hr:=(by exact a8))) ?_
      refine .v (.jD hY rfl (by exact a8) (by omega)) ?_
      refine .mv rfl ?_
      refine .v (.iN bX rfl rfl (hr:=(by exact .arg (Ed _ (by omega))))) ?_
      refine .v (.ff cQ rfl (by exact .arg (Ed _ (by omega))) (by omega)) ?_
      refine .as rfl (.as rfl (.nil (QK.fin ?_)))
      refine .ab (iS _ ?_)
      refine .sr fun _ jy=>?_
      refine .mv rfl (.v (.fieldAddr dp rfl) (.v (.aa jx rfl ax rfl) ?_))
      refine .v (.aZ gf rfl (by exact a8)) ?_
      refine .v (.mul rfl rfl (by omega)) ?_
      refine .mv rfl ?_
      refine .v (.add rfl rfl (by omega)) ?_
      refine .as rfl (.nt jy ?_)
      refine .sr fun _ kf=>?_
      refine .mv rfl (.mv rfl ?_)
      refine .v (.iK gf rfl rfl (hr:=(by exact a8))) ?_
      refine .v (.oK vk rfl (by exact a8) (by omega)) ?_
      refine .v (.not rfl) (.nt kf ?_)
      refine .eW rfl (fun gn=>?_) (fun gn=>?_)
      ·have WI:(az a b ((aH (az a b) a.L.toNat (a.s,b.s) (0,0) x.1).getD x.1 (0,0)) y.1) ∉ (gk (az a b) ((aH (az a b) a.L.toNat (a.s,b.s) (0,0) x.1).getD x.1 (0,0)) (aH (az a b) a.L.toNat (a.s,b.s) (0,0) x.1) y.1):=by rw [Pa] at gn;exact of_decide_eq_false gn
       refine .sr fun _ kB=>?_
       refine .mv rfl (.mv rfl ?_)
       refine .v (.iK gf rfl rfl (hr:=(by exact a8))) ?_
       refine .di 3 rfl IW rfl rfl rfl rfl (by omega) (cs':=((lD (a.fin.length * b.fin.length) (((gk (az a b) ((aH (az a b) a.L.toNat (a.s,b.s) (0,0) x.1).getD x.1 (0,0)) (aH (az a b) a.L.toNat (a.s,b.s) (0,0) x.1) y.1)++[(az a b ((aH (az a b) a.L.toNat (a.s,b.s) (0,0) x.1).getD x.1 (0,0)) y.1)]).map (cd b.fin.length))).map Value.bool)) (by rw [List.map_append];exact LC ⟨Pf.2.2.1,Pf.2.2.2⟩) trivial ?_
       refine .nt kB ?_
       refine .region ?_
       refine .mv rfl (.mv rfl (.mv rfl (.mv rfl (.mv rfl ?_))))
       refine .v (.build (parts:=[(0,.tmp 115),(1,.tmp 116),(2,.tmp 117),(3,.tmp 118)]) (cs:=#[.int .i64 ((a.nx.getD ((aH (az a b) a.L.toNat (a.s,b.s) (0,0) x.1).getD x.1 (0,0)).1.toNat []).getD y.1 0),.int .i64 ((b.nx.getD ((aH (az a b) a.L.toNat (a.s,b.s) (0,0) x.1).getD x.1 (0,0)).2.toNat []).getD y.1 0),.int .i64 (x.1:Int),.int .i64 (y.1:Int)]) rfl (by kernel_rfl)) ?_
       refine .fF 2 rfl Cn JY rfl (by decide) rfl (by intro k hk;cases hk;rfl) rfl (by intro u hu;simp [Value.cells] at hu;rcases hu with rfl | rfl | rfl | rfl <;> rfl) (by omega) (by omega) (by decide) rfl rfl (fun va _ XY=>?_)
       refine .as rfl (.nil (.ag ?_))
       refine .ab (iT _ ?_)
       refine .region ?_
       refine .v (.add rfl rfl (by omega)) ?_
       refine .mv rfl (.nil ?_)
       refine .ab (eI _ _ ((y.1+1,va)) ⟨by dsimp only;omega,XY⟩ (by dsimp only;omega) (aU) (fun w hw=>by dsimp only;rw [show (gk (az a b) ((aH (az a b) a.L.toNat (a.s,b.s) (0,0) x.1).getD x.1 (0,0)) (aH (az a b) a.L.toNat (a.s,b.s) (0,0) x.1) (y.1+1))=(gk (az a b) ((aH (az a b) a.L.toNat (a.s,b.s) (0,0) x.1).getD x.1 (0,0)) (aH (az a b) a.L.toNat (a.s,b.s) (0,0) x.1) y.1)++[(az a b ((aH (az a b) a.L.toNat (a.s,b.s) (0,0) x.1).getD x.1 (0,0)) y.1)] from if_neg WI,show (rJ (az a b) ((aH (az a b) a.L.toNat (a.s,b.s) (0,0) x.1).getD x.1 (0,0)) x.1 (aH (az a b) a.L.toNat (a.s,b.s) (0,0) x.1) (eV (az a b) a.L.toNat (a.s,b.s) (0,0) x.1) (y.1+1))=(rJ (az a b) ((aH (az a b) a.L.toNat (a.s,b.s) (0,0) x.1).getD x.1 (0,0)) x.1 (aH (az a b) a.L.toNat (a.s,b.s) (0,0) x.1) (eV (az a b) a.L.toNat (a.s,b.s) (0,0) x.1) y.1)++[((x.1:Int),(y.1:Int))] from if_neg WI,HN hbl,Ln,List.length_append];exact hw))
      ·have Ut:(az a b ((aH (az a b) a.L.toNat (a.s,b.s) (0,0) x.1).getD x.1 (0,0)) y.1)∈(gk (az a b) ((aH (az a b) a.L.toNat (a.s,b.s) (0,0) x.1).getD x.1 (0,0)) (aH (az a b) a.L.toNat (a.s,b.s) (0,0) x.1) y.1):=by rw [Pa] at gn;exact of_decide_eq_true gn
       refine .skip (.ag ?_)
       refine .ab (iT _ ?_)
       refine .region ?_
       refine .v (.add rfl rfl (by omega)) ?_
       refine .mv rfl (.nil ?_)
       refine .ab (eI _ _ ((y.1+1,y.2)) ⟨by dsimp only;omega,sy2⟩ (by dsimp only;omega) (aU) (fun w hw=>by dsimp only;rw [show (gk (az a b) ((aH (az a b) a.L.toNat (a.s,b.s) (0,0) x.1).getD x.1 (0,0)) (aH (az a b) a.L.toNat (a.s,b.s) (0,0) x.1) (y.1+1))=(gk (az a b) ((aH (az a b) a.L.toNat (a.s,b.s) (0,0) x.1).getD x.1 (0,0)) (aH (az a b) a.L.toNat (a.s,b.s) (0,0) x.1) y.1) from if_pos Ut,show (rJ (az a b) ((aH (az a b) a.L.toNat (a.s,b.s) (0,0) x.1).getD x.1 (0,0)) x.1 (aH (az a b) a.L.toNat (a.s,b.s) (0,0) x.1) (eV (az a b) a.L.toNat (a.s,b.s) (0,0) x.1) (y.1+1))=(rJ (az a b) ((aH (az a b) a.L.toNat (a.s,b.s) (0,0) x.1).getD x.1 (0,0)) x.1 (aH (az a b) a.L.toNat (a.s,b.s) (0,0) x.1) (eV (az a b) a.L.toNat (a.s,b.s) (0,0) x.1) y.1) from if_pos Ut];exact hw))
     ·refine .exit (.ai (.ai (.ar (.ag ?_))))
      refine .ab (bJ _ ?_)
      refine .region ?_
      refine .mv rfl ?_
      refine .v (.add rfl rfl (by omega)) ?_
      refine .as rfl (.nil ?_)
      refine .ab (c7 _ _ ((x.1+1,y.2)) ⟨by dsimp only;rw [fm bZ];obtain ⟨ys,e⟩:=sg (az a b) ((aH (az a b) a.L.toNat (a.s,b.s) (0,0) x.1).getD x.1 (0,0)) (aH (az a b) a.L.toNat (a.s,b.s) (0,0) x.1) a.L.toNat;rw [e,List.length_append];omega,lO.2,K2 bZ aV.2.2 x9⟩ (by dsimp only;omega) (aU) (fun w hw=>by dsimp only;rw [fm bZ,zH bZ];rw [show y.1=a.L.toNat by omega] at hw;exact hw.pk [0,1,2,3]))
  ·refine .exit (.ai (.ai (.ar ?_)))
   refine .ab (cJ _ ?_)
   refine .sr fun _ ke=>?_
   refine .as rfl (.as rfl (.nt ke (.ret ?_)))
   refine .zZ rfl rfl rfl (fun w hw=>⟨_,_,?_,rfl,.of (hw.pk [])⟩)
   rw [show (oH (az a b) a.L.toNat (a.s,b.s) (0,0) (jY a.fin.length b.fin.length).length wd)=_ from K1 mg DW (show x.1=(aH (az a b) a.L.toNat (a.s,b.s) (0,0) x.1).length by omega) aV.2.2]
   exact ⟨rfl,rfl⟩
end Go.Proofs.YtbibnpdnmmgacaaGreatDoor
namespace Go.Proofs.YtbibnpdnmmgacaaGreatDoor
open Go.Sx Go.RowKit
theorem Lh (w:World) (u v:Value) (a b:bB) (hu:oD (fun _=>False) w u a) (hv:oD (fun _=>False) w v b):aK Tryz.prog 84 [u,v] w (fun r o=>r = .int .i64 (jB a b)∧o=[]):=by
 have I1:=hu
 have IP:=hv
 obtain ⟨aF,aN,rfl,zV,I9⟩:=hu
 obtain ⟨bF,bN,rfl,zU,I7⟩:=hv
 have Ck:=zV
 have Cj:=zU
 have Rs:=I9
 have Rn:=I7
 obtain ⟨ra,TP,Rr,Ee⟩:=I9
 obtain ⟨rb,Ms,Rm,Ed⟩:=I7
 unfold lQ at zV zU
 have m1:=zV.le
 have m2:=zU.le
 refine aC Tryz.func84 rfl (aT rfl) ?_
 refine .sr fun _ bl=>?_
 refine .cS (E:=32) (cs:=[.int .i64 a.L,.int .i64 a.s,aF,aN]) rfl rfl rfl trivial rfl (fun eu=>?_)
 refine .cS (E:=32) (cs:=[.int .i64 b.L,.int .i64 b.s,bF,bN]) rfl rfl rfl trivial rfl (fun ga=>?_)
 refine .as rfl (.nt bl ?_)
 refine .seq fun _ bg=>?_
 refine .sr fun _ bW=>?_
 refine .v (.ak eZ rfl ax rfl rfl) ?_
 refine .call HF rfl (fun w hw=>jN w _ a (I1.at hw)) trivial rfl ?_
 rintro r o ⟨rfl,rfl⟩
 refine .as rfl (.nt bW ?_)
 refine .sr fun _ cr=>?_
 refine .mv rfl (.v (.neq rfl rfl) (.nt cr ?_))
 refine .df rfl (fun bx=>?_) (fun bx=>?_)
 ·refine .sr fun _ cJ=>?_
  refine .mv rfl (.as rfl (.nt cJ (.ret (.ae ?_))))
  refine .aG rfl rfl (fun w hw=>⟨_,_,?_,rfl,.of (hw.pk [])⟩)
  refine ⟨congrArg (Value.int .i64) ?_,rfl⟩
  unfold jB
  rw [if_pos bx]
 ·refine .skip ?_
  refine .ab (bg _ ?_)
  refine .seq fun _ cU=>?_
  refine .sr fun _ c7=>?_
  refine .v (.ak eZ rfl ax rfl rfl) ?_
  refine .call HF rfl (fun w hw=>jN w _ b (IP.at hw)) trivial rfl ?_
  rintro r o ⟨rfl,rfl⟩
  refine .as rfl (.nt c7 ?_)
  refine .sr fun _ dm=>?_
  refine .mv rfl (.v (.neq rfl rfl) (.nt dm ?_))
  refine .df rfl (fun cB=>?_) (fun cB=>?_)
  ·refine .sr fun _ dD=>?_
   refine .mv rfl (.as rfl (.nt dD (.ret (.ae ?_))))
   refine .aG rfl rfl (fun w hw=>⟨_,_,?_,rfl,.of (hw.pk [])⟩)
   refine ⟨congrArg (Value.int .i64) ?_,rfl⟩
   unfold jB
   rw [if_neg (by omega),if_pos cB]
  ·refine .skip ?_
   refine .ab (cU _ ?_)
   refine .seq fun _ bJ=>?_
   refine .sr fun _ bP=>?_
   refine .v (.fieldAddr kn rfl) (.v (.aa cQ rfl ax rfl) (.v (.fieldAddr kn rfl) (.v (.aa cQ rfl ax rfl) (.v (.neq rfl rfl) (.nt bP ?_)))))
   refine .df rfl (fun cZ=>?_) (fun cZ=>?_)
   ·refine .sr fun _ ct=>?_
    refine .as rfl (.nt ct (.ret (.ae ?_)))
    refine .aG rfl rfl (fun w hw=>⟨_,_,?_,rfl,.of (hw.pk [])⟩)
    refine ⟨congrArg (Value.int .i64) ?_,rfl⟩
    unfold jB
    rw [if_neg (by omega),if_neg (by omega),if_pos cZ]
   ·refine .skip ?_
    refine .ab (bJ _ ?_)
    refine .sr fun _ cK=>?_
    refine .as rfl (.nt cK (.ret ?_))
    refine .aG rfl rfl (fun w hw=>⟨_,_,?_,rfl,.of (hw.pk [])⟩)
    refine ⟨congrArg (Value.int .i64) ?_,rfl⟩
    unfold jB
    rw [if_neg (by omega),if_neg (by omega),if_neg (by omega)]
theorem NV (w:World) (p q:Int) (b2 b3:Nat) (a b:bB) (aF aN bF bN:Value) (h2:qL w b2 [.int .i64 a.L,.int .i64 a.s,aF,aN]) (h3:qL w b3 [.int .i64 b.L,.int .i64 b.s,bF,bN]) (Ck:lQ (fun _=>False) Value.bool w aF a.fin) (Cj:lQ (fun _=>False) Value.bool w bF b.fin) (hp:na a p) (hq:na b q):aK Tryz.prog 87 [.int .i64 p,.int .i64 q,.pointer (some ⟨b2,0,none⟩),.pointer (some ⟨b3,0,none⟩)] w (fun r o=>r = .bool (c9 a p != c9 b q)∧o=[]):=by
 have zV:=Ck
 have zU:=Cj
 unfold lQ at zV zU
 have yO:=hp.1
 have MK:=hp.2
 have QA:=hq.1
 have I2:=hq.2
 refine aC Tryz.func87 rfl (aT rfl) ?_
 refine .sr fun _ bl=>?_
 refine .as rfl (.nt bl ?_)
 refine .seq fun _ bg=>?_
 refine .quiet mixed cx ?_
 refine .v (.fieldAddr dp rfl) (.v (.aa jx rfl ax rfl) (.mv rfl (.v (.iK gf rfl rfl) ?_)))
 refine .v (.oK vk rfl a8 (by omega)) ?_
 refine .v (.fieldAddr dp rfl) (.v (.aa jx rfl ax rfl) (.mv rfl (.v (.iK gf rfl rfl) ?_)))
 refine .v (.oK vk rfl a8 (by omega)) ?_
 refine .v (.Q1 T8 rfl rfl) (.as rfl (.nil (QK.fin ?_)))
 refine .ab (bg _ ?_)
 refine .ret ?_
 refine .aG rfl rfl (fun w hw=>⟨_,_,?_,rfl,.of (hw.pk [])⟩)
 exact ⟨rfl,rfl⟩
end Go.Proofs.YtbibnpdnmmgacaaGreatDoor
namespace Go.Proofs.YtbibnpdnmmgacaaGreatDoor
open Go.Sx Go.RowKit Go.Sx.Pt
set_option maxHeartbeats 400000 in
theorem Km (w:World) (u v:Value) (a b:bB) (hu:oD (fun _=>False) w u a) (hv:oD (fun _=>False) w v b):aK Tryz.prog 32 [u,v] w (fun r o=>∃ pv,r = .tuple #[pv,sv (J7 a b),.bool (n9 a b),.int .i64 (jB a b)]∧aB pv∧o=[row pv 3 1 (yZ a b).length ((yZ a b).map (Value.int .i64))]):=by
 have I1:=hu
 have IP:=hv
 obtain ⟨aF,aN,rfl,zV,I9⟩:=hu
 obtain ⟨bF,bN,rfl,zU,I7⟩:=hv
 have Ck:=zV
 have Cj:=zU
 have Rs:=I9
 have Rn:=I7
 obtain ⟨ra,TP,Rr,Ee⟩:=I9
 obtain ⟨rb,Ms,Rm,Ed⟩:=I7
 unfold lQ at zV zU
 have m1:=zV.le
 have m2:=zU.le
 refine aC Tryz.func32 rfl (aT rfl) ?_
 refine .sr fun _ bl=>?_
 refine .cS (E:=32) (cs:=[.int .i64 a.L,.int .i64 a.s,aF,aN]) rfl rfl rfl trivial rfl (fun eu=>?_)
 refine .cS (E:=32) (cs:=[.int .i64 b.L,.int .i64 b.s,bF,bN]) rfl rfl rfl trivial rfl (fun ga=>?_)
 refine .as rfl (.as rfl (.as rfl (.as rfl (.nt bl ?_))))
 refine .seq fun _ bg=>?_
 refine .sr fun _ bW=>?_
 refine .v (.ak eZ rfl ax rfl rfl) (.v (.ak eZ rfl ax rfl rfl) ?_)
 refine .call aaf rfl (fun w hw=>Lh w _ _ a b (I1.at hw) (IP.at hw)) trivial rfl ?_
 rintro r o ⟨rfl,rfl⟩
 refine .as rfl (.nt bW ?_)
 refine .sr fun _ cr=>?_
 refine .mv rfl (.v (.neq rfl rfl) (.nt cr ?_))
 refine .df rfl (fun bx=>?_) (fun bx=>?_)
 ·have hE:jB a b ≠ 0:=by omega
  refine .sr fun _ cJ=>?_
  refine .mv rfl (.as rfl (.as rfl (.as rfl (.as rfl (.nt cJ (.ret (.ae ?_)))))))
  refine .ghost 3 1 ?_
  refine .cO [.tmp 4,.tmp 5,.tmp 6,.tmp 7] rfl (.cons (.tmp rfl) (.cons (.tmp rfl) (.cons (.tmp rfl) (.cons (.tmp rfl) (.nil))))) (fun w hw=>⟨_,_,?_,rfl,.of (hw.pk [2])⟩)
  obtain ⟨e1,e2,e3⟩:=LY hE
  rw [e1,e2,e3]
  exact ⟨_,rfl,cq,rfl⟩
 ·have hE:jB a b=0:=by omega
  obtain ⟨ha,hb,hL⟩:=xK hE
  refine .skip ?_
  refine .ab (bg _ ?_)
  refine .seq fun _ cU=>?_
  refine .sr fun _ c7=>?_
  refine .v (.ak eZ rfl ax rfl rfl) (.v (.ak eZ rfl ax rfl rfl) ?_)
  refine .call aae rfl (fun w hw=>NH w _ _ a b (I1.at hw) (IP.at hw) ha hb hL) trivial rfl ?_
  rintro r o ⟨cv,TH,sm,rfl,Te,rfl,uG,dX⟩
  refine .mv rfl (.v (.extract rfl rfl) (.v (.extract rfl rfl) (.as rfl (.as rfl (.nt c7 ?_)))))
  refine .sr fun _ dm=>?_
  refine .mv rfl (.nt dm ?_)
  refine .cond rfl (fun cB=>?_) (fun cB=>?_)
  ·try simp only [bs] at cB
   refine .sr fun _ dD=>?_
   refine .mv rfl (.as rfl (.as rfl (.as rfl (.as rfl (.nt dD (.ret (.ae ?_)))))))
   refine .cO [.tmp 4,.tmp 5,.tmp 6,.tmp 7] rfl (.cons (.tmp rfl) (.cons (.tmp rfl) (.cons (.tmp rfl) (.cons (.tmp rfl) (.nil))))) (fun w hw=>⟨_,_,?_,rfl,.of (hw.pk [2])⟩)
   obtain ⟨Ur,rfl⟩:=uG cB
   have e1:n9 a b=true:=(xu hE).2 Ur
   have e0:(ql a b 6).2=false:=(Dh ha hb hL).2 Ur
   rw [(Bt hE).2,IC e0,hE,show yZ a b=nw a b from if_pos e1,e1]
   exact ⟨cv,rfl,Te,rfl⟩
  ·try simp only [bs] at cB
   refine .skip ?_
   refine .ab (cU _ ?_)
   refine .sr fun _ bJ=>?_
   refine .v (.ak eZ rfl ax rfl rfl) (.v (.ak eZ rfl ax rfl rfl) (.v (.makeFunc (first:=[]) (captured:=[.tmp 2,.tmp 3]) rfl rfl) ?_))
   refine .call aad rfl (fun w hw=>(by have h:=La w _ _ a b (I1.at hw) (IP.at hw) ha hb hL 87 [] [.pointer (some ⟨eu,0,none⟩),.pointer (some ⟨ga,0,none⟩)] (JA a b 6) aac (fun w' bI p hp=>by obtain ⟨i1,i2⟩:=iO.1 hp;rw [Vz];exact NV w' p.1 p.2 eu ga a b aF aN bF bN ((qL.own 0 hw rfl).fr bI) ((qL.own 1 hw rfl).fr bI) ((Ck.at hw).fr bI) ((Cj.at hw).fr bI) i1 i2);exact h)) trivial rfl ?_
   rintro r o ⟨rfl,rfl⟩
   refine .mv rfl (.v (.extract rfl rfl) (.v (.extract rfl rfl) (.as rfl (.as rfl (.nt bJ ?_)))))
   refine .sr fun _ bP=>?_
   refine .mv rfl (.as rfl (.as rfl (.as rfl (.as rfl (.nt bP (.ret ?_))))))
   refine .ghost 3 1 ?_
   refine .cO [.tmp 4,.tmp 5,.tmp 6,.tmp 7] rfl (.cons (.tmp rfl) (.cons (.tmp rfl) (.cons (.tmp rfl) (.cons (.tmp rfl) (.nil))))) (fun w hw=>⟨_,_,?_,rfl,.of (hw.pk [3])⟩)
   obtain ⟨Mu,_⟩:=dX cB
   have e1:n9 a b=false:=by
    cases e:n9 a b with
    | false=>rfl
    | true=>exact absurd ((xu hE).1 e) Mu
   rw [(Bt hE).2,hE,show yZ a b=[] from if_neg (by rw [e1];decide),e1]
   exact ⟨_,rfl,cq,rfl⟩
end Go.Proofs.YtbibnpdnmmgacaaGreatDoor
namespace Go.Sx
open Go.RowKit
def D5 (e:Ex) (d:bB):Prop:=VD d∧d.L=2∧∀ l:List UInt8,l.all (okB 2)=true→(c9 d (cV d d.s l)=true↔LE e l)
theorem Kb {e:Ex} {n:kc} {d:bB} (hv:VN n) (hL:n.L=2) (ha:∀ w,yB n w↔LE e w) (hd:Ni n.L n.L.toNat (fS n) n.st (gS n) d):D5 e d:=
 ⟨hd.vd,hd.L.trans hL,fun l hl=>by rw [hd.run l (by rw [hL];exact hl),Mj hv (by rw [hL];exact hl)];exact ha l⟩
theorem D5.Wu {e:Ex} {a b:bB} (ha:D5 e a) (hb:D5 e b):a.L=b.L∧v7 a b:=by
 have hL:=ha.2.1.trans hb.2.1.symm
 refine ⟨hL,fun l hl=>?_⟩
 have uI:l.all (okB 2)=true:=by rw [← ha.2.1];exact hl
 rw [Bool.eq_iff_iff,ha.2.2 l uI,hb.2.2 l uI]
theorem D5.min {e:Ex} {a b:bB} (ha:D5 e a) (hb:D5 e b):lF a=lF b:=by
 rw [show lF a=minD a from if_pos ha.1,show lF b=minD b from if_pos hb.1]
 obtain ⟨h1,h2⟩:=ha.Wu hb
 exact min_eq ha.1 hb.1 h1 h2
theorem D5.Yn {e:Ex} {a:bB} (ha:D5 e a):VD (lF a):=by
 rw [show lF a=minD a from if_pos ha.1];exact Sy ha.1
theorem D5.find {e:Ex} {a b:bB} (ha:D5 e a) (hb:D5 e b):jB a b=0∧Pt.n9 a b=true:=by
 obtain ⟨h1,h2⟩:=ha.Wu hb
 have h:=Pt.Lt ha.1 hb.1 h1
 exact ⟨h,(Pt.xu h).2 h2⟩
end Go.Sx
namespace Go.Proofs.YtbibnpdnmmgacaaGreatDoor
open Go.Sx Go.RowKit
end Go.Proofs.YtbibnpdnmmgacaaGreatDoor
namespace Go.Proofs.YtbibnpdnmmgacaaGreatDoor
open Go.Sx Go.RowKit
end Go.Proofs.YtbibnpdnmmgacaaGreatDoor
