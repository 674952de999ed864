import Derived.Test.YtbibnpdnmmgacaaGreatDoorJZb
import Derived.Test.YtbibnpdnmmgacaaGreatDoorJZe
import Derived.Test.YtbibnpdnmmgacaaGreatDoorJZc
import Derived.Test.YtbibnpdnmmgacaaGreatDoorJZd
set_option linter.unusedVariables false
set_option linter.unusedSimpArgs false
set_option maxRecDepth 100000
namespace Go.Sx
open Go.RowKit
inductive Ex where
 | mk (op lt:Int) (kids:List Ex)
def Ex.op:Ex→Int | .mk o _ _=>o
def Ex.lt:Ex→Int | .mk _ l _=>l
def Ex.kids:Ex→List Ex | .mk _ _ k=>k
instance:Inhabited Ex:=⟨.mk 0 0 []⟩
def e0:Ex:=.mk 0 0 []
def xcs (ks:List Ex) (ss:List Value):List Value:=(ks.zip ss).flatMap fun p=>[.int .i64 p.1.op,.int .i64 p.1.lt,p.2]
def nilV:Value:=.slice none 0 0
theorem xcs_length:∀ (ks:List Ex) (ss:List Value),ss.length=ks.length→(xcs ks ss).length=ks.length * 3
 | [],ss,_=>by simp [xcs]
 | k :: ks,[],h=>by simp at h
 | k :: ks,s :: ss,h=>by
  have:=xcs_length ks ss (by simpa using h)
  simp only [xcs,List.zip_cons_cons,List.flatMap_cons,List.length_append,List.length_cons,List.length_nil] at this ⊢
  omega
theorem xcs_append (ks ls:List Ex) (ss ts:List Value) (h:ss.length=ks.length):xcs (ks++ls) (ss++ts)=xcs ks ss++xcs ls ts:=by
 simp only [xcs]
 rw [List.zip_append h.symm,List.flatMap_append]
theorem xcs_cons (k:Ex) (ks:List Ex) (s:Value) (ss:List Value):xcs (k :: ks) (s :: ss) = .int .i64 k.op :: .int .i64 k.lt :: s :: xcs ks ss:=by
 simp [xcs]
theorem xcs_drop:∀ (i:Nat) (ks:List Ex) (ss:List Value),ss.length=ks.length→(xcs ks ss).drop (i * 3)=xcs (ks.drop i) (ss.drop i)
 | 0,ks,ss,_=>by simp
 | i+1,[],ss,h=>by cases ss <;> simp [xcs] at h ⊢
 | i+1,k :: ks,[],h=>by simp at h
 | i+1,k :: ks,s :: ss,h=>by
  rw [xcs_cons,show (i+1) * 3=i * 3+1+1+1 by omega]
  simp only [List.drop_succ_cons]
  exact (xcs_drop i ks ss (by simpa using h))
theorem xcs_take:∀ (i:Nat) (ks:List Ex) (ss:List Value),ss.length=ks.length→(xcs ks ss).take (i * 3)=xcs (ks.take i) (ss.take i)
 | 0,ks,ss,_=>by simp [xcs]
 | i+1,[],ss,h=>by cases ss <;> simp [xcs] at h ⊢
 | i+1,k :: ks,[],h=>by simp at h
 | i+1,k :: ks,s :: ss,h=>by
  rw [xcs_cons,show (i+1) * 3=i * 3+1+1+1 by omega]
  simp only [List.take_succ_cons,xcs_cons,xcs_take i ks ss (by simpa using h)]
theorem xcs_at (i:Nat) (ks:List Ex) (ss:List Value) (h:ss.length=ks.length) (hi:i<ks.length) :
  ((xcs ks ss).drop (i * 3)).take 3=[.int .i64 (ks.getD i default).op,.int .i64 (ks.getD i default).lt,ss.getD i undef]:=by
 rw [xcs_drop i ks ss h,List.drop_eq_getElem_cons hi,List.drop_eq_getElem_cons (by omega:i<ss.length),xcs_cons]
 simp [List.getD_eq_getElem?_getD,hi,h]
theorem xcs_set (i:Nat) (ks:List Ex) (ss:List Value) (h:ss.length=ks.length) (hi:i<ks.length) (e:Ex) (s:Value) :
  (xcs ks ss).take (i * 3)++[.int .i64 e.op,.int .i64 e.lt,s]++(xcs ks ss).drop (i * 3+3)=xcs (ks.set i e) (ss.set i s):=by
 rw [xcs_take i ks ss h,show i * 3+3=(i+1) * 3 by omega,xcs_drop (i+1) ks ss h]
 rw [List.set_eq_take_append_cons_drop,List.set_eq_take_append_cons_drop,if_pos hi,if_pos (by omega)]
 rw [xcs_append _ _ _ _ (by simp [h]),xcs_cons]
 simp
theorem xcs_rep (n:Nat):xcs (List.replicate n e0) (List.replicate n nilV)=(List.replicate n [Value.int .i64 0,.int .i64 0,nilV]).flatten:=by
 induction n with
 | zero=>simp [xcs]
 | succ n ih=>rw [List.replicate_succ,List.replicate_succ,xcs_cons,ih,List.replicate_succ];rfl
abbrev Cell:=Addr→Value→Prop
def Rdx (R:Cell) (v:Value) (sz n:Nat) (cs:List Value):Prop:=
 ∃ oa cap,v = .slice oa n cap∧n≤cap∧n≤maxLen∧cs.length=n * sz∧(0<n→0<sz→oa.isSome)∧∀ a j u,oa=some a→cs[j]? = some u→R (a.add j) u
theorem Rdx.mono {R R':Cell} {v:Value} {sz n:Nat} {cs:List Value} (h:Rdx R v sz n cs) (hR:∀ a u,R a u→R' a u):Rdx R' v sz n cs:=by
 obtain ⟨oa,cap,h1,h2,h3,h4,h5,h6⟩:=h
 exact ⟨oa,cap,h1,h2,h3,h4,h5,fun a j u ha hj=>hR _ _ (h6 a j u ha hj)⟩
theorem Rdx.sl {R:Cell} {v:Value} {sz n:Nat} {cs:List Value} (h:Rdx R v sz n cs):IsSl v:=by
 obtain ⟨oa,cap,h1,_⟩:=h;exact ⟨_,_,_,h1⟩
inductive RdK (R:Cell):Value→List Ex→Prop
 | mk (s:Value) (ss:List Value) (ks:List Ex):ss.length=ks.length→Rdx R s 3 ks.length (xcs ks ss)→(∀ i,i<ks.length→RdK R (ss.getD i undef) (ks.getD i default).kids)→RdK R s ks
theorem RdK.inv {R:Cell} {s:Value} {ks:List Ex} (h:RdK R s ks):∃ ss:List Value,ss.length=ks.length∧Rdx R s 3 ks.length (xcs ks ss)∧∀ i,i<ks.length→RdK R (ss.getD i undef) (ks.getD i default).kids:=by
 cases h with
 | mk s ss ks h1 h2 h3=>exact ⟨ss,h1,h2,h3⟩
theorem RdK.mono {R R':Cell} (hR:∀ a u,R a u→R' a u) {s:Value} {ks:List Ex} (h:RdK R s ks):RdK R' s ks:=by
 induction h with
 | mk s ss ks h1 h2 h3 ih=>exact .mk s ss ks h1 (h2.mono hR) ih
theorem RdK.sl {R:Cell} {s:Value} {ks:List Ex} (h:RdK R s ks):IsSl s:=by
 obtain ⟨ss,_,h,_⟩:=h.inv;exact h.sl
theorem RdK.nil (R:Cell):RdK R nilV []:=.mk nilV [] [] rfl ⟨none,0,rfl,Nat.le_refl _,by simp [maxLen],rfl,fun h=>absurd h (by simp),fun a j u h=>by cases h⟩ (fun i h=>by simp at h)
def cellR (F:Nat→Prop) (w:World):Cell:=fun a u=>¬ F a.block∧w.cell? a=some u
theorem add_block (a:Addr) (j:Nat):(a.add j).block=a.block:=by unfold Addr.add;split <;> rfl
theorem Rdx.rd {F:Nat→Prop} {w:World} {v:Value} {sz n:Nat} {cs:List Value} (h:Rdx (cellR F w) v sz n cs):Rd (fun b=>¬ F b) w v sz n cs:=by
 obtain ⟨oa,cap,h1,_,h3,h4,h5,h6⟩:=h
 exact ⟨oa,cap,h1,h3,h4,h5,fun a j u ha hj=>by have:=h6 a j u ha hj;exact ⟨by have:=this.1;rwa [add_block] at this,this.2⟩⟩
theorem Rdx.cut {R:Cell} {v:Value} {sz n:Nat} {cs:List Value} (h:Rdx R v sz n cs):∃ ao c,v = .slice ao n c∧n≤c:=by
 obtain ⟨oa,cap,h1,h2,_⟩:=h;exact ⟨oa,cap,h1,h2⟩
theorem cellR_at {C:Cx} {own:List Asn} {w:World} (hw:HW C own w) (a:Addr) (u:Value) (h:cellR C.S C.W0 a u):cellR (fun _=>False) w a u:=by
 refine ⟨id,?_⟩
 have hlt:=World.block_lt_of_cell? _ _ h.2
 rw [World.cell?_of_block (w:=C.W0) (w':=w) (hw.frame.block _ hlt h.1)];exact h.2
theorem RdK.at {C:Cx} {own:List Asn} {w:World} {s:Value} {ks:List Ex} (h:RdK (cellR C.S C.W0) s ks) (hw:HW C own w):RdK (cellR (fun _=>False) w) s ks:=h.mono (cellR_at hw)
theorem cellR_atN {C:Cx} {w:World} {Fs:Nat→Nat→Prop} (hfr:FrameX C.S C.W0 w) (hal:∀ k b,Fs k b→C.W0.heap.size≤b∨C.S b) (j:Nat) (a:Addr) (u:Value) (h:cellR C.S C.W0 a u):cellR (Fs j) w a u:=by
 have hlt:=World.block_lt_of_cell? _ _ h.2
 refine ⟨fun hb=>?_,?_⟩
 ·rcases hal j _ hb with h1 | h1
  ·omega
  ·exact h.1 h1
 ·rw [World.cell?_of_block (w:=C.W0) (w':=w) (hfr.block _ hlt h.1)];exact h.2
theorem RdK.atN {C:Cx} {w:World} {Fs:Nat→Nat→Prop} {s:Value} {ks:List Ex} (h:RdK (cellR C.S C.W0) s ks) (hfr:FrameX C.S C.W0 w) (hal:∀ k b,Fs k b→C.W0.heap.size≤b∨C.S b) (j:Nat):RdK (cellR (Fs j) w) s ks:=h.mono (cellR_atN hfr hal j)
inductive Itm where
 | deep (s:Value) (ks:List Ex)
 | row (s:Value) (n:Nat) (cs:List Value)
def Itm.ok (R:Cell):Itm→Prop
 | .deep s ks=>RdK R s ks
 | .row s n cs=>Rdx R s 3 n cs
theorem Itm.ok_mono {R R':Cell} (hR:∀ a u,R a u→R' a u) {x:Itm} (h:x.ok R):x.ok R':=by
 cases x with
 | deep s ks=>exact RdK.mono hR h
 | row s n cs=>exact Rdx.mono h hR
structure Bs where
 W:World
 G:Nat→Prop
def cellF (B:Bs) (F:Nat→Prop) (w:World):Cell:=fun a u=>(F a.block∧w.cell? a=some u)∨(B.G a.block∧B.W.cell? a=some u)
def forest (B:Bs) (l:List Itm):Asn where
 holds w F:=(∀ x∈l,x.ok (cellF B F w))∧∀ b,F b→b<w.heap.size
 loc:=by
  rintro w w' F ⟨h1,h2⟩ hb
  refine ⟨fun x hx=>Itm.ok_mono (fun a u hu=>?_) (h1 x hx),fun b hF=>?_⟩
  ·rcases hu with ⟨hF,hc⟩ | hu
   ·exact .inl ⟨hF,by rw [World.cell?_of_block (w:=w) (w':=w') (hb _ hF)];exact hc⟩
   ·exact .inr hu
  ·have h:=h2 b hF
   have e:=hb b hF
   rw [Array.getElem?_eq_getElem h] at e
   exact (Array.getElem?_eq_some_iff.1 e).1
 lt:=fun w F h b hb=>h.2 b hb
def BsOk (B:Bs) (w:World) (F:Nat→Prop):Prop:=∀ b,B.G b→¬ F b∧w.heap[b]? = B.W.heap[b]?∧b<w.heap.size
theorem BsOk.later {B:Bs} {C:Cx} {w:World} {Fs:Nat→Nat→Prop} (h:BsOk B C.W0 C.S) (hfr:FrameX C.S C.W0 w) (hal:∀ k b,Fs k b→C.W0.heap.size≤b∨C.S b) (j:Nat):BsOk B w (Fs j):=fun b hb=>by
 obtain ⟨h1,h2,h3⟩:=h b hb
 refine ⟨fun hF=>?_,(hfr.block b h3 h1).trans h2,Nat.lt_of_lt_of_le h3 hfr.size⟩
 rcases hal j b hF with h4 | h4
 ·omega
 ·exact h1 h4
theorem BsOk.at {B:Bs} {C:Cx} {own:List Asn} {w:World} (h:BsOk B C.W0 C.S) (hw:HW C own w):BsOk B w (fun _=>False):=fun b hb=>by
 obtain ⟨h1,h2,h3⟩:=h b hb
 exact ⟨id,(hw.frame.block b h3 h1).trans h2,Nat.lt_of_lt_of_le h3 hw.frame.size⟩
theorem cellF_R {B:Bs} {F F':Nat→Prop} {w:World} (hB:BsOk B w F') (hd:∀ b,F b→¬ F' b) (a:Addr) (u:Value) (h:cellF B F w a u):cellR F' w a u:=by
 rcases h with ⟨h1,h2⟩ | ⟨h1,h2⟩
 ·exact ⟨hd _ h1,h2⟩
 ·obtain ⟨h3,h4,h5⟩:=hB _ h1
  exact ⟨h3,by rw [World.cell?_of_block (w:=B.W) (w':=w) h4];exact h2⟩
section
variable {C : Cx} {own : List Asn} {B : Bs} {l : List Itm} {sl : List (Nat × Value)} {K : Act → World → Prop}
theorem HW.itm (hB:BsOk B C.W0 C.S) (i:Nat) (hi:own[i]? = some (forest B l)) {x:Itm} (hx:x∈l) {w:World} (hw:HW C own w):x.ok (cellR (fun _=>False) w):=by
 obtain ⟨hf,Fs,hh,hal⟩:=hw
 exact Itm.ok_mono (cellF_R (hB.at ⟨hf,Fs,hh,hal⟩) (fun _ _=>id)) ((hh.at_ i _ hi).1 x hx)
theorem HeapAt.itm {w:World} {Fs:Nat→Nat→Prop} (hB:BsOk B C.W0 C.S) (i j:Nat) (hij:i ≠ j) (hi:own[i]? = some (forest B l)) {x:Itm} (hx:x∈l) (hh:HeapAt own Fs w) (hfr:FrameX C.S C.W0 w) (hal:∀ k b,Fs k b→C.W0.heap.size≤b∨C.S b):x.ok (cellR (Fs j) w):=
 Itm.ok_mono (cellF_R (hB.later hfr hal j) (fun b h1 h2=>hij (hh.apart i j b h1 h2))) ((hh.at_ i _ hi).1 x hx)
theorem RdS.tree (hB:BsOk B C.W0 C.S) (i:Nat) (hi:own[i]? = some (forest B l)) {s:Value} {n:Nat} {cs:List Value} (hx:Itm.row s n cs∈l):RdS C own s 3 n cs:=fun w hw=>by
 have h:Rdx _ s 3 n cs:=HW.itm hB i hi hx hw
 exact h.rd.mono (fun b _ _=>⟨trivial,rfl⟩)
theorem CutS.tree (hB:BsOk B C.W0 C.S) (i:Nat) (hi:own[i]? = some (forest B l)) {s:Value} {n:Nat} {cs:List Value} (hx:Itm.row s n cs∈l):CutS C own s n:=fun w hw=>by
 have h:Rdx _ s 3 n cs:=HW.itm hB i hi hx hw
 exact h.cut
theorem HW.forestLe (i:Nat) {l':List Itm} (hi:own[i]? = some (forest B l)) (hl:∀ x∈l',x∈l) {w:World} (hw:HW C own w):HW C (own.set i (forest B l')) w:=
 HW.elem i hi (fun F hF=>show (forest B l').holds _ F from ⟨fun x hx=>hF.1 x (hl x hx),hF.2⟩) hw
theorem AK.forestAdd (i:Nat) (x:Itm) (hi:own[i]? = some (forest B l)) (hx:∀ R,x.ok R) (h:AK C ⟨sl,own.set i (forest B (x :: l))⟩ K):AK C ⟨sl,own⟩ K:=
 AK.own' _ (fun w hw=>HW.elem i hi (fun F hF=>show (forest B (x :: l)).holds _ F from ⟨fun y hy=>by rcases List.mem_cons.1 hy with rfl | hy;exact hx _;exact hF.1 y hy,hF.2⟩) hw) h
theorem AK.forestSl (i:Nat) {s:Value} {ks:List Ex} (hi:own[i]? = some (forest B l)) (hx:.deep s ks∈l) (h:IsSl s→AK C ⟨sl,own⟩ K):AK C ⟨sl,own⟩ K:=
 AK.fact (p:=IsSl s) (fun w hw=>by
  obtain ⟨hf,Fs,hh,hal⟩:=hw
  have:RdK _ s ks:=(hh.at_ i _ hi).1 _ hx
  exact this.sl) h
def kit (ks:List Ex) (ss:List Value):List Itm:=(ks.zip ss).map fun p=>.deep p.2 p.1.kids
theorem kit_mem {ks:List Ex} {ss:List Value} (h:ss.length=ks.length) {i:Nat} (hi:i<ks.length):Itm.deep (ss.getD i undef) (ks.getD i default).kids∈kit ks ss:=by
 refine List.mem_map.2 ⟨(ks.getD i default,ss.getD i undef),?_,rfl⟩
 have h1:(ks.zip ss)[i]? = some (ks[i],ss[i]):=by simp [List.getElem?_zip_eq_some,hi,h]
 have:=List.mem_of_getElem? h1
 simpa [List.getD_eq_getElem?_getD,hi,h] using this
theorem mem_kit {ks:List Ex} {ss:List Value} (h:ss.length=ks.length) {x:Itm} (hx:x∈kit ks ss):∃ i,i<ks.length∧x = .deep (ss.getD i undef) (ks.getD i default).kids:=by
 obtain ⟨p,hp,rfl⟩:=List.mem_map.1 hx
 obtain ⟨i,hi⟩:=List.mem_iff_getElem?.1 hp
 rw [List.getElem?_zip_eq_some] at hi
 obtain ⟨h1,h2⟩:=hi
 have hl:=(List.getElem?_eq_some_iff.1 h1).1
 exact ⟨i,hl,by simp [List.getD_eq_getElem?_getD,h1,h2]⟩
theorem AK.openT (i:Nat) {s:Value} {ks:List Ex} (hi:own[i]? = some (forest B l)) (hm:.deep s ks∈l)
  (h:∀ ss:List Value,ss.length=ks.length→IsSl s→(∀ k,k<ks.length→IsSl (ss.getD k undef))→ks.length≤maxLen→AK C ⟨sl,own.set i (forest B (.row s ks.length (xcs ks ss) :: (kit ks ss++l)))⟩ K):AK C ⟨sl,own⟩ K:=by
 intro a w hs
 obtain ⟨hf,Fs,hh,hal⟩:=hs.world
 have hA:=hh.at_ i _ hi
 have h0:RdK _ s ks:=hA.1 _ hm
 obtain ⟨ss,h1,h2,h3⟩:=h0.inv
 refine h ss h1 h0.sl (fun k hk=>(h3 k hk).sl) (by obtain ⟨_,_,_,_,h,_⟩:=h2;exact h) a w ⟨hs.size,hs.defers,hs.slot,?_⟩
 refine ⟨hf,Fs,⟨fun k A hk=>?_,fun k hk b hb=>hh.out k (by simpa using hk) b hb,hh.apart⟩,hal⟩
 by_cases hki:i=k
 ·subst hki
  have hlt:=(List.getElem?_eq_some_iff.1 hi).1
  simp [hlt] at hk
  subst hk
  refine ⟨fun x hx=>?_,hA.2⟩
  rcases List.mem_cons.1 hx with rfl | hx
  ·exact h2
  ·rcases List.mem_append.1 hx with hx | hx
   ·obtain ⟨k,hk,rfl⟩:=mem_kit h1 hx
    exact h3 k hk
   ·exact hA.1 x hx
 ·rw [List.getElem?_set_ne hki] at hk;exact hh.at_ k A hk
theorem HW.closeT (i j:Nat) {s:Value} {E:TypeId} {ks:List Ex} {ss:List Value} (hij:i ≠ j) (hi:own[i]? = some (forest B l)) (hj:own[j]? = some (row s E 3 ks.length (xcs ks ss))) (hl:ss.length=ks.length)
  (hk:∀ k,k<ks.length→Itm.deep (ss.getD k undef) (ks.getD k default).kids∈l) {w:World} (hw:HW C own w):HW C ((own.set j empA).set i (forest B (.deep s ks :: .row s ks.length (xcs ks ss) :: l))) w:=by
 obtain ⟨hf,Fs,hh,hal⟩:=hw
 have hA:=hh.at_ i _ hi
 have hR:=hh.at_ j _ hj
 have hjl:=(List.getElem?_eq_some_iff.1 hj).1
 have hil:=(List.getElem?_eq_some_iff.1 hi).1
 refine ⟨hf,fun k b=>if k=i then Fs i b∨Fs j b else if k=j then False else Fs k b,⟨?_,?_,?_⟩,?_⟩
 ·intro k A hkA
  by_cases hki:k=i
  ·subst hki
   simp [hil] at hkA
   subst hkA
   simp only [if_true]
   have hcr:Rdx (cellF B (fun b=>Fs k b∨Fs j b) w) s 3 ks.length (xcs ks ss):=by
    obtain ⟨hown,hF⟩:=hR
    rcases hown.2 with ⟨rfl,h0⟩ | ⟨gb,cap,cur,rfl,hg,hb,hnc,hcm,r⟩
    ·exact ⟨none,0,by rw [h0],by omega,by simp [maxLen];omega,hown.1,fun h=>by omega,fun a j u ha=>by cases ha⟩
    ·refine ⟨_,cap,rfl,hnc,Nat.le_trans hnc hcm,hown.1,fun _ _=>rfl,fun a m u ha hm=>?_⟩
     cases ha
     have hlt:m<ks.length * 3:=by rw [← hown.1];exact (List.getElem?_eq_some_iff.1 hm).1
     have:=hown.cellAt m hlt
     refine .inl ⟨.inr ((hF _).2 (by rw [add_block];rfl)),?_⟩
     simpa [Addr.add_lit] using this.trans hm
   have hmono:∀ a u,cellF B (Fs k) w a u→cellF B (fun b=>Fs k b∨Fs j b) w a u:=fun a u h=>by
    rcases h with ⟨h1,h2⟩ | h
    ·exact .inl ⟨.inl h1,h2⟩
    ·exact .inr h
   refine ⟨fun x hx=>?_,fun b hb=>by rcases hb with hb | hb <;> exact hh.lt hb⟩
   rcases List.mem_cons.1 hx with rfl | hx
   ·exact .mk s ss ks hl hcr (fun m hm=>(show Itm.ok _ (.deep _ _) from Itm.ok_mono hmono (hA.1 _ (hk m hm))))
   ·rcases List.mem_cons.1 hx with rfl | hx
    ·exact hcr
    ·exact Itm.ok_mono hmono (hA.1 x hx)
  ·rw [List.getElem?_set_ne (Ne.symm hki)] at hkA
   by_cases hkj:k=j
   ·subst hkj
    simp [hjl] at hkA
    subst hkA
    simp only [hki,if_false,if_true]
    intro b hb;exact hb
   ·rw [List.getElem?_set_ne (Ne.symm hkj)] at hkA
    simp only [hki,hkj,if_false]
    exact hh.at_ k A hkA
 ·intro k hk b hb
  simp at hk
  simp only [show k ≠ i by omega,show k ≠ j by omega,if_false] at hb
  exact hh.out k hk b hb
 ·have key:∀ k b,(if k=i then Fs i b∨Fs j b else if k=j then False else Fs k b)→∃ m,Fs m b∧(k=i∧(m=i∨m=j)∨k ≠ i∧k ≠ j∧m=k):=fun k b h=>by
   split at h
   ·rename_i e
    rcases h with h | h
    ·exact ⟨i,h,.inl ⟨e,.inl rfl⟩⟩
    ·exact ⟨j,h,.inl ⟨e,.inr rfl⟩⟩
   ·rename_i e
    split at h
    ·exact h.elim
    ·rename_i e2;exact ⟨k,h,.inr ⟨e,e2,rfl⟩⟩
  intro k m b h1 h2
  obtain ⟨x,hx,h3⟩:=key k b h1
  obtain ⟨y,hy,h4⟩:=key m b h2
  have:=hh.apart x y b hx hy
  omega
 ·intro k b hb
  split at hb
  ·rcases hb with hb | hb <;> exact hal _ b hb
  ·split at hb
   ·exact hb.elim
   ·exact hal _ b hb
theorem AK.closeT (i j:Nat) {s:Value} {E:TypeId} {ks:List Ex} {ss:List Value} (hij:i ≠ j) (hi:own[i]? = some (forest B l)) (hj:own[j]? = some (row s E 3 ks.length (xcs ks ss))) (hl:ss.length=ks.length)
  (hk:∀ k,k<ks.length→Itm.deep (ss.getD k undef) (ks.getD k default).kids∈l) (h:AK C ⟨sl,(own.set j empA).set i (forest B (.deep s ks :: .row s ks.length (xcs ks ss) :: l))⟩ K):AK C ⟨sl,own⟩ K:=
 AK.own' _ (fun w hw=>hw.closeT i j hij hi hj hl hk) h
theorem HW.newForest (B:Bs) {w:World} (h:HW C own w):HW C (own++[forest B []]) w:=
 h.push (FrameX.refl _ w) (HeapAt.one (F:=fun _=>False) (show (forest B []).holds w (fun _=>False) from ⟨fun x hx=>(by cases hx),fun b hb=>hb.elim⟩)) (fun j b hb=>hb.2.elim)
theorem AK.newForest (B:Bs) (h:AK C ⟨sl,own++[forest B []]⟩ K):AK C ⟨sl,own⟩ K:=AK.own' _ (fun w hw=>hw.newForest B) h
end
section
variable {C : Cx} {sl : List (Nat × Value)} {own : List Asn} {ops : Array Oper} {Q : Exit → Act → World → Prop} {d : Nat} {dst : Option Nat} {ty : TypeId} {pos : String} {aft : Array Edge} {g : Option (Nat × Bool)} {rest : List Oper}
theorem Yl.loadE {x:Operand} {t:TypeId} {v:Value} {n j:Nat} {ks:List Ex} {ss:List Value} (ht:AggT C.P t 3) (hx:opv ⟨sl,own⟩ x=some (.pointer (some ((slA v).add (j * 3)))))
  (hr:RdS C own v 3 n (xcs ks ss)) (hl:ss.length=ks.length) (hn:n=ks.length) (hj:j<n):Yl C ⟨sl,own⟩ ⟨dst,.load t x,ty,pos,aft,g⟩ (.agg #[.int .i64 (ks.getD j default).op,.int .i64 (ks.getD j default).lt,ss.getD j undef]):=by
 have:=Yl.loadG (dst:=dst) (ty:=ty) (pos:=pos) (aft:=aft) (g:=g) ht hx hr hj
 rw [xcs_at j ks ss hl (by omega)] at this
 exact this
theorem madeCells_ecs (n:Nat):(madeCells (Value.agg #[.int .i64 0,.int .i64 0,.slice none 0 0]).cells (n * 3)).toList=xcs (List.replicate n e0) (List.replicate n nilV):=by
 rw [xcs_rep]
 unfold madeCells
 simp only [Value.cells]
 apply List.ext_getElem?
 intro i
 induction n generalizing i with
 | zero=>simp
 | succ n ih=>
  have h1:(List.range ((n+1) * 3))=[0,1,2]++(List.range (n * 3)).map (· + 3):=by
   rw [show (n+1) * 3=3+n * 3 by omega,List.range_add]
   congr 1
   apply List.map_congr_left;intro a _;omega
  simp only [Array.toList_map,Array.toList_range] at ih ⊢
  rw [h1]
  simp only [List.map_append,List.map_map,List.replicate_succ,List.flatten_cons]
  rcases Nat.lt_or_ge i 3 with hi | hi
  ·rw [List.getElem?_append_left (by simpa using hi),List.getElem?_append_left (by simpa using hi)]
   have:i=0∨i=1∨i=2:=by omega
   rcases this with rfl | rfl | rfl <;> rfl
  ·rw [List.getElem?_append_right (by simpa using hi),List.getElem?_append_right (by simpa using hi)]
   have:=ih (i - 3)
   simp only [List.length_map,List.length_cons,List.length_nil] at this ⊢
   rw [← this]
   congr 1
   apply List.map_congr_left
   intro a _
   simp
theorem AK.makeE {d:Nat} {t E:TypeId} {l c:Operand} {s' by_:Nat} {n:Nat} (ht:SlT C.P t E 3) (hE:ElT C.P E (.agg #[.int .i64 0,.int .i64 0,.slice none 0 0]) s' by_) (hl:opv ⟨sl,own⟩ l=some (.int .i64 (n:Int))) (hc:opv ⟨sl,own⟩ c=some (.int .i64 (n:Int)))
  (hb:by_ * n≤281474976710656) (hm:n≤9223372036854775807) (hg:Grd ops sl g) (hd:Nat.blt d C.N=true)
  (h:∀ v,AK C ⟨(d,v) :: sl,own++[row v E 3 n (xcs (List.replicate n e0) (List.replicate n nilV))]⟩ (wpList C.P ops Q rest)) :
  AK C ⟨sl,own⟩ (wpList C.P ops Q (⟨some d,.makeSlice t l c,ty,pos,aft,g⟩ :: rest)):=
 AK.make ht hE hl hc hb hm hg hd (fun v=>by rw [madeCells_ecs];exact h v)
end
theorem one'_ecs:∀ (ks:List Ex) (ss:List Value),(∀ s∈ss,IsSl s)→one' (xcs ks ss)
 | [],_,_=>by intro u hu;simp [xcs] at hu
 | k :: ks,[],_=>by intro u hu;simp [xcs] at hu
 | k :: ks,s :: ss,h=>by
  rw [xcs_cons]
  exact one'_cons rfl (one'_cons rfl (one'_cons (IsSl.one (h s List.mem_cons_self)) (one'_ecs ks ss fun u hu=>h u (List.mem_cons_of_mem _ hu))))
theorem all_getD {p:Value→Prop} {ss:List Value} (h:∀ k,k<ss.length→p (ss.getD k undef)):∀ s∈ss,p s:=fun s hs=>by
 obtain ⟨i,hi⟩:=List.mem_iff_getElem?.1 hs
 have hl:=(List.getElem?_eq_some_iff.1 hi).1
 have:=h i hl
 simpa [List.getD_eq_getElem?_getD,hi] using this
theorem xcs_snoc (ks:List Ex) (ss:List Value) (e:Ex) (s:Value) (h:ss.length=ks.length):xcs ks ss++[.int .i64 e.op,.int .i64 e.lt,s]=xcs (ks++[e]) (ss++[s]):=by
 rw [xcs_append _ _ _ _ h];rfl
theorem cellR_fr {F:Nat→Prop} {w w':World} (hf:FrameX F w w') (a:Addr) (u:Value) (h:cellR F w a u):cellR F w' a u:=by
 have hlt:=World.block_lt_of_cell? _ _ h.2
 exact ⟨h.1,by rw [World.cell?_of_block (w:=w) (w':=w') (hf.block _ hlt h.1)];exact h.2⟩
theorem RdK.fr {F:Nat→Prop} {w w':World} {s:Value} {ks:List Ex} (h:RdK (cellR F w) s ks) (hf:FrameX F w w'):RdK (cellR F w') s ks:=h.mono (cellR_fr hf)
theorem RdK.wk {F:Nat→Prop} {w:World} {s:Value} {ks:List Ex} (h:RdK (cellR F w) s ks):RdK (cellR (fun _=>False) w) s ks:=h.mono fun a u hu=>⟨id,hu.2⟩
theorem Ex.mem_lt:∀ {ks:List Ex} {i:Nat},i<ks.length→SizeOf.sizeOf (ks.getD i default)<1+SizeOf.sizeOf ks
 | [],i,h=>by simp at h
 | k :: ks,0,_=>by simp [List.getD_eq_getElem?_getD];omega
 | k :: ks,i+1,h=>by
  have:=Ex.mem_lt (ks:=ks) (i:=i) (by simpa using h)
  simp only [List.getD_eq_getElem?_getD,List.getElem?_cons_succ,List.cons.sizeOf_spec] at this ⊢
  omega
theorem Ex.ind {P:Ex→Prop} (h:∀ e:Ex,(∀ i,i<e.kids.length→P (e.kids.getD i default))→P e) (e:Ex):P e:=by
 have:∀ n (e:Ex),SizeOf.sizeOf e<n→P e:=by
  intro n
  induction n with
  | zero=>intro e he;omega
  | succ n ih=>
   intro e he
   refine h e fun i hi=>ih _ ?_
   have:=Ex.mem_lt hi
   cases e with
   | mk op lt ks=>
    simp only [Ex.kids] at this ⊢
    simp only [Ex.mk.sizeOf_spec] at he
    omega
 exact this _ e (Nat.lt_succ_self _)
structure Opn (l l':List Itm) (s:Value) (ks:List Ex) (ss:List Value):Prop where
 sub:∀ x∈l,x∈l'
 len:ss.length=ks.length
 sl:IsSl s
 sls:∀ k,k<ks.length→IsSl (ss.getD k undef)
 mx:ks.length≤maxLen
 rw:Itm.row s ks.length (xcs ks ss)∈l'
 kid:∀ k,k<ks.length→Itm.deep (ss.getD k undef) (ks.getD k default).kids∈l'
theorem Opn.later {l l' l2:List Itm} {s:Value} {ks:List Ex} {ss:List Value} (h:Opn l l' s ks ss) (h2:∀ x∈l',x∈l2):Opn l l2 s ks ss:=
 ⟨fun x hx=>h2 _ (h.sub x hx),h.len,h.sl,h.sls,h.mx,h2 _ h.rw,fun k hk=>h2 _ (h.kid k hk)⟩
theorem Opn.mx' {l l':List Itm} {s:Value} {ks:List Ex} {ss:List Value} (h:Opn l l' s ks ss):ks.length≤9223372036854775807:=by
 have:=h.mx;simp [maxLen] at this;omega
section
variable {C : Cx} {own : List Asn} {B : Bs} {l : List Itm} {sl : List (Nat × Value)} {K : Act → World → Prop}
theorem AK.open' (i:Nat) {s:Value} {ks:List Ex} (hi:own[i]? = some (forest B l)) (hm:Itm.deep s ks∈l)
  (h:∀ l' ss,Opn l l' s ks ss→AK C ⟨sl,own.set i (forest B l')⟩ K):AK C ⟨sl,own⟩ K:=
 AK.openT i hi hm fun ss h1 h2 h3 h4=>h _ ss ⟨fun x hx=>List.mem_cons_of_mem _ (List.mem_append_right _ hx),h1,h2,h3,h4,List.mem_cons_self,fun k hk=>List.mem_cons_of_mem _ (List.mem_append_left _ (kit_mem h1 hk))⟩
theorem AK.openAll (i:Nat):∀ (ps:List (Value × List Ex)) {l:List Itm} {own:List Asn},own[i]? = some (forest B l)→(∀ p∈ps,Itm.deep p.1 p.2∈l) →
  (∀ l' (tss:List (List Value)),(∀ x∈l,x∈l')→tss.length=ps.length→(∀ k,k<ps.length→Opn l l' (ps.getD k (undef,[])).1 (ps.getD k (undef,[])).2 (tss.getD k []))→AK C ⟨sl,own.set i (forest B l')⟩ K)→AK C ⟨sl,own⟩ K
 | [],l,own,hi,hm,h=>by
  have:=h l [] (fun x hx=>hx) rfl (fun k hk=>by simp at hk)
  have e:own.set i (forest B l)=own:=by
   apply List.ext_getElem?;intro k
   by_cases hk:i=k
   ·subst hk
    have hlt:=(List.getElem?_eq_some_iff.1 hi).1
    rw [hi];simp [hlt]
   ·rw [List.getElem?_set_ne hk]
  rwa [e] at this
 | p :: ps,l,own,hi,hm,h=>by
  refine AK.open' i hi (hm p List.mem_cons_self) fun l1 ss h1=>?_
  have hlt:=(List.getElem?_eq_some_iff.1 hi).1
  refine AK.openAll i ps (l:=l1) (own:=own.set i (forest B l1)) (by simp [hlt]) (fun q hq=>h1.sub _ (hm q (List.mem_cons_of_mem _ hq))) fun l2 tss h2 h3 h4=>?_
  rw [List.set_set]
  refine h l2 (ss :: tss) (fun x hx=>h2 x (h1.sub x hx)) (by simp [h3]) fun k hk=>?_
  cases k with
  | zero=>exact h1.later h2
  | succ k=>
   have:=h4 k (by simpa using hk)
   refine ⟨fun x hx=>h2 x (h1.sub x hx),this.len,this.sl,this.sls,this.mx,this.rw,this.kid⟩
structure Opn2 (l l':List Itm) (s:Value) (ks:List Ex) (ss:List Value) (tss:List (List Value)):Prop where
 o:Opn l l' s ks ss
 tl:tss.length=ks.length
 each:∀ k,k<ks.length→Opn l l' (ss.getD k undef) (ks.getD k default).kids (tss.getD k [])
theorem AK.open2 (i:Nat) {s:Value} {ks:List Ex} (hi:own[i]? = some (forest B l)) (hm:Itm.deep s ks∈l)
  (h:∀ l' ss tss,Opn2 l l' s ks ss tss→AK C ⟨sl,own.set i (forest B l')⟩ K):AK C ⟨sl,own⟩ K:=by
 refine AK.open' i hi hm fun l1 ss h1=>?_
 have hlt:=(List.getElem?_eq_some_iff.1 hi).1
 have hz:∀ k,k<ks.length→(ss.zip (ks.map Ex.kids)).getD k (undef,[])=(ss.getD k undef,(ks.getD k default).kids):=fun k hk=>by
  have h1':=h1.len
  simp [List.getD_eq_getElem?_getD,hk,h1',List.getElem?_zip_eq_some]
 refine AK.openAll (B:=B) i (ss.zip (ks.map Ex.kids)) (l:=l1) (own:=own.set i (forest B l1)) (by simp [hlt]) (fun p hp=>?_) fun l2 tss h2 h3 h4=>?_
 ·obtain ⟨k,hk⟩:=List.mem_iff_getElem?.1 hp
  have hkl:k<ks.length:=by have:=(List.getElem?_eq_some_iff.1 hk).1;simp at this;omega
  have e:=hz k hkl
  rw [List.getD_eq_getElem?_getD,hk,Option.getD_some] at e
  rw [e];exact h1.kid k hkl
 ·rw [List.set_set]
  have hlen:(ss.zip (ks.map Ex.kids)).length=ks.length:=by simp [h1.len]
  refine h l2 ss tss ⟨h1.later h2,by rw [h3,hlen],fun k hk=>?_⟩
  have:=h4 k (by omega)
  rw [hz k hk] at this
  exact ⟨fun x hx=>h2 x (h1.sub x hx),this.len,this.sl,this.sls,this.mx,this.rw,this.kid⟩
theorem AK.close' (i j:Nat) {s:Value} {E:TypeId} {n:Nat} {cs:List Value} (ks:List Ex) (ss:List Value) (hij:i ≠ j) (hi:own[i]? = some (forest B l)) (hj:own[j]? = some (row s E 3 n cs)) (hn:n=ks.length) (hc:cs=xcs ks ss) (hl:ss.length=ks.length)
  (hk:∀ k,k<ks.length→Itm.deep (ss.getD k undef) (ks.getD k default).kids∈l) (h:∀ l',(∀ x∈l,x∈l')→Itm.deep s ks∈l'→Itm.row s ks.length (xcs ks ss)∈l'→AK C ⟨sl,(own.set j empA).set i (forest B l')⟩ K):AK C ⟨sl,own⟩ K:=by
 subst hn hc
 exact AK.closeT i j hij hi hj hl hk (h _ (fun x hx=>List.mem_cons_of_mem _ (List.mem_cons_of_mem _ hx)) List.mem_cons_self (List.mem_cons_of_mem _ List.mem_cons_self))
theorem AK.add' (i:Nat) (x:Itm) (hi:own[i]? = some (forest B l)) (hx:∀ R,x.ok R) (h:∀ l',(∀ y∈l,y∈l')→x∈l'→AK C ⟨sl,own.set i (forest B l')⟩ K):AK C ⟨sl,own⟩ K:=
 AK.forestAdd i x hi hx (h _ (fun y hy=>List.mem_cons_of_mem _ hy) List.mem_cons_self)
end
structure PSub (ks':List Ex) (ss':List Value) (ks:List Ex) (ss:List Value):Prop where
 len:ss'.length=ks'.length
 le:ks'.length≤ks.length
 at_:∀ k,k<ks'.length→∃ j,j<ks.length∧ks'.getD k default=ks.getD j default∧ss'.getD k undef=ss.getD j undef
theorem PSub.rfl {ks:List Ex} {ss:List Value} (h:ss.length=ks.length):PSub ks ss ks ss:=⟨h,Nat.le_refl _,fun k hk=>⟨k,hk,_root_.rfl,_root_.rfl⟩⟩
theorem PSub.trans {k1 k2 k3:List Ex} {s1 s2 s3:List Value} (h:PSub k1 s1 k2 s2) (h':PSub k2 s2 k3 s3):PSub k1 s1 k3 s3:=⟨h.len,Nat.le_trans h.le h'.le,fun k hk=>by
 obtain ⟨j,h1,h2,h3⟩:=h.at_ k hk
 obtain ⟨m,h4,h5,h6⟩:=h'.at_ j h1
 exact ⟨m,h4,h2.trans h5,h3.trans h6⟩⟩
theorem PSub.deep {l:List Itm} {ks' ks:List Ex} {ss' ss:List Value} (h:PSub ks' ss' ks ss) (hd:∀ k,k<ks.length→Itm.deep (ss.getD k undef) (ks.getD k default).kids∈l):∀ k,k<ks'.length→Itm.deep (ss'.getD k undef) (ks'.getD k default).kids∈l:=fun k hk=>by
 obtain ⟨j,h1,h2,h3⟩:=h.at_ k hk
 rw [h2,h3];exact hd j h1
theorem PSub.sls {ks' ks:List Ex} {ss' ss:List Value} (h:PSub ks' ss' ks ss) (hd:∀ k,k<ks.length→IsSl (ss.getD k undef)):∀ k,k<ks'.length→IsSl (ss'.getD k undef):=fun k hk=>by
 obtain ⟨j,h1,h2,h3⟩:=h.at_ k hk
 rw [h3];exact hd j h1
section
variable {C : Cx} {sl : List (Nat × Value)} {own : List Asn} {ops : Array Oper} {Q : Exit → Act → World → Prop} {ty : TypeId} {pos : String} {aft : Array Edge} {g : Option (Nat × Bool)} {rest : List Oper}
theorem zc_one {z:Value} (hz:z = .agg #[.int .i64 0,.int .i64 0,.slice none 0 0]) (n:Nat):(Builtin.zeroCells z.cells n).toList.length=n * 3∧one' (Builtin.zeroCells z.cells n).toList:=by
 subst hz
 have hs:(Value.agg #[.int .i64 0,.int .i64 0,.slice none 0 0]).cells.size=3:=rfl
 refine ⟨by simp [Builtin.zeroCells,hs],fun u hu=>?_⟩
 simp only [Builtin.zeroCells,Array.toList_map,Array.toList_range,List.mem_map,hs] at hu
 obtain ⟨i,_,rfl⟩:=hu
 have:∀ k:Nat,k<3→((Value.agg #[.int .i64 0,.int .i64 0,.slice none 0 0]).cells[k]!).oneCell'=true:=fun k hk=>by
  have:k=0∨k=1∨k=2:=by omega
  rcases this with rfl | rfl | rfl <;> rfl
 exact this _ (Nat.mod_lt _ (by decide))
theorem AK.clear3 (i:Nat) {x:Operand} {t E e s' by_:Nat} {v z:Value} {n a:Nat} {cs:List Value} (hi:own[i]? = some (row v E 3 n cs)) (ht:SlT C.P t e 3) (he:ElT C.P e z s' by_) (hzz:∀ n,(Builtin.zeroCells z.cells n).toList.length=n * 3∧one' (Builtin.zeroCells z.cells n).toList) (hx:opv ⟨sl,own⟩ x=some (slFr v 3 a)) (ha:a≤n) (hg:Grd ops sl g)
  (h:∀ cs',cs'.take (a * 3)=cs.take (a * 3)→AK C ⟨sl,own.set i (row v E 3 n cs')⟩ (wpList C.P ops Q rest)) :
  AK C ⟨sl,own⟩ (wpList C.P ops Q (⟨none,.call ⟨.builtin .clear,#[x],#[t]⟩,ty,pos,aft,g⟩ :: rest)):=by
 intro ac w hs
 refine wpList_step fun K hK=>?_
 rw [if_pos (wanted_of_Grd hs hg)]
 obtain ⟨hf,Fs,hh,hal⟩:=hs.world
 obtain ⟨hown,hF⟩:=hh.at_ i _ hi
 obtain ⟨inf,hi1,hi2,hi3,hi4⟩:=he.inf
 have hz:(zeroValue e).run C.P w = .ok z w:=by simp [zeroValue,typeInfo,hi1,hi2]
 have hskip:∀ w2,w2=w→K (ac.put none (.tuple #[])) w2:=by
  rintro _ rfl
  refine hK _ _ (h cs rfl _ _ ?_)
  have hset:own.set i (row v E 3 n cs)=own:=by
   apply List.ext_getElem?;intro k
   by_cases hk:i=k
   ·subst hk
    have hlt:=(List.getElem?_eq_some_iff.1 hi).1
    rw [hi];simp [hlt]
   ·rw [List.getElem?_set_ne hk]
  rw [hset]
  exact hs.put hs.world (d:=none) (fun i hi=>by cases hi) undef
 rcases hown.2 with ⟨rfl,h0⟩ | ⟨gb,cap,cur,rfl,hb0,hb,hnc,hcm,hcsz,htake⟩
 ·have hrun:(execOp ac.eval ⟨none,.call ⟨.builtin .clear,#[x],#[t]⟩,ty,pos,aft,g⟩).run C.P w = .ok (.value (.tuple #[])) w:=by
   simp [execOp,resolve,invoke,builtin,opv_eval hs hx,Builtin.clear_,run_underlying ht.1,slFr]
  simp only [Oper.wp,hrun,Oper.upon]
  exact hskip w rfl
 ·rcases Nat.lt_or_ge a n with hlt | hge
  ·obtain ⟨zl,zo⟩:=hzz (n - a)
   have hst:=run_storeCells_at C.P gb (a * 3) E (Builtin.zeroCells z.cells (n - a)).toList 0 cur w hb (by rw [zl,hcsz];omega) zo
   simp only [Nat.add_zero,zl] at hst
   have hne:n - a ≠ 0:=by omega
   have hrun:(execOp ac.eval ⟨none,.call ⟨.builtin .clear,#[x],#[t]⟩,ty,pos,aft,g⟩).run C.P w = .ok (.value (.tuple #[])) (w.setRow gb (cur.toList.take (a * 3)++(Builtin.zeroCells z.cells (n - a)).toList++cur.toList.drop (a * 3+(n - a) * 3)).toArray):=by
    have e1:slFr (.slice (some ⟨gb,0,none⟩) n cap) 3 a = .slice (some ⟨gb,a * 3,none⟩) (n - a) (cap - a):=by
     have hne2:cap ≠ a:=by omega
     simp [slFr,Addr.add_lit,hne2]
    rw [e1] at hx
    obtain ⟨m,hm⟩:∃ m,n - a=m+1:=⟨n - a - 1,by omega⟩
    rw [hm] at hst hx ⊢
    simp only [execOp,resolve,invoke,builtin,Builtin.clear_]
    simp [opv_eval hs hx,run_underlying ht.1,hz,hst]
   simp only [Oper.wp,hrun,Oper.upon]
   have hilt:i<own.length:=(List.getElem?_eq_some_iff.1 hi).1
   have hcurl:cur.toList.length=cap * 3:=by simpa using hcsz
   refine hK _ _ (h ((cur.toList.take (a * 3)++(Builtin.zeroCells z.cells (n - a)).toList++cur.toList.drop (a * 3+(n - a) * 3)).take (n * 3)) ?_ _ _ ?_)
   ·rw [List.take_take,Nat.min_eq_left (by omega),List.append_assoc,List.take_append_of_le_length (by simp;omega),List.take_take,Nat.min_self]
    have:=congrArg (List.take (a * 3)) htake
    rw [← this,List.take_take,Nat.min_eq_left (by omega)]
   ·have hrow:(w.setRow gb (cur.toList.take (a * 3)++(Builtin.zeroCells z.cells (n - a)).toList++cur.toList.drop (a * 3+(n - a) * 3)).toArray).ownsRow 0 E 3 (.slice (some ⟨gb,0,none⟩) n cap) n ((cur.toList.take (a * 3)++(Builtin.zeroCells z.cells (n - a)).toList++cur.toList.drop (a * 3+(n - a) * 3)).take (n * 3)):=by
     refine ⟨by simp [zl];omega,.inr ⟨gb,cap,_,rfl,Nat.zero_le _,setRow_heap w gb cur _ E _ hb,hnc,hcm,?_,?_⟩⟩
     ·have:=zl
      simp only [Array.length_toList] at this
      simp [this];omega
     ·simp
    have hup:=HW.update (w':=w.setRow gb (cur.toList.take (a * 3)++(Builtin.zeroCells z.cells (n - a)).toList++cur.toList.drop (a * 3+(n - a) * 3)).toArray) (own2:=[]) (A':=row (.slice (some ⟨gb,0,none⟩) n cap) E 3 n _) hf hh hal hilt ⟨rfl,rfl,rfl,by simp,fun k _ hk=>setRow_other w gb k _ (fun e=>hk (by rw [e];exact (hF gb).2 rfl)),Nat.le_refl _⟩
     (HeapAt.one (row_of hrow)) (fun k c hc=>.inl ((hF c).2 hc.2))
    rw [List.append_nil] at hup
    exact hs.put hup (d:=none) (fun i hi=>by cases hi) undef
  ·have e0:n - a=0:=by omega
   have hrun:(execOp ac.eval ⟨none,.call ⟨.builtin .clear,#[x],#[t]⟩,ty,pos,aft,g⟩).run C.P w = .ok (.value (.tuple #[])) w:=by
    obtain ⟨ao,c2,e1⟩:∃ ao c2,slFr (.slice (some ⟨gb,0,none⟩) n cap) 3 a = .slice ao 0 c2:=⟨_,_,by simp only [slFr,e0];rfl⟩
    rw [e1] at hx
    simp only [execOp,resolve,invoke,builtin,Builtin.clear_]
    cases ao <;> simp [opv_eval hs hx,run_underlying ht.1]
   simp only [Oper.wp,hrun,Oper.upon]
   exact hskip w rfl
theorem AK.clearE (i:Nat) {x:Operand} {t E e s' by_:Nat} {v:Value} {n a:Nat} {ks:List Ex} {ss:List Value} (hi:own[i]? = some (row v E 3 n (xcs ks ss))) (ht:SlT C.P t e 3) (he:ElT C.P e (.agg #[.int .i64 0,.int .i64 0,.slice none 0 0]) s' by_) (hx:opv ⟨sl,own⟩ x=some (slFr v 3 a)) (hn:n=ks.length) (hl:ss.length=ks.length) (ha:a≤n) (hg:Grd ops sl g)
  (h:∀ cs',cs'.take (a * 3)=xcs (ks.take a) (ss.take a)→AK C ⟨sl,own.set i (row v E 3 n cs')⟩ (wpList C.P ops Q rest)) :
  AK C ⟨sl,own⟩ (wpList C.P ops Q (⟨none,.call ⟨.builtin .clear,#[x],#[t]⟩,ty,pos,aft,g⟩ :: rest)):=
 AK.clear3 i hi ht he (zc_one rfl) hx ha hg fun cs' hc=>h cs' (hc.trans (xcs_take a ks ss hl))
end
end Go.Sx
namespace Go.Sx
def emptyE:Ex:=.mk 1 0 []
def unitE:Ex:=.mk 2 0 []
def univE:Ex:=.mk 8 0 [emptyE]
def isEmptyE (e:Ex):Bool:=e.op == 1
def isUnitE (e:Ex):Bool:=e.op == 2
def isUnivE (e:Ex):Bool:=e.op == 8 && e.kids.length == 1 && isEmptyE (e.kids.getD 0 default)
def fitsE:Nat→Ex→Nat→Option Nat
 | 0,_,_=>none
 | d+1,e,left=>if left=0 then none else e.kids.foldlM (fun l k=>fitsE d k l) (left - 1)
mutual
def wfE (n:Int):Ex→Bool
 | .mk op lt ks=>if op=3 then ks.length == 0 && decide (0≤lt) && decide (lt<n)
  else if lt ≠ 0 then false
  else if op=1∨op=2 then ks.length == 0
  else if op=4∨op=5∨op=6 then decide (2≤ks.length) && wfL n ks
  else if op=7∨op=8 then ks.length == 1 && wfL n ks else false
def wfL (n:Int):List Ex→Bool
 | []=>true
 | k :: ks=>wfE n k && wfL n ks
end
theorem wfL_all (n:Int):∀ ks:List Ex,wfL n ks=ks.all (wfE n)
 | []=>by simp [wfL]
 | k :: ks=>by simp [wfL,wfL_all n ks]
theorem wfE_eq (n:Int) (e:Ex):wfE n e=if e.op=3 then e.kids.length == 0 && decide (0≤e.lt) && decide (e.lt<n)
  else if e.lt ≠ 0 then false
  else if e.op=1∨e.op=2 then e.kids.length == 0
  else if e.op=4∨e.op=5∨e.op=6 then decide (2≤e.kids.length) && e.kids.all (wfE n)
  else if e.op=7∨e.op=8 then e.kids.length == 1 && e.kids.all (wfE n) else false:=by
 cases e with | mk op lt ks=>simp only [wfE,Ex.op,Ex.lt,Ex.kids,wfL_all];rfl
theorem all_false {p:Ex→Bool} {ks:List Ex} {k:Nat} (hk:k<ks.length) (h:p (ks.getD k default)=false):ks.all p=false:=by
 rw [List.all_eq_false]
 exact ⟨ks[k],List.getElem_mem hk,by simpa [List.getD_eq_getElem?_getD,hk] using h⟩
theorem all_true {p:Ex→Bool} {ks:List Ex} (h:∀ i,i<ks.length→p (ks.getD i default)=true):ks.all p=true:=by
 rw [List.all_eq_true]
 intro x hx
 obtain ⟨i,hi⟩:=List.mem_iff_getElem?.1 hx
 have hl:=(List.getElem?_eq_some_iff.1 hi).1
 simpa [List.getD_eq_getElem?_getD,hi] using h i hl
def idxE (p:Ex→Bool) (ks:List Ex):Int:=if ks.any p then (ks.findIdx p:Int) else -1
theorem idxE_some {p:Ex→Bool} {ks:List Ex} {k:Nat} (hk:k<ks.length) (hb:∀ i,i<k→p (ks.getD i default)=false) (h:p (ks.getD k default)=true):idxE p ks=k:=by
 unfold idxE
 have h1:p ks[k]=true:=by simpa [List.getD_eq_getElem?_getD,hk] using h
 rw [if_pos (List.any_eq_true.2 ⟨_,List.getElem_mem hk,h1⟩)]
 congr 1
 rw [List.findIdx_eq hk]
 refine ⟨h1,fun j hj=>?_⟩
 have:=hb j hj
 simpa [List.getD_eq_getElem?_getD,show j<ks.length by omega] using this
theorem any_none {p:Ex→Bool} {ks:List Ex} (h:∀ i,i<ks.length→p (ks.getD i default)=false):ks.any p=false:=by
 rw [List.any_eq_false]
 intro x hx
 obtain ⟨i,hi⟩:=List.mem_iff_getElem?.1 hx
 have hl:=(List.getElem?_eq_some_iff.1 hi).1
 have:=h i hl
 simpa [List.getD_eq_getElem?_getD,hi] using this
theorem idxE_none {p:Ex→Bool} {ks:List Ex} (h:∀ i,i<ks.length→p (ks.getD i default)=false):idxE p ks = -1:=by
 unfold idxE
 rw [any_none h];rfl
theorem idxE_any (p:Ex→Bool) (ks:List Ex):(ks.any p=true↔0≤idxE p ks)∧-1≤idxE p ks∧idxE p ks≤ks.length:=by
 unfold idxE
 have:=List.findIdx_le_length (p:=p) (xs:=ks)
 split <;> rename_i h
 ·refine ⟨⟨fun _=>by omega,fun _=>h⟩,by omega,by omega⟩
 ·refine ⟨⟨fun h'=>absurd h' h,fun h'=>by omega⟩,by omega,by omega⟩
def validE (e:Ex) (n:Int):Int:=if n<1∨6<n then 1 else if (fitsE 40 e 400).isSome then if wfE n e then 0 else 4 else 3
mutual
def hasU:Ex→Bool
 | .mk op lt ks=>if op=2∨op=7 then true else if op=4 then hasUany ks else if op=5∨op=6 then hasUall ks else if op=8 then ks.length == 1 && !hasUany ks else false
def hasUany:List Ex→Bool
 | []=>false
 | k :: ks=>hasU k || hasUany ks
def hasUall:List Ex→Bool
 | []=>true
 | k :: ks=>hasU k && hasUall ks
end
theorem hasUany_any:∀ ks:List Ex,hasUany ks=ks.any hasU
 | []=>by simp [hasUany]
 | k :: ks=>by simp [hasUany,hasUany_any ks]
theorem hasUall_all:∀ ks:List Ex,hasUall ks=ks.all hasU
 | []=>by simp [hasUall]
 | k :: ks=>by simp [hasUall,hasUall_all ks]
theorem hasU_eq (e:Ex):hasU e=if e.op=2∨e.op=7 then true else if e.op=4 then e.kids.any hasU else if e.op=5∨e.op=6 then e.kids.all hasU else if e.op=8 then e.kids.length == 1 && !hasU (e.kids.getD 0 default) else false:=by
 cases e with
 | mk op lt ks=>
  have key:(ks.length == 1 && !ks.any hasU)=(ks.length == 1 && !hasU (ks.getD 0 default)):=by
   match ks with
   | []=>rfl
   | [k]=>simp [List.getD_eq_getElem?_getD]
   | a :: b :: l=>simp
  simp only [hasU,Ex.op,Ex.kids,hasUany_any,hasUall_all,key];rfl
def lim {α:Type} (l:List α):Option (List α):=if l.length≤1073741824 then some l else none
theorem lim_some {α:Type} {l m:List α} (h:lim l=some m):m=l∧l.length≤1073741824:=by
 unfold lim at h;split at h
 ·cases h;exact ⟨rfl,by assumption⟩
 ·cases h
def flatE (op:Int) (ks:List Ex):List Ex:=ks.flatMap fun k=>if k.op=op then k.kids else [k]
def cmpZ (x y:Int):Int:=if x<y then -1 else if y<x then 1 else 0
mutual
def cmpX:Ex→Ex→Int
 | .mk o l ks,e=>if o ≠ e.op then cmpZ o e.op else if l ≠ e.lt then cmpZ l e.lt else cmpXL ks e.kids
def cmpXL:List Ex→List Ex→Int
 | [],[]=>0
 | [],_ :: _=>-1
 | _ :: _,[]=>1
 | a :: as_,b :: bs=>if cmpX a b ≠ 0 then cmpX a b else cmpXL as_ bs
end
def insX (a:Ex):List Ex→List Ex
 | []=>[a]
 | b :: l=>if cmpX a b≤0 then a :: b :: l else b :: insX a l
def sortX (l:List Ex):List Ex:=l.foldr insX []
def ddG {α:Type} (q:α→α→Bool) (d:α) (xs:List α):Nat→List α
 | 0=>[]
 | m+1=>if 0<m∧q (xs.getD m d) (xs.getD (m - 1) d)=true then ddG q d xs m else ddG q d xs m++[xs.getD m d]
def eqX (a b:Ex):Bool:=decide (cmpX a b=0)
def compX (l:List Ex):List Ex:=ddG eqX default l l.length
def ordE (l:List Ex):Option (List Ex):=some (compX (sortX l))
def collectE (op:Int) (parts:List Ex) (nn:Ex):Ex:=match parts with
 | []=>nn
 | [p]=>p
 | _=>.mk op 0 parts
def joinU (ks:List Ex):Option Ex:=if ks.any isUnivE then some univE else (lim (flatE 4 ks)).bind fun p=>(ordE (p.filter fun e=>!isEmptyE e)).bind fun q=>some (collectE 4 q emptyE)
def joinC (ks:List Ex):Option Ex:=if ks.any isEmptyE then some emptyE else (lim (flatE 5 ks)).bind fun p=>some (collectE 5 (p.filter fun e=>!isUnitE e) unitE)
def joinA (ks:List Ex):Option Ex:=if ks.any isEmptyE then some emptyE else (lim (flatE 6 ks)).bind fun p=>(ordE (p.filter fun e=>!isUnivE e)).bind fun q=>some (collectE 6 q univE)
def join1 (op:Int) (k:Ex):Ex:=
 if op=8 then if k.op=8∧k.kids.length=1 then k.kids.getD 0 default else .mk 8 0 [k]
 else if op=7 then if k.op=1∨k.op=2 then unitE else if k.op=7∨isUnivE k=true then k else .mk 7 0 [k]
 else e0
def joinE (op:Int) (ks:List Ex):Option Ex:=
 if op=4 then joinU ks else if op=5 then joinC ks else if op=6 then joinA ks
 else if ks.length=1 then some (join1 op (ks.getD 0 default)) else some e0
mutual
def simpE:Ex→Option Ex
 | .mk op lt ks=>if ks.length=0 then some (.mk op lt []) else if ks.length≤1073741824 then (simpL ks).bind fun l=>joinE op l else none
def simpL:List Ex→Option (List Ex)
 | []=>some []
 | k :: ks=>(simpE k).bind fun a=>(simpL ks).bind fun l=>some (a :: l)
end
abbrev Dv:=Ex × Ex × Bool
def partsD (by_ selves:List Ex):Option (List Ex):=match by_ with
 | []=>some []
 | b :: bs=>(if b.op=1 then some b else joinE 5 (b :: selves.drop 1)).bind fun p=>(partsD bs (selves.drop 1)).bind fun l=>some (p :: l)
def boolD (op:Int) (ds:List Dv):Option Dv:=
 (joinE op (ds.map (·.1))).bind fun b=>(joinE op (ds.map (·.2.1))).bind fun s=>
  some (b,s,if op=4 then decide (0<(ds.filter (·.2.2)).length) else if op=6 then decide ((ds.filter (·.2.2)).length=ds.length) else if op=8 then decide ((ds.filter (·.2.2)).length=0) else false)
mutual
def dervE (a:Int) (nm:Bool):Ex→Option Dv
 | .mk op lt ks=>
  if op=2 then some (emptyE,unitE,true)
  else if op=3 then some (if lt=a then unitE else emptyE,.mk 3 lt [],false)
  else if op=4∨op=6∨op=8 then if ks.length≤1073741824 then (dervL a nm ks).bind fun ds=>boolD op ds else none
  else if op=7 then (dervL a nm ks).bind fun ds=>if ds.length=0 then none else (joinE 7 [(ds.getD 0 default).2.1]).bind fun s=>(joinE 5 [(ds.getD 0 default).1,s]).bind fun b=>some (b,s,true)
  else if op=5 then if ks.length≤1073741824 then (dervC a nm true ks).bind fun x=>(partsD x.1 x.2.1).bind fun p=>(joinE 4 p).bind fun b=>(joinE 5 x.2.1).bind fun s=>some (b,s,x.2.2) else none
  else some (emptyE,emptyE,false)
def dervL (a:Int) (nm:Bool):List Ex→Option (List Dv)
 | []=>some []
 | k :: ks=>(dervE a nm k).bind fun d=>(dervL a nm ks).bind fun l=>some (d :: l)
def dervC (a:Int) (nm:Bool):Bool→List Ex→Option (List Ex × List Ex × Bool)
 | nl,[]=>some ([],[],nl)
 | true,k :: ks=>(dervE a nm k).bind fun d=>(dervC a nm d.2.2 ks).bind fun x=>some (d.1 :: x.1,d.2.1 :: x.2.1,x.2.2)
 | false,k :: ks=>(if nm then some k else simpE k).bind fun s=>(dervC a nm false ks).bind fun x=>some (x.1,s :: x.2.1,x.2.2)
end
def letE (e:Ex) (a:Int):Option (Ex × Int):=(dervE a true e).bind fun d=>some (if validE d.1 6=0 then (d.1,0) else (e0,3))
def levE (op:Int):Int:=if op=4 then 1 else if op=6 then 2 else if op=5 then 3 else if op=8 then 4 else if op=7 then 5 else 6
mutual
def wrE:Ex→List UInt8
 | .mk op lt ks=>if op=1 then [48] else if op=2 then [49] else if op=3 then [97+UInt8.ofNat lt.toNat] else if op=4 then wrL [124] 2 false ks else if op=6 then wrL [38] 3 false ks
  else if op=5 then wrL [] 4 false ks else if op=8 then 33 :: wrL [] 4 false ks else if op=7 then wrL [] 5 false ks++[42] else []
def wrL (sep:List UInt8) (least:Int):Bool→List Ex→List UInt8
 | _,[]=>[]
 | b,k :: ks=>(if b then sep else [])++(if least≤levE k.op then wrE k else 40 :: (wrE k++[41]))++wrL sep least true ks
end
def fmtE (e:Ex):Option (List UInt8):=if validE e 6=0 then lim (wrE e) else some []
structure Run where
 L:Nat
 ex:List Ex
 nx:List (List Int)
 dn:Nat
 num:List (List UInt8 × Int)
def addR (r:Run) (e:Ex):Option Run:=(fmtE e).bind fun t=>some { r with ex:=r.ex++[e],num:=mset r.num t (r.ex.length:Int) }
def rowR:Nat→Nat→Run→List Int→Option (Run × List Int × Int)
 | 0,_,r,row=>some (r,row,0)
 | n+1,x,r,row=>(letE (r.ex.getD r.dn default) (x:Int)).bind fun p=>if p.2 ≠ 0 then some (r,row,p.2) else
  (fmtE p.1).bind fun t=>match mget r.num t with
   | some i=>rowR n (x+1) r (row++[i])
   | none=>if r.ex.length=512 then some (r,row,3) else (addR r p.1).bind fun r2=>rowR n (x+1) r2 (row++[(r.ex.length:Int)])
def procR (r:Run):Option (Run × Int):=(rowR r.L 0 r []).bind fun p=>if p.2.2 ≠ 0 then some (p.1,p.2.2) else some ({ p.1 with nx:=p.1.nx++[p.2.1],dn:=p.1.dn+1 },0)
def loopR:Nat→Run→Option (Run × Int)
 | 0,_=>none
 | n+1,r=>if r.dn=r.ex.length then some (r,0) else (procR r).bind fun p=>if p.2 ≠ 0 then some p else loopR n p.1
def autR (r:Run):Dfa:=⟨r.L,0,r.ex.map hasU,r.nx⟩
def zeroD:Dfa:=⟨0,0,[],[]⟩
def normE (e:Ex):Option Ex:=if validE e 6=0 then simpE e else some e0
def buildE (e:Ex) (n:Int):Option (Dfa × Int):=if validE e n ≠ 0 then some (zeroD,validE e n) else
 (normE e).bind fun e1=>(addR ⟨n.toNat,[],[],0,[]⟩ e1).bind fun r=>(loopR 600 r).bind fun p=>if p.2 ≠ 0 then some (zeroD,p.2) else some (autR p.1,0)
def exAw:Ex:=.mk 7 0 [.mk 5 0 [.mk 3 0 [],.mk 3 1 []]]
theorem build_aw:buildE exAw 2=some (⟨2,0,[true,false,false],[[1,2],[2,0],[2,2]]⟩,0):=by decide +kernel
end Go.Sx
namespace Go.Proofs.YtbibnpdnmmgacaaGreatDoor
open Go.Sx Go.RowKit
theorem s_isempty (w:World) (e:Ex) (s:Value):CallS Tryz.prog 171 [.agg #[.int .i64 e.op,.int .i64 e.lt,s]] w (fun r o=>r = .bool (isEmptyE e)∧o=[]):=by
 refine spec_of Tryz.func171 rfl (leb rfl) ?_
 refine .sr fun _ hK1=>?_
 refine AK.box_ (E:=24) (cs:=[.int .i64 e.op,.int .i64 e.lt,s]) rfl rfl rfl trivial rfl (fun bx1=>?_)
 refine .as rfl (.nt hK1 ?_)
 refine .sr fun _ hK2=>?_
 refine .v (.fieldAddr fd24_0 rfl) (.v (.loadBox on3 rfl bsp rfl) (.v (.eql rfl rfl) (.as rfl (.nt hK2 (.ret ?_)))))
 refine AK.ret1 rfl rfl (fun w hw=>⟨_,_,?_,rfl,Ret.of (hw.pick [] (by decide) rfl rfl)⟩)
 exact ⟨rfl,rfl⟩
theorem s_isunit (w:World) (e:Ex) (s:Value):CallS Tryz.prog 197 [.agg #[.int .i64 e.op,.int .i64 e.lt,s]] w (fun r o=>r = .bool (isUnitE e)∧o=[]):=by
 refine spec_of Tryz.func197 rfl (leb rfl) ?_
 refine .sr fun _ hK1=>?_
 refine AK.box_ (E:=24) (cs:=[.int .i64 e.op,.int .i64 e.lt,s]) rfl rfl rfl trivial rfl (fun bx1=>?_)
 refine .as rfl (.nt hK1 ?_)
 refine .sr fun _ hK2=>?_
 refine .v (.fieldAddr fd24_0 rfl) (.v (.loadBox on3 rfl bsp rfl) (.v (.eql rfl rfl) (.as rfl (.nt hK2 (.ret ?_)))))
 refine AK.ret1 rfl rfl (fun w hw=>⟨_,_,?_,rfl,Ret.of (hw.pick [] (by decide) rfl rfl)⟩)
 exact ⟨rfl,rfl⟩
theorem s_isuniv (w:World) (e:Ex) (s:Value) (h:RdK (cellR (fun _=>False) w) s e.kids):CallS Tryz.prog 142 [.agg #[.int .i64 e.op,.int .i64 e.lt,s]] w (fun r o=>r = .bool (isUnivE e)∧o=[]):=by
 obtain ⟨ss,hl,hx,hk⟩:=h.inv
 have hr:=hx.rd
 have hm:=hr.le
 refine spec_of Tryz.func142 rfl (leb rfl) ?_
 refine .sr fun _ hK1=>?_
 refine AK.box_ (E:=24) (cs:=[.int .i64 e.op,.int .i64 e.lt,s]) rfl rfl rfl trivial rfl (fun bx1=>?_)
 refine .as rfl (.nt hK1 ?_)
 refine .sr fun _ hK2=>?_
 refine .v (.fieldAddr fd24_0 rfl) (.v (.loadBox on3 rfl bsp rfl) (.v (.eql rfl rfl) (.mv rfl ?_)))
 refine AK.splitB (g:=6) rfl (fun hg_1_3=>?_) (fun hg_1_3=>?_)
 ·have hg_1_3':=hg_1_3
  try simp only [bs] at hg_1_3'
  refine AK.val _ (Yl.fieldAddr fd24_2 rfl) ⟨_,rfl,gB hg_1_3⟩ rfl ?_
  refine AK.val _ (Yl.loadBox on22 rfl bsp rfl) ⟨_,rfl,gB hg_1_3⟩ rfl ?_
  refine AK.val _ (Yl.lenR sl22 rfl rdp) ⟨_,rfl,gB hg_1_3⟩ rfl ?_
  refine AK.val _ (Yl.eql rfl rfl) ⟨_,rfl,gB hg_1_3⟩ rfl ?_
  refine .v (.pickT rfl (hg_1_3) rfl) (.mv rfl ?_)
  refine AK.splitB (g:=12) rfl (fun hg_1_9=>?_) (fun hg_1_9=>?_)
  ·have hg_1_9':=hg_1_9
   try simp only [bs] at hg_1_9'
   refine AK.val _ (Yl.fieldAddr fd24_2 rfl) ⟨_,rfl,gB hg_1_9⟩ rfl ?_
   refine AK.val _ (Yl.loadBox on22 rfl bsp rfl) ⟨_,rfl,gB hg_1_9⟩ rfl ?_
   refine AK.val _ (Yl.idxN (k:=0) sl22 rfl rfl rdp (by decide) (by have:=hg_1_9;simp at this;omega)) ⟨_,rfl,gB hg_1_9⟩ rfl ?_
   refine AK.val _ (Yl.loadE ag24 rfl rdp (by assumption) rfl (by omega)) ⟨_,rfl,gB hg_1_9⟩ rfl ?_
   refine AK.call co171 rfl (fun w hw=>s_isempty w _ _) ⟨_,rfl,gB hg_1_9⟩ rfl ?_
   rintro r o ⟨rfl,rfl⟩
   refine .v (.pickT rfl (hg_1_9) rfl) (.as rfl (.nt hK2 (.ret ?_)))
   refine AK.ret1 rfl rfl (fun w hw=>⟨_,_,?_,rfl,Ret.of (hw.pick [] (by decide) rfl rfl)⟩)
   refine ⟨congrArg Value.bool ?_,rfl⟩
   unfold isUnivE
   first | (have g:e.kids.length=1:=(by omega);simp [hg_1_3',g];done) | (have g:¬ e.kids.length=1:=(by omega);simp [g];done) | (simp [hg_1_3'];done)
  ·have hg_1_9':=hg_1_9
   try simp only [bs] at hg_1_9'
   refine AK.pass rfl rfl (hg_1_9) rfl ?_
   refine AK.pass rfl rfl (hg_1_9) rfl ?_
   refine AK.pass rfl rfl (hg_1_9) rfl ?_
   refine AK.pass rfl rfl (hg_1_9) rfl ?_
   refine AK.pass rfl rfl (hg_1_9) rfl ?_
   refine .v (.pickF rfl (hg_1_9) rfl) (.as rfl (.nt hK2 (.ret ?_)))
   refine AK.ret1 rfl rfl (fun w hw=>⟨_,_,?_,rfl,Ret.of (hw.pick [] (by decide) rfl rfl)⟩)
   refine ⟨congrArg Value.bool ?_,rfl⟩
   unfold isUnivE
   first | (have g:e.kids.length=1:=(by omega);simp [hg_1_3',g];done) | (have g:¬ e.kids.length=1:=(by omega);simp [g];done) | (simp [hg_1_3'];done)
 ·have hg_1_3':=hg_1_3
  try simp only [bs] at hg_1_3'
  refine AK.pass rfl rfl (hg_1_3) rfl ?_
  refine AK.pass rfl rfl (hg_1_3) rfl ?_
  refine AK.pass rfl rfl (hg_1_3) rfl ?_
  refine AK.pass rfl rfl (hg_1_3) rfl ?_
  refine .v (.pickF rfl (hg_1_3) rfl) (.mv rfl ?_)
  refine AK.pass rfl rfl rfl rfl ?_
  refine AK.pass rfl rfl rfl rfl ?_
  refine AK.pass rfl rfl rfl rfl ?_
  refine AK.pass rfl rfl rfl rfl ?_
  refine AK.pass rfl rfl rfl rfl ?_
  refine .v (.pickF rfl (rfl) rfl) (.as rfl (.nt hK2 (.ret ?_)))
  refine AK.ret1 rfl rfl (fun w hw=>⟨_,_,?_,rfl,Ret.of (hw.pick [] (by decide) rfl rfl)⟩)
  refine ⟨congrArg Value.bool ?_,rfl⟩
  unfold isUnivE
  first | (have g:e.kids.length=1:=(by omega);simp [hg_1_3',g];done) | (have g:¬ e.kids.length=1:=(by omega);simp [g];done) | (simp [hg_1_3'];done)
theorem s_empty (w:World):CallS Tryz.prog 196 [] w (fun r o=>r = .agg #[.int .i64 emptyE.op,.int .i64 emptyE.lt,nilV]∧o=[]):=by
 refine spec_of Tryz.func196 rfl (leb rfl) ?_
 refine .sr fun _ hK1=>?_
 refine AK.alloc el24 rfl rfl trivial rfl (fun bx0=>?_)
 refine .nt hK1 ?_
 refine .sr fun _ hK2=>?_
 refine .v (.build (parts:=[(0,.const (.int .i64 1))]) (cs:=#[.int .i64 emptyE.op,.int .i64 emptyE.lt,.slice none 0 0]) rfl (by kernel_rfl)) ?_
 refine AK.storeBox 0 (us:=[.int .i64 emptyE.op,.int .i64 emptyE.lt,.slice none 0 0]) (cs':=[.int .i64 emptyE.op,.int .i64 emptyE.lt,.slice none 0 0]) rfl sz24 rfl rfl rfl rfl oneP (leb rfl) rfl trivial ?_
 refine .nt hK2 (.ret ?_)
 refine AK.retG [.cell 0 24] rfl (.cons (.cell ag24 rfl bsp rfl rfl) (.nil)) (fun w hw=>⟨_,_,?_,rfl,Ret.of (hw.pick [] (by decide) rfl rfl)⟩)
 exact ⟨rfl,rfl⟩
theorem s_unit (w:World):CallS Tryz.prog 175 [] w (fun r o=>r = .agg #[.int .i64 unitE.op,.int .i64 unitE.lt,nilV]∧o=[]):=by
 refine spec_of Tryz.func175 rfl (leb rfl) ?_
 refine .sr fun _ hK1=>?_
 refine AK.alloc el24 rfl rfl trivial rfl (fun bx0=>?_)
 refine .nt hK1 ?_
 refine .sr fun _ hK2=>?_
 refine .v (.build (parts:=[(0,.const (.int .i64 2))]) (cs:=#[.int .i64 unitE.op,.int .i64 unitE.lt,.slice none 0 0]) rfl (by kernel_rfl)) ?_
 refine AK.storeBox 0 (us:=[.int .i64 unitE.op,.int .i64 unitE.lt,.slice none 0 0]) (cs':=[.int .i64 unitE.op,.int .i64 unitE.lt,.slice none 0 0]) rfl sz24 rfl rfl rfl rfl oneP (leb rfl) rfl trivial ?_
 refine .nt hK2 (.ret ?_)
 refine AK.retG [.cell 0 24] rfl (.cons (.cell ag24 rfl bsp rfl rfl) (.nil)) (fun w hw=>⟨_,_,?_,rfl,Ret.of (hw.pick [] (by decide) rfl rfl)⟩)
 exact ⟨rfl,rfl⟩
theorem s_level (w:World) (op:Int):CallS Tryz.prog 200 [.int .i64 op] w (fun r o=>r = .int .i64 (levE op)∧o=[]):=by
 refine spec_of Tryz.func200 rfl (leb rfl) ?_
 refine .sr fun _ hK1=>?_
 refine .as rfl (.nt hK1 ?_)
 refine .seq fun _ hK2=>?_
 refine .sr fun _ hK3=>?_
 refine .mv rfl (.nt hK3 (.block ?_))
 refine .sr fun _ hK4=>?_
 refine .v (.eql rfl rfl) (.as rfl (.nt hK4 ?_))
 refine AK.condD rfl (fun hc0=>?_) (fun hc0=>?_)
 ·refine .sr fun _ hK5=>?_
  refine .as rfl (.nt hK5 (.ret (.block_ret (.then_ret ?_))))
  refine AK.ret1 rfl rfl (fun w hw=>⟨_,_,?_,rfl,Ret.of (hw.pick [] (by decide) rfl rfl)⟩)
  refine ⟨congrArg (Value.int .i64) ?_,rfl⟩
  unfold levE
  simp_all
 ·refine .sr fun _ hK6=>?_
  refine .v (.eql rfl rfl) (.as rfl (.nt hK6 ?_))
  refine AK.condD rfl (fun hc1=>?_) (fun hc1=>?_)
  ·refine .sr fun _ hK7=>?_
   refine .as rfl (.nt hK7 (.ret (.block_ret (.then_ret ?_))))
   refine AK.ret1 rfl rfl (fun w hw=>⟨_,_,?_,rfl,Ret.of (hw.pick [] (by decide) rfl rfl)⟩)
   refine ⟨congrArg (Value.int .i64) ?_,rfl⟩
   unfold levE
   simp_all
  ·refine .sr fun _ hK8=>?_
   refine .v (.eql rfl rfl) (.as rfl (.nt hK8 ?_))
   refine AK.condD rfl (fun hc2=>?_) (fun hc2=>?_)
   ·refine .sr fun _ hK9=>?_
    refine .as rfl (.nt hK9 (.ret (.block_ret (.then_ret ?_))))
    refine AK.ret1 rfl rfl (fun w hw=>⟨_,_,?_,rfl,Ret.of (hw.pick [] (by decide) rfl rfl)⟩)
    refine ⟨congrArg (Value.int .i64) ?_,rfl⟩
    unfold levE
    simp_all
   ·refine .sr fun _ hK10=>?_
    refine .v (.eql rfl rfl) (.as rfl (.nt hK10 ?_))
    refine AK.condD rfl (fun hc3=>?_) (fun hc3=>?_)
    ·refine .sr fun _ hK11=>?_
     refine .as rfl (.nt hK11 (.ret (.block_ret (.then_ret ?_))))
     refine AK.ret1 rfl rfl (fun w hw=>⟨_,_,?_,rfl,Ret.of (hw.pick [] (by decide) rfl rfl)⟩)
     refine ⟨congrArg (Value.int .i64) ?_,rfl⟩
     unfold levE
     simp_all
    ·refine .sr fun _ hK12=>?_
     refine .v (.eql rfl rfl) (.as rfl (.nt hK12 ?_))
     refine AK.condD rfl (fun hc4=>?_) (fun hc4=>?_)
     ·refine .sr fun _ hK13=>?_
      refine .as rfl (.nt hK13 (.ret (.block_ret (.then_ret ?_))))
      refine AK.ret1 rfl rfl (fun w hw=>⟨_,_,?_,rfl,Ret.of (hw.pick [] (by decide) rfl rfl)⟩)
      refine ⟨congrArg (Value.int .i64) ?_,rfl⟩
      unfold levE
      simp_all
     ·refine .skip (.block_normal ?_)
      refine AK.then_ (hK2 _ ?_)
      refine .sr fun _ hK14=>?_
      refine .as rfl (.nt hK14 (.ret ?_))
      refine AK.ret1 rfl rfl (fun w hw=>⟨_,_,?_,rfl,Ret.of (hw.pick [] (by decide) rfl rfl)⟩)
      refine ⟨congrArg (Value.int .i64) ?_,rfl⟩
      unfold levE
      simp_all
theorem s_univ (w:World):CallS Tryz.prog 192 [] w (fun r o=>∃ s,r = .agg #[.int .i64 univE.op,.int .i64 univE.lt,s]∧o=[row s 24 3 1 (xcs [emptyE] [nilV])]):=by
 refine spec_of Tryz.func192 rfl (leb rfl) ?_
 refine .sr fun _ hK1=>?_
 refine AK.alloc el24 rfl rfl trivial rfl (fun bx0=>?_)
 refine .nt hK1 ?_
 refine .sr fun _ hK2=>?_
 refine AK.call co196 rfl (fun w hw=>s_empty w) trivial rfl ?_
 rintro r o ⟨rfl,rfl⟩
 refine AK.lit (xs:=[.tmp 1]) sl22 el24 rfl rfl rfl (by simp [Value.cells]) (by decide) (by decide) trivial rfl (fun lv=>?_)
 refine AK.shape 1 rfl (fun slv=>?_)
 refine .v (.build (parts:=[(0,.const (.int .i64 8)),(2,.tmp 2)]) (cs:=#[.int .i64 univE.op,.int .i64 univE.lt,lv]) rfl (by obtain ⟨_,_,_,rfl⟩:=slv;kernel_rfl)) ?_
 refine AK.storeBox 0 (us:=[.int .i64 univE.op,.int .i64 univE.lt,lv]) (cs':=[.int .i64 univE.op,.int .i64 univE.lt,lv]) rfl sz24 rfl rfl rfl rfl oneP (leb rfl) rfl trivial ?_
 refine .nt hK2 (.ret ?_)
 refine AK.retG [.cell 0 24] rfl (.cons (.cell ag24 rfl bsp rfl rfl) (.nil)) (fun w hw=>⟨_,_,?_,rfl,Ret.of (hw.pick [1] (by decide) rfl rfl)⟩)
 exact ⟨_,rfl,rfl⟩
def FitsS (d:Nat):Prop:=∀ (w:World) (F:Nat→Prop) (lb:Nat) (e:Ex) (s:Value) (left:Nat) (hA:(box lb 3 1 [.int .i64 (left:Int)]).holds w F) (hle:left≤400) (hd:d≤40) (h:RdK (cellR F w) s e.kids),
 CallM Tryz.prog 149 [.agg #[.int .i64 e.op,.int .i64 e.lt,s],.int .i64 (d:Int),.pointer (some ⟨lb,0,none⟩)] w F (fun r A o=>∃ (b:Bool) (l2:Nat),r = .bool b∧A=box lb 3 1 [.int .i64 (l2:Int)]∧l2≤400∧o=[]∧fitsE d e left=if b then some l2 else none)
theorem foldlM_none {d:Nat} {ks:List Ex} {k:Nat} {l0 l:Nat} (h:(ks.take k).foldlM (fun l k=>fitsE d k l) l0=some l) (hk:k<ks.length) (hn:fitsE d (ks.getD k default) l=none):ks.foldlM (fun l k=>fitsE d k l) l0=none:=by
 have e:ks=ks.take k++ks.getD k default :: ks.drop (k+1):=by
  rw [show ks.getD k default=ks[k] by simp [List.getD_eq_getElem?_getD,hk]]
  simp
 rw [e,List.foldlM_append,h]
 simp only [Option.bind_eq_bind,Option.bind_some,List.foldlM_cons,hn,Option.bind_none]
theorem foldlM_some {d:Nat} {ks:List Ex} {k:Nat} {l0 l l2:Nat} (h:(ks.take k).foldlM (fun l k=>fitsE d k l) l0=some l) (hk:k<ks.length) (hn:fitsE d (ks.getD k default) l=some l2):(ks.take (k+1)).foldlM (fun l k=>fitsE d k l) l0=some l2:=by
 rw [take_snocD default ks k hk,List.foldlM_append,h]
 simp only [Option.bind_eq_bind,Option.bind_some,List.foldlM_cons,hn,List.foldlM_nil]
 rfl
set_option maxHeartbeats 400000 in
theorem s_fits_step (d:Nat) (ih:∀ d',d=d'+1→FitsS d') (w:World) (F:Nat→Prop) (lb:Nat) (e:Ex) (s:Value) (left:Nat) (hA:(box lb 3 1 [.int .i64 (left:Int)]).holds w F) (hle:left≤400) (hd:d≤40) (h:RdK (cellR F w) s e.kids):CallM Tryz.prog 149 [.agg #[.int .i64 e.op,.int .i64 e.lt,s],.int .i64 (d:Int),.pointer (some ⟨lb,0,none⟩)] w F (fun r A o=>∃ (b:Bool) (l2:Nat),r = .bool b∧A=box lb 3 1 [.int .i64 (l2:Int)]∧l2≤400∧o=[]∧fitsE d e left=if b then some l2 else none):=by
 obtain ⟨ss,hl,hx,hk⟩:=h.inv
 have hr:=hx.rd
 have hm:=hr.le
 refine specM_of Tryz.func149 rfl (leb rfl) hA ?_
 refine .sr fun _ hK1=>?_
 refine AK.box_ (E:=24) (cs:=[.int .i64 e.op,.int .i64 e.lt,s]) rfl rfl rfl trivial rfl (fun bx3=>?_)
 refine .as rfl (.nt hK1 ?_)
 refine .seq fun _ hK2=>?_
 refine .sr fun _ hK3=>?_
 refine .mv rfl (.v (.eql rfl rfl) (.mv rfl ?_))
 refine AK.splitB (g:=11) rfl (fun hg_1_2=>?_) (fun hg_1_2=>?_)
 ·have hg_1_2':=hg_1_2
  try simp only [bs] at hg_1_2'
  refine AK.pass rfl rfl (hg_1_2) rfl ?_
  refine AK.pass rfl rfl (hg_1_2) rfl ?_
  refine AK.pass rfl rfl (hg_1_2) rfl ?_
  refine AK.pass rfl rfl (hg_1_2) rfl ?_
  refine .v (.pickT rfl (hg_1_2) rfl) (.nt hK3 ?_)
  refine AK.cond_t rfl (rfl) ?_
  refine .sr fun _ hK4=>?_
  refine .as rfl (.nt hK4 (.ret (.then_ret ?_)))
  refine AK.ret1 rfl rfl (fun w hw=>⟨_,_,_,?_,rfl,Ret.of (hw.pick [0] (by decide) rfl rfl)⟩)
  refine ⟨false,left,rfl,rfl,hle,rfl,?_⟩
  cases d with
  | zero=>rfl
  | succ d=>rw [fitsE,if_pos (by omega)];rfl
 ·have hg_1_2':=hg_1_2
  try simp only [bs] at hg_1_2'
  refine AK.val _ (Yl.move rfl) ⟨_,rfl,gB hg_1_2⟩ rfl ?_
  refine AK.val _ (Yl.nilCheck rfl) ⟨_,rfl,gB hg_1_2⟩ rfl ?_
  refine AK.val _ (Yl.loadBox on3 rfl bsp rfl) ⟨_,rfl,gB hg_1_2⟩ rfl ?_
  refine AK.val _ (Yl.eql rfl rfl) ⟨_,rfl,gB hg_1_2⟩ rfl ?_
  refine .v (.pickF rfl (hg_1_2) rfl) (.nt hK3 ?_)
  refine AK.condD rfl (fun hc0=>?_) (fun hc0=>?_)
  ·refine .sr fun _ hK5=>?_
   refine .as rfl (.nt hK5 (.ret (.then_ret ?_)))
   refine AK.ret1 rfl rfl (fun w hw=>⟨_,_,_,?_,rfl,Ret.of (hw.pick [0] (by decide) rfl rfl)⟩)
   refine ⟨false,left,rfl,rfl,hle,rfl,?_⟩
   cases d with
   | zero=>rfl
   | succ d=>rw [fitsE,if_pos (by omega)];rfl
  ·obtain ⟨d',rfl⟩:∃ d',d=d'+1:=⟨d - 1,by omega⟩
   have ihd:=ih d' rfl
   refine .skip ?_
   refine AK.then_ (hK2 _ ?_)
   refine .sr fun _ hK6=>?_
   refine .mv rfl (.v (.nilCheck rfl) (.v (.loadBox on3 rfl bsp rfl) ?_))
   refine .v (.subE (((left - 1:Nat):Int)) rfl rfl (by omega) (by omega)) ?_
   refine .v (.nilCheck rfl) ?_
   refine AK.storeBox 0 (cs':=[.int .i64 ((left - 1:Nat):Int)]) rfl sz3 rfl rfl rfl rfl oneP (leb rfl) rfl trivial ?_
   refine .nt hK6 ?_
   refine .seq fun _ hK7=>?_
   refine .sr fun _ hK8=>?_
   refine .v (.fieldAddr fd24_2 rfl) (.v (.loadBox on22 rfl bsp rfl) (.v (.lenR sl22 rfl rdp) (.mv rfl (.nt hK8 (.block ?_)))))
   refine AK.loopK (X:=Nat × Nat) [(1,_),(2,_),(23,_),(24,_)] (fun x=>[(25,.int .i64 (x.1:Int))]) (fun x=>[box lb 3 1 [.int .i64 (x.2:Int)],box bx3 24 3 [.int .i64 e.op,.int .i64 e.lt,s]]) (fun x=>x.1≤e.kids.length∧x.2≤400∧(e.kids.take x.1).foldlM (fun l k=>fitsE d' k l) (left - 1)=some x.2) (fun x=>e.kids.length - x.1) ((0,left - 1)) slr ?_ ?_ ?_ ?_
   ·exact ⟨Nat.zero_le _,by dsimp only;omega,by simp⟩
   ·exact slr
   ·exact fun w hw=>hw
   ·intro x hg0 _ hK9
    refine .sr fun _ hK10=>?_
    refine .v (.lss rfl rfl) (.nt hK10 ?_)
    refine .seq fun _ hK11=>?_
    refine AK.condD rfl (fun hc1=>?_) (fun hc1=>?_)
    ·have sk:=(hk x.1 (by omega)).sl
     refine .skip ?_
     refine AK.then_ (hK11 _ ?_)
     refine .seq fun _ hK12=>?_
     refine .block ?_
     refine .sr fun _ hK13=>?_
     first | refine .v (.iN sl22 rfl rfl) ?_ | refine .v (.iK sl22 rfl rfl) ?_
     refine .v (.loadE ag24 rfl rdp (by assumption) rfl (by omega)) ?_
     refine AK.alloc el24 rfl rfl trivial rfl (fun bx8=>?_)
     refine AK.storeBox 2 (us:=[.int .i64 (e.kids.getD x.1 default).op,.int .i64 (e.kids.getD x.1 default).lt,ss.getD x.1 undef]) (cs':=[.int .i64 (e.kids.getD x.1 default).op,.int .i64 (e.kids.getD x.1 default).lt,ss.getD x.1 undef]) rfl sz24 rfl rfl rfl rfl oneP (leb rfl) rfl trivial ?_
     refine .nt hK13 ?_
     refine .sr fun _ hK14=>?_
     refine .v (.loadBoxG ag24 rfl bsp rfl rfl) (.mv rfl ?_)
     refine .v (.subE ((d':Int)) rfl rfl (by omega) (by omega)) ?_
     refine .mv rfl ?_
     refine AK.callN 0 rfl co149 rfl (fun w Fs hw hh hfr hal=>ihd w (Fs 0) lb _ _ _ (hh.at_ 0 _ rfl) hg0.2.1 (by omega) ((hk x.1 (by omega)).atN hfr hal 0)) trivial rfl ?_
     rintro r A o ⟨b,l2,rfl,rfl,h2,rfl,hf⟩
     refine .v (.not rfl) (.nt hK14 ?_)
     refine AK.condB rfl (fun hc2=>?_) (fun hc2=>?_)
     ·refine .sr fun _ hK15=>?_
      refine .as rfl (.nt hK15 (.ret (.block_ret (.then_ret (.then_ret (.block_ret (.then_ret ?_)))))))
      refine AK.ret1 rfl rfl (fun w hw=>⟨_,_,_,?_,rfl,Ret.of (hw.pick [0] (by decide) rfl rfl)⟩)
      cases b with
      | true=>cases hc2
      | false=>
       refine ⟨false,l2,rfl,rfl,h2,rfl,?_⟩
       rw [fitsE,if_neg (by omega),foldlM_none hg0.2.2 (by omega) hf];rfl
     ·refine .skip (.block_normal ?_)
      refine AK.then_ (hK12 _ ?_)
      refine AK.region ?_
      refine .v (.add rfl rfl (by omega)) ?_
      refine .mv rfl (.nil ?_)
      refine AK.then_ (hK9 _ _ ((x.1+1,l2)) ⟨by dsimp only;omega,h2,foldlM_some hg0.2.2 (by omega) (by cases b with | true=>exact hf | false=>cases hc2)⟩ (by dsimp only;omega) (slr) (fun w hw=>hw.pick [0,1] (by decide) rfl rfl))
    ·refine .exit (.then_exit (.then_exit (.block_exit ?_)))
     refine AK.then_ (hK7 _ ?_)
     refine .sr fun _ hK16=>?_
     refine .as rfl (.nt hK16 (.ret ?_))
     refine AK.ret1 rfl rfl (fun w hw=>⟨_,_,_,?_,rfl,Ret.of (hw.pick [0] (by decide) rfl rfl)⟩)
     have hfull:=hg0.2.2
     rw [List.take_of_length_le (by omega)] at hfull
     refine ⟨true,x.2,rfl,rfl,hg0.2.1,rfl,?_⟩
     rw [fitsE,if_neg (by omega),hfull];rfl
end Go.Proofs.YtbibnpdnmmgacaaGreatDoor
namespace Go.Proofs.YtbibnpdnmmgacaaGreatDoor
open Go.Sx Go.RowKit
theorem s_fits (d:Nat):FitsS d:=by
 induction d with
 | zero=>intro w F lb e s left hA hle hd h;exact s_fits_step 0 (fun d' hd'=>by omega) w F lb e s left hA hle hd h
 | succ d ih=>intro w F lb e s left hA hle hd h;exact s_fits_step (d+1) (fun d' hd'=>by obtain rfl:d'=d:=(by omega);exact ih) w F lb e s left hA hle hd h
theorem s_within (w:World) (e:Ex) (s:Value) (h:RdK (cellR (fun _=>False) w) s e.kids):CallS Tryz.prog 97 [.agg #[.int .i64 e.op,.int .i64 e.lt,s]] w (fun r o=>r = .bool (fitsE 40 e 400).isSome∧o=[]):=by
 refine spec_of Tryz.func97 rfl (leb rfl) ?_
 refine .sr fun _ hK1=>?_
 refine AK.box_ (E:=24) (cs:=[.int .i64 e.op,.int .i64 e.lt,s]) rfl rfl rfl trivial rfl (fun bx1=>?_)
 refine .as rfl (.nt hK1 ?_)
 refine .sr fun _ hK2=>?_
 refine AK.alloc el3 rfl rfl trivial rfl (fun bx3=>?_)
 refine AK.storeBox 1 (cs':=[.int .i64 ((400:Nat):Int)]) rfl sz3 rfl rfl rfl rfl oneP (leb rfl) rfl trivial ?_
 refine .nt hK2 ?_
 refine .sr fun _ hK3=>?_
 refine .v (.loadBoxG ag24 rfl bsp rfl rfl) ?_
 refine AK.callN 1 rfl co149 rfl (fun w Fs hw hh hfr hal=>s_fits 40 w (Fs 1) bx3 e s 400 (hh.at_ 1 _ rfl) (by omega) (by omega) (h.atN hfr hal 1)) trivial rfl ?_
 rintro r A o ⟨b,l2,rfl,rfl,_,rfl,hf⟩
 refine .as rfl (.nt hK3 (.ret ?_))
 refine AK.ret1 rfl rfl (fun w hw=>⟨_,_,?_,rfl,Ret.of (hw.pick [] (by decide) rfl rfl)⟩)
 rw [hf]
 refine ⟨congrArg Value.bool ?_,rfl⟩
 cases b <;> rfl
def WfS (n:Int) (e:Ex):Prop:=∀ (w:World) (s:Value) (h:RdK (cellR (fun _=>False) w) s e.kids),CallS Tryz.prog 98 [.agg #[.int .i64 e.op,.int .i64 e.lt,s],.int .i64 n] w (fun r o=>r = .bool (wfE n e)∧o=[])
set_option maxHeartbeats 1000000 in
theorem s_wf_step (n:Int) (e:Ex) (ih:∀ i,i<e.kids.length→WfS n (e.kids.getD i default)) (w:World) (s:Value) (h:RdK (cellR (fun _=>False) w) s e.kids):CallS Tryz.prog 98 [.agg #[.int .i64 e.op,.int .i64 e.lt,s],.int .i64 n] w (fun r o=>r = .bool (wfE n e)∧o=[]):=by
 obtain ⟨ss,hl,hx,hk⟩:=h.inv
 have hr:=hx.rd
 have hm:=hr.le
 refine spec_of Tryz.func98 rfl (leb rfl) ?_
 refine .sr fun _ hK1=>?_
 refine AK.box_ (E:=24) (cs:=[.int .i64 e.op,.int .i64 e.lt,s]) rfl rfl rfl trivial rfl (fun bx2=>?_)
 refine .as rfl (.nt hK1 ?_)
 refine .seq fun _ hK2=>?_
 refine .sr fun _ hK3=>?_
 refine .v (.fieldAddr fd24_0 rfl) (.v (.loadBox on3 rfl bsp rfl) (.v (.eql rfl rfl) (.nt hK3 ?_)))
 refine AK.condD rfl (fun hc0=>?_) (fun hc0=>?_)
 ·refine .sr fun _ hK4=>?_
  refine .v (.fieldAddr fd24_2 rfl) (.v (.loadBox on22 rfl bsp rfl) (.v (.lenR sl22 rfl rdp) (.v (.eql rfl rfl) (.mv rfl ?_))))
  refine AK.splitB (g:=14) rfl (fun hg_2_4=>?_) (fun hg_2_4=>?_)
  ·have hg_2_4':=hg_2_4
   try simp only [bs] at hg_2_4'
   refine AK.val _ (Yl.fieldAddr fd24_1 rfl) ⟨_,rfl,gB hg_2_4⟩ rfl ?_
   refine AK.val _ (Yl.loadBox on3 rfl bsp rfl) ⟨_,rfl,gB hg_2_4⟩ rfl ?_
   refine AK.val _ (Yl.geq rfl rfl) ⟨_,rfl,gB hg_2_4⟩ rfl ?_
   refine .v (.pickT rfl (hg_2_4) rfl) (.mv rfl ?_)
   refine AK.splitB (g:=19) rfl (fun hg_2_9=>?_) (fun hg_2_9=>?_)
   ·have hg_2_9':=hg_2_9
    try simp only [bs] at hg_2_9'
    refine AK.val _ (Yl.fieldAddr fd24_1 rfl) ⟨_,rfl,gB hg_2_9⟩ rfl ?_
    refine AK.val _ (Yl.loadBox on3 rfl bsp rfl) ⟨_,rfl,gB hg_2_9⟩ rfl ?_
    refine AK.val _ (Yl.move rfl) ⟨_,rfl,gB hg_2_9⟩ rfl ?_
    refine AK.val _ (Yl.lss rfl rfl) ⟨_,rfl,gB hg_2_9⟩ rfl ?_
    refine .v (.pickT rfl (hg_2_9) rfl) (.as rfl (.nt hK4 (.ret (.then_ret ?_))))
    refine AK.ret1 rfl rfl (fun w hw=>⟨_,_,?_,rfl,Ret.of (hw.pick [] (by decide) rfl rfl)⟩)
    refine ⟨congrArg Value.bool ?_,rfl⟩
    rw [wfE_eq]
    clear hk hr h hx ih hl hw
    generalize e.kids.length=m at *
    generalize e.kids.all (wfE n)=b at *
    first | (simp_all;done) | grind
   ·have hg_2_9':=hg_2_9
    try simp only [bs] at hg_2_9'
    refine AK.pass rfl rfl (hg_2_9) rfl ?_
    refine AK.pass rfl rfl (hg_2_9) rfl ?_
    refine AK.pass rfl rfl (hg_2_9) rfl ?_
    refine AK.pass rfl rfl (hg_2_9) rfl ?_
    refine .v (.pickF rfl (hg_2_9) rfl) (.as rfl (.nt hK4 (.ret (.then_ret ?_))))
    refine AK.ret1 rfl rfl (fun w hw=>⟨_,_,?_,rfl,Ret.of (hw.pick [] (by decide) rfl rfl)⟩)
    refine ⟨congrArg Value.bool ?_,rfl⟩
    rw [wfE_eq]
    clear hk hr h hx ih hl hw
    generalize e.kids.length=m at *
    generalize e.kids.all (wfE n)=b at *
    first | (simp_all;done) | grind
  ·have hg_2_4':=hg_2_4
   try simp only [bs] at hg_2_4'
   refine AK.pass rfl rfl (hg_2_4) rfl ?_
   refine AK.pass rfl rfl (hg_2_4) rfl ?_
   refine AK.pass rfl rfl (hg_2_4) rfl ?_
   refine .v (.pickF rfl (hg_2_4) rfl) (.mv rfl ?_)
   refine AK.pass rfl rfl rfl rfl ?_
   refine AK.pass rfl rfl rfl rfl ?_
   refine AK.pass rfl rfl rfl rfl ?_
   refine AK.pass rfl rfl rfl rfl ?_
   refine .v (.pickF rfl (rfl) rfl) (.as rfl (.nt hK4 (.ret (.then_ret ?_))))
   refine AK.ret1 rfl rfl (fun w hw=>⟨_,_,?_,rfl,Ret.of (hw.pick [] (by decide) rfl rfl)⟩)
   refine ⟨congrArg Value.bool ?_,rfl⟩
   rw [wfE_eq]
   clear hk hr h hx ih hl hw
   generalize e.kids.length=m at *
   generalize e.kids.all (wfE n)=b at *
   first | (simp_all;done) | grind
 ·refine .skip ?_
  refine AK.then_ (hK2 _ ?_)
  refine .seq fun _ hK5=>?_
  refine .sr fun _ hK6=>?_
  refine .v (.fieldAddr fd24_1 rfl) (.v (.loadBox on3 rfl bsp rfl) (.v (.neq rfl rfl) (.nt hK6 ?_)))
  refine AK.condNe rfl (fun hc1=>?_) (fun hc1=>?_)
  ·refine .sr fun _ hK7=>?_
   refine .as rfl (.nt hK7 (.ret (.then_ret ?_)))
   refine AK.ret1 rfl rfl (fun w hw=>⟨_,_,?_,rfl,Ret.of (hw.pick [] (by decide) rfl rfl)⟩)
   refine ⟨congrArg Value.bool ?_,rfl⟩
   rw [wfE_eq]
   clear hk hr h hx ih hl hw
   generalize e.kids.length=m at *
   generalize e.kids.all (wfE n)=b at *
   first | (simp_all;done) | grind
  ·refine .skip ?_
   refine AK.then_ (hK5 _ ?_)
   refine .seq fun _ hK8=>?_
   refine .sr fun _ hK9=>?_
   refine .v (.fieldAddr fd24_0 rfl) (.v (.loadBox on3 rfl bsp rfl) (.nt hK9 (.block ?_)))
   refine .seq fun _ hK10=>?_
   refine .sr fun _ hK11=>?_
   refine .v (.eql rfl rfl) (.as rfl (.nt hK11 ?_))
   refine AK.condD rfl (fun hc2=>?_) (fun hc2=>?_)
   ·refine .skip ?_
    refine AK.then_ (hK10 _ ?_)
    refine AK.cond_t rfl (decide_eq_true hc2) ?_
    refine .sr fun _ hK12=>?_
    refine .v (.fieldAddr fd24_2 rfl) (.v (.loadBox on22 rfl bsp rfl) (.v (.lenR sl22 rfl rdp) (.v (.eql rfl rfl) (.as rfl (.nt hK12 (.ret (.block_ret (.then_ret ?_))))))))
    refine AK.ret1 rfl rfl (fun w hw=>⟨_,_,?_,rfl,Ret.of (hw.pick [] (by decide) rfl rfl)⟩)
    refine ⟨congrArg Value.bool ?_,rfl⟩
    rw [wfE_eq]
    clear hk hr h hx ih hl hw
    generalize e.kids.length=m at *
    generalize e.kids.all (wfE n)=b at *
    first | (simp_all;done) | grind
   ·refine AK.region ?_
    refine .v (.eql rfl rfl) (.as rfl (.nt hK10 ?_))
    refine AK.condD rfl (fun hc3=>?_) (fun hc3=>?_)
    ·refine .sr fun _ hK13=>?_
     refine .v (.fieldAddr fd24_2 rfl) (.v (.loadBox on22 rfl bsp rfl) (.v (.lenR sl22 rfl rdp) (.v (.eql rfl rfl) (.as rfl (.nt hK13 (.ret (.block_ret (.then_ret ?_))))))))
     refine AK.ret1 rfl rfl (fun w hw=>⟨_,_,?_,rfl,Ret.of (hw.pick [] (by decide) rfl rfl)⟩)
     refine ⟨congrArg Value.bool ?_,rfl⟩
     rw [wfE_eq]
     clear hk hr h hx ih hl hw
     generalize e.kids.length=m at *
     generalize e.kids.all (wfE n)=b at *
     first | (simp_all;done) | grind
    ·refine .seq fun _ hK14=>?_
     refine .sr fun _ hK15=>?_
     refine .v (.eql rfl rfl) (.as rfl (.nt hK15 ?_))
     refine AK.condD rfl (fun hc4=>?_) (fun hc4=>?_)
     ·refine .skip ?_
      refine AK.then_ (hK14 _ ?_)
      refine AK.cond_t rfl (decide_eq_true hc4) ?_
      refine .sr fun _ hK16=>?_
      refine .v (.fieldAddr fd24_2 rfl) (.v (.loadBox on22 rfl bsp rfl) (.v (.lenR sl22 rfl rdp) (.v (.lss rfl rfl) (.nt hK16 ?_))))
      refine AK.condD rfl (fun hc7=>?_) (fun hc7=>?_)
      ·refine .sr fun _ hK17=>?_
       refine .as rfl (.nt hK17 (.ret (.block_ret (.then_ret ?_))))
       refine AK.ret1 rfl rfl (fun w hw=>⟨_,_,?_,rfl,Ret.of (hw.pick [] (by decide) rfl rfl)⟩)
       refine ⟨congrArg Value.bool ?_,rfl⟩
       rw [wfE_eq]
       clear hk hr h hx ih hl hw
       generalize e.kids.length=m at *
       generalize e.kids.all (wfE n)=b at *
       first | (simp_all;done) | grind
      ·refine .skip (.block_normal ?_)
       refine AK.then_ (hK8 _ ?_)
       refine .seq fun _ hK18=>?_
       refine .sr fun _ hK19=>?_
       refine .v (.fieldAddr fd24_2 rfl) (.v (.loadBox on22 rfl bsp rfl) (.v (.lenR sl22 rfl rdp) (.mv rfl (.nt hK19 (.block ?_)))))
       refine AK.loopK (X:=Nat) [(1,_),(53,_),(54,_)] (fun k=>[(55,.int .i64 (k:Int))]) (fun k=>[box bx2 24 3 [.int .i64 e.op,.int .i64 e.lt,s]]) (fun k=>k≤e.kids.length∧∀ i,i<k→wfE n (e.kids.getD i default)=true) (fun k=>e.kids.length - k) (0) slr ?_ ?_ ?_ ?_
       ·exact ⟨Nat.zero_le _,fun i hi=>(by omega)⟩
       ·exact slr
       ·exact fun w hw=>hw
       ·intro k hg0 _ hK20
        refine .sr fun _ hK21=>?_
        refine .v (.lss rfl rfl) (.nt hK21 ?_)
        refine .seq fun _ hK22=>?_
        refine AK.condD rfl (fun hc11=>?_) (fun hc11=>?_)
        ·have sk:=(hk k (by omega)).sl
         refine .skip ?_
         refine AK.then_ (hK22 _ ?_)
         refine .seq fun _ hK23=>?_
         refine .block ?_
         refine .sr fun _ hK24=>?_
         first | refine .v (.iN sl22 rfl rfl) ?_ | refine .v (.iK sl22 rfl rfl) ?_
         refine .v (.loadE ag24 rfl rdp (by assumption) rfl (by omega)) ?_
         refine AK.alloc el24 rfl rfl trivial rfl (fun bx6=>?_)
         refine AK.storeBox 1 (us:=[.int .i64 (e.kids.getD k default).op,.int .i64 (e.kids.getD k default).lt,ss.getD k undef]) (cs':=[.int .i64 (e.kids.getD k default).op,.int .i64 (e.kids.getD k default).lt,ss.getD k undef]) rfl sz24 rfl rfl rfl rfl oneP (leb rfl) rfl trivial ?_
         refine .nt hK24 ?_
         refine .sr fun _ hK25=>?_
         refine .v (.loadBoxG ag24 rfl bsp rfl rfl) (.mv rfl ?_)
         refine AK.call co98 rfl (fun w hw=>ih k (by omega) w _ ((hk k (by omega)).at hw)) trivial rfl ?_
         rintro r o ⟨rfl,rfl⟩
         refine .v (.not rfl) (.nt hK25 ?_)
         refine AK.condB rfl (fun hc12=>?_) (fun hc12=>?_)
         ·refine .sr fun _ hK26=>?_
          refine .as rfl (.nt hK26 (.ret (.block_ret (.then_ret (.then_ret (.block_ret (.then_ret ?_)))))))
          refine AK.ret1 rfl rfl (fun w hw=>⟨_,_,?_,rfl,Ret.of (hw.pick [] (by decide) rfl rfl)⟩)
          refine ⟨congrArg Value.bool ?_,rfl⟩
          rw [wfE_eq,all_false (k:=k) (by omega) (by simpa using hc12)]
          clear hk hr h hx ih hl hw hg0 hc11 hc12
          generalize e.kids.length=m at *
          first | (simp_all;done) | grind
         ·refine .skip (.block_normal ?_)
          refine AK.then_ (hK23 _ ?_)
          refine AK.region ?_
          refine .v (.add rfl rfl (by omega)) ?_
          refine .mv rfl (.nil ?_)
          refine AK.then_ (hK20 _ _ (k+1) ⟨by omega,fun i hi=>by rcases Nat.lt_or_ge i k with hik | hik;exact hg0.2 i hik;obtain rfl:i=k:=(by omega);simpa using hc12⟩ (by omega) (slr) (fun w hw=>hw.pick [0] (by decide) rfl rfl))
        ·refine .exit (.then_exit (.then_exit (.block_exit ?_)))
         refine AK.then_ (hK18 _ ?_)
         refine .sr fun _ hK27=>?_
         refine .as rfl (.nt hK27 (.ret ?_))
         refine AK.ret1 rfl rfl (fun w hw=>⟨_,_,?_,rfl,Ret.of (hw.pick [] (by decide) rfl rfl)⟩)
         refine ⟨congrArg Value.bool ?_,rfl⟩
         have ha:=all_true (p:=wfE n) (ks:=e.kids) (fun i hi=>hg0.2 i (by omega))
         rw [wfE_eq,ha]
         clear hk hr h hx ih hl hg0 hw hc11 ha
         generalize e.kids.length=m at *
         first | (simp_all;done) | grind
     ·refine .sr fun _ hK28=>?_
      refine .v (.eql rfl rfl) (.as rfl (.nt hK28 ?_))
      refine AK.condD rfl (fun hc5=>?_) (fun hc5=>?_)
      ·refine .skip ?_
       refine AK.then_ (hK14 _ ?_)
       refine AK.cond_t rfl (decide_eq_true hc5) ?_
       refine .sr fun _ hK29=>?_
       refine .v (.fieldAddr fd24_2 rfl) (.v (.loadBox on22 rfl bsp rfl) (.v (.lenR sl22 rfl rdp) (.v (.lss rfl rfl) (.nt hK29 ?_))))
       refine AK.condD rfl (fun hc7=>?_) (fun hc7=>?_)
       ·refine .sr fun _ hK30=>?_
        refine .as rfl (.nt hK30 (.ret (.block_ret (.then_ret ?_))))
        refine AK.ret1 rfl rfl (fun w hw=>⟨_,_,?_,rfl,Ret.of (hw.pick [] (by decide) rfl rfl)⟩)
        refine ⟨congrArg Value.bool ?_,rfl⟩
        rw [wfE_eq]
        clear hk hr h hx ih hl hw
        generalize e.kids.length=m at *
        generalize e.kids.all (wfE n)=b at *
        first | (simp_all;done) | grind
       ·refine .skip (.block_normal ?_)
        refine AK.then_ (hK8 _ ?_)
        refine .seq fun _ hK31=>?_
        refine .sr fun _ hK32=>?_
        refine .v (.fieldAddr fd24_2 rfl) (.v (.loadBox on22 rfl bsp rfl) (.v (.lenR sl22 rfl rdp) (.mv rfl (.nt hK32 (.block ?_)))))
        refine AK.loopK (X:=Nat) [(1,_),(53,_),(54,_)] (fun k=>[(55,.int .i64 (k:Int))]) (fun k=>[box bx2 24 3 [.int .i64 e.op,.int .i64 e.lt,s]]) (fun k=>k≤e.kids.length∧∀ i,i<k→wfE n (e.kids.getD i default)=true) (fun k=>e.kids.length - k) (0) slr ?_ ?_ ?_ ?_
        ·exact ⟨Nat.zero_le _,fun i hi=>(by omega)⟩
        ·exact slr
        ·exact fun w hw=>hw
        ·intro k hg0 _ hK33
         refine .sr fun _ hK34=>?_
         refine .v (.lss rfl rfl) (.nt hK34 ?_)
         refine .seq fun _ hK35=>?_
         refine AK.condD rfl (fun hc11=>?_) (fun hc11=>?_)
         ·have sk:=(hk k (by omega)).sl
          refine .skip ?_
          refine AK.then_ (hK35 _ ?_)
          refine .seq fun _ hK36=>?_
          refine .block ?_
          refine .sr fun _ hK37=>?_
          first | refine .v (.iN sl22 rfl rfl) ?_ | refine .v (.iK sl22 rfl rfl) ?_
          refine .v (.loadE ag24 rfl rdp (by assumption) rfl (by omega)) ?_
          refine AK.alloc el24 rfl rfl trivial rfl (fun bx6=>?_)
          refine AK.storeBox 1 (us:=[.int .i64 (e.kids.getD k default).op,.int .i64 (e.kids.getD k default).lt,ss.getD k undef]) (cs':=[.int .i64 (e.kids.getD k default).op,.int .i64 (e.kids.getD k default).lt,ss.getD k undef]) rfl sz24 rfl rfl rfl rfl oneP (leb rfl) rfl trivial ?_
          refine .nt hK37 ?_
          refine .sr fun _ hK38=>?_
          refine .v (.loadBoxG ag24 rfl bsp rfl rfl) (.mv rfl ?_)
          refine AK.call co98 rfl (fun w hw=>ih k (by omega) w _ ((hk k (by omega)).at hw)) trivial rfl ?_
          rintro r o ⟨rfl,rfl⟩
          refine .v (.not rfl) (.nt hK38 ?_)
          refine AK.condB rfl (fun hc12=>?_) (fun hc12=>?_)
          ·refine .sr fun _ hK39=>?_
           refine .as rfl (.nt hK39 (.ret (.block_ret (.then_ret (.then_ret (.block_ret (.then_ret ?_)))))))
           refine AK.ret1 rfl rfl (fun w hw=>⟨_,_,?_,rfl,Ret.of (hw.pick [] (by decide) rfl rfl)⟩)
           refine ⟨congrArg Value.bool ?_,rfl⟩
           rw [wfE_eq,all_false (k:=k) (by omega) (by simpa using hc12)]
           clear hk hr h hx ih hl hw hg0 hc11 hc12
           generalize e.kids.length=m at *
           first | (simp_all;done) | grind
          ·refine .skip (.block_normal ?_)
           refine AK.then_ (hK36 _ ?_)
           refine AK.region ?_
           refine .v (.add rfl rfl (by omega)) ?_
           refine .mv rfl (.nil ?_)
           refine AK.then_ (hK33 _ _ (k+1) ⟨by omega,fun i hi=>by rcases Nat.lt_or_ge i k with hik | hik;exact hg0.2 i hik;obtain rfl:i=k:=(by omega);simpa using hc12⟩ (by omega) (slr) (fun w hw=>hw.pick [0] (by decide) rfl rfl))
         ·refine .exit (.then_exit (.then_exit (.block_exit ?_)))
          refine AK.then_ (hK31 _ ?_)
          refine .sr fun _ hK40=>?_
          refine .as rfl (.nt hK40 (.ret ?_))
          refine AK.ret1 rfl rfl (fun w hw=>⟨_,_,?_,rfl,Ret.of (hw.pick [] (by decide) rfl rfl)⟩)
          refine ⟨congrArg Value.bool ?_,rfl⟩
          have ha:=all_true (p:=wfE n) (ks:=e.kids) (fun i hi=>hg0.2 i (by omega))
          rw [wfE_eq,ha]
          clear hk hr h hx ih hl hg0 hw hc11 ha
          generalize e.kids.length=m at *
          first | (simp_all;done) | grind
      ·refine AK.region ?_
       refine .v (.eql rfl rfl) (.as rfl (.nt hK14 ?_))
       refine AK.condD rfl (fun hc6=>?_) (fun hc6=>?_)
       ·refine .sr fun _ hK41=>?_
        refine .v (.fieldAddr fd24_2 rfl) (.v (.loadBox on22 rfl bsp rfl) (.v (.lenR sl22 rfl rdp) (.v (.lss rfl rfl) (.nt hK41 ?_))))
        refine AK.condD rfl (fun hc7=>?_) (fun hc7=>?_)
        ·refine .sr fun _ hK42=>?_
         refine .as rfl (.nt hK42 (.ret (.block_ret (.then_ret ?_))))
         refine AK.ret1 rfl rfl (fun w hw=>⟨_,_,?_,rfl,Ret.of (hw.pick [] (by decide) rfl rfl)⟩)
         refine ⟨congrArg Value.bool ?_,rfl⟩
         rw [wfE_eq]
         clear hk hr h hx ih hl hw
         generalize e.kids.length=m at *
         generalize e.kids.all (wfE n)=b at *
         first | (simp_all;done) | grind
        ·refine .skip (.block_normal ?_)
         refine AK.then_ (hK8 _ ?_)
         refine .seq fun _ hK43=>?_
         refine .sr fun _ hK44=>?_
         refine .v (.fieldAddr fd24_2 rfl) (.v (.loadBox on22 rfl bsp rfl) (.v (.lenR sl22 rfl rdp) (.mv rfl (.nt hK44 (.block ?_)))))
         refine AK.loopK (X:=Nat) [(1,_),(53,_),(54,_)] (fun k=>[(55,.int .i64 (k:Int))]) (fun k=>[box bx2 24 3 [.int .i64 e.op,.int .i64 e.lt,s]]) (fun k=>k≤e.kids.length∧∀ i,i<k→wfE n (e.kids.getD i default)=true) (fun k=>e.kids.length - k) (0) slr ?_ ?_ ?_ ?_
         ·exact ⟨Nat.zero_le _,fun i hi=>(by omega)⟩
         ·exact slr
         ·exact fun w hw=>hw
         ·intro k hg0 _ hK45
          refine .sr fun _ hK46=>?_
          refine .v (.lss rfl rfl) (.nt hK46 ?_)
          refine .seq fun _ hK47=>?_
          refine AK.condD rfl (fun hc11=>?_) (fun hc11=>?_)
          ·have sk:=(hk k (by omega)).sl
           refine .skip ?_
           refine AK.then_ (hK47 _ ?_)
           refine .seq fun _ hK48=>?_
           refine .block ?_
           refine .sr fun _ hK49=>?_
           first | refine .v (.iN sl22 rfl rfl) ?_ | refine .v (.iK sl22 rfl rfl) ?_
           refine .v (.loadE ag24 rfl rdp (by assumption) rfl (by omega)) ?_
           refine AK.alloc el24 rfl rfl trivial rfl (fun bx6=>?_)
           refine AK.storeBox 1 (us:=[.int .i64 (e.kids.getD k default).op,.int .i64 (e.kids.getD k default).lt,ss.getD k undef]) (cs':=[.int .i64 (e.kids.getD k default).op,.int .i64 (e.kids.getD k default).lt,ss.getD k undef]) rfl sz24 rfl rfl rfl rfl oneP (leb rfl) rfl trivial ?_
           refine .nt hK49 ?_
           refine .sr fun _ hK50=>?_
           refine .v (.loadBoxG ag24 rfl bsp rfl rfl) (.mv rfl ?_)
           refine AK.call co98 rfl (fun w hw=>ih k (by omega) w _ ((hk k (by omega)).at hw)) trivial rfl ?_
           rintro r o ⟨rfl,rfl⟩
           refine .v (.not rfl) (.nt hK50 ?_)
           refine AK.condB rfl (fun hc12=>?_) (fun hc12=>?_)
           ·refine .sr fun _ hK51=>?_
            refine .as rfl (.nt hK51 (.ret (.block_ret (.then_ret (.then_ret (.block_ret (.then_ret ?_)))))))
            refine AK.ret1 rfl rfl (fun w hw=>⟨_,_,?_,rfl,Ret.of (hw.pick [] (by decide) rfl rfl)⟩)
            refine ⟨congrArg Value.bool ?_,rfl⟩
            rw [wfE_eq,all_false (k:=k) (by omega) (by simpa using hc12)]
            clear hk hr h hx ih hl hw hg0 hc11 hc12
            generalize e.kids.length=m at *
            first | (simp_all;done) | grind
           ·refine .skip (.block_normal ?_)
            refine AK.then_ (hK48 _ ?_)
            refine AK.region ?_
            refine .v (.add rfl rfl (by omega)) ?_
            refine .mv rfl (.nil ?_)
            refine AK.then_ (hK45 _ _ (k+1) ⟨by omega,fun i hi=>by rcases Nat.lt_or_ge i k with hik | hik;exact hg0.2 i hik;obtain rfl:i=k:=(by omega);simpa using hc12⟩ (by omega) (slr) (fun w hw=>hw.pick [0] (by decide) rfl rfl))
          ·refine .exit (.then_exit (.then_exit (.block_exit ?_)))
           refine AK.then_ (hK43 _ ?_)
           refine .sr fun _ hK52=>?_
           refine .as rfl (.nt hK52 (.ret ?_))
           refine AK.ret1 rfl rfl (fun w hw=>⟨_,_,?_,rfl,Ret.of (hw.pick [] (by decide) rfl rfl)⟩)
           refine ⟨congrArg Value.bool ?_,rfl⟩
           have ha:=all_true (p:=wfE n) (ks:=e.kids) (fun i hi=>hg0.2 i (by omega))
           rw [wfE_eq,ha]
           clear hk hr h hx ih hl hg0 hw hc11 ha
           generalize e.kids.length=m at *
           first | (simp_all;done) | grind
       ·refine .seq fun _ hK53=>?_
        refine .sr fun _ hK54=>?_
        refine .v (.eql rfl rfl) (.as rfl (.nt hK54 ?_))
        refine AK.condD rfl (fun hc8=>?_) (fun hc8=>?_)
        ·refine .skip ?_
         refine AK.then_ (hK53 _ ?_)
         refine AK.cond_t rfl (decide_eq_true hc8) ?_
         refine .sr fun _ hK55=>?_
         refine .v (.fieldAddr fd24_2 rfl) (.v (.loadBox on22 rfl bsp rfl) (.v (.lenR sl22 rfl rdp) (.v (.neq rfl rfl) (.nt hK55 ?_))))
         refine AK.condNe rfl (fun hc10=>?_) (fun hc10=>?_)
         ·refine .sr fun _ hK56=>?_
          refine .as rfl (.nt hK56 (.ret (.block_ret (.then_ret ?_))))
          refine AK.ret1 rfl rfl (fun w hw=>⟨_,_,?_,rfl,Ret.of (hw.pick [] (by decide) rfl rfl)⟩)
          refine ⟨congrArg Value.bool ?_,rfl⟩
          rw [wfE_eq]
          clear hk hr h hx ih hl hw
          generalize e.kids.length=m at *
          generalize e.kids.all (wfE n)=b at *
          first | (simp_all;done) | grind
         ·refine .skip (.block_normal ?_)
          refine AK.then_ (hK8 _ ?_)
          refine .seq fun _ hK57=>?_
          refine .sr fun _ hK58=>?_
          refine .v (.fieldAddr fd24_2 rfl) (.v (.loadBox on22 rfl bsp rfl) (.v (.lenR sl22 rfl rdp) (.mv rfl (.nt hK58 (.block ?_)))))
          refine AK.loopK (X:=Nat) [(1,_),(53,_),(54,_)] (fun k=>[(55,.int .i64 (k:Int))]) (fun k=>[box bx2 24 3 [.int .i64 e.op,.int .i64 e.lt,s]]) (fun k=>k≤e.kids.length∧∀ i,i<k→wfE n (e.kids.getD i default)=true) (fun k=>e.kids.length - k) (0) slr ?_ ?_ ?_ ?_
          ·exact ⟨Nat.zero_le _,fun i hi=>(by omega)⟩
          ·exact slr
          ·exact fun w hw=>hw
          ·intro k hg0 _ hK59
           refine .sr fun _ hK60=>?_
           refine .v (.lss rfl rfl) (.nt hK60 ?_)
           refine .seq fun _ hK61=>?_
           refine AK.condD rfl (fun hc11=>?_) (fun hc11=>?_)
           ·have sk:=(hk k (by omega)).sl
            refine .skip ?_
            refine AK.then_ (hK61 _ ?_)
            refine .seq fun _ hK62=>?_
            refine .block ?_
            refine .sr fun _ hK63=>?_
            first | refine .v (.iN sl22 rfl rfl) ?_ | refine .v (.iK sl22 rfl rfl) ?_
            refine .v (.loadE ag24 rfl rdp (by assumption) rfl (by omega)) ?_
            refine AK.alloc el24 rfl rfl trivial rfl (fun bx6=>?_)
            refine AK.storeBox 1 (us:=[.int .i64 (e.kids.getD k default).op,.int .i64 (e.kids.getD k default).lt,ss.getD k undef]) (cs':=[.int .i64 (e.kids.getD k default).op,.int .i64 (e.kids.getD k default).lt,ss.getD k undef]) rfl sz24 rfl rfl rfl rfl oneP (leb rfl) rfl trivial ?_
            refine .nt hK63 ?_
            refine .sr fun _ hK64=>?_
            refine .v (.loadBoxG ag24 rfl bsp rfl rfl) (.mv rfl ?_)
            refine AK.call co98 rfl (fun w hw=>ih k (by omega) w _ ((hk k (by omega)).at hw)) trivial rfl ?_
            rintro r o ⟨rfl,rfl⟩
            refine .v (.not rfl) (.nt hK64 ?_)
            refine AK.condB rfl (fun hc12=>?_) (fun hc12=>?_)
            ·refine .sr fun _ hK65=>?_
             refine .as rfl (.nt hK65 (.ret (.block_ret (.then_ret (.then_ret (.block_ret (.then_ret ?_)))))))
             refine AK.ret1 rfl rfl (fun w hw=>⟨_,_,?_,rfl,Ret.of (hw.pick [] (by decide) rfl rfl)⟩)
             refine ⟨congrArg Value.bool ?_,rfl⟩
             rw [wfE_eq,all_false (k:=k) (by omega) (by simpa using hc12)]
             clear hk hr h hx ih hl hw hg0 hc11 hc12
             generalize e.kids.length=m at *
             first | (simp_all;done) | grind
            ·refine .skip (.block_normal ?_)
             refine AK.then_ (hK62 _ ?_)
             refine AK.region ?_
             refine .v (.add rfl rfl (by omega)) ?_
             refine .mv rfl (.nil ?_)
             refine AK.then_ (hK59 _ _ (k+1) ⟨by omega,fun i hi=>by rcases Nat.lt_or_ge i k with hik | hik;exact hg0.2 i hik;obtain rfl:i=k:=(by omega);simpa using hc12⟩ (by omega) (slr) (fun w hw=>hw.pick [0] (by decide) rfl rfl))
           ·refine .exit (.then_exit (.then_exit (.block_exit ?_)))
            refine AK.then_ (hK57 _ ?_)
            refine .sr fun _ hK66=>?_
            refine .as rfl (.nt hK66 (.ret ?_))
            refine AK.ret1 rfl rfl (fun w hw=>⟨_,_,?_,rfl,Ret.of (hw.pick [] (by decide) rfl rfl)⟩)
            refine ⟨congrArg Value.bool ?_,rfl⟩
            have ha:=all_true (p:=wfE n) (ks:=e.kids) (fun i hi=>hg0.2 i (by omega))
            rw [wfE_eq,ha]
            clear hk hr h hx ih hl hg0 hw hc11 ha
            generalize e.kids.length=m at *
            first | (simp_all;done) | grind
        ·refine AK.region ?_
         refine .v (.eql rfl rfl) (.as rfl (.nt hK53 ?_))
         refine AK.condD rfl (fun hc9=>?_) (fun hc9=>?_)
         ·refine .sr fun _ hK67=>?_
          refine .v (.fieldAddr fd24_2 rfl) (.v (.loadBox on22 rfl bsp rfl) (.v (.lenR sl22 rfl rdp) (.v (.neq rfl rfl) (.nt hK67 ?_))))
          refine AK.condNe rfl (fun hc10=>?_) (fun hc10=>?_)
          ·refine .sr fun _ hK68=>?_
           refine .as rfl (.nt hK68 (.ret (.block_ret (.then_ret ?_))))
           refine AK.ret1 rfl rfl (fun w hw=>⟨_,_,?_,rfl,Ret.of (hw.pick [] (by decide) rfl rfl)⟩)
           refine ⟨congrArg Value.bool ?_,rfl⟩
           rw [wfE_eq]
           clear hk hr h hx ih hl hw
           generalize e.kids.length=m at *
           generalize e.kids.all (wfE n)=b at *
           first | (simp_all;done) | grind
          ·refine .skip (.block_normal ?_)
           refine AK.then_ (hK8 _ ?_)
           refine .seq fun _ hK69=>?_
           refine .sr fun _ hK70=>?_
           refine .v (.fieldAddr fd24_2 rfl) (.v (.loadBox on22 rfl bsp rfl) (.v (.lenR sl22 rfl rdp) (.mv rfl (.nt hK70 (.block ?_)))))
           refine AK.loopK (X:=Nat) [(1,_),(53,_),(54,_)] (fun k=>[(55,.int .i64 (k:Int))]) (fun k=>[box bx2 24 3 [.int .i64 e.op,.int .i64 e.lt,s]]) (fun k=>k≤e.kids.length∧∀ i,i<k→wfE n (e.kids.getD i default)=true) (fun k=>e.kids.length - k) (0) slr ?_ ?_ ?_ ?_
           ·exact ⟨Nat.zero_le _,fun i hi=>(by omega)⟩
           ·exact slr
           ·exact fun w hw=>hw
           ·intro k hg0 _ hK71
            refine .sr fun _ hK72=>?_
            refine .v (.lss rfl rfl) (.nt hK72 ?_)
            refine .seq fun _ hK73=>?_
            refine AK.condD rfl (fun hc11=>?_) (fun hc11=>?_)
            ·have sk:=(hk k (by omega)).sl
             refine .skip ?_
             refine AK.then_ (hK73 _ ?_)
             refine .seq fun _ hK74=>?_
             refine .block ?_
             refine .sr fun _ hK75=>?_
             first | refine .v (.iN sl22 rfl rfl) ?_ | refine .v (.iK sl22 rfl rfl) ?_
             refine .v (.loadE ag24 rfl rdp (by assumption) rfl (by omega)) ?_
             refine AK.alloc el24 rfl rfl trivial rfl (fun bx6=>?_)
             refine AK.storeBox 1 (us:=[.int .i64 (e.kids.getD k default).op,.int .i64 (e.kids.getD k default).lt,ss.getD k undef]) (cs':=[.int .i64 (e.kids.getD k default).op,.int .i64 (e.kids.getD k default).lt,ss.getD k undef]) rfl sz24 rfl rfl rfl rfl oneP (leb rfl) rfl trivial ?_
             refine .nt hK75 ?_
             refine .sr fun _ hK76=>?_
             refine .v (.loadBoxG ag24 rfl bsp rfl rfl) (.mv rfl ?_)
             refine AK.call co98 rfl (fun w hw=>ih k (by omega) w _ ((hk k (by omega)).at hw)) trivial rfl ?_
             rintro r o ⟨rfl,rfl⟩
             refine .v (.not rfl) (.nt hK76 ?_)
             refine AK.condB rfl (fun hc12=>?_) (fun hc12=>?_)
             ·refine .sr fun _ hK77=>?_
              refine .as rfl (.nt hK77 (.ret (.block_ret (.then_ret (.then_ret (.block_ret (.then_ret ?_)))))))
              refine AK.ret1 rfl rfl (fun w hw=>⟨_,_,?_,rfl,Ret.of (hw.pick [] (by decide) rfl rfl)⟩)
              refine ⟨congrArg Value.bool ?_,rfl⟩
              rw [wfE_eq,all_false (k:=k) (by omega) (by simpa using hc12)]
              clear hk hr h hx ih hl hw hg0 hc11 hc12
              generalize e.kids.length=m at *
              first | (simp_all;done) | grind
             ·refine .skip (.block_normal ?_)
              refine AK.then_ (hK74 _ ?_)
              refine AK.region ?_
              refine .v (.add rfl rfl (by omega)) ?_
              refine .mv rfl (.nil ?_)
              refine AK.then_ (hK71 _ _ (k+1) ⟨by omega,fun i hi=>by rcases Nat.lt_or_ge i k with hik | hik;exact hg0.2 i hik;obtain rfl:i=k:=(by omega);simpa using hc12⟩ (by omega) (slr) (fun w hw=>hw.pick [0] (by decide) rfl rfl))
            ·refine .exit (.then_exit (.then_exit (.block_exit ?_)))
             refine AK.then_ (hK69 _ ?_)
             refine .sr fun _ hK78=>?_
             refine .as rfl (.nt hK78 (.ret ?_))
             refine AK.ret1 rfl rfl (fun w hw=>⟨_,_,?_,rfl,Ret.of (hw.pick [] (by decide) rfl rfl)⟩)
             refine ⟨congrArg Value.bool ?_,rfl⟩
             have ha:=all_true (p:=wfE n) (ks:=e.kids) (fun i hi=>hg0.2 i (by omega))
             rw [wfE_eq,ha]
             clear hk hr h hx ih hl hg0 hw hc11 ha
             generalize e.kids.length=m at *
             first | (simp_all;done) | grind
         ·refine .sr fun _ hK79=>?_
          refine .as rfl (.nt hK79 (.ret (.block_ret (.then_ret ?_))))
          refine AK.ret1 rfl rfl (fun w hw=>⟨_,_,?_,rfl,Ret.of (hw.pick [] (by decide) rfl rfl)⟩)
          refine ⟨congrArg Value.bool ?_,rfl⟩
          rw [wfE_eq]
          clear hk hr h hx ih hl hw
          generalize e.kids.length=m at *
          generalize e.kids.all (wfE n)=b at *
          first | (simp_all;done) | grind
theorem s_wf (n:Int) (e:Ex):WfS n e:=Ex.ind (P:=WfS n) (fun e ih w s h=>s_wf_step n e ih w s h) e
theorem s_valid (w:World) (e:Ex) (s:Value) (n:Int) (h:RdK (cellR (fun _=>False) w) s e.kids):CallS Tryz.prog 43 [.agg #[.int .i64 e.op,.int .i64 e.lt,s],.int .i64 n] w (fun r o=>r = .int .i64 (validE e n)∧o=[]):=by
 refine spec_of Tryz.func43 rfl (leb rfl) ?_
 refine .sr fun _ hK1=>?_
 refine AK.box_ (E:=24) (cs:=[.int .i64 e.op,.int .i64 e.lt,s]) rfl rfl rfl trivial rfl (fun bx2=>?_)
 refine .as rfl (.nt hK1 ?_)
 refine .seq fun _ hK2=>?_
 refine .sr fun _ hK3=>?_
 refine .mv rfl (.v (.lss rfl rfl) (.mv rfl ?_))
 refine AK.splitB (g:=7) rfl (fun hg_1_2=>?_) (fun hg_1_2=>?_)
 ·have hg_1_2':=hg_1_2
  try simp only [bs] at hg_1_2'
  refine AK.pass rfl rfl (hg_1_2) rfl ?_
  refine AK.pass rfl rfl (hg_1_2) rfl ?_
  refine .v (.pickT rfl (hg_1_2) rfl) (.nt hK3 ?_)
  refine AK.cond_t rfl (rfl) ?_
  refine .sr fun _ hK4=>?_
  refine .as rfl (.nt hK4 (.ret (.then_ret ?_)))
  refine AK.ret1 rfl rfl (fun w hw=>⟨_,_,?_,rfl,Ret.of (hw.pick [] (by decide) rfl rfl)⟩)
  refine ⟨congrArg (Value.int .i64) ?_,rfl⟩
  unfold validE
  clear h
  first | (simp_all;done) | (simp_all <;> omega)
 ·have hg_1_2':=hg_1_2
  try simp only [bs] at hg_1_2'
  refine AK.val _ (Yl.move rfl) ⟨_,rfl,gB hg_1_2⟩ rfl ?_
  refine AK.val _ (Yl.gtr rfl rfl) ⟨_,rfl,gB hg_1_2⟩ rfl ?_
  refine .v (.pickF rfl (hg_1_2) rfl) (.nt hK3 ?_)
  refine AK.condD rfl (fun hc0=>?_) (fun hc0=>?_)
  ·refine .sr fun _ hK5=>?_
   refine .as rfl (.nt hK5 (.ret (.then_ret ?_)))
   refine AK.ret1 rfl rfl (fun w hw=>⟨_,_,?_,rfl,Ret.of (hw.pick [] (by decide) rfl rfl)⟩)
   refine ⟨congrArg (Value.int .i64) ?_,rfl⟩
   unfold validE
   clear h
   first | (simp_all;done) | (simp_all <;> omega)
  ·refine .skip ?_
   refine AK.then_ (hK2 _ ?_)
   refine .seq fun _ hK6=>?_
   refine .sr fun _ hK7=>?_
   refine .v (.loadBoxG ag24 rfl bsp rfl rfl) ?_
   refine AK.call co97 rfl (fun w hw=>s_within w e s (h.at hw)) trivial rfl ?_
   rintro r o ⟨rfl,rfl⟩
   refine .v (.not rfl) (.nt hK7 ?_)
   refine AK.condB rfl (fun hc1=>?_) (fun hc1=>?_)
   ·refine .sr fun _ hK8=>?_
    refine .as rfl (.nt hK8 (.ret (.then_ret ?_)))
    refine AK.ret1 rfl rfl (fun w hw=>⟨_,_,?_,rfl,Ret.of (hw.pick [] (by decide) rfl rfl)⟩)
    refine ⟨congrArg (Value.int .i64) ?_,rfl⟩
    unfold validE
    clear h
    first | (simp_all;done) | (simp_all <;> omega)
   ·refine .skip ?_
    refine AK.then_ (hK6 _ ?_)
    refine .seq fun _ hK9=>?_
    refine .sr fun _ hK10=>?_
    refine .v (.loadBoxG ag24 rfl bsp rfl rfl) (.mv rfl ?_)
    refine AK.call co98 rfl (fun w hw=>s_wf n e w s (h.at hw)) trivial rfl ?_
    rintro r o ⟨rfl,rfl⟩
    refine .v (.not rfl) (.nt hK10 ?_)
    refine AK.condB rfl (fun hc2=>?_) (fun hc2=>?_)
    ·refine .sr fun _ hK11=>?_
     refine .as rfl (.nt hK11 (.ret (.then_ret ?_)))
     refine AK.ret1 rfl rfl (fun w hw=>⟨_,_,?_,rfl,Ret.of (hw.pick [] (by decide) rfl rfl)⟩)
     refine ⟨congrArg (Value.int .i64) ?_,rfl⟩
     unfold validE
     clear h
     first | (simp_all;done) | (simp_all <;> omega)
    ·refine .skip ?_
     refine AK.then_ (hK9 _ ?_)
     refine .sr fun _ hK12=>?_
     refine .as rfl (.nt hK12 (.ret ?_))
     refine AK.ret1 rfl rfl (fun w hw=>⟨_,_,?_,rfl,Ret.of (hw.pick [] (by decide) rfl rfl)⟩)
     refine ⟨congrArg (Value.int .i64) ?_,rfl⟩
     unfold validE
     clear h
     first | (simp_all;done) | (simp_all <;> omega)
theorem s_val6 (w:World) (e:Ex) (s:Value) (h:RdK (cellR (fun _=>False) w) s e.kids):CallS Tryz.prog 37 [.agg #[.int .i64 e.op,.int .i64 e.lt,s]] w (fun r o=>r = .bool (decide (validE e 6=0))∧o=[]):=by
 refine spec_of Tryz.func37 rfl (leb rfl) ?_
 refine .sr fun _ hK1=>?_
 refine AK.box_ (E:=24) (cs:=[.int .i64 e.op,.int .i64 e.lt,s]) rfl rfl rfl trivial rfl (fun bx1=>?_)
 refine .as rfl (.nt hK1 ?_)
 refine .sr fun _ hK2=>?_
 refine .v (.loadBoxG ag24 rfl bsp rfl rfl) ?_
 refine AK.call co43 rfl (fun w hw=>s_valid w e s 6 (h.at hw)) trivial rfl ?_
 rintro r o ⟨rfl,rfl⟩
 refine .v (.eql rfl rfl) (.as rfl (.nt hK2 (.ret ?_)))
 refine AK.ret1 rfl rfl (fun w hw=>⟨_,_,?_,rfl,Ret.of (hw.pick [] (by decide) rfl rfl)⟩)
 exact ⟨rfl,rfl⟩
theorem s_index (w:World) (f:FuncId) (hco:CallOk Tryz.prog f) (p:Ex→Bool) (s:Value) (ks:List Ex) (ss:List Value) (hl:ss.length=ks.length) (hsl:∀ i,i<ks.length→IsSl (ss.getD i undef)) (hr:Rd (fun b=>¬ (fun _=>False) b) w s 3 ks.length (xcs ks ss)) (hf:∀ w',FrameX (fun _=>False) w w'→∀ i,i<ks.length→CallS Tryz.prog f [.agg #[.int .i64 (ks.getD i default).op,.int .i64 (ks.getD i default).lt,ss.getD i undef]] w' (fun r o=>r = .bool (p (ks.getD i default))∧o=[])):CallS Tryz.prog 78 [s,.func (.func f) #[] #[]] w (fun r o=>r = .int .i64 (idxE p ks)∧o=[]):=by
 have hm:=hr.le
 refine spec_of Tryz.func78 rfl (leb rfl) ?_
 refine .sr fun _ hK1=>?_
 refine .as rfl (.nt hK1 ?_)
 refine .seq fun _ hK2=>?_
 refine .sr fun _ hK3=>?_
 refine .mv rfl (.v (.lenR sl22 rfl rdp) (.mv rfl (.nt hK3 (.block ?_))))
 refine AK.loopK (X:=Nat) [(0,_),(1,_),(7,_)] (fun k=>[(8,.int .i64 (k:Int))]) (fun k=>[]) (fun k=>k≤ks.length∧∀ i,i<k→p (ks.getD i default)=false) (fun k=>ks.length - k) (0) slr ?_ ?_ ?_ ?_
 ·exact ⟨Nat.zero_le _,fun i hi=>(by omega)⟩
 ·exact slr
 ·exact fun w hw=>hw
 ·intro k hg0 _ hK4
  refine .sr fun _ hK5=>?_
  refine .v (.lss rfl rfl) (.nt hK5 ?_)
  refine .seq fun _ hK6=>?_
  refine AK.condD rfl (fun hc0=>?_) (fun hc0=>?_)
  ·refine .skip ?_
   refine AK.then_ (hK6 _ ?_)
   refine .seq fun _ hK7=>?_
   refine .block ?_
   refine .sr fun _ hK8=>?_
   refine .mv rfl (.as rfl (.nt hK8 ?_))
   refine .sr fun _ hK9=>?_
   refine .mv rfl (.mv rfl (.mv rfl ?_))
   first | refine .v (.iN sl22 rfl rfl) ?_ | refine .v (.iK sl22 rfl rfl) ?_
   refine .v (.loadE ag24 rfl rdp (by assumption) rfl (by omega)) ?_
   refine AK.callV (us:=[]) (cs:=[]) hco rfl rfl (fun w hw=>hf w hw.frame k (by omega)) trivial rfl ?_
   rintro r o ⟨rfl,rfl⟩
   refine .nt hK9 ?_
   refine AK.cond rfl (fun hc1=>?_) (fun hc1=>?_)
   ·try simp only [bs] at hc1
    refine .sr fun _ hK10=>?_
    refine .mv rfl (.as rfl (.nt hK10 (.ret (.block_ret (.then_ret (.then_ret (.block_ret (.then_ret ?_))))))))
    refine AK.ret1 rfl rfl (fun w hw=>⟨_,_,?_,rfl,Ret.of (hw.pick [] (by decide) rfl rfl)⟩)
    refine ⟨congrArg (Value.int .i64) ?_,rfl⟩
    exact (idxE_some (by omega) hg0.2 (by simpa using hc1)).symm
   ·try simp only [bs] at hc1
    refine .skip (.block_normal ?_)
    refine AK.then_ (hK7 _ ?_)
    refine AK.region ?_
    refine .v (.add rfl rfl (by omega)) ?_
    refine .mv rfl (.nil ?_)
    refine AK.then_ (hK4 _ _ (k+1) ⟨by omega,fun i hi=>by rcases Nat.lt_or_ge i k with hik | hik;exact hg0.2 i hik;obtain rfl:i=k:=(by omega);simpa using hc1⟩ (by omega) (slr) (fun w hw=>hw))
  ·refine .exit (.then_exit (.then_exit (.block_exit ?_)))
   refine AK.then_ (hK2 _ ?_)
   refine .sr fun _ hK11=>?_
   refine .as rfl (.nt hK11 (.ret ?_))
   refine AK.ret1 rfl rfl (fun w hw=>⟨_,_,?_,rfl,Ret.of (hw.pick [] (by decide) rfl rfl)⟩)
   refine ⟨congrArg (Value.int .i64) ?_,rfl⟩
   exact (idxE_none fun i hi=>hg0.2 i (by omega)).symm
theorem s_contains (w:World) (f:FuncId) (hco:CallOk Tryz.prog f) (p:Ex→Bool) (s:Value) (ks:List Ex) (ss:List Value) (hl:ss.length=ks.length) (hsl:∀ i,i<ks.length→IsSl (ss.getD i undef)) (hr:Rd (fun b=>¬ (fun _=>False) b) w s 3 ks.length (xcs ks ss)) (hf:∀ w',FrameX (fun _=>False) w w'→∀ i,i<ks.length→CallS Tryz.prog f [.agg #[.int .i64 (ks.getD i default).op,.int .i64 (ks.getD i default).lt,ss.getD i undef]] w' (fun r o=>r = .bool (p (ks.getD i default))∧o=[])):CallS Tryz.prog 105 [s,.func (.func f) #[] #[]] w (fun r o=>r = .bool (ks.any p)∧o=[]):=by
 have hm:=hr.le
 refine spec_of Tryz.func105 rfl (leb rfl) ?_
 refine .sr fun _ hK1=>?_
 refine .as rfl (.nt hK1 ?_)
 refine .sr fun _ hK2=>?_
 refine .mv rfl (.mv rfl ?_)
 refine AK.call co78 rfl (fun w hw=>s_index w f hco p s ks ss hl hsl (hr.mono fun b _ hlt=>⟨id,hw.frame.block b hlt id⟩) (fun w' hfr i hi=>hf w' (hw.frame.step hfr (fun _ h _=>h)) i hi)) trivial rfl ?_
 rintro r o ⟨rfl,rfl⟩
 refine .v (.geq rfl rfl) (.as rfl (.nt hK2 (.ret ?_)))
 refine AK.ret1 rfl rfl (fun w hw=>⟨_,_,?_,rfl,Ret.of (hw.pick [] (by decide) rfl rfl)⟩)
 refine ⟨congrArg Value.bool ?_,rfl⟩
 have:=(idxE_any p ks).1
 rw [Bool.eq_iff_iff,this];simp
def HuS (e:Ex):Prop:=∀ (w:World) (s:Value) (h:RdK (cellR (fun _=>False) w) s e.kids),CallS Tryz.prog 52 [.agg #[.int .i64 e.op,.int .i64 e.lt,s]] w (fun r o=>r = .bool (hasU e)∧o=[])
set_option maxHeartbeats 1000000 in
theorem s_hasu_step (e:Ex) (ih:∀ i,i<e.kids.length→HuS (e.kids.getD i default)) (w:World) (s:Value) (h:RdK (cellR (fun _=>False) w) s e.kids):CallS Tryz.prog 52 [.agg #[.int .i64 e.op,.int .i64 e.lt,s]] w (fun r o=>r = .bool (hasU e)∧o=[]):=by
 obtain ⟨ss,hl,hx,hk⟩:=h.inv
 have hr:=hx.rd
 have hm:=hr.le
 refine spec_of Tryz.func52 rfl (leb rfl) ?_
 refine .sr fun _ hK1=>?_
 refine AK.box_ (E:=24) (cs:=[.int .i64 e.op,.int .i64 e.lt,s]) rfl rfl rfl trivial rfl (fun bx1=>?_)
 refine .as rfl (.nt hK1 ?_)
 refine .seq fun _ hK2=>?_
 refine .sr fun _ hK3=>?_
 refine .v (.fieldAddr fd24_0 rfl) (.v (.loadBox on3 rfl bsp rfl) (.nt hK3 (.block ?_)))
 refine .seq fun _ hK4=>?_
 refine .sr fun _ hK5=>?_
 refine .v (.eql rfl rfl) (.as rfl (.nt hK5 ?_))
 refine AK.condD rfl (fun hc0=>?_) (fun hc0=>?_)
 ·refine .skip ?_
  refine AK.then_ (hK4 _ ?_)
  refine AK.cond_t rfl (decide_eq_true hc0) ?_
  refine .sr fun _ hK6=>?_
  refine .as rfl (.nt hK6 (.ret (.block_ret (.then_ret ?_))))
  refine AK.ret1 rfl rfl (fun w hw=>⟨_,_,?_,rfl,Ret.of (hw.pick [] (by decide) rfl rfl)⟩)
  refine ⟨congrArg Value.bool ?_,rfl⟩
  rw [hasU_eq e]
  clear hk hr h hx ih hl hw
  generalize e.kids.getD 0 default=x0 at *
  generalize e.kids.length=m at *
  first | (simp_all;done) | grind
 ·refine AK.region ?_
  refine .v (.eql rfl rfl) (.as rfl (.nt hK4 ?_))
  refine AK.condD rfl (fun hc1=>?_) (fun hc1=>?_)
  ·refine .sr fun _ hK7=>?_
   refine .as rfl (.nt hK7 (.ret (.block_ret (.then_ret ?_))))
   refine AK.ret1 rfl rfl (fun w hw=>⟨_,_,?_,rfl,Ret.of (hw.pick [] (by decide) rfl rfl)⟩)
   refine ⟨congrArg Value.bool ?_,rfl⟩
   rw [hasU_eq e]
   clear hk hr h hx ih hl hw
   generalize e.kids.getD 0 default=x0 at *
   generalize e.kids.length=m at *
   first | (simp_all;done) | grind
  ·refine .sr fun _ hK8=>?_
   refine .v (.eql rfl rfl) (.as rfl (.nt hK8 ?_))
   refine AK.condD rfl (fun hc2=>?_) (fun hc2=>?_)
   ·refine .sr fun _ hK9=>?_
    refine .v (.fieldAddr fd24_2 rfl) (.v (.loadBox on22 rfl bsp rfl) ?_)
    refine AK.call co105 rfl (fun w hw=>s_contains w 52 co52 hasU s e.kids ss hl (fun i hi=>(hk i hi).sl) (hr.mono fun b _ hlt=>⟨id,hw.frame.block b hlt id⟩) (fun w' hfr i hi=>ih i hi w' _ (((hk i hi).at hw).fr hfr))) trivial rfl ?_
    rintro r o ⟨rfl,rfl⟩
    refine .as rfl (.nt hK9 (.ret (.block_ret (.then_ret ?_))))
    refine AK.ret1 rfl rfl (fun w hw=>⟨_,_,?_,rfl,Ret.of (hw.pick [] (by decide) rfl rfl)⟩)
    refine ⟨congrArg Value.bool ?_,rfl⟩
    rw [hasU_eq e]
    clear hk hr h hx ih hl hw
    generalize e.kids.getD 0 default=x0 at *
    generalize e.kids.length=m at *
    first | (simp_all;done) | grind
   ·refine .seq fun _ hK10=>?_
    refine .sr fun _ hK11=>?_
    refine .v (.eql rfl rfl) (.as rfl (.nt hK11 ?_))
    refine AK.condD rfl (fun hc3=>?_) (fun hc3=>?_)
    ·refine .skip ?_
     refine AK.then_ (hK10 _ ?_)
     refine AK.cond_t rfl (decide_eq_true hc3) ?_
     refine .seq fun _ hK12=>?_
     refine .sr fun _ hK13=>?_
     refine .v (.fieldAddr fd24_2 rfl) (.v (.loadBox on22 rfl bsp rfl) (.v (.lenR sl22 rfl rdp) (.mv rfl (.nt hK13 (.block ?_)))))
     refine AK.loopK (X:=Nat) [(19,_),(20,_)] (fun k=>[(21,.int .i64 (k:Int))]) (fun k=>[box bx1 24 3 [.int .i64 e.op,.int .i64 e.lt,s]]) (fun k=>k≤e.kids.length∧∀ i,i<k→hasU (e.kids.getD i default)=true) (fun k=>e.kids.length - k) (0) slr ?_ ?_ ?_ ?_
     ·exact ⟨Nat.zero_le _,fun i hi=>(by omega)⟩
     ·exact slr
     ·exact fun w hw=>hw
     ·intro k hg0 _ hK14
      refine .sr fun _ hK15=>?_
      refine .v (.lss rfl rfl) (.nt hK15 ?_)
      refine .seq fun _ hK16=>?_
      refine AK.condD rfl (fun hc5=>?_) (fun hc5=>?_)
      ·have sk:=(hk k (by omega)).sl
       refine .skip ?_
       refine AK.then_ (hK16 _ ?_)
       refine .seq fun _ hK17=>?_
       refine .block ?_
       refine .sr fun _ hK18=>?_
       first | refine .v (.iN sl22 rfl rfl) ?_ | refine .v (.iK sl22 rfl rfl) ?_
       refine .v (.loadE ag24 rfl rdp (by assumption) rfl (by omega)) ?_
       refine AK.alloc el24 rfl rfl trivial rfl (fun bx4=>?_)
       refine AK.storeBox 1 (us:=[.int .i64 (e.kids.getD k default).op,.int .i64 (e.kids.getD k default).lt,ss.getD k undef]) (cs':=[.int .i64 (e.kids.getD k default).op,.int .i64 (e.kids.getD k default).lt,ss.getD k undef]) rfl sz24 rfl rfl rfl rfl oneP (leb rfl) rfl trivial ?_
       refine .nt hK18 ?_
       refine .sr fun _ hK19=>?_
       refine .v (.loadBoxG ag24 rfl bsp rfl rfl) ?_
       refine AK.call co52 rfl (fun w hw=>ih k (by omega) w _ ((hk k (by omega)).at hw)) trivial rfl ?_
       rintro r o ⟨rfl,rfl⟩
       refine .v (.not rfl) (.nt hK19 ?_)
       refine AK.condB rfl (fun hc6=>?_) (fun hc6=>?_)
       ·refine .sr fun _ hK20=>?_
        refine .as rfl (.nt hK20 (.ret (.block_ret (.then_ret (.then_ret (.block_ret (.then_ret (.block_ret (.then_ret ?_)))))))))
        refine AK.ret1 rfl rfl (fun w hw=>⟨_,_,?_,rfl,Ret.of (hw.pick [] (by decide) rfl rfl)⟩)
        refine ⟨congrArg Value.bool ?_,rfl⟩
        rw [hasU_eq e,all_false (k:=k) (by omega) (by simpa using hc6)]
        clear hk hr h hx ih hl hg0
        first | (simp_all;done) | (simp_all <;> omega)
       ·refine .skip (.block_normal ?_)
        refine AK.then_ (hK17 _ ?_)
        refine AK.region ?_
        refine .v (.add rfl rfl (by omega)) ?_
        refine .mv rfl (.nil ?_)
        refine AK.then_ (hK14 _ _ (k+1) ⟨by omega,fun i hi=>by rcases Nat.lt_or_ge i k with hik | hik;exact hg0.2 i hik;obtain rfl:i=k:=(by omega);simpa using hc6⟩ (by omega) (slr) (fun w hw=>hw.pick [0] (by decide) rfl rfl))
      ·refine .exit (.then_exit (.then_exit (.block_exit ?_)))
       refine AK.then_ (hK12 _ ?_)
       refine .sr fun _ hK21=>?_
       refine .as rfl (.nt hK21 (.ret (.block_ret (.then_ret ?_))))
       refine AK.ret1 rfl rfl (fun w hw=>⟨_,_,?_,rfl,Ret.of (hw.pick [] (by decide) rfl rfl)⟩)
       refine ⟨congrArg Value.bool ?_,rfl⟩
       have ha:=all_true (p:=hasU) (ks:=e.kids) (fun i hi=>hg0.2 i (by omega))
       rw [hasU_eq e,ha]
       clear hk hr h hx ih hl hg0
       first | (simp_all;done) | (simp_all <;> omega)
    ·refine AK.region ?_
     refine .v (.eql rfl rfl) (.as rfl (.nt hK10 ?_))
     refine AK.condD rfl (fun hc4=>?_) (fun hc4=>?_)
     ·refine .seq fun _ hK22=>?_
      refine .sr fun _ hK23=>?_
      refine .v (.fieldAddr fd24_2 rfl) (.v (.loadBox on22 rfl bsp rfl) (.v (.lenR sl22 rfl rdp) (.mv rfl (.nt hK23 (.block ?_)))))
      refine AK.loopK (X:=Nat) [(19,_),(20,_)] (fun k=>[(21,.int .i64 (k:Int))]) (fun k=>[box bx1 24 3 [.int .i64 e.op,.int .i64 e.lt,s]]) (fun k=>k≤e.kids.length∧∀ i,i<k→hasU (e.kids.getD i default)=true) (fun k=>e.kids.length - k) (0) slr ?_ ?_ ?_ ?_
      ·exact ⟨Nat.zero_le _,fun i hi=>(by omega)⟩
      ·exact slr
      ·exact fun w hw=>hw
      ·intro k hg0 _ hK24
       refine .sr fun _ hK25=>?_
       refine .v (.lss rfl rfl) (.nt hK25 ?_)
       refine .seq fun _ hK26=>?_
       refine AK.condD rfl (fun hc5=>?_) (fun hc5=>?_)
       ·have sk:=(hk k (by omega)).sl
        refine .skip ?_
        refine AK.then_ (hK26 _ ?_)
        refine .seq fun _ hK27=>?_
        refine .block ?_
        refine .sr fun _ hK28=>?_
        first | refine .v (.iN sl22 rfl rfl) ?_ | refine .v (.iK sl22 rfl rfl) ?_
        refine .v (.loadE ag24 rfl rdp (by assumption) rfl (by omega)) ?_
        refine AK.alloc el24 rfl rfl trivial rfl (fun bx4=>?_)
        refine AK.storeBox 1 (us:=[.int .i64 (e.kids.getD k default).op,.int .i64 (e.kids.getD k default).lt,ss.getD k undef]) (cs':=[.int .i64 (e.kids.getD k default).op,.int .i64 (e.kids.getD k default).lt,ss.getD k undef]) rfl sz24 rfl rfl rfl rfl oneP (leb rfl) rfl trivial ?_
        refine .nt hK28 ?_
        refine .sr fun _ hK29=>?_
        refine .v (.loadBoxG ag24 rfl bsp rfl rfl) ?_
        refine AK.call co52 rfl (fun w hw=>ih k (by omega) w _ ((hk k (by omega)).at hw)) trivial rfl ?_
        rintro r o ⟨rfl,rfl⟩
        refine .v (.not rfl) (.nt hK29 ?_)
        refine AK.condB rfl (fun hc6=>?_) (fun hc6=>?_)
        ·refine .sr fun _ hK30=>?_
         refine .as rfl (.nt hK30 (.ret (.block_ret (.then_ret (.then_ret (.block_ret (.then_ret (.block_ret (.then_ret ?_)))))))))
         refine AK.ret1 rfl rfl (fun w hw=>⟨_,_,?_,rfl,Ret.of (hw.pick [] (by decide) rfl rfl)⟩)
         refine ⟨congrArg Value.bool ?_,rfl⟩
         rw [hasU_eq e,all_false (k:=k) (by omega) (by simpa using hc6)]
         clear hk hr h hx ih hl hg0
         first | (simp_all;done) | (simp_all <;> omega)
        ·refine .skip (.block_normal ?_)
         refine AK.then_ (hK27 _ ?_)
         refine AK.region ?_
         refine .v (.add rfl rfl (by omega)) ?_
         refine .mv rfl (.nil ?_)
         refine AK.then_ (hK24 _ _ (k+1) ⟨by omega,fun i hi=>by rcases Nat.lt_or_ge i k with hik | hik;exact hg0.2 i hik;obtain rfl:i=k:=(by omega);simpa using hc6⟩ (by omega) (slr) (fun w hw=>hw.pick [0] (by decide) rfl rfl))
       ·refine .exit (.then_exit (.then_exit (.block_exit ?_)))
        refine AK.then_ (hK22 _ ?_)
        refine .sr fun _ hK31=>?_
        refine .as rfl (.nt hK31 (.ret (.block_ret (.then_ret ?_))))
        refine AK.ret1 rfl rfl (fun w hw=>⟨_,_,?_,rfl,Ret.of (hw.pick [] (by decide) rfl rfl)⟩)
        refine ⟨congrArg Value.bool ?_,rfl⟩
        have ha:=all_true (p:=hasU) (ks:=e.kids) (fun i hi=>hg0.2 i (by omega))
        rw [hasU_eq e,ha]
        clear hk hr h hx ih hl hg0
        first | (simp_all;done) | (simp_all <;> omega)
     ·refine .sr fun _ hK32=>?_
      refine .v (.eql rfl rfl) (.as rfl (.nt hK32 ?_))
      refine AK.condD rfl (fun hc7=>?_) (fun hc7=>?_)
      ·refine .sr fun _ hK33=>?_
       refine .v (.fieldAddr fd24_2 rfl) (.v (.loadBox on22 rfl bsp rfl) (.v (.lenR sl22 rfl rdp) (.v (.eql rfl rfl) (.mv rfl ?_))))
       refine AK.splitB (g:=35) rfl (fun hg_17_4=>?_) (fun hg_17_4=>?_)
       ·have hg_17_4':=hg_17_4
        try simp only [bs] at hg_17_4'
        refine AK.val _ (Yl.fieldAddr fd24_2 rfl) ⟨_,rfl,gB hg_17_4⟩ rfl ?_
        refine AK.val _ (Yl.loadBox on22 rfl bsp rfl) ⟨_,rfl,gB hg_17_4⟩ rfl ?_
        refine AK.val _ (Yl.idxN (k:=0) sl22 rfl rfl rdp (by decide) (by have:=hg_17_4;simp at this;omega)) ⟨_,rfl,gB hg_17_4⟩ rfl ?_
        refine AK.val _ (Yl.loadE ag24 rfl rdp (by assumption) rfl (by omega)) ⟨_,rfl,gB hg_17_4⟩ rfl ?_
        refine AK.call co52 rfl (fun w hw=>ih 0 (by have:=hg_17_4;simp at this;omega) w _ ((hk 0 (by have:=hg_17_4;simp at this;omega)).at hw)) ⟨_,rfl,gB hg_17_4⟩ rfl ?_
        rintro r o ⟨rfl,rfl⟩
        refine AK.val _ (Yl.not rfl) ⟨_,rfl,gB hg_17_4⟩ rfl ?_
        refine .v (.pickT rfl (hg_17_4) rfl) (.as rfl (.nt hK33 (.ret (.block_ret (.then_ret ?_)))))
        refine AK.ret1 rfl rfl (fun w hw=>⟨_,_,?_,rfl,Ret.of (hw.pick [] (by decide) rfl rfl)⟩)
        refine ⟨congrArg Value.bool ?_,rfl⟩
        rw [hasU_eq e]
        clear hk hr h hx ih hl hw
        generalize e.kids.getD 0 default=x0 at *
        generalize e.kids.length=m at *
        first | (simp_all;done) | grind
       ·have hg_17_4':=hg_17_4
        try simp only [bs] at hg_17_4'
        refine AK.pass rfl rfl (hg_17_4) rfl ?_
        refine AK.pass rfl rfl (hg_17_4) rfl ?_
        refine AK.pass rfl rfl (hg_17_4) rfl ?_
        refine AK.pass rfl rfl (hg_17_4) rfl ?_
        refine AK.pass rfl rfl (hg_17_4) rfl ?_
        refine AK.pass rfl rfl (hg_17_4) rfl ?_
        refine .v (.pickF rfl (hg_17_4) rfl) (.as rfl (.nt hK33 (.ret (.block_ret (.then_ret ?_)))))
        refine AK.ret1 rfl rfl (fun w hw=>⟨_,_,?_,rfl,Ret.of (hw.pick [] (by decide) rfl rfl)⟩)
        refine ⟨congrArg Value.bool ?_,rfl⟩
        rw [hasU_eq e]
        clear hk hr h hx ih hl hw
        generalize e.kids.getD 0 default=x0 at *
        generalize e.kids.length=m at *
        first | (simp_all;done) | grind
      ·refine .skip (.block_normal ?_)
       refine AK.then_ (hK2 _ ?_)
       refine .sr fun _ hK34=>?_
       refine .as rfl (.nt hK34 (.ret ?_))
       refine AK.ret1 rfl rfl (fun w hw=>⟨_,_,?_,rfl,Ret.of (hw.pick [] (by decide) rfl rfl)⟩)
       refine ⟨congrArg Value.bool ?_,rfl⟩
       rw [hasU_eq e]
       clear hk hr h hx ih hl hw
       generalize e.kids.getD 0 default=x0 at *
       generalize e.kids.length=m at *
       first | (simp_all;done) | grind
theorem s_hasu (e:Ex):HuS e:=Ex.ind (P:=HuS) (fun e ih w s h=>s_hasu_step e ih w s h) e
end Go.Proofs.YtbibnpdnmmgacaaGreatDoor
