import Derived.Test.YtbibnpdnmmgacaaGreatDoorJZa
import Derived.StillTail
import Derived.Laws.IdiomCopy
import Derived.Laws.CopyRow
import Derived.OrdersHeld
import Derived.Laws.Concat
import Derived.Laws.Runes
import Derived.Laws.BytesString
import Derived.Laws.IdiomStrings
set_option linter.unusedVariables false
set_option linter.unusedSimpArgs false
set_option maxRecDepth 100000
namespace Go.Sx
def Qn (Q:Exit→Act→World→Prop):Exit→Act→World→Prop:=fun e a w=>e = .normal∧Q .normal a w
theorem Qn_out {Q:Exit→Act→World→Prop}:¬ LetsOut (Qn Q):=fun ⟨_,_,h,_⟩=>by cases h
section
variable {P : Program} {ops : Array Oper} {Q : Exit → Act → World → Prop}
theorem wp_of_Qn {o:Oper} {a:Act} {w:World} {K:Act→World→Prop} (h:o.wp P a w K (Qn Q)):o.wp P a w K Q:=by
 unfold Oper.wp at *
 generalize (execOp a.eval o).run P w=r at *
 cases r with
 | ok n w'=>
  cases n <;> simp only [Oper.upon] at h ⊢ <;>
   first
    | exact h
    | exact Calls.mono h (fun e w'' he=>by
     cases e
     ·exact he
     ·exact absurd he.1 (by simp)
     ·exact absurd he Qn_out)
 | halt x w'=>cases x <;> simp only [Oper.upon] at h ⊢ <;> exact absurd h.1 (by simp)
theorem wpOp_of_Qn {i:Nat} {a:Act} {w:World} {K:Act→World→Prop} (h:wpOp P ops (Qn Q) i K a w):wpOp P ops Q i K a w:=by
 unfold wpOp at *
 split
 ·simpa [*] using h
 ·rename_i o ho
  simp only [ho] at h
  split
  ·rename_i hw
   simp only [hw,if_true] at h
   rcases h with h | h
   ·exact .inl (wp_of_Qn h)
   ·exact absurd h.2 Qn_out
  ·rename_i hw;simp only [hw] at h;exact h
theorem wpAny_of_Qn {md:Region.Mode}:∀ (n:Nat) (listed:Array Bool) (a:Act) (w:World),wpAny P md ops (Qn Q) n listed a w→wpAny P md ops Q n listed a w
 | 0,_,_,_,h=>⟨h.1,h.2.2⟩
 | n+1,listed,a,w,h=>⟨fun hr=>(h.1 hr).2,fun i hi=>wpOp_of_Qn (wpOp_mono (fun a' w' h'=>wpAny_of_Qn n _ a' w' h') (h.2 i hi))⟩
end
section
variable {C : Cx} {sl : List (Nat × Value)} {own : List Asn} {ops : Array Oper} {Q : Exit → Act → World → Prop}
theorem AK.fromQn (h:AK C ⟨sl,own⟩ (fun a w=>Q .normal a w)):AK C ⟨sl,own⟩ (fun a w=>Qn Q .normal a w):=fun a w hs=>⟨rfl,h a w hs⟩
end
end Go.Sx
namespace Go.Sx
section
variable {C : Cx} {sl : List (Nat × Value)} {own : List Asn} {ops : Array Oper} {Q : Exit → Act → World → Prop} {ty : TypeId} {pos : String} {aft : Array Edge} {g : Option (Nat × Bool)} {rest : List Oper}
theorem bigA_emp {w:World} {l:List Asn} {F:Nat→Prop} (h:(bigA l).holds w F):(bigA (l++[empA])).holds w F:=by
 obtain ⟨Gs,gh,gF⟩:=h
 refine ⟨fun k b=>k<l.length∧Gs k b,⟨?_,?_,?_⟩,?_⟩
 ·intro k A hk
  by_cases hkl:k<l.length
  ·rw [List.getElem?_append_left hkl] at hk
   have:=gh.at_ k A hk
   simpa [hkl] using this
  ·rw [List.getElem?_append_right (by omega)] at hk
   have:A=empA:=by
    cases hkk:k - l.length with
    | zero=>rw [hkk] at hk;simpa using hk.symm
    | succ m=>rw [hkk] at hk;simp at hk
   subst this
   intro b hb;exact hkl hb.1
 ·intro k hk b hb
  simp at hk
  have:=hb.1;omega
 ·rintro k k' b ⟨_,h1⟩ ⟨_,h2⟩;exact gh.apart k k' b h1 h2
 ·intro b
  rw [gF b]
  constructor
  ·rintro ⟨k,hk⟩
   refine ⟨k,?_,hk⟩
   rcases Nat.lt_or_ge k l.length with h | h
   ·exact h
   ·exact (gh.out k h b hk).elim
  ·rintro ⟨k,_,hk⟩;exact ⟨k,hk⟩
theorem HW.absorb {C:Cx} {own l:List Asn} {w:World} {X:Asn} (j:Nat) (hj:own[j]? = some (bigA l)) (h:HW C (own++[X]) w):HW C (own.set j (bigA (l++[X]))) w:=by
 have hjl:j<own.length:=(List.getElem?_eq_some_iff.1 hj).1
 have h2:HW C (own.set j (bigA (l++[empA]))++[X]) w:=by
  obtain ⟨hf,Fs,hh,hal⟩:=h
  refine ⟨hf,Fs,⟨fun k A hk=>?_,fun k hk b hb=>hh.out k (by simpa using hk) b hb,hh.apart⟩,hal⟩
  by_cases hkj:k=j
  ·subst hkj
   rw [List.getElem?_append_left (by simpa using hjl),List.getElem?_set_self hjl] at hk
   cases hk
   exact bigA_emp (hh.at_ k (bigA l) (by rw [List.getElem?_append_left hjl];exact hj))
  ·refine hh.at_ k A ?_
   rw [← hk]
   by_cases hkl:k<own.length
   ·rw [List.getElem?_append_left hkl,List.getElem?_append_left (by simpa using hkl),List.getElem?_set_ne (Ne.symm hkj)]
   ·rw [List.getElem?_append_right (by omega),List.getElem?_append_right (by simp;omega)];simp
 have h3:=HW.putback (C:=C) (own:=own) (l:=l++[X]) (X:=X) (w:=w) j l.length hjl (by simp) (by simpa using h2)
 simpa using h3
end
end Go.Sx
namespace Go.Sx
open Go.RowKit
def waitsD (ops:Array Oper) (j i:Nat):Bool:=match ops[j]? with
 | none=>false
 | some o=>o.after.any fun e=>Region.binds .any e && (e.on == i)
def waitsT (ops:Array Oper):Nat→Nat→Nat→Bool
 | 0,_,_=>false
 | f+1,n,i=>waitsD ops n i || (List.range n).any fun b=>decide (i<b) && (waitsD ops b i && waitsT ops f n b)
def DepsIn (ops:Array Oper) (listed:Array Bool) (k:Nat):Prop:=∀ o,ops[k]? = some o→∀ e∈o.after,Region.binds .any e=true→listed.getD e.on false=true
def Closed (ops:Array Oper) (listed:Array Bool):Prop:=listed.size=ops.size∧∀ k,listed.getD k false=true→DepsIn ops listed k
def closedB (ops:Array Oper) (listed:Array Bool):Bool:=(listed.size == ops.size) && (List.range ops.size).all fun k=>!listed.getD k false || ((ops[k]?).map fun o=>o.after.all fun e=>!Region.binds .any e || listed.getD e.on false).getD true
theorem closedB_spec {ops:Array Oper} {listed:Array Bool} (h:closedB ops listed=true):Closed ops listed:=by
 simp only [closedB,Bool.and_eq_true,beq_iff_eq,List.all_eq_true,List.mem_range] at h
 refine ⟨h.1,fun k hk o ho e he hb=>?_⟩
 have hlt:k<ops.size:=(Array.getElem?_eq_some_iff.1 ho).1
 have:=h.2 k hlt
 simp only [hk,ho,Bool.not_true,Bool.false_or,Option.map_some,Option.getD_some,← Array.all_toList,List.all_eq_true] at this
 have:=this e (by simpa using he)
 simpa [hb] using this
theorem waitsD_spec {ops:Array Oper} {listed:Array Bool} {j i:Nat} (h:waitsD ops j i=true) (hd:DepsIn ops listed j):listed.getD i false=true:=by
 unfold waitsD at h
 split at h
 ·cases h
 ·rename_i o ho
  simp only [← Array.any_toList,List.any_eq_true] at h
  obtain ⟨e,he,h⟩:=h
  have he:e∈o.after:=by simpa using he
  simp only [Bool.and_eq_true,beq_iff_eq] at h
  rw [← h.2]
  exact hd o ho e he h.1
theorem waitsT_spec {ops:Array Oper} {listed:Array Bool} (hc:Closed ops listed) {n:Nat} (hd:DepsIn ops listed n):∀ (f i:Nat),waitsT ops f n i=true→listed.getD i false=true
 | 0,i,h=>by cases h
 | f+1,i,h=>by
  simp only [waitsT,Bool.or_eq_true,List.any_eq_true,Bool.and_eq_true] at h
  rcases h with h | ⟨b,_,_,h1,h2⟩
  ·exact waitsD_spec h hd
  ·exact waitsD_spec h1 (hc.2 b (waitsT_spec hc hd f b h2))
theorem ready_deps {ops:Array Oper} {listed:Array Bool} {j:Nat} (h:j∈Region.ready .any ops listed):DepsIn ops listed j∧j<ops.size∧listed.getD j true=false:=by
 obtain ⟨h1,o,ho,h2⟩:=mem_ready.1 h
 refine ⟨fun o' ho' e he hb=>?_,(Array.getElem?_eq_some_iff.1 ho).1,h1⟩
 rw [ho] at ho'
 cases ho'
 exact h2 e he hb
theorem Closed.set {ops:Array Oper} {listed:Array Bool} (h:Closed ops listed) {j:Nat} (hj:j∈Region.ready .any ops listed):Closed ops (listed.setIfInBounds j true):=by
 have hup:∀ k,listed.getD k false=true→(listed.setIfInBounds j true).getD k false=true:=fun k hk=>by
  by_cases e:j=k
  ·subst e
   have:j<listed.size:=by rw [h.1];exact (ready_deps hj).2.1
   simp [this]
  ·rw [getD_set_ne false e];exact hk
 refine ⟨by simp [h.1],fun k hk o ho e he hb=>?_⟩
 by_cases hkj:j=k
 ·subst hkj;exact hup _ ((ready_deps hj).1 o ho e he hb)
 ·rw [getD_set_ne false hkj] at hk;exact hup _ (h.2 k hk o ho e he hb)
def wpAnyN (P:Program) (ops:Array Oper) (Q:Exit→Act→World→Prop) (S:World→Prop) (n:Nat):Nat→Array Bool→Act→World→Prop
 | 0,listed,a,w=>Region.ready .any ops listed=[]∧Q .normal a w
 | fuel+1,listed,a,w=>
  (Region.ready .any ops listed=[]→Q .normal a w) ∧
  ∀ i∈Region.ready .any ops listed,wpOp P ops Q i (fun a' w'=>((listed.setIfInBounds i true).getD n false=false→S w')∧wpAnyN P ops Q S n fuel (listed.setIfInBounds i true) a' w') a w
section
variable {P : Program} {ops : Array Oper} {Q : Exit → Act → World → Prop} {S : World → Prop} {n : Nat}
theorem wpAny_of_N:∀ (fuel:Nat) (listed:Array Bool) (a:Act) (w:World),wpAnyN P ops Q S n fuel listed a w→wpAny P .any ops Q fuel listed a w
 | 0,_,_,_,h=>h
 | fuel+1,_,_,_,h=>⟨h.1,fun i hi=>wpOp_mono (fun a' w' h'=>wpAny_of_N fuel _ a' w' h'.2) (h.2 i hi)⟩
theorem wpAnyN_mono {S':World→Prop} (hS:∀ w,S w→S' w):∀ (fuel:Nat) (listed:Array Bool) (a:Act) (w:World),wpAnyN P ops Q S n fuel listed a w→wpAnyN P ops Q S' n fuel listed a w
 | 0,_,_,_,h=>h
 | fuel+1,_,_,_,h=>⟨h.1,fun i hi=>wpOp_mono (fun a' w' h'=>⟨fun e=>hS _ (h'.1 e),wpAnyN_mono hS fuel _ a' w' h'.2⟩) (h.2 i hi)⟩
theorem set_still {listed:Array Bool} {n i:Nat} (h:listed.getD n false=true):(listed.setIfInBounds i true).getD n false=true:=by
 by_cases e:i=n
 ·subst e
  by_cases hl:i<listed.size
  ·simp [hl]
  ·simp [hl] at h
 ·rw [getD_set_ne false e];exact h
theorem wpAnyN_of_any:∀ (fuel:Nat) (listed:Array Bool) (a:Act) (w:World),listed.getD n false=true→wpAny P .any ops Q fuel listed a w→wpAnyN P ops Q S n fuel listed a w
 | 0,_,_,_,_,h=>h
 | fuel+1,_,_,_,hn,h=>⟨h.1,fun i hi=>wpOp_mono (fun a' w' h'=>⟨fun e=>by rw [set_still hn] at e;(cases e),wpAnyN_of_any fuel _ a' w' (set_still hn) h'⟩) (h.2 i hi)⟩
theorem wpAnyN_first {i:Nat} {oi:Oper} {v:Value} (hi:ops[i]? = some oi) (hsel:∀ (j:Nat) (o:Oper) cs b,ops[j]? = some o→o.op ≠ .select cs b)
  (hQ:∀ c a w,Q (.panic c) (a.put oi.dst v) w→Q (.panic c) a w) (hn:n=ops.size∨∃ f,waitsT ops f n i=true) :
  ∀ (fuel:Nat) (listed:Array Bool) (a:Act) (w:World),Closed ops listed →
   (∀ j oj,ops[j]? = some oj→j ≠ i→listed.getD j true=false→(∀ e∈oj.after,Region.binds .any e=true→e.on ≠ i)→oi.apart ops oj=true) →
   i∈Region.ready .any ops listed→YieldsIf P ops S oi v a→S w →
   wpAnyN P ops Q S n fuel (listed.setIfInBounds i true) (a.put oi.dst v) w→wpAnyN P ops Q S n (fuel+1) listed a w:=by
 have hnn:∀ listed:Array Bool,Closed ops listed→i∈Region.ready .any ops listed→(n∈Region.ready .any ops listed→False)∧listed.getD n false=false:=fun listed hc hr=>by
  have hil:listed.getD i false=false:=by
   have:=(ready_deps hr).2.2
   cases h:listed.getD i false with
   | false=>rfl
   | true=>
    have hlt:i<listed.size:=by
     rcases Nat.lt_or_ge i listed.size with h' | h'
     ·exact h'
     ·simp [Array.getElem?_eq_none h'] at h
    simp [hlt] at h this
    rw [h] at this;cases this
  rcases hn with rfl | ⟨f,hf⟩
  ·refine ⟨fun h=>?_,?_⟩
   ·have:=(ready_deps h).2.1;omega
   ·simp [Array.getElem?_eq_none (show listed.size≤ops.size by rw [hc.1];exact Nat.le_refl _)]
  ·refine ⟨fun h=>?_,?_⟩
   ·have:=waitsT_spec hc (ready_deps h).1 f i hf
    rw [hil] at this;cases this
   ·cases h:listed.getD n false with
    | false=>rfl
    | true=>
     have:=waitsT_spec hc (hc.2 n h) f i hf
     rw [hil] at this;cases this
 intro fuel
 induction fuel with
 | zero=>
  intro listed a w hc _ hr hy hS H
  refine ⟨fun h=>(by rw [h] at hr;cases hr),fun j hj=>?_⟩
  by_cases hji:j=i
  ·subst hji;exact hy.wpOp hi hS ⟨fun _=>hS,H⟩
  ·have:=ready_mono hj hji
   rw [H.1] at this
   cases this
 | succ fuel ih=>
  intro listed a w hc hfree hr hy hS H
  refine ⟨fun h=>(by rw [h] at hr;cases hr),fun j hj=>?_⟩
  by_cases hji:j=i
  ·subst hji;exact hy.wpOp hi hS ⟨fun _=>hS,H⟩
  ·have h1:=H.2 j (ready_mono hj hji)
   obtain ⟨hjun,oj,hoj,hall⟩:=mem_ready.1 hj
   have hnot:∀ e∈oj.after,Region.binds .any e=true→e.on ≠ i:=fun e he hb heq=>by
    have h1:=hall e he hb
    have h0:=(mem_ready.1 hr).1
    rw [heq] at h1
    rcases Nat.lt_or_ge i listed.size with h' | h'
    ·simp [h'] at h0 h1;rw [h0] at h1;cases h1
    ·simp [Array.getElem?_eq_none h'] at h1
   have h2:=wpOp_putIf hoj (hfree j oj hoj hji hjun hnot) (fun cs b=>hsel i oi cs b hi) (fun cs b=>hsel j oj cs b hoj) hQ hy h1
   have hfree':∀ k ok,ops[k]? = some ok→k ≠ i→(listed.setIfInBounds j true).getD k true=false →
     (∀ e∈ok.after,Region.binds .any e=true→e.on ≠ i)→oi.apart ops ok=true:=fun k ok hk hki hun hno=>by
    refine hfree k ok hk hki ?_ hno
    by_cases hjk:j=k
    ·subst hjk;exact hjun
    ·rw [getD_set_ne true hjk] at hun;exact hun
   obtain ⟨hnr,hnl⟩:=hnn listed hc hr
   have hni:i ≠ n:=fun e=>hnr (e ▸ hr)
   have hnj:j ≠ n:=fun e=>hnr (e ▸ hj)
   have hset:∀ i',i' ≠ n→∀ l:Array Bool,l.getD n false=false→(l.setIfInBounds i' true).getD n false=false:=fun i' h l hl=>by rw [getD_set_ne false h];exact hl
   refine wpOp_mono (fun a' w' h3=>?_) h2
   have hS':=h3.2.1 (hset j hnj _ (hset i hni _ hnl))
   refine ⟨fun _=>hS',ih (listed.setIfInBounds j true) a' w' (hc.set hj) hfree' (ready_mono hr (Ne.symm hji)) h3.1 hS' ?_⟩
   rw [Array.setIfInBounds_comm _ _ hji]
   exact h3.2.2
theorem wp_anyQ {Q Q':Exit→Act→World→Prop} {o:Oper} {a:Act} {w:World} {K:Act→World→Prop} (h:o.wp P a w K (Qn Q)):o.wp P a w K Q':=by
 unfold Oper.wp at *
 generalize (execOp a.eval o).run P w=r at *
 cases r with
 | ok n w'=>
  cases n <;> simp only [Oper.upon] at h ⊢ <;>
   first
    | exact h
    | exact Calls.mono h (fun e w'' he=>by
     cases e
     ·exact he
     ·exact absurd he.1 (by simp)
     ·exact absurd he Qn_out)
 | halt x w'=>cases x <;> simp only [Oper.upon] at h ⊢ <;> exact absurd h.1 (by simp)
theorem wpOp_of_list {i:Nat} {o:Oper} {K:Act→World→Prop} {a:Act} {w:World} (hi:ops[i]? = some o) (h:wpList P ops (Qn fun _ a w=>K a w) [o] a w):wpOp P ops Q i K a w:=by
 unfold wpOp
 simp only [hi]
 unfold wpList at h
 split
 ·rename_i hw
  simp only [hw,if_true] at h
  rcases h with h | h
  ·exact .inl (wp_anyQ (Oper.wp_mono (fun a w (h:wpList P ops (Qn fun _ a w=>K a w) [] a w)=>h.2) h))
  ·exact absurd h.2 Qn_out
 ·rename_i hw
  simp only [hw] at h
  exact h.2
end
def Ale (A B:Asn):Prop:=∀ w F,B.holds w F→∃ G,(∀ b,G b→F b)∧A.holds w G
theorem Ale.rfl {A:Asn}:Ale A A:=fun _ F h=>⟨F,fun _ h=>h,h⟩
def row2 (v v':Value) (E:TypeId) (sz n m:Nat) (cs cs':List Value):Asn where
 holds w F:=∃ F1 F2,(row v E sz n cs).holds w F1∧(row v' E sz m cs').holds w F2∧∀ b,F b↔(F1 b∨F2 b)
 loc:=by
  rintro w w' F ⟨F1,F2,h1,h2,hF⟩ hb
  exact ⟨F1,F2,(row v E sz n cs).loc w w' F1 h1 (fun b h=>hb b ((hF b).2 (.inl h))),(row v' E sz m cs').loc w w' F2 h2 (fun b h=>hb b ((hF b).2 (.inr h))),hF⟩
 lt:=by
  rintro w F ⟨F1,F2,h1,h2,hF⟩ b hb
  rcases (hF b).1 hb with h | h
  ·exact (row v E sz n cs).lt w F1 h1 b h
  ·exact (row v' E sz m cs').lt w F2 h2 b h
theorem Ale.fst {v v':Value} {E:TypeId} {sz n m:Nat} {cs cs':List Value}:Ale (row v E sz n cs) (row2 v v' E sz n m cs cs'):=fun w F ⟨F1,F2,h1,h2,hF⟩=>⟨F1,fun b h=>(hF b).2 (.inl h),h1⟩
theorem Ale.snd {v v':Value} {E:TypeId} {sz n m:Nat} {cs cs':List Value}:Ale (row v' E sz m cs') (row2 v v' E sz n m cs cs'):=fun w F ⟨F1,F2,h1,h2,hF⟩=>⟨F2,fun b h=>(hF b).2 (.inr h),h2⟩
inductive PickLe (own1:List Asn):List Asn→List Nat→Prop
 | nil:PickLe own1 [] []
 | cons {A B:Asn} {L:List Asn} {σ:List Nat} {i:Nat}:own1[i]? = some B→Ale A B→PickLe own1 L σ→PickLe own1 (A :: L) (i :: σ)
theorem PickLe.get {own1 L:List Asn} {σ:List Nat} (h:PickLe own1 L σ):L.length = σ.length∧∀ (k:Nat) (A:Asn),L[k]? = some A→∃ i B,σ[k]? = some i∧own1[i]? = some B∧Ale A B:=by
 induction h with
 | nil=>exact ⟨rfl,fun k A h=>by simp at h⟩
 | cons h1 h2 h3 ih=>
  refine ⟨by simp [ih.1],fun k A hk=>?_⟩
  cases k with
  | zero=>simp at hk;subst hk;exact ⟨_,_,rfl,h1,h2⟩
  | succ k=>simpa using ih.2 k A (by simpa using hk)
theorem HW.pickLe {C:Cx} {own1 L:List Asn} {w:World} (σ:List Nat) (hn:σ.Nodup) (h:PickLe own1 L σ) (hw:HW C own1 w):HW C L w:=by
 obtain ⟨hl,hg⟩:=h.get
 obtain ⟨hf,Fs,hh,hal⟩:=hw
 have hch:∀ k:Nat,∃ G:Nat→Prop,(∀ A,L[k]? = some A→∃ i,σ[k]? = some i∧(∀ b,G b→Fs i b)∧A.holds w G)∧(L[k]? = none→∀ b,¬ G b):=fun k=>by
  cases hk:L[k]? with
  | none=>exact ⟨fun _=>False,fun A h=>(by cases h),fun _ _ h=>h⟩
  | some A=>
   obtain ⟨i,B,h1,h2,h3⟩:=hg k A hk
   obtain ⟨G,h4,h5⟩:=h3 w (Fs i) (hh.at_ i B h2)
   exact ⟨G,fun A' h'=>by cases h';exact ⟨i,h1,h4,h5⟩,fun h=>by cases h⟩
 refine ⟨hf,fun k=>(hch k).choose,⟨?_,?_,?_⟩,?_⟩
 ·intro k A hk
  obtain ⟨_,_,_,h⟩:=(hch k).choose_spec.1 A hk
  exact h
 ·intro k hk
  exact (hch k).choose_spec.2 (List.getElem?_eq_none hk)
 ·intro k j b h1 h2
  have inL:∀ k b,(hch k).choose b→∃ i,σ[k]? = some i∧Fs i b:=fun k b hb=>by
   cases hk:L[k]? with
   | none=>exact ((hch k).choose_spec.2 hk b hb).elim
   | some A=>
    obtain ⟨i,e,e2,_⟩:=(hch k).choose_spec.1 A hk
    exact ⟨i,e,e2 b hb⟩
  obtain ⟨i,e1,f1⟩:=inL k b h1
  obtain ⟨i',e2,f2⟩:=inL j b h2
  have:=hh.apart i i' b f1 f2
  subst this
  obtain ⟨h1,h2⟩:=List.getElem?_eq_some_iff.1 e1
  obtain ⟨h3,h4⟩:=List.getElem?_eq_some_iff.1 e2
  rcases Nat.lt_trichotomy k j with hlt | heq | hlt
  ·exact absurd (h2.trans h4.symm) (List.pairwise_iff_getElem.1 hn k j h1 h3 hlt)
  ·exact heq
  ·exact absurd (h4.trans h2.symm) (List.pairwise_iff_getElem.1 hn j k h3 h1 hlt)
 ·intro k b hb
  cases hk:L[k]? with
  | none=>exact ((hch k).choose_spec.2 hk b hb).elim
  | some A=>
   obtain ⟨i,e,e2,_⟩:=(hch k).choose_spec.1 A hk
   exact hal i b (e2 b hb)
inductive HWle:List Asn→List Asn→Prop
 | nil {l:List Asn}:HWle [] l
 | cons {A B:Asn} {l l':List Asn}:Ale A B→HWle l l'→HWle (A :: l) (B :: l')
theorem HWle.pick {own own1:List Asn} (h:HWle own own1):∀ (pre:List Asn),PickLe (pre++own1) own (List.range' pre.length own.length):=by
 induction h with
 | nil=>intro pre;exact .nil
 | @cons A B l l' h1 h2 ih=>
  intro pre
  have:=ih (pre++[B])
  refine .cons (B:=B) (by simp) h1 ?_
  simpa using this
theorem HWle.hw {C:Cx} {own own1:List Asn} (h:HWle own own1) {w:World} (hw:HW C own1 w):HW C own w:=
 HW.pickLe (List.range' 0 own.length) List.nodup_range' (by simpa using h.pick []) hw
section
variable {C : Cx} {sl : List (Nat × Value)} {own : List Asn} {ops : Array Oper} {Q : Exit → Act → World → Prop} {n : Nat}
def HeldK (C:Cx) (ops:Array Oper) (Q:Exit→Act→World→Prop) (own:List Asn) (n fuel:Nat) (listed:Array Bool):Act→World→Prop:=fun a w=>wpAnyN C.P ops (Qn Q) (HW C own) n fuel listed a w
theorem AK.held (n:Nat) {id:Nat} {l:List Oper} (hm:C.P.follows .mixedOrders=true) (h:AK C ⟨sl,own⟩ (HeldK C l.toArray Q own n l.length (Array.replicate l.length false))):AK C ⟨sl,own⟩ ((Code.region id l.toArray true).wp C.P Q):=by
 intro a w hs
 refine wp_region_any hm ?_
 have hp:=hs.world.push (w':={ w with drawn:=w.drawn+1 }) (own2:=[]) ⟨rfl,rfl,rfl,Nat.le_refl _,fun _ _ _=>rfl,Nat.le_succ _⟩ (HeapAt.nil _) (fun _ _ h=>h.elim)
 rw [List.append_nil] at hp
 have:=wpAny_of_Qn _ _ _ _ (wpAny_of_N _ _ _ _ (h a _ ⟨hs.size,hs.defers,hs.slot,hp⟩))
 simpa using this
def heldB (ops:Array Oper) (listed:Array Bool) (n i:Nat):Bool:=
 Region.noSelect ops && ((Region.ready .any ops listed).contains i && (Region.free .any ops listed i && (closedB ops listed && (n == ops.size || waitsT ops ops.size n i))))
theorem HeldK.firstY (i:Nat) {fuel:Nat} {listed listed':Array Bool} {o:Oper} {d:Nat} (v:Value) (hi:ops[i]? = some o) (hB:heldB ops listed n i=true) (hl:listed.setIfInBounds i true=listed') (hod:o.dst=some d)
  (hy:∀ a,SimF C sl a→YieldsIf C.P ops (HW C own) o v a) (hd:Nat.blt d C.N=true)
  (h:AK C ⟨(d,v) :: sl,own⟩ (HeldK C ops Q own n fuel listed')):AK C ⟨sl,own⟩ (HeldK C ops Q own n (fuel+1) listed):=by
 intro a w hs
 simp only [heldB,Bool.and_eq_true,Bool.or_eq_true,beq_iff_eq] at hB
 obtain ⟨hsel,hr,hf,hc,hn⟩:=hB
 refine wpAnyN_first hi (Region.noSelect_spec hsel) (fun c a w hq=>absurd hq.1 (by simp)) (hn.imp id fun h=>⟨_,h⟩) fuel listed a w (closedB_spec hc) (Region.free_spec hi hf) (by simpa using hr) (hy a hs.simF) hs.world ?_
 rw [hl,hod]
 exact h _ _ (hs.put (own':=own) hs.world (d:=some d) (fun i hi=>by cases hi;simpa [Nat.blt_eq] using hd) v)
theorem HeldK.first (i:Nat) {fuel:Nat} {listed listed':Array Bool} {o:Oper} {d:Nat} (v:Value) (hi:ops[i]? = some o) (hB:heldB ops listed n i=true) (hl:listed.setIfInBounds i true=listed') (hod:o.dst=some d)
  (hy:Yl C ⟨sl,own⟩ o v) (hg:Grd ops sl o.guard) (hd:Nat.blt d C.N=true)
  (h:AK C ⟨(d,v) :: sl,own⟩ (HeldK C ops Q own n fuel listed')):AK C ⟨sl,own⟩ (HeldK C ops Q own n (fuel+1) listed):=
 HeldK.firstY i v hi hB hl hod (fun a hs=>.inl ⟨wanted_of_GrdF hs hg,fun w hw=>hy a w (hs.sim hw)⟩) hd h
theorem HeldK.all {oS:List Asn} {fuel:Nat} {listed:Array Bool} (is:List Nat) (hr:Region.ready .any ops listed=is) (hne:is.isEmpty=false)
  (h:∀ i∈is,AK C ⟨sl,own⟩ (fun a w=>wpOp C.P ops (Qn Q) i (fun a' w'=>((listed.setIfInBounds i true).getD n false=false→HW C oS w')∧HeldK C ops Q oS n fuel (listed.setIfInBounds i true) a' w') a w)):AK C ⟨sl,own⟩ (HeldK C ops Q oS n (fuel+1) listed):=by
 intro a w hs
 refine ⟨fun h0=>?_,fun i hi=>h i (by rw [← hr];exact hi) a w hs⟩
 rw [hr] at h0;rw [h0] at hne;cases hne
def HNext (C:Cx) (ops:Array Oper) (Q:Exit→Act→World→Prop) (oS:List Asn) (n fuel:Nat) (listed:Array Bool):Act→World→Prop:=fun a w=>(listed.getD n false=false→HW C oS w)∧HeldK C ops Q oS n fuel listed a w
theorem HeldK.one {oS:List Asn} (i:Nat) {fuel:Nat} {listed listed':Array Bool} {o:Oper} (hr:Region.ready .any ops listed=[i]) (hi:ops[i]? = some o) (hl:listed.setIfInBounds i true=listed')
  (h:AK C ⟨sl,own⟩ (wpList C.P ops (Qn fun _=>HNext C ops Q oS n fuel listed') [o])):AK C ⟨sl,own⟩ (HeldK C ops Q oS n (fuel+1) listed):=
 HeldK.all [i] hr rfl (fun j hj=>by simp at hj;subst hj;exact fun a w hs=>wpOp_of_list hi (by rw [hl];exact h a w hs))
theorem HeldK.two {oS:List Asn} (i j:Nat) {fuel:Nat} {listed listed1 listed2:Array Bool} {o o':Oper} (hr:Region.ready .any ops listed=[i,j]) (hi:ops[i]? = some o) (hj:ops[j]? = some o') (hl:listed.setIfInBounds i true=listed1) (hl':listed.setIfInBounds j true=listed2)
  (h:AK C ⟨sl,own⟩ (wpList C.P ops (Qn fun _=>HNext C ops Q oS n fuel listed1) [o])) (h':AK C ⟨sl,own⟩ (wpList C.P ops (Qn fun _=>HNext C ops Q oS n fuel listed2) [o'])):AK C ⟨sl,own⟩ (HeldK C ops Q oS n (fuel+1) listed):=
 HeldK.all [i,j] hr rfl (fun k hk=>by
  simp at hk
  rcases hk with rfl | rfl
  ·exact fun a w hs=>wpOp_of_list hi (by rw [hl];exact h a w hs)
  ·exact fun a w hs=>wpOp_of_list hj (by rw [hl'];exact h' a w hs))
theorem HeldK.back {own1:List Asn} {fuel:Nat} {listed:Array Bool} (hle:HWle own own1) (h:AK C ⟨sl,own1⟩ (HeldK C ops Q own1 n fuel listed)):AK C ⟨sl,own1⟩ (fun a w=>(Qn fun _=>HNext C ops Q own n fuel listed) .normal a w):=
 fun a w hs=>⟨rfl,fun _=>hle.hw hs.world,wpAnyN_mono (fun w hw=>hle.hw hw) _ _ _ _ (h a w hs)⟩
theorem HeldK.backN (k:Nat) {own1:List Asn} {fuel:Nat} {l:List Oper} {listed:Array Bool} (hl:listed.getD n false=true) (hn:(l.drop k).length=fuel) (hB:Region.seqB .any l.toArray fuel k listed=true) (h:AK C ⟨sl,own1⟩ (wpList C.P l.toArray (Qn Q) (l.drop k))) :
  AK C ⟨sl,own1⟩ (fun a w=>(Qn fun _=>HNext C l.toArray Q own n fuel listed) .normal a w):=
 fun a w hs=>⟨rfl,fun e=>(by rw [hl] at e;cases e),wpAnyN_of_any _ _ _ _ hl (by subst hn;exact wpAny_of_seq (l.drop k) k listed a w (fun j=>by simp [List.getElem?_drop]) hB (h a w hs))⟩
theorem HeldK.done {oS:List Asn} {fuel:Nat} {listed:Array Bool} (hr:Region.ready .any ops listed=[]) (h:AK C ⟨sl,own⟩ (Q .normal)):AK C ⟨sl,own⟩ (HeldK C ops Q oS n fuel listed):=by
 intro a w hs
 cases fuel with
 | zero=>exact ⟨hr,rfl,h a w hs⟩
 | succ f=>exact ⟨fun _=>⟨rfl,h a w hs⟩,by rw [hr];simp⟩
theorem AK.heldS (oS:List Asn) (n:Nat) {id:Nat} {l:List Oper} (hle:∀ w,HW C own w→HW C oS w) (hm:C.P.follows .mixedOrders=true) (h:AK C ⟨sl,own⟩ (HeldK C l.toArray Q oS n l.length (Array.replicate l.length false))):AK C ⟨sl,own⟩ ((Code.region id l.toArray true).wp C.P Q):=by
 intro a w hs
 refine wp_region_any hm ?_
 have hp:=hs.world.push (w':={ w with drawn:=w.drawn+1 }) (own2:=[]) ⟨rfl,rfl,rfl,Nat.le_refl _,fun _ _ _=>rfl,Nat.le_succ _⟩ (HeapAt.nil _) (fun _ _ h=>h.elim)
 rw [List.append_nil] at hp
 have:=wpAny_of_Qn _ _ _ _ (wpAny_of_N _ _ _ _ (h a _ ⟨hs.size,hs.defers,hs.slot,hp⟩))
 simpa using this
theorem HeldK.firstS {oS:List Asn} (hle:∀ w,HW C own w→HW C oS w) (i:Nat) {fuel:Nat} {listed listed':Array Bool} {o:Oper} {d:Nat} (v:Value) (hi:ops[i]? = some o) (hB:heldB ops listed n i=true) (hl:listed.setIfInBounds i true=listed') (hod:o.dst=some d)
  (hy:Yl C ⟨sl,oS⟩ o v) (hg:Grd ops sl o.guard) (hd:Nat.blt d C.N=true)
  (h:AK C ⟨(d,v) :: sl,own⟩ (HeldK C ops Q oS n fuel listed')):AK C ⟨sl,own⟩ (HeldK C ops Q oS n (fuel+1) listed):=by
 intro a w hs
 simp only [heldB,Bool.and_eq_true,Bool.or_eq_true,beq_iff_eq] at hB
 obtain ⟨hsel,hr,hf,hc,hn⟩:=hB
 refine wpAnyN_first hi (Region.noSelect_spec hsel) (fun c a w hq=>absurd hq.1 (by simp)) (hn.imp id fun h=>⟨_,h⟩) fuel listed a w (closedB_spec hc) (Region.free_spec hi hf) (by simpa using hr)
  (.inl ⟨wanted_of_GrdF hs.simF hg,fun w hw=>hy a w (hs.simF.sim hw)⟩) (hle w hs.world) ?_
 rw [hl,hod]
 exact h _ _ (hs.put (own':=own) hs.world (d:=some d) (fun i hi=>by cases hi;simpa [Nat.blt_eq] using hd) v)
theorem HeldK.backS {oS own1:List Asn} {fuel:Nat} {listed:Array Bool} (hle:∀ w,HW C own1 w→HW C oS w) (h:AK C ⟨sl,own1⟩ (HeldK C ops Q oS n fuel listed)):AK C ⟨sl,own1⟩ (fun a w=>(Qn fun _=>HNext C ops Q oS n fuel listed) .normal a w):=
 fun a w hs=>⟨rfl,fun _=>hle _ hs.world,h a w hs⟩
end
theorem run_append_at2 {P:Program} (w:World) (t ty e:TypeId) (i:TypeInfo) (z:Value) (size bytes:Nat) (ht:P.underlying t=some (.slice e)) (hi:P.info? e=some i) (hz:i.zero=some z)
  (hsize:i.size=size) (hby:i.bytes=bytes) (hzs:z.cells.size=size) (hsz:0<size)
  (v:Value) (n:Nat) (xs:List Value) (hown:w.ownsRow 0 e size v n xs)
  (a:Addr) (m c:Nat) (news:List Value) (hl:news.length=m * size) (hnews:∀ j u,news[j]? = some u→w.cell? (a.add j)=some u) (h1:∀ u∈news,u.oneCell'=true)
  (h63:n+m≤maxLen) (hbytes:(n+m) * bytes≤140737488355328) :
  ∃ v' w',(Builtin.append_ #[t,t] ty #[v,.slice (some a) m c]).run P w = .ok v' w'∧w'.ownsRow 0 e size v' (n+m) (xs++news)∧w.grownBy w' v.ownBlock ∧
   (∀ b,v'.ownBlock=some b→v.ownBlock=some b∨w.heap.size≤b)∧w'.ownsRow 0 e size v n xs:=by
 by_cases hfit:(∃ gb cap,v = .slice (some ⟨gb,0,none⟩) n cap∧n+m≤cap)
 ·obtain ⟨gb,cap,rfl,hroom⟩:=hfit
  rcases hown.2 with ⟨h,_⟩ | ⟨g',cap',cur,h',_,hg,hnc,hcm,hcs,htake⟩
  ·simp at h
  ·simp only [Value.slice.injEq,Option.some.injEq,Addr.mk.injEq,and_true,true_and] at h'
   obtain ⟨rfl,rfl⟩:=h'
   subst hsize
   have hlen:(xs++news).length=(n+m) * i.size:=by rw [List.length_append,hown.1,hl,Nat.add_mul]
   have hfit:n * i.size+news.length≤cur.size:=by rw [hl,hcs,← Nat.add_mul];exact Nat.mul_le_mul_right _ hroom
   have hr:=run_append_room (P:=P) w t ty e i ht hi gb n cap cur hg a m c news hl hnews h1 hroom hfit
   refine ⟨_,_,hr,⟨hlen,.inr ⟨gb,cap,_,rfl,Nat.zero_le _,setRow_heap w gb cur _ e _ hg,hroom,hcm,?_,?_⟩⟩,⟨rfl,rfl,rfl,by simp,fun k _ hk=>setRow_other w gb k _ (fun e=>hk (by simp [Value.ownBlock,e]))⟩,fun b hb=>.inl hb,
    ⟨hown.1,.inr ⟨gb,cap,_,rfl,Nat.zero_le _,setRow_heap w gb cur _ e _ hg,hnc,hcm,?_,?_⟩⟩⟩
   ·simp only [List.size_toArray,List.length_append,List.length_take,List.length_drop,Array.length_toList]
    omega
   ·rw [htake,← hlen]
    exact List.take_left
   ·simp only [List.size_toArray,List.length_append,List.length_take,List.length_drop,Array.length_toList]
    omega
   ·rw [htake]
    have:xs.length=n * i.size:=hown.1
    rw [List.append_assoc,← this]
    exact List.take_left
 ·rcases hown.2 with ⟨rfl,rfl⟩ | ⟨gb,cap,cur,rfl,_,hg,hnc,hcm,hcs,htake⟩
  ·obtain ⟨v',w',e1,e2,e3,_⟩:=run_append_own (P:=P) w w.heap.size t ty e i z size bytes ht hi hz hsize hby hzs hsz _ 0 xs (ownsRow_base hown (by simp [Value.ownBlock])) a m c news hl hnews h1 h63 hbytes (Nat.le_refl _)
   have hx:xs=[]:=List.eq_nil_of_length_eq_zero (by have:=hown.1;simpa using this)
   refine ⟨v',w',e1,ownsRow_base e2 (fun b _=>Nat.zero_le _),e3,fun b hb=>.inr (e2.lt b hb).1,?_⟩
   rw [hx];exact World.ownsRow_nil w' 0 e size
  ·subst hsize
   subst hby
   have hno:¬ n+m≤cap:=fun h=>hfit ⟨gb,cap,rfl,h⟩
   have hsmall:n+m≤9223372036854775807:=by simp only [maxLen] at h63;omega
   have holds:∀ j u,xs[j]? = some u→w.cell? ((⟨gb,0,none⟩:Addr).add j)=some u:=hown.cells (g:=gb) rfl
   have hr:=run_append_grow (P:=P) w t ty e i z ht hi hz ⟨gb,0,none⟩ n cap xs hown.1 holds a m c news hl hnews (by omega) (by omega) (growslice_fits (by omega) hbytes)
   have hlen:(xs++news).length=(n+m) * i.size:=by rw [List.length_append,hown.1,hl,Nat.add_mul]
   have hge:=grownCap_ge w (n+m) cap e
   have hcm':grownCap w (n+m) cap e≤maxLen:=grownCap_le_maxLen w (n+m) cap e h63
   refine ⟨_,_,hr,⟨hlen,.inr ⟨w.heap.size,_,_,rfl,Nat.zero_le _,heap_alloc_new w.drew _,hge,hcm',?_,?_⟩⟩,⟨rfl,rfl,rfl,by simp,fun k hk _=>Below.heap_alloc w.drew _ k hk⟩,fun b hb=>.inr (by simp [Value.ownBlock] at hb;omega),
    ⟨hown.1,.inr ⟨gb,cap,cur,rfl,Nat.zero_le _,?_,hnc,hcm,hcs,htake⟩⟩⟩
   ·simp only [Array.size_append,List.size_toArray,size_zeroCells,hzs,hown.1,hl,← Nat.add_mul]
    congr 1
    omega
   ·simp only [Array.toList_append,List.append_assoc]
    rw [← List.append_assoc,← hlen]
    exact List.take_left
   ·rw [Below.heap_alloc w.drew _ gb (Array.getElem?_eq_some_iff.1 hg).1];exact hg
section
variable {C : Cx} {sl : List (Nat × Value)} {own : List Asn} {ops : Array Oper} {Q : Exit → Act → World → Prop} {ty : TypeId} {pos : String} {aft : Array Edge} {g : Option (Nat × Bool)} {rest : List Oper}
theorem AK.appendH (i:Nat) {d:Nat} {s x:Operand} {t t' E:TypeId} {sz by_:Nat} {z v v2:Value} {n m:Nat} {cs cs2:List Value} (hi:own[i]? = some (row v E sz n cs)) (ht:SlT C.P t E sz) (hE:ElT C.P E z sz by_) (hz:z.cells.size=sz) (hsz:0<sz) (htt:t'=t)
  (hx:opv ⟨sl,own⟩ s=some v) (hy:opv ⟨sl,own⟩ x=some v2) (hr:RdS C own v2 sz m cs2) (h1:one' cs2) (hm:n+m≤9223372036854775807) (hb:(n+m) * by_≤140737488355328) (hg:Grd ops sl g) (hd:Nat.blt d C.N=true)
  (h:∀ v',IsSl v'→AK C ⟨(d,v') :: sl,own.set i (row2 v v' E sz n (n+m) cs (cs++cs2))⟩ (wpList C.P ops Q rest)) :
  AK C ⟨sl,own⟩ (wpList C.P ops Q (⟨some d,.call ⟨.builtin .append,#[s,x],#[t,t']⟩,ty,pos,aft,g⟩ :: rest)):=by
 subst htt
 intro a w hs
 refine wpList_step fun K hK=>?_
 rw [if_pos (wanted_of_Grd hs hg)]
 obtain ⟨inf,hi1,hi2,hi3,hi4⟩:=hE.inf
 obtain ⟨hf,Fs,hh,hal⟩:=hs.world
 obtain ⟨hown,hFs⟩:=hh.at_ i _ hi
 have hrd:=hr w hs.world
 have key:∃ v' w',(Builtin.append_ #[t',t'] ty #[v,v2]).run C.P w = .ok v' w'∧w'.ownsRow 0 E sz v' (n+m) (cs++cs2)∧w.grownBy w' v.ownBlock∧(∀ b,v'.ownBlock=some b→v.ownBlock=some b∨w.heap.size≤b)∧w'.ownsRow 0 E sz v n cs:=by
  obtain ⟨oa,cap,rfl,hmm,hl2,hnn,hc2⟩:=hrd
  cases oa with
  | some ad=>
   exact run_append_at2 (P:=C.P) w t' ty E inf z sz by_ ht.1 hi1 hi2 hi3 hi4 hz hsz v n cs hown ad m cap cs2 hl2 (fun j u hj=>(hc2 ad j u rfl hj).2) h1 (by simpa [maxLen] using hm) hb
  | none=>
   have hm0:m=0:=by
    rcases Nat.eq_zero_or_pos m with h | h
    ·exact h
    ·have:=hnn h hsz;simp at this
   subst hm0
   have hcs2:cs2=[]:=List.eq_nil_of_length_eq_zero (by simpa using hl2)
   subst hcs2
   have:n≤(match v with | .slice _ _ c=>c | _=>0)∧∃ ao c,v = .slice ao n c∧n≤c:=by
    rcases hown.2 with ⟨rfl,rfl⟩ | ⟨gb,cp,cur,rfl,_,_,hnc,_⟩
    ·exact ⟨Nat.le_refl _,none,0,rfl,Nat.le_refl _⟩
    ·exact ⟨hnc,_,cp,rfl,hnc⟩
   obtain ⟨_,ao,c,rfl,hnc⟩:=this
   refine ⟨.slice ao n c,w,?_,by simpa using hown,⟨rfl,rfl,rfl,Nat.le_refl _,fun _ _ _=>rfl⟩,fun b hb=>.inl hb,hown⟩
   cases ao with
   | none=>simp [Builtin.append_,run_underlying ht.1,sizeOf,typeInfo,hi1,Builtin.lenOf,hnc,Builtin.firstCells]
   | some a0=>simp [Builtin.append_,run_underlying ht.1,sizeOf,typeInfo,hi1,Builtin.lenOf,hnc,Builtin.firstCells,storeCells]
 obtain ⟨v',w',e1,e2,e3,e4,e5⟩:=key
 have hrun:(execOp a.eval ⟨some d,.call ⟨.builtin .append,#[s,x],#[t',t']⟩,ty,pos,aft,g⟩).run C.P w = .ok (.value v') w':=by
  simp [execOp,resolve,invoke,builtin,opv_eval hs hx,opv_eval hs hy,e1]
 simp only [Oper.wp,hrun,Oper.upon]
 have hr1:=row_of e2
 have hr0:=row_of e5
 refine hK _ _ (h v' (row_sl hr1) _ _ ?_)
 have hlt:i<own.length:=(List.getElem?_eq_some_iff.1 hi).1
 have hup:=HW.update (w':=w') (own2:=[]) (A':=row2 v v' E sz n (n+m) cs (cs++cs2)) hf hh hal hlt (.ofGrown e3 (fun k hk=>(hFs k).2 hk.symm) (sem_drawn _ _ _ _ e1))
  (HeapAt.one (F:=fun b=>v.ownBlock=some b∨v'.ownBlock=some b) ⟨_,_,hr0,hr1,fun b=>Iff.rfl⟩)
  (fun j b hb=>by
   rcases hb.2 with h | h
   ·exact .inl ((hFs b).2 h)
   ·rcases e4 b h with h | h
    ·exact .inl ((hFs b).2 h)
    ·exact .inr h)
 rw [List.append_nil] at hup
 exact hs.put hup (d:=some d) (fun i hi=>by cases hi;simpa [Nat.blt_eq] using hd) v'
theorem AK.grown {K:Act→World→Prop} (L:List Asn) (σ:List Nat) (hn:σ.Nodup) (hp:PickLe own L σ) (h:AK C ⟨sl,L⟩ K):AK C ⟨sl,own⟩ K:=fun a w hs=>h a w ⟨hs.size,hs.defers,hs.slot,HW.pickLe σ hn hp hs.world⟩
end
end Go.Sx
namespace Go.Sx
open Go.RowKit
def sv (l:List UInt8):Value:=.string ⟨l.toArray⟩
def byv (c:UInt8):Value:=.int .u8 (c.toNat:Int)
section ops
variable {C : Cx} {sl : List (Nat × Value)} {own : List Asn} {dst : Option Nat} {ty : TypeId} {pos : String} {aft : Array Edge} {g : Option (Nat × Bool)}
theorem Yl.lenS {x:Operand} {t:TypeId} {l:List UInt8} (ht:C.P.underlying t=some .string) (hx:opv ⟨sl,own⟩ x=some (sv l)) :
  Yl C ⟨sl,own⟩ ⟨dst,.call ⟨.builtin .len,#[x],#[t]⟩,ty,pos,aft,g⟩ (.int .i64 (l.length:Int)):=
 fun a w hs=>by
  have hx':=opv_eval hs hx
  unfold sv at hx'
  have hl:(⟨l.toArray⟩:ByteArray).size=l.length:=rfl
  simp [execOp,resolve,invoke,builtin,hx',Builtin.len_,run_underlying ht,goInt,hl]
theorem Yl.idxS {x i:Operand} {t:TypeId} {l:List UInt8} {k:Int} (ht:C.P.underlying t=some .string) (hx:opv ⟨sl,own⟩ x=some (sv l)) (hi:opv ⟨sl,own⟩ i=some (.int .i64 k)) (hk:0≤k∧k<l.length) :
  Yl C ⟨sl,own⟩ ⟨dst,.index t x i,ty,pos,aft,g⟩ (byv (l.getD k.toNat 0)):=
 fun a w hs=>by
  have h1:k.toNat<l.length:=by omega
  have h2:(⟨l.toArray⟩:ByteArray)[k.toNat]? = some (l.getD k.toNat 0):=by
   have:k.toNat<(⟨l.toArray⟩:ByteArray).size:=by simpa [ByteArray.size] using h1
   rw [getElem?_pos (⟨l.toArray⟩:ByteArray) k.toNat this,List.getD_eq_getElem?_getD,List.getElem?_eq_getElem h1]
   rfl
  simp only [execOp,opv_eval hs hx,opv_eval hs hi]
  simp only [Instr.index,asIntOf,Sem.run_bind,Sem.run_pure,Result.andThen_ok,run_underlying ht,sv,hk.1,if_true,h2]
  rfl
theorem Yl.idxSN {x i:Operand} {t:TypeId} {l:List UInt8} {k:Nat} (ht:C.P.underlying t=some .string) (hx:opv ⟨sl,own⟩ x=some (sv l)) (hi:opv ⟨sl,own⟩ i=some (.int .i64 (k:Int))) (hk:k<l.length) :
 Yl C ⟨sl,own⟩ ⟨dst,.index t x i,ty,pos,aft,g⟩ (byv (l.getD k 0)):=Yl.idxS ht hx hi (by omega)
theorem Yl.subU8 {x y:Operand} {t t':TypeId} {m n:Int} (hx:opv ⟨sl,own⟩ x=some (.int .u8 m)) (hy:opv ⟨sl,own⟩ y=some (.int .u8 n)) (h1:0≤m - n∧m - n≤255) :
  Yl C ⟨sl,own⟩ ⟨dst,.binOp .sub t x y t',ty,pos,aft,g⟩ (.int .u8 (m - n)):=
 fun a w hs=>by
  have:IntKind.u8.wrap (m - n)=m - n:=by simp [IntKind.wrap,IntKind.bits,IntKind.signed];omega
  simp only [execOp,opv_eval hs hx,opv_eval hs hy];simp [go_sem,Op.intArith,this]
theorem Yl.addU8 {x y:Operand} {t t':TypeId} {m n:Int} (hx:opv ⟨sl,own⟩ x=some (.int .u8 m)) (hy:opv ⟨sl,own⟩ y=some (.int .u8 n)) (h1:0≤m+n∧m+n≤255) :
  Yl C ⟨sl,own⟩ ⟨dst,.binOp .add t x y t',ty,pos,aft,g⟩ (.int .u8 (m+n)):=
 fun a w hs=>by
  have:IntKind.u8.wrap (m+n)=m+n:=by simp [IntKind.wrap,IntKind.bits,IntKind.signed];omega
  simp only [execOp,opv_eval hs hx,opv_eval hs hy];simp [go_sem,Op.intArith,this]
theorem Yl.convI {x:Operand} {s d:TypeId} {k k':IntKind} {n:Int} (hs:(C.P.underlying s).isSome=true) (hd:C.P.underlying d=some (.int k')) (hx:opv ⟨sl,own⟩ x=some (.int k n)) (h:k'.wrap n=n) :
  Yl C ⟨sl,own⟩ ⟨dst,.convert s d x,ty,pos,aft,g⟩ (.int k' n):=
 fun a w hs'=>by
  obtain ⟨sd,hsd⟩:=Option.isSome_iff_exists.mp hs
  have:(convert s d (.int k n)).run C.P w = .ok (.int k' n) w:=by simp [convert,run_underlying hsd,run_underlying hd,Conv.intToInt,h]
  simp only [execOp,opv_eval hs' hx,Sem.run_bind,this,Result.andThen_ok,Sem.run_pure]
theorem wrap_u8 {n:Int} (h:0≤n∧n≤255):IntKind.u8.wrap n=n:=by simp [IntKind.wrap,IntKind.bits,IntKind.signed];omega
theorem wrap_u64 {n:Int} (h:0≤n∧n≤9223372036854775807):IntKind.u64.wrap n=n:=by simp [IntKind.wrap,IntKind.bits,IntKind.signed];omega
theorem wrap_i64 {n:Int} (h:-9223372036854775808≤n∧n≤9223372036854775807):IntKind.i64.wrap n=n:=wrap_in h.1 h.2
theorem Yl.nilCheck {x:Operand} {p:Addr} (hx:opv ⟨sl,own⟩ x=some (.pointer (some p))):Yl C ⟨sl,own⟩ ⟨dst,.nilCheck x,ty,pos,aft,g⟩ (.pointer (some p)):=
 fun a w hs=>by simp [execOp,opv_eval hs hx]
theorem Yl.makeFunc {fn:Fn} {first captured:List Operand} {vs us:List Value} (hx:opvs ⟨sl,own⟩ first=some vs) (hy:opvs ⟨sl,own⟩ captured=some us):Yl C ⟨sl,own⟩ ⟨dst,.makeFunc fn first.toArray captured.toArray,ty,pos,aft,g⟩ (.func fn vs.toArray us.toArray):=
 fun a w hs=>by
  have h1:=opvs_eval hs hx
  have h2:=opvs_eval hs hy
  subst h1;subst h2
  simp [execOp,Instr.makeFunc]
def slTo (v:Value) (m:Nat):Value:=match v with
 | .slice a _ c=>.slice a m c
 | v=>v
theorem Yl.sliceTo (i:Nat) {x h:Operand} {t E:TypeId} {sz n:Nat} {v:Value} {m:Int} {cs:List Value} (hi:own[i]? = some (row v E sz n cs)) (ht:SlT C.P t E sz) (hx:opv ⟨sl,own⟩ x=some v) (hh:opv ⟨sl,own⟩ h=some (.int .i64 m)) (hm:0≤m∧m≤n) :
  Yl C ⟨sl,own⟩ ⟨dst,.slice t x none (some h) none,ty,pos,aft,g⟩ (slTo v m.toNat):=
 fun a w hs=>by
  obtain ⟨_,Fs,hhp,_⟩:=hs.world
  obtain ⟨hown,_⟩:=hhp.at_ i _ hi
  obtain ⟨inf,hi1,hi2⟩:=ht.inf
  have:∃ ao c,v = .slice ao n c∧n≤c:=by
   rcases hown.2 with ⟨rfl,rfl⟩ | ⟨gb,cp,cur,rfl,_,_,hnc,_⟩
   ·exact ⟨none,0,rfl,Nat.le_refl _⟩
   ·exact ⟨_,cp,rfl,hnc⟩
  obtain ⟨ao,c,rfl,hnc⟩:=this
  have h1:(0:Int)≤m∧m≤(c:Int):=by omega
  simp only [execOp,opv_eval hs hx,Option.map_none,Option.map_some,opv_eval hs hh]
  simp [Instr.sliceAt,Instr.slice,Instr.sliceBounds,Instr.sliceBound,asIntOf,run_underlying ht.1,h1.1,h1.2,sizeOf,typeInfo,hi1,slTo]
  intro _
  cases ao <;> simp [Addr.add]
theorem row_to {w:World} {F:Nat→Prop} {v:Value} {E:TypeId} {sz n m:Nat} {cs:List Value} (h:(row v E sz n cs).holds w F) (hm:m≤n):(row (slTo v m) E sz m (cs.take (m * sz))).holds w F:=by
 obtain ⟨hown,hF⟩:=h
 have hle:m * sz≤n * sz:=Nat.mul_le_mul_right _ hm
 rcases hown.2 with ⟨rfl,rfl⟩ | ⟨gb,cp,cur,rfl,h0,hb,hnc,hcm,hcs,htake⟩
 ·have:m=0:=by omega
  subst this
  refine ⟨⟨by simp,.inl ⟨rfl,rfl⟩⟩,hF⟩
 ·refine ⟨⟨by rw [List.length_take,hown.1];omega,.inr ⟨gb,cp,cur,rfl,h0,hb,by omega,hcm,hcs,?_⟩⟩,hF⟩
  rw [← htake,List.take_take,Nat.min_eq_left hle]
theorem HW.elem {own:List Asn} {w:World} {A A':Asn} (i:Nat) (hi:own[i]? = some A) (hA:∀ F,A.holds w F→A'.holds w F) (h:HW C own w):HW C (own.set i A') w:=by
 obtain ⟨hf,Fs,hh,hal⟩:=h
 refine ⟨hf,Fs,⟨fun k B hk=>?_,fun k hk b hb=>hh.out k (by simpa using hk) b hb,hh.apart⟩,hal⟩
 by_cases hki:i=k
 ·subst hki
  have hlt:=(List.getElem?_eq_some_iff.1 hi).1
  simp [hlt] at hk
  subst hk
  exact hA _ (hh.at_ i A hi)
 ·rw [List.getElem?_set_ne hki] at hk;exact hh.at_ k B hk
theorem AK.reslice {K:Act→World→Prop} (i:Nat) {v:Value} {E:TypeId} {sz n:Nat} {cs:List Value} (m:Nat) (hi:own[i]? = some (row v E sz n cs)) (hm:m≤n) (h:AK C ⟨sl,own.set i (row (slTo v m) E sz m (cs.take (m * sz)))⟩ K):AK C ⟨sl,own⟩ K:=
 fun a w hs=>h a w ⟨hs.size,hs.defers,hs.slot,hs.world.elem i hi (fun F hA=>row_to hA hm)⟩
theorem AK.own' {K:Act→World→Prop} (L:List Asn) (hL:∀ w,HW C own w→HW C L w) (h:AK C ⟨sl,L⟩ K):AK C ⟨sl,own⟩ K:=fun a w hs=>h a w ⟨hs.size,hs.defers,hs.slot,hL w hs.world⟩
end ops
def RdL {α:Type} (F:Nat→Prop) (f:α→Value) (w:World) (v:Value) (xs:List α):Prop:=Rd (fun b=>¬ F b) w v 1 xs.length (xs.map f)
def RdLL {α:Type} (F:Nat→Prop) (f:α→Value) (w:World) (v:Value) (xss:List (List α)):Prop:=∃ rs:List Value,rs.length=xss.length∧Rd (fun b=>¬ F b) w v 1 xss.length rs∧∀ i,i<xss.length→RdL F f w (rs.getD i undef) (xss.getD i [])
section
variable {α : Type} {C : Cx} {on : List Asn} {w : World} {f : α → Value}
theorem Rd.keep {G:Nat→Prop} {v:Value} {sz n:Nat} {cs:List Value} (h:Rd (fun b=>¬ C.S b) C.W0 v sz n cs) (hf:FrameX C.S C.W0 w) (hG:∀ b,¬ C.S b→b<C.W0.heap.size→G b):Rd G w v sz n cs:=
 Rd.mono h fun b hb hlt=>⟨hG b hb hlt,hf.block b hlt hb⟩
theorem RdL.at {v:Value} {xs:List α} (h:RdL C.S f C.W0 v xs) (hw:HW C on w):RdL (fun _=>False) f w v xs:=Rd.keep h hw.frame (fun _ _ _=>id)
theorem RdLL.at {v:Value} {xs:List (List α)} (h:RdLL C.S f C.W0 v xs) (hw:HW C on w):RdLL (fun _=>False) f w v xs:=by
 obtain ⟨rs,h1,h2,h3⟩:=h
 exact ⟨rs,h1,Rd.keep h2 hw.frame (fun _ _ _=>id),fun i hi=>RdL.at (h3 i hi) hw⟩
theorem RdL.off {Fs:Nat→Nat→Prop} {i:Nat} {v:Value} {xs:List α} (h:RdL C.S f C.W0 v xs) (hf:FrameX C.S C.W0 w) (hal:∀ k b,Fs k b→C.W0.heap.size≤b∨C.S b):RdL (Fs i) f w v xs:=
 Rd.keep h hf (fun b hb hlt hF=>by rcases hal i b hF with h | h;(omega);exact hb h)
theorem RdL.own {v:Value} {E:TypeId} {xs:List α} (i:Nat) (hw:HW C on w) (hi:on[i]? = some (row v E 1 xs.length (xs.map f))):RdL (fun _=>False) f w v xs:=
 (RdS.own (C:=C) i hi w hw).mono fun b _ _=>⟨id,rfl⟩
def matG {α:Type} (f:α→Value) (E:TypeId) (rs:List Value) (xss:List (List α)):List Asn:=(rs.zip xss).map fun p=>row p.1 E 1 p.2.length (p.2.map f)
theorem matG_length {E:TypeId} {rs:List Value} {xss:List (List α)} (h:rs.length=xss.length):(matG f E rs xss).length=xss.length:=by simp [matG,h]
theorem matG_get {E:TypeId} {rs:List Value} {xss:List (List α)} (h:rs.length=xss.length) {i:Nat} (hi:i<xss.length):(matG f E rs xss)[i]? = some (row (rs.getD i undef) E 1 (xss.getD i []).length ((xss.getD i []).map f)):=by
 simp [matG,List.getElem?_eq_getElem hi,List.getElem?_eq_getElem (show i<rs.length by omega),List.getD_eq_getElem?_getD,List.zip,List.getElem?_zipWith]
theorem matG_snoc {E:TypeId} {rs:List Value} {xss:List (List α)} (h:rs.length=xss.length) (q:Value) (ys:List α):matG f E (rs++[q]) (xss++[ys])=matG f E rs xss++[row q E 1 ys.length (ys.map f)]:=by
 simp [matG,List.zip_append h]
theorem RdLL.own {v:Value} {E E':TypeId} {rs:List Value} {xss:List (List α)} (i j:Nat) (hw:HW C on w) (hl:rs.length=xss.length) (hi:on[i]? = some (row v E 1 xss.length rs)) (hj:on[j]? = some (bigA (matG f E' rs xss))):RdLL (fun _=>False) f w v xss:=
 ⟨rs,hl,(RdS.own (C:=C) i hi w hw).mono fun b _ _=>⟨id,rfl⟩,fun k hk=>(RdS.big (C:=C) j k hj (matG_get hl hk) w hw).mono fun b _ _=>⟨id,rfl⟩⟩
theorem RdL.big {v:Value} {E':TypeId} {rs:List Value} {xss:List (List α)} (j k:Nat) (hw:HW C on w) (hj:on[j]? = some (bigA (matG f E' rs xss))) (hl:rs.length=xss.length) (hk:k<xss.length):RdL (fun _=>False) f w (rs.getD k undef) (xss.getD k []):=
 (RdS.big (C:=C) j k hj (matG_get hl hk) w hw).mono fun b _ _=>⟨id,rfl⟩
theorem HW.ghostG {α:Type} {f:α→Value} (E:TypeId) (h:HW C on w):HW C (on++[bigA (matG f E [] ([]:List (List α)))]) w:=h.ghostBig _ (fun i A hi=>by simp [matG] at hi)
end
section
variable {C : Cx} {sl : List (Nat × Value)} {own : List Asn} {ops : Array Oper} {Q : Exit → Act → World → Prop} {d : Nat} {ty : TypeId} {pos : String} {aft : Array Edge} {g : Option (Nat × Bool)} {rest : List Oper}
theorem run_callV {a:Act} {w:World} (hs:Sim C ⟨sl,own⟩ a w) {f:FuncId} {x:Operand} {xs:List Operand} {tys:Array TypeId} {vs us cs:List Value} {dst:Option Nat}
  (hf:CallOk C.P f) (hx0:opv ⟨sl,own⟩ x=some (.func (.func f) us.toArray cs.toArray)) (hx:opvs ⟨sl,own⟩ xs=some vs):(execOp a.eval ⟨dst,.call ⟨.value x,xs.toArray,tys⟩,ty,pos,aft,g⟩).run C.P w = .ok (.enter f (us++vs++cs).toArray) w:=by
 obtain ⟨fn,h1,h2,h3⟩:=hf.fn
 have:=opvs_eval hs hx
 subst this
 have h2':¬ fn.name = "runtime.NumGoroutine":=by simpa using h2
 have h3':¬ fn.body=none:=by intro e;simp [e] at h3
 have h0:=opv_eval hs hx0
 simp [execOp,resolve,h0,Deferred.ofValue,invoke,callFunc,h1,h2',h3']
theorem AK.callV {f:FuncId} {x:Operand} {xs:List Operand} {tys:Array TypeId} {vs us cs:List Value} {φ:Value→List Asn→Prop} (hf:CallOk C.P f) (hx0:opv ⟨sl,own⟩ x=some (.func (.func f) us.toArray cs.toArray)) (hx:opvs ⟨sl,own⟩ xs=some vs) (hspec:∀ w,HW C own w→CallS C.P f (us++vs++cs) w φ) (hg:Grd ops sl g) (hd:Nat.blt d C.N=true)
  (h:∀ v own',φ v own'→AK C ⟨(d,v) :: sl,own++own'⟩ (wpList C.P ops Q rest)):AK C ⟨sl,own⟩ (wpList C.P ops Q (⟨some d,.call ⟨.value x,xs.toArray,tys⟩,ty,pos,aft,g⟩ :: rest)):=by
 intro a w hs
 refine wpList_step fun K hK=>?_
 rw [if_pos (wanted_of_Grd hs hg)]
 simp only [Oper.wp,run_callV hs hf hx0 hx,Oper.upon]
 refine (hspec w hs.world).mono ?_
 rintro e w' ⟨v,own',hφ,rfl,hx',Fs,hh,hin⟩
 refine hK _ _ (h v own' hφ _ _ ?_)
 exact hs.put (hs.world.push hx' hh (fun j b hb=>(hin j b hb).resolve_left id)) (d:=some d) (fun i hi=>by cases hi;simpa [Nat.blt_eq] using hd) v
theorem AK.callN (i:Nat) {A:Asn} {f:FuncId} {xs:List Operand} {tys:Array TypeId} {vs:List Value} {φ:Value→Asn→List Asn→Prop} (hi:own[i]? = some A) (hf:CallOk C.P f) (hx:opvs ⟨sl,own⟩ xs=some vs)
  (hspec:∀ w Fs,HW C own w→HeapAt own Fs w→FrameX C.S C.W0 w→(∀ k b,Fs k b→C.W0.heap.size≤b∨C.S b)→CallM C.P f vs w (Fs i) φ) (hg:Grd ops sl g) (hd:Nat.blt d C.N=true)
  (h:∀ v A' own',φ v A' own'→AK C ⟨(d,v) :: sl,own.set i A'++own'⟩ (wpList C.P ops Q rest)):AK C ⟨sl,own⟩ (wpList C.P ops Q (⟨some d,.call ⟨.value (.func f),xs.toArray,tys⟩,ty,pos,aft,g⟩ :: rest)):=by
 intro a w hs
 refine wpList_step fun K hK=>?_
 rw [if_pos (wanted_of_Grd hs hg)]
 simp only [Oper.wp,run_call hs hf hx,Oper.upon]
 obtain ⟨hf',Fs,hh,hal⟩:=hs.world
 refine (hspec w Fs ⟨hf',Fs,hh,hal⟩ hh hf' hal).mono ?_
 rintro e w' ⟨v,A',own',hφ,rfl,hx',Fs',hh',hin⟩
 refine hK _ _ (h v A' own' hφ _ _ ?_)
 exact hs.put (HW.update hf' hh hal (List.getElem?_eq_some_iff.1 hi).1 hx' hh' hin) (d:=some d) (fun i hi=>by cases hi;simpa [Nat.blt_eq] using hd) v
theorem HW.flat {l own:List Asn} {w:World} (h:HW C (bigA l :: own) w):HW C (l++own) w:=by
 obtain ⟨hf,Fs,hh,hal⟩:=h
 obtain ⟨Gs,gh,gF⟩:=hh.at_ 0 (bigA l) rfl
 have gal:∀ k b,Gs k b→Fs 0 b:=fun k b hb=>(gF b).2 ⟨k,hb⟩
 refine ⟨hf,fun k b=>if k<l.length then Gs k b else Fs (k - l.length+1) b,⟨?_,?_,?_⟩,?_⟩
 ·intro k A hk
  by_cases hkl:k<l.length
  ·rw [List.getElem?_append_left hkl] at hk
   simpa [hkl] using gh.at_ k A hk
  ·rw [List.getElem?_append_right (by omega)] at hk
   have:=hh.at_ (k - l.length+1) A (by simpa using hk)
   simpa [hkl] using this
 ·intro k hk b hb
  simp at hk
  simp only [show ¬ k<l.length by omega,if_false] at hb
  exact hh.out _ (by simp;omega) b hb
 ·intro k j b h1 h2
  by_cases hk:k<l.length <;> by_cases hj:j<l.length
  ·simp only [hk,hj,if_true] at h1 h2;exact gh.apart k j b h1 h2
  ·simp only [hk,hj,if_true,if_false] at h1 h2
   have:=hh.apart 0 _ b (gal k b h1) h2;omega
  ·simp only [hk,hj,if_true,if_false] at h1 h2
   have:=hh.apart 0 _ b (gal j b h2) h1;omega
  ·simp only [hk,hj,if_false] at h1 h2
   have:=hh.apart _ _ b h1 h2;omega
 ·intro k b hb
  split at hb
  ·exact hal 0 b (gal k b hb)
  ·exact hal _ b hb
theorem HW.unflat {l own:List Asn} {w:World} (h:HW C (l++own) w):HW C (bigA l :: own) w:=by
 obtain ⟨hf,Fs,hh,hal⟩:=h
 refine ⟨hf,fun k b=>if k=0 then ∃ i,i<l.length∧Fs i b else Fs (k - 1+l.length) b,⟨?_,?_,?_⟩,?_⟩
 ·intro k A hk
  cases k with
  | zero=>
   simp at hk
   subst hk
   refine ⟨fun i b=>i<l.length∧Fs i b,⟨?_,?_,?_⟩,?_⟩
   ·intro i B hi
    have hil:=(List.getElem?_eq_some_iff.1 hi).1
    have:=hh.at_ i B (by rw [List.getElem?_append_left hil];exact hi)
    simpa [hil] using this
   ·rintro i hi b ⟨h,_⟩;omega
   ·rintro i j b ⟨_,h1⟩ ⟨_,h2⟩;exact hh.apart i j b h1 h2
   ·intro b;simp only [if_true];exact Iff.rfl
  | succ k=>
   have:=hh.at_ (k+l.length) A (by rw [List.getElem?_append_right (by omega)];simpa using hk)
   simpa using this
 ·intro k hk b hb
  simp at hk
  have hk0:k ≠ 0:=by omega
  simp only [hk0,if_false] at hb
  exact hh.out _ (by simp;omega) b hb
 ·intro k j b h1 h2
  by_cases hk:k=0 <;> by_cases hj:j=0
  ·omega
  ·simp only [hk,hj,if_true,if_false] at h1 h2
   obtain ⟨i,hi,h1⟩:=h1
   have:=hh.apart _ _ b h1 h2;omega
  ·simp only [hk,hj,if_true,if_false] at h1 h2
   obtain ⟨i,hi,h2⟩:=h2
   have:=hh.apart _ _ b h1 h2;omega
  ·simp only [hk,hj,if_false] at h1 h2
   have:=hh.apart _ _ b h1 h2;omega
 ·intro k b hb
  split at hb
  ·obtain ⟨i,_,hb⟩:=hb;exact hal i b hb
  ·exact hal _ b hb
theorem fm_range {α:Type} (L:List α):∀ (n s:Nat),s+n≤L.length→(List.range' s n).filterMap (L[·]?)=(L.drop s).take n
 | 0,s,_=>by simp
 | n+1,s,hle=>by
  have hlt:s<L.length:=by omega
  rw [List.range'_succ,List.filterMap_cons,List.getElem?_eq_getElem hlt]
  simp only
  rw [fm_range L n (s+1) (by omega),List.drop_eq_getElem_cons hlt,List.take_succ_cons]
theorem HW.flatAt {l pre post:List Asn} {w:World} (h:HW C (pre++bigA l :: post) w):HW C (pre++l++post) w:=by
 have hp:HW C (bigA l :: (pre++post)) w:=by
  refine HW.pick h (pre.length :: (List.range' 0 pre.length++List.range' (pre.length+1) post.length)) ?_ ?_ ?_
  ·rw [List.nodup_cons,List.nodup_append]
   refine ⟨by simp;omega,List.nodup_range',List.nodup_range',fun a ha b hb=>?_⟩
   simp at ha hb;omega
  ·rw [List.filterMap_cons,List.filterMap_append,fm_range _ _ _ (by simp),fm_range _ _ _ (by simp;omega)]
   simp [List.drop_append,List.drop_eq_nil_of_le (show pre.length≤pre.length+1 by omega)]
  ·simp
 have h2:=hp.flat
 refine HW.pick h2 (List.range' l.length pre.length++(List.range' 0 l.length++List.range' (l.length+pre.length) post.length)) ?_ ?_ (by simp)
 ·rw [List.nodup_append,List.nodup_append]
  refine ⟨List.nodup_range',⟨List.nodup_range',List.nodup_range',fun a ha b hb=>?_⟩,fun a ha b hb=>?_⟩
  ·simp at ha hb;omega
  ·simp at ha hb;omega
 ·rw [List.filterMap_append,List.filterMap_append,fm_range _ _ _ (by simp),fm_range _ _ _ (by simp),fm_range _ _ _ (by simp;omega)]
  simp [List.drop_append,List.drop_eq_nil_of_le (show l.length≤l.length+pre.length by omega)]
theorem AK.flatAt {K:Act→World→Prop} (pre:List Asn) {l post:List Asn} (h:AK C ⟨sl,pre++l++post⟩ K):AK C ⟨sl,pre++bigA l :: post⟩ K:=fun a w hs=>h a w ⟨hs.size,hs.defers,hs.slot,hs.world.flatAt⟩
end
theorem specM_of' {P:Program} {f:FuncId} {fn:Func} {c:Code} {vs:List Value} {w:World} {F:Nat→Prop} {l:List Asn} {φ:Value→Asn→List Asn→Prop} (hf:P.funcs[f]? = some fn) (hb:fn.body=some c) (hN:vs.length≤fn.ntmps) (hA:(bigA l).holds w F)
  (h:AK ⟨P,fn.ntmps,w,F⟩ ⟨argSl 0 vs,l⟩ (c.wp P (bodyPost P fn fun e w'=>∃ v A' own',φ v A' own'∧e = .returned v∧Ret F w w' (A' :: own')))):CallM P f vs w F φ:=
 specM_of hf hb hN hA (fun a w hs=>h a w ⟨hs.size,hs.defers,hs.slot,by have:=hs.world.flat;simpa using this⟩)
theorem Ret.ofBig {C:Cx} {l own:List Asn} {w:World} (h:HW C (l++own) w):Ret C.S C.W0 w (bigA l :: own):=Ret.of h.unflat
end Go.Sx
namespace Go.Sx
open Go.RowKit
def resOf (r:ResultVar) (tmps:Array Value):Sem Value:=match r with
 | .tmp t=>pure (tmps.getD t undef)
 | .cell a t=>do loadVar t (← asAddr (tmps.getD a undef))
def ResY (C:Cx) (st:St) (r:ResultVar) (v:Value):Prop:=∀ a w,Sim C st a w→(resOf r a.tmps).run C.P w = .ok v w
inductive ResYs (C:Cx) (st:St):List ResultVar→List Value→Prop
 | nil:ResYs C st [] []
 | cons {r:ResultVar} {v:Value} {rs:List ResultVar} {vs:List Value}:ResY C st r v→ResYs C st rs vs→ResYs C st (r :: rs) (v :: vs)
def retV:List Value→Value
 | [v]=>v
 | vs=>.tuple vs.toArray
theorem run_mapM_list {P:Program} {α:Type} (f:α→Sem Value) (w:World):∀ (l:List α) (vs:List Value),l.length=vs.length→(∀ (i:Nat) r v,l[i]? = some r→vs[i]? = some v→(f r).run P w = .ok v w)→(l.mapM f).run P w = .ok vs w
 | [],[],_,_=>by simp [Sem.run_pure]
 | r :: l,v :: vs,hl,h=>by
  have h0:=h 0 r v rfl rfl
  have ih:=run_mapM_list f w l vs (by simpa using hl) (fun i r v h1 h2=>h (i+1) r v (by simpa using h1) (by simpa using h2))
  simp only [List.mapM_cons,Sem.run_bind,h0,Result.andThen_ok,ih,Sem.run_pure]
theorem ResYs.get {C:Cx} {st:St} {rs:List ResultVar} {vs:List Value} (h:ResYs C st rs vs):rs.length=vs.length∧∀ (i:Nat) r v,rs[i]? = some r→vs[i]? = some v→ResY C st r v:=by
 induction h with
 | nil=>exact ⟨rfl,fun i r v h=>by simp at h⟩
 | cons h1 h2 ih=>
  refine ⟨by simp [ih.1],fun i r v hr hv=>?_⟩
  cases i with
  | zero=>simp at hr hv;subst hr;subst hv;exact h1
  | succ i=>exact ih.2 i r v (by simpa using hr) (by simpa using hv)
theorem results_run {C:Cx} {st:St} {fn:Func} {rs:List ResultVar} {vs:List Value} (hr:fn.results=rs.toArray) (h:ResYs C st rs vs) {a:Act} {w:World} (hs:Sim C st a w):(results fn a.tmps).run C.P w = .ok (retV vs) w:=by
 obtain ⟨hl,hg⟩:=h.get
 have:=run_mapM_list (P:=C.P) (fun r=>resOf r a.tmps) w rs vs hl (fun i r v h1 h2=>hg i r v h1 h2 a w hs)
 have e:(fn.results.mapM (m:=Sem) fun r=>resOf r a.tmps).run C.P w = .ok vs.toArray w:=by
  rw [hr,List.mapM_toArray]
  simp [this]
 have e3:results fn a.tmps=(do let vs ← fn.results.mapM (fun r=>resOf r a.tmps);pure (if h:vs.size=1 then vs[0] else .tuple vs)):=by
  unfold results
  congr 1
 rw [e3]
 simp only [Sem.run_bind,e]
 simp only [Result.andThen_ok,Sem.run_pure]
 match vs with
 | []=>rfl
 | [v]=>rfl
 | v :: u :: vs=>rfl
theorem ResY.tmp {C:Cx} {sl:List (Nat × Value)} {own:List Asn} {t:Nat} {v:Value} (h:get sl t=some v):ResY C ⟨sl,own⟩ (.tmp t) v:=fun a w hs=>by
 have:=hs.slot t v h
 simp only [resOf,this,Sem.run_pure]
theorem ResY.cell {C:Cx} {sl:List (Nat × Value)} {own:List Asn} {s t b off sz:Nat} {cs us:List Value} (ht:AggT C.P t sz) (hx:get sl s=some (.pointer (some ⟨b,off,none⟩))) (hb:BoxS C own b cs) (hu:(cs.drop off).take sz=us) (hl:us.length=sz):ResY C ⟨sl,own⟩ (.cell s t) (.agg us.toArray):=fun a w hs=>by
 obtain ⟨E,hb⟩:=hb w hs.world
 have hl':=run_loadCells_list (P:=C.P) (w:=w) ⟨b,off,none⟩ us (fun i u hi=>by
  rw [Addr.add_lit,cell_of_row w b _ _ E (0,0) hb]
  rw [← hu,List.getElem?_take] at hi
  split at hi
  ·rw [List.getElem?_drop] at hi;simpa using hi
  ·cases hi)
 rw [hl] at hl'
 have:=hs.slot s _ hx
 simp only [resOf,this]
 simp [asAddr,loadVar,run_isAgg_agg ht,run_sizeOf_of ht.2,hl']
theorem AK.retG {C:Cx} {sl:List (Nat × Value)} {own:List Asn} {fn:Func} {R:Ending→World→Prop} (rs:List ResultVar) {vs:List Value} (hr:fn.results=rs.toArray) (hv:ResYs C ⟨sl,own⟩ rs vs) (h:∀ w,HW C own w→R (.returned (retV vs)) w):AK C ⟨sl,own⟩ (bodyPost C.P fn R .ret):=by
 intro a w hs
 exact ⟨hs.defers,_,results_run hr hv hs,h w hs.world⟩
theorem AK.endG {C:Cx} {sl:List (Nat × Value)} {own:List Asn} {fn:Func} {R:Ending→World→Prop} (rs:List ResultVar) {vs:List Value} (hr:fn.results=rs.toArray) (hv:ResYs C ⟨sl,own⟩ rs vs) (h:∀ w,HW C own w→R (.returned (retV vs)) w):AK C ⟨sl,own⟩ (bodyPost C.P fn R .normal):=by
 intro a w hs
 exact ⟨hs.defers,_,results_run hr hv hs,h w hs.world⟩
theorem one'_nil:one' []:=fun u h=>by cases h
theorem one'_cons {u:Value} {us:List Value} (h:u.oneCell'=true) (h':one' us):one' (u :: us):=fun x hx=>by
 rcases List.mem_cons.1 hx with rfl | hx
 ·exact h
 ·exact h' x hx
theorem one'_map {α:Type} (f:α→Value) (h:∀ a,(f a).oneCell'=true) (xs:List α):one' (xs.map f):=by
 intro u hu;rw [List.mem_map] at hu;obtain ⟨x,_,rfl⟩:=hu;exact h x
theorem Rd.sl {G:Nat→Prop} {w:World} {v:Value} {sz n:Nat} {cs:List Value} (h:Rd G w v sz n cs):IsSl v:=by
 obtain ⟨a,c,h,_⟩:=h;exact ⟨a,_,c,h⟩
theorem nilSl:IsSl (.slice none 0 0):=⟨_,_,_,rfl⟩
theorem AK.shape {C:Cx} {sl:List (Nat × Value)} {own:List Asn} {K:Act→World→Prop} (i:Nat) {v:Value} {E:TypeId} {sz n:Nat} {cs:List Value} (hi:own[i]? = some (row v E sz n cs)) (h:IsSl v→AK C ⟨sl,own⟩ K):AK C ⟨sl,own⟩ K:=
 AK.fact (p:=IsSl v) (fun w hw=>hw.shape i hi) h
theorem Yl.idxK {C:Cx} {sl:List (Nat × Value)} {own:List Asn} {dst:Option Nat} {ty:TypeId} {pos:String} {aft:Array Edge} {g:Option (Nat × Bool)} {x i:Operand} {t e:TypeId} {sz:Nat} {v:Value} {n:Nat} {q:IntKind} {k:Int} {cs:List Value} (ht:SlT C.P t e sz) (hx:opv ⟨sl,own⟩ x=some v) (hi:opv ⟨sl,own⟩ i=some (.int q k))
  (hr:RdS C own v sz n cs) (hz:0<sz) (h0:0≤k∧k<n):Yl C ⟨sl,own⟩ ⟨dst,.indexAddr t x i,ty,pos,aft,g⟩ (.pointer (some ((slA v).add (k.toNat * sz)))):=
 fun a w hs=>by
  obtain ⟨oa,cap,rfl,_,_,h4,_⟩:=hr w hs.world
  have:=h4 (by omega) hz
  obtain ⟨ad,rfl⟩:=Option.isSome_iff_exists.1 this
  have h1:=ht.1
  obtain ⟨inf,h2,h3⟩:=ht.inf
  simp [execOp,opv_eval hs hx,opv_eval hs hi,Instr.indexAt,asIntOf,run_underlying h1,h0.1,h0.2,sizeOf,typeInfo,h2,h3,slA]
theorem Yl.subE {C:Cx} {sl:List (Nat × Value)} {own:List Asn} {dst:Option Nat} {ty:TypeId} {pos:String} {aft:Array Edge} {g:Option (Nat × Bool)} {x y:Operand} {t t':TypeId} {m n:Int} (r:Int) (hx:opv ⟨sl,own⟩ x=some (.int .i64 m)) (hy:opv ⟨sl,own⟩ y=some (.int .i64 n)) (e:m - n=r) (h1:-9223372036854775808≤r∧r≤9223372036854775807) :
  Yl C ⟨sl,own⟩ ⟨dst,.binOp .sub t x y t',ty,pos,aft,g⟩ (.int .i64 r):=by
 subst e;exact Yl.sub hx hy h1
theorem Yl.addE {C:Cx} {sl:List (Nat × Value)} {own:List Asn} {dst:Option Nat} {ty:TypeId} {pos:String} {aft:Array Edge} {g:Option (Nat × Bool)} {x y:Operand} {t t':TypeId} {m n:Int} (r:Int) (hx:opv ⟨sl,own⟩ x=some (.int .i64 m)) (hy:opv ⟨sl,own⟩ y=some (.int .i64 n)) (e:m+n=r) (h1:-9223372036854775808≤r∧r≤9223372036854775807) :
  Yl C ⟨sl,own⟩ ⟨dst,.binOp .add t x y t',ty,pos,aft,g⟩ (.int .i64 r):=by
 subst e;exact Yl.add hx hy h1
theorem slTo_sl {v:Value} (k:Nat) (h:IsSl v):IsSl (slTo v k):=by obtain ⟨a,n,c,rfl⟩:=h;exact ⟨_,_,_,rfl⟩
theorem AK.flat0 {C:Cx} {sl:List (Nat × Value)} {own l post:List Asn} {K:Act→World→Prop} (e:own=bigA l :: post) (h:AK C ⟨sl,l++post⟩ K):AK C ⟨sl,own⟩ K:=by
 subst e;exact fun a w hs=>h a w ⟨hs.size,hs.defers,hs.slot,hs.world.flat⟩
theorem Ret.ofBig0 {C:Cx} {l:List Asn} {w:World} (h:HW C l w):Ret C.S C.W0 w [bigA l]:=Ret.ofBig (own:=[]) (by rw [List.append_nil];exact h)
structure Dfa where
 L:Int
 s:Int
 fin:List Bool
 nx:List (List Int)
deriving DecidableEq
def RdD (F:Nat→Prop) (w:World) (v:Value) (d:Dfa):Prop:=∃ vF vN,v = .agg #[.int .i64 d.L,.int .i64 d.s,vF,vN]∧RdL F Value.bool w vF d.fin∧RdLL F (Value.int .i64) w vN d.nx
theorem RdD.at {C:Cx} {own:List Asn} {w:World} {v:Value} {d:Dfa} (h:RdD C.S C.W0 v d) (hw:HW C own w):RdD (fun _=>False) w v d:=by
 obtain ⟨vF,vN,rfl,h1,h2⟩:=h
 exact ⟨vF,vN,rfl,h1.at hw,h2.at hw⟩
def dfaO (EB EI ER:TypeId) (vF vN:Value) (rs:List Value) (d:Dfa):List Asn:=[row vF EB 1 d.fin.length (d.fin.map Value.bool),row vN ER 1 d.nx.length rs,bigA (matG (Value.int .i64) EI rs d.nx)]
def fldB (P:Program) (s f off:Nat):Bool:=match P.underlying s with
 | some (.struct fs)=>match fs[f]? with
  | some fd=>fd.offset == off && ((P.info? fd.type).map (fun i=>decide (i.size=0)) == some false)
  | none=>false
 | _=>false
theorem FldT.of {P:Program} {s f off:Nat} (h:fldB P s f off=true):FldT P s f off:=by
 unfold fldB at h
 split at h
 ·rename_i fs hu
  split at h
  ·rename_i fd hf
   simp only [Bool.and_eq_true,beq_iff_eq] at h
   exact ⟨fs,fd,hu,hf,h.1,h.2⟩
  ·cases h
 ·cases h
theorem HW.rest {C:Cx} {a:Asn} {l:List Asn} {w:World} (h:HW C (a :: l) w):HW C l w:=by
 have:=h.pick (own':=l) ((List.range' 1 l.length)) List.nodup_range' (by
  have:=fm_range (a :: l) l.length 1 (by simp;omega)
  rw [this];simp) (by simp)
 exact this
theorem RdS.hd {C:Cx} {l:List Asn} {v:Value} {E:TypeId} {sz n:Nat} {cs:List Value}:RdS C (row v E sz n cs :: l) v sz n cs:=RdS.own 0 rfl
theorem RdS.tl {C:Cx} {a:Asn} {l:List Asn} {v:Value} {sz n:Nat} {cs:List Value} (h:RdS C l v sz n cs):RdS C (a :: l) v sz n cs:=fun w hw=>h w hw.rest
theorem BoxS.hd {C:Cx} {l:List Asn} {b:Nat} {E:TypeId} {sz:Nat} {cs:List Value}:BoxS C (box b E sz cs :: l) b cs:=BoxS.own 0 rfl
theorem BoxS.tl {C:Cx} {a:Asn} {l:List Asn} {b:Nat} {cs:List Value} (h:BoxS C l b cs):BoxS C (a :: l) b cs:=fun w hw=>h w hw.rest
theorem MapS.hd {C:Cx} {l:List Asn} {b:Nat} {kvs:List (Value × Value)}:MapS C (mapA b kvs :: l) (.map (some b)) kvs:=MapS.own 0 rfl
theorem MapS.tl {C:Cx} {a:Asn} {l:List Asn} {v:Value} {kvs:List (Value × Value)} (h:MapS C l v kvs):MapS C (a :: l) v kvs:=fun w hw=>h w hw.rest
end Go.Sx
namespace Go.Sx
open Go.RowKit
theorem SlLe.app {sl a b:List (Nat × Value)} (h1:SlLe sl a) (h2:SlLe sl b):SlLe sl (a++b):=h1.append h2
theorem AK.loopK {C:Cx} {sl:List (Nat × Value)} {own:List Asn} {c:Code} {Q:Exit→Act→World→Prop} {X:Type} (kv:List (Nat × Value)) (ch:X→List (Nat × Value)) (ow:X→List Asn) (good:X→Prop) (μ:X→Nat) (x0:X) (hk:SlLe sl kv) (h0:good x0) (h1:SlLe sl (ch x0)) (h2:∀ w,HW C own w→HW C (ow x0) w)
  (round:∀ x,good x→∀ K:Act→World→Prop,(∀ sl' own' x',good x'→μ x' < μ x→SlLe sl' (ch x'++kv)→(∀ w,HW C own' w→HW C (ow x') w)→AK C ⟨sl',own'⟩ K)→AK C ⟨ch x++kv,ow x⟩ (c.wp C.P (Exit.then K Q))) :
  AK C ⟨sl,own⟩ ((Code.loop c).wp C.P Q):=by
 intro a w hs
 refine wp_loop_ghost (fun n a w=>∃ x,good x∧μ x=n∧Sim C ⟨ch x++kv,ow x⟩ a w) (μ x0) ⟨x0,h0,rfl,⟨hs.size,hs.defers,fun i v hv=>hs.slot i v ((h1.app hk).get i v hv),h2 w hs.world⟩⟩ ?_
 rintro n a w ⟨x,hg,rfl,hs⟩
 exact round x hg _ (fun sl' own' x' hg' hlt hsl how a w hs'=>⟨μ x',hlt,x',hg',rfl,⟨hs'.size,hs'.defers,fun i v hv=>hs'.slot i v (hsl.get i v hv),how w hs'.world⟩⟩) a w hs
theorem AK.joinK {C:Cx} {sl:List (Nat × Value)} {own:List Asn} {Q:Exit→Act→World→Prop} {id:Nat} {l:Array Oper} {dr:Bool} {X:Type} (kv:List (Nat × Value)) (ch:X→List (Nat × Value)) (ow:X→List Asn) (good:X→Prop) (hk:SlLe sl kv)
  (main:∀ Q':Exit→Act→World→Prop,(∀ sl' own' x,good x→SlLe sl' (ch x++kv)→(∀ w,HW C own' w→HW C (ow x) w)→AK C ⟨sl',own'⟩ (Q' .normal))→AK C ⟨sl,own⟩ ((Code.region id l dr).wp C.P Q'))
  (h:∀ x,good x→AK C ⟨ch x++kv,ow x⟩ (Q .normal)):AK C ⟨sl,own⟩ ((Code.region id l dr).wp C.P Q):=
 main Q (fun sl' own' x hg h1 h2=>AK.weakenS h1 h2 (h x hg))
section
variable {α β : Type} [DecidableEq α] {C : Cx} {sl : List (Nat × Value)} {own : List Asn} {ops : Array Oper} {Q : Exit → Act → World → Prop} {ty : TypeId} {pos : String} {aft : Array Edge} {g : Option (Nat × Bool)} {rest : List Oper}
theorem Yl.shr {dst:Option Nat} {x y:Operand} {t t':TypeId} {k:IntKind} {m n:Int} (hx:opv ⟨sl,own⟩ x=some (.int .i64 m)) (hy:opv ⟨sl,own⟩ y=some (.int k n)) (hm:0≤m) (hn:0≤n∧n≤62) :
  Yl C ⟨sl,own⟩ ⟨dst,.binOp .shr t x y t',ty,pos,aft,g⟩ (.int .i64 (m / 2 ^ n.toNat)):=
 fun a w hs=>by
  have h1:Min.min n.toNat 64=n.toNat:=by omega
  have h2:¬ n<0:=by omega
  have h3:m.fdiv (2 ^ n.toNat)=m / 2 ^ n.toNat:=Int.fdiv_eq_ediv_of_nonneg m (Int.pow_nonneg (by decide))
  simp only [execOp,opv_eval hs hx,opv_eval hs hy]
  simp [go_sem,binOp,Op.shift,IntKind.bits,h1,h2,h3]
end
end Go.Sx
namespace Go.Sx
open Go.RowKit
def Tup (n:Nat):Type:={ l:List Int // l.length=n }
instance (n:Nat):DecidableEq (Tup n):=inferInstanceAs (DecidableEq { l:List Int // l.length=n })
def tv {n:Nat} (a:Tup n):Value:=.agg (a.1.map (Value.int .i64)).toArray
theorem run_eqItems_ints {P:Program} {e:TypeId} (he:P.underlying e=some (.int .i64)) (d:Nat) (xs ys:List Int) (w:World):∀ is:List Nat,(∀ i∈is,i<xs.length∧i<ys.length) →
  (Op.eqItems (d+1) e 1 (xs.map (Value.int .i64)).toArray (ys.map (Value.int .i64)).toArray is).run P w = .ok (decide (∀ i∈is,xs.getD i 0=ys.getD i 0)) w
 | [],_=>by simp [Op.eqItems]
 | j :: is,h=>by
  have hagg:∀ w,(isAgg e).run P w = .ok false w:=fun w=>by simp [isAgg,run_underlying he]
  have hpart:∀ (cs:Array Value) (off:Nat) (v:Value) (w:World),cs[off]? = some v→(part e cs off).run P w = .ok v w:=fun cs off v w h=>by simp [part,hagg,h]
  obtain ⟨h1,h2⟩:=h j (List.mem_cons_self ..)
  have p1:=hpart (xs.map (Value.int .i64)).toArray (j * 1) (.int .i64 (xs.getD j 0)) w (by simp [List.getD_eq_getElem?_getD,h1])
  have p2:=hpart (ys.map (Value.int .i64)).toArray (j * 1) (.int .i64 (ys.getD j 0)) w (by simp [List.getD_eq_getElem?_getD,h2])
  have ih:=run_eqItems_ints he d xs ys w is (fun i hi=>h i (List.mem_cons_of_mem _ hi))
  simp only [Op.eqItems,Sem.run_bind,p1,p2,Result.andThen_ok,run_equalIn_int w d e .i64 .i64 _ _ he]
  by_cases hj:xs.getD j 0=ys.getD j 0
  ·have e1:(xs.getD j 0 == ys.getD j 0)=true:=by rw [beq_iff_eq];exact hj
   rw [e1]
   simp only [Bool.not_true,Bool.false_eq_true,if_false]
   rw [ih]
   congr 1
   simp only [List.mem_cons,forall_eq_or_imp,hj,true_and]
  ·have e1:(xs.getD j 0 == ys.getD j 0)=false:=by rw [beq_eq_false_iff_ne];exact hj
   rw [e1]
   simp only [Bool.not_false,if_true,Sem.run_pure]
   congr 1
   symm
   rw [decide_eq_false_iff_not]
   intro hh
   exact hj (hh j (List.mem_cons_self ..))
theorem keyTup {P:Program} {kt e:TypeId} {n:Nat} (hk:P.underlying kt=some (.array n e)) (he:P.underlying e=some (.int .i64)) (hs:(P.info? e).map (·.size)=some 1):KeyL P kt (tv:Tup n→Value):=by
 obtain ⟨i,hi⟩:∃ i,P.info? e=some i:=by cases h:P.info? e with
  | none=>simp [h] at hs
  | some i=>exact ⟨i,rfl⟩
 have hsz:i.size=1:=by simpa [hi] using hs
 have hco:P.cellsOf e=1:=by simp [Program.cellsOf,hi,hsz]
 have hagg:∀ w,(isAgg e).run P w = .ok false w:=fun w=>by simp [isAgg,run_underlying he]
 have hpart:∀ (cs:Array Value) (off:Nat) (v:Value) (w:World),cs[off]? = some v→(part e cs off).run P w = .ok v w:=fun cs off v w h=>by simp [part,hagg,h]
 refine keyOfEqual hk (fun a b=>rfl) (fun a b w=>?_) (fun em a w=>?_) (fun a=>?_)
 ·show (Op.equalIn (9999+1) kt (tv a) (tv b)).run P w=_
  unfold tv
  rw [run_equalIn_array (w:=w) 9999 _ _ hk hi,hco,run_eqItems_ints he 9998 a.1 b.1 w (List.range n) (fun i hi=>by rw [List.mem_range] at hi;rw [a.2,b.2];exact ⟨hi,hi⟩)]
  congr 1
  rw [decide_eq_decide]
  constructor
  ·intro h
   apply Subtype.ext
   apply List.ext_getElem
   ·rw [a.2,b.2]
   ·intro k h1 h2
    have:=h k (by rw [List.mem_range,← a.2];exact h1)
    simpa [List.getD_eq_getElem?_getD,h1,h2] using this
  ·intro h i _;rw [h]
 ·show (Instr.checkKey em (9999+1) kt (tv a)).run P w=_
  have hs':∀ w,(sizeOf e).run P w = .ok 1 w:=fun w=>run_sizeOf_of hs w
  have hc0:∀ (n:Nat) (x:Int) (w:World),(Instr.checkKey em (n+1) e (.int .i64 x)).run P w = .ok () w:=fun n x w=>by simp [Instr.checkKey,run_underlying he]
  have hc:∀ (x:Int) (w:World),(Instr.checkKey em 9999 e (.int .i64 x)).run P w = .ok () w:=fun x w=>hc0 9998 x w
  unfold tv Instr.checkKey
  simp only [Sem.run_bind,run_underlying hk,Result.andThen_ok,Std.Legacy.Range.forIn_eq_forIn_range',Std.Legacy.Range.size,Nat.sub_zero,Nat.add_one_sub_one,Nat.div_one]
  have hm:∀ i∈List.range' 0 n,i<n:=fun i hi=>by rw [List.mem_range'_1] at hi;omega
  revert hm
  generalize List.range' 0 n=is
  intro hm
  induction is with
  | nil=>simp
  | cons j is ih=>
   have hj:=hm j (List.mem_cons_self ..)
   have p1:=hpart (a.1.map (Value.int .i64)).toArray (j * 1) (.int .i64 (a.1.getD j 0)) w (by simp [List.getD_eq_getElem?_getD,show j<a.1.length by rw [a.2];exact hj])
   simp only [List.forIn_cons,Sem.run_bind,hs',p1,hc,Result.andThen_ok,Sem.run_pure]
   exact ih (fun i hi=>hm i (List.mem_cons_of_mem _ hi))
 ·have h0:∀ (n:Nat) (v:Int),Instr.sameBits (n+1) (.int .i64 v) (.int .i64 v)=true:=fun n v=>by simp [Instr.sameBits]
  have h1:∀ n,Instr.sameBits (n+2) (tv a) (tv a)=true:=fun n=>by
   unfold tv
   simp only [Instr.sameBits,beq_self_eq_true,Bool.true_and,List.size_toArray,Array.all_eq_true,Array.toList_zip]
   simp
   intro x y hxy
   obtain ⟨i,hi,e⟩:=List.mem_iff_getElem.1 hxy
   rw [List.getElem_zip,List.getElem_map,Prod.mk.injEq] at e
   rw [← e.1,← e.2];exact h0 n _
  exact h1 9998
theorem Yl.loadTup {C:Cx} {sl:List (Nat × Value)} {own:List Asn} {dst:Option Nat} {ty:TypeId} {pos:String} {aft:Array Edge} {g:Option (Nat × Bool)} {x:Operand} {t b n:Nat} {a:Tup n} (ht:AggT C.P t n) (hx:opv ⟨sl,own⟩ x=some (.pointer (some ⟨b,0,none⟩))) (hb:BoxS C own b (a.1.map (Value.int .i64))) :
  Yl C ⟨sl,own⟩ ⟨dst,.load t x,ty,pos,aft,g⟩ (tv a):=
 Yl.loadBoxG ht hx hb (by rw [List.drop_zero,List.take_of_length_le (by rw [List.length_map,a.2];exact Nat.le_refl _)]) (by rw [List.length_map,a.2])
def FldQ (P:Program) (s f off:Nat):Prop:=∃ fs fd,P.underlying s=some (.struct fs)∧fs[f]? = some fd∧OneT P fd.type∧fd.offset=off
def fldQB (P:Program) (s f off:Nat):Bool:=match P.underlying s with
 | some (.struct fs)=>match fs[f]? with
  | some fd=>((P.underlying fd.type).map oneD == some true) && fd.offset == off
  | none=>false
 | _=>false
theorem FldQ.of {P:Program} {s f off:Nat} (h:fldQB P s f off=true):FldQ P s f off:=by
 unfold fldQB at h
 split at h
 ·rename_i fs h1
  split at h
  ·rename_i fd h2
   rw [Bool.and_eq_true] at h
   exact ⟨fs,fd,h1,h2,by unfold OneT;simpa using h.1,by simpa using h.2⟩
  ·cases h
 ·cases h
theorem Yl.fieldQ {C:Cx} {sl:List (Nat × Value)} {own:List Asn} {dst:Option Nat} {ty:TypeId} {pos:String} {aft:Array Edge} {g:Option (Nat × Bool)} {x:Operand} {s f off:Nat} {cs:List Value} {u:Value} (h:FldQ C.P s f off) (hx:opv ⟨sl,own⟩ x=some (.agg cs.toArray)) (hu:cs[off]? = some u) :
  Yl C ⟨sl,own⟩ ⟨dst,.field s x f,ty,pos,aft,g⟩ u:=by
 obtain ⟨fs,fd,h1,h2,h3,rfl⟩:=h
 exact Yl.field h1 h2 h3 hx hu
end Go.Sx
namespace Go.Sx
open Go.RowKit
section
variable {C : Cx} {sl : List (Nat × Value)} {own : List Asn} {ops : Array Oper} {Q : Exit → Act → World → Prop} {d : Nat} {ty : TypeId} {pos : String} {aft : Array Edge} {g : Option (Nat × Bool)} {rest : List Oper}
theorem AK.callVN (i:Nat) {A:Asn} {f:FuncId} {x:Operand} {xs:List Operand} {tys:Array TypeId} {vs us cs:List Value} {φ:Value→Asn→List Asn→Prop} (hi:own[i]? = some A) (hf:CallOk C.P f) (hx0:opv ⟨sl,own⟩ x=some (.func (.func f) us.toArray cs.toArray)) (hx:opvs ⟨sl,own⟩ xs=some vs)
  (hspec:∀ w Fs,HW C own w→HeapAt own Fs w→FrameX C.S C.W0 w→(∀ k b,Fs k b→C.W0.heap.size≤b∨C.S b)→CallM C.P f (us++vs++cs) w (Fs i) φ) (hg:Grd ops sl g) (hd:Nat.blt d C.N=true)
  (h:∀ v A' own',φ v A' own'→AK C ⟨(d,v) :: sl,own.set i A'++own'⟩ (wpList C.P ops Q rest)):AK C ⟨sl,own⟩ (wpList C.P ops Q (⟨some d,.call ⟨.value x,xs.toArray,tys⟩,ty,pos,aft,g⟩ :: rest)):=by
 intro a w hs
 refine wpList_step fun K hK=>?_
 rw [if_pos (wanted_of_Grd hs hg)]
 simp only [Oper.wp,run_callV hs hf hx0 hx,Oper.upon]
 obtain ⟨hf',Fs,hh,hal⟩:=hs.world
 refine (hspec w Fs ⟨hf',Fs,hh,hal⟩ hh hf' hal).mono ?_
 rintro e w' ⟨v,A',own',hφ,rfl,hx',Fs',hh',hin⟩
 refine hK _ _ (h v A' own' hφ _ _ ?_)
 exact hs.put (HW.update hf' hh hal (List.getElem?_eq_some_iff.1 hi).1 hx' hh' hin) (d:=some d) (fun i hi=>by cases hi;simpa [Nat.blt_eq] using hd) v
end
end Go.Sx
namespace Go.Sx
open Go.RowKit
section
variable {C : Cx} {sl : List (Nat × Value)} {own : List Asn} {ops : Array Oper} {Q : Exit → Act → World → Prop} {Qq : Act → Prop} {d : Nat} {op : Op} {ty : TypeId} {pos : String} {aft : Array Edge} {g : Option (Nat × Bool)} {rest : List Oper} {u : Value} {y : Operand}
theorem AK.v (hy:Yl C ⟨sl,own⟩ ⟨some d,op,ty,pos,aft,none⟩ u) (h:AK C ⟨(d,u) :: sl,own⟩ (wpList C.P ops Q rest)) (hd:Nat.blt d C.N=true:=by exact rfl):AK C ⟨sl,own⟩ (wpList C.P ops Q (⟨some d,op,ty,pos,aft,none⟩ :: rest)):=AK.val u hy trivial hd h
theorem QK.v (hy:Yl C ⟨sl,own⟩ ⟨some d,op,ty,pos,aft,none⟩ u) (h:QK C ⟨(d,u) :: sl,own⟩ (wpQuiet C.P ops (HW C own) Qq rest)) (hd:Nat.blt d C.N=true:=by exact rfl):QK C ⟨sl,own⟩ (wpQuiet C.P ops (HW C own) Qq (⟨some d,op,ty,pos,aft,none⟩ :: rest)):=QK.val u hy trivial hd h
theorem SK.v {w:World} (hw:HW C own w) (hy:Yl C ⟨sl,own⟩ ⟨some d,op,ty,pos,aft,none⟩ u) (h:SK C ⟨(d,u) :: sl,own⟩ (wpStill C.P ops w Qq rest)) (hd:Nat.blt d C.N=true:=by exact rfl):SK C ⟨sl,own⟩ (wpStill C.P ops w Qq (⟨some d,op,ty,pos,aft,none⟩ :: rest)):=SK.val hw u hy trivial hd h
theorem AK.mv (hx:opv ⟨sl,own⟩ y=some u) (h:AK C ⟨(d,u) :: sl,own⟩ (wpList C.P ops Q rest)) (hd:Nat.blt d C.N=true:=by exact rfl):AK C ⟨sl,own⟩ (wpList C.P ops Q (⟨some d,.move y,ty,pos,aft,none⟩ :: rest)):=AK.v (.move hx) h hd
theorem AK.as (hx:opv ⟨sl,own⟩ y=some u) (h:AK C ⟨(d,u) :: sl,own⟩ (wpList C.P ops Q rest)) (hd:Nat.blt d C.N=true:=by exact rfl):AK C ⟨sl,own⟩ (wpList C.P ops Q (⟨some d,.assign y,ty,pos,aft,none⟩ :: rest)):=AK.v (.assign hx) h hd
theorem QK.mv (hx:opv ⟨sl,own⟩ y=some u) (h:QK C ⟨(d,u) :: sl,own⟩ (wpQuiet C.P ops (HW C own) Qq rest)) (hd:Nat.blt d C.N=true:=by exact rfl):QK C ⟨sl,own⟩ (wpQuiet C.P ops (HW C own) Qq (⟨some d,.move y,ty,pos,aft,none⟩ :: rest)):=QK.v (.move hx) h hd
theorem QK.as (hx:opv ⟨sl,own⟩ y=some u) (h:QK C ⟨(d,u) :: sl,own⟩ (wpQuiet C.P ops (HW C own) Qq rest)) (hd:Nat.blt d C.N=true:=by exact rfl):QK C ⟨sl,own⟩ (wpQuiet C.P ops (HW C own) Qq (⟨some d,.assign y,ty,pos,aft,none⟩ :: rest)):=QK.v (.assign hx) h hd
theorem AK.nt {J:Act→World→Prop} {K:Act→World→Prop} (hK:∀ st',AK C st' J→AK C st' K) (h:AK C ⟨sl,own⟩ J):AK C ⟨sl,own⟩ (wpList C.P ops (Exit.then K Q) []):=AK.nil (AK.then_ (hK _ h))
theorem AK.sr {id:Nat} {l:List Oper} {z:Code} {st:St} (h:∀ K:Act→World→Prop,(∀ st',AK C st' (z.wp C.P Q)→AK C st' K)→AK C st (wpList C.P l.toArray (Exit.then K Q) l)):AK C st ((Code.seq (Code.region id l.toArray false) z).wp C.P Q):=AK.seq fun K hK=>AK.region (h K hK)
def lb (n m:Nat):Array Bool:=((List.range n).map fun i=>m.testBit i).toArray
end
theorem krf {α:Type} {a b:α} (h:a=b:=by kernel_rfl):a=b:=h
theorem rdp {C:Cx} {own:List Asn} {v:Value} {sz n:Nat} {cs:List Value} (h:RdS C own v sz n cs:=by first | exact .arg ‹_› | ((repeat (first | exact .hd | apply RdS.tl));done) | assumption):RdS C own v sz n cs:=h
theorem bsp {C:Cx} {own:List Asn} {b:Nat} {cs:List Value} (h:BoxS C own b cs:=by first | ((repeat (first | exact .hd | apply BoxS.tl));done) | assumption | exact BoxS.arg (by assumption) (by assumption) | exact BoxS.arg (by assumption)):BoxS C own b cs:=h
theorem msp {C:Cx} {own:List Asn} {v:Value} {kvs:List (Value × Value)} (h:MapS C own v kvs:=by first | ((repeat (first | exact .hd | apply MapS.tl));done) | assumption):MapS C own v kvs:=h
theorem hle {l l':List Asn} (h:HWle l l':=by ((repeat (first | refine HWle.cons Ale.rfl ?_ | refine HWle.cons Ale.fst ?_ | exact HWle.nil)) <;> fail)):HWle l l':=h
theorem slr {sl l:List (Nat × Value)} (h:SlLe sl l:=by ((repeat (first | refine SlLe.cons rfl ?_ | exact SlLe.nil)) <;> fail)):SlLe sl l:=h
theorem oneP {us:List Value} (h:one' us:=by ((repeat (first | refine one'_cons (by first | rfl | exact IsSl.one (by assumption) | exact IsSl.one nilSl) ?_ | exact one'_nil)) <;> fail)):one' us:=h
theorem pkl {own1 L:List Asn} {σ:List Nat} (h:PickLe own1 L σ:=by ((repeat (first | refine PickLe.cons rfl Ale.rfl ?_ | refine PickLe.cons rfl Ale.snd ?_ | refine PickLe.cons rfl Ale.fst ?_ | exact PickLe.nil)) <;> fail)):PickLe own1 L σ:=h
section
variable {C : Cx} {sl : List (Nat × Value)} {own : List Asn} {dst : Option Nat} {ty : TypeId} {pos : String} {aft : Array Edge} {g : Option (Nat × Bool)} {x i : Operand} {t e : TypeId} {sz : Nat} {v : Value} {n : Nat} {cs : List Value}
theorem Yl.iN {k:Nat} (ht:SlT C.P t e sz) (hx:opv ⟨sl,own⟩ x=some v) (hi:opv ⟨sl,own⟩ i=some (.int .i64 (k:Int)))
 (hr:RdS C own v sz n cs:=by first | exact .arg ‹_› | ((repeat (first | exact .hd | apply RdS.tl));done) | assumption) (hz:0<sz:=by decide) (h0:k<n:=by omega):Yl C ⟨sl,own⟩ ⟨dst,.indexAddr t x i,ty,pos,aft,g⟩ (.pointer (some ((slA v).add (k * sz)))):=Yl.idxN ht hx hi hr hz h0
theorem Yl.iK {q:IntKind} {k:Int} (ht:SlT C.P t e sz) (hx:opv ⟨sl,own⟩ x=some v) (hi:opv ⟨sl,own⟩ i=some (.int q k))
 (hr:RdS C own v sz n cs:=by first | exact .arg ‹_› | ((repeat (first | exact .hd | apply RdS.tl));done) | assumption) (hz:0<sz:=by decide) (h0:0≤k∧k<n:=by omega):Yl C ⟨sl,own⟩ ⟨dst,.indexAddr t x i,ty,pos,aft,g⟩ (.pointer (some ((slA v).add (k.toNat * sz)))):=Yl.idxK ht hx hi hr hz h0
end
theorem bs:(∀ (p:Prop) [Decidable p],(decide p=true)=p)∧(∀ (p:Prop) [Decidable p],(decide p=false) = ¬ p)∧(∀ b:Bool,((!b)=true)=(b=false))∧(∀ b:Bool,((!b)=false)=(b=true))∧(∀ b:Bool,(!!b)=b)∧(∀ {α:Type} (a b:α),(a ≠ b) = ¬ a=b)∧(∀ (p:Prop) [Decidable p],(¬ ¬ p)=p)∧(∀ a b:Int,(¬ a<b)=(b≤a))∧(∀ a b:Int,(¬ a≤b)=(b<a))∧(∀ {α:Type} [BEq α] [LawfulBEq α] (a b:α),((a == b)=true)=(a=b))∧(∀ {α:Type} [BEq α] [LawfulBEq α] (a b:α),((a != b)=true)=(a ≠ b))∧(∀ a b:Bool,((a && b)=true)=(a=true∧b=true))∧(∀ a b:Bool,((a || b)=true)=(a=true∨b=true))∧(∀ a b:Bool,((a || b)=false)=(a=false∧b=false))∧((!false)=true)∧((!true)=false)∧((true=false)=False)∧((false=true)=False)∧((¬ True)=False)∧((¬ False)=True):=by
 refine ⟨?_,?_,?_,?_,?_,?_,?_,?_,?_,?_,?_,?_,?_,?_,?_,?_,?_,?_,?_,?_⟩ <;> intros <;> simp
section
variable {C : Cx} {sl : List (Nat × Value)} {own : List Asn} {dst : Option Nat} {ty : TypeId} {pos : String} {aft : Array Edge} {g : Option (Nat × Bool)}
def andZ (m n:Int):Int:=IntKind.i64.wrap (BitVec.toNat (BitVec.ofInt 64 m &&& BitVec.ofInt 64 n):Int)
theorem Yl.andAny {x y:Operand} {t t':TypeId} {m n:Int} (hx:opv ⟨sl,own⟩ x=some (.int .i64 m)) (hy:opv ⟨sl,own⟩ y=some (.int .i64 n)):Yl C ⟨sl,own⟩ ⟨dst,.binOp .and t x y t',ty,pos,aft,g⟩ (.int .i64 (andZ m n)):=
 fun a w hs=>by
  simp only [execOp,opv_eval hs hx,opv_eval hs hy]
  simp only [go_sem,Op.intBits,IntKind.bits]
  rfl
end
end Go.Sx
namespace Go.Sx
open Go.RowKit
variable {C : Cx} {sl : List (Nat × Value)} {own : List Asn} {ops : Array Oper} {Q : Exit → Act → World → Prop} {ty : TypeId} {pos : String} {aft : Array Edge} {g : Option (Nat × Bool)} {rest : List Oper}
end Go.Sx
