import Derived.Test.YtbibnpdnmmgacaaGreatDoorKZa
import Derived.StillTail
import Derived.Laws.IdiomCopy
import Derived.Laws.CopyRow
import Derived.OrdersHeld
import Derived.Laws.Concat
import Derived.Laws.Runes
import Derived.Laws.BytesString
import Derived.Laws.IdiomStrings
set_option linter.unusedVariables false
set_option linter.unusedSimpArgs false
set_option maxRecDepth 100000
namespace Go.Sx
def Qn (Q:Exit→Act→World→Prop):Exit→Act→World→Prop:=fun e a w=>e = .normal∧Q .normal a w
theorem AA {Q:Exit→Act→World→Prop}:¬ LetsOut (Qn Q):=fun ⟨_,_,h,_⟩=>by cases h
section
variable {P : Program} {ops : Array Oper} {Q : Exit → Act → World → Prop}
theorem KP {o:Oper} {a:Act} {w:World} {K:Act→World→Prop} (h:o.wp P a w K (Qn Q)):o.wp P a w K Q:=by
 unfold Oper.wp at *
 generalize (execOp a.eval o).run P w=r at *
 cases r with
 | ok n w'=>
  cases n <;> simp only [Oper.upon] at h ⊢ <;>
   first
    | exact h
    | exact Calls.mono h (fun e w'' he=>by
     cases e
     ·exact he
     ·exact absurd he.1 (by simp)
     ·exact absurd he AA)
 | halt x w'=>cases x <;> simp only [Oper.upon] at h ⊢ <;> exact absurd h.1 (by simp)
theorem EL {i:Nat} {a:Act} {w:World} {K:Act→World→Prop} (h:wpOp P ops (Qn Q) i K a w):wpOp P ops Q i K a w:=by
 unfold wpOp at *
 split
 ·simpa [*] using h
 ·rename_i o ho
  simp only [ho] at h
  split
  ·rename_i hw
   simp only [hw,if_true] at h
   rcases h with h | h
   ·exact .inl (KP h)
   ·exact absurd h.2 AA
  ·rename_i hw;simp only [hw] at h;exact h
theorem pg {md:Region.Mode}:∀ (n:Nat) (listed:Array Bool) (a:Act) (w:World),wpAny P md ops (Qn Q) n listed a w→wpAny P md ops Q n listed a w
 | 0,_,_,_,h=>⟨h.1,h.2.2⟩
 | n+1,listed,a,w,h=>⟨fun hr=>(h.1 hr).2,fun i hi=>EL (wpOp_mono (fun a' w' h'=>pg n _ a' w' h') (h.2 i hi))⟩
end
section
variable {C : Cx} {sl : List (Nat × Value)} {own : List bk} {ops : Array Oper} {Q : Exit → Act → World → Prop}
def PY (C:Cx) (sl:List (Nat × Value)) (o:Oper) (v:Value):Prop:=∀ a w,tE C sl a→(execOp a.eval o).run C.P w = .ok (.value v) w
theorem Ii {a:Act} (h:tE C sl a) {x:Operand} {v:Value} (hx:bO ⟨sl,own⟩ x=some v):a.eval x=v:=by
 cases x with
 | tmp t=>exact h.slot t v hx
 | const u=>simpa [bO,Act.eval] using hx
 | global g=>simpa [bO,Act.eval] using hx
 | func f=>simpa [bO,Act.eval] using hx
theorem PY.move {dst:Option Nat} {ty:TypeId} {pos:String} {aft:Array Edge} {g:Option (Nat × Bool)} {x:Operand} {v:Value} (hx:bO ⟨sl,[]⟩ x=some v):PY C sl ⟨dst,.move x,ty,pos,aft,g⟩ v:=
 fun a w hs=>by simp [execOp,Ii hs hx]
theorem AK.fu (h:AK C ⟨sl,own⟩ (fun a w=>Q .normal a w)):AK C ⟨sl,own⟩ (fun a w=>Qn Q .normal a w):=fun a w hs=>⟨rfl,h a w hs⟩
end
end Go.Sx
namespace Go.Sx
section
variable {C : Cx} {sl : List (Nat × Value)} {own : List bk} {ops : Array Oper} {Q : Exit → Act → World → Prop} {ty : TypeId} {pos : String} {aft : Array Edge} {g : Option (Nat × Bool)} {rest : List Oper}
theorem Mg {w:World} {l:List bk} {F:Nat→Prop} (h:(bh l).holds w F):(bh (l++[om])).holds w F:=by
 obtain ⟨Gs,gh,gF⟩:=h
 refine ⟨fun k b=>k<l.length∧Gs k b,⟨?_,?_,?_⟩,?_⟩
 ·intro k A hk
  by_cases eo:k<l.length
  ·rw [List.getElem?_append_left eo] at hk
   have:=gh.at_ k A hk
   simpa [eo] using this
  ·rw [List.getElem?_append_right (by omega)] at hk
   have:A=om:=by
    cases FA:k - l.length with
    | zero=>rw [FA] at hk;simpa using hk.symm
    | succ m=>rw [FA] at hk;simp at hk
   subst this
   intro b hb;exact eo hb.1
 ·intro k hk b hb
  simp at hk
  have:=hb.1;omega
 ·rintro k k' b ⟨_,h1⟩ ⟨_,h2⟩;exact gh.apart k k' b h1 h2
 ·intro b
  rw [gF b]
  constructor
  ·rintro ⟨k,hk⟩
   refine ⟨k,?_,hk⟩
   rcases Nat.lt_or_ge k l.length with h | h
   ·exact h
   ·exact (gh.out k h b hk).elim
  ·rintro ⟨k,_,hk⟩;exact ⟨k,hk⟩
theorem HW.tR {C:Cx} {own l:List bk} {w:World} {X:bk} (j:Nat) (hj:own[j]? = some (bh l)) (h:HW C (own++[X]) w):HW C (own.set j (bh (l++[X]))) w:=by
 have yP:j<own.length:=(List.getElem?_eq_some_iff.1 hj).1
 have h2:HW C (own.set j (bh (l++[om]))++[X]) w:=by
  obtain ⟨hf,Fs,hh,bc⟩:=h
  refine ⟨hf,Fs,⟨fun k A hk=>?_,fun k hk b hb=>hh.out k (by simpa using hk) b hb,hh.apart⟩,bc⟩
  by_cases B5:k=j
  ·subst B5
   rw [List.getElem?_append_left (by simpa using yP),List.getElem?_set_self yP] at hk
   cases hk
   exact Mg (hh.at_ k (bh l) (by rw [List.getElem?_append_left yP];exact hj))
  ·refine hh.at_ k A ?_
   rw [← hk]
   by_cases eo:k<own.length
   ·rw [List.getElem?_append_left eo,List.getElem?_append_left (by simpa using eo),List.getElem?_set_ne (Ne.symm B5)]
   ·rw [List.getElem?_append_right (by omega),List.getElem?_append_right (by simp;omega)];simp
 have h3:=HW.GA (C:=C) (own:=own) (l:=l++[X]) (X:=X) (w:=w) j l.length yP (by simp) (by simpa using h2)
 simpa using h3
end
end Go.Sx
namespace Go.Sx
open Go.RowKit
def Ag (ops:Array Oper) (j i:Nat):Bool:=match ops[j]? with
 | none=>false
 | some o=>o.after.any fun e=>Region.binds .any e && (e.on == i)
def wC (ops:Array Oper):Nat→Nat→Nat→Bool
 | 0,_,_=>false
 | f+1,n,i=>Ag ops n i || (List.range n).any fun b=>decide (i<b) && (Ag ops b i && wC ops f n b)
def AB (ops:Array Oper) (listed:Array Bool) (k:Nat):Prop:=∀ o,ops[k]? = some o→∀ e∈o.after,Region.binds .any e=true→listed.getD e.on false=true
def oX (ops:Array Oper) (listed:Array Bool):Prop:=listed.size=ops.size∧∀ k,listed.getD k false=true→AB ops listed k
def vX (ops:Array Oper) (listed:Array Bool):Bool:=(listed.size == ops.size) && (List.range ops.size).all fun k=>!listed.getD k false || ((ops[k]?).map fun o=>o.after.all fun e=>!Region.binds .any e || listed.getD e.on false).getD true
theorem nT {ops:Array Oper} {listed:Array Bool} (h:vX ops listed=true):oX ops listed:=by
 simp only [vX,Bool.and_eq_true,beq_iff_eq,List.all_eq_true,List.mem_range] at h
 refine ⟨h.1,fun k hk o ho e he hb=>?_⟩
 have bZ:k<ops.size:=(Array.getElem?_eq_some_iff.1 ho).1
 have:=h.2 k bZ
 simp only [hk,ho,Bool.not_true,Bool.false_or,Option.map_some,Option.getD_some,← Array.all_toList,List.all_eq_true] at this
 have:=this e (by simpa using he)
 simpa [hb] using this
theorem uW {ops:Array Oper} {listed:Array Bool} {j i:Nat} (h:Ag ops j i=true) (hd:AB ops listed j):listed.getD i false=true:=by
 unfold Ag at h
 split at h
 ·cases h
 ·rename_i o ho
  simp only [← Array.any_toList,List.any_eq_true] at h
  obtain ⟨e,he,h⟩:=h
  have he:e∈o.after:=by simpa using he
  simp only [Bool.and_eq_true,beq_iff_eq] at h
  rw [← h.2]
  exact hd o ho e he h.1
theorem ph {ops:Array Oper} {listed:Array Bool} (hc:oX ops listed) {n:Nat} (hd:AB ops listed n):∀ (f i:Nat),wC ops f n i=true→listed.getD i false=true
 | 0,i,h=>by cases h
 | f+1,i,h=>by
  simp only [wC,Bool.or_eq_true,List.any_eq_true,Bool.and_eq_true] at h
  rcases h with h | ⟨b,_,_,h1,h2⟩
  ·exact uW h hd
  ·exact uW h1 (hc.2 b (ph hc hd f b h2))
theorem ly {ops:Array Oper} {listed:Array Bool} {j:Nat} (h:j∈Region.ready .any ops listed):AB ops listed j∧j<ops.size∧listed.getD j true=false:=by
 obtain ⟨h1,o,ho,h2⟩:=mem_ready.1 h
 refine ⟨fun o' I4 e he hb=>?_,(Array.getElem?_eq_some_iff.1 ho).1,h1⟩
 rw [ho] at I4
 cases I4
 exact h2 e he hb
theorem oX.set {ops:Array Oper} {listed:Array Bool} (h:oX ops listed) {j:Nat} (hj:j∈Region.ready .any ops listed):oX ops (listed.setIfInBounds j true):=by
 have qo:∀ k,listed.getD k false=true→(listed.setIfInBounds j true).getD k false=true:=fun k hk=>by
  by_cases e:j=k
  ·subst e
   have:j<listed.size:=by rw [h.1];exact (ly hj).2.1
   simp [this]
  ·rw [getD_set_ne false e];exact hk
 refine ⟨by simp [h.1],fun k hk o ho e he hb=>?_⟩
 by_cases B5:j=k
 ·subst B5;exact qo _ ((ly hj).1 o ho e he hb)
 ·rw [getD_set_ne false B5] at hk;exact qo _ (h.2 k hk o ho e he hb)
def lT (P:Program) (ops:Array Oper) (Q:Exit→Act→World→Prop) (S:World→Prop) (n:Nat):Nat→Array Bool→Act→World→Prop
 | 0,listed,a,w=>Region.ready .any ops listed=[]∧Q .normal a w
 | fuel+1,listed,a,w=>
  (Region.ready .any ops listed=[]→Q .normal a w) ∧
  ∀ i∈Region.ready .any ops listed,wpOp P ops Q i (fun a' w'=>((listed.setIfInBounds i true).getD n false=false→S w')∧lT P ops Q S n fuel (listed.setIfInBounds i true) a' w') a w
section
variable {P : Program} {ops : Array Oper} {Q : Exit → Act → World → Prop} {S : World → Prop} {n : Nat}
theorem rf:∀ (fuel:Nat) (listed:Array Bool) (a:Act) (w:World),lT P ops Q S n fuel listed a w→wpAny P .any ops Q fuel listed a w
 | 0,_,_,_,h=>h
 | fuel+1,_,_,_,h=>⟨h.1,fun i hi=>wpOp_mono (fun a' w' h'=>rf fuel _ a' w' h'.2) (h.2 i hi)⟩
theorem uV {S':World→Prop} (hS:∀ w,S w→S' w):∀ (fuel:Nat) (listed:Array Bool) (a:Act) (w:World),lT P ops Q S n fuel listed a w→lT P ops Q S' n fuel listed a w
 | 0,_,_,_,h=>h
 | fuel+1,_,_,_,h=>⟨h.1,fun i hi=>wpOp_mono (fun a' w' h'=>⟨fun e=>hS _ (h'.1 e),uV hS fuel _ a' w' h'.2⟩) (h.2 i hi)⟩
theorem y7 {listed:Array Bool} {n i:Nat} (h:listed.getD n false=true):(listed.setIfInBounds i true).getD n false=true:=by
 by_cases e:i=n
 ·subst e
  by_cases hl:i<listed.size
  ·simp [hl]
  ·simp [hl] at h
 ·rw [getD_set_ne false e];exact h
theorem qC:∀ (fuel:Nat) (listed:Array Bool) (a:Act) (w:World),listed.getD n false=true→wpAny P .any ops Q fuel listed a w→lT P ops Q S n fuel listed a w
 | 0,_,_,_,_,h=>h
 | fuel+1,_,_,_,hn,h=>⟨h.1,fun i hi=>wpOp_mono (fun a' w' h'=>⟨fun e=>by rw [y7 hn] at e;(cases e),qC fuel _ a' w' (y7 hn) h'⟩) (h.2 i hi)⟩
theorem sY {i:Nat} {oi:Oper} {v:Value} (hi:ops[i]? = some oi) (wc:∀ (j:Nat) (o:Oper) cs b,ops[j]? = some o→o.op ≠ .select cs b)
  (hQ:∀ c a w,Q (.panic c) (a.put oi.dst v) w→Q (.panic c) a w) (hn:n=ops.size∨∃ f,wC ops f n i=true) :
  ∀ (fuel:Nat) (listed:Array Bool) (a:Act) (w:World),oX ops listed →
   (∀ j oj,ops[j]? = some oj→j ≠ i→listed.getD j true=false→(∀ e∈oj.after,Region.binds .any e=true→e.on ≠ i)→oi.apart ops oj=true) →
   i∈Region.ready .any ops listed→YieldsIf P ops S oi v a→S w →
   lT P ops Q S n fuel (listed.setIfInBounds i true) (a.put oi.dst v) w→lT P ops Q S n (fuel+1) listed a w:=by
 have To:∀ listed:Array Bool,oX ops listed→i∈Region.ready .any ops listed→(n∈Region.ready .any ops listed→False)∧listed.getD n false=false:=fun listed hc hr=>by
  have oA:listed.getD i false=false:=by
   have:=(ly hr).2.2
   cases h:listed.getD i false with
   | false=>rfl
   | true=>
    have bZ:i<listed.size:=by
     rcases Nat.lt_or_ge i listed.size with h' | h'
     ·exact h'
     ·simp [Array.getElem?_eq_none h'] at h
    simp [bZ] at h this
    rw [h] at this;cases this
  rcases hn with rfl | ⟨f,hf⟩
  ·refine ⟨fun h=>?_,?_⟩
   ·have:=(ly h).2.1;omega
   ·simp [Array.getElem?_eq_none (show listed.size≤ops.size by rw [hc.1];exact Nat.le_refl _)]
  ·refine ⟨fun h=>?_,?_⟩
   ·have:=ph hc (ly h).1 f i hf
    rw [oA] at this;cases this
   ·cases h:listed.getD n false with
    | false=>rfl
    | true=>
     have:=ph hc (hc.2 n h) f i hf
     rw [oA] at this;cases this
 intro fuel
 induction fuel with
 | zero=>
  intro listed a w hc _ hr hy hS H
  refine ⟨fun h=>(by rw [h] at hr;cases hr),fun j hj=>?_⟩
  by_cases uJ:j=i
  ·subst uJ;exact hy.wpOp hi hS ⟨fun _=>hS,H⟩
  ·have:=ready_mono hj uJ
   rw [H.1] at this
   cases this
 | succ fuel ih=>
  intro listed a w hc Cr hr hy hS H
  refine ⟨fun h=>(by rw [h] at hr;cases hr),fun j hj=>?_⟩
  by_cases uJ:j=i
  ·subst uJ;exact hy.wpOp hi hS ⟨fun _=>hS,H⟩
  ·have h1:=H.2 j (ready_mono hj uJ)
   obtain ⟨Ju,oj,QB,kA⟩:=mem_ready.1 hj
   have Rb:∀ e∈oj.after,Region.binds .any e=true→e.on ≠ i:=fun e he hb heq=>by
    have h1:=kA e he hb
    have h0:=(mem_ready.1 hr).1
    rw [heq] at h1
    rcases Nat.lt_or_ge i listed.size with h' | h'
    ·simp [h'] at h0 h1;rw [h0] at h1;cases h1
    ·simp [Array.getElem?_eq_none h'] at h1
   have h2:=wpOp_putIf QB (Cr j oj QB uJ Ju Rb) (fun cs b=>wc i oi cs b hi) (fun cs b=>wc j oj cs b QB) hQ hy h1
   have Ev:∀ k ok,ops[k]? = some ok→k ≠ i→(listed.setIfInBounds j true).getD k true=false →
     (∀ e∈ok.after,Region.binds .any e=true→e.on ≠ i)→oi.apart ops ok=true:=fun k ok hk ov TN yf=>by
    refine Cr k ok hk ov ?_ yf
    by_cases TV:j=k
    ·subst TV;exact Ju
    ·rw [getD_set_ne true TV] at TN;exact TN
   obtain ⟨hnr,Mu⟩:=To listed hc hr
   have WI:i ≠ n:=fun e=>hnr (e ▸ hr)
   have hnj:j ≠ n:=fun e=>hnr (e ▸ hj)
   have wb:∀ i',i' ≠ n→∀ l:Array Bool,l.getD n false=false→(l.setIfInBounds i' true).getD n false=false:=fun i' h l hl=>by rw [getD_set_ne false h];exact hl
   refine wpOp_mono (fun a' w' h3=>?_) h2
   have T2:=h3.2.1 (wb j hnj _ (wb i WI _ Mu))
   refine ⟨fun _=>T2,ih (listed.setIfInBounds j true) a' w' (hc.set hj) Ev (ready_mono hr (Ne.symm uJ)) h3.1 T2 ?_⟩
   rw [Array.setIfInBounds_comm _ _ uJ]
   exact h3.2.2
theorem Nl {Q Q':Exit→Act→World→Prop} {o:Oper} {a:Act} {w:World} {K:Act→World→Prop} (h:o.wp P a w K (Qn Q)):o.wp P a w K Q':=by
 unfold Oper.wp at *
 generalize (execOp a.eval o).run P w=r at *
 cases r with
 | ok n w'=>
  cases n <;> simp only [Oper.upon] at h ⊢ <;>
   first
    | exact h
    | exact Calls.mono h (fun e w'' he=>by
     cases e
     ·exact he
     ·exact absurd he.1 (by simp)
     ·exact absurd he AA)
 | halt x w'=>cases x <;> simp only [Oper.upon] at h ⊢ <;> exact absurd h.1 (by simp)
theorem nQ {i:Nat} {o:Oper} {K:Act→World→Prop} {a:Act} {w:World} (hi:ops[i]? = some o) (h:wpList P ops (Qn fun _ a w=>K a w) [o] a w):wpOp P ops Q i K a w:=by
 unfold wpOp
 simp only [hi]
 unfold wpList at h
 split
 ·rename_i hw
  simp only [hw,if_true] at h
  rcases h with h | h
  ·exact .inl (Nl (Oper.wp_mono (fun a w (h:wpList P ops (Qn fun _ a w=>K a w) [] a w)=>h.2) h))
  ·exact absurd h.2 AA
 ·rename_i hw
  simp only [hw] at h
  exact h.2
end
def FF (A B:bk):Prop:=∀ w F,B.holds w F→∃ G,(∀ b,G b→F b)∧A.holds w G
theorem FF.rfl {A:bk}:FF A A:=fun _ F h=>⟨F,fun _ h=>h,h⟩
def og (v v':Value) (E:TypeId) (sz n m:Nat) (cs cs':List Value):bk where
 holds w F:=∃ F1 F2,(row v E sz n cs).holds w F1∧(row v' E sz m cs').holds w F2∧∀ b,F b↔(F1 b∨F2 b)
 loc:=by
  rintro w w' F ⟨F1,F2,h1,h2,hF⟩ hb
  exact ⟨F1,F2,(row v E sz n cs).loc w w' F1 h1 (fun b h=>hb b ((hF b).2 (.inl h))),(row v' E sz m cs').loc w w' F2 h2 (fun b h=>hb b ((hF b).2 (.inr h))),hF⟩
 lt:=by
  rintro w F ⟨F1,F2,h1,h2,hF⟩ b hb
  rcases (hF b).1 hb with h | h
  ·exact (row v E sz n cs).lt w F1 h1 b h
  ·exact (row v' E sz m cs').lt w F2 h2 b h
theorem FF.fst {v v':Value} {E:TypeId} {sz n m:Nat} {cs cs':List Value}:FF (row v E sz n cs) (og v v' E sz n m cs cs'):=fun w F ⟨F1,F2,h1,h2,hF⟩=>⟨F1,fun b h=>(hF b).2 (.inl h),h1⟩
theorem FF.snd {v v':Value} {E:TypeId} {sz n m:Nat} {cs cs':List Value}:FF (row v' E sz m cs') (og v v' E sz n m cs cs'):=fun w F ⟨F1,F2,h1,h2,hF⟩=>⟨F2,fun b h=>(hF b).2 (.inr h),h2⟩
inductive je (iE:List bk):List bk→List Nat→Prop
 | nil:je iE [] []
 | cons {A B:bk} {L:List bk} {σ:List Nat} {i:Nat}:iE[i]? = some B→FF A B→je iE L σ→je iE (A :: L) (i :: σ)
theorem je.get {iE L:List bk} {σ:List Nat} (h:je iE L σ):L.length = σ.length∧∀ (k:Nat) (A:bk),L[k]? = some A→∃ i B,σ[k]? = some i∧iE[i]? = some B∧FF A B:=by
 induction h with
 | nil=>exact ⟨rfl,fun k A h=>by simp at h⟩
 | cons h1 h2 h3 ih=>
  refine ⟨by simp [ih.1],fun k A hk=>?_⟩
  cases k with
  | zero=>simp at hk;subst hk;exact ⟨_,_,rfl,h1,h2⟩
  | succ k=>simpa using ih.2 k A (by simpa using hk)
theorem HW.dG {C:Cx} {iE L:List bk} {w:World} (σ:List Nat) (hn:σ.Nodup) (h:je iE L σ) (hw:HW C iE w):HW C L w:=by
 obtain ⟨hl,hg⟩:=h.get
 obtain ⟨hf,Fs,hh,bc⟩:=hw
 have Pe:∀ k:Nat,∃ G:Nat→Prop,(∀ A,L[k]? = some A→∃ i,σ[k]? = some i∧(∀ b,G b→Fs i b)∧A.holds w G)∧(L[k]? = none→∀ b,¬ G b):=fun k=>by
  cases hk:L[k]? with
  | none=>exact ⟨fun _=>False,fun A h=>(by cases h),fun _ _ h=>h⟩
  | some A=>
   obtain ⟨i,B,h1,h2,h3⟩:=hg k A hk
   obtain ⟨G,h4,h5⟩:=h3 w (Fs i) (hh.at_ i B h2)
   exact ⟨G,fun A' h'=>by cases h';exact ⟨i,h1,h4,h5⟩,fun h=>by cases h⟩
 refine ⟨hf,fun k=>(Pe k).choose,⟨?_,?_,?_⟩,?_⟩
 ·intro k A hk
  obtain ⟨_,_,_,h⟩:=(Pe k).choose_spec.1 A hk
  exact h
 ·intro k hk
  exact (Pe k).choose_spec.2 (List.getElem?_eq_none hk)
 ·intro k j b h1 h2
  have inL:∀ k b,(Pe k).choose b→∃ i,σ[k]? = some i∧Fs i b:=fun k b hb=>by
   cases hk:L[k]? with
   | none=>exact ((Pe k).choose_spec.2 hk b hb).elim
   | some A=>
    obtain ⟨i,e,e2,_⟩:=(Pe k).choose_spec.1 A hk
    exact ⟨i,e,e2 b hb⟩
  obtain ⟨i,e1,f1⟩:=inL k b h1
  obtain ⟨i',e2,f2⟩:=inL j b h2
  have:=hh.apart i i' b f1 f2
  subst this
  obtain ⟨h1,h2⟩:=List.getElem?_eq_some_iff.1 e1
  obtain ⟨h3,h4⟩:=List.getElem?_eq_some_iff.1 e2
  rcases Nat.lt_trichotomy k j with bZ | heq | bZ
  ·exact absurd (h2.trans h4.symm) (List.pairwise_iff_getElem.1 hn k j h1 h3 bZ)
  ·exact heq
  ·exact absurd (h4.trans h2.symm) (List.pairwise_iff_getElem.1 hn j k h3 h1 bZ)
 ·intro k b hb
  cases hk:L[k]? with
  | none=>exact ((Pe k).choose_spec.2 hk b hb).elim
  | some A=>
   obtain ⟨i,e,e2,_⟩:=(Pe k).choose_spec.1 A hk
   exact bc i b (e2 b hb)
inductive tH:List bk→List bk→Prop
 | nil {l:List bk}:tH [] l
 | cons {A B:bk} {l l':List bk}:FF A B→tH l l'→tH (A :: l) (B :: l')
theorem tH.pick {own iE:List bk} (h:tH own iE):∀ (pre:List bk),je (pre++iE) own (List.range' pre.length own.length):=by
 induction h with
 | nil=>intro pre;exact .nil
 | @cons A B l l' h1 h2 ih=>
  intro pre
  have:=ih (pre++[B])
  refine .cons (B:=B) (by simp) h1 ?_
  simpa using this
theorem tH.hw {C:Cx} {own iE:List bk} (h:tH own iE) {w:World} (hw:HW C iE w):HW C own w:=
 HW.dG (List.range' 0 own.length) List.nodup_range' (by simpa using h.pick []) hw
section
variable {C : Cx} {sl : List (Nat × Value)} {own : List bk} {ops : Array Oper} {Q : Exit → Act → World → Prop} {n : Nat}
def ay (C:Cx) (ops:Array Oper) (Q:Exit→Act→World→Prop) (own:List bk) (n fuel:Nat) (listed:Array Bool):Act→World→Prop:=fun a w=>lT C.P ops (Qn Q) (HW C own) n fuel listed a w
theorem AK.held (n:Nat) {id:Nat} {l:List Oper} (hm:C.P.follows .mixedOrders=true) (h:AK C ⟨sl,own⟩ (ay C l.toArray Q own n l.length (Array.replicate l.length false))):AK C ⟨sl,own⟩ ((Code.region id l.toArray true).wp C.P Q):=by
 intro a w hs
 refine wp_region_any hm ?_
 have hp:=hs.world.push (w':={ w with drawn:=w.drawn+1 }) (own2:=[]) ⟨rfl,rfl,rfl,Nat.le_refl _,fun _ _ _=>rfl,Nat.le_succ _⟩ (cj.nil _) (fun _ _ h=>h.elim)
 rw [List.append_nil] at hp
 have:=pg _ _ _ _ (rf _ _ _ _ (h a _ ⟨hs.size,hs.defers,hs.slot,hp⟩))
 simpa using this
def wx (ops:Array Oper) (listed:Array Bool) (n i:Nat):Bool:=
 Region.noSelect ops && ((Region.ready .any ops listed).contains i && (Region.free .any ops listed i && (vX ops listed && (n == ops.size || wC ops ops.size n i))))
theorem ay.SO (i:Nat) {fuel:Nat} {listed cm:Array Bool} {o:Oper} {d:Nat} (v:Value) (hi:ops[i]? = some o) (hB:wx ops listed n i=true) (hl:listed.setIfInBounds i true=cm) (I3:o.dst=some d)
  (hy:∀ a,tE C sl a→YieldsIf C.P ops (HW C own) o v a) (hd:Nat.blt d C.N=true)
  (h:AK C ⟨(d,v) :: sl,own⟩ (ay C ops Q own n fuel cm)):AK C ⟨sl,own⟩ (ay C ops Q own n (fuel+1) listed):=by
 intro a w hs
 simp only [wx,Bool.and_eq_true,Bool.or_eq_true,beq_iff_eq] at hB
 obtain ⟨wc,hr,hf,hc,hn⟩:=hB
 refine sY hi (Region.noSelect_spec wc) (fun c a w hq=>absurd hq.1 (by simp)) (hn.imp id fun h=>⟨_,h⟩) fuel listed a w (nT hc) (Region.free_spec hi hf) (by simpa using hr) (hy a hs.D7) hs.world ?_
 rw [hl,I3]
 exact h _ _ (hs.put (own':=own) hs.world (d:=some d) (fun i hi=>by cases hi;simpa [Nat.blt_eq] using hd) v)
theorem ay.first (i:Nat) {fuel:Nat} {listed cm:Array Bool} {o:Oper} {d:Nat} (v:Value) (hi:ops[i]? = some o) (hB:wx ops listed n i=true) (hl:listed.setIfInBounds i true=cm) (I3:o.dst=some d)
  (hy:Yl C ⟨sl,own⟩ o v) (hg:nc ops sl o.guard) (hd:Nat.blt d C.N=true)
  (h:AK C ⟨(d,v) :: sl,own⟩ (ay C ops Q own n fuel cm)):AK C ⟨sl,own⟩ (ay C ops Q own n (fuel+1) listed):=
 ay.SO i v hi hB hl I3 (fun a hs=>.inl ⟨fM hs hg,fun w hw=>hy a w (hs.Qr hw)⟩) hd h
theorem ay.all {oS:List bk} {fuel:Nat} {listed:Array Bool} (is:List Nat) (hr:Region.ready .any ops listed=is) (j9:is.isEmpty=false)
  (h:∀ i∈is,AK C ⟨sl,own⟩ (fun a w=>wpOp C.P ops (Qn Q) i (fun a' w'=>((listed.setIfInBounds i true).getD n false=false→HW C oS w')∧ay C ops Q oS n fuel (listed.setIfInBounds i true) a' w') a w)):AK C ⟨sl,own⟩ (ay C ops Q oS n (fuel+1) listed):=by
 intro a w hs
 refine ⟨fun h0=>?_,fun i hi=>h i (by rw [← hr];exact hi) a w hs⟩
 rw [hr] at h0;rw [h0] at j9;cases j9
def wB (C:Cx) (ops:Array Oper) (Q:Exit→Act→World→Prop) (oS:List bk) (n fuel:Nat) (listed:Array Bool):Act→World→Prop:=fun a w=>(listed.getD n false=false→HW C oS w)∧ay C ops Q oS n fuel listed a w
theorem ay.one {oS:List bk} (i:Nat) {fuel:Nat} {listed cm:Array Bool} {o:Oper} (hr:Region.ready .any ops listed=[i]) (hi:ops[i]? = some o) (hl:listed.setIfInBounds i true=cm)
  (h:AK C ⟨sl,own⟩ (wpList C.P ops (Qn fun _=>wB C ops Q oS n fuel cm) [o])):AK C ⟨sl,own⟩ (ay C ops Q oS n (fuel+1) listed):=
 ay.all [i] hr rfl (fun j hj=>by simp at hj;subst hj;exact fun a w hs=>nQ hi (by rw [hl];exact h a w hs))
theorem ay.two {oS:List bk} (i j:Nat) {fuel:Nat} {listed fD fC:Array Bool} {o o':Oper} (hr:Region.ready .any ops listed=[i,j]) (hi:ops[i]? = some o) (hj:ops[j]? = some o') (hl:listed.setIfInBounds i true=fD) (uI:listed.setIfInBounds j true=fC)
  (h:AK C ⟨sl,own⟩ (wpList C.P ops (Qn fun _=>wB C ops Q oS n fuel fD) [o])) (h':AK C ⟨sl,own⟩ (wpList C.P ops (Qn fun _=>wB C ops Q oS n fuel fC) [o'])):AK C ⟨sl,own⟩ (ay C ops Q oS n (fuel+1) listed):=
 ay.all [i,j] hr rfl (fun k hk=>by
  simp at hk
  rcases hk with rfl | rfl
  ·exact fun a w hs=>nQ hi (by rw [hl];exact h a w hs)
  ·exact fun a w hs=>nQ hj (by rw [uI];exact h' a w hs))
theorem ay.back {iE:List bk} {fuel:Nat} {listed:Array Bool} (hle:tH own iE) (h:AK C ⟨sl,iE⟩ (ay C ops Q iE n fuel listed)):AK C ⟨sl,iE⟩ (fun a w=>(Qn fun _=>wB C ops Q own n fuel listed) .normal a w):=
 fun a w hs=>⟨rfl,fun _=>hle.hw hs.world,uV (fun w hw=>hle.hw hw) _ _ _ _ (h a w hs)⟩
theorem ay.ir (k:Nat) {iE:List bk} {fuel:Nat} {l:List Oper} {listed:Array Bool} (hl:listed.getD n false=true) (hn:(l.drop k).length=fuel) (hB:Region.seqB .any l.toArray fuel k listed=true) (h:AK C ⟨sl,iE⟩ (wpList C.P l.toArray (Qn Q) (l.drop k))) :
  AK C ⟨sl,iE⟩ (fun a w=>(Qn fun _=>wB C l.toArray Q own n fuel listed) .normal a w):=
 fun a w hs=>⟨rfl,fun e=>(by rw [hl] at e;cases e),qC _ _ _ _ hl (by subst hn;exact wpAny_of_seq (l.drop k) k listed a w (fun j=>by simp [List.getElem?_drop]) hB (h a w hs))⟩
theorem ay.done {oS:List bk} {fuel:Nat} {listed:Array Bool} (hr:Region.ready .any ops listed=[]) (h:AK C ⟨sl,own⟩ (Q .normal)):AK C ⟨sl,own⟩ (ay C ops Q oS n fuel listed):=by
 intro a w hs
 cases fuel with
 | zero=>exact ⟨hr,rfl,h a w hs⟩
 | succ f=>exact ⟨fun _=>⟨rfl,h a w hs⟩,by rw [hr];simp⟩
theorem AK.jG (oS:List bk) (n:Nat) {id:Nat} {l:List Oper} (hle:∀ w,HW C own w→HW C oS w) (hm:C.P.follows .mixedOrders=true) (h:AK C ⟨sl,own⟩ (ay C l.toArray Q oS n l.length (Array.replicate l.length false))):AK C ⟨sl,own⟩ ((Code.region id l.toArray true).wp C.P Q):=by
 intro a w hs
 refine wp_region_any hm ?_
 have hp:=hs.world.push (w':={ w with drawn:=w.drawn+1 }) (own2:=[]) ⟨rfl,rfl,rfl,Nat.le_refl _,fun _ _ _=>rfl,Nat.le_succ _⟩ (cj.nil _) (fun _ _ h=>h.elim)
 rw [List.append_nil] at hp
 have:=pg _ _ _ _ (rf _ _ _ _ (h a _ ⟨hs.size,hs.defers,hs.slot,hp⟩))
 simpa using this
theorem ay.eO {oS:List bk} (hle:∀ w,HW C own w→HW C oS w) (i:Nat) {fuel:Nat} {listed cm:Array Bool} {o:Oper} {d:Nat} (v:Value) (hi:ops[i]? = some o) (hB:wx ops listed n i=true) (hl:listed.setIfInBounds i true=cm) (I3:o.dst=some d)
  (hy:Yl C ⟨sl,oS⟩ o v) (hg:nc ops sl o.guard) (hd:Nat.blt d C.N=true)
  (h:AK C ⟨(d,v) :: sl,own⟩ (ay C ops Q oS n fuel cm)):AK C ⟨sl,own⟩ (ay C ops Q oS n (fuel+1) listed):=by
 intro a w hs
 simp only [wx,Bool.and_eq_true,Bool.or_eq_true,beq_iff_eq] at hB
 obtain ⟨wc,hr,hf,hc,hn⟩:=hB
 refine sY hi (Region.noSelect_spec wc) (fun c a w hq=>absurd hq.1 (by simp)) (hn.imp id fun h=>⟨_,h⟩) fuel listed a w (nT hc) (Region.free_spec hi hf) (by simpa using hr)
  (.inl ⟨fM hs.D7 hg,fun w hw=>hy a w (hs.D7.Qr hw)⟩) (hle w hs.world) ?_
 rw [hl,I3]
 exact h _ _ (hs.put (own':=own) hs.world (d:=some d) (fun i hi=>by cases hi;simpa [Nat.blt_eq] using hd) v)
theorem ay.bo {oS iE:List bk} {fuel:Nat} {listed:Array Bool} (hle:∀ w,HW C iE w→HW C oS w) (h:AK C ⟨sl,iE⟩ (ay C ops Q oS n fuel listed)):AK C ⟨sl,iE⟩ (fun a w=>(Qn fun _=>wB C ops Q oS n fuel listed) .normal a w):=
 fun a w hs=>⟨rfl,fun _=>hle _ hs.world,h a w hs⟩
end
theorem x1 {P:Program} (w:World) (t ty e:TypeId) (i:TypeInfo) (z:Value) (size bytes:Nat) (ht:P.underlying t=some (.slice e)) (hi:P.info? e=some i) (hz:i.zero=some z)
  (oP:i.size=size) (Pg:i.bytes=bytes) (TJ:z.cells.size=size) (qI:0<size)
  (v:Value) (n:Nat) (xs:List Value) (c4:w.ownsRow 0 e size v n xs)
  (a:Addr) (m c:Nat) (news:List Value) (hl:news.length=m * size) (wv:∀ j u,news[j]? = some u→w.cell? (a.add j)=some u) (h1:∀ u∈news,u.oneCell'=true)
  (Mx:n+m≤maxLen) (wJ:(n+m) * bytes≤140737488355328) :
  ∃ v' w',(Builtin.append_ #[t,t] ty #[v,.slice (some a) m c]).run P w = .ok v' w'∧w'.ownsRow 0 e size v' (n+m) (xs++news)∧w.grownBy w' v.ownBlock ∧
   (∀ b,v'.ownBlock=some b→v.ownBlock=some b∨w.heap.size≤b)∧w'.ownsRow 0 e size v n xs:=by
 by_cases qP:(∃ gb cap,v = .slice (some ⟨gb,0,none⟩) n cap∧n+m≤cap)
 ·obtain ⟨gb,cap,rfl,qw⟩:=qP
  rcases c4.2 with ⟨h,_⟩ | ⟨g',aaC,cur,h',_,hg,mc,vo,oB,jF⟩
  ·simp at h
  ·simp only [Value.slice.injEq,Option.some.injEq,Addr.mk.injEq,and_true,true_and] at h'
   obtain ⟨rfl,rfl⟩:=h'
   subst oP
   have hlen:(xs++news).length=(n+m) * i.size:=by rw [List.length_append,c4.1,hl,Nat.add_mul]
   have qP:n * i.size+news.length≤cur.size:=by rw [hl,oB,← Nat.add_mul];exact Nat.mul_le_mul_right _ qw
   have hr:=run_append_room (P:=P) w t ty e i ht hi gb n cap cur hg a m c news hl wv h1 qw qP
   refine ⟨_,_,hr,⟨hlen,.inr ⟨gb,cap,_,rfl,Nat.zero_le _,setRow_heap w gb cur _ e _ hg,qw,vo,?_,?_⟩⟩,⟨rfl,rfl,rfl,by simp,fun k _ hk=>setRow_other w gb k _ (fun e=>hk (by simp [Value.ownBlock,e]))⟩,fun b hb=>.inl hb,
    ⟨c4.1,.inr ⟨gb,cap,_,rfl,Nat.zero_le _,setRow_heap w gb cur _ e _ hg,mc,vo,?_,?_⟩⟩⟩
   ·simp only [List.size_toArray,List.length_append,List.length_take,List.length_drop,Array.length_toList]
    omega
   ·rw [jF,← hlen]
    exact List.take_left
   ·simp only [List.size_toArray,List.length_append,List.length_take,List.length_drop,Array.length_toList]
    omega
   ·rw [jF]
    have:xs.length=n * i.size:=c4.1
    rw [List.append_assoc,← this]
    exact List.take_left
 ·rcases c4.2 with ⟨rfl,rfl⟩ | ⟨gb,cap,cur,rfl,_,hg,mc,vo,oB,jF⟩
  ·obtain ⟨v',w',e1,e2,e3,_⟩:=run_append_own (P:=P) w w.heap.size t ty e i z size bytes ht hi hz oP Pg TJ qI _ 0 xs (fZ c4 (by simp [Value.ownBlock])) a m c news hl wv h1 Mx wJ (Nat.le_refl _)
   have hx:xs=[]:=List.eq_nil_of_length_eq_zero (by have:=c4.1;simpa using this)
   refine ⟨v',w',e1,fZ e2 (fun b _=>Nat.zero_le _),e3,fun b hb=>.inr (e2.lt b hb).1,?_⟩
   rw [hx];exact World.ownsRow_nil w' 0 e size
  ·subst oP
   subst Pg
   have yf:¬ n+m≤cap:=fun h=>qP ⟨gb,cap,rfl,h⟩
   have SJ:n+m≤9223372036854775807:=by simp only [maxLen] at Mx;omega
   have holds:∀ j u,xs[j]? = some u→w.cell? ((⟨gb,0,none⟩:Addr).add j)=some u:=c4.cells (g:=gb) rfl
   have hr:=run_append_grow (P:=P) w t ty e i z ht hi hz ⟨gb,0,none⟩ n cap xs c4.1 holds a m c news hl wv (by omega) (by omega) (growslice_fits (by omega) wJ)
   have hlen:(xs++news).length=(n+m) * i.size:=by rw [List.length_append,c4.1,hl,Nat.add_mul]
   have Hp:=grownCap_ge w (n+m) cap e
   have Jv:grownCap w (n+m) cap e≤maxLen:=grownCap_le_maxLen w (n+m) cap e Mx
   refine ⟨_,_,hr,⟨hlen,.inr ⟨w.heap.size,_,_,rfl,Nat.zero_le _,heap_alloc_new w.drew _,Hp,Jv,?_,?_⟩⟩,⟨rfl,rfl,rfl,by simp,fun k hk _=>Below.heap_alloc w.drew _ k hk⟩,fun b hb=>.inr (by simp [Value.ownBlock] at hb;omega),
    ⟨c4.1,.inr ⟨gb,cap,cur,rfl,Nat.zero_le _,?_,mc,vo,oB,jF⟩⟩⟩
   ·simp only [Array.size_append,List.size_toArray,size_zeroCells,TJ,c4.1,hl,← Nat.add_mul]
    congr 1
    omega
   ·simp only [Array.toList_append,List.append_assoc]
    rw [← List.append_assoc,← hlen]
    exact List.take_left
   ·rw [Below.heap_alloc w.drew _ gb (Array.getElem?_eq_some_iff.1 hg).1];exact hg
section
variable {C : Cx} {sl : List (Nat × Value)} {own : List bk} {ops : Array Oper} {Q : Exit → Act → World → Prop} {ty : TypeId} {pos : String} {aft : Array Edge} {g : Option (Nat × Bool)} {rest : List Oper}
theorem AK.BH (i:Nat) {d:Nat} {s x:Operand} {t t' E:TypeId} {sz ky:Nat} {z v v2:Value} {n m:Nat} {cs cs2:List Value} (hi:own[i]? = some (row v E sz n cs)) (ht:oC C.P t E sz) (hE:gX C.P E z sz ky) (hz:z.cells.size=sz) (qI:0<sz) (Xz:t'=t)
  (hx:bO ⟨sl,own⟩ s=some v) (hy:bO ⟨sl,own⟩ x=some v2) (hr:cR C own v2 sz m cs2) (h1:qN cs2) (hm:n+m≤9223372036854775807) (hb:(n+m) * ky≤140737488355328) (hg:nc ops sl g) (hd:Nat.blt d C.N=true)
  (h:∀ v',aB v'→AK C ⟨(d,v') :: sl,own.set i (og v v' E sz n (n+m) cs (cs++cs2))⟩ (wpList C.P ops Q rest)) :
  AK C ⟨sl,own⟩ (wpList C.P ops Q (⟨some d,.call ⟨.builtin .append,#[s,x],#[t,t']⟩,ty,pos,aft,g⟩ :: rest)):=by
 subst Xz
 intro a w hs
 refine wpList_step fun K hK=>?_
 rw [if_pos (bA hs hg)]
 obtain ⟨inf,ta,yQ,Pc,MQ⟩:=hE.inf
 obtain ⟨hf,Fs,hh,bc⟩:=hs.world
 obtain ⟨c4,Ja⟩:=hh.at_ i _ hi
 have XE:=hr w hs.world
 have key:∃ v' w',(Builtin.append_ #[t',t'] ty #[v,v2]).run C.P w = .ok v' w'∧w'.ownsRow 0 E sz v' (n+m) (cs++cs2)∧w.grownBy w' v.ownBlock∧(∀ b,v'.ownBlock=some b→v.ownBlock=some b∨w.heap.size≤b)∧w'.ownsRow 0 E sz v n cs:=by
  obtain ⟨oa,cap,rfl,hmm,DU,To,cZ⟩:=XE
  cases oa with
  | some ad=>
   exact x1 (P:=C.P) w t' ty E inf z sz ky ht.1 ta yQ Pc MQ hz qI v n cs c4 ad m cap cs2 DU (fun j u hj=>(cZ ad j u rfl hj).2) h1 (by simpa [maxLen] using hm) hb
  | none=>
   have MO:m=0:=by
    rcases Nat.eq_zero_or_pos m with h | h
    ·exact h
    ·have:=To h qI;simp at this
   subst MO
   have Rj:cs2=[]:=List.eq_nil_of_length_eq_zero (by simpa using DU)
   subst Rj
   have:n≤(match v with | .slice _ _ c=>c | _=>0)∧∃ ao c,v = .slice ao n c∧n≤c:=by
    rcases c4.2 with ⟨rfl,rfl⟩ | ⟨gb,cp,cur,rfl,_,_,mc,_⟩
    ·exact ⟨Nat.le_refl _,none,0,rfl,Nat.le_refl _⟩
    ·exact ⟨mc,_,cp,rfl,mc⟩
   obtain ⟨_,ao,c,rfl,mc⟩:=this
   refine ⟨.slice ao n c,w,?_,by simpa using c4,⟨rfl,rfl,rfl,Nat.le_refl _,fun _ _ _=>rfl⟩,fun b hb=>.inl hb,c4⟩
   cases ao with
   | none=>simp [Builtin.append_,run_underlying ht.1,sizeOf,typeInfo,ta,Builtin.lenOf,mc,Builtin.firstCells]
   | some a0=>simp [Builtin.append_,run_underlying ht.1,sizeOf,typeInfo,ta,Builtin.lenOf,mc,Builtin.firstCells,storeCells]
 obtain ⟨v',w',e1,e2,e3,e4,e5⟩:=key
 have ie:(execOp a.eval ⟨some d,.call ⟨.builtin .append,#[s,x],#[t',t']⟩,ty,pos,aft,g⟩).run C.P w = .ok (.value v') w':=by
  simp [execOp,resolve,invoke,builtin,aq hs hx,aq hs hy,e1]
 simp only [Oper.wp,ie,Oper.upon]
 have Hm:=lU e2
 have hr0:=lU e5
 refine hK _ _ (h v' (tI Hm) _ _ ?_)
 have bZ:i<own.length:=(List.getElem?_eq_some_iff.1 hi).1
 have qo:=HW.update (w':=w') (own2:=[]) (A':=og v v' E sz n (n+m) cs (cs++cs2)) hf hh bc bZ (.lJ e3 (fun k hk=>(Ja k).2 hk.symm) (pQ _ _ _ _ e1))
  (cj.one (F:=fun b=>v.ownBlock=some b∨v'.ownBlock=some b) ⟨_,_,hr0,Hm,fun b=>Iff.rfl⟩)
  (fun j b hb=>by
   rcases hb.2 with h | h
   ·exact .inl ((Ja b).2 h)
   ·rcases e4 b h with h | h
    ·exact .inl ((Ja b).2 h)
    ·exact .inr h)
 rw [List.append_nil] at qo
 exact hs.put qo (d:=some d) (fun i hi=>by cases hi;simpa [Nat.blt_eq] using hd) v'
theorem AK.grown {K:Act→World→Prop} (L:List bk) (σ:List Nat) (hn:σ.Nodup) (hp:je own L σ) (h:AK C ⟨sl,L⟩ K):AK C ⟨sl,own⟩ K:=fun a w hs=>h a w ⟨hs.size,hs.defers,hs.slot,HW.dG σ hn hp hs.world⟩
end
end Go.Sx
namespace Go.Sx
open Go.RowKit
def sv (l:List UInt8):Value:=.string ⟨l.toArray⟩
def rC (c:UInt8):Value:=.int .u8 (c.toNat:Int)
section ops
variable {C : Cx} {sl : List (Nat × Value)} {own : List bk} {dst : Option Nat} {ty : TypeId} {pos : String} {aft : Array Edge} {g : Option (Nat × Bool)}
theorem Yl.Ea {x:Operand} {t:TypeId} {l:List UInt8} (ht:C.P.underlying t=some .string) (hx:bO ⟨sl,own⟩ x=some (sv l)) :
  Yl C ⟨sl,own⟩ ⟨dst,.call ⟨.builtin .len,#[x],#[t]⟩,ty,pos,aft,g⟩ (.int .i64 (l.length:Int)):=
 fun a w hs=>by
  have uE:=aq hs hx
  unfold sv at uE
  have hl:(⟨l.toArray⟩:ByteArray).size=l.length:=rfl
  simp [execOp,resolve,invoke,builtin,uE,Builtin.len_,run_underlying ht,goInt,hl]
theorem Yl.YN {x i:Operand} {t:TypeId} {l:List UInt8} {k:Int} (ht:C.P.underlying t=some .string) (hx:bO ⟨sl,own⟩ x=some (sv l)) (hi:bO ⟨sl,own⟩ i=some (.int .i64 k)) (hk:0≤k∧k<l.length) :
  Yl C ⟨sl,own⟩ ⟨dst,.index t x i,ty,pos,aft,g⟩ (rC (l.getD k.toNat 0)):=
 fun a w hs=>by
  have h1:k.toNat<l.length:=by omega
  have h2:(⟨l.toArray⟩:ByteArray)[k.toNat]? = some (l.getD k.toNat 0):=by
   have:k.toNat<(⟨l.toArray⟩:ByteArray).size:=by simpa [ByteArray.size] using h1
   rw [getElem?_pos (⟨l.toArray⟩:ByteArray) k.toNat this,List.getD_eq_getElem?_getD,List.getElem?_eq_getElem h1]
   rfl
  simp only [execOp,aq hs hx,aq hs hi]
  simp only [Instr.index,asIntOf,Sem.run_bind,Sem.run_pure,Result.andThen_ok,run_underlying ht,sv,hk.1,if_true,h2]
  rfl
theorem Yl.JQ {x i:Operand} {t:TypeId} {l:List UInt8} {k:Nat} (ht:C.P.underlying t=some .string) (hx:bO ⟨sl,own⟩ x=some (sv l)) (hi:bO ⟨sl,own⟩ i=some (.int .i64 (k:Int))) (hk:k<l.length) :
 Yl C ⟨sl,own⟩ ⟨dst,.index t x i,ty,pos,aft,g⟩ (rC (l.getD k 0)):=Yl.YN ht hx hi (by omega)
theorem Yl.Ps {x y:Operand} {t t':TypeId} {m n:Int} (hx:bO ⟨sl,own⟩ x=some (.int .u8 m)) (hy:bO ⟨sl,own⟩ y=some (.int .u8 n)) (h1:0≤m - n∧m - n≤255) :
  Yl C ⟨sl,own⟩ ⟨dst,.binOp .sub t x y t',ty,pos,aft,g⟩ (.int .u8 (m - n)):=
 fun a w hs=>by
  have:IntKind.u8.wrap (m - n)=m - n:=by simp [IntKind.wrap,IntKind.bits,IntKind.signed];omega
  simp only [execOp,aq hs hx,aq hs hy];simp [go_sem,Op.intArith,this]
theorem Yl.Qi {x y:Operand} {t t':TypeId} {m n:Int} (hx:bO ⟨sl,own⟩ x=some (.int .u8 m)) (hy:bO ⟨sl,own⟩ y=some (.int .u8 n)) (h1:0≤m+n∧m+n≤255) :
  Yl C ⟨sl,own⟩ ⟨dst,.binOp .add t x y t',ty,pos,aft,g⟩ (.int .u8 (m+n)):=
 fun a w hs=>by
  have:IntKind.u8.wrap (m+n)=m+n:=by simp [IntKind.wrap,IntKind.bits,IntKind.signed];omega
  simp only [execOp,aq hs hx,aq hs hy];simp [go_sem,Op.intArith,this]
theorem Yl.wy {x:Operand} {s d:TypeId} {k k':IntKind} {n:Int} (hs:(C.P.underlying s).isSome=true) (hd:C.P.underlying d=some (.int k')) (hx:bO ⟨sl,own⟩ x=some (.int k n)) (h:k'.wrap n=n) :
  Yl C ⟨sl,own⟩ ⟨dst,.convert s d x,ty,pos,aft,g⟩ (.int k' n):=
 fun a w ye=>by
  obtain ⟨sd,hsd⟩:=Option.isSome_iff_exists.mp hs
  have:(convert s d (.int k n)).run C.P w = .ok (.int k' n) w:=by simp [convert,run_underlying hsd,run_underlying hd,Conv.intToInt,h]
  simp only [execOp,aq ye hx,Sem.run_bind,this,Result.andThen_ok,Sem.run_pure]
theorem wrap_u8 {n:Int} (h:0≤n∧n≤255):IntKind.u8.wrap n=n:=by simp [IntKind.wrap,IntKind.bits,IntKind.signed];omega
theorem wrap_u64 {n:Int} (h:0≤n∧n≤9223372036854775807):IntKind.u64.wrap n=n:=by simp [IntKind.wrap,IntKind.bits,IntKind.signed];omega
theorem wrap_i64 {n:Int} (h:-9223372036854775808≤n∧n≤9223372036854775807):IntKind.i64.wrap n=n:=rU h.1 h.2
theorem fold_push (ns:List UInt8):∀ (s:List UInt8),(ns.map fun c=>(c.toNat:Int)).foldl (fun r n=>ByteArray.push r (UInt8.ofNat n.toNat)) ⟨s.toArray⟩ = ⟨(s++ns).toArray⟩:=by
 induction ns with
 | nil=>intro s;simp
 | cons c ns ih=>
  intro s
  simp only [List.map_cons,List.foldl_cons]
  have:ByteArray.push ⟨s.toArray⟩ (UInt8.ofNat ((c.toNat:Int)).toNat)=⟨(s++[c]).toArray⟩:=by
   simp [ByteArray.push]
  rw [this,ih]
  simp
theorem Yl.KF {x:Operand} {s d e:TypeId} {v:Value} {n:Nat} {l:List UInt8} (hs:C.P.underlying s=some (.slice e)) (he:C.P.underlying e=some (.int .u8)) (hd:C.P.underlying d=some .string) (hx:bO ⟨sl,own⟩ x=some v) (hr:cR C own v 1 n (l.map rC)) :
  Yl C ⟨sl,own⟩ ⟨dst,.convert s d x,ty,pos,aft,g⟩ (sv l):=
 fun a w ye=>by
  obtain ⟨oa,cap,rfl,hm,hl,hn,hc⟩:=hr w ye.world
  have h1:=run_convert_bytes_string (P:=C.P) w s d e oa n cap hs he hd
  have WK:l.length=n:=by simpa using hl
  have h2:(Conv.bytesToString (.slice oa n cap)).run C.P w = .ok (sv l) w:=by
   cases oa with
   | none=>
    have:l=[]:=by
     cases l with
     | nil=>rfl
     | cons c l=>
      have:=hn (by rw [← WK];simp) (by omega)
      simp at this
    subst this
    simp [Conv.bytesToString,sv];rfl
   | some ad=>
    have uI:=run_loadCells_list (P:=C.P) (w:=w) ad (l.map rC) (fun i u hi=>(hc ad i u rfl hi).2)
    rw [List.length_map,WK] at uI
    have DU:(loadCells ad n).run C.P w = .ok ((l.map fun c=>(c.toNat:Int)).map (Value.int .u8)).toArray w:=by
     rw [uI];simp [rC]
    rw [run_bytesToString w ad n cap _ DU]
    have:=fold_push l []
    simp only [List.nil_append] at this
    have e0:(⟨([]:List UInt8).toArray⟩:ByteArray)=ByteArray.empty:=rfl
    rw [e0] at this
    rw [this];rfl
  simp only [execOp,aq ye hx,Sem.run_bind,h1,h2,Result.andThen_ok,Sem.run_pure]
theorem Yl.nilCheck {x:Operand} {p:Addr} (hx:bO ⟨sl,own⟩ x=some (.pointer (some p))):Yl C ⟨sl,own⟩ ⟨dst,.nilCheck x,ty,pos,aft,g⟩ (.pointer (some p)):=
 fun a w hs=>by simp [execOp,aq hs hx]
theorem Yl.makeFunc {fn:Fn} {first captured:List Operand} {vs us:List Value} (hx:mj ⟨sl,own⟩ first=some vs) (hy:mj ⟨sl,own⟩ captured=some us):Yl C ⟨sl,own⟩ ⟨dst,.makeFunc fn first.toArray captured.toArray,ty,pos,aft,g⟩ (.func fn vs.toArray us.toArray):=
 fun a w hs=>by
  have h1:=jK hs hx
  have h2:=jK hs hy
  subst h1;subst h2
  simp [execOp,Instr.makeFunc]
def Jh (v:Value) (m:Nat):Value:=match v with
 | .slice a _ c=>.slice a m c
 | v=>v
theorem Yl.sliceTo (i:Nat) {x h:Operand} {t E:TypeId} {sz n:Nat} {v:Value} {m:Int} {cs:List Value} (hi:own[i]? = some (row v E sz n cs)) (ht:oC C.P t E sz) (hx:bO ⟨sl,own⟩ x=some v) (hh:bO ⟨sl,own⟩ h=some (.int .i64 m)) (hm:0≤m∧m≤n) :
  Yl C ⟨sl,own⟩ ⟨dst,.slice t x none (some h) none,ty,pos,aft,g⟩ (Jh v m.toNat):=
 fun a w hs=>by
  obtain ⟨_,Fs,XP,_⟩:=hs.world
  obtain ⟨c4,_⟩:=XP.at_ i _ hi
  obtain ⟨inf,ta,yQ⟩:=ht.inf
  have:∃ ao c,v = .slice ao n c∧n≤c:=by
   rcases c4.2 with ⟨rfl,rfl⟩ | ⟨gb,cp,cur,rfl,_,_,mc,_⟩
   ·exact ⟨none,0,rfl,Nat.le_refl _⟩
   ·exact ⟨_,cp,rfl,mc⟩
  obtain ⟨ao,c,rfl,mc⟩:=this
  have h1:(0:Int)≤m∧m≤(c:Int):=by omega
  simp only [execOp,aq hs hx,Option.map_none,Option.map_some,aq hs hh]
  simp [Instr.sliceAt,Instr.slice,Instr.sliceBounds,Instr.sliceBound,asIntOf,run_underlying ht.1,h1.1,h1.2,sizeOf,typeInfo,ta,Jh]
  intro _
  cases ao <;> simp [Addr.add]
theorem Sj {w:World} {F:Nat→Prop} {v:Value} {E:TypeId} {sz n m:Nat} {cs:List Value} (h:(row v E sz n cs).holds w F) (hm:m≤n):(row (Jh v m) E sz m (cs.take (m * sz))).holds w F:=by
 obtain ⟨c4,hF⟩:=h
 have hle:m * sz≤n * sz:=Nat.mul_le_mul_right _ hm
 rcases c4.2 with ⟨rfl,rfl⟩ | ⟨gb,cp,cur,rfl,h0,hb,mc,vo,oB,jF⟩
 ·have:m=0:=by omega
  subst this
  refine ⟨⟨by simp,.inl ⟨rfl,rfl⟩⟩,hF⟩
 ·refine ⟨⟨by rw [List.length_take,c4.1];omega,.inr ⟨gb,cp,cur,rfl,h0,hb,by omega,vo,oB,?_⟩⟩,hF⟩
  rw [← jF,List.take_take,Nat.min_eq_left hle]
theorem HW.elem {own:List bk} {w:World} {A A':bk} (i:Nat) (hi:own[i]? = some A) (hA:∀ F,A.holds w F→A'.holds w F) (h:HW C own w):HW C (own.set i A') w:=by
 obtain ⟨hf,Fs,hh,bc⟩:=h
 refine ⟨hf,Fs,⟨fun k B hk=>?_,fun k hk b hb=>hh.out k (by simpa using hk) b hb,hh.apart⟩,bc⟩
 by_cases ov:i=k
 ·subst ov
  have bZ:=(List.getElem?_eq_some_iff.1 hi).1
  simp [bZ] at hk
  subst hk
  exact hA _ (hh.at_ i A hi)
 ·rw [List.getElem?_set_ne ov] at hk;exact hh.at_ k B hk
theorem AK.Gx {K:Act→World→Prop} (i:Nat) {v:Value} {E:TypeId} {sz n:Nat} {cs:List Value} (m:Nat) (hi:own[i]? = some (row v E sz n cs)) (hm:m≤n) (h:AK C ⟨sl,own.set i (row (Jh v m) E sz m (cs.take (m * sz)))⟩ K):AK C ⟨sl,own⟩ K:=
 fun a w hs=>h a w ⟨hs.size,hs.defers,hs.slot,hs.world.elem i hi (fun F hA=>Sj hA hm)⟩
theorem AK.own' {K:Act→World→Prop} (L:List bk) (hL:∀ w,HW C own w→HW C L w) (h:AK C ⟨sl,L⟩ K):AK C ⟨sl,own⟩ K:=fun a w hs=>h a w ⟨hs.size,hs.defers,hs.slot,hL w hs.world⟩
end ops
def lQ {α:Type} (F:Nat→Prop) (f:α→Value) (w:World) (v:Value) (xs:List α):Prop:=Rd (fun b=>¬ F b) w v 1 xs.length (xs.map f)
def rL {α:Type} (F:Nat→Prop) (f:α→Value) (w:World) (v:Value) (qa:List (List α)):Prop:=∃ rs:List Value,rs.length=qa.length∧Rd (fun b=>¬ F b) w v 1 qa.length rs∧∀ i,i<qa.length→lQ F f w (rs.getD i undef) (qa.getD i [])
section
variable {α : Type} {C : Cx} {on : List bk} {w : World} {f : α → Value}
theorem Rd.Ce {G:Nat→Prop} {v:Value} {sz n:Nat} {cs:List Value} (h:Rd (fun b=>¬ C.S b) C.W0 v sz n cs) (hf:bj C.S C.W0 w) (hG:∀ b,¬ C.S b→b<C.W0.heap.size→G b):Rd G w v sz n cs:=
 Rd.mono h fun b hb bZ=>⟨hG b hb bZ,hf.block b bZ hb⟩
theorem lQ.at {v:Value} {xs:List α} (h:lQ C.S f C.W0 v xs) (hw:HW C on w):lQ (fun _=>False) f w v xs:=Rd.Ce h hw.frame (fun _ _ _=>id)
theorem rL.at {v:Value} {xs:List (List α)} (h:rL C.S f C.W0 v xs) (hw:HW C on w):rL (fun _=>False) f w v xs:=by
 obtain ⟨rs,h1,h2,h3⟩:=h
 exact ⟨rs,h1,Rd.Ce h2 hw.frame (fun _ _ _=>id),fun i hi=>lQ.at (h3 i hi) hw⟩
theorem lQ.off {Fs:Nat→Nat→Prop} {i:Nat} {v:Value} {xs:List α} (h:lQ C.S f C.W0 v xs) (hf:bj C.S C.W0 w) (bc:∀ k b,Fs k b→C.W0.heap.size≤b∨C.S b):lQ (Fs i) f w v xs:=
 Rd.Ce h hf (fun b hb bZ hF=>by rcases bc i b hF with h | h;(omega);exact hb h)
theorem lQ.own {v:Value} {E:TypeId} {xs:List α} (i:Nat) (hw:HW C on w) (hi:on[i]? = some (row v E 1 xs.length (xs.map f))):lQ (fun _=>False) f w v xs:=
 (cR.own (C:=C) i hi w hw).mono fun b _ _=>⟨id,rfl⟩
def dQ {α:Type} (f:α→Value) (E:TypeId) (rs:List Value) (qa:List (List α)):List bk:=(rs.zip qa).map fun p=>row p.1 E 1 p.2.length (p.2.map f)
theorem DC {E:TypeId} {rs:List Value} {qa:List (List α)} (h:rs.length=qa.length):(dQ f E rs qa).length=qa.length:=by simp [dQ,h]
theorem jr {E:TypeId} {rs:List Value} {qa:List (List α)} (h:rs.length=qa.length) {i:Nat} (hi:i<qa.length):(dQ f E rs qa)[i]? = some (row (rs.getD i undef) E 1 (qa.getD i []).length ((qa.getD i []).map f)):=by
 simp [dQ,List.getElem?_eq_getElem hi,List.getElem?_eq_getElem (show i<rs.length by omega),List.getD_eq_getElem?_getD,List.zip,List.getElem?_zipWith]
theorem kL {E:TypeId} {rs:List Value} {qa:List (List α)} (h:rs.length=qa.length) (q:Value) (ys:List α):dQ f E (rs++[q]) (qa++[ys])=dQ f E rs qa++[row q E 1 ys.length (ys.map f)]:=by
 simp [dQ,List.zip_append h]
theorem rL.own {v:Value} {E E':TypeId} {rs:List Value} {qa:List (List α)} (i j:Nat) (hw:HW C on w) (hl:rs.length=qa.length) (hi:on[i]? = some (row v E 1 qa.length rs)) (hj:on[j]? = some (bh (dQ f E' rs qa))):rL (fun _=>False) f w v qa:=
 ⟨rs,hl,(cR.own (C:=C) i hi w hw).mono fun b _ _=>⟨id,rfl⟩,fun k hk=>(cR.QM (C:=C) j k hj (jr hl hk) w hw).mono fun b _ _=>⟨id,rfl⟩⟩
theorem HW.lW {α:Type} {f:α→Value} (E:TypeId) (h:HW C on w):HW C (on++[bh (dQ f E [] ([]:List (List α)))]) w:=h.LV _ (fun i A hi=>by simp [dQ] at hi)
end
section
variable {C : Cx} {sl : List (Nat × Value)} {own : List bk} {ops : Array Oper} {Q : Exit → Act → World → Prop} {d : Nat} {ty : TypeId} {pos : String} {aft : Array Edge} {g : Option (Nat × Bool)} {rest : List Oper}
theorem Yl.Ks {dst:Option Nat} {x:Operand} {t:TypeId} {v:Value} {n j:Nat} {xs:List UInt8} (ht:dF C.P t) (hx:bO ⟨sl,own⟩ x=some (.pointer (some ((ko v).add (j * 1)))))
 (hr:cR C own v 1 n (xs.map rC)) (hj:j<xs.length):Yl C ⟨sl,own⟩ ⟨dst,.load t x,ty,pos,aft,g⟩ (rC (xs.getD j 0)):=Yl.load ht hx hr rfl 0 hj
theorem zb {a:Act} {w:World} (hs:B8 C ⟨sl,own⟩ a w) {f:FuncId} {x:Operand} {xs:List Operand} {yL:Array TypeId} {vs us cs:List Value} {dst:Option Nat}
  (hf:aj C.P f) (TM:bO ⟨sl,own⟩ x=some (.func (.func f) us.toArray cs.toArray)) (hx:mj ⟨sl,own⟩ xs=some vs):(execOp a.eval ⟨dst,.call ⟨.value x,xs.toArray,yL⟩,ty,pos,aft,g⟩).run C.P w = .ok (.enter f (us++vs++cs).toArray) w:=by
 obtain ⟨fn,h1,h2,h3⟩:=hf.fn
 have:=jK hs hx
 subst this
 have T4:¬ fn.name = "runtime.NumGoroutine":=by simpa using h2
 have FC:¬ fn.body=none:=by intro e;simp [e] at h3
 have h0:=aq hs TM
 simp [execOp,resolve,h0,Deferred.ofValue,invoke,callFunc,h1,T4,FC]
theorem AK.oQ {f:FuncId} {x:Operand} {xs:List Operand} {yL:Array TypeId} {vs us cs:List Value} {φ:Value→List bk→Prop} (hf:aj C.P f) (TM:bO ⟨sl,own⟩ x=some (.func (.func f) us.toArray cs.toArray)) (hx:mj ⟨sl,own⟩ xs=some vs) (oO:∀ w,HW C own w→aK C.P f (us++vs++cs) w φ) (hg:nc ops sl g) (hd:Nat.blt d C.N=true)
  (h:∀ v own',φ v own'→AK C ⟨(d,v) :: sl,own++own'⟩ (wpList C.P ops Q rest)):AK C ⟨sl,own⟩ (wpList C.P ops Q (⟨some d,.call ⟨.value x,xs.toArray,yL⟩,ty,pos,aft,g⟩ :: rest)):=by
 intro a w hs
 refine wpList_step fun K hK=>?_
 rw [if_pos (bA hs hg)]
 simp only [Oper.wp,zb hs hf TM hx,Oper.upon]
 refine (oO w hs.world).mono ?_
 rintro e w' ⟨v,own',yo,rfl,uE,Fs,hh,me⟩
 refine hK _ _ (h v own' yo _ _ ?_)
 exact hs.put (hs.world.push uE hh (fun j b hb=>(me j b hb).resolve_left id)) (d:=some d) (fun i hi=>by cases hi;simpa [Nat.blt_eq] using hd) v
theorem AK.aY (i:Nat) {A:bk} {f:FuncId} {xs:List Operand} {yL:Array TypeId} {vs:List Value} {φ:Value→bk→List bk→Prop} (hi:own[i]? = some A) (hf:aj C.P f) (hx:mj ⟨sl,own⟩ xs=some vs)
  (oO:∀ w Fs,HW C own w→cj own Fs w→bj C.S C.W0 w→(∀ k b,Fs k b→C.W0.heap.size≤b∨C.S b)→ck C.P f vs w (Fs i) φ) (hg:nc ops sl g) (hd:Nat.blt d C.N=true)
  (h:∀ v A' own',φ v A' own'→AK C ⟨(d,v) :: sl,own.set i A'++own'⟩ (wpList C.P ops Q rest)):AK C ⟨sl,own⟩ (wpList C.P ops Q (⟨some d,.call ⟨.value (.func f),xs.toArray,yL⟩,ty,pos,aft,g⟩ :: rest)):=by
 intro a w hs
 refine wpList_step fun K hK=>?_
 rw [if_pos (bA hs hg)]
 simp only [Oper.wp,sD hs hf hx,Oper.upon]
 obtain ⟨I5,Fs,hh,bc⟩:=hs.world
 refine (oO w Fs ⟨I5,Fs,hh,bc⟩ hh I5 bc).mono ?_
 rintro e w' ⟨v,A',own',yo,rfl,uE,Fs',DV,me⟩
 refine hK _ _ (h v A' own' yo _ _ ?_)
 exact hs.put (HW.update I5 hh bc (List.getElem?_eq_some_iff.1 hi).1 uE DV me) (d:=some d) (fun i hi=>by cases hi;simpa [Nat.blt_eq] using hd) v
theorem HW.flat {l own:List bk} {w:World} (h:HW C (bh l :: own) w):HW C (l++own) w:=by
 obtain ⟨hf,Fs,hh,bc⟩:=h
 obtain ⟨Gs,gh,gF⟩:=hh.at_ 0 (bh l) rfl
 have X3:∀ k b,Gs k b→Fs 0 b:=fun k b hb=>(gF b).2 ⟨k,hb⟩
 refine ⟨hf,fun k b=>if k<l.length then Gs k b else Fs (k - l.length+1) b,⟨?_,?_,?_⟩,?_⟩
 ·intro k A hk
  by_cases eo:k<l.length
  ·rw [List.getElem?_append_left eo] at hk
   simpa [eo] using gh.at_ k A hk
  ·rw [List.getElem?_append_right (by omega)] at hk
   have:=hh.at_ (k - l.length+1) A (by simpa using hk)
   simpa [eo] using this
 ·intro k hk b hb
  simp at hk
  simp only [show ¬ k<l.length by omega,if_false] at hb
  exact hh.out _ (by simp;omega) b hb
 ·intro k j b h1 h2
  by_cases hk:k<l.length <;> by_cases hj:j<l.length
  ·simp only [hk,hj,if_true] at h1 h2;exact gh.apart k j b h1 h2
  ·simp only [hk,hj,if_true,if_false] at h1 h2
   have:=hh.apart 0 _ b (X3 k b h1) h2;omega
  ·simp only [hk,hj,if_true,if_false] at h1 h2
   have:=hh.apart 0 _ b (X3 j b h2) h1;omega
  ·simp only [hk,hj,if_false] at h1 h2
   have:=hh.apart _ _ b h1 h2;omega
 ·intro k b hb
  split at hb
  ·exact bc 0 b (X3 k b hb)
  ·exact bc _ b hb
theorem HW.fU {l own:List bk} {w:World} (h:HW C (l++own) w):HW C (bh l :: own) w:=by
 obtain ⟨hf,Fs,hh,bc⟩:=h
 refine ⟨hf,fun k b=>if k=0 then ∃ i,i<l.length∧Fs i b else Fs (k - 1+l.length) b,⟨?_,?_,?_⟩,?_⟩
 ·intro k A hk
  cases k with
  | zero=>
   simp at hk
   subst hk
   refine ⟨fun i b=>i<l.length∧Fs i b,⟨?_,?_,?_⟩,?_⟩
   ·intro i B hi
    have oA:=(List.getElem?_eq_some_iff.1 hi).1
    have:=hh.at_ i B (by rw [List.getElem?_append_left oA];exact hi)
    simpa [oA] using this
   ·rintro i hi b ⟨h,_⟩;omega
   ·rintro i j b ⟨_,h1⟩ ⟨_,h2⟩;exact hh.apart i j b h1 h2
   ·intro b;simp only [if_true];exact Iff.rfl
  | succ k=>
   have:=hh.at_ (k+l.length) A (by rw [List.getElem?_append_right (by omega)];simpa using hk)
   simpa using this
 ·intro k hk b hb
  simp at hk
  have vm:k ≠ 0:=by omega
  simp only [vm,if_false] at hb
  exact hh.out _ (by simp;omega) b hb
 ·intro k j b h1 h2
  by_cases hk:k=0 <;> by_cases hj:j=0
  ·omega
  ·simp only [hk,hj,if_true,if_false] at h1 h2
   obtain ⟨i,hi,h1⟩:=h1
   have:=hh.apart _ _ b h1 h2;omega
  ·simp only [hk,hj,if_true,if_false] at h1 h2
   obtain ⟨i,hi,h2⟩:=h2
   have:=hh.apart _ _ b h1 h2;omega
  ·simp only [hk,hj,if_false] at h1 h2
   have:=hh.apart _ _ b h1 h2;omega
 ·intro k b hb
  split at hb
  ·obtain ⟨i,_,hb⟩:=hb;exact bc i b hb
  ·exact bc _ b hb
theorem lk {α:Type} (L:List α):∀ (n s:Nat),s+n≤L.length→(List.range' s n).filterMap (L[·]?)=(L.drop s).take n
 | 0,s,_=>by simp
 | n+1,s,hle=>by
  have bZ:s<L.length:=by omega
  rw [List.range'_succ,List.filterMap_cons,List.getElem?_eq_getElem bZ]
  simp only
  rw [lk L n (s+1) (by omega),List.drop_eq_getElem_cons bZ,List.take_succ_cons]
theorem HW.Ez {l pre post:List bk} {w:World} (h:HW C (pre++bh l :: post) w):HW C (pre++l++post) w:=by
 have hp:HW C (bh l :: (pre++post)) w:=by
  refine HW.pick h (pre.length :: (List.range' 0 pre.length++List.range' (pre.length+1) post.length)) ?_ ?_ ?_
  ·rw [List.nodup_cons,List.nodup_append]
   refine ⟨by simp;omega,List.nodup_range',List.nodup_range',fun a ha b hb=>?_⟩
   simp at ha hb;omega
  ·rw [List.filterMap_cons,List.filterMap_append,lk _ _ _ (by simp),lk _ _ _ (by simp;omega)]
   simp [List.drop_append,List.drop_eq_nil_of_le (show pre.length≤pre.length+1 by omega)]
  ·simp
 have h2:=hp.flat
 refine HW.pick h2 (List.range' l.length pre.length++(List.range' 0 l.length++List.range' (l.length+pre.length) post.length)) ?_ ?_ (by simp)
 ·rw [List.nodup_append,List.nodup_append]
  refine ⟨List.nodup_range',⟨List.nodup_range',List.nodup_range',fun a ha b hb=>?_⟩,fun a ha b hb=>?_⟩
  ·simp at ha hb;omega
  ·simp at ha hb;omega
 ·rw [List.filterMap_append,List.filterMap_append,lk _ _ _ (by simp),lk _ _ _ (by simp),lk _ _ _ (by simp;omega)]
  simp [List.drop_append,List.drop_eq_nil_of_le (show l.length≤l.length+pre.length by omega)]
theorem AK.Ez {K:Act→World→Prop} (pre:List bk) {l post:List bk} (h:AK C ⟨sl,pre++l++post⟩ K):AK C ⟨sl,pre++bh l :: post⟩ K:=fun a w hs=>h a w ⟨hs.size,hs.defers,hs.slot,hs.world.Ez⟩
end
theorem dW {P:Program} {f:FuncId} {fn:Func} {c:Code} {vs:List Value} {w:World} {F:Nat→Prop} {l:List bk} {φ:Value→bk→List bk→Prop} (hf:P.funcs[f]? = some fn) (hb:fn.body=some c) (hN:vs.length≤fn.ntmps) (hA:(bh l).holds w F)
  (h:AK ⟨P,fn.ntmps,w,F⟩ ⟨wA 0 vs,l⟩ (c.wp P (bodyPost P fn fun e w'=>∃ v A' own',φ v A' own'∧e = .returned v∧kq F w w' (A' :: own')))):ck P f vs w F φ:=
 cu hf hb hN hA (fun a w hs=>h a w ⟨hs.size,hs.defers,hs.slot,by have:=hs.world.flat;simpa using this⟩)
theorem kq.Vj {C:Cx} {l own:List bk} {w:World} (h:HW C (l++own) w):kq C.S C.W0 w (bh l :: own):=kq.of h.fU
end Go.Sx
namespace Go.Sx
open Go.RowKit
def yT (r:ResultVar) (tmps:Array Value):Sem Value:=match r with
 | .tmp t=>pure (tmps.getD t undef)
 | .cell a t=>do loadVar t (← asAddr (tmps.getD a undef))
def HJ (C:Cx) (st:St) (r:ResultVar) (v:Value):Prop:=∀ a w,B8 C st a w→(yT r a.tmps).run C.P w = .ok v w
inductive uU (C:Cx) (st:St):List ResultVar→List Value→Prop
 | nil:uU C st [] []
 | cons {r:ResultVar} {v:Value} {rs:List ResultVar} {vs:List Value}:HJ C st r v→uU C st rs vs→uU C st (r :: rs) (v :: vs)
def QY:List Value→Value
 | [v]=>v
 | vs=>.tuple vs.toArray
theorem qD {P:Program} {α:Type} (f:α→Sem Value) (w:World):∀ (l:List α) (vs:List Value),l.length=vs.length→(∀ (i:Nat) r v,l[i]? = some r→vs[i]? = some v→(f r).run P w = .ok v w)→(l.mapM f).run P w = .ok vs w
 | [],[],_,_=>by simp [Sem.run_pure]
 | r :: l,v :: vs,hl,h=>by
  have h0:=h 0 r v rfl rfl
  have ih:=qD f w l vs (by simpa using hl) (fun i r v h1 h2=>h (i+1) r v (by simpa using h1) (by simpa using h2))
  simp only [List.mapM_cons,Sem.run_bind,h0,Result.andThen_ok,ih,Sem.run_pure]
theorem uU.get {C:Cx} {st:St} {rs:List ResultVar} {vs:List Value} (h:uU C st rs vs):rs.length=vs.length∧∀ (i:Nat) r v,rs[i]? = some r→vs[i]? = some v→HJ C st r v:=by
 induction h with
 | nil=>exact ⟨rfl,fun i r v h=>by simp at h⟩
 | cons h1 h2 ih=>
  refine ⟨by simp [ih.1],fun i r v hr hv=>?_⟩
  cases i with
  | zero=>simp at hr hv;subst hr;subst hv;exact h1
  | succ i=>exact ih.2 i r v (by simpa using hr) (by simpa using hv)
theorem u5 {C:Cx} {st:St} {fn:Func} {rs:List ResultVar} {vs:List Value} (hr:fn.results=rs.toArray) (h:uU C st rs vs) {a:Act} {w:World} (hs:B8 C st a w):(results fn a.tmps).run C.P w = .ok (QY vs) w:=by
 obtain ⟨hl,hg⟩:=h.get
 have:=qD (P:=C.P) (fun r=>yT r a.tmps) w rs vs hl (fun i r v h1 h2=>hg i r v h1 h2 a w hs)
 have e:(fn.results.mapM (m:=Sem) fun r=>yT r a.tmps).run C.P w = .ok vs.toArray w:=by
  rw [hr,List.mapM_toArray]
  simp [this]
 have e3:results fn a.tmps=(do let vs ← fn.results.mapM (fun r=>yT r a.tmps);pure (if h:vs.size=1 then vs[0] else .tuple vs)):=by
  unfold results
  congr 1
 rw [e3]
 simp only [Sem.run_bind,e]
 simp only [Result.andThen_ok,Sem.run_pure]
 match vs with
 | []=>rfl
 | [v]=>rfl
 | v :: u :: vs=>rfl
theorem HJ.tmp {C:Cx} {sl:List (Nat × Value)} {own:List bk} {t:Nat} {v:Value} (h:get sl t=some v):HJ C ⟨sl,own⟩ (.tmp t) v:=fun a w hs=>by
 have:=hs.slot t v h
 simp only [yT,this,Sem.run_pure]
theorem HJ.cell {C:Cx} {sl:List (Nat × Value)} {own:List bk} {s t b off sz:Nat} {cs us:List Value} (ht:nq C.P t sz) (hx:get sl s=some (.pointer (some ⟨b,off,none⟩))) (hb:iF C own b cs) (hu:(cs.drop off).take sz=us) (hl:us.length=sz):HJ C ⟨sl,own⟩ (.cell s t) (.agg us.toArray):=fun a w hs=>by
 obtain ⟨E,hb⟩:=hb w hs.world
 have uI:=run_loadCells_list (P:=C.P) (w:=w) ⟨b,off,none⟩ us (fun i u hi=>by
  rw [Addr.add_lit,cell_of_row w b _ _ E (0,0) hb]
  rw [← hu,List.getElem?_take] at hi
  split at hi
  ·rw [List.getElem?_drop] at hi;simpa using hi
  ·cases hi)
 rw [hl] at uI
 have:=hs.slot s _ hx
 simp only [yT,this]
 simp [asAddr,loadVar,iy ht,cI ht.2,uI]
theorem AK.cO {C:Cx} {sl:List (Nat × Value)} {own:List bk} {fn:Func} {R:Ending→World→Prop} (rs:List ResultVar) {vs:List Value} (hr:fn.results=rs.toArray) (hv:uU C ⟨sl,own⟩ rs vs) (h:∀ w,HW C own w→R (.returned (QY vs)) w):AK C ⟨sl,own⟩ (bodyPost C.P fn R .ret):=by
 intro a w hs
 exact ⟨hs.defers,_,u5 hr hv hs,h w hs.world⟩
theorem AK.jz {C:Cx} {sl:List (Nat × Value)} {own:List bk} {fn:Func} {R:Ending→World→Prop} (rs:List ResultVar) {vs:List Value} (hr:fn.results=rs.toArray) (hv:uU C ⟨sl,own⟩ rs vs) (h:∀ w,HW C own w→R (.returned (QY vs)) w):AK C ⟨sl,own⟩ (bodyPost C.P fn R .normal):=by
 intro a w hs
 exact ⟨hs.defers,_,u5 hr hv hs,h w hs.world⟩
theorem bY:qN []:=fun u h=>by cases h
theorem aw {u:Value} {us:List Value} (h:u.oneCell'=true) (h':qN us):qN (u :: us):=fun x hx=>by
 rcases List.mem_cons.1 hx with rfl | hx
 ·exact h
 ·exact h' x hx
theorem CQ {α:Type} (f:α→Value) (h:∀ a,(f a).oneCell'=true) (xs:List α):qN (xs.map f):=by
 intro u hu;rw [List.mem_map] at hu;obtain ⟨x,_,rfl⟩:=hu;exact h x
theorem Rd.sl {G:Nat→Prop} {w:World} {v:Value} {sz n:Nat} {cs:List Value} (h:Rd G w v sz n cs):aB v:=by
 obtain ⟨a,c,h,_⟩:=h;exact ⟨a,_,c,h⟩
theorem cq:aB (.slice none 0 0):=⟨_,_,_,rfl⟩
theorem AK.shape {C:Cx} {sl:List (Nat × Value)} {own:List bk} {K:Act→World→Prop} (i:Nat) {v:Value} {E:TypeId} {sz n:Nat} {cs:List Value} (hi:own[i]? = some (row v E sz n cs)) (h:aB v→AK C ⟨sl,own⟩ K):AK C ⟨sl,own⟩ K:=
 AK.fact (p:=aB v) (fun w hw=>hw.shape i hi) h
theorem Yl.YO {C:Cx} {sl:List (Nat × Value)} {own:List bk} {dst:Option Nat} {ty:TypeId} {pos:String} {aft:Array Edge} {g:Option (Nat × Bool)} {x i:Operand} {t e:TypeId} {sz:Nat} {v:Value} {n:Nat} {q:IntKind} {k:Int} {cs:List Value} (ht:oC C.P t e sz) (hx:bO ⟨sl,own⟩ x=some v) (hi:bO ⟨sl,own⟩ i=some (.int q k))
  (hr:cR C own v sz n cs) (hz:0<sz) (h0:0≤k∧k<n):Yl C ⟨sl,own⟩ ⟨dst,.indexAddr t x i,ty,pos,aft,g⟩ (.pointer (some ((ko v).add (k.toNat * sz)))):=
 fun a w hs=>by
  obtain ⟨oa,cap,rfl,_,_,h4,_⟩:=hr w hs.world
  have:=h4 (by omega) hz
  obtain ⟨ad,rfl⟩:=Option.isSome_iff_exists.1 this
  have h1:=ht.1
  obtain ⟨inf,h2,h3⟩:=ht.inf
  simp [execOp,aq hs hx,aq hs hi,Instr.indexAt,asIntOf,run_underlying h1,h0.1,h0.2,sizeOf,typeInfo,h2,h3,ko]
theorem Yl.M3 {C:Cx} {sl:List (Nat × Value)} {own:List bk} {dst:Option Nat} {ty:TypeId} {pos:String} {aft:Array Edge} {g:Option (Nat × Bool)} {x y:Operand} {t t':TypeId} {m n:Int} (r:Int) (hx:bO ⟨sl,own⟩ x=some (.int .i64 m)) (hy:bO ⟨sl,own⟩ y=some (.int .i64 n)) (e:m - n=r) (h1:-9223372036854775808≤r∧r≤9223372036854775807) :
  Yl C ⟨sl,own⟩ ⟨dst,.binOp .sub t x y t',ty,pos,aft,g⟩ (.int .i64 r):=by
 subst e;exact Yl.sub hx hy h1
theorem Yl.HI {C:Cx} {sl:List (Nat × Value)} {own:List bk} {dst:Option Nat} {ty:TypeId} {pos:String} {aft:Array Edge} {g:Option (Nat × Bool)} {x y:Operand} {t t':TypeId} {m n:Int} (r:Int) (hx:bO ⟨sl,own⟩ x=some (.int .i64 m)) (hy:bO ⟨sl,own⟩ y=some (.int .i64 n)) (e:m+n=r) (h1:-9223372036854775808≤r∧r≤9223372036854775807) :
  Yl C ⟨sl,own⟩ ⟨dst,.binOp .add t x y t',ty,pos,aft,g⟩ (.int .i64 r):=by
 subst e;exact Yl.add hx hy h1
theorem Yl.YK {C:Cx} {sl:List (Nat × Value)} {own:List bk} {dst:Option Nat} {ty:TypeId} {pos:String} {aft:Array Edge} {g:Option (Nat × Bool)} {x y:Operand} {t t':TypeId} {m n:Int} (r:Int) (hx:bO ⟨sl,own⟩ x=some (.int .i64 m)) (hy:bO ⟨sl,own⟩ y=some (.int .i64 n)) (e:m * n=r) (h1:-9223372036854775808≤r∧r≤9223372036854775807) :
  Yl C ⟨sl,own⟩ ⟨dst,.binOp .mul t x y t',ty,pos,aft,g⟩ (.int .i64 r):=by
 subst e;exact Yl.mul hx hy h1
theorem Gj {v:Value} (k:Nat) (h:aB v):aB (Jh v k):=by obtain ⟨a,n,c,rfl⟩:=h;exact ⟨_,_,_,rfl⟩
theorem AK.mo {C:Cx} {sl:List (Nat × Value)} {own l post:List bk} {K:Act→World→Prop} (e:own=bh l :: post) (h:AK C ⟨sl,l++post⟩ K):AK C ⟨sl,own⟩ K:=by
 subst e;exact fun a w hs=>h a w ⟨hs.size,hs.defers,hs.slot,hs.world.flat⟩
theorem kq.ez {C:Cx} {l:List bk} {w:World} (h:HW C l w):kq C.S C.W0 w [bh l]:=kq.Vj (own:=[]) (by rw [List.append_nil];exact h)
structure bB where
 L:Int
 s:Int
 fin:List Bool
 nx:List (List Int)
deriving DecidableEq
def oD (F:Nat→Prop) (w:World) (v:Value) (d:bB):Prop:=∃ vF vN,v = .agg #[.int .i64 d.L,.int .i64 d.s,vF,vN]∧lQ F Value.bool w vF d.fin∧rL F (Value.int .i64) w vN d.nx
theorem oD.at {C:Cx} {own:List bk} {w:World} {v:Value} {d:bB} (h:oD C.S C.W0 v d) (hw:HW C own w):oD (fun _=>False) w v d:=by
 obtain ⟨vF,vN,rfl,h1,h2⟩:=h
 exact ⟨vF,vN,rfl,h1.at hw,h2.at hw⟩
def kg (EB EI ER:TypeId) (vF vN:Value) (rs:List Value) (d:bB):List bk:=[row vF EB 1 d.fin.length (d.fin.map Value.bool),row vN ER 1 d.nx.length rs,bh (dQ (Value.int .i64) EI rs d.nx)]
def Uy (P:Program) (s f off:Nat):Bool:=match P.underlying s with
 | some (.struct fs)=>match fs[f]? with
  | some fd=>fd.offset == off && ((P.info? fd.type).map (fun i=>decide (i.size=0)) == some false)
  | none=>false
 | _=>false
theorem cz.of {P:Program} {s f off:Nat} (h:Uy P s f off=true):cz P s f off:=by
 unfold Uy at h
 split at h
 ·rename_i fs hu
  split at h
  ·rename_i fd hf
   simp only [Bool.and_eq_true,beq_iff_eq] at h
   exact ⟨fs,fd,hu,hf,h.1,h.2⟩
  ·cases h
 ·cases h
theorem HW.rest {C:Cx} {a:bk} {l:List bk} {w:World} (h:HW C (a :: l) w):HW C l w:=by
 have:=h.pick (own':=l) ((List.range' 1 l.length)) List.nodup_range' (by
  have:=lk (a :: l) l.length 1 (by simp;omega)
  rw [this];simp) (by simp)
 exact this
theorem cR.hd {C:Cx} {l:List bk} {v:Value} {E:TypeId} {sz n:Nat} {cs:List Value}:cR C (row v E sz n cs :: l) v sz n cs:=cR.own 0 rfl
theorem cR.tl {C:Cx} {a:bk} {l:List bk} {v:Value} {sz n:Nat} {cs:List Value} (h:cR C l v sz n cs):cR C (a :: l) v sz n cs:=fun w hw=>h w hw.rest
theorem iF.hd {C:Cx} {l:List bk} {b:Nat} {E:TypeId} {sz:Nat} {cs:List Value}:iF C (box b E sz cs :: l) b cs:=iF.own 0 rfl
theorem iF.tl {C:Cx} {a:bk} {l:List bk} {b:Nat} {cs:List Value} (h:iF C l b cs):iF C (a :: l) b cs:=fun w hw=>h w hw.rest
theorem oq.hd {C:Cx} {l:List bk} {b:Nat} {DQ:List (Value × Value)}:oq C (mapA b DQ :: l) (.map (some b)) DQ:=oq.own 0 rfl
theorem oq.tl {C:Cx} {a:bk} {l:List bk} {v:Value} {DQ:List (Value × Value)} (h:oq C l v DQ):oq C (a :: l) v DQ:=fun w hw=>h w hw.rest
end Go.Sx
namespace Go.Sx
open Go.RowKit
theorem jb.app {sl a b:List (Nat × Value)} (h1:jb sl a) (h2:jb sl b):jb sl (a++b):=h1.append h2
theorem AK.bE {C:Cx} {sl:List (Nat × Value)} {own:List bk} {c:Code} {Q:Exit→Act→World→Prop} {X:Type} (kv:List (Nat × Value)) (ch:X→List (Nat × Value)) (ow:X→List bk) (yy:X→Prop) (μ:X→Nat) (x0:X) (hk:jb sl kv) (h0:yy x0) (h1:jb sl (ch x0)) (h2:∀ w,HW C own w→HW C (ow x0) w)
  (round:∀ x,yy x→∀ K:Act→World→Prop,(∀ Fu own' x',yy x'→μ x' < μ x→jb Fu (ch x'++kv)→(∀ w,HW C own' w→HW C (ow x') w)→AK C ⟨Fu,own'⟩ K)→AK C ⟨ch x++kv,ow x⟩ (c.wp C.P (Exit.then K Q))) :
  AK C ⟨sl,own⟩ ((Code.loop c).wp C.P Q):=by
 intro a w hs
 refine wp_loop_ghost (fun n a w=>∃ x,yy x∧μ x=n∧B8 C ⟨ch x++kv,ow x⟩ a w) (μ x0) ⟨x0,h0,rfl,⟨hs.size,hs.defers,fun i v hv=>hs.slot i v ((h1.app hk).get i v hv),h2 w hs.world⟩⟩ ?_
 rintro n a w ⟨x,hg,rfl,hs⟩
 exact round x hg _ (fun Fu own' x' hg' bZ mW how a w ye=>⟨μ x',bZ,x',hg',rfl,⟨ye.size,ye.defers,fun i v hv=>ye.slot i v (mW.get i v hv),how w ye.world⟩⟩) a w hs
theorem AK.oM {C:Cx} {sl:List (Nat × Value)} {own:List bk} {Q:Exit→Act→World→Prop} {id:Nat} {l:Array Oper} {dr:Bool} {X:Type} (kv:List (Nat × Value)) (ch:X→List (Nat × Value)) (ow:X→List bk) (yy:X→Prop) (hk:jb sl kv)
  (main:∀ Q':Exit→Act→World→Prop,(∀ Fu own' x,yy x→jb Fu (ch x++kv)→(∀ w,HW C own' w→HW C (ow x) w)→AK C ⟨Fu,own'⟩ (Q' .normal))→AK C ⟨sl,own⟩ ((Code.region id l dr).wp C.P Q'))
  (h:∀ x,yy x→AK C ⟨ch x++kv,ow x⟩ (Q .normal)):AK C ⟨sl,own⟩ ((Code.region id l dr).wp C.P Q):=
 main Q (fun Fu own' x hg h1 h2=>AK.F7 h1 h2 (h x hg))
section
variable {α β : Type} [DecidableEq α] {C : Cx} {sl : List (Nat × Value)} {own : List bk} {ops : Array Oper} {Q : Exit → Act → World → Prop} {ty : TypeId} {pos : String} {aft : Array Edge} {g : Option (Nat × Bool)} {rest : List Oper}
theorem Yl.shr {dst:Option Nat} {x y:Operand} {t t':TypeId} {k:IntKind} {m n:Int} (hx:bO ⟨sl,own⟩ x=some (.int .i64 m)) (hy:bO ⟨sl,own⟩ y=some (.int k n)) (hm:0≤m) (hn:0≤n∧n≤62) :
  Yl C ⟨sl,own⟩ ⟨dst,.binOp .shr t x y t',ty,pos,aft,g⟩ (.int .i64 (m / 2 ^ n.toNat)):=
 fun a w hs=>by
  have h1:Min.min n.toNat 64=n.toNat:=by omega
  have h2:¬ n<0:=by omega
  have h3:m.fdiv (2 ^ n.toNat)=m / 2 ^ n.toNat:=Int.fdiv_eq_ediv_of_nonneg m (Int.pow_nonneg (by decide))
  simp only [execOp,aq hs hx,aq hs hy]
  simp [go_sem,binOp,Op.shift,IntKind.bits,h1,h2,h3]
end
end Go.Sx
namespace Go.Sx
open Go.RowKit
def MA (n:Nat):Type:={ l:List Int // l.length=n }
instance (n:Nat):DecidableEq (MA n):=inferInstanceAs (DecidableEq { l:List Int // l.length=n })
def tv {n:Nat} (a:MA n):Value:=.agg (a.1.map (Value.int .i64)).toArray
theorem mU {P:Program} {e:TypeId} (he:P.underlying e=some (.int .i64)) (d:Nat) (xs ys:List Int) (w:World):∀ is:List Nat,(∀ i∈is,i<xs.length∧i<ys.length) →
  (Op.eqItems (d+1) e 1 (xs.map (Value.int .i64)).toArray (ys.map (Value.int .i64)).toArray is).run P w = .ok (decide (∀ i∈is,xs.getD i 0=ys.getD i 0)) w
 | [],_=>by simp [Op.eqItems]
 | j :: is,h=>by
  have Ro:∀ w,(isAgg e).run P w = .ok false w:=fun w=>by simp [isAgg,run_underlying he]
  have FX:∀ (cs:Array Value) (off:Nat) (v:Value) (w:World),cs[off]? = some v→(part e cs off).run P w = .ok v w:=fun cs off v w h=>by simp [part,Ro,h]
  obtain ⟨h1,h2⟩:=h j (List.mem_cons_self ..)
  have p1:=FX (xs.map (Value.int .i64)).toArray (j * 1) (.int .i64 (xs.getD j 0)) w (by simp [List.getD_eq_getElem?_getD,h1])
  have p2:=FX (ys.map (Value.int .i64)).toArray (j * 1) (.int .i64 (ys.getD j 0)) w (by simp [List.getD_eq_getElem?_getD,h2])
  have ih:=mU he d xs ys w is (fun i hi=>h i (List.mem_cons_of_mem _ hi))
  simp only [Op.eqItems,Sem.run_bind,p1,p2,Result.andThen_ok,run_equalIn_int w d e .i64 .i64 _ _ he]
  by_cases hj:xs.getD j 0=ys.getD j 0
  ·have e1:(xs.getD j 0 == ys.getD j 0)=true:=by rw [beq_iff_eq];exact hj
   rw [e1]
   simp only [Bool.not_true,Bool.false_eq_true,if_false]
   rw [ih]
   congr 1
   simp only [List.mem_cons,forall_eq_or_imp,hj,true_and]
  ·have e1:(xs.getD j 0 == ys.getD j 0)=false:=by rw [beq_eq_false_iff_ne];exact hj
   rw [e1]
   simp only [Bool.not_false,if_true,Sem.run_pure]
   congr 1
   symm
   rw [decide_eq_false_iff_not]
   intro hh
   exact hj (hh j (List.mem_cons_self ..))
theorem SF {P:Program} {kt e:TypeId} {n:Nat} (hk:P.underlying kt=some (.array n e)) (he:P.underlying e=some (.int .i64)) (hs:(P.info? e).map (·.size)=some 1):yA P kt (tv:MA n→Value):=by
 obtain ⟨i,hi⟩:∃ i,P.info? e=some i:=by cases h:P.info? e with
  | none=>simp [h] at hs
  | some i=>exact ⟨i,rfl⟩
 have qI:i.size=1:=by simpa [hi] using hs
 have zT:P.cellsOf e=1:=by simp [Program.cellsOf,hi,qI]
 have Ro:∀ w,(isAgg e).run P w = .ok false w:=fun w=>by simp [isAgg,run_underlying he]
 have FX:∀ (cs:Array Value) (off:Nat) (v:Value) (w:World),cs[off]? = some v→(part e cs off).run P w = .ok v w:=fun cs off v w h=>by simp [part,Ro,h]
 refine E7 hk (fun a b=>rfl) (fun a b w=>?_) (fun em a w=>?_) (fun a=>?_)
 ·show (Op.equalIn (9999+1) kt (tv a) (tv b)).run P w=_
  unfold tv
  rw [run_equalIn_array (w:=w) 9999 _ _ hk hi,zT,mU he 9998 a.1 b.1 w (List.range n) (fun i hi=>by rw [List.mem_range] at hi;rw [a.2,b.2];exact ⟨hi,hi⟩)]
  congr 1
  rw [decide_eq_decide]
  constructor
  ·intro h
   apply Subtype.ext
   apply List.ext_getElem
   ·rw [a.2,b.2]
   ·intro k h1 h2
    have:=h k (by rw [List.mem_range,← a.2];exact h1)
    simpa [List.getD_eq_getElem?_getD,h1,h2] using this
  ·intro h i _;rw [h]
 ·show (Instr.checkKey em (9999+1) kt (tv a)).run P w=_
  have ye:∀ w,(sizeOf e).run P w = .ok 1 w:=fun w=>cI hs w
  have bx:∀ (n:Nat) (x:Int) (w:World),(Instr.checkKey em (n+1) e (.int .i64 x)).run P w = .ok () w:=fun n x w=>by simp [Instr.checkKey,run_underlying he]
  have hc:∀ (x:Int) (w:World),(Instr.checkKey em 9999 e (.int .i64 x)).run P w = .ok () w:=fun x w=>bx 9998 x w
  unfold tv Instr.checkKey
  simp only [Sem.run_bind,run_underlying hk,Result.andThen_ok,Std.Legacy.Range.forIn_eq_forIn_range',Std.Legacy.Range.size,Nat.sub_zero,Nat.add_one_sub_one,Nat.div_one]
  have hm:∀ i∈List.range' 0 n,i<n:=fun i hi=>by rw [List.mem_range'_1] at hi;omega
  revert hm
  generalize List.range' 0 n=is
  intro hm
  induction is with
  | nil=>simp
  | cons j is ih=>
   have hj:=hm j (List.mem_cons_self ..)
   have p1:=FX (a.1.map (Value.int .i64)).toArray (j * 1) (.int .i64 (a.1.getD j 0)) w (by simp [List.getD_eq_getElem?_getD,show j<a.1.length by rw [a.2];exact hj])
   simp only [List.forIn_cons,Sem.run_bind,ye,p1,hc,Result.andThen_ok,Sem.run_pure]
   exact ih (fun i hi=>hm i (List.mem_cons_of_mem _ hi))
 ·have h0:∀ (n:Nat) (v:Int),Instr.sameBits (n+1) (.int .i64 v) (.int .i64 v)=true:=fun n v=>by simp [Instr.sameBits]
  have h1:∀ n,Instr.sameBits (n+2) (tv a) (tv a)=true:=fun n=>by
   unfold tv
   simp only [Instr.sameBits,beq_self_eq_true,Bool.true_and,List.size_toArray,Array.all_eq_true,Array.toList_zip]
   simp
   intro x y Xs
   obtain ⟨i,hi,e⟩:=List.mem_iff_getElem.1 Xs
   rw [List.getElem_zip,List.getElem_map,Prod.mk.injEq] at e
   rw [← e.1,← e.2];exact h0 n _
  exact h1 9998
theorem Yl.GJ {C:Cx} {sl:List (Nat × Value)} {own:List bk} {dst:Option Nat} {ty:TypeId} {pos:String} {aft:Array Edge} {g:Option (Nat × Bool)} {x:Operand} {t b n:Nat} {a:MA n} (ht:nq C.P t n) (hx:bO ⟨sl,own⟩ x=some (.pointer (some ⟨b,0,none⟩))) (hb:iF C own b (a.1.map (Value.int .i64))) :
  Yl C ⟨sl,own⟩ ⟨dst,.load t x,ty,pos,aft,g⟩ (tv a):=
 Yl.ak ht hx hb (by rw [List.drop_zero,List.take_of_length_le (by rw [List.length_map,a.2];exact Nat.le_refl _)]) (by rw [List.length_map,a.2])
def JI (P:Program) (s f off:Nat):Prop:=∃ fs fd,P.underlying s=some (.struct fs)∧fs[f]? = some fd∧dF P fd.type∧fd.offset=off
def PI (P:Program) (s f off:Nat):Bool:=match P.underlying s with
 | some (.struct fs)=>match fs[f]? with
  | some fd=>((P.underlying fd.type).map Jk == some true) && fd.offset == off
  | none=>false
 | _=>false
theorem JI.of {P:Program} {s f off:Nat} (h:PI P s f off=true):JI P s f off:=by
 unfold PI at h
 split at h
 ·rename_i fs h1
  split at h
  ·rename_i fd h2
   rw [Bool.and_eq_true] at h
   exact ⟨fs,fd,h1,h2,by unfold dF;simpa using h.1,by simpa using h.2⟩
  ·cases h
 ·cases h
theorem Yl.SP {C:Cx} {sl:List (Nat × Value)} {own:List bk} {dst:Option Nat} {ty:TypeId} {pos:String} {aft:Array Edge} {g:Option (Nat × Bool)} {x:Operand} {s f off:Nat} {cs:List Value} {u:Value} (h:JI C.P s f off) (hx:bO ⟨sl,own⟩ x=some (.agg cs.toArray)) (hu:cs[off]? = some u) :
  Yl C ⟨sl,own⟩ ⟨dst,.field s x f,ty,pos,aft,g⟩ u:=by
 obtain ⟨fs,fd,h1,h2,h3,rfl⟩:=h
 exact Yl.field h1 h2 h3 hx hu
end Go.Sx
namespace Go.Sx
open Go.RowKit
section
variable {C : Cx} {sl : List (Nat × Value)} {own : List bk} {ops : Array Oper} {Q : Exit → Act → World → Prop} {d : Nat} {ty : TypeId} {pos : String} {aft : Array Edge} {g : Option (Nat × Bool)} {rest : List Oper}
theorem AK.q9 (i:Nat) {A:bk} {f:FuncId} {x:Operand} {xs:List Operand} {yL:Array TypeId} {vs us cs:List Value} {φ:Value→bk→List bk→Prop} (hi:own[i]? = some A) (hf:aj C.P f) (TM:bO ⟨sl,own⟩ x=some (.func (.func f) us.toArray cs.toArray)) (hx:mj ⟨sl,own⟩ xs=some vs)
  (oO:∀ w Fs,HW C own w→cj own Fs w→bj C.S C.W0 w→(∀ k b,Fs k b→C.W0.heap.size≤b∨C.S b)→ck C.P f (us++vs++cs) w (Fs i) φ) (hg:nc ops sl g) (hd:Nat.blt d C.N=true)
  (h:∀ v A' own',φ v A' own'→AK C ⟨(d,v) :: sl,own.set i A'++own'⟩ (wpList C.P ops Q rest)):AK C ⟨sl,own⟩ (wpList C.P ops Q (⟨some d,.call ⟨.value x,xs.toArray,yL⟩,ty,pos,aft,g⟩ :: rest)):=by
 intro a w hs
 refine wpList_step fun K hK=>?_
 rw [if_pos (bA hs hg)]
 simp only [Oper.wp,zb hs hf TM hx,Oper.upon]
 obtain ⟨I5,Fs,hh,bc⟩:=hs.world
 refine (oO w Fs ⟨I5,Fs,hh,bc⟩ hh I5 bc).mono ?_
 rintro e w' ⟨v,A',own',yo,rfl,uE,Fs',DV,me⟩
 refine hK _ _ (h v A' own' yo _ _ ?_)
 exact hs.put (HW.update I5 hh bc (List.getElem?_eq_some_iff.1 hi).1 uE DV me) (d:=some d) (fun i hi=>by cases hi;simpa [Nat.blt_eq] using hd) v
end
theorem cj.HG {own:List bk} {Fs:Nat→Nat→Prop} {w:World} (hh:cj own Fs w) {i:Nat} (j:Nat) {b:Nat} {E:TypeId} {sz:Nat} {cs:List Value} (hj:own[j]? = some (box b E sz cs)) (j9:i ≠ j):¬ Fs i b:=fun hF=>by
 obtain ⟨_,h2⟩:=hh.at_ j _ hj
 exact j9 (hh.apart i j b hF ((h2 b).2 rfl))
end Go.Sx
namespace Go.Sx
open Go.RowKit
section
variable {C : Cx} {sl : List (Nat × Value)} {own : List bk} {ops : Array Oper} {Q : Exit → Act → World → Prop} {Qq : Act → Prop} {d : Nat} {op : Op} {ty : TypeId} {pos : String} {aft : Array Edge} {g : Option (Nat × Bool)} {rest : List Oper} {u : Value} {y : Operand}
theorem AK.v (hy:Yl C ⟨sl,own⟩ ⟨some d,op,ty,pos,aft,none⟩ u) (h:AK C ⟨(d,u) :: sl,own⟩ (wpList C.P ops Q rest)) (hd:Nat.blt d C.N=true:=by exact rfl):AK C ⟨sl,own⟩ (wpList C.P ops Q (⟨some d,op,ty,pos,aft,none⟩ :: rest)):=AK.val u hy trivial hd h
theorem QK.v (hy:Yl C ⟨sl,own⟩ ⟨some d,op,ty,pos,aft,none⟩ u) (h:QK C ⟨(d,u) :: sl,own⟩ (wpQuiet C.P ops (HW C own) Qq rest)) (hd:Nat.blt d C.N=true:=by exact rfl):QK C ⟨sl,own⟩ (wpQuiet C.P ops (HW C own) Qq (⟨some d,op,ty,pos,aft,none⟩ :: rest)):=QK.val u hy trivial hd h
theorem SK.v {w:World} (hw:HW C own w) (hy:Yl C ⟨sl,own⟩ ⟨some d,op,ty,pos,aft,none⟩ u) (h:SK C ⟨(d,u) :: sl,own⟩ (wpStill C.P ops w Qq rest)) (hd:Nat.blt d C.N=true:=by exact rfl):SK C ⟨sl,own⟩ (wpStill C.P ops w Qq (⟨some d,op,ty,pos,aft,none⟩ :: rest)):=SK.val hw u hy trivial hd h
theorem AK.mv (hx:bO ⟨sl,own⟩ y=some u) (h:AK C ⟨(d,u) :: sl,own⟩ (wpList C.P ops Q rest)) (hd:Nat.blt d C.N=true:=by exact rfl):AK C ⟨sl,own⟩ (wpList C.P ops Q (⟨some d,.move y,ty,pos,aft,none⟩ :: rest)):=AK.v (.move hx) h hd
theorem AK.as (hx:bO ⟨sl,own⟩ y=some u) (h:AK C ⟨(d,u) :: sl,own⟩ (wpList C.P ops Q rest)) (hd:Nat.blt d C.N=true:=by exact rfl):AK C ⟨sl,own⟩ (wpList C.P ops Q (⟨some d,.assign y,ty,pos,aft,none⟩ :: rest)):=AK.v (.assign hx) h hd
theorem QK.mv (hx:bO ⟨sl,own⟩ y=some u) (h:QK C ⟨(d,u) :: sl,own⟩ (wpQuiet C.P ops (HW C own) Qq rest)) (hd:Nat.blt d C.N=true:=by exact rfl):QK C ⟨sl,own⟩ (wpQuiet C.P ops (HW C own) Qq (⟨some d,.move y,ty,pos,aft,none⟩ :: rest)):=QK.v (.move hx) h hd
theorem QK.as (hx:bO ⟨sl,own⟩ y=some u) (h:QK C ⟨(d,u) :: sl,own⟩ (wpQuiet C.P ops (HW C own) Qq rest)) (hd:Nat.blt d C.N=true:=by exact rfl):QK C ⟨sl,own⟩ (wpQuiet C.P ops (HW C own) Qq (⟨some d,.assign y,ty,pos,aft,none⟩ :: rest)):=QK.v (.assign hx) h hd
theorem AK.nt {J:Act→World→Prop} {K:Act→World→Prop} (hK:∀ O0,AK C O0 J→AK C O0 K) (h:AK C ⟨sl,own⟩ J):AK C ⟨sl,own⟩ (wpList C.P ops (Exit.then K Q) []):=AK.nil (AK.ab (hK _ h))
theorem AK.sr {id:Nat} {l:List Oper} {z:Code} {st:St} (h:∀ K:Act→World→Prop,(∀ O0,AK C O0 (z.wp C.P Q)→AK C O0 K)→AK C st (wpList C.P l.toArray (Exit.then K Q) l)):AK C st ((Code.seq (Code.region id l.toArray false) z).wp C.P Q):=AK.seq fun K hK=>AK.region (h K hK)
def lb (n m:Nat):Array Bool:=((List.range n).map fun i=>m.testBit i).toArray
end
section
variable {C : Cx} {sl : List (Nat × Value)} {own : List bk} {ops : Array Oper} {Q : Exit → Act → World → Prop} {n : Nat}
theorem ay.F (i fuel k m:Nat) {listed:Array Bool} {o:Oper} {d:Nat} {v:Value} (hi:ops[i]? = some o) (hy:Yl C ⟨sl,own⟩ o v) (hg:nc ops sl o.guard) (h:AK C ⟨(d,v) :: sl,own⟩ (ay C ops Q own n fuel (lb k m))) (hB:wx ops listed n i=true:=by kernel_rfl) (hl:listed.setIfInBounds i true=lb k m:=by kernel_rfl) (I3:o.dst=some d:=by exact rfl) (hd:Nat.blt d C.N=true:=by exact rfl):AK C ⟨sl,own⟩ (ay C ops Q own n (fuel+1) listed):=ay.first i v hi hB hl I3 hy hg hd h
theorem ay.FS {oS:List bk} (hle:∀ w,HW C own w→HW C oS w) (i fuel k m:Nat) {listed:Array Bool} {o:Oper} {d:Nat} {v:Value} (hi:ops[i]? = some o) (hy:Yl C ⟨sl,oS⟩ o v) (hg:nc ops sl o.guard) (h:AK C ⟨(d,v) :: sl,own⟩ (ay C ops Q oS n fuel (lb k m))) (hB:wx ops listed n i=true:=by kernel_rfl) (hl:listed.setIfInBounds i true=lb k m:=by kernel_rfl) (I3:o.dst=some d:=by exact rfl) (hd:Nat.blt d C.N=true:=by exact rfl):AK C ⟨sl,own⟩ (ay C ops Q oS n (fuel+1) listed):=ay.eO hle i v hi hB hl I3 hy hg hd h
theorem ay.O {oS:List bk} (i fuel k m:Nat) {listed:Array Bool} {o:Oper} (hi:ops[i]? = some o) (h:AK C ⟨sl,own⟩ (wpList C.P ops (Qn fun _=>wB C ops Q oS n fuel (lb k m)) [o])) (hr:Region.ready .any ops listed=[i]:=by kernel_rfl) (hl:listed.setIfInBounds i true=lb k m:=by kernel_rfl):AK C ⟨sl,own⟩ (ay C ops Q oS n (fuel+1) listed):=ay.one i hr hi hl h
end
theorem cx {α:Type} {a b:α} (h:a=b:=by kernel_rfl):a=b:=h
theorem a8 {C:Cx} {own:List bk} {v:Value} {sz n:Nat} {cs:List Value} (h:cR C own v sz n cs:=by first | exact .arg ‹_› | ((repeat (first | exact .hd | apply cR.tl));done) | assumption):cR C own v sz n cs:=h
theorem ax {C:Cx} {own:List bk} {b:Nat} {cs:List Value} (h:iF C own b cs:=by first | ((repeat (first | exact .hd | apply iF.tl));done) | assumption | exact iF.arg (by assumption) (by assumption) | exact iF.arg (by assumption)):iF C own b cs:=h
theorem MF {C:Cx} {own:List bk} {v:Value} {DQ:List (Value × Value)} (h:oq C own v DQ:=by first | ((repeat (first | exact .hd | apply oq.tl));done) | assumption):oq C own v DQ:=h
theorem hle {l l':List bk} (h:tH l l':=by ((repeat (first | refine tH.cons FF.rfl ?_ | refine tH.cons FF.fst ?_ | exact tH.nil)) <;> fail)):tH l l':=h
theorem aU {sl l:List (Nat × Value)} (h:jb sl l:=by ((repeat (first | refine jb.cons rfl ?_ | exact jb.nil)) <;> fail)):jb sl l:=h
theorem aJ {us:List Value} (h:qN us:=by ((repeat (first | refine aw (by first | rfl | exact aB.one (by assumption) | exact aB.one cq) ?_ | exact bY)) <;> fail)):qN us:=h
theorem qn {iE L:List bk} {σ:List Nat} (h:je iE L σ:=by ((repeat (first | refine je.cons rfl FF.rfl ?_ | refine je.cons rfl FF.snd ?_ | refine je.cons rfl FF.fst ?_ | exact je.nil)) <;> fail)):je iE L σ:=h
section
variable {C : Cx} {sl : List (Nat × Value)} {own : List bk} {dst : Option Nat} {ty : TypeId} {pos : String} {aft : Array Edge} {g : Option (Nat × Bool)} {x i : Operand} {t e : TypeId} {sz : Nat} {v : Value} {n : Nat} {cs : List Value}
theorem Yl.iN {k:Nat} (ht:oC C.P t e sz) (hx:bO ⟨sl,own⟩ x=some v) (hi:bO ⟨sl,own⟩ i=some (.int .i64 (k:Int)))
 (hr:cR C own v sz n cs:=by first | exact .arg ‹_› | ((repeat (first | exact .hd | apply cR.tl));done) | assumption) (hz:0<sz:=by decide) (h0:k<n:=by omega):Yl C ⟨sl,own⟩ ⟨dst,.indexAddr t x i,ty,pos,aft,g⟩ (.pointer (some ((ko v).add (k * sz)))):=Yl.qi ht hx hi hr hz h0
theorem Yl.iK {q:IntKind} {k:Int} (ht:oC C.P t e sz) (hx:bO ⟨sl,own⟩ x=some v) (hi:bO ⟨sl,own⟩ i=some (.int q k))
 (hr:cR C own v sz n cs:=by first | exact .arg ‹_› | ((repeat (first | exact .hd | apply cR.tl));done) | assumption) (hz:0<sz:=by decide) (h0:0≤k∧k<n:=by omega):Yl C ⟨sl,own⟩ ⟨dst,.indexAddr t x i,ty,pos,aft,g⟩ (.pointer (some ((ko v).add (k.toNat * sz)))):=Yl.YO ht hx hi hr hz h0
end
theorem bs:(∀ (p:Prop) [Decidable p],(decide p=true)=p)∧(∀ (p:Prop) [Decidable p],(decide p=false) = ¬ p)∧(∀ b:Bool,((!b)=true)=(b=false))∧(∀ b:Bool,((!b)=false)=(b=true))∧(∀ b:Bool,(!!b)=b)∧(∀ {α:Type} (a b:α),(a ≠ b) = ¬ a=b)∧(∀ (p:Prop) [Decidable p],(¬ ¬ p)=p)∧(∀ a b:Int,(¬ a<b)=(b≤a))∧(∀ a b:Int,(¬ a≤b)=(b<a))∧(∀ {α:Type} [BEq α] [LawfulBEq α] (a b:α),((a == b)=true)=(a=b))∧(∀ {α:Type} [BEq α] [LawfulBEq α] (a b:α),((a != b)=true)=(a ≠ b))∧(∀ a b:Bool,((a && b)=true)=(a=true∧b=true))∧(∀ a b:Bool,((a || b)=true)=(a=true∨b=true))∧(∀ a b:Bool,((a || b)=false)=(a=false∧b=false))∧((!false)=true)∧((!true)=false)∧((true=false)=False)∧((false=true)=False)∧((¬ True)=False)∧((¬ False)=True):=by
 refine ⟨?_,?_,?_,?_,?_,?_,?_,?_,?_,?_,?_,?_,?_,?_,?_,?_,?_,?_,?_,?_⟩ <;> intros <;> simp
section
variable {C : Cx} {sl : List (Nat × Value)} {own : List bk} {dst : Option Nat} {ty : TypeId} {pos : String} {aft : Array Edge} {g : Option (Nat × Bool)}
def RD (m n:Int):Int:=IntKind.i64.wrap (BitVec.toNat (BitVec.ofInt 64 m &&& BitVec.ofInt 64 n):Int)
theorem Yl.KL {x y:Operand} {t t':TypeId} {m n:Int} (hx:bO ⟨sl,own⟩ x=some (.int .i64 m)) (hy:bO ⟨sl,own⟩ y=some (.int .i64 n)):Yl C ⟨sl,own⟩ ⟨dst,.binOp .and t x y t',ty,pos,aft,g⟩ (.int .i64 (RD m n)):=
 fun a w hs=>by
  simp only [execOp,aq hs hx,aq hs hy]
  simp only [go_sem,Op.intBits,IntKind.bits]
  rfl
end
end Go.Sx
namespace Go.Sx
open Go.RowKit
variable {C : Cx} {sl : List (Nat × Value)} {own : List bk} {ops : Array Oper} {Q : Exit → Act → World → Prop} {ty : TypeId} {pos : String} {aft : Array Edge} {g : Option (Nat × Bool)} {rest : List Oper}
def vq (v:Value) (E:TypeId) (n:Nat) (cs:List Value):bk where
 holds w F:=(∃ gb cap cur fz,v = .slice (some ⟨gb,0,none⟩) n cap∧n≤cap∧w.heap[gb]? = some (.cells cur E fz)∧n≤fz.1∧n≤cur.size∧n≤maxLen∧cs.length=n∧cur.toList.take n=cs)∧∀ b,F b↔v.ownBlock=some b
 loc:=by
  rintro w w' F ⟨⟨gb,cap,cur,fz,hv,I6,hh,r⟩,hF⟩ hb
  exact ⟨⟨gb,cap,cur,fz,hv,I6,by rw [hb gb ((hF gb).2 (by rw [hv];rfl))];exact hh,r⟩,hF⟩
 lt:=by
  rintro w F ⟨⟨gb,cap,cur,fz,hv,I6,hh,r⟩,hF⟩ b hb
  have:=(hF b).1 hb
  rw [hv] at this
  cases this
  exact (Array.getElem?_eq_some_iff.1 hh).1
theorem zc {w:World} {gb:Nat} {cur:Array Value} {E:TypeId} {fz:Nat × Nat} (hh:w.heap[gb]? = some (.cells cur E fz)) (j:Nat):w.cell? ⟨gb,j,none⟩ = cur[j]?:=by
 simp [World.cell?,hh]
theorem N1 {w:World} {F:Nat→Prop} {v:Value} {E:TypeId} {n:Nat} {cs:List Value} (h:(vq v E n cs).holds w F):Rd F w v 1 n cs:=by
 obtain ⟨⟨gb,cap,cur,fz,rfl,I6,hh,h1,h2,h3,h4,h5⟩,hF⟩:=h
 refine ⟨_,cap,rfl,h3,by rw [h4,Nat.mul_one],fun _ _=>rfl,fun a j u ha hj=>?_⟩
 cases ha
 refine ⟨(hF gb).2 rfl,?_⟩
 have yp:j<n:=by rw [← h4];exact (List.getElem?_eq_some_iff.1 hj).1
 rw [Addr.add_lit,zc hh]
 rw [← h5,List.getElem?_take,if_pos yp] at hj
 simpa using hj
theorem cR.Cc {v:Value} {E:TypeId} {n:Nat} {cs:List Value} (i:Nat) (hi:own[i]? = some (vq v E n cs)):cR C own v 1 n cs:=fun w hw=>by
 obtain ⟨_,Fs,hh,_⟩:=hw
 exact (N1 (hh.at_ i _ hi)).mono fun b _ _=>⟨trivial,rfl⟩
theorem AK.Nt {d:Nat} {s t E:TypeId} {x:Operand} {l:List UInt8} (hs:C.P.underlying s=some .string) (ht:C.P.underlying t=some (.slice E)) (he:C.P.underlying E=some (.int .u8)) (hx:bO ⟨sl,own⟩ x=some (sv l)) (hl:l.length≤9223372036854775807) (hg:nc ops sl g) (hd:Nat.blt d C.N=true)
  (h:∀ v,AK C ⟨(d,v) :: sl,own++[vq v E l.length (l.map rC)]⟩ (wpList C.P ops Q rest)) :
  AK C ⟨sl,own⟩ (wpList C.P ops Q (⟨some d,.convert s t x,ty,pos,aft,g⟩ :: rest)):=by
 intro a w ye
 refine wpList_step fun K hK=>?_
 rw [if_pos (bA ye hg)]
 have hr:=run_bytes_of_string (P:=C.P) w s t E ⟨l.toArray⟩ hs ht he
 have Hp:l.length≤grownCap w (⟨l.toArray⟩:ByteArray).size 0 E:=by have:=grownCap_ge w (⟨l.toArray⟩:ByteArray).size 0 E;simpa [ByteArray.size] using this
 generalize grownCap w (⟨l.toArray⟩:ByteArray).size 0 E=cap at hr Hp
 have ie:(execOp a.eval ⟨some d,.convert s t x,ty,pos,aft,g⟩).run C.P w = .ok (.value (.slice (some ⟨w.heap.size,0,none⟩) (⟨l.toArray⟩:ByteArray).size cap)) (w.drew.alloc (.cells (bytesRow ⟨l.toArray⟩ cap) E ((bytesRow ⟨l.toArray⟩ cap).size,(bytesRow ⟨l.toArray⟩ cap).size+1))):=by
  simp only [execOp,aq ye hx,sv,Sem.run_bind,hr,Result.andThen_ok,Sem.run_pure]
 simp only [Oper.wp,ie,Oper.upon]
 have qI:(⟨l.toArray⟩:ByteArray).size=l.length:=by simp [ByteArray.size]
 have Ts:l.length≤(bytesRow ⟨l.toArray⟩ cap).size:=by simp [bytesRow]
 have htk:(bytesRow ⟨l.toArray⟩ cap).toList.take l.length=l.map rC:=by
  simp only [bytesRow,Array.toList_append,Array.toList_map]
  rw [List.take_left' (by simp)]
  rfl
 rw [qI] at *
 refine hK _ _ (h (.slice (some ⟨w.heap.size,0,none⟩) l.length cap) _ _ ?_)
 have hZ:(vq (.slice (some ⟨w.heap.size,0,none⟩) l.length cap) E l.length (l.map rC)).holds (w.drew.alloc (.cells (bytesRow ⟨l.toArray⟩ cap) E ((bytesRow ⟨l.toArray⟩ cap).size,(bytesRow ⟨l.toArray⟩ cap).size+1))) (fun b=>(Value.slice (some ⟨w.heap.size,0,none⟩) l.length cap).ownBlock=some b):=
  ⟨⟨w.heap.size,cap,_,((bytesRow ⟨l.toArray⟩ cap).size,(bytesRow ⟨l.toArray⟩ cap).size+1),rfl,Hp,by show (w.heap.push _)[w.heap.size]? = _;simp,Ts,Ts,by simpa [maxLen] using hl,by simp,htk⟩,fun _=>Iff.rfl⟩
 have bI:bj (fun _=>False) w (w.drew.alloc (.cells (bytesRow ⟨l.toArray⟩ cap) E ((bytesRow ⟨l.toArray⟩ cap).size,(bytesRow ⟨l.toArray⟩ cap).size+1))):=
  ⟨rfl,rfl,rfl,by show w.heap.size≤(w.heap.push _).size;simp,fun k hk _=>by show (w.heap.push _)[k]? = _;simp [Array.getElem?_push,Nat.ne_of_lt hk],Nat.le_succ _⟩
 refine ye.put (ye.world.push bI (cj.one hZ) (fun j b hb=>?_)) (d:=some d) (fun i hi=>by cases hi;simpa [Nat.blt_eq] using hd) _
 obtain ⟨_,hb⟩:=hb
 simp [Value.ownBlock] at hb
 omega
theorem E2 {w:World} {v:Value} {E:TypeId} {n:Nat} {cs:List Value} {F:Nat→Prop} (h:(vq v E n cs).holds w F) {j:Nat} (hj:j<n) (u:Value) :
  (vq v E n (cs.set j u)).holds (w.setCell ((ko v).add j) u) F∧bj F w (w.setCell ((ko v).add j) u)∧(w.cell? ((ko v).add j)).isSome∧w.frozen? ((ko v).add j)=false:=by
 obtain ⟨⟨gb,cap,cur,fz,rfl,I6,hh,h1,h2,h3,h4,h5⟩,hF⟩:=h
 have ha:((ko (.slice (some ⟨gb,0,none⟩) n cap)).add j)=⟨gb,j,none⟩:=by simp [ko,Addr.add_lit]
 rw [ha]
 refine ⟨⟨⟨gb,cap,cur.setIfInBounds j u,fz,rfl,I6,?_,h1,by simpa using h2,h3,by simpa using h4,?_⟩,hF⟩,⟨rfl,rfl,rfl,by simp,fun k _ hk=>heap_setCell_other w ⟨gb,j,none⟩ k u (fun e=>hk ((hF k).2 (by simp [Value.ownBlock,e]))),Nat.le_refl _⟩,?_,?_⟩
 ·simp [World.setCell,Array.getElem?_modify,hh]
 ·rw [Array.toList_setIfInBounds,← h5,List.take_set]
 ·rw [zc hh,Array.getElem?_eq_getElem (by omega)];rfl
 ·simp only [World.frozen?,hh]
  have:¬ fz.1≤j:=by omega
  simp [this]
theorem AK.Kc (i:Nat) {t E:TypeId} {x y:Operand} {v u:Value} {n j:Nat} {cs cs':List Value} (hi:own[i]? = some (vq v E n cs)) (uG:(C.P.info? t).map (·.size)=some 1) (hx:bO ⟨sl,own⟩ x=some (.pointer (some ((ko v).add (j * 1))))) (hy:bO ⟨sl,own⟩ y=some u)
  (hu:u.cells = #[u]) (h1:u.oneCell'=true) (hj:j<n) (oB:cs.set j u=cs') (hg:nc ops sl g) (h:AK C ⟨sl,own.set i (vq v E n cs')⟩ (wpList C.P ops Q rest)) :
  AK C ⟨sl,own⟩ (wpList C.P ops Q (⟨none,.store t x y,ty,pos,aft,g⟩ :: rest)):=by
 subst oB
 intro a w hs
 refine wpList_step fun K hK=>?_
 rw [if_pos (bA hs hg)]
 obtain ⟨hf,Fs,hh,bc⟩:=hs.world
 have hA:=hh.at_ i _ hi
 obtain ⟨e1,e2,e3,e4⟩:=E2 hA (j:=j) hj u
 rw [Nat.mul_one] at hx
 have mg:(store ((ko v).add j) u).run C.P w = .ok () (w.setCell ((ko v).add j) u):=by
  obtain ⟨u0,I1⟩:=Option.isSome_iff_exists.1 e3
  rw [run_store _ _ _ _ _ h1,I1,e4];rfl
 have Rp:∀ a:Addr,a.add 0=a:=fun a=>by simp [Addr.add]
 have ie:(execOp a.eval ⟨none,.store t x y,ty,pos,aft,g⟩).run C.P w = .ok .skip (w.setCell ((ko v).add j) u):=by
  simp only [execOp,aq hs hx,aq hs hy,Instr.storeAt,Instr.sureAddr,storeVar,Sem.run_bind,Sem.run_pure,Result.andThen_ok,cI uG,hu]
  simp [storeCells,mg,Rp]
 simp only [Oper.wp,ie,Oper.upon]
 refine hK _ _ (h _ _ ?_)
 have bZ:i<own.length:=(List.getElem?_eq_some_iff.1 hi).1
 have qo:=HW.update (own2:=[]) (A':=vq v E n (cs.set j u)) hf hh bc bZ e2 (cj.one e1) (fun k b hb=>.inl hb.2)
 rw [List.append_nil] at qo
 exact hs.put qo (d:=none) (fun i hi=>by cases hi) undef
theorem yC {P:Program} {ops:Array Oper} {Q:Exit→Act→World→Prop} {S:World→Prop} {n:Nat} {i:Nat} {oi:Oper} {v:Value} (hi:ops[i]? = some oi) (wc:∀ (j:Nat) (o:Oper) cs b,ops[j]? = some o→o.op ≠ .select cs b)
  (hQ:∀ c a w,Q (.panic c) (a.put oi.dst v) w→Q (.panic c) a w) (hn:i ≠ n) :
  ∀ (fuel:Nat) (listed:Array Bool) (a:Act) (w:World),oX ops listed →
   (∀ j oj,ops[j]? = some oj→j ≠ i→listed.getD j true=false→(∀ e∈oj.after,Region.binds .any e=true→e.on ≠ i)→oi.apart ops oj=true) →
   i∈Region.ready .any ops listed→YieldsIf P ops (fun _=>True) oi v a→(listed.getD n false=false→S w) →
   lT P ops Q S n fuel (listed.setIfInBounds i true) (a.put oi.dst v) w→lT P ops Q S n (fuel+1) listed a w:=by
 have wb:∀ l:Array Bool,(l.setIfInBounds i true).getD n false=l.getD n false:=fun l=>getD_set_ne false hn
 intro fuel
 induction fuel with
 | zero=>
  intro listed a w hc _ hr hy hS H
  refine ⟨fun h=>(by rw [h] at hr;cases hr),fun j hj=>?_⟩
  by_cases uJ:j=i
  ·subst uJ;exact hy.wpOp hi trivial ⟨fun e=>hS (by rw [wb] at e;exact e),H⟩
  ·have:=ready_mono hj uJ
   rw [H.1] at this
   cases this
 | succ fuel ih=>
  intro listed a w hc Cr hr hy hS H
  refine ⟨fun h=>(by rw [h] at hr;cases hr),fun j hj=>?_⟩
  by_cases uJ:j=i
  ·subst uJ;exact hy.wpOp hi trivial ⟨fun e=>hS (by rw [wb] at e;exact e),H⟩
  ·have h1:=H.2 j (ready_mono hj uJ)
   obtain ⟨Ju,oj,QB,kA⟩:=mem_ready.1 hj
   have Rb:∀ e∈oj.after,Region.binds .any e=true→e.on ≠ i:=fun e he hb heq=>by
    have h1:=kA e he hb
    have h0:=(mem_ready.1 hr).1
    rw [heq] at h1
    rcases Nat.lt_or_ge i listed.size with h' | h'
    ·simp [h'] at h0 h1;rw [h0] at h1;cases h1
    ·simp [Array.getElem?_eq_none h'] at h1
   have h2:=wpOp_putIf QB (Cr j oj QB uJ Ju Rb) (fun cs b=>wc i oi cs b hi) (fun cs b=>wc j oj cs b QB) hQ hy h1
   have Ev:∀ k ok,ops[k]? = some ok→k ≠ i→(listed.setIfInBounds j true).getD k true=false →
     (∀ e∈ok.after,Region.binds .any e=true→e.on ≠ i)→oi.apart ops ok=true:=fun k ok hk ov TN yf=>by
    refine Cr k ok hk ov ?_ yf
    by_cases TV:j=k
    ·subst TV;exact Ju
    ·rw [getD_set_ne true TV] at TN;exact TN
   refine wpOp_mono (fun a' w' h3=>?_) h2
   have T2:(listed.setIfInBounds j true).getD n false=false→S w':=fun e=>h3.2.1 (by rw [← Array.setIfInBounds_comm _ _ uJ,wb];exact e)
   refine ⟨T2,ih (listed.setIfInBounds j true) a' w' (hc.set hj) Ev (ready_mono hr (Ne.symm uJ)) h3.1 T2 ?_⟩
   rw [Array.setIfInBounds_comm _ _ uJ]
   exact h3.2.2
def Kv (ops:Array Oper) (listed:Array Bool) (n i:Nat):Bool:=
 Region.noSelect ops && ((Region.ready .any ops listed).contains i && (Region.free .any ops listed i && (vX ops listed && decide (i ≠ n))))
theorem ay.Kw {n:Nat} (i:Nat) {fuel:Nat} {listed cm:Array Bool} {o:Oper} {d:Nat} (v:Value) (hi:ops[i]? = some o) (hB:Kv ops listed n i=true) (hl:listed.setIfInBounds i true=cm) (I3:o.dst=some d)
  (hy:PY C sl o v) (hg:nc ops sl o.guard) (hd:Nat.blt d C.N=true)
  (h:AK C ⟨(d,v) :: sl,own⟩ (ay C ops Q own n fuel cm)):AK C ⟨sl,own⟩ (ay C ops Q own n (fuel+1) listed):=by
 intro a w hs
 simp only [Kv,Bool.and_eq_true,decide_eq_true_eq] at hB
 obtain ⟨wc,hr,hf,hc,hn⟩:=hB
 refine yC hi (Region.noSelect_spec wc) (fun c a w hq=>absurd hq.1 (by simp)) hn fuel listed a w (nT hc) (Region.free_spec hi hf) (by simpa using hr) (.inl ⟨fM hs.D7 hg,fun w' _=>hy a w' hs.D7⟩) (fun _=>hs.world) ?_
 rw [hl,I3]
 exact h _ _ (hs.put (own':=own) hs.world (d:=some d) (fun i hi=>by cases hi;simpa [Nat.blt_eq] using hd) v)
end Go.Sx
