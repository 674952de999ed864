import Derived.Test.YtbibnpdnmmgacaaGreatDoorKZf
import Derived.Test.YtbibnpdnmmgacaaGreatDoorKZb
import Derived.Shelf.SlSortCmp.WholeK
import Derived.Test.YtbibnpdnmmgacaaGreatDoorKZd
import Derived.Test.YtbibnpdnmmgacaaGreatDoorKZe
set_option linter.unusedVariables false
set_option linter.unusedSimpArgs false
set_option maxRecDepth 100000
namespace Go.Sx
open Go.RowKit
theorem AK.Nu {C:Cx} {sl:List (Nat × Value)} {own:List bk} {ops:Array Oper} {Q:Exit→Act→World→Prop} {ty:TypeId} {pos:String} {aft:Array Edge} {g:Option (Nat × Bool)} {rest:List Oper} (jj ii:Nat) {l:List bk} {t E:TypeId} {x y:Operand} {v u:Value} {n j:Nat} {cs cs':List Value} (hj:own[jj]? = some (bh l)) (hi:l[ii]? = some (row v E 1 n cs)) (uG:(C.P.info? t).map (·.size)=some 1) (hx:bO ⟨sl,own⟩ x=some (.pointer (some ((ko v).add (j * 1))))) (hy:bO ⟨sl,own⟩ y=some u)
  (hu:u.cells = #[u]) (h1:u.oneCell'=true) (hjn:j<n) (oB:cs.set j u=cs') (hg:nc ops sl g) (h:AK C ⟨sl,own.set jj (bh (l.set ii (row v E 1 n cs')))⟩ (wpList C.P ops Q rest)) :
  AK C ⟨sl,own⟩ (wpList C.P ops Q (⟨none,.store t x y,ty,pos,aft,g⟩ :: rest)):=by
 have yP:jj<own.length:=(List.getElem?_eq_some_iff.1 hj).1
 have oA:ii<l.length:=(List.getElem?_eq_some_iff.1 hi).1
 have O8:∀ o,bO ⟨sl,own.set jj (bh (l.set ii om))++[row v E 1 n cs]⟩ o=bO ⟨sl,own⟩ o:=fun o=>by cases o <;> rfl
 have main:AK C ⟨sl,own.set jj (bh (l.set ii om))++[row v E 1 n cs]⟩ (wpList C.P ops Q (⟨none,.store t x y,ty,pos,aft,g⟩ :: rest)):=by
  refine AK.di own.length (E:=E) (v:=v) (u:=u) (n:=n) (cs:=cs) (cs':=cs') (by simp) uG (by rw [O8];exact hx) (by rw [O8];exact hy) hu h1 hjn oB hg ?_
  intro a w hs
  refine h a w ⟨hs.size,hs.defers,hs.slot,?_⟩
  have:=hs.world
  rw [List.set_append_right _ _ (by simp)] at this
  simp only [List.length_set,Nat.sub_self,List.set_cons_zero] at this
  exact this.GA jj ii yP oA
 intro a w hs
 exact main a w ⟨hs.size,hs.defers,hs.slot,hs.world.extract jj ii hj hi⟩
theorem LH {α:Type} {f:α→Value} {E:TypeId} {rs:List Value} {qa:List (List α)} (h:rs.length=qa.length) {i:Nat} (hi:i<qa.length) (ys:List α):(dQ f E rs qa).set i (row (rs.getD i undef) E 1 ys.length (ys.map f))=dQ f E rs (qa.set i ys):=by
 apply List.ext_getElem?
 intro k
 rw [List.getElem?_set]
 by_cases hk:i=k
 ·subst hk
  rw [if_pos rfl,if_pos (by rw [DC h];exact hi),jr (by simpa using h) (by simpa using hi)]
  simp [List.getD_eq_getElem?_getD,hi]
 ·rw [if_neg hk]
  simp [dQ,List.zip,List.getElem?_zipWith,List.getElem?_set_ne hk]
def tg (n:kc) (k:Nat):List (List cF):=(List.range n.L.toNat).map fun (x:Nat)=>(List.range n.S.toNat).map fun (q:Nat)=>vt n.es (x:Int) (q:Int) k
theorem dI (n:kc) (k:Nat):(tg n k).length=n.L.toNat:=by simp [tg]
theorem nF {n:kc} {k x:Nat} (hx:x<n.L.toNat):(tg n k).getD x []=(List.range n.S.toNat).map fun (q:Nat)=>vt n.es (x:Int) (q:Int) k:=by
 simp [tg,List.getD_eq_getElem?_getD,hx]
theorem o5 {n:kc} {k x:Nat} (hx:x<n.L.toNat):((tg n k).getD x []).length=n.S.toNat:=by rw [nF hx];simp
theorem Oi {n:kc} {k x q:Nat} (hx:x<n.L.toNat) (hq:q<n.S.toNat):((tg n k).getD x []).getD q 0=vt n.es (x:Int) (q:Int) k:=by
 rw [nF hx];simp [List.getD_eq_getElem?_getD,hq]
theorem GI {α β:Type} (l:List α) (f:α→β) (b:β) (h:∀ a∈l,f a=b):l.map f=List.replicate l.length b:=by
 induction l with
 | nil=>rfl
 | cons a l ih=>
  rw [List.map_cons,h a (by simp),ih (fun c hc=>h c (by simp [hc]))];rfl
theorem Lz (n:kc):tg n 0=List.replicate n.L.toNat (List.replicate n.S.toNat 0):=by
 unfold tg
 rw [GI _ _ (List.replicate n.S.toNat 0),List.length_range]
 intro x hx
 rw [GI _ _ (0:cF),List.length_range]
 intro q hq;rfl
theorem Oj {n:kc} {x:Nat} (hx:x<n.L.toNat):(tg n n.es.length).getD x []=jZ n (x:Int):=by rw [nF hx];rfl
theorem zd {es:List iV} {x q:Int} {k:Nat}:vt es x q (k+1)=if (es.getD k (0,0,0)).2.1=x∧(es.getD k (0,0,0)).1=q then vt es x q k ||| bit (es.getD k (0,0,0)).2.2 else vt es x q k:=rfl
theorem LA {n:kc} {k a p:Nat} (ha:(n.es.getD k (0,0,0)).2.1=(a:Int)) (hp:(n.es.getD k (0,0,0)).1=(p:Int)) :
  tg n (k+1)=(tg n k).set a (((tg n k).getD a []).set p (((tg n k).getD a []).getD p 0 ||| bit (n.es.getD k (0,0,0)).2.2)):=by
 apply List.ext_getElem?
 intro x
 rw [List.getElem?_set]
 by_cases hx:x<n.L.toNat
 ·by_cases Xt:a=x
  ·subst Xt
   rw [if_pos rfl,if_pos (by rw [dI];exact hx)]
   have e1:(tg n (k+1))[a]? = some ((tg n (k+1)).getD a []):=by
    rw [List.getD_eq_getElem?_getD,List.getElem?_eq_getElem (by rw [dI];exact hx)];rfl
   rw [e1]
   congr 1
   apply List.ext_getElem?
   intro q
   rw [List.getElem?_set]
   by_cases hq:q<n.S.toNat
   ·have e2:((tg n (k+1)).getD a [])[q]? = some (vt n.es (a:Int) (q:Int) (k+1)):=by rw [nF hx];simp [hq]
    rw [e2,zd]
    by_cases Tm:p=q
    ·subst Tm
     rw [if_pos ⟨ha,hp⟩,if_pos rfl,if_pos (by rw [o5 hx];exact hq),Oi hx hq]
    ·rw [if_neg Tm,if_neg (fun h=>Tm (by have:=h.2;rw [hp] at this;omega)),nF hx]
     simp [hq]
   ·rw [List.getElem?_eq_none (by rw [o5 hx];omega)]
    split
    ·rw [if_neg (by rw [o5 hx];omega)]
    ·rw [List.getElem?_eq_none (by rw [o5 hx];omega)]
  ·rw [if_neg Xt]
   have e1:∀ j,(tg n j)[x]? = some ((tg n j).getD x []):=fun j=>by
    rw [List.getD_eq_getElem?_getD,List.getElem?_eq_getElem (by rw [dI];exact hx)];rfl
   rw [e1,e1,nF hx,nF hx]
   congr 1
   apply List.map_congr_left
   intro q _
   rw [zd,if_neg (fun h=>Xt (by have:=h.1;rw [ha] at this;omega))]
 ·rw [List.getElem?_eq_none (by rw [dI];omega)]
  split
  ·rw [if_neg (by rw [dI];omega)]
  ·rw [List.getElem?_eq_none (by rw [dI];omega)]
theorem VA {l:List Value} {z r:Value} {n i:Nat} (hl:l.length=i) (h:i<n):(l++List.replicate (n - i) z).set i r=(l++[r])++List.replicate (n - (i+1)) z:=by
 subst hl
 have:=fJ (id:Value→Value) l z r n l.length rfl h
 simpa using this
theorem NZ {n:kc} (hv:VN n) (x:Int):(jZ n x).length≤64∧∀ j,j<(jZ n x).length→(jZ n x).getD j 0 &&& ~~~(below ((jZ n x).length:Int))=0:=by
 have hS:=hv.S
 have hlen:((jZ n x).length:Int)=n.S:=by simp [jZ];omega
 refine ⟨by omega,fun j hj=>?_⟩
 rw [hlen]
 have yp:j<n.S.toNat:=by omega
 have e:(jZ n x).getD j 0=Cp n x (j:Int):=by simp [jZ,List.getD_eq_getElem?_getD,yp]
 rw [e]
 apply BitVec.eq_of_getLsbD_eq
 intro i hi
 rw [BitVec.getLsbD_and,BitVec.getLsbD_not]
 cases hb:(Cp n x (j:Int)).getLsbD i with
 | false=>simp
 | true=>
  obtain ⟨m,k1,k2,k3,k4⟩:=(sG _ (fun j hj=>by have:=hv.Cl hj;omega)).1 hb
  have:=hv.Cl k1
  have h9:(i:Int)<n.S:=by omega
  rw [mQ hS i hi,decide_eq_true h9];simp [hi]
end Go.Sx
namespace Go.Sx
open Go.RowKit
def fS (n:kc) (q:cF) (x:Nat):cF:=Jf n q (x:Int)
def gS (n:kc) (q:cF):Bool:=decide (q &&& n.fi ≠ 0)
def Yy (n:kc) (U:List cF):List cF:=aH (fS n) n.L.toNat n.st 0 U.length
def Je (n:kc) (U:List cF):bB:=oh n.L n.L.toNat (Yy n U) (fS n) (gS n)
end Go.Sx
namespace Go.Sx
open Go.RowKit
end Go.Sx
namespace Go.Sx
open Go.RowKit
section
variable {α : Type} [DecidableEq α] {f : α → Nat → α} {L : Nat} {s z : α}
theorem G2 {P:α→Prop} {q:α} {l:List α} (h:∀ y∈l,P y) (hf:∀ x,x<L→P (f q x)):∀ k,k≤L→∀ y∈gk f q l k,P y
 | 0,_,y,hy=>h y hy
 | k+1,hk,y,hy=>by
  rcases rn hy with h' | rfl
  ·exact G2 h hf k (by omega) y h'
  ·exact hf k (by omega)
theorem De {P:α→Prop} (hs:P s) (hf:∀ q,P q→∀ x,x<L→P (f q x)):∀ i,∀ y∈aH f L s z i,P y
 | 0,y,hy=>by simp [aH] at hy;subst hy;exact hs
 | i+1,y,hy=>by
  have ih:=De hs hf i
  simp only [aH] at hy
  split at hy
  ·rename_i hi
   exact G2 ih (hf _ (ih _ (aX hi))) L (Nat.le_refl _) y hy
  ·exact ih y hy
theorem Ky (f:α→Nat→α) (q:α) (l:List α):∀ k,(gk f q l k).length≤l.length+k
 | 0=>Nat.le_refl _
 | k+1=>by
  have h:=Ky f q l k
  show (dY (gk f q l k) (f q k)).length≤_
  unfold dY
  split
  ·omega
  ·rw [List.length_append,List.length_singleton];omega
theorem OK {n:Nat} (hn:n=(aH f L s z n).length) {q:α} (hq:q∈aH f L s z n) {x:Nat} (hx:x<L):f q x∈aH f L s z n:=by
 obtain ⟨i,hi,e⟩:=fI z hq
 have h3:=jU hn
 have me:i<n:=by omega
 have h1:=h3 i me
 obtain ⟨ys,h4⟩:=fp f L s z i (n - i)
 rw [show i+(n - i)=n by omega] at h4
 have TT:(aH f L s z i).getD i z=q:=by rw [← gO z h1 (ys:=ys),← h4];exact e
 obtain ⟨zs,h5⟩:=fp f L s z (i+1) (n - (i+1))
 rw [show i+1+(n - (i+1))=n by omega,fm h1,TT] at h5
 rw [h5]
 apply List.mem_append_left
 have:∀ k,x<k→f q x∈gk f q (aH f L s z i) k:=by
  intro k
  induction k with
  | zero=>intro h;omega
  | succ k ih=>
   intro h
   by_cases Th:x=k
   ·subst Th;exact mE _ _
   ·exact sO (ih (by omega))
 exact this _ hx
structure Ni (Lv:Int) (L:Nat) (f:α→Nat→α) (s:α) (g:α→Bool) (d:bB):Prop where
 vd:VD d
 L:d.L=Lv
 run:∀ l:List UInt8,l.all (okB Lv)=true→c9 d (cV d d.s l)=g (gi f s l)
theorem SS {g:α→Bool} {n:Nat} (hn:n=(aH f L s z n).length) (XG:n≤512) (hL:1≤L∧L≤6):Ni (L:Int) L f s g ⟨(L:Int),0,tk f L s z g n,vZ f L s z n⟩:=by
 have hs:s∈aH f L s z n:=(mL n).2
 have hf:∀ q∈aH f L s z n,∀ x,x<L→f q x∈aH f L s z n:=fun q hq x hx=>OK hn hq hx
 obtain ⟨h1,h2⟩:=SM (g:=g) (L:Int) hs hf hn
 rw [h2]
 have hlen:(aH f L s z n).length≤512:=by omega
 refine ⟨GP hL hs hf hlen,rfl,fun l hl=>?_⟩
 have mg:(aH f L s z (aH f L s z n).length).getD 0 z=s∧s∈aH f L s z (aH f L s z n).length:=mL _
 have hr:=Bn (z:=z) (g:=g) (L:Int) hs hf l s mg.2 hl
 have h0:bV (aH f L s z (aH f L s z n).length) s=0:=by
  have O9:=(k6 (z:=z) hs hf (aH f L s z n).length).1
  have:=vI z O9 (i:=0) (tP _ _ _ _ _)
  rw [mg.1] at this
  exact this
 rw [h0] at hr
 show c9 _ (cV _ 0 l)=_
 rw [show (0:Int)=((0:Nat):Int) from rfl,hr.1]
 unfold c9
 rw [Int.toNat_natCast]
 have h3:=fg hr.2
 have h4:=fL z hr.2
 rw [List.getD_eq_getElem?_getD,List.getElem?_eq_getElem h3,Option.getD_some] at h4
 show ((aH f L s z (aH f L s z n).length).map g).getD _ false=_
 rw [List.getD_eq_getElem?_getD,List.getElem?_map,List.getElem?_eq_getElem h3,h4]
 rfl
end
inductive QP (es:List iV):Int→List UInt8→Int→Prop
 | nil (p:Int):QP es p [] p
 | cons {p q r:Int} {c:UInt8} {l:List UInt8} (h:(p,(c.toNat:Int) - 97,q)∈es) (t:QP es q l r):QP es p (c :: l) r
theorem uj {n:kc} (hv:VN n):∀ (l:List UInt8),l.all (okB n.L)=true→∀ (S:cF) (q:Nat),q<64→((gi (fS n) S l).getLsbD q=true↔∃ p:Nat,p<64∧S.getLsbD p=true∧QP n.es (p:Int) l (q:Int))
 | [],_,S,q,hq=>by
  constructor
  ·intro h;exact ⟨q,hq,h,.nil _⟩
  ·rintro ⟨p,hp,h,hP⟩
   cases hP
   exact h
 | c :: l,hl,S,q,hq=>by
  rw [List.all_cons,Bool.and_eq_true] at hl
  have hc:=hl.1
  unfold okB at hc
  rw [decide_eq_true_eq] at hc
  have ih:=uj hv l hl.2 (fS n S ((c.toNat:Int) - 97).toNat) q hq
  show (gi (fS n) (fS n S ((c.toNat:Int) - 97).toNat) l).getLsbD q=true↔_
  rw [ih]
  have hx:((((c.toNat:Int) - 97).toNat:Nat):Int)=(c.toNat:Int) - 97:=by omega
  have hS:=hv.S
  have mg:∀ i:Nat,(fS n S ((c.toNat:Int) - 97).toNat).getLsbD i=true↔∃ j,j<n.es.length∧(n.es.getD j (0,0,0)).2.1=(c.toNat:Int) - 97∧has S (n.es.getD j (0,0,0)).1=true∧(i:Int)=(n.es.getD j (0,0,0)).2.2:=fun i=>by
   unfold fS Jf
   rw [hx]
   exact wT _ (fun j hj=>by have:=hv.Cl hj;omega)
  constructor
  ·rintro ⟨p,hp,h1,h2⟩
   obtain ⟨j,hj,e1,e2,e3⟩:=(mg p).1 h1
   have he:=hv.Cl hj
   refine ⟨(n.es.getD j (0,0,0)).1.toNat,by omega,e2,?_⟩
   refine .cons (q:=(p:Int)) ?_ h2
   rw [← e1,e3,show (((n.es.getD j (0,0,0)).1.toNat:Nat):Int)=(n.es.getD j (0,0,0)).1 by omega]
   exact aX hj
  ·rintro ⟨p,hp,h1,h2⟩
   cases h2 with
   | cons h t=>
    rename_i q'
    obtain ⟨j,hj,e⟩:=fI (0,0,0) h
    have he:=hv.Cl hj
    rw [e] at he
    have hq0:0≤q':=he.2.2.2.2.1
    have QA:q'<n.S:=he.2.2.2.2.2
    have IQ:((q'.toNat:Nat):Int)=q':=by omega
    refine ⟨q'.toNat,by omega,(mg _).2 ⟨j,hj,by rw [e],?_,by rw [e,IQ]⟩,by rw [IQ];exact t⟩
    rw [e];unfold has;rw [Int.toNat_natCast];exact h1
theorem SN {n:kc} {S:cF}:gS n S=true↔∃ q:Nat,q<64∧S.getLsbD q=true∧n.fi.getLsbD q=true:=by
 unfold gS
 rw [decide_eq_true_eq]
 constructor
 ·intro h
  apply Classical.byContradiction
  intro yf
  apply h
  apply BitVec.eq_of_getLsbD_eq
  intro i hi
  rw [BitVec.getLsbD_and]
  cases h1:S.getLsbD i with
  | false=>simp
  | true=>
   cases h2:n.fi.getLsbD i with
   | false=>simp
   | true=>exact absurd ⟨i,hi,h1,h2⟩ yf
 ·rintro ⟨q,hq,h1,h2⟩ h
  have h3:(S &&& n.fi).getLsbD q=false:=by rw [h];simp
  rw [BitVec.getLsbD_and,h1,h2] at h3
  cases h3
def yB (n:kc) (l:List UInt8):Prop:=∃ p q:Nat,p<64∧q<64∧n.st.getLsbD p=true∧n.fi.getLsbD q=true∧QP n.es (p:Int) l (q:Int)
theorem Mj {n:kc} (hv:VN n) {l:List UInt8} (hl:l.all (okB n.L)=true):gS n (gi (fS n) n.st l)=true↔yB n l:=by
 rw [SN]
 constructor
 ·rintro ⟨q,hq,h1,h2⟩
  obtain ⟨p,hp,h3,h4⟩:=(uj hv l hl n.st q hq).1 h1
  exact ⟨p,q,hp,hq,h3,h2,h4⟩
 ·rintro ⟨p,q,hp,hq,h1,h2,h3⟩
  exact ⟨q,hq,(uj hv l hl n.st q hq).2 ⟨p,hp,h1,h3⟩,h2⟩
def HI (n:kc) (f x t:Int):kc:={ n with es:=n.es++[(f,x,t)] }
theorem BF (a:iV):qf a a=false:=by simp [qf]
theorem xE {a b:iV}:qf a b=true↔a.1<b.1∨(a.1=b.1∧(a.2.1<b.2.1∨(a.2.1=b.2.1∧a.2.2<b.2.2))):=by
 unfold qf
 split
 ·rw [decide_eq_true_eq];omega
 ·split <;> rw [decide_eq_true_eq] <;> omega
theorem p8 {a b c:iV} (h:qf a b=true) (k:qf b c=true):qf a c=true:=by
 rw [xE] at *;omega
theorem OS (a b:iV):qf a b=true∨a=b∨qf b a=true:=by
 obtain ⟨a1,a2,a3⟩:=a
 obtain ⟨b1,b2,b3⟩:=b
 rw [xE,xE]
 simp only [Prod.mk.injEq]
 omega
end Go.Sx
namespace Go.Sx
open Go.RowKit Go.Proofs Go.Lib Go.Sort
theorem bj.grown {w w':World} (h:bj (fun _=>False) w w'):∃ q os,w'=grow (w.drewN q) os:=by
 refine ⟨w'.drawn - w.drawn,w'.heap.extract w.heap.size w'.heap.size,?_⟩
 obtain ⟨h1,h2,h3,h4,h5,h6⟩:=h
 cases w with | mk hp tp dr os ou=>
 cases w' with | mk O7 tp' dr' os' ou'=>
 simp only at h1 h2 h3 h4 h5 h6
 subst h1 h2 h3
 simp only [grow,World.drewN,World.mk.injEq,true_and,and_true]
 refine ⟨?_,by omega⟩
 apply Array.ext_getElem?
 intro k
 rw [Array.getElem?_append]
 by_cases hk:k<hp.size
 ·rw [if_pos hk];exact h5 k hk id
 ·rw [if_neg hk,Array.getElem?_extract]
  by_cases h7:k<O7.size
  ·rw [if_pos (by omega)];congr 1;omega
  ·rw [if_neg (by omega),Array.getElem?_eq_none (by omega)]
theorem mT {α:Type} [Inhabited α] (enc:α→List Value) (k:Nat) (w:World) (qK off m:Nat) (dk:Array α) (os:Array Obj) {F:Nat→Prop} (hF:F qK):bj F w (sortWorldK enc k w qK off m dk os):=by
 refine ⟨rfl,rfl,rfl,?_,fun b hb hn=>?_,?_⟩
 ·simp [sortWorldK,grow,putRowK,putRow,mapBlock,Sort.ahead]
 ·have j9:qK ≠ b:=fun e=>hn (e ▸ hF)
  unfold sortWorldK
  rw [heap_grow_old _ _ (by simp [putRowK,putRow,mapBlock,Sort.ahead];exact hb)]
  simp [putRowK,putRow,mapBlock,Sort.ahead,Array.getElem?_modify,j9]
 ·simp [sortWorldK,grow,putRowK,putRow,mapBlock,Sort.ahead]
theorem xR {α:Type} [Inhabited α] (enc:α→List Value) (k:Nat) (hk:∀ x,(enc x).length=k) (d:List α):(flatK enc k d.toArray).toList=d.flatMap enc:=by
 by_cases k0:k=0
 ·subst k0
  have:∀ x∈d,enc x=[]:=fun x _=>List.eq_nil_of_length_eq_zero (hk x)
  simp [flatK,List.flatMap_eq_nil_iff.2 this]
 ·have kp:0<k:=by omega
  induction d with
  | nil=>simp [flatK]
  | cons a d ih=>
   apply List.ext_getElem?
   intro t
   have qO:∀ (l:List α) (t:Nat),(flatK enc k l.toArray).toList[t]? = if t<l.length * k then some ((enc (l.toArray[t / k]!))[t % k]!) else none:=by
    intro l t
    simp only [flatK,Array.toList_map,Array.toList_range,List.getElem?_map,List.size_toArray]
    by_cases h:t<l.length * k
    ·rw [if_pos h,List.getElem?_range h];rfl
    ·rw [if_neg h,List.getElem?_eq_none (by simpa using h)];rfl
   rw [qO,List.flatMap_cons]
   by_cases h1:t<k
   ·rw [if_pos (by simp [Nat.add_mul];omega),List.getElem?_append_left (by rw [hk];exact h1),Nat.div_eq_of_lt h1,Nat.mod_eq_of_lt h1]
    have:t<(enc a).length:=by rw [hk];exact h1
    simp [this]
   ·rw [List.getElem?_append_right (by rw [hk];omega),← ih,qO,hk]
    have e:(t - k) / k+1=t / k:=by rw [← Nat.add_div_right _ kp];congr 1;omega
    have e2:(t - k) % k=t % k:=by rw [← Nat.add_mod_right (t - k) k];congr 1;omega
    by_cases h2:t - k<d.length * k
    ·rw [if_pos h2,if_pos (by simp [Nat.add_mul];omega),e2,← e]
     simp
    ·rw [if_neg h2,if_neg (by simp [Nat.add_mul];omega)]
theorem Fm {P:Program} {g:Nat} {cb:List Value} {α:Type} [Inhabited α] {enc:α→List Value} {k:Nat} {cf:α→α→Int} {qK off size:Nat} {w:World} {F:Nat→Prop} (hF:F qK)
  (h:∀ w',bj F w w'→∀ x y:α,aK P g ([.agg (enc x).toArray,.agg (enc y).toArray]++cb) w' (fun r o=>r = .int .i64 (cf x y))):CmpLays P g cb.toArray enc k cf qK off size w:=by
 intro m os dk _ x y
 have:=h _ (mT enc k w qK off m dk os hF) x y
 unfold aK at this
 have e:(([.agg (enc x).toArray,.agg (enc y).toArray]++cb:List Value)).toArray = #[.agg (enc x).toArray,.agg (enc y).toArray]++cb.toArray:=by simp
 rw [e] at this
 refine this.mono ?_
 rintro e w' ⟨v,own',yo,rfl,hx,_⟩
 exact ⟨by rw [yo],hx.grown⟩
def CB (P:Program) (f g:Nat) (cb:List Value) (k:Nat):Prop:=
 ∀ {α:Type} [Inhabited α] (enc:α→List Value),(∀ x,(enc x).length=k)→(∀ x,∀ v∈enc x,v.oneCell'=true)→∀ (cf:α→α→Int),SWO (ltOf cf)→∀ (qK off cap:Nat) (d:Array α) (w:World),
  CmpLays P g cb.toArray enc k cf qK off d.size w→HoldsK enc k w qK off d→qK<w.heap.size→d.size<4611686018427387904 →
  Calls P f #[.slice (some ⟨qK,off,none⟩) d.size cap,.func (.func g) #[] cb.toArray] w fun e w'=>
   e = .returned (.tuple #[])∧∃ d' n os,PermIn 0 d.size d d'∧SortedIn (ltOf cf) 0 d.size d'∧w'=sortWorldK enc k w qK off n d' os
theorem y5 {P:Program} {f g k:Nat} {cb:List Value} (Js:CB P f g cb k) {α:Type} [Inhabited α] (enc:α→List Value) (hk:∀ x,(enc x).length=k) (h1:∀ x,∀ v∈enc x,v.oneCell'=true) (cf:α→α→Int) (hO:SWO (ltOf cf))
  (w:World) (F:Nat→Prop) (v:Value) (E:TypeId) (d:List α) (hA:(row v E k d.length (d.flatMap enc)).holds w F) (hd:1≤d.length∧d.length<4611686018427387904)
  (hc:∀ w',bj F w w'→∀ x y:α,aK P g ([.agg (enc x).toArray,.agg (enc y).toArray]++cb) w' (fun r o=>r = .int .i64 (cf x y))) :
  ck P f [v,.func (.func g) #[] cb.toArray] w F (fun r A o=>∃ d':List α,r = .tuple #[]∧A=row v E k d.length (d'.flatMap enc)∧o=[]∧d'.Perm d∧d'.Pairwise (fun a b=>¬ cf b a<0)):=by
 obtain ⟨c4,hF⟩:=hA
 obtain ⟨hlen,tz⟩:=c4
 rcases tz with ⟨rfl,h0⟩ | ⟨gb,cap,cur,rfl,QG,hb,mc,vo,Ch,jF⟩
 ·omega
 ·have hFb:F gb:=(hF gb).2 rfl
  have WO:gb<w.heap.size:=by
   rcases Nat.lt_or_ge gb w.heap.size with h | h
   ·exact h
   ·rw [Array.getElem?_eq_none h] at hb;cases hb
  have MR:(flatK enc k d.toArray).toList=d.flatMap enc:=xR enc k hk d
  have aaR:d.length * k≤cur.size:=by rw [Ch];exact Nat.mul_le_mul_right k mc
  have hH:HoldsK enc k w gb 0 d.toArray:=by
   intro j hj
   have yp:j<d.length * k:=by simpa using hj
   have e1:(flatK enc k d.toArray)[j]? = cur[j]?:=by
    rw [← Array.getElem?_toList,MR,← jF,List.getElem?_take,if_pos yp,Array.getElem?_toList]
   have hjc:j<cur.size:=by omega
   have e2:(flatK enc k d.toArray)[j]! = cur[j]:=by
    rw [getElem!_pos _ j hj]
    rw [Array.getElem?_eq_getElem hj,Array.getElem?_eq_getElem hjc] at e1
    simpa using e1
   refine ⟨?_,?_⟩
   ·simp only [World.cell?,hb,Nat.zero_add,id]
    rw [e2];simp [hjc]
   ·simp [World.frozen?,hb]
  have FA:=Js enc hk h1 cf hO gb 0 cap d.toArray w (Fm hFb hc) hH WO (by simpa using hd.2)
  unfold ck
  simp only [List.size_toArray] at FA
  refine FA.mono ?_
  rintro e w' ⟨rfl,d',n,os,hp,hs,rfl⟩
  obtain ⟨TU,_,JT⟩:=hp
  simp only [List.size_toArray] at TU JT hs
  have abc:d'.toList.length=d.length:=by simpa using TU
  refine ⟨.tuple #[],row (.slice (some ⟨gb,0,none⟩) d.length cap) E k d.length (d'.toList.flatMap enc),[],⟨d'.toList,rfl,rfl,rfl,?_,?_⟩,rfl,mT enc k w gb 0 n d' os hFb,?_⟩
  ·have e3:(d'.extract 0 d.length).toList=d'.toList:=by
    have:d'.extract 0 d.length=d':=by rw [← TU];simp
    rw [this]
   have e4:((d.toArray).extract 0 d.length).toList=d:=by simp
   rw [e3,e4] at JT;exact JT
  ·rw [List.pairwise_iff_getElem]
   intro i j hi hj yq
   have:=hs i j (Nat.zero_le _) yq (by omega)
   rw [getElem!_pos d' i (by simpa using hi),getElem!_pos d' j (by simpa using hj)] at this
   unfold ltOf at this
   rw [decide_eq_false_iff_not] at this
   simpa using this
  ·have Y8:(flatK enc k d').toList=d'.toList.flatMap enc:=by
    have:=xR enc k hk d'.toList
    simpa using this
   have hblk:(sortWorldK enc k w gb 0 n d' os).heap[gb]? = some (.cells (putCells id 0 (flatK enc k d') cur) E (0,0)):=by
    unfold sortWorldK
    rw [heap_grow_old _ _ (by simp [putRowK,putRow,mapBlock,Sort.ahead];exact WO)]
    simp [putRowK,putRow,mapBlock,Sort.ahead,Array.getElem?_modify,hb,onCells]
   have O6:(putCells id 0 (flatK enc k d') cur).toList.take (d.length * k)=d'.toList.flatMap enc:=by
    rw [← Y8]
    apply List.ext_getElem?
    intro t
    rw [List.getElem?_take,Array.getElem?_toList,Array.getElem?_toList]
    by_cases ht:t<d.length * k
    ·have htc:t<cur.size:=by omega
     have XA:t<(flatK enc k d').size:=by simp [TU];exact ht
     rw [if_pos ht]
     simp only [putCells,Array.getElem?_mapIdx,Array.getElem?_eq_getElem htc,Option.map_some,Nat.zero_le,Nat.zero_add,XA,and_self,if_true,Nat.sub_zero,id]
     rw [getElem!_pos _ t XA,Array.getElem?_eq_getElem XA]
    ·rw [if_neg ht,Array.getElem?_eq_none (by simp [TU];omega)]
   have Vt:(sortWorldK enc k w gb 0 n d' os).ownsRow 0 E k (.slice (some ⟨gb,0,none⟩) d.length cap) d.length (d'.toList.flatMap enc):=by
    refine ⟨?_,.inr ⟨gb,cap,_,rfl,Nat.zero_le _,hblk,mc,vo,by simp [putCells,Ch],O6⟩⟩
    rw [← O6,List.length_take];simp [putCells];omega
   refine ⟨_,cj.one ⟨Vt,hF⟩,fun i b WS=>.inl WS.2⟩
theorem AK.D9 {C:Cx} {sl:List (Nat × Value)} {own:List bk} {x z:Code} {Q:Exit→Act→World→Prop} {X:Type} (kv:List (Nat × Value)) (ch:X→List (Nat × Value)) (ow:X→List bk) (yy:X→Prop) (hk:jb sl kv)
  (main:∀ K:Act→World→Prop,(∀ Fu own' a,yy a→jb Fu (ch a++kv)→(∀ w,HW C own' w→HW C (ow a) w)→AK C ⟨Fu,own'⟩ K)→AK C ⟨sl,own⟩ (x.wp C.P (Exit.then K Q)))
  (h:∀ a,yy a→AK C ⟨ch a++kv,ow a⟩ (z.wp C.P Q)):AK C ⟨sl,own⟩ ((Code.seq x z).wp C.P Q):=
 AK.seq fun K hK=>main K fun Fu own' a hg h1 h2=>hK _ (AK.F7 h1 h2 (h a hg))
theorem Yl.UT {C:Cx} {sl:List (Nat × Value)} {own:List bk} {dst:Option Nat} {ty:TypeId} {pos:String} {aft:Array Edge} {g:Option (Nat × Bool)} {x y:Operand} {t t':TypeId} {m n:Int} (hx:bO ⟨sl,own⟩ x=some (.int .i64 m)) (hy:bO ⟨sl,own⟩ y=some (.int .i64 n)) :
  Yl C ⟨sl,own⟩ ⟨dst,.binOp .add t x y t',ty,pos,aft,g⟩ (.int .i64 (IntKind.i64.wrap (m+n))):=
 fun a w hs=>by (simp only [execOp,aq hs hx,aq hs hy];simp [go_sem,Op.intArith])
end Go.Sx
namespace Go.Sx
open Go.RowKit
def gY (op:Int):List Ex→List Value→List (List Value)→List Value
 | k :: ks,s :: ss,t :: ts=>(if k.op=op then t else [s])++gY op ks ss ts
 | _,_,_=>[]
theorem iL (op:Int) (k:Ex) (ks:List Ex):bG op (k :: ks)=(if k.op=op then k.kids else [k])++bG op ks:=by simp [bG]
theorem ry (op:Int) (k:Ex) (ks:List Ex):bG op (ks++[k])=bG op ks++(if k.op=op then k.kids else [k]):=by simp [bG]
theorem yK (op:Int) (ks:List Ex) (k:Nat):(bG op (ks.take k)).length≤(bG op ks).length:=by
 have:bG op ks=bG op (ks.take k)++bG op (ks.drop k):=by rw [bG,bG,bG,← List.flatMap_append,List.take_append_drop]
 rw [this];simp
theorem rq (op:Int) (k:Ex) (s:Value) (t:List Value):∀ (ks:List Ex) (ss:List Value) (ts:List (List Value)),ss.length=ks.length→ts.length=ks.length →
  gY op (ks++[k]) (ss++[s]) (ts++[t])=gY op ks ss ts++(if k.op=op then t else [s])
 | [],[],[],_,_=>by simp [gY]
 | [],_ :: _,_,h,_=>by simp at h
 | [],[],_ :: _,_,h=>by simp at h
 | _ :: _,[],_,h,_=>by simp at h
 | _ :: _,_ :: _,[],_,h=>by simp at h
 | a :: ks,b :: ss,c :: ts,h,h'=>by
  simp only [List.cons_append,gY,rq op k s t ks ss ts (by simpa using h) (by simpa using h'),List.append_assoc]
theorem Bq (op:Int):∀ (ks:List Ex) (ss:List Value) (ts:List (List Value)),ss.length=ks.length→ts.length=ks.length→(∀ i,i<ks.length→(ts.getD i []).length=(ks.getD i default).kids.length) →
  (gY op ks ss ts).length=(bG op ks).length∧∀ m,m<(bG op ks).length→∃ i,i<ks.length∧(((bG op ks).getD m default=ks.getD i default∧(gY op ks ss ts).getD m undef=ss.getD i undef) ∨
   (∃ j,j<(ks.getD i default).kids.length∧(bG op ks).getD m default=(ks.getD i default).kids.getD j default∧(gY op ks ss ts).getD m undef=(ts.getD i []).getD j undef))
 | [],ss,ts,_,_,_=>by
  refine ⟨by cases ss <;> simp [gY,bG],fun m hm=>by simp [bG] at hm⟩
 | _ :: _,[],_,h,_,_=>by simp at h
 | _ :: _,_ :: _,[],_,h,_=>by simp at h
 | k :: ks,s :: ss,t :: ts,h,h',h3=>by
  obtain ⟨h4,h5⟩:=Bq op ks ss ts (by simpa using h) (by simpa using h') (fun i hi=>by simpa using h3 (i+1) (by simpa using hi))
  have ht:t.length=k.kids.length:=by simpa using h3 0 (by simp)
  rw [iL]
  simp only [gY]
  by_cases hk:k.op=op
  ·simp only [hk,if_true,List.length_append,h4,ht]
   refine ⟨trivial,fun m hm=>?_⟩
   rcases Nat.lt_or_ge m k.kids.length with bZ | Hp
   ·refine ⟨0,by simp,.inr ⟨m,by simpa using bZ,?_,?_⟩⟩
    ·simp [List.getD_eq_getElem?_getD,List.getElem?_append_left bZ]
    ·simp [List.getD_eq_getElem?_getD,List.getElem?_append_left (show m<t.length by omega)]
   ·obtain ⟨i,hi,h6⟩:=h5 (m - k.kids.length) (by omega)
    refine ⟨i+1,by simpa using hi,?_⟩
    have e1:(k.kids++bG op ks).getD m default=(bG op ks).getD (m - k.kids.length) default:=by simp [List.getD_eq_getElem?_getD,List.getElem?_append_right Hp]
    have e2:(t++gY op ks ss ts).getD m undef=(gY op ks ss ts).getD (m - k.kids.length) undef:=by simp [List.getD_eq_getElem?_getD,List.getElem?_append_right (show t.length≤m by omega),ht]
    rw [e1,e2]
    simpa using h6
  ·simp only [hk,if_false,List.length_append,h4]
   refine ⟨by simp,fun m hm=>?_⟩
   cases m with
   | zero=>exact ⟨0,by simp,.inl ⟨by simp,by simp⟩⟩
   | succ m=>
    obtain ⟨i,hi,h6⟩:=h5 m (by simp at hm;omega)
    exact ⟨i+1,by simpa using hi,by simpa using h6⟩
theorem zz {op:Int} {ks:List Ex} {ss:List Value} {lH:List (List Value)} (h1:ss.length=ks.length) (h2:lH.length=ks.length) (h3:∀ i,i<ks.length→(lH.getD i []).length=(ks.getD i default).kids.length) (k:Nat) :
  (gY op (ks.take k) (ss.take k) (lH.take k)).length=(bG op (ks.take k)).length:=
 (Bq op (ks.take k) (ss.take k) (lH.take k) (by simp [h1]) (by simp [h2]) (fun i hi=>by
  have ox:i<k∧i<ks.length:=by rw [List.length_take] at hi;omega
  have:=h3 i ox.2
  simpa [List.getD_eq_getElem?_getD,List.getElem?_take,ox.1] using this)).1
theorem RI.flat {l l':List cw} {s:Value} {ks:List Ex} {ss:List Value} {lH:List (List Value)} (h:RI l l' s ks ss lH) (op:Int):(gY op ks ss lH).length=(bG op ks).length ∧
  ∀ m,m<(bG op ks).length→cw.deep ((gY op ks ss lH).getD m undef) ((bG op ks).getD m default).kids∈l'∧aB ((gY op ks ss lH).getD m undef):=by
 obtain ⟨h1,h2⟩:=Bq op ks ss lH h.o.len h.tl (fun i hi=>(h.each i hi).len)
 refine ⟨h1,fun m hm=>?_⟩
 obtain ⟨i,hi,⟨e1,e2⟩ | ⟨j,hj,e1,e2⟩⟩:=h2 m hm
 ·rw [e1,e2];exact ⟨h.o.th i hi,h.o.qd i hi⟩
 ·rw [e1,e2];exact ⟨(h.each i hi).th j hj,(h.each i hi).qd j hj⟩
theorem fP {p:Ex→Bool} {ks:List Ex} {k:Nat} (hk:k<ks.length):(ks.take (k+1)).filter p=(ks.take k).filter p++(if p (ks.getD k default) then [ks.getD k default] else []):=by
 rw [aO default ks k hk,List.filter_append]
 congr 1
 by_cases h:p (ks.getD k default)=true
 ·rw [if_pos h,List.filter_cons_of_pos h];rfl
 ·rw [if_neg h,List.filter_cons_of_neg h];rfl
theorem x3 {p:Ex→Bool} {ks:List Ex} (k:Nat) (h:k≤ks.length):((ks.take k).filter p).length≤k:=by
 have:=List.length_filter_le p (ks.take k)
 simp at this;omega
structure rM (p:Ex→Bool) (ks:List Ex) (ss:List Value) (j i:Nat) (gu:List Ex) (jw:List Value):Prop where
 le:j≤ks.length
 len:gu.length=ks.length
 mh:jw.length=gu.length
 Cf:i=((ks.take j).filter p).length
 pre:gu.take i=(ks.take j).filter p
 IX:∀ m,j≤m→gu.getD m default=ks.getD m default∧jw.getD m undef=ss.getD m undef
 sub:∀ m,m<ks.length→∃ q,q<ks.length∧gu.getD m default=ks.getD q default∧jw.getD m undef=ss.getD q undef
theorem rM.lt {p:Ex→Bool} {ks gu:List Ex} {ss jw:List Value} {j i:Nat} (h:rM p ks ss j i gu jw):i≤j:=by rw [h.Cf];exact x3 j h.le
theorem lN {α:Type} (d:α) {l:List α} {i:Nat} (h:i<l.length) (a:α):(l.set i a).getD i d=a:=by simp [List.getD_eq_getElem?_getD,h]
theorem fT {α:Type} (d:α) {l:List α} {i j:Nat} (h:i ≠ j) (a:α):(l.set i a).getD j d=l.getD j d:=by simp [List.getD_eq_getElem?_getD,List.getElem?_set_ne h]
theorem rM.Ce {p:Ex→Bool} {ks gu:List Ex} {ss jw:List Value} {j i:Nat} (h:rM p ks ss j i gu jw) (hj:j<ks.length) (hp:p (ks.getD j default)=true) :
  rM p ks ss (j+1) (i+1) (gu.set i (gu.getD j default)) (jw.set i (jw.getD j undef)):=by
 have yq:=h.lt
 obtain ⟨e1,e2⟩:=h.IX j (Nat.le_refl _)
 have hl:=h.len;have mW:=h.mh
 refine ⟨by omega,by simp [hl],by simp [mW],?_,?_,?_,?_⟩
 ·rw [fP hj,if_pos hp,List.length_append,← h.Cf];rfl
 ·rw [fP hj,if_pos hp,← h.pre,e1]
  rw [List.take_add_one,List.take_set_of_le (by omega)]
  congr 1
  simp [show i<gu.length by omega]
 ·intro m hm
  rw [fT _ (by omega),fT _ (by omega)]
  exact h.IX m (by omega)
 ·intro m hm
  by_cases uH:i=m
  ·subst uH
   rw [lN _ (by omega),lN _ (by omega)]
   exact ⟨j,hj,e1,e2⟩
  ·rw [fT _ uH,fT _ uH];exact h.sub m hm
theorem rM.drop {p:Ex→Bool} {ks gu:List Ex} {ss jw:List Value} {j i:Nat} (h:rM p ks ss j i gu jw) (hj:j<ks.length) (hp:p (ks.getD j default)=false):rM p ks ss (j+1) i gu jw:=by
 refine ⟨by omega,h.len,h.mh,?_,?_,fun m hm=>h.IX m (by omega),h.sub⟩
 ·rw [fP hj,hp,h.Cf];simp
 ·rw [fP hj,hp,h.pre];simp
theorem rM.QZ {p:Ex→Bool} {ks gu:List Ex} {ss jw:List Value} {i:Nat} (h:rM p ks ss ks.length i gu jw):kS (ks.filter p) (jw.take i) ks ss∧gu.take i=ks.filter p∧i=(ks.filter p).length:=by
 have hp:=h.pre;have hi:=h.Cf
 rw [List.take_length] at hp hi
 have hl:=h.len;have mW:=h.mh;have yq:=h.lt
 refine ⟨⟨by simp;omega,by have:=List.length_filter_le p ks;omega,fun k hk=>?_⟩,hp,hi⟩
 obtain ⟨q,h1,h2,h3⟩:=h.sub k (by omega)
 refine ⟨q,h1,?_,?_⟩
 ·rw [← hp,← h2];simp [List.getD_eq_getElem?_getD,List.getElem?_take,show k<i by omega]
 ·rw [← h3];simp [List.getD_eq_getElem?_getD,List.getElem?_take,show k<i by omega]
theorem qF {p:Ex→Bool} {ks:List Ex} (h:ks.any p=true):ks.findIdx p<ks.length∧p (ks.getD (ks.findIdx p) default)=true∧∀ i,i<ks.findIdx p→p (ks.getD i default)=false:=by
 have bZ:ks.findIdx p<ks.length:=List.findIdx_lt_length_of_exists (by simpa using h)
 refine ⟨bZ,?_,fun i hi=>?_⟩
 ·have:=List.findIdx_getElem (p:=p) (xs:=ks) (w:=bZ)
  simpa [List.getD_eq_getElem?_getD,bZ] using this
 ·have:=List.not_of_lt_findIdx (p:=p) (xs:=ks) hi
  simpa [List.getD_eq_getElem?_getD,show i<ks.length by omega] using this
theorem filter_all {p:Ex→Bool}:∀ (ks:List Ex),(∀ i,i<ks.length→p (ks.getD i default)=true)→ks.filter p=ks:=fun ks h=>by
 rw [List.filter_eq_self]
 intro x hx
 obtain ⟨i,hi⟩:=List.mem_iff_getElem?.1 hx
 have hl:=(List.getElem?_eq_some_iff.1 hi).1
 simpa [List.getD_eq_getElem?_getD,hi] using h i hl
theorem Fa {p:Ex→Bool} {ks:List Ex} (h:ks.any p=false):ks.filter (fun e=>!p e)=ks:=by
 rw [List.filter_eq_self]
 intro x hx
 rw [List.any_eq_false] at h
 simpa using h x hx
theorem rM.start {p:Ex→Bool} {ks:List Ex} {ss:List Value} (hl:ss.length=ks.length) (h:ks.any p=true):rM (fun e=>!p e) ks ss (ks.findIdx p+1) (ks.findIdx p) ks ss:=by
 obtain ⟨h1,h2,h3⟩:=qF h
 have e:(ks.take (ks.findIdx p)).filter (fun e=>!p e)=ks.take (ks.findIdx p):=filter_all _ (fun i hi=>by
  have ox:i<ks.findIdx p∧i<ks.length:=by rw [List.length_take] at hi;omega
  have:=h3 i ox.1
  simp [List.getD_eq_getElem?_getD,List.getElem?_take,ox.1] at this ⊢
  exact this)
 have e2:(ks.take (ks.findIdx p+1)).filter (fun e=>!p e)=ks.take (ks.findIdx p):=by
  rw [fP h1,h2,e];simp
 refine ⟨h1,rfl,hl,?_,e2.symm,fun m _=>⟨rfl,rfl⟩,fun m hm=>⟨m,hm,rfl,rfl⟩⟩
 rw [e2];simp;omega
end Go.Sx
namespace Go.Sx
open Go.RowKit
theorem Ll (w:World):kq (fun _=>False) w w []:=⟨bj.refl _ w,_,cj.nil w,fun _ _ h=>h.elim⟩
theorem vh {P:Program} {f:FuncId} {vs:List Value} {w:World} {v:Value} {φ:Value→List bk→Prop} (h:Calls P f vs.toArray w fun e w'=>e = .returned v∧w'=w) (yo:φ v []):aK P f vs w φ:=
 h.mono fun e w' h'=>⟨v,[],yo,h'.1,by rw [h'.2];exact Ll w⟩
theorem nS {l:List cw} {op:Int} {ks:List Ex} {ss:List Value} {s ns sr:Value} {nn:Ex} (hk:∀ k,k<ks.length→cw.deep (ss.getD k undef) (ks.getD k default).kids∈l) (hs:cw.deep s ks∈l) (hn:cw.deep ns nn.kids∈l)
  (h:(ks=[]∧sr=ns)∨(ks.length=1∧sr=ss.getD 0 undef)∨(2≤ks.length∧sr=s)):cw.deep sr (bp op ks nn).kids∈l:=by
 rcases h with ⟨rfl,rfl⟩ | ⟨h1,rfl⟩ | ⟨h1,rfl⟩
 ·exact hn
 ·obtain ⟨k,rfl⟩:=List.length_eq_one_iff.1 h1
  exact hk 0 (by simp)
 ·match ks,h1,hs with
  | a :: b :: l',_,hs=>exact hs
theorem mz {l:List cw} {s:Value} {k:Ex} (h:cw.deep s k.kids∈l):∀ i,i < [k].length→cw.deep ([s].getD i undef) ([k].getD i default).kids∈l:=fun i hi=>by
 have:i=0:=by simpa using hi
 subst this;exact h
theorem bind_some {α β:Type} {x:Option α} {f:α→Option β} {b:β} (h:x.bind f=some b):∃ a,x=some a∧f a=some b:=by
 cases x with
 | none=>cases h
 | some a=>exact ⟨a,rfl,h⟩
theorem HW.qh {C:Cx} {own:List bk} {B:Bs} {l:List cw} {w:World} {s:Value} {ks:List Ex} (hw:HW C own w) (hB:gI B C.W0 C.S) (i:Nat) (hi:own[i]? = some (aI B l)) (hx:cw.deep s ks∈l):dy (bD (fun _=>False) w) s ks:=HW.Tg hB i hi hx hw
theorem cj.qh {C:Cx} {own:List bk} {B:Bs} {l:List cw} {w:World} {Fs:Nat→Nat→Prop} {s:Value} {ks:List Ex} (hh:cj own Fs w) (hB:gI B C.W0 C.S) (i j:Nat) (yq:i ≠ j) (hi:own[i]? = some (aI B l)) (hx:cw.deep s ks∈l) (bI:bj C.S C.W0 w) (bc:∀ k b,Fs k b→C.W0.heap.size≤b∨C.S b):dy (bD (Fs j) w) s ks:=cj.Tg hB i j yq hi hx hh bI bc
end Go.Sx
namespace Go.Sx
open Go.RowKit
theorem K5 (e:Ex):kr e=if e.kids.length=0 then some (.mk e.op e.lt []) else if e.kids.length≤1073741824 then (nY e.kids).bind fun l=>dN e.op l else none:=by
 cases e with | mk op lt ks=>simp only [kr,Ex.op,Ex.lt,Ex.kids];rfl
theorem CJ:∀ {ks L:List Ex},nY ks=some L→L.length=ks.length∧∀ k,k<ks.length→kr (ks.getD k default)=some (L.getD k default)
 | [],L,h=>by simp [nY] at h;subst h;exact ⟨rfl,fun k hk=>by simp at hk⟩
 | a :: ks,L,h=>by
  rw [nY] at h
  obtain ⟨b,hb,h⟩:=bind_some h
  obtain ⟨M,hM,h⟩:=bind_some h
  cases h
  obtain ⟨h1,h2⟩:=CJ hM
  refine ⟨by simp [h1],fun k hk=>?_⟩
  cases k with
  | zero=>simpa using hb
  | succ k=>simpa using h2 k (by simpa using hk)
def fR (n:Nat) (L:List Ex) (k:Nat):List Ex:=L.take k++List.replicate (n - k) e0
def dS (n:Nat) (ts:List Value):List Value:=ts++List.replicate (n - ts.length) aW
theorem zD {n:Nat} {L:List Ex} {k:Nat} (h:L.length=n) (hk:k≤n):(fR n L k).length=n:=by simp [fR];omega
theorem Iw {n:Nat} {ts:List Value} (hk:ts.length≤n):(dS n ts).length=n:=by simp [dS];omega
theorem Ix {n:Nat} {L:List Ex} {k:Nat} (h:L.length=n) (hk:k<n):(fR n L k).set k (L.getD k default)=fR n L (k+1):=by
 unfold fR
 rw [aO default L k (by omega)]
 have e:List.replicate (n - k) e0=e0 :: List.replicate (n - (k+1)) e0:=by rw [show n - k=(n - (k+1))+1 by omega];rfl
 rw [e,List.set_append_right _ _ (by simp;omega)]
 have e2:k - (L.take k).length=0:=by simp;omega
 rw [e2];simp
theorem Iv {n:Nat} {ts:List Value} (hk:ts.length<n) (s:Value):(dS n ts).set ts.length s=dS n (ts++[s]):=by
 unfold dS
 have e:List.replicate (n - ts.length) aW=aW :: List.replicate (n - (ts++[s]).length) aW:=by rw [show n - ts.length=(n - (ts++[s]).length)+1 by simp;omega];rfl
 rw [e,List.set_append_right _ _ (by omega)]
 simp
theorem kM (n:Nat) (L:List Ex):fR n L 0=List.replicate n e0∧dS n []=List.replicate n aW:=by simp [fR,dS]
theorem kN {n:Nat} {L:List Ex} {ts:List Value} (h:L.length=n) (ht:ts.length=n):fR n L n=L∧dS n ts=ts:=by
 unfold fR dS
 rw [List.take_of_length_le (by omega)]
 simp [ht]
theorem j5 {n:Nat} {L:List Ex} {ts:List Value} (h:L.length=n) (hk:ts.length<n) (s:Value) :
  (dc (fR n L ts.length) (dS n ts)).take (ts.length * 3)++[.int .i64 (L.getD ts.length default).op,.int .i64 (L.getD ts.length default).lt,s]++(dc (fR n L ts.length) (dS n ts)).drop (ts.length * 3+3)=dc (fR n L (ts.length+1)) (dS n (ts++[s])):=by
 rw [AD _ _ _ (by rw [zD h (by omega),Iw (by omega)]) (by rw [zD h (by omega)];omega),Ix h (by omega),Iv (by omega)]
structure kJ (l:List cw) (L:List Ex) (ts:List Value):Prop where
 d:∀ i,i<ts.length→cw.deep (ts.getD i undef) (L.getD i default).kids∈l
 s:∀ i,i<ts.length→aB (ts.getD i undef)
theorem kJ.nil (l:List cw) (L:List Ex):kJ l L []:=⟨fun i hi=>by simp at hi,fun i hi=>by simp at hi⟩
theorem kJ.later {l l':List cw} {L:List Ex} {ts:List Value} (h:kJ l L ts) (hs:∀ x∈l,x∈l'):kJ l' L ts:=⟨fun i hi=>hs _ (h.d i hi),h.s⟩
theorem pW {α:Type} (d:α) (l:List α) (a:α) (i:Nat):(l++[a]).getD i d=if i<l.length then l.getD i d else if i=l.length then a else d:=by
 simp only [List.getD_eq_getElem?_getD]
 by_cases h:i<l.length
 ·rw [List.getElem?_append_left h,if_pos h]
 ·rw [List.getElem?_append_right (by omega),if_neg h]
  by_cases h2:i=l.length
  ·subst h2;simp
  ·rw [if_neg h2,List.getElem?_eq_none (by simp;omega)];rfl
theorem kJ.snoc {l:List cw} {L:List Ex} {ts:List Value} (h:kJ l L ts) {s:Value} (hd:cw.deep s (L.getD ts.length default).kids∈l) (hs:aB s):kJ l L (ts++[s]):=
 ⟨fun i hi=>by
  rw [pW]
  split
  ·exact h.d i (by assumption)
  ·have:i=ts.length:=by simp at hi;omega
   subst this;rw [if_pos rfl];exact hd,fun i hi=>by
  rw [pW]
  split
  ·exact h.s i (by assumption)
  ·have:i=ts.length:=by simp at hi;omega
   subst this;rw [if_pos rfl];exact hs⟩
end Go.Sx
namespace Go.Sx
open Go.RowKit
theorem s6 (a:Addr) (x y:Nat):(a.add x).add y=a.add (x+y):=by
 unfold Addr.add;repeat' split
 all_goals first | rfl | omega | (simp;omega) | (simp_all;done) | (congr 1;omega)
theorem cR.fr {C:Cx} {own:List bk} {v:Value} {sz n a:Nat} {cs:List Value} (h:cR C own v sz n cs) (hc:mn C own v n) (ha:a≤n):cR C own (nf v sz a) sz (n - a) (cs.drop (a * sz)):=fun w hw=>by
 obtain ⟨oa,cap,rfl,h1,h2,h3,h4⟩:=h w hw
 obtain ⟨ao,c,e,mc⟩:=hc w hw
 cases e
 have hlen:(cs.drop (a * sz)).length=(n - a) * sz:=by rw [List.length_drop,h2,Nat.sub_mul]
 rcases Nat.lt_or_ge a n with bZ | Hp
 ·have j9:cap ≠ a:=by omega
  refine ⟨oa.map (·.add (a * sz)),cap - a,by simp [nf,j9],by omega,hlen,fun _ hs=>by simpa using h3 (by omega) hs,fun ad j u qJ hj=>?_⟩
  obtain ⟨Yc,rfl⟩:∃ x,oa=some x:=by cases oa with | none=>simp at qJ | some x=>exact ⟨x,rfl⟩
  simp at qJ
  subst qJ
  have yp:cs[a * sz+j]? = some u:=by rw [List.getElem?_drop] at hj;exact hj
  obtain ⟨_,h5⟩:=h4 Yc (a * sz+j) u rfl yp
  refine ⟨trivial,?_⟩
  rw [s6];exact h5
 ·have e0:n - a=0:=by omega
  refine ⟨_,cap - a,by simp only [nf];rfl,by omega,hlen,fun hp=>by omega,fun ad j u _ hj=>?_⟩
  rw [e0,Nat.zero_mul] at hlen
  rw [List.eq_nil_of_length_eq_zero hlen] at hj
  cases hj
def Hx (v:Value) (E:TypeId) (sz n:Nat):bk where
 holds w F:=∃ cs,(row v E sz n cs).holds w F
 loc:=by
  rintro w w' F ⟨cs,h⟩ hb
  exact ⟨cs,(row v E sz n cs).loc w w' F h hb⟩
 lt:=by
  rintro w F ⟨cs,h⟩ b hb
  exact (row v E sz n cs).lt w F h b hb
theorem HW.ma {C:Cx} {own:List bk} {w:World} {v:Value} {E:TypeId} {sz n:Nat} {cs:List Value} (i:Nat) (hi:own[i]? = some (row v E sz n cs)) (h:HW C own w):HW C (own.set i (Hx v E sz n)) w:=
 HW.elem i hi (fun F hF=>show (Hx v E sz n).holds w F from ⟨cs,hF⟩) h
theorem Yl.Q5 {C:Cx} {sl:List (Nat × Value)} {own:List bk} {dst:Option Nat} {ty:TypeId} {pos:String} {aft:Array Edge} {g:Option (Nat × Bool)} (j:Nat) {x i:Operand} {t e:TypeId} {E:TypeId} {sz:Nat} {v:Value} {n k:Nat} (hj:own[j]? = some (Hx v E sz n)) (ht:oC C.P t e sz) (hx:bO ⟨sl,own⟩ x=some v) (hi:bO ⟨sl,own⟩ i=some (.int .i64 (k:Int)))
  (hz:0<sz) (h0:k<n):Yl C ⟨sl,own⟩ ⟨dst,.indexAddr t x i,ty,pos,aft,g⟩ (.pointer (some ((ko v).add (k * sz)))):=
 fun a w hs=>by
  obtain ⟨hf,Fs,hh,bc⟩:=hs.world
  obtain ⟨cs,hc⟩:=hh.at_ j _ hj
  obtain ⟨oa,cap,rfl,_,_,h4,_⟩:=oT hc
  have:=h4 (by omega) hz
  obtain ⟨ad,rfl⟩:=Option.isSome_iff_exists.1 this
  obtain ⟨inf,h2,h3⟩:=ht.inf
  have h0':(0:Int)≤(k:Int)∧(k:Int)<(n:Int):=by omega
  simp [execOp,aq hs hx,aq hs hi,Instr.indexAt,asIntOf,run_underlying ht.1,h0'.1,h0,sizeOf,typeInfo,h2,h3,ko]
theorem xC {a:Int} {nm:Bool}:∀ {ks:List Ex} {ds:List Dv},qz a nm ks=some ds→ds.length=ks.length∧∀ k,k<ks.length→eM a nm (ks.getD k default)=some (ds.getD k default)
 | [],ds,h=>by simp [qz] at h;subst h;exact ⟨rfl,fun k hk=>by simp at hk⟩
 | x :: ks,ds,h=>by
  rw [qz] at h
  obtain ⟨b,hb,h⟩:=bind_some h
  obtain ⟨M,hM,h⟩:=bind_some h
  cases h
  obtain ⟨h1,h2⟩:=xC hM
  refine ⟨by simp [h1],fun k hk=>?_⟩
  cases k with
  | zero=>simpa using hb
  | succ k=>simpa using h2 k (by simpa using hk)
def TG (op:Int) (ds:List Dv):Bool:=if op=4 then decide (0<(ds.filter (·.2.2)).length) else if op=6 then decide ((ds.filter (·.2.2)).length=ds.length) else if op=8 then decide ((ds.filter (·.2.2)).length=0) else false
theorem Fo {op:Int} {ds:List Dv} {d:Dv} (h:uR op ds=some d):dN op (ds.map (·.1))=some d.1∧dN op (ds.map (·.2.1))=some d.2.1∧d.2.2=TG op ds:=by
 unfold uR at h
 obtain ⟨b,hb,h⟩:=bind_some h
 obtain ⟨s,hs,h⟩:=bind_some h
 cases h
 exact ⟨hb,hs,rfl⟩
theorem Im (ds:List Dv) (k:Nat) (h:k<ds.length):(ds.map (·.1)).getD k default=(ds.getD k default).1∧(ds.map (·.2.1)).getD k default=(ds.getD k default).2.1:=by
 simp [List.getD_eq_getElem?_getD,h]
theorem xU (ds:List Dv) (k:Nat) (h:k<ds.length):((ds.take (k+1)).filter (·.2.2)).length=((ds.take k).filter (·.2.2)).length+if (ds.getD k default).2.2 then 1 else 0:=by
 rw [aO default ds k h,List.filter_append,List.length_append]
 congr 1
 by_cases hq:(ds.getD k default).2.2=true
 ·rw [if_pos hq,List.filter_cons_of_pos (by simpa using hq)];rfl
 ·rw [if_neg hq,List.filter_cons_of_neg (by simpa using hq)];rfl
theorem count_le (ds:List Dv) (k:Nat):((ds.take k).filter (·.2.2)).length≤ds.length:=by
 have h1:=List.length_filter_le (fun d:Dv=>d.2.2) (ds.take k)
 have h2:(ds.take k).length≤ds.length:=by rw [List.length_take];omega
 omega
theorem Fh {a:Int} {nm:Bool} {e:Ex} {d:Dv} (h:eM a nm e=some d) (ho:e.op=4∨e.op=6∨e.op=8):e.kids.length≤1073741824∧∃ ds,qz a nm e.kids=some ds∧uR e.op ds=some d:=by
 cases e with
 | mk op lt ks=>
  simp only [Ex.op,Ex.kids] at ho ⊢
  rw [eM,if_neg (by omega),if_neg (by omega),if_pos ho] at h
  split at h
  ·obtain ⟨ds,h1,h2⟩:=bind_some h
   exact ⟨by assumption,ds,h1,h2⟩
  ·cases h
theorem Ff {a:Int} {nm:Bool} {e:Ex} {d:Dv} (h:eM a nm e=some d) (ho:e.op=7):∃ k0 s b,0<e.kids.length∧eM a nm (e.kids.getD 0 default)=some k0∧dN 7 [k0.2.1]=some s∧dN 5 [k0.1,s]=some b∧d=(b,s,true):=by
 cases e with
 | mk op lt ks=>
  simp only [Ex.op,Ex.kids] at ho ⊢
  rw [eM,if_neg (by omega),if_neg (by omega),if_neg (by omega),if_pos ho] at h
  obtain ⟨ds,h1,h⟩:=bind_some h
  obtain ⟨h3,h4⟩:=xC h1
  split at h
  ·cases h
  ·obtain ⟨s,hs,h⟩:=bind_some h
   obtain ⟨b,hb,h⟩:=bind_some h
   cases h
   exact ⟨_,s,b,by omega,h4 0 (by omega),hs,hb,rfl⟩
theorem ID {a:Int} {nm:Bool} {e:Ex} {d:Dv} (h:eM a nm e=some d) (ho:e.op=5):e.kids.length≤1073741824∧∃ BY SV N P,gZ a nm true e.kids=some (BY,SV,N)∧kj BY SV=some P∧dN 4 P=some d.1∧dN 5 SV=some d.2.1∧d.2.2=N:=by
 cases e with
 | mk op lt ks=>
  simp only [Ex.op,Ex.kids] at ho ⊢
  rw [eM,if_neg (by omega),if_neg (by omega),if_neg (by omega),if_neg (by omega),if_pos ho] at h
  split at h
  ·obtain ⟨⟨BY,SV,N⟩,h1,h⟩:=bind_some h
   obtain ⟨P,hP,h⟩:=bind_some h
   obtain ⟨b,hb,h⟩:=bind_some h
   obtain ⟨s,hs,h⟩:=bind_some h
   cases h
   exact ⟨by assumption,BY,SV,N,P,h1,hP,hb,hs,rfl⟩
  ·cases h
structure vx (a:Int) (nm:Bool) (ks BY SV:List Ex) (N nl:Bool) (k m:Nat):Prop where
 kl:k≤ks.length
 ml:m≤BY.length
 sl:SV.length=ks.length
 d:gZ a nm nl (ks.drop k)=some (BY.drop m,SV.drop k,N)
theorem pY {a:Int} {nm:Bool}:∀ {ks:List Ex} {nl:Bool} {x:List Ex × List Ex × Bool},gZ a nm nl ks=some x→x.2.1.length=ks.length∧x.1.length≤ks.length
 | [],nl,x,h=>by simp [gZ] at h;subst h;simp
 | k :: ks,true,x,h=>by
  rw [gZ] at h
  obtain ⟨d,_,h⟩:=bind_some h
  obtain ⟨y,hy,h⟩:=bind_some h
  cases h
  obtain ⟨h1,h2⟩:=pY hy
  simp;omega
 | k :: ks,false,x,h=>by
  rw [gZ] at h
  obtain ⟨d,_,h⟩:=bind_some h
  obtain ⟨y,hy,h⟩:=bind_some h
  cases h
  obtain ⟨h1,h2⟩:=pY hy
  simp;omega
theorem vx.start {a:Int} {nm:Bool} {ks BY SV:List Ex} {N:Bool} (h:gZ a nm true ks=some (BY,SV,N)):vx a nm ks BY SV N true 0 0:=
 ⟨Nat.zero_le _,Nat.zero_le _,(pY h).1,by simpa using h⟩
theorem lz {L:List Ex} {k:Nat} {x:Ex} {xs:List Ex} (h:L.drop k=x :: xs):k<L.length∧L.getD k default=x∧L.drop (k+1)=xs:=by
 have bZ:k<L.length:=by
  rcases Nat.lt_or_ge k L.length with h1 | h1
  ·exact h1
  ·rw [List.drop_eq_nil_of_le h1] at h;cases h
 rw [List.drop_eq_getElem_cons bZ] at h
 cases h
 exact ⟨bZ,by simp [List.getD_eq_getElem?_getD,bZ],rfl⟩
theorem vx.yes {a:Int} {nm:Bool} {ks BY SV:List Ex} {N:Bool} {k m:Nat} (h:vx a nm ks BY SV N true k m) (hk:k<ks.length) :
  ∃ d,eM a nm (ks.getD k default)=some d∧m<BY.length∧BY.getD m default=d.1∧SV.getD k default=d.2.1∧vx a nm ks BY SV N d.2.2 (k+1) (m+1):=by
 have hd:=h.d
 rw [List.drop_eq_getElem_cons hk,gZ] at hd
 obtain ⟨d,h1,hd⟩:=bind_some hd
 obtain ⟨y,hy,hd⟩:=bind_some hd
 simp only [Option.some.injEq,Prod.mk.injEq] at hd
 obtain ⟨e1,e2,e3⟩:=hd
 obtain ⟨b1,b2,b3⟩:=lz e1.symm
 obtain ⟨s1,s2,s3⟩:=lz e2.symm
 refine ⟨d,by simpa [List.getD_eq_getElem?_getD,hk] using h1,b1,b2,s2,by omega,by omega,h.sl,?_⟩
 rw [hy,b3,s3,← e3]
theorem vx.no {a:Int} {nm:Bool} {ks BY SV:List Ex} {N:Bool} {k m:Nat} (h:vx a nm ks BY SV N false k m) (hk:k<ks.length) :
  ((if nm then some (ks.getD k default) else kr (ks.getD k default))=some (SV.getD k default))∧vx a nm ks BY SV N false (k+1) m:=by
 have hd:=h.d
 rw [List.drop_eq_getElem_cons hk,gZ] at hd
 obtain ⟨s,h1,hd⟩:=bind_some hd
 obtain ⟨y,hy,hd⟩:=bind_some hd
 simp only [Option.some.injEq,Prod.mk.injEq] at hd
 obtain ⟨e1,e2,e3⟩:=hd
 obtain ⟨s1,s2,s3⟩:=lz e2.symm
 have e:ks.getD k default=ks[k]:=by simp [List.getD_eq_getElem?_getD,hk]
 rw [e]
 refine ⟨by rw [h1,s2],by omega,h.ml,h.sl,?_⟩
 rw [hy,s3,← e1,← e3]
theorem vx.fin {a:Int} {nm:Bool} {ks BY SV:List Ex} {N nl:Bool} {m:Nat} (h:vx a nm ks BY SV N nl ks.length m):m=BY.length∧nl=N:=by
 have hd:=h.d
 rw [List.drop_length,gZ] at hd
 simp only [Option.some.injEq,Prod.mk.injEq] at hd
 have:=congrArg List.length hd.1
 simp at this
 have:=h.ml
 exact ⟨by omega,hd.2.2⟩
theorem zf:∀ {BY SV P:List Ex},kj BY SV=some P→P.length=BY.length∧∀ i,i<BY.length→(if (BY.getD i default).op=1 then some (BY.getD i default) else dN 5 (BY.getD i default :: SV.drop (i+1)))=some (P.getD i default)
 | [],SV,P,h=>by simp [kj] at h;subst h;exact ⟨rfl,fun i hi=>by simp at hi⟩
 | b :: bs,SV,P,h=>by
  rw [kj] at h
  obtain ⟨p,hp,h⟩:=bind_some h
  obtain ⟨M,hM,h⟩:=bind_some h
  cases h
  obtain ⟨h1,h2⟩:=zf hM
  refine ⟨by simp [h1],fun i hi=>?_⟩
  cases i with
  | zero=>simpa using hp
  | succ i=>
   have:=h2 i (by simpa using hi)
   rw [List.drop_drop,show 1+(i+1)=i+1+1 by omega] at this
   simpa using this
theorem x4 {l:List cw} {b:Ex} {SV:List Ex} {sb:Value} {fs:List Value} {a:Nat} (hb:cw.deep sb b.kids∈l) (h:kJ l SV fs) (hf:fs.length=SV.length):∀ k,k<(b :: SV.drop a).length→cw.deep ((sb :: fs.drop a).getD k undef) ((b :: SV.drop a).getD k default).kids∈l:=fun k hk=>by
 cases k with
 | zero=>exact hb
 | succ k=>
  have vB:k<SV.length - a:=by simpa using hk
  have:=h.d (a+k) (by omega)
  simpa [List.getD_eq_getElem?_getD] using this
theorem Fe {a:Int} {nm:Bool} {e:Ex} {d:Dv} (h:eM a nm e=some d) (ho:e.op=2):d=(aP,bu,true):=by
 cases e with | mk op lt ks=>simp only [Ex.op] at ho;rw [eM,if_pos ho] at h;cases h;rfl
theorem zL {a:Int} {nm:Bool} {e:Ex} {d:Dv} (h:eM a nm e=some d) (ho:e.op=3):d=(if e.lt=a then bu else aP,.mk 3 e.lt [],false):=by
 cases e with | mk op lt ks=>simp only [Ex.op] at ho;rw [eM,if_neg (by omega),if_pos ho] at h;cases h;rfl
theorem Fg {a:Int} {nm:Bool} {e:Ex} {d:Dv} (h:eM a nm e=some d) (h2:e.op ≠ 2) (h3:e.op ≠ 3) (h4:e.op ≠ 4) (h6:e.op ≠ 6) (h8:e.op ≠ 8) (h7:e.op ≠ 7) (h5:e.op ≠ 5):d=(aP,aP,false):=by
 cases e with | mk op lt ks=>simp only [Ex.op] at h2 h3 h4 h5 h6 h7 h8;rw [eM,if_neg h2,if_neg h3,if_neg (by omega),if_neg h7,if_neg h5] at h;cases h;rfl
theorem KR {l:List cw} {s t:Value} {k m:Ex} (h:cw.deep s k.kids∈l) (h':cw.deep t m.kids∈l):∀ i,i < [k,m].length→cw.deep ([s,t].getD i undef) ([k,m].getD i default).kids∈l:=fun i hi=>by
 have:i=0∨i=1:=by simp at hi;omega
 rcases this with rfl | rfl
 ·exact h
 ·exact h'
def wa (d:Dv):Ex × Int:=if cg d.1 6=0 then (d.1,0) else (e0,3)
def z6 (d:Dv) (s:Value):Value:=if cg d.1 6=0 then s else aW
theorem Io {e:Ex} {a:Int} {p:Ex × Int} (h:letE e a=some p):∃ d,eM a true e=some d∧p=wa d:=by
 unfold letE at h
 obtain ⟨d,hd,h⟩:=bind_some h
 cases h
 exact ⟨d,hd,rfl⟩
end Go.Sx
namespace Go.Sx
open Go.RowKit Go.Proofs Go.Lib Go.Sort
theorem KB (x y:Int):vw x y=kh x y:=rfl
theorem Dg {α:Type} (d:α) {l:List α} {a m:Nat} (h:a≤m):(l.drop a).getD (m - a) d=l.getD m d:=by
 simp only [List.getD_eq_getElem?_getD,List.getElem?_drop]
 rw [show a+(m - a)=m by omega]
theorem iM {α:Type} (d:α) {l:List α} {k:Nat} (h:k<l.length):l.drop k=l.getD k d :: l.drop (k+1):=by
 rw [List.drop_eq_getElem_cons h];simp [List.getD_eq_getElem?_getD,h]
section
variable {ks ls : List Ex} {k : Nat}
theorem Fl (h:k<ks.length) (h2:k<ls.length) (h3:gD (ks.getD k default) (ls.getD k default)=0):dA (ks.drop k) (ls.drop k)=dA (ks.drop (k+1)) (ls.drop (k+1)):=by
 rw [iM default h,iM default h2,dA,if_neg (fun h=>h h3)]
theorem IE (h:k<ks.length) (h2:k<ls.length) (h3:¬ gD (ks.getD k default) (ls.getD k default)=0):dA (ks.drop k) (ls.drop k)=gD (ks.getD k default) (ls.getD k default):=by
 rw [iM default h,iM default h2,dA,if_pos h3]
theorem L9 (h:k<ks.length) (h2:ls.length≤k):dA (ks.drop k) (ls.drop k)=1:=by
 rw [iM default h,List.drop_of_length_le h2,dA]
theorem zN (h:ks.length≤k) (h2:k≤ls.length):dA (ks.drop k) (ls.drop k)=if k<ls.length then -1 else 0:=by
 rw [List.drop_of_length_le h]
 split
 ·rename_i h3;rw [iM default h3,dA]
 ·rw [List.drop_of_length_le (by omega),dA]
end
theorem aK.toM {P:Program} {f:FuncId} {vs:List Value} {w:World} {φ:Value→List bk→Prop} {F:Nat→Prop} {A:bk} (h:aK P f vs w φ) (hA:A.holds w F):ck P f vs w F (fun r A' o=>A'=A∧φ r o):=by
 refine Calls.mono h ?_
 rintro e w' ⟨v,own',yo,rfl,hx,Fs,hh,me⟩
 have bZ:∀ b,F b→b<w.heap.size:=A.lt w F hA
 refine ⟨v,A,own',⟨rfl,yo⟩,rfl,hx.mono (fun _ h _=>h.elim),fun k b=>if k=0 then F b else Fs (k - 1) b,⟨fun k B hk=>?_,fun k hk b hb=>?_,fun i j b h1 h2=>?_⟩,fun i b hb=>?_⟩
 ·cases k with
  | zero=>cases hk;exact A.loc w w' F hA fun b hb=>hx.block b (bZ b hb) id
  | succ k=>exact hh.at_ k B (by simpa using hk)
 ·have:k ≠ 0:=by intro e;subst e;simp at hk
  simp only [this,if_false] at hb
  exact hh.out (k - 1) (by simp at hk;omega) b hb
 ·have key:∀ k b,(if k=0 then F b else Fs (k - 1) b)→(k=0∧b<w.heap.size)∨(k ≠ 0∧Fs (k - 1) b∧w.heap.size≤b):=fun k b h=>by
   split at h
   ·rename_i e;exact .inl ⟨e,bZ b h⟩
   ·rename_i e;exact .inr ⟨e,h,(me _ b h).resolve_left id⟩
  rcases key i b h1 with ⟨a1,a2⟩ | ⟨a1,a2,a3⟩ <;> rcases key j b h2 with ⟨b1,b2⟩ | ⟨b1,b2,b3⟩
  ·omega
  ·omega
  ·omega
  ·have:=hh.apart _ _ b a2 b2;omega
 ·have hb:if i=0 then F b else Fs (i - 1) b:=hb
  split at hb
  ·exact .inl hb
  ·exact .inr ((me _ b hb).resolve_left id)
abbrev XV (F:Nat→Prop) (w:World):={ p:Ex × Value // dy (bD F w) p.2 p.1.kids }
instance (F:Nat→Prop) (w:World):Inhabited (XV F w):=⟨⟨(e0,aW),dy.nil _⟩⟩
def Rt {F:Nat→Prop} {w:World} (x:XV F w):List Value:=[.int .i64 x.1.1.op,.int .i64 x.1.1.lt,x.1.2]
def T6 {F:Nat→Prop} {w:World} (x y:XV F w):Int:=gD x.1.1 y.1.1
theorem Ys (F:Nat→Prop) (w:World):SWO (ltOf (T6 (F:=F) (w:=w))) where
 irrefl x:=by unfold ltOf T6;rw [mP];rfl
 trans x y z h1 h2:=by
  unfold ltOf T6 at *
  rw [decide_eq_true_eq] at *
  exact xY _ _ _ h1 h2
 ntrans x y z h1 h2:=by
  unfold ltOf T6 at *
  rw [decide_eq_false_iff_not] at *
  exact zn (a:=z.1.1) (b:=y.1.1) (c:=x.1.1) h2 h1
theorem zJ {F:Nat→Prop} {w:World} (d:List (XV F w)):d.flatMap Rt=dc (d.map (·.1.1)) (d.map (·.1.2)):=by
 unfold dc
 rw [List.zip_map',List.flatMap_map]
 rfl
theorem Nj {F:Nat→Prop} {w:World} {ks:List Ex} {ss:List Value} (hl:ss.length=ks.length) (hk:∀ i,i<ks.length→dy (bD F w) (ss.getD i undef) (ks.getD i default).kids) :
  ∃ d:List (XV F w),d.map (·.1.1)=ks∧d.map (·.1.2)=ss:=by
 have H:∀ p∈ks.zip ss,dy (bD F w) p.2 p.1.kids:=fun p hp=>by
  obtain ⟨i,hi⟩:=List.mem_iff_getElem?.1 hp
  rw [List.getElem?_zip_eq_some] at hi
  obtain ⟨h1,h2⟩:=hi
  have oA:=(List.getElem?_eq_some_iff.1 h1).1
  have:=hk i oA
  simpa [List.getD_eq_getElem?_getD,h1,h2] using this
 refine ⟨(ks.zip ss).attachWith _ H,?_,?_⟩
 ·have:=List.attachWith_map_subtype_val (l:=ks.zip ss) H
  have e:((ks.zip ss).attachWith _ H).map (·.1.1)=(((ks.zip ss).attachWith _ H).map Subtype.val).map Prod.fst:=by rw [List.map_map];rfl
  rw [e,this,List.map_fst_zip (by omega)]
 ·have:=List.attachWith_map_subtype_val (l:=ks.zip ss) H
  have e:((ks.zip ss).attachWith _ H).map (·.1.2)=(((ks.zip ss).attachWith _ H).map Subtype.val).map Prod.snd:=by rw [List.map_map];rfl
  rw [e,this,List.map_snd_zip (by omega)]
theorem EP {P:Program} {f g E:Nat} (Js:CB P f g [] 3)
  (we:∀ (a b:Ex) (w:World) (s t:Value),dy (bD (fun _=>False) w) s a.kids→dy (bD (fun _=>False) w) t b.kids→aK P g [.agg #[.int .i64 a.op,.int .i64 a.lt,s],.agg #[.int .i64 b.op,.int .i64 b.lt,t]] w (fun r o=>r = .int .i64 (gD a b)∧o=[]))
  (w:World) (F:Nat→Prop) (s:Value) (ks:List Ex) (ss:List Value) (hl:ss.length=ks.length) (hn:1≤ks.length∧ks.length<4611686018427387904) (hA:(row s E 3 ks.length (dc ks ss)).holds w F)
  (hk:∀ i,i<ks.length→dy (bD F w) (ss.getD i undef) (ks.getD i default).kids) :
  ck P f [s,.func (.func g) #[] #[]] w F (fun r A o=>∃ jw,r = .tuple #[]∧A=row s E 3 ks.length (dc (gw ks) jw)∧o=[]∧kS (gw ks) jw ks ss):=by
 obtain ⟨d,e1,e2⟩:=Nj hl hk
 have TY:d.length=ks.length:=by rw [← e1];simp
 have h:=y5 Js (Rt (F:=F) (w:=w)) (fun x=>rfl) (fun x v hv=>by
   simp only [Rt,List.mem_cons,List.not_mem_nil,or_false] at hv
   rcases hv with rfl | rfl | rfl
   ·rfl
   ·rfl
   ·exact x.2.sl.one) T6 (Ys F w) w F s E d (by rw [zJ,e1,e2,TY];exact hA) (by omega)
  (fun w' bI x y=>by
   have:=we x.1.1 y.1.1 w' x.1.2 y.1.2 (x.2.fr bI).wk (y.2.fr bI).wk
   refine Calls.mono this ?_
   rintro e w2 ⟨v,own',⟨h1,_⟩,h2,h3⟩
   exact ⟨v,own',h1,h2,h3⟩)
 refine Calls.mono h ?_
 rintro e w' ⟨v,A,own',⟨d',rfl,rfl,rfl,hp,hs⟩,h2,h3⟩
 have Mw:d'.map (·.1.1)=gw ks:=by
  refine K3 ?_ ?_
  ·rw [← e1];exact hp.map _
  ·rw [List.pairwise_map];exact hs
 refine ⟨_,_,[],⟨d'.map (·.1.2),rfl,by rw [zJ,Mw,TY],rfl,⟨?_,?_,fun k vB=>?_⟩⟩,h2,h3⟩
 ·rw [← Mw];simp
 ·rw [pO];exact Nat.le_refl _
 ·have MP:k<d'.length:=by rw [← Mw] at vB;simpa using vB
  have Y2:d'[k]∈d:=hp.mem_iff.1 (List.getElem_mem MP)
  obtain ⟨j,hj,ej⟩:=List.mem_iff_getElem.1 Y2
  refine ⟨j,by omega,?_,?_⟩
  ·rw [← Mw,← e1];simp [List.getD_eq_getElem?_getD,MP,hj,ej]
  ·rw [← e2];simp [List.getD_eq_getElem?_getD,MP,hj,ej]
structure FE (ks:List Ex) (ss:List Value) (j i:Nat) (gu:List Ex) (jw:List Value):Prop where
 le:j≤ks.length
 lt:i<j
 i0:0<i
 len:gu.length=ks.length
 mh:jw.length=gu.length
 Cf:i=(uM qe default ks j).length
 pre:gu.take i=uM qe default ks j
 IX:∀ m,i≤m→gu.getD m default=ks.getD m default∧jw.getD m undef=ss.getD m undef
 sub:∀ m,m<ks.length→∃ q,q<ks.length∧gu.getD m default=ks.getD q default∧jw.getD m undef=ss.getD q undef
section
variable {ks gu : List Ex} {ss jw : List Value} {i j k m a : Nat}
theorem FE.start (hl:ss.length=ks.length) (hk:k<ks.length) (h0:0<k) (hn:∀ i,0<i→i<k→qe (ks.getD i default) (ks.getD (i - 1) default)=false) (h:qe (ks.getD k default) (ks.getD (k - 1) default)=true):FE ks ss (k+1) k ks ss:=by
 have e:uM qe default ks (k+1)=ks.take k:=by
  rw [← vU k (by omega) hn];exact if_pos ⟨h0,h⟩
 exact ⟨by omega,by omega,h0,rfl,hl,by rw [e];simp;omega,e.symm,fun m _=>⟨rfl,rfl⟩,fun m hm=>⟨m,hm,rfl,rfl⟩⟩
theorem FE.rd (h:FE ks ss j i gu jw) (h1:i≤m) (h2:a≤m):(gu.drop a).getD (m - a) default=ks.getD m default∧(jw.drop a).getD (m - a) undef=ss.getD m undef:=by
 rw [Dg _ h2,Dg _ h2];exact h.IX m h1
theorem FE.Ce (h:FE ks ss j i gu jw) (hj:j<ks.length) (hp:qe (ks.getD j default) (ks.getD (j - 1) default)=false):FE ks ss (j+1) (i+1) (gu.set i (ks.getD j default)) (jw.set i (ss.getD j undef)):=by
 have yq:=h.lt;have hl:=h.len;have mW:=h.mh;have h0:=h.i0
 have e:uM qe default ks (j+1)=uM qe default ks j++[ks.getD j default]:=if_neg fun hc=>by rw [hp] at hc;cases hc.2
 refine ⟨by omega,by omega,by omega,by simp [hl],by simp [mW],?_,?_,?_,?_⟩
 ·rw [e,List.length_append,← h.Cf];rfl
 ·rw [e,← h.pre,List.take_add_one,List.take_set_of_le (by omega)]
  congr 1
  simp [show i<gu.length by omega]
 ·intro m hm
  rw [fT _ (by omega),fT _ (by omega)]
  exact h.IX m (by omega)
 ·intro m hm
  by_cases uH:i=m
  ·subst uH
   rw [lN _ (by omega),lN _ (by omega)]
   exact ⟨j,hj,rfl,rfl⟩
  ·rw [fT _ uH,fT _ uH];exact h.sub m hm
theorem FE.drop (h:FE ks ss j i gu jw) (hj:j<ks.length) (hp:qe (ks.getD j default) (ks.getD (j - 1) default)=true):FE ks ss (j+1) i gu jw:=by
 have yq:=h.lt;have h0:=h.i0
 have e:uM qe default ks (j+1)=uM qe default ks j:=if_pos ⟨by omega,hp⟩
 exact ⟨by omega,by omega,h0,h.len,h.mh,by rw [e];exact h.Cf,by rw [e];exact h.pre,h.IX,h.sub⟩
theorem FE.QZ (h:FE ks ss ks.length i gu jw):kS (hD ks) (jw.take i) ks ss∧gu.take i=hD ks∧i=(hD ks).length:=by
 have hl:=h.len;have mW:=h.mh;have yq:=h.lt;have hi:i=(hD ks).length:=h.Cf
 refine ⟨⟨by simp;omega,zM ks,fun k hk=>?_⟩,h.pre,hi⟩
 obtain ⟨q,h1,h2,h3⟩:=h.sub k (by omega)
 refine ⟨q,h1,?_,?_⟩
 ·rw [← h2,show hD ks=gu.take i from h.pre.symm]
  simp [List.getD_eq_getElem?_getD,List.getElem?_take,show k<i by omega]
 ·rw [← h3];simp [List.getD_eq_getElem?_getD,List.getElem?_take,show k<i by omega]
end
theorem xV {ks:List Ex} (h:∀ i,0<i→i<ks.length→qe (ks.getD i default) (ks.getD (i - 1) default)=false):hD ks=ks:=by
 unfold hD;rw [vU _ (Nat.le_refl _) h,List.take_length]
theorem DH {ks:List Ex} (h:ks.length≤1):hD ks=ks:=xV fun i h1 h2=>by omega
theorem cR.Qm {C:Cx} {own:List bk} {s:Value} {n a:Nat} {ks:List Ex} {ss:List Value} (h:cR C own s 3 n (dc ks ss)) (hc:mn C own s n) (hl:ss.length=ks.length) (ha:a≤n):cR C own (nf s 3 a) 3 (n - a) (dc (ks.drop a) (ss.drop a)):=by
 have:=h.fr hc ha
 rwa [mr a ks ss hl] at this
theorem uZ {ks:List Ex} (h:ks.length=0):gw ks=ks:=by rw [List.eq_nil_of_length_eq_zero h];rfl
end Go.Sx
namespace Go.Sx
open Go.RowKit Go.Proofs Go.Lib Go.Sort
section
variable {C : Cx} {sl : List (Nat × Value)} {post : List bk} {K : Act → World → Prop} {TA TE nb : Nat} {n : kc}
end
theorem vV (a b:iV):tC a b<0↔qf a b=true:=by
 rw [BG]
 have h0:tC a b=0↔a=b:=by
  obtain ⟨a1,a2,a3⟩:=a
  obtain ⟨b1,b2,b3⟩:=b
  show (if kh a1 b1 ≠ 0 then kh a1 b1 else if kh a2 b2 ≠ 0 then kh a2 b2 else if kh a3 b3 ≠ 0 then kh a3 b3 else 0)=0↔_
  simp only [Prod.mk.injEq]
  have e1:=sn (x:=a1) (y:=b1)
  have e2:=sn (x:=a2) (y:=b2)
  have e3:=sn (x:=a3) (y:=b3)
  by_cases h1:kh a1 b1=0
  ·rw [if_neg (fun h=>h h1)]
   by_cases h2:kh a2 b2=0
   ·rw [if_neg (fun h=>h h2)]
    by_cases h3:kh a3 b3=0
    ·rw [if_neg (fun h=>h h3)]
     exact ⟨fun _=>⟨e1.1 h1,e2.1 h2,e3.1 h3⟩,fun _=>rfl⟩
    ·rw [if_pos h3]
     exact ⟨fun h=>absurd h h3,fun h=>e3.2 h.2.2⟩
   ·rw [if_pos h2]
    exact ⟨fun h=>absurd h h2,fun h=>e2.2 h.2.1⟩
  ·rw [if_pos h1]
   exact ⟨fun h=>absurd h h1,fun h=>e1.2 h.1⟩
 constructor
 ·intro h hc
  rcases hc with hc | hc
  ·have:=h0.2 hc;omega
  ·omega
 ·intro h
  have h1:tC a b ≠ 0:=fun e=>h (.inl (h0.1 e))
  have h2:¬ 0<tC a b:=fun e=>h (.inr e)
  omega
theorem RC {a b:iV}:qf a b=false↔a=b∨qf b a=true:=by
 constructor
 ·intro h
  rcases OS a b with h1 | h1 | h1
  ·rw [h] at h1;cases h1
  ·exact .inl h1
  ·exact .inr h1
 ·rintro (rfl | h)
  ·exact BF a
  ·cases h2:qf a b with
   | false=>rfl
   | true=>have:=p8 h2 h;rw [BF] at this;cases this
theorem Yt:SWO (ltOf tC) where
 irrefl x:=by unfold ltOf;rw [decide_eq_false_iff_not,vV,BF];decide
 trans x y z h1 h2:=by
  unfold ltOf at *;rw [decide_eq_true_eq,vV] at *;exact p8 h1 h2
 ntrans x y z h1 h2:=by
  unfold ltOf at *
  rw [decide_eq_false_iff_not,vV,Bool.not_eq_true,RC] at *
  rcases h1 with rfl | h1
  ·exact h2
  ·rcases h2 with rfl | h2
   ·exact .inr h1
   ·exact .inr (p8 h2 h1)
theorem ES {P:Program} {f g E:Nat} (Js:CB P f g [] 3) (we:∀ (w:World) (a b:iV),aK P g [ev a,ev b] w (fun r o=>r = .int .i64 (tC a b)∧o=[]))
  (w:World) (F:Nat→Prop) (v:Value) (es:List iV) (hn:1≤es.length∧es.length<4611686018427387904) (hA:(row v E 3 es.length (rE es)).holds w F) :
  ck P f [v,.func (.func g) #[] #[]] w F (fun r A o=>∃ B6,A=row v E 3 B6.length (rE B6)∧o=[]∧B6.Perm es∧B6.Pairwise fun a b=>qf b a=false):=by
 have h:=y5 Js BW (fun x=>rfl) (fun x v hv=>BB x v hv) tC Yt w F v E es hA hn (fun w' _ x y=>by
  refine Calls.mono (we w' x y) ?_
  rintro e w2 ⟨v,own',⟨h1,_⟩,h2,h3⟩
  exact ⟨v,own',h1,h2,h3⟩)
 refine Calls.mono h ?_
 rintro e w' ⟨v',A,own',⟨d',rfl,rfl,rfl,hp,hs⟩,h2,h3⟩
 refine ⟨_,_,[],⟨d',by rw [hp.length_eq];rfl,rfl,hp,hs.imp fun {a b} tc=>?_⟩,h2,h3⟩
 rw [vV] at tc;simpa using tc
def W1 (a b:iV):Bool:=decide (a=b)
theorem KA {a b:iV} (h:W1 a b=true):a=b:=of_decide_eq_true h
def gJ (es:List iV):List iV:=uM W1 (0,0,0) es es.length
theorem Il {es:List iV} {x:iV}:x∈gJ es↔x∈es:=by
 unfold gJ;rw [sj (fun _ _=>KA) _ (Nat.le_refl _),List.take_length]
theorem BK {es:List iV} (hs:es.Pairwise fun a b=>qf b a=false):(gJ es).Pairwise fun a b=>qf a b=true:=by
 have key:∀ m,m≤es.length→(uM W1 (0,0,0) es m).Pairwise fun a b=>qf a b=true:=by
  intro m
  induction m with
  | zero=>intro _;exact .nil
  | succ m ih=>
   intro hm
   unfold uM
   split
   ·exact ih (by omega)
   ·rename_i hc
    rw [List.pairwise_append]
    refine ⟨ih (by omega),List.pairwise_singleton ..,fun a ha b hb=>?_⟩
    rw [List.mem_singleton] at hb;subst hb
    rw [sj (fun _ _=>KA) _ (by omega)] at ha
    obtain ⟨i,hi⟩:=List.mem_iff_getElem?.1 ha
    rw [List.getElem?_take] at hi
    split at hi
    ·rename_i him
     have oA:=(List.getElem?_eq_some_iff.1 hi).1
     have WT:es.getD i (0,0,0)=a:=by rw [List.getD_eq_getElem?_getD,hi];rfl
     have qO:∀ p q,p<q→q<es.length→qf (es.getD q (0,0,0)) (es.getD p (0,0,0))=false:=fun p q Tm hq=>by
      have:=List.pairwise_iff_getElem.1 hs p q (by omega) hq Tm
      simpa [List.getD_eq_getElem?_getD,hq,show p<es.length by omega] using this
     have j9:¬ es.getD m (0,0,0)=es.getD (m - 1) (0,0,0):=fun e=>hc ⟨by omega,decide_eq_true e⟩
     have h1:=qO (m - 1) m (by omega) (by omega)
     rw [RC] at h1
     have h1:=h1.resolve_left j9
     rcases Nat.lt_or_ge i (m - 1) with h2 | h2
     ·have h3:=qO i (m - 1) h2 (by omega)
      rw [RC,WT] at h3
      rcases h3 with h3 | h3
      ·rw [← h3];exact h1
      ·exact p8 h3 h1
     ·have:i=m - 1:=by omega
      subst this;rw [← WT];exact h1
    ·cases hi
 exact key _ (Nat.le_refl _)
section
variable {es B6 : List iV} {i j k m a : Nat}
theorem xW (h:∀ i,0<i→i<es.length→W1 (es.getD i (0,0,0)) (es.getD (i - 1) (0,0,0))=false):gJ es=es:=by
 unfold gJ;rw [vU _ (Nat.le_refl _) h,List.take_length]
end
structure WN (n:kc):Prop where
 L:1≤n.L∧n.L≤6
 S:0≤n.S∧n.S≤64
 st:∀ i:Nat,n.st.getLsbD i=true→(i:Int)<n.S
 fi:∀ i:Nat,n.fi.getLsbD i=true→(i:Int)<n.S
 ed:∀ e∈n.es,(0≤e.1∧e.1<n.S)∧(0≤e.2.1∧e.2.1<n.L)∧(0≤e.2.2∧e.2.2<n.S)
theorem WN.vn {n:kc} (h:WN n) {es:List iV} (hp:es.Perm n.es) (hs:es.Pairwise fun a b=>qf b a=false):VN { n with es:=gJ es } where
 L:=h.L
 S:=h.S
 st:=by
  apply BitVec.eq_of_getLsbD_eq
  intro i hi
  rw [BitVec.getLsbD_and,BitVec.getLsbD_or,BitVec.getLsbD_not,mQ h.S i hi]
  simp only [BitVec.getLsbD_zero]
  have h1:=h.st i
  have h2:=h.fi i
  cases e1:n.st.getLsbD i <;> cases e2:n.fi.getLsbD i <;> simp_all
 ed:=fun k hk=>by
  have hk:k<(gJ es).length:=hk
  have hm:(gJ es).getD k (0,0,0)∈n.es:=hp.mem_iff.1 (Il.1 (aX hk))
  have he:=h.ed _ hm
  unfold qT wj
  rw [Bool.or_eq_false_iff]
  refine ⟨decide_eq_false (fun hc=>by
   have hc:((gJ es).getD k (0,0,0)).1<0∨((gJ es).getD k (0,0,0)).1 ≥ n.S∨((gJ es).getD k (0,0,0)).2.2<0∨((gJ es).getD k (0,0,0)).2.2 ≥ n.S∨((gJ es).getD k (0,0,0)).2.1<0∨((gJ es).getD k (0,0,0)).2.1 ≥ n.L:=hc
   omega),?_⟩
  by_cases h0:0<k
  ·have:=List.pairwise_iff_getElem.1 (BK hs) (k - 1) k (by omega) hk (by omega)
   have e:qf ((gJ es).getD (k - 1) (0,0,0)) ((gJ es).getD k (0,0,0))=true:=by
    simpa [List.getD_eq_getElem?_getD,hk,show k - 1<(gJ es).length by omega] using this
   show (decide (0<k) && !qf ((gJ es).getD (k - 1) (0,0,0)) ((gJ es).getD k (0,0,0)))=false
   rw [e];simp
  ·simp [h0]
end Go.Sx
namespace Go.Sx
def hW (ws:List (List UInt8)) (u:List UInt8):List UInt8:=u.flatMap fun c=>ws.getD ((c.toNat:Int) - 97).toNat []
def inr (ws:List (List UInt8)):Nat→Nat
 | 0=>0
 | x+1=>inr ws x+((ws.getD x []).length - 1)
section
variable {m : bB} {M : Int} {ws : List (List UInt8)}
end
end Go.Sx
namespace Go.Sx
open Go.RowKit
theorem aK.ofM {P:Program} {f:FuncId} {vs:List Value} {w:World} {φ:Value→bk→List bk→Prop} (h:ck P f vs w (fun _=>False) φ):aK P f vs w (fun r o=>∃ A' o',φ r A' o'∧o=A' :: o'):=by
 refine Calls.mono h ?_
 rintro e w' ⟨v,A',own',yo,he,hr⟩
 exact ⟨v,A' :: own',⟨A',own',yo,rfl⟩,he,hr⟩
theorem kq.flat {w w':World} {F:Nat→Prop} {l:List bk} (h:kq F w w' [bh l]):kq F w w' l:=by
 obtain ⟨hx,Fs,hh,me⟩:=h
 have hw:HW ⟨default,0,w,F⟩ [bh l] w':=⟨hx,Fs,hh,fun i b hb=>(me i b hb).symm⟩
 have:=kq.of (HW.flat hw)
 rwa [List.append_nil] at this
theorem aK.post {P:Program} {f:FuncId} {vs:List Value} {w:World} {φ ψ:Value→List bk→Prop} (h:aK P f vs w φ) (hp:∀ v o w',φ v o→kq (fun _=>False) w w' o→∃ o',ψ v o'∧kq (fun _=>False) w w' o'):aK P f vs w ψ:=by
 refine Calls.mono h ?_
 rintro e w' ⟨v,o,yo,he,hr⟩
 obtain ⟨o',h1,h2⟩:=hp v o w' yo hr
 exact ⟨v,o',h1,he,h2⟩
def mq (w:World):Bs:=⟨w,fun b=>b<w.heap.size⟩
theorem KI (w:World):gI (mq w) w (fun _=>False):=fun b hb=>⟨id,rfl,hb⟩
theorem zQ {w:World} {s:Value} {ks:List Ex} (h:dy (bD (fun _=>False) w) s ks) {F:Nat→Prop} {w':World}:(cw.deep s ks).ok (wz (mq w) F w'):=
 dy.mono (fun a u hu=>.inr ⟨World.block_lt_of_cell? _ _ hu.2,hu.2⟩) h
theorem DL {w:World} {l:List cw} (h:∀ x∈l,x.ok (wz (mq w) (fun _=>False) w)):(aI (mq w) l).holds w (fun _=>False):=⟨h,fun b hb=>hb.elim⟩
end Go.Sx
