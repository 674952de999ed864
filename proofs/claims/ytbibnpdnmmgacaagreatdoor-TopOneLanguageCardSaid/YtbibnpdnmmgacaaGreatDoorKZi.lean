import Derived.Test.YtbibnpdnmmgacaaGreatDoorKZh
import Derived.Test.YtbibnpdnmmgacaaGreatDoorKZg
import Derived.Lib.Builder
import Derived.Lib.AppendStr
import Derived.Lib.UnsafeStr
import Derived.Laws.Externs
import Derived.Test.YtbibnpdnmmgacaaGreatDoorKZd
set_option linter.unusedVariables false
set_option linter.unusedSimpArgs false
set_option maxRecDepth 100000
namespace Go.Sx
open Go.RowKit
theorem DI {l:List Ex} (hs:l.Pairwise x8):(hD l).Pairwise (· ≠ ·):=by
 have key:∀ m,m≤l.length→(uM qe default l m).Pairwise (· ≠ ·):=by
  intro m
  induction m with
  | zero=>intro _;exact .nil
  | succ m ih=>
   intro hm
   unfold uM
   split
   ·exact ih (by omega)
   ·rename_i hc
    rw [List.pairwise_append]
    refine ⟨ih (by omega),List.pairwise_singleton ..,fun a ha b hb e=>?_⟩
    rw [List.mem_singleton] at hb
    rw [hb] at e
    rw [sj (fun _ _=>Ax) _ (by omega)] at ha
    obtain ⟨i,hi⟩:=List.mem_iff_getElem?.1 ha
    rw [List.getElem?_take] at hi
    split at hi
    ·rename_i him
     have oA:=(List.getElem?_eq_some_iff.1 hi).1
     have WT:l.getD i default=a:=by rw [List.getD_eq_getElem?_getD,hi];rfl
     have qO:∀ p q,p≤q→q<l.length→x8 (l.getD p default) (l.getD q default):=fun p q Tm hq=>by
      rcases Nat.lt_or_ge p q with h | h
      ·have:=List.pairwise_iff_getElem.1 hs p q (by omega) hq h
       simpa [List.getD_eq_getElem?_getD,hq,show p<l.length by omega] using this
      ·have:p=q:=by omega
       subst this
       have:=Ip (l.getD p default) (l.getD p default)
       exact this.elim id id
     have h1:=qO i (m - 1) (by omega) (by omega)
     have h2:=qO (m - 1) m (by omega) (by omega)
     rw [WT,e] at h1
     have h3:=CZ h2 h1
     exact hc ⟨by omega,decide_eq_true (by rw [h3];exact mP _)⟩
    ·cases hi
 exact key _ (Nat.le_refl _)
def Mp (l:List Ex):List Ex:=(hD (gw l)).filter fun e=>!bb e
theorem A4 {l:List Ex} {p:Ex}:p∈Mp l↔p∈l∧bb p=false:=by
 unfold Mp
 rw [List.mem_filter,pV,pU];simp
theorem HT (l:List Ex):(Mp l).Pairwise (· ≠ ·):=(DI (nR l)).sublist List.filter_sublist
theorem Nw (l:List Ex):(Mp l).length≤l.length:=by
 have h1:=List.length_filter_le (fun e=>!bb e) (hD (gw l))
 have h2:=zM (gw l)
 rw [pO] at h2
 show (List.filter _ _).length≤_
 omega
def BZ (y:Nat) (e:Ex):List Ex:=Mp (im (y:Int) e)
theorem CS {α:Type}:∀ {l m:List α},l.Pairwise (· ≠ ·)→(∀ x∈l,x∈m)→l.length≤m.length
 | [],m,_,_=>Nat.zero_le _
 | x :: l,m,h,hs=>by
  obtain ⟨m1,m2,rfl⟩:=List.append_of_mem (hs x List.mem_cons_self)
  rw [List.pairwise_cons] at h
  have:=CS (l:=l) (m:=m1++m2) h.2 (fun y hy=>by
   have h1:=hs y (List.mem_cons_of_mem _ hy)
   rw [List.mem_append,List.mem_cons] at h1
   rw [List.mem_append]
   rcases h1 with h1 | h1 | h1
   ·exact .inl h1
   ·exact absurd h1.symm (h.1 y hy)
   ·exact .inr h1)
  simp only [List.length_append,List.length_cons] at this ⊢
  omega
abbrev QN:=Nat × Nat × Ex
def DZ (bR:List Ex) (d:Ex):Nat:=bR.findIdx (fun s=>qe s d)
theorem tK {bR:List Ex} {d:Ex} (h:d∈bR):DZ bR d<bR.length∧bR.getD (DZ bR d) default=d:=by
 have bZ:DZ bR d<bR.length:=List.findIdx_lt_length_of_exists ⟨d,h,decide_eq_true (mP d)⟩
 refine ⟨bZ,?_⟩
 have:=List.findIdx_getElem (p:=fun s=>qe s d) (xs:=bR) (w:=bZ)
 rw [List.getD_eq_getElem?_getD,List.getElem?_eq_getElem bZ]
 exact Ax this
theorem L1 {bR:List Ex} {d:Ex} (h:d∈bR) (l:List Ex):DZ (bR++l) d=DZ bR d:=by
 have bZ:=(tK h).1
 unfold DZ at bZ ⊢
 rw [List.findIdx_append,if_pos bZ]
theorem OF {bR:List Ex} {d:Ex} (h:d ∉ bR):DZ (bR++[d]) d=bR.length:=by
 unfold DZ
 rw [List.findIdx_append]
 have h1:bR.findIdx (fun s=>qe s d)=bR.length:=by
  rw [List.findIdx_eq_length]
  intro x hx
  have:x ≠ d:=fun e=>h (e ▸ hx)
  exact decide_eq_false fun h=>this (kO x d h)
 rw [h1,if_neg (Nat.lt_irrefl _)]
 have h2:qe d d=true:=decide_eq_true (mP d)
 simp [h2]
def yr (bR:List Ex) (t:QN):iV:=((t.1:Int),(t.2.1:Int),(DZ bR t.2.2:Int))
def QQ (bR:List Ex) (i x k:Nat) (t:QN):Prop:=t.1<i∨(t.1=i∧t.2.1<x)∨(t.1=i∧t.2.1=x∧t.2.2∈(BZ x (bR.getD i default)).take k)
structure oE (e1:Ex) (bR:List Ex) (T:List QN) (i x k:Nat):Prop where
 hd:bR.getD 0 default=e1
 il:i≤bR.length
 pos:0<bR.length
 nd:bR.Pairwise (· ≠ ·)
 sub:∀ s∈bR,s∈e1 :: uD e1
 IV:∀ t∈T,t.2.2∈bR
 Td:T.Pairwise (· ≠ ·)
 tm:∀ t:QN,t∈T↔QQ bR i x k t∧t.2.1<2∧t.2.2∈BZ t.2.1 (bR.getD t.1 default)
 ln:T.length≤1000 * (2 * i+x)+k
section
variable {e1 : Ex} {bR : List Ex} {T : List QN} {i x k : Nat}
theorem oE.start (e1:Ex):oE e1 [e1] [] 0 0 0 where
 hd:=rfl
 il:=Nat.zero_le _
 pos:=by simp
 nd:=List.pairwise_singleton ..
 sub:=fun s hs=>by rw [List.mem_singleton.1 hs];exact List.mem_cons_self
 IV:=fun t h=>by cases h
 Td:=.nil
 tm:=fun t=>by
  constructor
  ·intro h;cases h
  ·rintro ⟨h | ⟨_,h⟩ | ⟨_,_,h⟩,_⟩
   ·omega
   ·omega
   ·simp at h
 ln:=by simp
theorem oE.len (h:oE e1 bR T i x k):bR.length≤1+dt e1:=by
 have h1:=CS h.nd h.sub
 have h2:=AZ e1
 simp only [List.length_cons] at h1
 omega
theorem oE.st (h:oE e1 bR T i x k) {j:Nat} (hj:j<bR.length):bR.getD j default∈e1 :: uD e1:=h.sub _ (aX hj)
theorem oE.nm (h:oE e1 bR T i x k) (hn:Nm e1) {j:Nat} (hj:j<bR.length):Nm (bR.getD j default):=by
 rcases List.mem_cons.1 (h.st hj) with e | hp
 ·rw [e];exact hn
 ·exact Es e1 hn _ hp
theorem oE.wf (h:oE e1 bR T i x k) {n:Int} (hw:dg n e1=true) (hz:dt e1≤20) {j:Nat} (hj:j<bR.length):dg n (bR.getD j default)=true:=by
 rcases List.mem_cons.1 (h.st hj) with e | hp
 ·rw [e];exact hw
 ·exact Vg n e1 hw (by omega) _ hp
theorem oE.sz (h:oE e1 bR T i x k) (hz:dt e1≤20) {j:Nat} (hj:j<bR.length):dt (bR.getD j default)≤401:=by
 rcases List.mem_cons.1 (h.st hj) with e | hp
 ·rw [e];omega
 ·have h1:=Er e1 (by omega) _ hp
  have h2:dt e1 * dt e1≤20 * 20:=Nat.mul_le_mul hz hz
  omega
theorem oE.rl (h:oE e1 bR T i x k) (hz:dt e1≤20) {j:Nat} (hj:j<bR.length) (y:Nat):(BZ y (bR.getD j default)).length≤401:=by
 have h1:=Nw (im (y:Int) (bR.getD j default))
 have h2:=lI (a:=(y:Int)) (bR.getD j default)
 have h3:=h.sz hz hj
 show (Mp _).length≤_
 omega
theorem oE.YI (h:oE e1 bR T i x k) (hn:Nm e1) (hi:i<bR.length) {d:Ex} (hd:d∈BZ x (bR.getD i default)):d∈e1 :: uD e1:=by
 obtain ⟨h1,h2⟩:=A4.1 hd
 rcases List.mem_cons.1 (h.st hi) with e | hp
 ·rw [e] at h1;exact List.mem_cons_of_mem _ (FI e1 d h1)
 ·rcases Lr e1 hn _ hp d h1 with h3 | h3
  ·rw [h2] at h3;cases h3
  ·exact List.mem_cons_of_mem _ h3
theorem oE.grow (h:oE e1 bR T i x k) (hi:i<bR.length) {d:Ex} (hd:d∈e1 :: uD e1) (yf:d ∉ bR):oE e1 (bR++[d]) T i x k:=by
 have hg:∀ j,j<bR.length→(bR++[d]).getD j default=bR.getD j default:=fun j hj=>jd hj
 refine ⟨by rw [hg 0 h.pos];exact h.hd,by simp;have:=h.il;omega,by simp,?_,fun s hs=>?_,fun t ht=>List.mem_append_left _ (h.IV t ht),h.Td,fun t=>?_,h.ln⟩
 ·rw [List.pairwise_append]
  exact ⟨h.nd,List.pairwise_singleton ..,fun a ha b hb e=>yf (by rw [← List.mem_singleton.1 hb,← e];exact ha)⟩
 ·rcases List.mem_append.1 hs with hs | hs
  ·exact h.sub s hs
  ·rw [List.mem_singleton.1 hs];exact hd
 ·rw [h.tm t]
  have hp:QQ (bR++[d]) i x k t↔QQ bR i x k t:=by unfold QQ;rw [hg i hi]
  rw [hp]
  constructor
  ·rintro ⟨h1,h2,h3⟩
   have:t.1<bR.length:=by rcases h1 with h1 | h1 | h1 <;> omega
   exact ⟨h1,h2,by rw [hg _ this];exact h3⟩
  ·rintro ⟨h1,h2,h3⟩
   have:t.1<bR.length:=by rcases h1 with h1 | h1 | h1 <;> omega
   exact ⟨h1,h2,by rw [hg _ this] at h3;exact h3⟩
theorem L5 (h:oE e1 bR T i x k) (l:List Ex):T.map (yr (bR++l))=T.map (yr bR):=List.map_congr_left fun t ht=>by
 unfold yr
 rw [L1 (h.IV t ht)]
theorem oE.add (h:oE e1 bR T i x k) (hx:x<2) {ds:List Ex} (MS:ds=BZ x (bR.getD i default)) (hk:k<ds.length) (me:ds.getD k default∈bR):oE e1 bR (T++[(i,x,ds.getD k default)]) i x (k+1):=by
 subst MS
 have O9:(BZ x (bR.getD i default)).Pairwise (· ≠ ·):=HT _
 have hm:=aX (d:=default) hk
 have ht:=aO default (BZ x (bR.getD i default)) k hk
 have yf:(BZ x (bR.getD i default)).getD k default ∉ (BZ x (bR.getD i default)).take k:=fun hh=>by
  have h1:=O9.sublist (List.take_sublist (k+1) _)
  rw [ht,List.pairwise_append] at h1
  exact h1.2.2 _ hh _ List.mem_cons_self rfl
 refine ⟨h.hd,h.il,h.pos,h.nd,h.sub,fun t ht=>?_,?_,fun t=>?_,by have:=h.ln;simp;omega⟩
 ·rcases List.mem_append.1 ht with ht | ht
  ·exact h.IV t ht
  ·rw [List.mem_singleton.1 ht];exact me
 ·rw [List.pairwise_append]
  refine ⟨h.Td,List.pairwise_singleton ..,fun a ha b hb e=>?_⟩
  rw [List.mem_singleton.1 hb] at e
  rw [e,h.tm] at ha
  rcases ha.1 with h1 | ⟨_,h1⟩ | ⟨_,_,h1⟩
  ·exact absurd h1 (Nat.lt_irrefl _)
  ·exact absurd h1 (Nat.lt_irrefl _)
  ·exact yf h1
 ·rw [List.mem_append,h.tm,List.mem_singleton]
  obtain ⟨f,y,d⟩:=t
  unfold QQ
  dsimp only
  rw [ht,List.mem_append,List.mem_singleton,Prod.mk.injEq,Prod.mk.injEq]
  constructor
  ·rintro (⟨h1,h2⟩ | ⟨rfl,rfl,rfl⟩)
   ·exact ⟨h1.imp id (.imp id fun ⟨a,b,c⟩=>⟨a,b,.inl c⟩),h2⟩
   ·exact ⟨.inr (.inr ⟨rfl,rfl,.inr rfl⟩),hx,hm⟩
  ·rintro ⟨h1 | h1 | ⟨h3,h4,h5 | h5⟩,h2⟩
   ·exact .inl ⟨.inl h1,h2⟩
   ·exact .inl ⟨.inr (.inl h1),h2⟩
   ·exact .inl ⟨.inr (.inr ⟨h3,h4,h5⟩),h2⟩
   ·exact .inr ⟨h3,h4,h5⟩
theorem oE.letter (h:oE e1 bR T i x k) (hz:dt e1≤20) (hi:i<bR.length) (hk:k=(BZ x (bR.getD i default)).length):oE e1 bR T i (x+1) 0:=by
 have hl:=h.rl hz hi x
 have WK:=h.ln
 refine ⟨h.hd,h.il,h.pos,h.nd,h.sub,h.IV,h.Td,fun t=>?_,by omega⟩
 rw [h.tm]
 obtain ⟨f,y,d⟩:=t
 unfold QQ
 dsimp only
 subst hk
 rw [List.take_length,List.take_zero]
 constructor
 ·rintro ⟨h1 | h1 | ⟨rfl,rfl,h1⟩,h2⟩
  ·exact ⟨.inl h1,h2⟩
  ·exact ⟨.inr (.inl ⟨h1.1,by omega⟩),h2⟩
  ·exact ⟨.inr (.inl ⟨rfl,by omega⟩),h2⟩
 ·rintro ⟨h1 | ⟨rfl,h1⟩ | ⟨_,_,h1⟩,h2⟩
  ·exact ⟨.inl h1,h2⟩
  ·by_cases hy:y=x
   ·subst hy;exact ⟨.inr (.inr ⟨rfl,rfl,h2.2⟩),h2⟩
   ·exact ⟨.inr (.inl ⟨rfl,by omega⟩),h2⟩
  ·cases h1
theorem oE.next (h:oE e1 bR T i 2 0) (hi:i<bR.length):oE e1 bR T (i+1) 0 0:=by
 have WK:=h.ln
 refine ⟨h.hd,hi,h.pos,h.nd,h.sub,h.IV,h.Td,fun t=>?_,by omega⟩
 rw [h.tm]
 obtain ⟨f,y,d⟩:=t
 unfold QQ
 dsimp only
 rw [List.take_zero,List.take_zero]
 constructor
 ·rintro ⟨h1 | h1 | ⟨_,_,h1⟩,h2⟩
  ·exact ⟨.inl (by omega),h2⟩
  ·exact ⟨.inl (by omega),h2⟩
  ·cases h1
 ·rintro ⟨h1 | ⟨_,h1⟩ | ⟨_,_,h1⟩,h2⟩
  ·by_cases hf:f<i
   ·exact ⟨.inl hf,h2⟩
   ·exact ⟨.inr (.inl ⟨by omega,h2.1⟩),h2⟩
  ·omega
  ·cases h1
end
def mm (bR:List Ex) (fi:cF) (i:Nat):Prop:=∀ j:Nat,fi.getLsbD j=true↔j<i∧fq (bR.getD j default)=true
def O1 (bR:List Ex) (fi:cF) (es:List iV):kc:=⟨2,(bR.length:Int),1,fi,es⟩
section
variable {e1 : Ex} {bR : List Ex} {T : List QN} {fi : cF} {es : List iV}
theorem tY (h:oE e1 bR T bR.length 0 0) (hf:mm bR fi bR.length) (nV:∀ x,x∈es↔x∈T.map (yr bR)) (hn:Nm e1) (hw:dg 2 e1=true) (hz:dt e1≤20):∀ (w:List UInt8) (i:Nat),i<bR.length →
  ((∃ q:Nat,fi.getLsbD q=true∧QP es (i:Int) w (q:Int))↔LE (bR.getD i default) w)
 | [],i,hi=>by
  rw [← Ew 2 _ (h.wf hw hz hi)]
  constructor
  ·rintro ⟨q,h1,h2⟩
   have:q=i:=by
    have h3:(i:Int)=(q:Int):=by
     generalize (q:Int)=b at h2
     cases h2;rfl
    omega
   subst this
   exact ((hf q).1 h1).2
  ·intro h1
   exact ⟨i,(hf i).2 ⟨hi,h1⟩,.nil _⟩
 | c :: w,i,hi=>by
  have hm:∀ a:Int,(c.toNat:Int) - 97=a→_:=fun a ha=>YD 2 ha (bR.getD i default) (h.wf hw hz hi) (h.nm hn hi) w
  constructor
  ·rintro ⟨q,h1,h2⟩
   cases h2 with
   | @cons _ q' _ _ _ he t=>
    obtain ⟨⟨f,y,d⟩,ht,e⟩:=List.mem_map.1 ((nV _).1 he)
    unfold yr at e
    simp only [Prod.mk.injEq] at e
    obtain ⟨e2,e3,e4⟩:=e
    have:f=i:=by omega
    subst this
    obtain ⟨g1,g2⟩:=tK (h.IV _ ht)
    rw [← e4] at t
    have h3:=(tY h hf nV hn hw hz w _ g1).1 ⟨q,h1,t⟩
    rw [g2] at h3
    obtain ⟨_,_,h4⟩:=(h.tm _).1 ht
    exact (hm y e3.symm).1 ⟨d,(A4.1 h4).1,h3⟩
  ·intro h1
   obtain ⟨p,hp,h2⟩:=(hm _ rfl).2 h1
   have hr:=Sn 2 _ (h.wf hw hz hi) p hp
   obtain ⟨y,hy⟩:∃ y:Nat,(c.toNat:Int) - 97=y:=⟨((c.toNat:Int) - 97).toNat,by omega⟩
   rw [hy] at hp hr
   have j9:bb p=false:=by
    cases he:bb p with
    | false=>rfl
    | true=>exact absurd h2 (mK he w)
   have ht:(i,y,p)∈T:=(h.tm _).2 ⟨.inl hi,by dsimp only;omega,A4.2 ⟨hp,j9⟩⟩
   obtain ⟨g1,g2⟩:=tK (show p∈bR from h.IV _ ht)
   rw [← g2] at h2
   obtain ⟨q,h3,h4⟩:=(tY h hf nV hn hw hz w _ g1).2 h2
   refine ⟨q,h3,.cons (q:=(DZ bR p:Int)) ?_ h4⟩
   rw [hy]
   exact (nV _).2 (List.mem_map.2 ⟨_,ht,rfl⟩)
theorem Ls (h:oE e1 bR T bR.length 0 0) (hf:mm bR fi bR.length) (nV:∀ x,x∈es↔x∈T.map (yr bR)) (hn:Nm e1) (hw:dg 2 e1=true) (hz:dt e1≤20) (w:List UInt8):yB (O1 bR fi es) w↔LE e1 w:=by
 have hl:=h.len
 have h0:=tY h hf nV hn hw hz w 0 h.pos
 rw [h.hd] at h0
 rw [← h0]
 unfold yB
 constructor
 ·rintro ⟨p,q,hp,hq,a1,a2,a3⟩
  obtain rfl:p=0:=(jQ p).1 a1
  exact ⟨q,a2,a3⟩
 ·rintro ⟨q,a2,a3⟩
  have:=((hf q).1 a2).1
  exact ⟨0,q,by omega,by omega,(jQ 0).2 rfl,a2,a3⟩
theorem N8 (h:oE e1 bR T bR.length 0 0) (hf:mm bR fi bR.length) (nV:∀ x,x∈es↔x∈T.map (yr bR)) (hz:dt e1≤20):WN (O1 bR fi es):=by
 have hl:=h.len
 have hp:=h.pos
 have eS:(O1 bR fi es).S=(bR.length:Int):=rfl
 have eL:(O1 bR fi es).L=2:=rfl
 refine ⟨by rw [eL];decide,by rw [eS];omega,fun i hi=>?_,fun i hi=>?_,fun x hx=>?_⟩
 ·obtain rfl:i=0:=(jQ i).1 hi
  rw [eS];omega
 ·have:=((hf i).1 hi).1
  rw [eS];omega
 ·obtain ⟨⟨f,y,d⟩,ht,rfl⟩:=List.mem_map.1 ((nV _).1 hx)
  obtain ⟨h1,h2,_⟩:=(h.tm _).1 ht
  have h3:=(tK (h.IV _ ht)).1
  rw [eS,eL]
  unfold yr
  dsimp only at h2 h3 ⊢
  have:f<bR.length:=by
   rcases h1 with h1 | ⟨_,h1⟩ | ⟨_,_,h1⟩
   ·exact h1
   ·exact absurd h1 (Nat.not_lt_zero _)
   ·rw [List.take_zero] at h1;cases h1
  omega
theorem N9 (h:oE e1 bR T bR.length 0 0) (hf:mm bR fi bR.length) (hp:es.Perm (T.map (yr bR))) (hs:es.Pairwise fun a b=>qf b a=false) (hn:Nm e1) (hw:dg 2 e1=true) (hz:dt e1≤20):VN (O1 bR fi es)∧∀ w,yB (O1 bR fi es) w↔LE e1 w:=by
 have nV:∀ x,x∈es↔x∈T.map (yr bR):=fun x=>hp.mem_iff
 have Y1:(T.map (yr bR)).Pairwise (· ≠ ·):=by
  rw [List.pairwise_map]
  refine List.Pairwise.imp_of_mem ?_ h.Td
  rintro ⟨f,y,d⟩ ⟨f',y',d'⟩ ha hb j9 e
  unfold yr at e
  simp only [Prod.mk.injEq] at e
  obtain ⟨e2,e3,e4⟩:=e
  have g1:=(tK (h.IV _ ha)).2
  have g2:=(tK (h.IV _ hb)).2
  dsimp only at g1 g2
  have e5:DZ bR d=DZ bR d':=by omega
  rw [e5,g2] at g1
  exact j9 (by rw [show f=f' by omega,show y=y' by omega,g1])
 have O9:es.Pairwise (· ≠ ·):=Y1.perm hp.symm (fun {x y} h=>h.symm)
 have hc:gJ es=es:=xW fun i h0 h1=>by
  have:=List.pairwise_iff_getElem.1 O9 (i - 1) i (by omega) h1 (by omega)
  refine decide_eq_false fun h=>this ?_
  rw [List.getD_eq_getElem?_getD,List.getElem?_eq_getElem h1,List.getD_eq_getElem?_getD,List.getElem?_eq_getElem (by omega:i - 1<es.length)] at h
  exact h.symm
 refine ⟨?_,Ls h hf nV hn hw hz⟩
 have:=(N8 h hf nV hz).vn (List.Perm.refl _) hs
 have e1:gJ (O1 bR fi es).es=es:=hc
 rw [e1] at this
 exact this
end
end Go.Sx
namespace Go.Sx
open Go.RowKit
theorem yR.fr {R:Cell} {v:Value} {sz n a:Nat} {cs:List Value} (h:yR R v sz n cs) (ha:a≤n):yR R (nf v sz a) sz (n - a) (cs.drop (a * sz)):=by
 obtain ⟨oa,cap,rfl,h1,h2,h3,h4,h5⟩:=h
 have hlen:(cs.drop (a * sz)).length=(n - a) * sz:=by rw [List.length_drop,h3,Nat.sub_mul]
 rcases Nat.lt_or_ge a n with bZ | Hp
 ·have j9:cap ≠ a:=by omega
  refine ⟨oa.map (·.add (a * sz)),cap - a,by simp [nf,j9],by omega,by omega,hlen,fun _ hs=>by simpa using h4 (by omega) hs,fun ad j u qJ hj=>?_⟩
  obtain ⟨Yc,rfl⟩:∃ x,oa=some x:=by cases oa with | none=>simp at qJ | some x=>exact ⟨x,rfl⟩
  simp at qJ
  subst qJ
  have yp:cs[a * sz+j]? = some u:=by rw [List.getElem?_drop] at hj;exact hj
  rw [s6];exact h5 Yc (a * sz+j) u rfl yp
 ·have e0:n - a=0:=by omega
  refine ⟨_,cap - a,by simp only [nf];rfl,by omega,by omega,hlen,fun hp=>by omega,fun ad j u _ hj=>?_⟩
  rw [e0,Nat.zero_mul] at hlen
  rw [List.eq_nil_of_length_eq_zero hlen] at hj
  cases hj
theorem dy.Z0 {R:Cell} {s:Value} {ks:List Ex} {a:Nat} (h:dy R s ks) (ha:a≤ks.length):dy R (nf s 3 a) (ks.drop a):=by
 obtain ⟨ss,h1,h2,h3⟩:=h.inv
 refine .mk _ (ss.drop a) _ (by simp [h1]) ?_ (fun i hi=>?_)
 ·have:=h2.fr ha
  rw [mr a ks ss h1,← List.length_drop] at this;exact this
 ·have ox:a+i<ks.length:=by rw [List.length_drop] at hi;omega
  have e1:(ss.drop a).getD i undef=ss.getD (a+i) undef:=by simp [List.getD_eq_getElem?_getD]
  have e2:(ks.drop a).getD i default=ks.getD (a+i) default:=by simp [List.getD_eq_getElem?_getD]
  rw [e1,e2];exact h3 (a+i) ox
section
variable {C : Cx} {own : List bk} {B : Bs} {l : List cw} {sl : List (Nat × Value)} {K : Act → World → Prop}
theorem AK.Yv (i:Nat) {s:Value} {ks:List Ex} (a:Nat) (hi:own[i]? = some (aI B l)) (hm:cw.deep s ks∈l) (ha:a≤ks.length) (h:∀ l',(∀ x∈l,x∈l')→cw.deep (nf s 3 a) (ks.drop a)∈l'→AK C ⟨sl,own.set i (aI B l')⟩ K):AK C ⟨sl,own⟩ K:=
 AK.own' _ (fun w hw=>HW.elem i hi (fun F hF=>show (aI B (.deep (nf s 3 a) (ks.drop a) :: l)).holds w F from ⟨fun y hy=>by
  rcases List.mem_cons.1 hy with rfl | hy
  ·exact dy.Z0 (show dy _ s ks from hF.1 _ hm) ha
  ·exact hF.1 y hy,hF.2⟩) hw) (h _ (fun y hy=>List.mem_cons_of_mem _ hy) List.mem_cons_self)
end
end Go.Sx
namespace Go.Sx
open Go.RowKit
section
variable {C : Cx} {sl : List (Nat × Value)} {own : List bk} {dst : Option Nat} {ty : TypeId} {pos : String} {aft : Array Edge} {g : Option (Nat × Bool)} {x y : Operand} {t t' : TypeId}
theorem Yl.IA (ht:(C.P.underlying t).map (fun d=>match d with | .pointer e=>(C.P.info? e).isSome | _=>false)=some true) (hx:bO ⟨sl,own⟩ x=some (.pointer none)) (hy:bO ⟨sl,own⟩ y=some (.pointer none)):Yl C ⟨sl,own⟩ ⟨dst,.binOp .eql t x y t',ty,pos,aft,g⟩ (.bool true):=
 fun a w hs=>by
  obtain ⟨d,hd,h2⟩:=Option.map_eq_some_iff.1 ht
  cases d <;> simp at h2
  rename_i te
  obtain ⟨j,hj⟩:=Option.isSome_iff_exists.1 h2
  have h:∀ d:Nat,(Op.equalIn (d+1) t (.pointer none) (.pointer none)).run C.P w = .ok true w:=fun d=>by simp [Op.equalIn,run_underlying hd,sizeOf,typeInfo,hj]
  have h9:(binOp .eql t (.pointer none) (.pointer none)).run C.P w = .ok (.bool true) w:=by
   simp only [binOp]
   simp [Op.equal,Op.maxDepth,h 9999]
  simp only [execOp,aq hs hx,aq hs hy,eqGuard_at_pointer,Sem.run_bind,Sem.run_pure,h9,Result.andThen_ok]
theorem Yl.Fb {p:Addr} (ht:(C.P.underlying t).map (fun d=>match d with | .pointer e=>(C.P.info? e).isSome | _=>false)=some true) (hx:bO ⟨sl,own⟩ x=some (.pointer (some p))) (hy:bO ⟨sl,own⟩ y=some (.pointer none)):Yl C ⟨sl,own⟩ ⟨dst,.binOp .eql t x y t',ty,pos,aft,g⟩ (.bool false):=
 fun a w hs=>by
  obtain ⟨d,hd,h2⟩:=Option.map_eq_some_iff.1 ht
  cases d <;> simp at h2
  rename_i te
  obtain ⟨j,hj⟩:=Option.isSome_iff_exists.1 h2
  have h:∀ d:Nat,(Op.equalIn (d+1) t (.pointer (some p)) (.pointer none)).run C.P w = .ok false w:=fun d=>by simp [Op.equalIn,run_underlying hd,sizeOf,typeInfo,hj]
  have h9:(binOp .eql t (.pointer (some p)) (.pointer none)).run C.P w = .ok (.bool false) w:=by
   simp only [binOp]
   simp [Op.equal,Op.maxDepth,h 9999]
  simp only [execOp,aq hs hx,aq hs hy,eqGuard_at_pointer,Sem.run_bind,Sem.run_pure,h9,Result.andThen_ok]
theorem Yl.E5 {p:Addr} {te:TypeId} (ht:C.P.underlying t=some (.pointer te)) (h2:(C.P.info? te).isSome=true) (hx:bO ⟨sl,own⟩ x=some (.pointer (some p))) (hy:bO ⟨sl,own⟩ y=some (.pointer (some p))):Yl C ⟨sl,own⟩ ⟨dst,.binOp .neq t x y t',ty,pos,aft,g⟩ (.bool false):=
 fun a w hs=>by
  obtain ⟨j,hj⟩:=Option.isSome_iff_exists.1 h2
  have:=Lib.run_neq_ptr_same (P:=C.P) w p ht hj
  simp only [execOp,aq hs hx,aq hs hy,eqGuard_at_pointer,Sem.run_bind,this,Result.andThen_ok,Sem.run_pure]
theorem iF.shape {b:Nat} {cs:List Value} (h:iF C own b cs) {w:World} (hw:HW C own w):∃ E,w.shape? b=some (E,cs.length):=by
 obtain ⟨E,h⟩:=h w hw
 exact ⟨E,by simp [World.shape?,h]⟩
theorem Yl.KT {s d te:TypeId} {b off:Nat} {cs:List Value} (hs:C.P.underlying s=some (.pointer te)) (hd:C.P.underlying d=some .unsafePointer) (h2:(C.P.info? te).map (fun j=>decide (j.size=0))=some false) (hx:bO ⟨sl,own⟩ x=some (.pointer (some ⟨b,off,none⟩))) (hb:iF C own b cs) (ho:off<cs.length) :
  Yl C ⟨sl,own⟩ ⟨dst,.convert s d x,ty,pos,aft,g⟩ (.pointer (some ⟨b,off,none⟩)):=
 fun a w Jq=>by
  obtain ⟨j,hj,hz⟩:=Option.map_eq_some_iff.1 h2
  obtain ⟨E,XB⟩:=hb.shape Jq.world
  have:=Lib.run_to_unsafe (P:=C.P) w (j:=j) ⟨b,off,none⟩ hs hd hj (by simpa using hz) XB ho
  simp only [execOp,aq Jq hx,Sem.run_bind,this,Result.andThen_ok,Sem.run_pure]
theorem Yl.E9 {s d u E sz:Nat} {b off:Nat} {cs:List Value} (i:Nat) (hi:own[i]? = some (box b E sz cs)) (hs:C.P.underlying s=some .unsafePointer) (hd:C.P.underlying d=some (.pointer u)) (h2:(C.P.info? u).isSome=true) (hl:liesAt C.P C.P.depth E (cs.length / C.P.cellsOf E) off u 1=true) (hx:bO ⟨sl,own⟩ x=some (.pointer (some ⟨b,off,none⟩))) :
  Yl C ⟨sl,own⟩ ⟨dst,.convert s d x,ty,pos,aft,g⟩ (.pointer (some ⟨b,off,none⟩)):=
 fun a w Jq=>by
  obtain ⟨j,hj⟩:=Option.isSome_iff_exists.1 h2
  obtain ⟨hf,Fs,hh,bc⟩:=Jq.world
  have hb:=(hh.at_ i _ hi).1.1
  have XB:w.shape? (⟨b,off,none⟩:Addr).block=some (E,cs.length):=by simp [World.shape?,hb]
  have:=Lib.run_from_unsafe (P:=C.P) w (j:=j) ⟨b,off,none⟩ hs hd hj XB hl
  simp only [execOp,aq Jq hx,Sem.run_bind,this,Result.andThen_ok,Sem.run_pure]
def Qk (P:Program) (f:FuncId):Prop:=∃ fn,P.funcs[f]? = some fn∧(fn.name == "runtime.NumGoroutine")=false∧fn.body.isNone=true∧(Extern.findNext fn).isNone=true∧Extern.find fn=some Extern.AbiNoEscape.same
theorem Yl.Vm {f:FuncId} {yL:Array TypeId} {v:Value} (hf:Qk C.P f) (hx:bO ⟨sl,own⟩ x=some v):Yl C ⟨sl,own⟩ ⟨dst,.call ⟨.value (.func f),#[x],yL⟩,ty,pos,aft,g⟩ v:=
 fun a w hs=>by
  obtain ⟨fn,h1,h2,h3,h4,h5⟩:=hf
  have hr:=run_callFunc_extern (P:=C.P) h1 h2 h3 (by simpa using h4) h5 #[v] w
  have he:(Extern.AbiNoEscape.same #[v]).run C.P w = .ok v w:=Lib.run_noEscape w v
  rw [he] at hr
  have uE:=aq hs hx
  simp only [Result.andThen_ok] at hr
  have e0:a.eval (.func f) = .func (.func f) #[] #[]:=rfl
  simp [execOp,resolve,e0,Deferred.ofValue,invoke,uE,hr]
end
section
variable {C : Cx} {sl : List (Nat × Value)} {own : List bk} {ops : Array Oper} {Q : Exit → Act → World → Prop} {ty : TypeId} {pos : String} {aft : Array Edge} {g : Option (Nat × Bool)} {rest : List Oper}
theorem Dw (l:List UInt8):Lib.strCells ⟨l.toArray⟩ = l.map rC:=by simp [Lib.strCells,rC]
theorem s7 {P:Program} (w:World) (t u ty e:TypeId) (i:TypeInfo) (ht:P.underlying t=some (.slice e)) (hu:P.underlying u=some .string) (hi:P.info? e=some i) (hz:i.zero=some (.int .u8 0)) (oP:i.size=1) (Pg:i.bytes=1)
  (v:Value) (n:Nat) (xs:List Value) (c4:w.ownsRow 0 e 1 v n xs) (s:ByteArray) (hb:n+s.size≤140737488355328) :
  ∃ v' w',(Builtin.append_ #[t,u] ty #[v,.string s]).run P w = .ok v' w'∧w'.ownsRow 0 e 1 v' (n+s.size) (xs++Lib.strCells s)∧w.grownBy w' v.ownBlock∧(∀ b,v'.ownBlock=some b→v.ownBlock=some b∨w.heap.size≤b):=by
 have Mx:n+s.size≤maxLen:=by simp only [maxLen];omega
 have TL:xs.length=n:=by simpa using c4.1
 have hlen:(xs++Lib.strCells s).length=(n+s.size) * 1:=by rw [List.length_append,TL,Lib.strCells_length,Nat.mul_one]
 rcases c4.2 with ⟨rfl,rfl⟩ | ⟨gb,cap,cur,rfl,_,hg,mc,vo,oB,jF⟩
 ·obtain ⟨v',w',e1,e2,e3,_⟩:=Lib.run_append_own_string (P:=P) w w.heap.size t u ty e i ht hu hi hz oP Pg _ 0 xs (fZ c4 (by simp [Value.ownBlock])) s Mx hb (Nat.le_refl _)
  exact ⟨v',w',e1,fZ e2 (fun b _=>Nat.zero_le _),e3,fun b hb=>.inr (e2.lt b hb).1⟩
 ·by_cases qw:n+s.size≤cap
  ·have HB:cur.size=cap:=by simpa using oB
   have hr:=Lib.run_append_room_string (P:=P) w t u ty e i ht hu hi oP gb n cap cur hg s qw (by omega)
   refine ⟨_,_,hr,⟨hlen,.inr ⟨gb,cap,_,rfl,Nat.zero_le _,setRow_heap w gb cur _ e _ hg,qw,vo,?_,?_⟩⟩,⟨rfl,rfl,rfl,by simp,fun k _ hk=>setRow_other w gb k _ (fun e=>hk (by simp [Value.ownBlock,e]))⟩,fun b hb=>.inl hb⟩
   ·simp only [List.size_toArray,List.length_append,List.length_take,List.length_drop,Array.length_toList,Lib.strCells_length]
    omega
   ·have ht':cur.toList.take n=xs:=by simpa using jF
    rw [ht',← hlen]
    exact List.take_left
  ·have holds:∀ j u,xs[j]? = some u→w.cell? ((⟨gb,0,none⟩:Addr).add j)=some u:=c4.cells (g:=gb) rfl
   have hr:=Lib.run_append_grow_string (P:=P) w t u ty e i (.int .u8 0) ht hu hi hz ⟨gb,0,none⟩ n cap xs (by rw [oP];simpa using TL) holds s (by omega) (by omega) (by rw [Pg];exact growslice_fits (by omega) (by omega))
   have Hp:=grownCap_ge w (n+s.size) cap e
   have Jv:grownCap w (n+s.size) cap e≤maxLen:=grownCap_le_maxLen w (n+s.size) cap e Mx
   refine ⟨_,_,hr,⟨hlen,.inr ⟨w.heap.size,_,_,rfl,Nat.zero_le _,heap_alloc_new w.drew _,Hp,Jv,?_,?_⟩⟩,⟨rfl,rfl,rfl,by simp,fun k hk _=>Below.heap_alloc w.drew _ k hk⟩,fun b hb=>.inr (by simp [Value.ownBlock] at hb;omega)⟩
   ·have hz1:(Value.int IntKind.u8 0).cells.size=1:=rfl
    simp only [Array.size_append,List.size_toArray,size_zeroCells,hz1,TL,Lib.strCells_length]
    omega
   ·simp only [Array.toList_append,List.append_assoc]
    rw [← List.append_assoc,← hlen]
    exact List.take_left
theorem AK.IJ (i:Nat) {d:Nat} {s x:Operand} {t u E:TypeId} {v:Value} {n:Nat} {cs:List Value} {l:List UInt8} (hi:own[i]? = some (row v E 1 n cs)) (ht:oC C.P t E 1) (hE:gX C.P E (.int .u8 0) 1 1) (hu:C.P.underlying u=some .string)
  (hx:bO ⟨sl,own⟩ s=some v) (hy:bO ⟨sl,own⟩ x=some (sv l)) (hb:n+l.length≤140737488355328) (hg:nc ops sl g) (hd:Nat.blt d C.N=true)
  (h:∀ v',AK C ⟨(d,v') :: sl,own.set i (row v' E 1 (n+l.length) (cs++l.map rC))⟩ (wpList C.P ops Q rest)) :
  AK C ⟨sl,own⟩ (wpList C.P ops Q (⟨some d,.call ⟨.builtin .append,#[s,x],#[t,u]⟩,ty,pos,aft,g⟩ :: rest)):=by
 intro a w hs
 refine wpList_step fun K hK=>?_
 rw [if_pos (bA hs hg)]
 obtain ⟨inf,ta,yQ,Pc,MQ⟩:=hE.inf
 obtain ⟨hf,Fs,hh,bc⟩:=hs.world
 obtain ⟨c4,Ja⟩:=hh.at_ i _ hi
 have qI:(⟨l.toArray⟩:ByteArray).size=l.length:=by simp [ByteArray.size]
 obtain ⟨v',w',e1,e2,e3,e4⟩:=s7 (P:=C.P) w t u ty E inf ht.1 hu ta yQ Pc MQ v n cs c4 ⟨l.toArray⟩ (by rw [qI];exact hb)
 have ie:(execOp a.eval ⟨some d,.call ⟨.builtin .append,#[s,x],#[t,u]⟩,ty,pos,aft,g⟩).run C.P w = .ok (.value v') w':=by
  have Xr:a.eval x = .string ⟨l.toArray⟩:=aq hs hy
  simp [execOp,resolve,invoke,builtin,aq hs hx,Xr,e1]
 simp only [Oper.wp,ie,Oper.upon]
 rw [Dw,qI] at e2
 refine hK _ _ (h v' _ _ ?_)
 have bZ:i<own.length:=(List.getElem?_eq_some_iff.1 hi).1
 have qo:=HW.update (own2:=[]) (A':=row v' E 1 (n+l.length) (cs++l.map rC)) hf hh bc bZ (.lJ e3 (fun k hk=>(Ja k).2 hk.symm) (pQ _ _ _ _ e1)) (cj.one (lU e2)) (fun j b hb=>(e4 b hb.2).imp (Ja b).2 id)
 rw [List.append_nil] at qo
 exact hs.put qo (d:=some d) (fun i hi=>by cases hi;simpa [Nat.blt_eq] using hd) v'
end
section
variable {C : Cx} {sl : List (Nat × Value)} {own : List bk} {dst : Option Nat} {ty : TypeId} {pos : String} {aft : Array Edge} {g : Option (Nat × Bool)} {x y : Operand} {t t' : TypeId}
theorem Yl.HU {x:Operand} {yL:Array TypeId} {ad:Addr} {n c:Nat} (hx:bO ⟨sl,own⟩ x=some (.slice (some ad) n c)) (hc:c ≠ 0) :
  Yl C ⟨sl,own⟩ ⟨dst,.call ⟨.builtin .unsafeSliceData,#[x],yL⟩,ty,pos,aft,g⟩ (.pointer (some ad)):=
 fun a w hs=>by
  have h:=Lib.run_unsafeSliceData_row (P:=C.P) (w:=w) yL ty ad n c hc
  simp [execOp,resolve,invoke,builtin,aq hs hx,h]
theorem S7 {w:World} {F:Nat→Prop} {v:Value} {U:TypeId} {n:Nat} {cs:List Value} (h:(row v U 1 n cs).holds w F) (hn:0<n):∃ gb cap,v = .slice (some ⟨gb,0,none⟩) n cap∧cap ≠ 0:=by
 rcases h.1.2 with ⟨_,rfl⟩ | ⟨gb,cap,cur,rfl,_,_,mc,_⟩
 ·omega
 ·exact ⟨gb,cap,rfl,by omega⟩
end
section
variable {C : Cx} {sl : List (Nat × Value)} {own : List bk} {ops : Array Oper} {Q : Exit → Act → World → Prop} {ty : TypeId} {pos : String} {aft : Array Edge} {g : Option (Nat × Bool)} {rest : List Oper}
theorem AK.HP (i:Nat) {d:Nat} {x y:Operand} {pt it E:TypeId} {gb n cap:Nat} {l:List UInt8} (hi:own[i]? = some (row (.slice (some ⟨gb,0,none⟩) n cap) E 1 n (l.map rC))) (hp:C.P.underlying pt=some (.pointer E)) (hc:C.P.cellsOf E=1)
  (h0:l ≠ []) (hn:n=l.length) (hx:bO ⟨sl,own⟩ x=some (.pointer (some ⟨gb,0,none⟩))) (hy:bO ⟨sl,own⟩ y=some (.int .i64 n)) (hg:nc ops sl g) (hd:Nat.blt d C.N=true)
  (h:AK C ⟨(d,sv l) :: sl,own.set i om⟩ (wpList C.P ops Q rest)) :
  AK C ⟨sl,own⟩ (wpList C.P ops Q (⟨some d,.call ⟨.builtin .unsafeString,#[x,y],#[pt,it]⟩,ty,pos,aft,g⟩ :: rest)):=by
 subst hn
 intro a w hs
 refine wpList_step fun K hK=>?_
 rw [if_pos (bA hs hg)]
 obtain ⟨hf,Fs,hh,bc⟩:=hs.world
 obtain ⟨c4,Ja⟩:=hh.at_ i _ hi
 have wI:=c4.cells (g:=gb) rfl
 have ie:(execOp a.eval ⟨some d,.call ⟨.builtin .unsafeString,#[x,y],#[pt,it]⟩,ty,pos,aft,g⟩).run C.P w = .ok (.value (sv l)) (w.freeze ⟨gb,0,none⟩ l.length):=by
  rcases c4.2 with ⟨hv,_⟩ | ⟨g1,abh,cur,hv,_,WO,mc,vo,oB,_⟩
  ·cases hv
  ·cases hv
   have h1:=Lib.run_unsafeString_row (P:=C.P) w pt it ty E hp hc gb cur.size (by simp [World.shape?,WO]) l h0 (by omega) (by unfold maxLen at vo;omega) (fun j u hu=>wI j _ (by simp [hu,rC]))
   simp [execOp,resolve,invoke,builtin,aq hs hx,aq hs hy,h1,sv]
 simp only [Oper.wp,ie,Oper.upon]
 refine hK _ _ (h _ _ ?_)
 have bZ:i<own.length:=(List.getElem?_eq_some_iff.1 hi).1
 have hfx:bj (Fs i) w (w.freeze ⟨gb,0,none⟩ l.length):=by
  unfold World.freeze
  split
  ·exact bj.refl _ _
  ·exact ⟨rfl,rfl,rfl,by simp,fun k hk hF=>by
    simp only [Array.getElem?_modify]
    rw [if_neg (fun e=>hF ((Ja k).2 (by simp [Value.ownBlock,e])))],Nat.le_refl _⟩
 have qo:=HW.update (own2:=[]) (A':=om) hf hh bc bZ hfx (cj.one (A:=om) (F:=fun _=>False) (fun b hb=>hb)) (fun j b hb=>hb.2.elim)
 rw [List.append_nil] at qo
 exact hs.put qo (d:=some d) (fun i hi=>by cases hi;simpa [Nat.blt_eq] using hd) (sv l)
end
end Go.Sx
namespace Go.Sx
open Go.RowKit
def wm (b:Nat) (ad:Value):Prop:=ad = .pointer none∨ad = .pointer (some ⟨b,0,none⟩)
def qS (T U:TypeId) (b:Nat) (ad v:Value) (l:List UInt8):bk:=bh [box b T 2 [ad,v],row v U 1 l.length (l.map rC)]
theorem zP (T U:TypeId) (b:Nat) (ad v:Value) (l m:List UInt8):bh [box b T 2 [ad,v],row v U 1 (l.length+m.length) (l.map rC++m.map rC)]=qS T U b ad v (l++m):=by
 unfold qS;rw [List.length_append,List.map_append]
theorem Vo {n:Int} (h:0≤n∧n<6):(((97+UInt8.ofNat n.toNat:UInt8).toNat:Nat):Int)=97+n:=by
 obtain ⟨m,rfl⟩:∃ m:Nat,n=m:=⟨n.toNat,by omega⟩
 have:m=0∨m=1∨m=2∨m=3∨m=4∨m=5:=by omega
 rcases this with rfl | rfl | rfl | rfl | rfl | rfl <;> rfl
theorem lS (e:Ex):jA e=if e.op=1 then [48] else if e.op=2 then [49] else if e.op=3 then [97+UInt8.ofNat e.lt.toNat] else if e.op=4 then jv [124] 2 false e.kids else if e.op=6 then jv [38] 3 false e.kids
  else if e.op=5 then jv [] 4 false e.kids else if e.op=8 then 33 :: jv [] 4 false e.kids else if e.op=7 then jv [] 5 false e.kids++[42] else []:=by
 cases e with | mk op lt ks=>simp only [jA,Ex.op,Ex.lt,Ex.kids];rfl
def oR (least:Int) (k:Ex):List UInt8:=if least≤eh k.op then jA k else 40 :: (jA k++[41])
theorem CF (sep:List UInt8) (least:Int) (k:Ex):∀ (b:Bool) (ks:List Ex),jv sep least b (ks++[k])=jv sep least b ks++((if b || !ks.isEmpty then sep else [])++oR least k)
 | b,[]=>by cases b <;> simp [jv,oR]
 | b,x :: ks=>by
  simp only [List.cons_append,jv,CF sep least k true ks,Bool.true_or,if_true,List.isEmpty_cons,Bool.not_false,Bool.or_true,List.append_assoc]
theorem CE (sep:List UInt8) (least:Int) (ks:List Ex) (k:Nat) (hk:k<ks.length):jv sep least false (ks.take (k+1))=jv sep least false (ks.take k)++((if 0<k then sep else [])++oR least (ks.getD k default)):=by
 rw [aO default ks k hk,CF]
 congr 2
 rcases Nat.eq_zero_or_pos k with rfl | h
 ·simp
 ·have:(ks.take k).isEmpty=false:=by
   cases ks with
   | nil=>simp at hk
   | cons a l=>obtain ⟨m,rfl⟩:∃ m,k=m+1:=⟨k - 1,by omega⟩;rfl
  rw [this];simp [h]
theorem RP (sep:List UInt8) (least:Int) (ks:List Ex) (k:Nat):(jv sep least false (ks.take k)).length≤(jv sep least false ks).length:=by
 have:∀ (m:Nat),k≤m→m≤ks.length→(jv sep least false (ks.take k)).length≤(jv sep least false (ks.take m)).length:=by
  intro m h1 h2
  induction m with
  | zero=>rw [show k=0 by omega];exact Nat.le_refl _
  | succ m ih=>
   rcases Nat.lt_or_ge k (m+1) with h | h
   ·rw [CE sep least ks m (by omega),List.length_append]
    have:=ih (by omega) (by omega)
    omega
   ·rw [show k=m+1 by omega];exact Nat.le_refl _
 rcases Nat.lt_or_ge k ks.length with h | h
 ·have:=this ks.length (by omega) (Nat.le_refl _)
  rwa [List.take_length] at this
 ·rw [List.take_of_length_le h];exact Nat.le_refl _
theorem II (least:Int) (k:Ex):(jA k).length≤(oR least k).length:=by
 unfold oR;split
 ·exact Nat.le_refl _
 ·simp;omega
theorem zy {e:Ex} {t:List UInt8} (h:Ac e=some t):(cg e 6=0∧t=jA e∧(jA e).length≤1073741824)∨(cg e 6 ≠ 0∧t=[]):=by
 unfold Ac at h
 split at h
 ·obtain ⟨h1,h2⟩:=js h
  exact .inl ⟨by assumption,h1,h2⟩
 ·cases h;exact .inr ⟨by assumption,rfl⟩
theorem CG {e:Ex} {n:Int} (h:cg e n=0):dg n e=true:=by
 unfold cg at h
 split at h
 ·cases h
 ·split at h
  ·split at h
   ·assumption
   ·cases h
  ·cases h
theorem nr {e:Ex} {n:Int} (h:dg n e=true) {i:Nat} (hi:i<e.kids.length):dg n (e.kids.getD i default)=true:=by
 rw [dZ] at h
 have kA:e.kids.all (dg n)=true→dg n (e.kids.getD i default)=true:=fun ha=>by
  rw [List.all_eq_true] at ha
  have:=ha e.kids[i] (List.getElem_mem hi)
  simpa [List.getD_eq_getElem?_getD,hi] using this
 split at h
 ·simp only [Bool.and_eq_true,beq_iff_eq] at h;omega
 ·split at h
  ·cases h
  ·split at h
   ·simp only [beq_iff_eq] at h;omega
   ·split at h
    ·simp only [Bool.and_eq_true] at h;exact kA h.2
    ·split at h
     ·simp only [Bool.and_eq_true] at h;exact kA h.2
     ·cases h
theorem HO {e:Ex} {n:Int} (h:dg n e=true) (ho:e.op=3):0≤e.lt∧e.lt<n:=by
 rw [dZ,if_pos ho] at h
 simp only [Bool.and_eq_true,decide_eq_true_eq] at h
 exact ⟨h.1.2,h.2⟩
end Go.Sx
namespace Go.Sx
open Go.RowKit
theorem Qc (a b:List UInt8):((⟨a.toArray⟩:ByteArray) == ⟨b.toArray⟩)=decide (a=b):=by
 show (a.toArray == b.toArray)=decide (a=b)
 rw [Bool.eq_iff_iff,beq_iff_eq,decide_eq_true_eq]
 constructor
 ·intro h;simpa using h
 ·intro h;rw [h]
theorem GK {P:Program} {kt:TypeId} (hk:P.underlying kt=some .string):yA P kt sv where
 find:=by
  intro a es ks w h
  have now:∀ (es:List MapEntry) (ks:List (List UInt8)) (j:Nat),es.map (·.key)=ks.map sv→Instr.findNow .string (sv a) es j=some ((iU a ks).bind fun i=>(es[i]?).map fun e=>(j+i,e.val)):=by
   intro es
   induction es with
   | nil=>intro ks j h;cases ks with
    | nil=>simp [Instr.findNow,iU]
    | cons k ks=>simp at h
   | cons e es ih=>
    intro ks j h
    cases ks with
    | nil=>simp at h
    | cons k ks=>
     simp at h
     have hq:Instr.sameNow .string (sv a) (sv k)=some (decide (a=k)):=by
      show some ((⟨a.toArray⟩:ByteArray) == ⟨k.toArray⟩)=_
      rw [Qc]
     simp only [Instr.findNow,h.1,hq,iU]
     by_cases MU:a=k
     ·simp [MU]
     ·simp only [MU,decide_false,if_false]
      rw [ih ks (j+1) (by simpa using h.2)]
      cases iU a ks with
      | none=>simp
      | some i=>
       simp only [Option.map_some,Option.bind_some,List.getElem?_cons_succ]
       cases es[i]? with
       | none=>rfl
       | some e'=>simp;omega
  simp only [Instr.findKey,Sem.run_bind,run_underlying hk,Result.andThen_ok,now es ks 0 h]
  simp
 check:=by
  intro e a w
  have:∀ n,(Instr.checkKey e (n+1) kt (sv a)).run P w = .ok () w:=fun n=>by simp [Instr.checkKey,run_underlying hk,sv]
  exact this 9999
 same:=by
  intro a
  have:∀ n,Instr.sameBits (n+1) (sv a) (sv a)=true:=fun n=>by
   show ((⟨a.toArray⟩:ByteArray) == ⟨a.toArray⟩)=true
   rw [Qc];simp
  exact this 9999
def qg (TR TE Ye TI:Nat) (rb mb:Nat) (vE vN:Value) (es rs:List Value) (r:mZ) (B:Bs) (l:List cw):List bk:=
 [box rb TR 5 [.int .i64 (r.L:Int),vE,vN,.int .i64 (r.dn:Int),.map (some mb)],row vE TE 3 r.ex.length (dc r.ex es),row vN Ye 1 r.nx.length rs,bh (dQ (Value.int .i64) TI rs r.nx),mapA mb (kx sv (Value.int .i64) r.num),aI B l]
structure oI (vE vN:Value) (es rs:List Value) (r:mZ) (l:List cw):Prop where
 eL:es.length=r.ex.length
 g:kJ l r.ex es
 rl:rs.length=r.nx.length
 sE:aB vE
 sN:aB vN
 le:r.ex.length≤512
 dn:r.dn≤r.ex.length
 nl:r.nx.length=r.dn
 Lb:r.L≤6
theorem uC {r q:mZ} {e:Ex} (h:qV r e=some q):∃ t,Ac e=some t∧q = { r with ex:=r.ex++[e],num:=jI r.num t (r.ex.length:Int) }:=by
 unfold qV at h
 obtain ⟨t,ht,h⟩:=bind_some h
 cases h
 exact ⟨t,ht,rfl⟩
theorem kC {ks:List Ex} {ss:List Value} (h:ss.length=ks.length) (e:Ex) (s:Value) (z:List Value) (hz:z.length=3) :
  (dc ks ss++z).take (ks.length * 3)++[.int .i64 e.op,.int .i64 e.lt,s]++(dc ks ss++z).drop (ks.length * 3+3)=dc (ks++[e]) (ss++[s]):=by
 have hl:=nM ks ss h
 rw [List.take_left' hl,List.drop_eq_nil_of_le (by simp [hl,hz]),List.append_nil,wQ _ _ _ _ h]
theorem oI.add {vE v2 vN:Value} {es rs:List Value} {r q:mZ} {l:List cw} {e:Ex} {s:Value} (h:oI vE vN es rs r l) (hq:qV r e=some q) (bZ:r.ex.length<512) (hd:cw.deep s e.kids∈l) (hs:aB s) (h2:aB v2):oI v2 vN (es++[s]) rs q l:=by
 obtain ⟨t,ht,rfl⟩:=uC hq
 have h1:=h.eL;have h3:=h.dn
 refine ⟨by simp [h1],?_,h.rl,h2,h.sN,by simp;omega,by simp;omega,h.nl,h.Lb⟩
 have g':kJ l (r.ex++[e]) es:=⟨fun i hi=>by
  have:=h.g.d i hi
  rw [pW,if_pos (by omega)];exact this,h.g.s⟩
 exact g'.snoc (by rw [pW,h1,if_neg (by omega),if_pos rfl];exact hd) hs
theorem oI.later {vE vN:Value} {es rs:List Value} {r:mZ} {l l':List cw} (h:oI vE vN es rs r l) (hs:∀ x∈l,x∈l'):oI vE vN es rs r l':=⟨h.eL,h.g.later hs,h.rl,h.sE,h.sN,h.le,h.dn,h.nl,h.Lb⟩
theorem Ib {n x:Nat} {r:mZ} {row:List Int} {f:mZ × List Int × Int} (h:qM (n+1) x r row=some f):∃ p,letE (r.ex.getD r.dn default) (x:Int)=some p∧((p.2 ≠ 0∧f=(r,row,p.2))∨(p.2=0∧∃ t,Ac p.1=some t ∧
  ((∃ i,dq r.num t=some i∧qM n (x+1) r (row++[i])=some f)∨(dq r.num t=none∧((r.ex.length=512∧f=(r,row,3))∨(r.ex.length ≠ 512∧∃ r2,qV r p.1=some r2∧qM n (x+1) r2 (row++[(r.ex.length:Int)])=some f)))))):=by
 rw [qM] at h
 obtain ⟨p,hp,h⟩:=bind_some h
 refine ⟨p,hp,?_⟩
 by_cases h0:p.2=0
 ·rw [if_neg (by simp [h0])] at h
  obtain ⟨t,ht,h⟩:=bind_some h
  refine .inr ⟨h0,t,ht,?_⟩
  cases hm:dq r.num t with
  | some i=>rw [hm] at h;exact .inl ⟨i,rfl,h⟩
  | none=>
   rw [hm] at h
   refine .inr ⟨rfl,?_⟩
   by_cases h5:r.ex.length=512
   ·simp only [h5,if_true] at h;cases h;exact .inl ⟨h5,rfl⟩
   ·simp only [h5,if_false] at h
    obtain ⟨r2,h2,h⟩:=bind_some h
    exact .inr ⟨h5,r2,h2,h⟩
 ·rw [if_pos h0] at h;cases h;exact .inl ⟨h0,rfl⟩
theorem E3 {q:mZ} {res:mZ × Int} (h:wo q=some res):∃ f,qM q.L 0 q []=some f∧res=(if f.2.2 ≠ 0 then (f.1,f.2.2) else ({ f.1 with nx:=f.1.nx++[f.2.1],dn:=f.1.dn+1 },0)):=by
 unfold wo at h
 obtain ⟨f,hf,h⟩:=bind_some h
 refine ⟨f,hf,?_⟩
 split at h <;> (cases h;split <;> first | rfl | contradiction)
theorem Fp {r q:mZ} {e:Ex} (h:qV r e=some q):q.L=r.L∧q.nx=r.nx∧q.dn=r.dn∧q.ex=r.ex++[e]:=by
 obtain ⟨t,ht,rfl⟩:=uC h
 exact ⟨rfl,rfl,rfl,rfl⟩
theorem oI.done {vE vN v2 mv:Value} {es rs:List Value} {r:mZ} {l:List cw} (h:oI vE vN es rs r l) (bZ:r.dn<r.ex.length) (s2:aB v2) (row:List Int):oI vE v2 es (rs++[mv]) { r with nx:=r.nx++[row],dn:=r.dn+1 } l:=by
 have h1:=h.rl;have h2:=h.nl
 exact ⟨h.eL,h.g,by simp [h1],h.sE,s2,h.le,bZ,by simp [h2],h.Lb⟩
end Go.Sx
namespace Go.Sx
open Go.RowKit
theorem Gw {C:Cx} {own:List bk} {w:World} {TR TE Ye TI rb mb:Nat} {vE vN:Value} {es rs:List Value} {q:mZ} {B:Bs} {l:List cw} (hw:HW C own w) (i:Nat) (hi:own[i]? = some (bh (qg TR TE Ye TI rb mb vE vN es rs q B l))) :
  qL w rb [.int .i64 (q.L:Int),vE,vN,.int .i64 (q.dn:Int),.map (some mb)]∧Rd (fun b=>¬ (fun _=>False) b) w vE 3 q.ex.length (dc q.ex es):=by
 obtain ⟨_,Fs,hh,_⟩:=hw
 obtain ⟨Gs,gh,_⟩:=hh.at_ i _ hi
 refine ⟨⟨TR,(gh.at_ 0 _ rfl).1.1⟩,(oT (gh.at_ 1 _ rfl)).mono fun b _ _=>⟨id,rfl⟩⟩
theorem xM {n:Nat} {r:mZ} {p:mZ × Int} (h:qt n r=some p):∃ m,n=m+1∧((r.dn=r.ex.length∧p=(r,0))∨(r.dn ≠ r.ex.length∧∃ q,wo r=some q∧((q.2 ≠ 0∧p=q)∨(q.2=0∧qt m q.1=some p)))):=by
 cases n with
 | zero=>cases h
 | succ m=>
  refine ⟨m,rfl,?_⟩
  rw [qt] at h
  split at h
  ·cases h;exact .inl ⟨by assumption,rfl⟩
  ·obtain ⟨q,hq,h⟩:=bind_some h
   refine .inr ⟨by assumption,q,hq,?_⟩
   split at h
   ·cases h;exact .inl ⟨by assumption,rfl⟩
   ·exact .inr ⟨by omega,h⟩
theorem xZ {e:Ex} {n:Int} (h:cg e n=0):1≤n∧n≤6:=by
 unfold cg at h
 split at h
 ·cases h
 ·omega
theorem vi {e:Ex} {n:Int} {res:bB × Int} (h:re e n=some res):(cg e n ≠ 0∧res=(rN,cg e n))∨(cg e n=0∧∃ e1 r p,uO e=some e1∧qV ⟨n.toNat,[],[],0,[]⟩ e1=some r∧qt 600 r=some p∧((p.2 ≠ 0∧res=(rN,p.2))∨(p.2=0∧res=(qU p.1,0)))):=by
 unfold re at h
 split at h
 ·cases h;exact .inl ⟨by assumption,rfl⟩
 ·obtain ⟨e1,h1,h⟩:=bind_some h
  obtain ⟨r,h2,h⟩:=bind_some h
  obtain ⟨p,h3,h⟩:=bind_some h
  refine .inr ⟨by omega,e1,r,p,h1,h2,h3,?_⟩
  split at h
  ·cases h;exact .inl ⟨by assumption,rfl⟩
  ·cases h;exact .inr ⟨by omega,rfl⟩
end Go.Sx
namespace Go.Sx
open Go.RowKit
section
variable {C : Cx} {sl : List (Nat × Value)} {own : List bk} {dst : Option Nat} {ty : TypeId} {pos : String} {aft : Array Edge} {g : Option (Nat × Bool)} {x y : Operand} {t t' : TypeId}
theorem Yl.Yx {k:IntKind} {m n:Int} (r:Int) (hx:bO ⟨sl,own⟩ x=some (.int .i64 m)) (hy:bO ⟨sl,own⟩ y=some (.int k n)) (hn:0≤n∧n≤62) (e:m * 2 ^ n.toNat=r) (hr:-9223372036854775808≤r∧r≤9223372036854775807) :
  Yl C ⟨sl,own⟩ ⟨dst,.binOp .shl t x y t',ty,pos,aft,g⟩ (.int .i64 r):=
 fun a w hs=>by
  have h1:Min.min n.toNat 64=n.toNat:=by omega
  have h2:¬ n<0:=by omega
  simp only [execOp,aq hs hx,aq hs hy]
  simp [go_sem,binOp,Op.shift,IntKind.bits,h1,h2,e,rU hr.1 hr.2]
end
theorem Qf {m:Nat} (h:m<64):RD (m:Int) 63=m:=by
 have:∀ k:Fin 64,RD ((k.val:Nat):Int) 63=k.val:=by decide
 exact this ⟨m,h⟩
theorem JZ {m:Nat} (h:m<64):(m:Int) / 2 ^ (6:Int).toNat=0:=by
 show (m:Int) / 64=0
 omega
def jE (e:Ex) (wd:List UInt8) (i:Nat):cF:=
 if e.op=2 then 0 ||| ((1:cF) <<< i) else if e.op=3∧i<wd.length∧((wd.getD i 0).toNat:Int) - 97=e.lt then 0 ||| ((1:cF) <<< (i+1)) else 0
def Ap (e:Ex):Prop:=e.op ≠ 4∧e.op ≠ 5∧e.op ≠ 6∧e.op ≠ 7∧e.op ≠ 8
theorem Ga {wd:List UInt8} (h:gK 6 wd=true) {i:Nat} (hi:i<wd.length):97≤((wd.getD i 0).toNat:Int)∧((wd.getD i 0).toNat:Int)≤102:=by
 unfold gK at h
 rw [Bool.and_eq_true,List.all_eq_true] at h
 have:=h.2 _ (List.getElem_mem hi)
 have e:wd.getD i 0=wd[i]:=by simp [List.getD_eq_getElem?_getD,hi]
 rw [e]
 unfold okB at this
 simp at this
 omega
theorem OR (x:cF) (i:Nat):decide (x >>> i &&& 1=1)=x.getLsbD i:=by
 have e:(x >>> i &&& 1).toNat=(x.toNat >>> i) % 2:=by
  rw [BitVec.toNat_and,BitVec.toNat_ushiftRight]
  exact Nat.and_one_is_mod _
 have e2:x.getLsbD i=decide ((x.toNat >>> i) % 2=1):=by
  show x.toNat.testBit i=_
  rw [Nat.testBit,Nat.and_comm,Nat.and_one_is_mod]
  rcases Nat.mod_two_eq_zero_or_one (x.toNat >>> i) with h | h <;> simp [h]
 rw [e2]
 apply decide_eq_decide.2
 constructor
 ·intro h;rw [← e,h];rfl
 ·intro h;apply BitVec.eq_of_toNat_eq;rw [e,h];rfl
theorem AS {n i:Nat} {v z d:Value} (hi:i<n):((List.replicate n z).set i v).getD i d=v:=by
 simp [List.getD_eq_getElem?_getD,List.getElem?_set,hi]
end Go.Sx
namespace Go.Sx
open Go.RowKit
section
variable {C : Cx} {own l : List bk} {w : World}
end
section
variable {wd : List UInt8} {P Q : List UInt8 → Prop} {i j : Nat}
theorem ND (x:cF) (i j:Nat) (hj:j<64):(x <<< i).getLsbD j=(decide (i≤j) && x.getLsbD (j - i)):=by
 rw [BitVec.getLsbD_shiftLeft]
 by_cases h:j<i
 ·simp [h,show ¬ i≤j by omega]
 ·simp [h,hj,show i≤j by omega]
end
end Go.Sx
namespace Go.Sx
open Go.RowKit
end Go.Sx
namespace Go.Sx
open Go.RowKit
def ba (ps rs:List Ex):List Ex:=ps.map fun p=>jC (p :: rs)
theorem GQ (ps rs:List Ex):(ba ps rs).length=ps.length:=by simp [ba]
theorem GR {ps rs:List Ex} {k:Nat} (h:k<ps.length):(ba ps rs).getD k default=jC (ps.getD k default :: rs):=by simp [ba,List.getD_eq_getElem?_getD,h]
theorem kJ.app {l:List cw} {L M:List Ex} {ts us:List Value} (h:kJ l L ts) (hl:ts.length=L.length) (h2:kJ l M us):kJ l (L++M) (ts++us):=by
 have hv:∀ i,i<(ts++us).length→(i<ts.length∧(ts++us).getD i undef=ts.getD i undef∧(L++M).getD i default=L.getD i default) ∨
   (i - ts.length<us.length∧(ts++us).getD i undef=us.getD (i - ts.length) undef∧(L++M).getD i default=M.getD (i - ts.length) default):=fun i hi=>by
  simp only [List.getD_eq_getElem?_getD]
  rcases Nat.lt_or_ge i ts.length with h | h
  ·exact .inl ⟨h,by rw [List.getElem?_append_left h],by rw [List.getElem?_append_left (by omega)]⟩
  ·rw [List.length_append] at hi
   exact .inr ⟨by omega,by rw [List.getElem?_append_right h],by rw [List.getElem?_append_right (by omega),hl]⟩
 refine ⟨fun i hi=>?_,fun i hi=>?_⟩
 ·rcases hv i hi with ⟨h3,h4,h5⟩ | ⟨h3,h4,h5⟩
  ·rw [h4,h5];exact h.d i h3
  ·rw [h4,h5];exact h2.d _ h3
 ·rcases hv i hi with ⟨h3,h4,h5⟩ | ⟨h3,h4,h5⟩
  ·rw [h4];exact h.s i h3
  ·rw [h4];exact h2.s _ h3
theorem kJ.all {l:List cw} {L:List Ex} {ts:List Value} (h:kJ l L ts) (hl:ts.length=L.length):∀ k,k<L.length→cw.deep (ts.getD k undef) (L.getD k default).kids∈l:=fun k hk=>h.d k (by omega)
theorem kJ.sub {l:List cw} {L M:List Ex} {ts us:List Value} (h:kJ l L ts) (hl:ts.length=L.length) (hp:kS M us L ts):kJ l M us:=
 ⟨fun i hi=>hp.deep (h.all hl) i (by rw [← hp.len];exact hi),fun i hi=>hp.qd (fun k hk=>h.s k (by omega)) i (by rw [← hp.len];exact hi)⟩
theorem uu {l:List cw} {b:Ex} {rs:List Ex} {sb:Value} {rr:List Value} (hb:cw.deep sb b.kids∈l) (h:∀ k,k<rs.length→cw.deep (rr.getD k undef) (rs.getD k default).kids∈l):∀ k,k<(b :: rs).length→cw.deep ((sb :: rr).getD k undef) ((b :: rs).getD k default).kids∈l
 | 0,_=>hb
 | k+1,hk=>h k (by simpa using hk)
theorem GB {a:Int}:∀ (A B:List Ex),ot a (A++B)=ot a A++ot a B
 | [],B=>by rw [ot];rfl
 | k :: A,B=>by rw [List.cons_append,ot,ot,GB A B,List.append_assoc]
theorem wZ {a:Int} {ks:List Ex} {k:Nat} (h:k<ks.length):ot a (ks.take (k+1))=ot a (ks.take k)++im a (ks.getD k default):=by
 rw [aO default ks k h,GB]
 congr 1
 rw [ot,ot,List.append_nil]
theorem Lp {a:Int} {ks:List Ex} {k:Nat} (h:k<ks.length):oz a (ks.drop k)=ba (im a (ks.getD k default)) (ks.drop (k+1))++(if fq (ks.getD k default)=true then oz a (ks.drop (k+1)) else []):=by
 rw [iM default h,iw];rfl
theorem N3 {a:Int} {ks:List Ex} {k:Nat} (h:ks.length≤k):oz a (ks.drop k)=[]:=by
 rw [List.drop_of_length_le h,oz]
theorem JL {a:Int} {e:Ex} (h:dt e≤1000):∀ p∈im a e,dt p≤1000001:=fun p hp=>by
 have h1:=Er e (by omega) p (FI e p hp)
 have h2:dt e * dt e≤1000 * 1000:=Nat.mul_le_mul h h
 omega
theorem KW (ks:List Ex) (k:Nat):dL (ks.drop k)≤dL ks:=nC (List.drop_sublist k ks)
theorem AG {n:Int} {e:Ex} (h:dg n e=true) (ho:e.op=7):e.kids.length=1:=by
 obtain ⟨op,lt,ks⟩:=e
 have ho:op=7:=ho
 rcases fh h with ⟨h3,_⟩ | ⟨_,(⟨h1,_⟩ | ⟨h1,_⟩ | ⟨_,h1,_⟩)⟩
 ·omega
 ·omega
 ·omega
 ·exact h1
theorem Oh {e:Ex} (hv:cg e 2=0) (hz:dt e≤10) (hb:mX e=false):∃ j,uO e=some j∧Nm j∧dg 2 j=true∧dt j≤20∧∀ l,LE j l↔LE e l:=by
 have hw:=(iu hv).2.1
 obtain ⟨j,s1,s2,s3,s4⟩:=AQ 2 e hw (by omega)
 refine ⟨j,?_,Nz 2 e hw hb j s1,s3,by omega,s4⟩
 unfold uO
 rw [if_pos (Nq hv (by omega)),s1]
structure HK where
 v:Value
 ss:List Value
 bR:List Ex
 T:List QN
 ve:Value
 l:List cw
structure yk (e1:Ex) (q:HK) (i x k:Nat):Prop where
 p:oE e1 q.bR q.T i x k
 sl:q.ss.length=q.bR.length
 g:kJ q.l q.bR q.ss
 sv:aB q.v
 se:aB q.ve
section
variable {e1 : Ex} {q : HK} {i x k : Nat}
theorem yk.later (h:yk e1 q i x k) {l:List cw} (hs:∀ z∈q.l,z∈l):yk e1 { q with l:=l } i x k:=⟨h.p,h.sl,h.g.later hs,h.sv,h.se⟩
theorem yk.letter (h:yk e1 q i x k) (hz:dt e1≤20) (hi:i<q.bR.length) (hk:k=(BZ x (q.bR.getD i default)).length):yk e1 q i (x+1) 0:=⟨h.p.letter hz hi hk,h.sl,h.g,h.sv,h.se⟩
theorem yk.nx (h:yk e1 q i 2 0) (hi:i<q.bR.length):yk e1 q (i+1) 0 0:=⟨h.p.next hi,h.sl,h.g,h.sv,h.se⟩
theorem yk.grow (h:yk e1 q i x k) (hn:Nm e1) (hi:i<q.bR.length) {d:Ex} (hd:d∈BZ x (q.bR.getD i default)) (yf:d ∉ q.bR) {s v:Value} (hs:cw.deep s d.kids∈q.l) (ss:aB s) (sv:aB v):yk e1 { q with v:=v,ss:=q.ss++[s],bR:=q.bR++[d] } i x k:=
 ⟨h.p.grow hi (h.p.YI hn hi hd) yf,by simp [h.sl],h.g.app h.sl ((kJ.nil _ _).snoc hs ss),sv,h.se⟩
theorem yk.add (h:yk e1 q i x k) (hx:x<2) (hk:k<(BZ x (q.bR.getD i default)).length) (me:(BZ x (q.bR.getD i default)).getD k default∈q.bR) {v:Value} (sv:aB v):yk e1 { q with T:=q.T++[(i,x,(BZ x (q.bR.getD i default)).getD k default)],ve:=v } i x (k+1):=
 ⟨h.p.add hx rfl hk me,h.sl,h.g,h.sv,sv⟩
theorem yk.start {j:Ex} {s v:Value} {l:List cw} (hs:cw.deep s j.kids∈l) (ss:aB s) (sv:aB v):yk j ⟨v,[s],[j],[],.slice none 0 0,l⟩ 0 0 0:=⟨oE.start j,rfl,(kJ.nil _ _).snoc hs ss,sv,cq⟩
theorem mm.start (bR:List Ex):mm bR 0 0:=fun j=>by simp
theorem mm.grow {fi:cF} {bR:List Ex} {i:Nat} (h:mm bR fi i) (hi:i≤bR.length) (d:Ex):mm (bR++[d]) fi i:=fun j=>by
 rw [h j]
 constructor
 ·rintro ⟨h1,h2⟩;exact ⟨h1,by rw [jd (by omega)];exact h2⟩
 ·rintro ⟨h1,h2⟩;exact ⟨h1,by rw [jd (by omega)] at h2;exact h2⟩
theorem mm.yes {fi:cF} {bR:List Ex} {i:Nat} (h:mm bR fi i) (hi:i<64) (hu:fq (bR.getD i default)=true):mm bR (fi ||| ((1:cF) <<< i)) (i+1):=fun j=>by
 have hb:((1:cF) <<< i).getLsbD j=true↔j=i:=by
  rcases Nat.lt_or_ge j 64 with hj | hj
  ·rw [ND _ _ _ hj]
   constructor
   ·intro h1
    rw [Bool.and_eq_true,decide_eq_true_eq,jQ] at h1
    omega
   ·rintro rfl
    rw [Bool.and_eq_true,decide_eq_true_eq,jQ];omega
  ·rw [BitVec.getLsbD_of_ge _ _ hj]
   exact ⟨fun h1=>by (cases h1),fun h1=>by omega⟩
 rw [e7,hb,h j]
 constructor
 ·rintro (⟨h1,h2⟩ | rfl)
  ·exact ⟨by omega,h2⟩
  ·exact ⟨by omega,hu⟩
 ·rintro ⟨h1,h2⟩
  by_cases uJ:j=i
  ·exact .inr uJ
  ·exact .inl ⟨by omega,h2⟩
theorem mm.no {fi:cF} {bR:List Ex} {i:Nat} (h:mm bR fi i) (hu:fq (bR.getD i default)=false):mm bR fi (i+1):=fun j=>by
 rw [h j]
 constructor
 ·rintro ⟨h1,h2⟩;exact ⟨by omega,h2⟩
 ·rintro ⟨h1,h2⟩
  have:j ≠ i:=fun e=>by rw [e,hu] at h2;cases h2
  exact ⟨by omega,h2⟩
theorem SG {d:Ex} {bR:List Ex} (h:qj (fun s=>qe s d) bR<0):d ∉ bR:=fun hd=>by
 have:=(sP (fun s=>qe s d) bR).1.1 (List.any_eq_true.2 ⟨d,hd,decide_eq_true (mP d)⟩)
 omega
theorem Oy {d:Ex} {bR:List Ex} (h:¬ qj (fun s=>qe s d) bR<0):d∈bR∧qj (fun s=>qe s d) bR=(DZ bR d:Int):=by
 have h1:=(sP (fun s=>qe s d) bR).1.2 (by omega)
 obtain ⟨x,hx,h2⟩:=List.any_eq_true.1 h1
 refine ⟨Ax h2 ▸ hx,?_⟩
 unfold qj DZ
 rw [if_pos h1]
end
def Yg (B:Bs) (l:List cw) (TE:Nat) (P:List Ex) (r:Value) (A:bk) (o:List bk):Prop:=∃ (ts:List Value) (l':List cw),aB r∧A=aI B l'∧(∀ x∈l,x∈l')∧kJ l' P ts∧ts.length=P.length∧o=[row r TE 3 P.length (dc P ts)]
end Go.Sx
