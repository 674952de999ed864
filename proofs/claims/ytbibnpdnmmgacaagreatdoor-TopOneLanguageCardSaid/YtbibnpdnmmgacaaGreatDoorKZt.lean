import Derived.Test.YtbibnpdnmmgacaaGreatDoorKZa
import Derived.Test.YtbibnpdnmmgacaaGreatDoorKZs
import Derived.Test.YtbibnpdnmmgacaaGreatDoorKZf
set_option linter.unusedVariables false
set_option linter.unusedSimpArgs false
set_option linter.unusedSectionVars false
set_option maxRecDepth 100000
namespace Go.Sx.Pt
theorem o3 {α:Type} {p:List α→Prop} (h0:p []) (hs:∀ l a,p l→p (l++[a])) (l:List α):p l:=by
 have:∀ r:List α,p r.reverse:=by
  intro r
  induction r with
  | nil=>exact h0
  | cons a r ih=>rw [List.reverse_cons];exact hs _ a ih
 have:=this l.reverse
 rwa [List.reverse_reverse] at this
section canon
variable {α : Type} [DecidableEq α]
def FZ (s:List Int × List (α × Int)) (x:α):List Int × List (α × Int):=
 match dq s.2 x with
 | some c=>(s.1++[c],s.2)
 | none=>(s.1++[(s.2.length:Int)],jI s.2 x s.2.length)
def mY (xs:List α):List Int × List (α × Int):=xs.foldl FZ ([],[])
def canon (xs:List α):List Int:=(mY xs).1
theorem Dj (xs:List α) (x:α):mY (xs++[x])=FZ (mY xs) x:=by simp [mY]
theorem lp {xs:List α} {x:α} {c:Int} (h:dq (mY xs).2 x=some c):mY (xs++[x])=((mY xs).1++[c],(mY xs).2):=by rw [Dj];simp [FZ,h]
theorem lq {xs:List α} {x:α} (h:dq (mY xs).2 x=none):mY (xs++[x])=((mY xs).1++[((mY xs).2.length:Int)],jI (mY xs).2 x (mY xs).2.length):=by rw [Dj];simp [FZ,h]
theorem kI (xs:List α):(canon xs).length=xs.length:=by
 induction xs using o3 with
 | h0=>rfl
 | hs l a ih=>
  unfold canon at *
  cases h:dq (mY l).2 a with
  | none=>rw [lq h];simp [ih]
  | some c=>rw [lp h];simp [ih]
theorem SZ (xs:List α):(mY xs).2.length≤xs.length:=by
 induction xs using o3 with
 | h0=>simp [mY]
 | hs l a ih=>
  cases h:dq (mY l).2 a with
  | none=>rw [lq h,po];simp [h];omega
  | some c=>rw [lp h];simp;omega
end canon
section walk
variable {α : Type} [DecidableEq α] (d : α) {xs : List α} {k : Nat}
theorem s5 (hk:(k:Int)<xs.length) (h:(dq (mY (xs.take k)).2 (xs.getD k d)).isSome=false):(mY (xs.take (k+1))).2=jI (mY (xs.take k)).2 (xs.getD k d) (mY (xs.take k)).2.length:=by
 have h':dq (mY (xs.take k)).2 (xs.getD k d)=none:=by simpa using h
 rw [aO d xs k (by omega),lq h']
theorem sZ (hk:(k:Int)<xs.length) (h:(dq (mY (xs.take k)).2 (xs.getD k d)).isSome=true):(mY (xs.take (k+1))).2=(mY (xs.take k)).2:=by
 obtain ⟨c,hc⟩:=Option.isSome_iff_exists.1 h
 rw [aO d xs k (by omega),lp hc]
theorem vA (hk:(k:Int)<xs.length) (h:(dq (mY (xs.take k)).2 (xs.getD k d)).isSome=false) :
  ((canon (xs.take k)++List.replicate (xs.length - k) 0).map (Value.int .i64)).set k (.int .i64 ((mY (xs.take k)).2.length:Nat))=(canon (xs.take (k+1))++List.replicate (xs.length - (k+1)) 0).map (Value.int .i64):=by
 have h':dq (mY (xs.take k)).2 (xs.getD k d)=none:=by simpa using h
 rw [fJ (Value.int .i64) _ 0 _ xs.length k (by rw [kI,List.length_take];omega) (by omega)]
 rw [aO d xs k (by omega)]
 unfold canon
 rw [lq h']
theorem vz (hk:(k:Int)<xs.length) (h:(dq (mY (xs.take k)).2 (xs.getD k d)).isSome=true) :
  ((canon (xs.take k)++List.replicate (xs.length - k) 0).map (Value.int .i64)).set k (.int .i64 ((dq (mY (xs.take k)).2 (xs.getD k d)).getD 0))=(canon (xs.take (k+1))++List.replicate (xs.length - (k+1)) 0).map (Value.int .i64):=by
 obtain ⟨c,hc⟩:=Option.isSome_iff_exists.1 h
 rw [fJ (Value.int .i64) _ 0 _ xs.length k (by rw [kI,List.length_take];omega) (by omega)]
 rw [aO d xs k (by omega)]
 unfold canon
 rw [lp hc,hc]
 rfl
end walk
def lZ {α:Type} [DecidableEq α] (xs:List α):List Int:=if xs.length≤4096 then canon xs else []
def EK (xs:List Int):Prop:=xs.length≤4096∧canon xs=xs
instance (xs:List Int):Decidable (EK xs):=inferInstanceAs (Decidable (_∧_))
section kernel
variable {α β : Type} [DecidableEq α] [DecidableEq β]
theorem G7 (xs:List α):(∀ x,dq (mY xs).2 x=none↔x ∉ xs)∧∀ i (h:i<xs.length),dq (mY xs).2 xs[i]=(canon xs)[i]?:=by
 induction xs using o3 with
 | h0=>exact ⟨fun x=>by simp [mY,dq],fun i h=>by simp at h⟩
 | hs l a ih=>
  obtain ⟨i1,i2⟩:=ih
  have hl:=kI l
  unfold canon at *
  cases h:dq (mY l).2 a with
  | none=>
   have hn:=(i1 a).1 h
   rw [lq h]
   refine ⟨fun x=>?_,fun i hi=>?_⟩
   ·rw [pT]
    by_cases hx:x=a
    ·simp [hx]
    ·simp [hx,i1]
   ·rw [pT]
    by_cases oA:i<l.length
    ·rw [List.getElem_append_left oA,List.getElem?_append_left (by omega),← i2 i oA,if_neg (fun e:l[i]=a=>hn (by rw [← e];exact List.getElem_mem oA))]
    ·have:i=l.length:=by simp at hi;omega
     subst this
     simp [hl]
  | some c=>
   rw [lp h]
   have hm:a∈l:=by
    by_cases hm:a∈l
    ·exact hm
    ·rw [(i1 a).2 hm] at h;cases h
   refine ⟨fun x=>?_,fun i hi=>?_⟩
   ·rw [i1]
    constructor
    ·intro hx uE
     rcases List.mem_append.1 uE with h' | h'
     ·exact hx h'
     ·simp at h';exact hx (h' ▸ hm)
    ·intro hx uE;exact hx (List.mem_append_left _ uE)
   ·by_cases oA:i<l.length
    ·rw [List.getElem_append_left oA,List.getElem?_append_left (by omega),← i2 i oA]
    ·have:i=l.length:=by simp at hi;omega
     subst this
     simp [hl,h]
theorem BM (xs:List α):∀ (ys:List β),xs.length=ys.length→(∀ i j (hi:i<xs.length) (hj:j<xs.length) (ox:i<ys.length) (yp:j<ys.length),xs[i]=xs[j]↔ys[i]=ys[j])→canon xs=canon ys∧(mY xs).2.length=(mY ys).2.length:=by
 induction xs using o3 with
 | h0=>intro ys hl _;have:ys=[]:=List.eq_nil_of_length_eq_zero (by simpa using hl.symm);subst this;exact ⟨rfl,rfl⟩
 | hs l a ih=>
  intro ys hl hk
  obtain ⟨m,b,rfl⟩:∃ m b,ys=m++[b]:=by
   have j9:ys ≠ []:=by intro e;subst e;simp at hl
   exact ⟨ys.dropLast,ys.getLast j9,(List.dropLast_concat_getLast j9).symm⟩
  have hlm:l.length=m.length:=by simpa using hl
  have vB:∀ i j (hi:i<l.length) (hj:j<l.length) (ox:i<m.length) (yp:j<m.length),l[i]=l[j]↔m[i]=m[j]:=fun i j hi hj ox yp=>by
   have:=hk i j (by simp;omega) (by simp;omega) (by simp;omega) (by simp;omega)
   rwa [List.getElem_append_left hi,List.getElem_append_left hj,List.getElem_append_left ox,List.getElem_append_left yp] at this
  have hka:∀ i (hi:i<l.length) (ox:i<m.length),l[i]=a↔m[i]=b:=fun i hi ox=>by
   have:=hk i l.length (by simp;omega) (by simp) (by simp;omega) (by simp;omega)
   rw [List.getElem_append_left hi,List.getElem_append_left ox] at this
   simpa [hlm] using this
  obtain ⟨e1,e2⟩:=ih m hlm vB
  obtain ⟨p1,p2⟩:=G7 l
  obtain ⟨q1,q2⟩:=G7 m
  unfold canon at *
  by_cases hm:a∈l
  ·obtain ⟨i,hi,rfl⟩:=List.getElem_of_mem hm
   have hb:=(hka i hi (by omega)).1 rfl
   have h1:=p2 i hi
   have h2:=q2 i (by omega)
   rw [← e1,hb] at h2
   cases h:(mY l).1[i]? with
   | none=>rw [h] at h1;have:=(p1 _).1 h1;exact absurd hm this
   | some c=>
    rw [h] at h1 h2
    rw [lp h1,lp h2,e1]
    exact ⟨rfl,e2⟩
  ·have BV:b ∉ m:=by
    intro hb
    obtain ⟨i,hi,rfl⟩:=List.getElem_of_mem hb
    exact hm ((hka i (by omega) hi).2 rfl ▸ List.getElem_mem (by omega))
   have h1:=(p1 a).2 hm
   have h2:=(q1 b).2 BV
   rw [lq h1,lq h2,e1,e2]
   refine ⟨rfl,?_⟩
   rw [po,po,h1,h2,e2]
end kernel
def yj (ρ:Nat→Nat) (f:List Int) (n:Nat):Prop:=f.length=n∧∀ i,i<n→0≤f.getD i 0∧f.getD i 0≤i∧ρ (f.getD i 0).toNat = ρ i∧(f.getD i 0=i↔ρ i=i)∧ρ i≤i
theorem fy {xs:List Int} {i:Nat} (h:i<xs.length) (v:Int):(xs.set i v).getD i 0=v:=by simp [List.getD_eq_getElem?_getD,h]
theorem fO {xs:List Int} {i j:Nat} (h:i ≠ j) (v:Int):(xs.set i v).getD j 0=xs.getD j 0:=by simp [List.getD_eq_getElem?_getD,List.getElem?_set_ne h]
theorem yj.JX {ρ:Nat→Nat} {f:List Int} {n i:Nat} (h:yj ρ f n) (hi:i<n) (j9:f.getD i 0 ≠ i):yj ρ (f.set i (f.getD (f.getD i 0).toNat 0)) n:=by
 obtain ⟨h1,h2⟩:=h
 refine ⟨by simpa using h1,fun k hk=>?_⟩
 by_cases ov:i=k
 ·subst ov
  obtain ⟨a1,a2,a3,a4,a5⟩:=h2 i hk
  obtain ⟨b1,b2,b3,b4,b5⟩:=h2 (f.getD i 0).toNat (by omega)
  rw [fy (by omega)]
  refine ⟨b1,by omega,by rw [b3,a3],?_,a5⟩
  constructor
  ·intro e;omega
  ·intro e;exact absurd (a4.2 e) j9
 ·rw [fO ov];exact h2 k hk
theorem yj.union {ρ:Nat→Nat} {f:List Int} {n i j:Nat} (h:yj ρ f n) (hi:i<n) (hj:j<n) :
  yj (fun k=>if ρ k=max (ρ i) (ρ j) then min (ρ i) (ρ j) else ρ k) (f.set (max (ρ i) (ρ j)) ((min (ρ i) (ρ j):Nat):Int)) n:=by
 obtain ⟨h1,h2⟩:=h
 have hri:ρ i<n:=by have:=(h2 i hi).2.2.2.2;omega
 have hrj:ρ j<n:=by have:=(h2 j hj).2.2.2.2;omega
 have idem:∀ k,k<n→ρ (ρ k) = ρ k:=by
  intro k
  induction k using Nat.strongRecOn with
  | _ k ih=>
   intro hk
   obtain ⟨a1,a2,a3,a4,a5⟩:=h2 k hk
   by_cases e:f.getD k 0=k
   ·rw [a4.1 e];exact a4.1 e
   ·have:=ih (f.getD k 0).toNat (by omega) (by omega)
    rw [a3] at this;exact this
 have hii:=idem i hi
 have hjj:=idem j hj
 have hM:max (ρ i) (ρ j)<n:=by omega
 have YQ:ρ (max (ρ i) (ρ j))=max (ρ i) (ρ j):=by
  rcases Nat.le_total (ρ i) (ρ j) with h | h
  ·rw [Nat.max_eq_right h];exact hjj
  ·rw [Nat.max_eq_left h];exact hii
 have YP:ρ (min (ρ i) (ρ j))=min (ρ i) (ρ j):=by
  rcases Nat.le_total (ρ i) (ρ j) with h | h
  ·rw [Nat.min_eq_left h];exact hii
  ·rw [Nat.min_eq_right h];exact hjj
 generalize hMd:max (ρ i) (ρ j)=M at *
 generalize hmd:min (ρ i) (ρ j)=m at *
 have hmM:m≤M:=by omega
 refine ⟨by simpa using h1,fun k hk=>?_⟩
 by_cases hkM:M=k
 ·subst hkM
  rw [fy (by omega)]
  simp only [YQ,if_true,Int.toNat_natCast,YP]
  refine ⟨by omega,by omega,?_,?_,hmM⟩
  ·split <;> rfl
  ·constructor <;> intro h <;> omega
 ·rw [fO hkM]
  obtain ⟨a1,a2,a3,a4,a5⟩:=h2 k hk
  simp only [a3]
  refine ⟨a1,a2,trivial,?_,?_⟩
  ·rw [a4]
   by_cases hb:ρ k=M
   ·rw [if_pos hb]
    constructor
    ·intro e;omega
    ·intro e;omega
   ·rw [if_neg hb]
  ·split <;> omega
theorem relabel {γ:Type} [DecidableEq γ] (a b u v:γ):((if u=b then a else u)=(if v=b then a else v))↔(u=v∨((u=a∨u=b)∧(v=a∨v=b))):=by
 by_cases h1:u=b <;> by_cases h2:v=b
 ·simp [h1,h2]
 ·simp only [h1,h2,if_true,if_false,or_true,true_and,or_false]
  constructor
  ·intro e;exact .inr e.symm
  ·rintro (e | e)
   ·exact absurd e.symm h2
   ·exact e.symm
 ·simp only [h1,h2,if_true,if_false,or_true,and_true,or_false]
  constructor
  ·intro e;exact .inr e
  ·rintro (e | e)
   ·first | exact absurd e h1 | exact e.elim
   ·exact e
 ·simp only [h1,h2,if_false,or_false]
  constructor
  ·intro e;exact .inl e
  ·rintro (e | ⟨e,f⟩)
   ·exact e
   ·rw [e,f]
def B4 (n:Nat):List Int:=(List.range n).map fun (i:Nat)=>((i:Nat):Int)
theorem nO (n:Nat):(B4 n).length=n:=by simp [B4]
theorem OB {n i:Nat} (h:i<n):(B4 n).getD i 0=i:=by simp [B4,List.getD_eq_getElem?_getD,h]
theorem LU (n:Nat):B4 (n+1)=B4 n++[(n:Int)]:=by simp [B4,List.range_succ]
theorem Sk (n:Nat):yj id (B4 n) n:=⟨nO n,fun i h=>by rw [OB h];simp⟩
def qy (n:Int):List Int:=if 0≤n∧n≤4096 then B4 n.toNat else []
def Ai (ρ:Nat→Nat) (i j:Nat):Nat→Nat:=fun k=>if ρ k=max (ρ i) (ρ j) then min (ρ i) (ρ j) else ρ k
def qb (ps:List (Int × Int)):Nat→Nat:=ps.foldl (fun ρ p=>Ai ρ p.1.toNat p.2.toNat) id
theorem CH (ps:List (Int × Int)) (p:Int × Int):qb (ps++[p])=Ai (qb ps) p.1.toNat p.2.toNat:=by simp [qb]
def Xm (n:Int) (p:Int × Int):Prop:=0≤p.1∧p.1<n∧0≤p.2∧p.2<n
instance (n:Int) (p:Int × Int):Decidable (Xm n p):=inferInstanceAs (Decidable (_∧_))
def Q3 (n:Int) (ps:List (Int × Int)):Prop:=(0≤n∧n≤4096)∧∀ p∈ps,Xm n p
instance (n:Int) (ps:List (Int × Int)):Decidable (Q3 n ps):=inferInstanceAs (Decidable (_∧_))
def rH (n:Nat) (ρ:Nat→Nat):List Int:=(List.range n).map fun (i:Nat)=>((ρ i:Nat):Int)
theorem eF (n:Nat) (ρ:Nat→Nat):(rH n ρ).length=n:=by simp [rH]
def PH (n:Int) (ps:List (Int × Int)):List Int:=if Q3 n ps then canon (rH n.toNat (qb ps)) else []
theorem fI {α:Type} {xs:List α} {k:Nat} (d:α) (h:k<xs.length):xs.getD k d∈xs:=by
 rw [List.getD_eq_getElem?_getD,List.getElem?_eq_getElem h];exact List.getElem_mem h
theorem qH {α:Type} {P:α→Prop} {xs:List α} {k:Nat} (d:α) (h:k<xs.length) (h1:∀ p∈xs.take k,P p) (h2:P (xs.getD k d)):∀ p∈xs.take (k+1),P p:=by
 rw [aO d xs k h]
 intro p hp
 rcases List.mem_append.1 hp with hp | hp
 ·exact h1 p hp
 ·simp at hp;exact hp ▸ h2
def gp (j:Int) (xs:List Int):List Int:=(xs.zipIdx.filter (fun p=>p.1=j)).map fun p=>(p.2:Int)
end Go.Sx.Pt
namespace Go.Sx.Pt
section ker
variable {γ : Type} [DecidableEq γ]
end ker
end Go.Sx.Pt
namespace Go.Sx.Pt
structure Po (K:Nat→Nat→Prop):Prop where
 refl:∀ a,K a a
 symm:∀ a b,K a b→K b a
 trans:∀ a b c,K a b→K b c→K a c
def lA (R:Nat→Nat→Prop) (i j:Nat):Prop:=∀ E:Nat→Nat→Prop,Po E→(∀ a b,R a b→E a b)→E i j
theorem lA.eqv (R:Nat→Nat→Prop):Po (lA R):=⟨fun a E h _=>h.refl a,fun a b h E hE hR=>hE.symm _ _ (h E hE hR),fun a b c h h' E hE hR=>hE.trans _ _ _ (h E hE hR) (h' E hE hR)⟩
theorem lA.of {R:Nat→Nat→Prop} {i j:Nat} (h:R i j):lA R i j:=fun _ _ hR=>hR _ _ h
theorem lA.mono {R R':Nat→Nat→Prop} (h:∀ a b,R a b→lA R' a b) {i j:Nat} (hg:lA R i j):lA R' i j:=hg _ (lA.eqv R') h
theorem lA.le {R E:Nat→Nat→Prop} (hE:Po E) (h:∀ a b,R a b→E a b) {i j:Nat} (hg:lA R i j):E i j:=hg E hE h
theorem lA.congr {R R':Nat→Nat→Prop} (h:∀ a b,R a b→lA R' a b) (h':∀ a b,R' a b→lA R a b) (i j:Nat):lA R i j↔lA R' i j:=⟨lA.mono h,lA.mono h'⟩
def td (xs:List Int) (i j:Nat):Prop:=i=j∨(i<xs.length∧j<xs.length∧xs.getD i 0=xs.getD j 0)
theorem td.iff {xs:List Int} {i j:Nat} (hi:i<xs.length) (hj:j<xs.length):td xs i j↔xs.getD i 0=xs.getD j 0:=by
 constructor
 ·rintro (rfl | ⟨_,_,h⟩)
  ·rfl
  ·exact h
 ·intro h;exact .inr ⟨hi,hj,h⟩
theorem BL {xs ys:List Int} (hl:xs.length=ys.length) (h:∀ i j,i<xs.length→j<xs.length→(td xs i j↔td ys i j)):canon xs=canon ys:=by
 refine (BM xs ys hl fun i j hi hj ox yp=>?_).1
 have:=h i j hi hj
 rw [td.iff hi hj,td.iff ox yp] at this
 simpa [List.getD_eq_getElem?_getD,List.getElem?_eq_getElem hi,List.getElem?_eq_getElem hj,List.getElem?_eq_getElem ox,List.getElem?_eq_getElem yp] using this
def PR (ps:List (Int × Int)) (a b:Nat):Prop:=∃ p∈ps,a=p.1.toNat∧b=p.2.toNat
theorem LW {K K' R:Nat→Nat→Prop} {i j:Nat} (hE:Po K') (hK:∀ k l,K k l↔lA R k l) (hs:∀ k l,K' k l↔(K k l∨((K k i∨K k j)∧(K l i∨K l j)))) (k l:Nat):K' k l↔lA (fun a b=>R a b∨(a=i∧b=j)) k l:=by
 have gE:=lA.eqv R
 have GE:=lA.eqv (fun a b=>R a b∨(a=i∧b=j))
 have sub:∀ a b,K a b→lA (fun a b=>R a b∨(a=i∧b=j)) a b:=fun a b h=>lA.mono (fun a b h=>lA.of (.inl h)) ((hK a b).1 h)
 have yq:lA (fun a b=>R a b∨(a=i∧b=j)) i j:=lA.of (.inr ⟨rfl,rfl⟩)
 constructor
 ·intro h
  rcases (hs k l).1 h with h | ⟨h1,h2⟩
  ·exact sub _ _ h
  ·have t1:lA (fun a b=>R a b∨(a=i∧b=j)) k i:=by
    rcases h1 with h1 | h1
    ·exact sub _ _ h1
    ·exact GE.trans _ _ _ (sub _ _ h1) (GE.symm _ _ yq)
   have t2:lA (fun a b=>R a b∨(a=i∧b=j)) l i:=by
    rcases h2 with h2 | h2
    ·exact sub _ _ h2
    ·exact GE.trans _ _ _ (sub _ _ h2) (GE.symm _ _ yq)
   exact GE.trans _ _ _ t1 (GE.symm _ _ t2)
 ·intro h
  refine lA.le hE ?_ h
  rintro a b (h | ⟨rfl,rfl⟩)
  ·exact (hs a b).2 (.inl ((hK a b).2 (lA.of h)))
  ·have r1:K a a:=(hK a a).2 (gE.refl a)
   have r2:K b b:=(hK b b).2 (gE.refl b)
   exact (hs a b).2 (.inr ⟨.inl r1,.inr r2⟩)
theorem Hd (ps:List (Int × Int)) (p:Int × Int) (a b:Nat):PR (ps++[p]) a b↔(PR ps a b∨(a=p.1.toNat∧b=p.2.toNat)):=by
 unfold PR
 constructor
 ·rintro ⟨q,hq,h⟩
  rcases List.mem_append.1 hq with hq | hq
  ·exact .inl ⟨q,hq,h⟩
  ·simp at hq;subst hq;exact .inr h
 ·rintro (⟨q,hq,h⟩ | h)
  ·exact ⟨q,by simp [hq],h⟩
  ·exact ⟨p,by simp,h⟩
def FK (f:Nat→Nat) (i j:Nat):Prop:=f i=f j
theorem FK.eqv (f:Nat→Nat):Po (FK f):=⟨fun _=>rfl,fun _ _ h=>h.symm,fun _ _ _ h h'=>h.trans h'⟩
theorem Gd (ps:List (Int × Int)):∀ k l,qb ps k=qb ps l↔lA (PR ps) k l:=by
 induction ps using o3 with
 | h0=>
  intro k l
  constructor
  ·intro h;simp [qb] at h;subst h;exact (lA.eqv _).refl k
  ·intro h;exact lA.le (FK.eqv (qb [])) (by rintro a b ⟨p,hp,_⟩;simp at hp) h
 | hs q p ih=>
  intro k l
  have mg:∀ k l,FK (qb (q++[p])) k l↔(qb q k=qb q l∨((qb q k=qb q p.1.toNat∨qb q k=qb q p.2.toNat)∧(qb q l=qb q p.1.toNat∨qb q l=qb q p.2.toNat))):=by
   intro k l
   unfold FK
   rw [CH]
   unfold Ai
   rw [relabel]
   have key:∀ x:Nat,(x=min (qb q p.1.toNat) (qb q p.2.toNat)∨x=max (qb q p.1.toNat) (qb q p.2.toNat))↔(x=qb q p.1.toNat∨x=qb q p.2.toNat):=by
    intro x
    rcases Nat.le_total (qb q p.1.toNat) (qb q p.2.toNat) with h | h
    ·rw [Nat.min_eq_left h,Nat.max_eq_right h]
    ·rw [Nat.min_eq_right h,Nat.max_eq_left h];exact Or.comm
   rw [key,key]
  have:=LW (K:=FK (qb q)) (FK.eqv (qb (q++[p]))) ih mg k l
  rw [show (qb (q++[p]) k=qb (q++[p]) l)=FK (qb (q++[p])) k l from rfl,this]
  exact lA.congr (fun a b h=>lA.of ((Hd q p a b).2 h)) (fun a b h=>lA.of ((Hd q p a b).1 h)) k l
theorem GL {n:Nat} {ρ:Nat→Nat} {i j:Nat} (hi:i<n) (hj:j<n):td (rH n ρ) i j↔ρ i = ρ j:=by
 rw [td.iff (by rw [eF];exact hi) (by rw [eF];exact hj)]
 simp [rH,List.getD_eq_getElem?_getD,hi,hj]
 omega
def YG (xs ys:List Int):Prop:=xs.length=ys.length∧EK xs∧EK ys
instance (xs ys:List Int):Decidable (YG xs ys):=inferInstanceAs (Decidable (_∧_))
end Go.Sx.Pt
namespace Go.Sx.Pt
end Go.Sx.Pt
namespace Go.Sx.Pt
end Go.Sx.Pt
namespace Go.Proofs.YtbibnpdnmmgacaaGreatDoor
open Go.Sx Go.RowKit Go.Sx.Pt
theorem Lo (w:World) (v:Value) (xs:List Int) (h:BX w v xs) (hn:xs.length≤4096):aK Tryz.prog 169 [v] w (fun r o=>o=[row r 3 1 xs.length ((canon xs).map (Value.int .i64))]):=by
 unfold BX at h
 refine aC Tryz.func169 rfl (aT rfl) ?_
 refine .sr fun _ bl=>?_
 refine .as rfl (.nt bl ?_)
 refine .sr fun _ bg=>?_
 refine .mv rfl (.v (.aZ bX rfl a8) ?_)
 refine AK.kT bX uL rfl rfl rfl (by omega) (by omega) trivial rfl (fun iQ=>?_)
 refine .as rfl (.nt bg ?_)
 refine .sr fun _ bW=>?_
 refine AK.makeMap trivial rfl (fun mb=>?_)
 refine .as rfl (.nt bW ?_)
 refine .seq fun _ cr=>?_
 refine .sr fun _ cJ=>?_
 refine .mv rfl (.v (.aZ bX rfl a8) (.mv rfl (.nt cJ (.block ?_))))
 refine AK.bE (X:=Nat) [(3,_),(4,_),(13,_),(14,_)] (fun k=>[(15,.int .i64 (k:Int))]) (fun k=>[row iQ 3 1 xs.length ((canon (xs.take k)++List.replicate (xs.length - k) 0).map (Value.int .i64)),mapA mb (kx (Value.int .i64) (Value.int .i64) (mY (xs.take k)).2)]) (fun k=>k≤xs.length) (fun k=>xs.length - k) (0) aU ?_ ?_ ?_ ?_
 ·exact Nat.zero_le _
 ·exact aU
 ·exact fun w hw=>by simpa [canon,mY,kx] using hw
 ·intro k aV _ cU
  have DW:=SZ (xs.take k)
  rw [List.length_take] at DW
  refine .sr fun _ c7=>?_
  refine .v (.lss rfl rfl) (.nt c7 ?_)
  refine .seq fun _ dm=>?_
  refine AK.aA rfl (fun bx=>?_) (fun bx=>?_)
  ·refine .skip ?_
   refine AK.ab (dm _ ?_)
   refine .seq fun _ dD=>?_
   refine .block ?_
   refine .sr fun _ bJ=>?_
   refine .mv rfl (.v (.iN bX rfl rfl) ?_)
   refine .v (.ff cQ rfl a8 (by omega)) ?_
   refine .as rfl (.as rfl (.nt bJ ?_))
   refine .sr fun _ bP=>?_
   refine .mv rfl (.mv rfl (.v (.k9 rR (ny Mk) uL rfl rfl MF) (.mv rfl (.v (.extract rfl rfl) (.v (.extract rfl rfl) (.as rfl (.as rfl (.nt bP ?_))))))))
   refine .seq fun _ ct=>?_
   refine .sr fun _ cK=>?_
   refine .mv rfl (.v (.not rfl) (.nt cK ?_))
   refine AK.eW rfl (fun cB=>?_) (fun cB=>?_)
   ·refine .sr fun _ cW=>?_
    refine .mv rfl (.v (.M5 rR rfl MF) (.as rfl (.nt cW ?_)))
    refine AK.region ?_
    refine .mv rfl (.mv rfl (.mv rfl ?_))
    refine AK.qX 1 rfl rR (ny Mk) rfl rfl rfl trivial ?_
    refine .nt ct ?_
    refine AK.region ?_
    refine .mv rfl (.mv rfl (.mv rfl (.v (.iN bX rfl rfl) ?_)))
    refine AK.di 0 rfl tf rfl rfl rfl rfl (by omega) (cs':=((canon (xs.take (k+1))++List.replicate (xs.length - (k+1)) 0).map (Value.int .i64))) (by exact vA 0 bx cB) trivial ?_
    refine .nil (.ag ?_)
    refine AK.ab (dD _ ?_)
    refine AK.region ?_
    refine .v (.add rfl rfl (by omega)) ?_
    refine .mv rfl (.nil ?_)
    refine AK.ab (cU _ _ (k+1) (by omega) (by omega) (aU) (fun w hw=>by first | (rw [s5 0 bx cB];exact hw) | (rw [sZ 0 bx cB];exact hw)))
   ·refine .skip ?_
    refine AK.ab (ct _ ?_)
    refine AK.region ?_
    refine .mv rfl (.mv rfl (.mv rfl (.v (.iN bX rfl rfl) ?_)))
    refine AK.di 0 rfl tf rfl rfl rfl rfl (by omega) (cs':=((canon (xs.take (k+1))++List.replicate (xs.length - (k+1)) 0).map (Value.int .i64))) (by exact vz 0 bx cB) trivial ?_
    refine .nil (.ag ?_)
    refine AK.ab (dD _ ?_)
    refine AK.region ?_
    refine .v (.add rfl rfl (by omega)) ?_
    refine .mv rfl (.nil ?_)
    refine AK.ab (cU _ _ (k+1) (by omega) (by omega) (aU) (fun w hw=>by first | (rw [s5 0 bx cB];exact hw) | (rw [sZ 0 bx cB];exact hw)))
  ·refine .exit (.ai (.ai (.ar ?_)))
   refine AK.ab (cr _ ?_)
   refine .sr fun _ c8=>?_
   refine .mv rfl (.as rfl (.nt c8 (.ret ?_)))
   refine AK.aG rfl rfl (fun w hw=>⟨_,_,?_,rfl,kq.of (hw.pick [0] (by decide) rfl rfl)⟩)
   have hk:k=xs.length:=by omega
   subst hk
   simp
theorem Gz (w:World) (v:Value) (xs:List Int) (h:BX w v xs):aK Tryz.prog 138 [v] w (fun r o=>o=[row r 3 1 (lZ xs).length ((lZ xs).map (Value.int .i64))]):=by
 have h0:=h
 unfold BX at h
 refine aC Tryz.func138 rfl (aT rfl) ?_
 refine .sr fun _ bl=>?_
 refine .as rfl (.nt bl ?_)
 refine .seq fun _ bg=>?_
 refine .sr fun _ bW=>?_
 refine .mv rfl (.v (.aZ bX rfl a8) (.v (.gtr rfl rfl) (.nt bW ?_)))
 refine AK.aA rfl (fun bx=>?_) (fun bx=>?_)
 ·refine .sr fun _ cr=>?_
  refine .as rfl (.nt cr (.ret (.ae ?_)))
  refine AK.ghost 3 1 ?_
  refine AK.aG rfl rfl (fun w hw=>⟨_,_,?_,rfl,kq.of (hw.pick [0] (by decide) rfl rfl)⟩)
  have e:lZ xs=[]:=by unfold lZ;rw [if_neg (by omega)]
  rw [e];rfl
 ·refine .skip ?_
  refine AK.ab (bg _ ?_)
  refine .sr fun _ cJ=>?_
  refine .mv rfl ?_
  refine AK.call VY rfl (fun w hw=>Lo w v xs (BX.at h0 hw) (by omega)) trivial rfl ?_
  rintro r o rfl
  refine .as rfl (.nt cJ (.ret ?_))
  refine AK.aG rfl rfl (fun w hw=>⟨_,_,?_,rfl,kq.of (hw.pick [0] (by decide) rfl rfl)⟩)
  have e:lZ xs=canon xs:=by unfold lZ;rw [if_pos (by omega)]
  rw [e,kI];rfl
theorem Sm (w:World) (n:Int):aK Tryz.prog 135 [.int .i64 n] w (fun r o=>o=[row r 3 1 (qy n).length ((qy n).map (Value.int .i64))]):=by
 refine aC Tryz.func135 rfl (aT rfl) ?_
 refine .sr fun _ bl=>?_
 refine .as rfl (.nt bl ?_)
 refine .seq fun _ bg=>?_
 refine .sr fun _ bW=>?_
 refine .mv rfl (.v (.lss rfl rfl) (.mv rfl ?_))
 refine AK.bQ (g:=7) rfl (fun bt=>?_) (fun bt=>?_)
 ·have dC:=bt
  try simp only [bs] at dC
  refine AK.pass rfl rfl (bt) rfl ?_
  refine AK.pass rfl rfl (bt) rfl ?_
  refine .v (.bw rfl (bt) rfl) (.nt bW ?_)
  refine AK.cD rfl (rfl) ?_
  refine .sr fun _ cr=>?_
  refine .as rfl (.nt cr (.ret (.ae ?_)))
  refine AK.ghost 3 1 ?_
  refine AK.aG rfl rfl (fun w hw=>⟨_,_,?_,rfl,kq.of (hw.pick [0] (by decide) rfl rfl)⟩)
  have e:qy n=[]:=by unfold qy;rw [if_neg (by omega)]
  rw [e];rfl
 ·have dC:=bt
  try simp only [bs] at dC
  refine AK.val _ (Yl.move rfl) ⟨_,rfl,gB bt⟩ rfl ?_
  refine AK.val _ (Yl.gtr rfl rfl) ⟨_,rfl,gB bt⟩ rfl ?_
  refine .v (.cH rfl (bt) rfl) (.nt bW ?_)
  refine AK.aA rfl (fun bx=>?_) (fun bx=>?_)
  ·refine .sr fun _ cJ=>?_
   refine .as rfl (.nt cJ (.ret (.ae ?_)))
   refine AK.ghost 3 1 ?_
   refine AK.aG rfl rfl (fun w hw=>⟨_,_,?_,rfl,kq.of (hw.pick [0] (by decide) rfl rfl)⟩)
   have e:qy n=[]:=by unfold qy;rw [if_neg (by omega)]
   rw [e];rfl
  ·refine .skip ?_
   refine AK.ab (bg _ ?_)
   refine .sr fun _ cU=>?_
   refine .mv rfl ?_
   refine AK.Kr bX uL rfl rfl rfl (by omega) (by omega) (by omega) trivial rfl (fun iQ=>?_)
   refine .as rfl (.nt cU ?_)
   refine .seq fun _ c7=>?_
   refine .sr fun _ dm=>?_
   refine .mv rfl (.mv rfl (.nt dm (.block ?_)))
   refine AK.bE (X:=Nat) [(3,_),(13,_)] (fun k=>[(14,.int .i64 (k:Int))]) (fun k=>[row iQ 3 1 n.toNat ((B4 k++List.replicate (n.toNat - k) 0).map (Value.int .i64))]) (fun k=>k≤n.toNat) (fun k=>n.toNat - k) (0) aU ?_ ?_ ?_ ?_
   ·exact Nat.zero_le _
   ·exact aU
   ·exact fun w hw=>by simpa [B4] using hw
   ·intro k aV _ dD
    refine .sr fun _ bJ=>?_
    refine .v (.lss rfl rfl) (.nt bJ ?_)
    refine .seq fun _ bP=>?_
    refine AK.aA rfl (fun cB=>?_) (fun cB=>?_)
    ·refine .skip ?_
     refine AK.ab (bP _ ?_)
     refine .seq fun _ ct=>?_
     refine .block ?_
     refine .sr fun _ cK=>?_
     refine .mv rfl (.as rfl (.nt cK ?_))
     refine AK.region ?_
     refine .mv rfl (.mv rfl (.mv rfl (.v (.iN bX rfl rfl) ?_)))
     refine AK.di 0 rfl tf rfl rfl rfl rfl (by omega) (cs':=((B4 (k+1)++List.replicate (n.toNat - (k+1)) 0).map (Value.int .i64))) (by rw [LU];exact fJ (Value.int .i64) (B4 k) 0 _ n.toNat k (nO k) (by omega)) trivial ?_
     refine .nil (.ag ?_)
     refine AK.ab (ct _ ?_)
     refine AK.region ?_
     refine .v (.add rfl rfl (by omega)) ?_
     refine .mv rfl (.nil ?_)
     refine AK.ab (dD _ _ (k+1) (by omega) (by omega) (aU) (fun w hw=>hw))
    ·refine .exit (.ai (.ai (.ar ?_)))
     refine AK.ab (c7 _ ?_)
     refine .sr fun _ cW=>?_
     refine .mv rfl (.as rfl (.nt cW (.ret ?_)))
     refine AK.aG rfl rfl (fun w hw=>⟨_,_,?_,rfl,kq.of (hw.pick [0] (by decide) rfl rfl)⟩)
     have hk:k=n.toNat:=by omega
     subst hk
     have e:qy n=B4 n.toNat:=by unfold qy;rw [if_pos (by omega)]
     rw [e,nO]
     simp
end Go.Proofs.YtbibnpdnmmgacaaGreatDoor
namespace Go.Sx.Pt
def sh (m:Nat) (p:Int × Int):Int × Int:=(p.1,(m:Int)+p.2)
def UR (m:Nat) (qs:List (Int × Int)):Nat→Nat:=qb (qs.map (sh m))
abbrev B7:=List (Int × Int) × Bool
def fQ (a b:bB) (st:B7) (p:Int × Int):B7:=
 if UR a.fin.length st.1 p.1.toNat=UR a.fin.length st.1 ((a.fin.length:Int)+p.2).toNat then st else (st.1++[p],st.2 && (c9 a p.1 == c9 b p.2))
def TF (a b:bB):List (Int × Int):=(Yh a b).map (sh a.fin.length)
def nw (a b:bB):List Int:=PH ((a.fin.length:Int)+b.fin.length) (TF a b)
theorem wD (m:Nat) (qs:List (Int × Int)) (k l:Nat):UR m qs k=UR m qs l↔lA (PR (qs.map (sh m))) k l:=Gd _ k l
theorem Nr {m:Nat} {qs:List (Int × Int)} (p:Int × Int) {k l:Nat} (h:UR m qs k=UR m qs l):UR m (qs++[p]) k=UR m (qs++[p]) l:=by
 rw [wD] at h ⊢
 refine h.mono fun x y Xs=>lA.of ?_
 rw [List.map_append]
 obtain ⟨q,hq,h1⟩:=Xs
 exact ⟨q,List.mem_append_left _ hq,h1⟩
theorem Ka {m:Nat} {qs:List (Int × Int)} {p:Int × Int} (h:p∈qs):UR m qs p.1.toNat=UR m qs ((m:Int)+p.2).toNat:=by
 rw [wD]
 exact lA.of ⟨sh m p,List.mem_map_of_mem h,rfl,rfl⟩
theorem meet_mono (a b:bB) (st:B7) (p:Int × Int) {k l:Nat} (h:UR a.fin.length st.1 k=UR a.fin.length st.1 l):UR a.fin.length (fQ a b st p).1 k=UR a.fin.length (fQ a b st p).1 l:=by
 unfold fQ;split
 ·exact h
 ·exact Nr p h
theorem vb (a b:bB) (st:B7) (p:Int × Int):UR a.fin.length (fQ a b st p).1 p.1.toNat=UR a.fin.length (fQ a b st p).1 ((a.fin.length:Int)+p.2).toNat:=by
 unfold fQ;split
 ·assumption
 ·exact Ka (by simp)
theorem xa (a b:bB) (st:B7) (p:Int × Int):∃ ys,(fQ a b st p).1=st.1++ys:=by
 unfold fQ;split
 ·exact ⟨[],by simp⟩
 ·exact ⟨[p],rfl⟩
structure kR (a b:bB) (i k:Nat) (st:B7):Prop where
 reach:∀ p∈st.1,∃ l,kb a l∧p=(cV a a.s l,cV b b.s l)
 nd:st.1.Nodup
 same:st.2=true↔∀ p∈st.1,c9 a p.1=c9 b p.2
 start:UR a.fin.length st.1 a.s.toNat=UR a.fin.length st.1 ((a.fin.length:Int)+b.s).toNat
 W2:∀ j x:Nat,j<st.1.length→(x:Int)<a.L→(j<i∨(j=i∧x<k))→UR a.fin.length st.1 (az a b (st.1.getD j (0,0)) x).1.toNat=UR a.fin.length st.1 ((a.fin.length:Int)+(az a b (st.1.getD j (0,0)) x).2).toNat
theorem sH {a b:bB} (ha:VD a) (hb:VD b) (hL:a.L=b.L) {l:List UInt8} (hl:kb a l):(cV a a.s l,cV b b.s l)∈jY a.fin.length b.fin.length:=by
 rw [iO]
 exact ⟨mw ha l _ ha.s hl,mw hb l _ hb.s ((wu hL).1 hl)⟩
theorem kR.len {a b:bB} (ha:VD a) (hb:VD b) (hL:a.L=b.L) {i k:Nat} {st:B7} (h:kR a b i k st):st.1.length≤a.fin.length * b.fin.length:=by
 rw [← tT]
 refine dz h.nd fun y hy=>?_
 obtain ⟨l,hl,rfl⟩:=h.reach y hy
 exact sH ha hb hL hl
theorem kR.bd {a b:bB} (ha:VD a) (hb:VD b) (hL:a.L=b.L) {i k:Nat} {st:B7} (h:kR a b i k st) {p:Int × Int} (hp:p∈st.1):(0≤p.1∧p.1<a.fin.length)∧(0≤p.2∧p.2<b.fin.length):=by
 obtain ⟨l,hl,rfl⟩:=h.reach p hp
 exact iO.1 (sH ha hb hL hl)
theorem kR.meet {a b:bB} (ha:VD a) {i k:Nat} {st:B7} (h:kR a b i k st) (hi:i<st.1.length) (hk:(k:Int)<a.L):kR a b i (k+1) (fQ a b st (az a b (st.1.getD i (0,0)) k)):=by
 have hL:=ha.L
 obtain ⟨l,hl,e⟩:=h.reach _ (aX (d:=(0,0)) hi)
 have hr:∃ l,kb a l∧az a b (st.1.getD i (0,0)) k=(cV a a.s l,cV b b.s l):=by
  refine ⟨l++[mf k],CR ha hl hk,?_⟩
  rw [e]
  show (bC a _ k,bC b _ k)=_
  rw [nN _ _ _ (by omega),nN _ _ _ (by omega)]
 generalize hp:az a b (st.1.getD i (0,0)) k=p at *
 have hm:=fun u v=>@meet_mono a b st p u v
 have hu:=vb a b st p
 obtain ⟨ys,Q9⟩:=xa a b st p
 have hgd:∀ j,j<st.1.length→(fQ a b st p).1.getD j (0,0)=st.1.getD j (0,0):=fun j hj=>by rw [Q9];exact gO _ hj
 refine ⟨?_,?_,?_,hm _ _ h.start,?_⟩
 ·intro q hq
  unfold fQ at hq;split at hq
  ·exact h.reach q hq
  ·simp only [List.mem_append,List.mem_singleton] at hq
   rcases hq with hq | rfl
   ·exact h.reach q hq
   ·exact hr
 ·unfold fQ;split
  ·exact h.nd
  ·rename_i j9
   simp only []
   rw [List.nodup_append]
   refine ⟨h.nd,by simp,fun x hx y hy=>?_⟩
   rw [List.mem_singleton] at hy
   subst hy
   rintro rfl
   exact j9 (Ka hx)
 ·unfold fQ;split
  ·exact h.same
  ·simp only [Bool.and_eq_true,beq_iff_eq,h.same,List.mem_append,List.mem_singleton]
   constructor
   ·rintro ⟨h1,h2⟩ q (hq | rfl)
    ·exact h1 q hq
    ·exact h2
   ·exact fun h1=>⟨fun q hq=>h1 q (.inl hq),h1 p (.inr rfl)⟩
 ·intro j x hj hx WM
  have yP:j<st.1.length:=by omega
  rw [hgd j yP]
  rcases WM with h1 | ⟨h1,h2⟩
  ·exact hm _ _ (h.W2 j x yP hx (.inl h1))
  ·rcases Nat.lt_or_eq_of_le (Nat.le_of_lt_succ h2) with h3 | h3
   ·exact hm _ _ (h.W2 j x yP hx (.inr ⟨h1,h3⟩))
   ·subst h1;subst h3;rw [hp];exact hu
theorem kR.next {a b:bB} {i k:Nat} {st:B7} (h:kR a b i k st) (hk:a.L≤k):kR a b (i+1) 0 st:=
 ⟨h.reach,h.nd,h.same,h.start,fun j x hj hx WM=>h.W2 j x hj hx (by rcases WM with h1 | h1;(by_cases e:j=i;(exact .inr ⟨e,by omega⟩);exact .inl (by omega));omega)⟩
theorem kR.init {a b:bB} (ha:VD a) (hb:VD b):fQ a b ([],true) (a.s,b.s)=([(a.s,b.s)],c9 a a.s == c9 b b.s)∧kR a b 0 0 (fQ a b ([],true) (a.s,b.s)):=by
 have h1:=ha.s
 have h2:=hb.s
 have e:fQ a b ([],true) (a.s,b.s)=([(a.s,b.s)],c9 a a.s == c9 b b.s):=by
  unfold fQ
  rw [if_neg (by show ¬ a.s.toNat=((a.fin.length:Int)+b.s).toNat;omega)]
  simp
 refine ⟨e,⟨?_,?_,?_,vb a b _ _,fun j x hj hx WM=>by omega⟩⟩
 ·rw [e];intro p hp;simp at hp;subst hp;exact ⟨[],kb.nil,rfl⟩
 ·rw [e];simp
 ·rw [e];simp
def sB (a b:bB) (x:Nat) (u:Nat):Nat:=if u<a.fin.length then (bC a (u:Int) x).toNat else a.fin.length+(bC b ((u:Int) - a.fin.length) x).toNat
def fB (a b:bB) (u:Nat):Bool:=if u<a.fin.length then c9 a (u:Int) else c9 b ((u:Int) - a.fin.length)
theorem Ui {a b:bB} {x:Nat} {p:Int} (hp:na a p):sB a b x p.toNat=(bC a p x).toNat:=by
 have h1:=hp.1;have h2:=hp.2
 unfold sB;rw [if_pos (by omega),Int.toNat_of_nonneg h1]
theorem Uh {a b:bB} (hb:VD b) {x:Nat} (hx:(x:Int)<b.L) {p:Int} (hp:na b p):sB a b x ((a.fin.length:Int)+p).toNat=((a.fin.length:Int)+bC b p x).toNat:=by
 have h1:=hp.1;have h2:=hp.2
 have h3:=(eH hb hp hx).1
 unfold sB;rw [if_neg (by omega),Int.toNat_of_nonneg (by omega),show (a.fin.length:Int)+p - a.fin.length=p by omega];omega
theorem UA {a b:bB} {p:Int} (hp:na a p):fB a b p.toNat=c9 a p:=by
 have h1:=hp.1;have h2:=hp.2
 unfold fB;rw [if_pos (by omega),Int.toNat_of_nonneg h1]
theorem Uz {a b:bB} {p:Int} (hp:na b p):fB a b ((a.fin.length:Int)+p).toNat=c9 b p:=by
 have h1:=hp.1;have h2:=hp.2
 unfold fB;rw [if_neg (by omega),Int.toNat_of_nonneg (by omega),show (a.fin.length:Int)+p - a.fin.length=p by omega]
structure QT (a b:bB) (K:Nat→Nat→Prop):Prop where
 eqv:Po K
 start:K a.s.toNat ((a.fin.length:Int)+b.s).toNat
 step:∀ u v (x:Nat),(x:Int)<a.L→u<a.fin.length+b.fin.length→v<a.fin.length+b.fin.length→K u v→K (sB a b x u) (sB a b x v)
theorem QT.word {a b:bB} (ha:VD a) (hb:VD b) (hL:a.L=b.L) {K:Nat→Nat→Prop} (h:QT a b K):∀ (l:List UInt8) (p q:Int),na a p→na b q→K p.toNat ((a.fin.length:Int)+q).toNat→kb a l→K (cV a p l).toNat ((a.fin.length:Int)+cV b q l).toNat:=by
 intro l
 induction l with
 | nil=>intro p q _ _ h1 _;exact h1
 | cons c l ih=>
  intro p q hp hq h1 hl
  obtain ⟨h4,h5⟩:=j6.1 hl
  have hx:=vK h4
  rw [fK,fK]
  have uE:((((c.toNat:Int) - 97).toNat:Nat):Int)<b.L:=by rw [← hL];exact hx
  refine ih _ _ (eH ha hp hx) (eH hb hq uE) ?_ h5
  have p1:=hp.1;have p2:=hp.2;have q1:=hq.1;have q2:=hq.2
  have:=h.step _ _ _ hx (by omega) (by omega) h1
  rw [Ui hp,Uh hb uE hq] at this
  exact this
theorem AY {a b:bB} (ha:VD a) (hb:VD b) (hL:a.L=b.L) (p:Int × Int):p∈Yh a b↔∃ l,kb a l∧p=(cV a a.s l,cV b b.s l):=by
 have hv:=ha.L
 have e:((a.L.toNat:Nat):Int)=a.L:=by omega
 have hs:=pn ha hb
 have hc:=ri ha hb hL
 constructor
 ·intro hp
  have bZ:=fg hp
  have hg:=fL (0,0) hp
  obtain ⟨g1,g2⟩:=C7 (z:=(0,0)) (by omega) hs hc bZ
  rw [e] at g2
  refine ⟨_,g2,?_⟩
  rw [pq] at g1
  exact hg.symm.trans g1.symm
 ·rintro ⟨l,hl,rfl⟩
  have:=(Bn (g:=fun _=>true) (z:=(0,0)) a.L hs hc l (a.s,b.s) ((mL _).2) (by rw [e];exact hl)).2
  rw [pq] at this
  exact this
theorem Ve {a b:bB} (ha:VD a) (hb:VD b) (hL:a.L=b.L) {p:Int × Int} (hp:p∈Yh a b):na a p.1∧na b p.2:=by
 obtain ⟨l,hl,rfl⟩:=(AY ha hb hL p).1 hp
 exact iO.1 (sH ha hb hL hl)
theorem Sp {a b:bB} (ha:VD a) (hb:VD b) (hL:a.L=b.L):Q3 ((a.fin.length:Int)+b.fin.length) (TF a b):=by
 have h1:=ha.n
 have h2:=hb.n
 refine ⟨by omega,fun p hp=>?_⟩
 unfold TF at hp
 rw [List.mem_map] at hp
 obtain ⟨q,hq,rfl⟩:=hp
 obtain ⟨⟨p1,p2⟩,q1,q2⟩:=Ve ha hb hL hq
 unfold Xm sh;dsimp only
 omega
theorem QT.ge {a b:bB} (ha:VD a) (hb:VD b) (hL:a.L=b.L) {K:Nat→Nat→Prop} (h:QT a b K) {u v:Nat} (hg:lA (PR (TF a b)) u v):K u v:=by
 refine lA.le h.eqv ?_ hg
 rintro u v ⟨p,hp,rfl,rfl⟩
 unfold TF at hp
 rw [List.mem_map] at hp
 obtain ⟨q,hq,rfl⟩:=hp
 obtain ⟨l,hl,rfl⟩:=(AY ha hb hL _).1 hq
 exact h.word ha hb hL l _ _ ha.s hb.s h.start hl
theorem QT.Wu {a b:bB} (ha:VD a) (hb:VD b) (hL:a.L=b.L) {K:Nat→Nat→Prop} (h:QT a b K) (hf:∀ u v,u<a.fin.length+b.fin.length→v<a.fin.length+b.fin.length→K u v→fB a b u=fB a b v):v7 a b:=by
 intro l hl
 have h1:=h.word ha hb hL l _ _ ha.s hb.s h.start hl
 obtain ⟨⟨i1,i2⟩,i3,i4⟩:=iO.1 (sH ha hb hL hl)
 have h2:=hf _ _ (by omega) (by omega) h1
 rw [UA ⟨i1,i2⟩,Uz ⟨i3,i4⟩] at h2
 exact h2
theorem kR.aaB {a b:bB} (ha:VD a) (hb:VD b) (hL:a.L=b.L) {i:Nat} {st:B7} (h:kR a b i 0 st) (hi:st.1.length≤i):QT a b (FK (UR a.fin.length st.1)):=by
 refine ⟨FK.eqv _,h.start,fun u v x hx _ _ hk=>?_⟩
 have hE:Po (fun u v=>FK (UR a.fin.length st.1) (sB a b x u) (sB a b x v)):=⟨fun u=>rfl,fun u v h=>Eq.symm h,fun u v w h k=>Eq.trans h k⟩
 refine lA.le hE ?_ ((wD _ _ _ _).1 hk)
 rintro u v ⟨p,hp,rfl,rfl⟩
 rw [List.mem_map] at hp
 obtain ⟨q,hq,rfl⟩:=hp
 obtain ⟨i1,i2⟩:=h.bd ha hb hL hq
 show UR _ _ (sB a b x q.1.toNat)=UR _ _ (sB a b x ((a.fin.length:Int)+q.2).toNat)
 rw [Ui i1,Uh hb (by rw [← hL];exact hx) i2]
 obtain ⟨j,hj,e⟩:=List.getElem_of_mem hq
 have:=h.W2 j x hj hx (.inl (by omega))
 rw [List.getD_eq_getElem?_getD,List.getElem?_eq_getElem hj] at this
 simp only [Option.getD_some,e] at this
 exact this
theorem kR.fin {a b:bB} {i k:Nat} (ha:VD a) (hb:VD b) (hL:a.L=b.L) {st:B7} (h:kR a b i k st) (hs:st.2=true) {u v:Nat} (hk:FK (UR a.fin.length st.1) u v):fB a b u=fB a b v:=by
 have hE:Po (fun u v=>fB a b u=fB a b v):=⟨fun u=>rfl,fun u v h=>Eq.symm h,fun u v w h k=>Eq.trans h k⟩
 refine lA.le hE ?_ ((wD _ _ _ _).1 hk)
 rintro u v ⟨p,hp,rfl,rfl⟩
 rw [List.mem_map] at hp
 obtain ⟨q,hq,rfl⟩:=hp
 obtain ⟨i1,i2⟩:=h.bd ha hb hL hq
 show fB a b q.1.toNat=fB a b ((a.fin.length:Int)+q.2).toNat
 rw [UA i1,Uz i2]
 exact h.same.1 hs q hq
theorem kR.done {a b:bB} (ha:VD a) (hb:VD b) (hL:a.L=b.L) {i:Nat} {st:B7} (h:kR a b i 0 st) (hi:st.1.length≤i) (hs:st.2=true):v7 a b∧canon (rH (a.fin.length+b.fin.length) (UR a.fin.length st.1))=nw a b:=by
 have hc:=h.aaB ha hb hL hi
 refine ⟨hc.Wu ha hb hL (fun u v _ _ hk=>h.fin ha hb hL hs hk),?_⟩
 unfold nw PH
 rw [if_pos (Sp ha hb hL)]
 have e:((a.fin.length:Int)+b.fin.length).toNat=a.fin.length+b.fin.length:=by omega
 rw [e]
 refine BL (by rw [eF,eF]) fun u v hu hv=>?_
 rw [eF] at hu hv
 rw [GL hu hv,GL hu hv,Gd]
 constructor
 ·intro hk
  rw [wD] at hk
  refine hk.mono ?_
  rintro u v ⟨p,hp,rfl,rfl⟩
  rw [List.mem_map] at hp
  obtain ⟨q,hq,rfl⟩:=hp
  exact lA.of ⟨sh a.fin.length q,List.mem_map_of_mem ((AY ha hb hL q).2 (h.reach q hq)),rfl,rfl⟩
 ·exact hc.ge ha hb hL
theorem kR.differ {a b:bB} {i k:Nat} {st:B7} (h:kR a b i k st) (hs:st.2=false):¬ v7 a b:=by
 intro hl
 have:¬ st.2=true:=by rw [hs];decide
 rw [h.same] at this
 apply this
 intro p hp
 obtain ⟨l,BT,rfl⟩:=h.reach p hp
 exact hl l BT
theorem yj.idem {ρ:Nat→Nat} {f:List Int} {n:Nat} (h:yj ρ f n):∀ k,k<n→ρ (ρ k) = ρ k:=by
 intro k
 induction k using Nat.strongRecOn with
 | _ k ih=>
  intro hk
  obtain ⟨a1,a2,a3,a4,a5⟩:=h.2 k hk
  by_cases e:f.getD k 0=k
  ·rw [a4.1 e];exact a4.1 e
  ·have:=ih (f.getD k 0).toNat (by omega) (by omega)
   rw [a3] at this;exact this
theorem yj.Gk {ρ:Nat→Nat} {f:List Int} {n i:Nat} (h:yj ρ f n) (hi:i<n):yj ρ (f.set i ((ρ i:Nat):Int)) n:=by
 refine ⟨by rw [List.length_set];exact h.1,fun k hk=>?_⟩
 by_cases e:i=k
 ·subst e
  obtain ⟨a1,a2,a3,a4,a5⟩:=h.2 i hk
  rw [fy (by rw [h.1];exact hi)]
  refine ⟨by omega,by omega,by rw [Int.toNat_natCast];exact h.idem i hi,by omega,a5⟩
 ·rw [fO e];exact h.2 k hk
def AtR (ρ:Nat→Nat) (f g:List Int) (n:Nat):Prop:=∀ j,j<n→f.getD j 0=((ρ j:Nat):Int)→g.getD j 0=((ρ j:Nat):Int)
theorem AtR.JX {ρ:Nat→Nat} {f g:List Int} {n i:Nat} (h:AtR ρ f g n) (hr:yj ρ g n) (hi:i<n):AtR ρ f (g.set i (g.getD (g.getD i 0).toNat 0)) n:=by
 intro j hj hf
 have hg:=h j hj hf
 by_cases e:i=j
 ·subst e
  rw [fy (by rw [hr.1];exact hi),hg,Int.toNat_natCast]
  have bZ:ρ i<n:=by have:=(hr.2 i hi).2.2.2.2;omega
  exact (hr.2 (ρ i) bZ).2.2.2.1.2 (hr.idem i hi)
 ·rw [fO e];exact hg
theorem Dq {ρ:Nat→Nat} {f:List Int} {n:Nat} (hl:f.length=n) (h:∀ j,j<n→f.getD j 0=((ρ j:Nat):Int)):f=rH n ρ:=by
 apply List.ext_getElem
 ·rw [eF];exact hl
 ·intro j h1 h2
  have:=h j (by omega)
  rw [List.getD_eq_getElem?_getD,List.getElem?_eq_getElem h1] at this
  simp only [Option.getD_some] at this
  rw [this]
  simp [rH]
end Go.Sx.Pt
namespace Go.Sx.Pt
def ql (a b:bB) (op:Int):List UInt8 × Bool:=oH (az a b) a.L.toNat (a.s,b.s) (0,0) (jY a.fin.length b.fin.length).length (JA a b op)
theorem xK {a b:bB} (h:jB a b=0):VD a∧VD b∧a.L=b.L:=by
 unfold jB at h
 rw [← gj,← gj]
 by_cases h1:nk a=0 <;> by_cases h2:nk b=0 <;> by_cases h3:a.L=b.L <;> simp_all
theorem Lt {a b:bB} (ha:VD a) (hb:VD b) (hL:a.L=b.L):jB a b=0:=by
 unfold jB
 simp only [(gj a).2 ha,(gj b).2 hb,hL,ne_eq,not_true_eq_false,if_false]
theorem RA (u v:Bool):T7 6 u v=(u != v):=by cases u <;> cases v <;> decide
theorem Vz (a b:bB) (p:Int × Int):JA a b 6 p=(c9 a p.1 != c9 b p.2):=RA _ _
theorem L8 {a b:bB} (ha:VD a) (hb:VD b) (hL:a.L=b.L) (op:Int) :
  ((ql a b op).2=true→kb a (ql a b op).1∧T7 op (c9 a (cV a a.s (ql a b op).1)) (c9 b (cV b b.s (ql a b op).1))=true) ∧
  (∀ l,kb a l→T7 op (c9 a (cV a a.s l)) (c9 b (cV b b.s l))=true→(ql a b op).2=true∧sle (ql a b op).1 l):=by
 have hv:=ha.L
 have e:((a.L.toNat:Nat):Int)=a.L:=by omega
 have h:=KY (f:=az a b) (L:=a.L.toNat) (z:=(0,0)) (wd:=JA a b op) (by omega) (pn ha hb) (ri ha hb hL)
 rw [e] at h
 have hw:∀ l,JA a b op (gi (az a b) (a.s,b.s) l)=T7 op (c9 a (cV a a.s l)) (c9 b (cV b b.s l)):=fun l=>by rw [pq];rfl
 refine ⟨fun h2=>?_,fun l hl j9=>h.2 l hl (by rw [hw];exact j9)⟩
 obtain ⟨h3,h4⟩:=h.1 h2
 rw [hw] at h4
 exact ⟨h3,h4⟩
theorem IC {a b:bB} {op:Int} (h:(ql a b op).2=false):(ql a b op).1=[]:=by
 unfold ql oH at *
 split at h
 ·cases h
 ·rfl
theorem Dh {a b:bB} (ha:VD a) (hb:VD b) (hL:a.L=b.L):(ql a b 6).2=false↔v7 a b:=by
 obtain ⟨h1,h2⟩:=L8 ha hb hL 6
 constructor
 ·intro h l hl
  apply Classical.byContradiction
  intro j9
  have:=(h2 l hl (by rw [RA];simpa using j9)).1
  rw [h] at this;cases this
 ·intro h
  cases e:(ql a b 6).2 with
  | false=>rfl
  | true=>
   obtain ⟨h3,h4⟩:=h1 e
   rw [RA,h _ h3] at h4
   simp at h4
def n9 (a b:bB):Bool:=decide (jB a b=0) && !(ql a b 6).2
def J7 (a b:bB):List UInt8:=if jB a b=0 then (ql a b 6).1 else []
def yZ (a b:bB):List Int:=if n9 a b=true then nw a b else []
theorem LY {a b:bB} (h:jB a b ≠ 0):n9 a b=false∧J7 a b=[]∧yZ a b=[]:=by
 have h1:n9 a b=false:=by unfold n9;rw [decide_eq_false h];rfl
 exact ⟨h1,if_neg h,by unfold yZ;rw [h1];rfl⟩
theorem Bt {a b:bB} (h:jB a b=0):n9 a b = !(ql a b 6).2∧J7 a b=(ql a b 6).1:=⟨by unfold n9;rw [decide_eq_true h];rfl,if_pos h⟩
theorem xu {a b:bB} (h:jB a b=0):n9 a b=true↔v7 a b:=by
 obtain ⟨ha,hb,hL⟩:=xK h
 rw [(Bt h).1,← Dh ha hb hL]
 simp
end Go.Sx.Pt
