import Derived.Test.YtbibnpdnmmgacaaGreatDoorKZc
import Derived.Test.YtbibnpdnmmgacaaGreatDoorKZb
import Derived.Test.YtbibnpdnmmgacaaGreatDoorKZe
import Derived.Test.YtbibnpdnmmgacaaGreatDoorKZd
set_option linter.unusedVariables false
set_option linter.unusedSimpArgs false
set_option linter.unusedSectionVars false
set_option maxRecDepth 100000
namespace Go.Sx
section
variable {α β : Type} [DecidableEq α] [DecidableEq β]
def ee (xs:List α):List α:=xs.foldl dY []
theorem pw:∀ (xs acc:List α) (x:α),x∈xs.foldl dY acc↔x∈acc∨x∈xs
 | [],acc,x=>by simp
 | y :: ys,acc,x=>by
  rw [List.foldl_cons,pw ys (dY acc y) x,List.mem_cons]
  constructor
  ·rintro (h | h)
   ·rcases rn h with h | h
    ·exact .inl h
    ·exact .inr (.inl h)
   ·exact .inr (.inr h)
  ·rintro (h | h | h)
   ·exact .inl (sO h)
   ·subst h;exact .inl (mE _ _)
   ·exact .inr h
theorem mV:∀ (xs acc:List α),acc.Nodup→(xs.foldl dY acc).Nodup
 | [],acc,h=>h
 | y :: ys,acc,h=>mV ys _ (xP h)
theorem LR (xs:List α) (x:α):(dY xs x).length≤xs.length+1:=by unfold dY;split <;> simp
theorem px:∀ (xs acc:List α),(xs.foldl dY acc).length≤acc.length+xs.length
 | [],acc=>by simp
 | y :: ys,acc=>by
  have h1:=px ys (dY acc y)
  have h2:=LR acc y
  rw [List.foldl_cons,List.length_cons];omega
theorem Di (xs:List α) (x:α):ee (xs++[x])=dY (ee xs) x:=by simp [ee]
theorem pc {xs:List α} (d:α) {k:Nat} (h:k<xs.length):ee (xs.take (k+1))=dY (ee (xs.take k)) (xs.getD k d):=by
 rw [aO d xs k h,Di]
theorem fY {xs:List α} {x:α}:x∈ee xs↔x∈xs:=by rw [ee,pw];simp
theorem uw (xs:List α):(ee xs).Nodup:=mV xs [] List.nodup_nil
theorem Ay (xs:List α):(ee xs).length≤xs.length:=by have:=px xs [];simpa [ee] using this
def dK (xs:List α):List Int:=xs.map fun x=>((bV (ee xs) x:Nat):Int)
theorem jt (xs:List α):(dK xs).length=xs.length:=by simp [dK]
theorem IH (xs:List α) (x:α):dK (xs++[x])=dK xs++[((bV (ee xs) x:Nat):Int)]:=by
 unfold dK
 rw [Di,List.map_append]
 congr 1
 ·apply List.map_congr_left
  intro y hy
  obtain ⟨ys,e⟩:=o8 (ee xs) x
  rw [e,lM ys (fY.2 hy)]
 ·rw [List.map_cons,List.map_nil,Kp (xs:=ee xs) (XS:=dY (ee xs) x) (ys:=[]) (by simp)]
theorem p7 {xs:List α} (d:α) {k:Nat} (h:k<xs.length):dK (xs.take (k+1))=dK (xs.take k)++[((bV (ee (xs.take k)) (xs.getD k d):Nat):Int)]:=by
 rw [aO d xs k h,IH]
theorem pe {xs:List α} (d:α) {i:Nat} (h:i<xs.length):(dK xs).getD i 0=((bV (ee xs) (xs.getD i d):Nat):Int):=by
 simp [dK,List.getD_eq_getElem?_getD,h]
theorem OP {xs:List α} {i:Nat} (h:i<xs.length):0≤(dK xs).getD i 0∧(dK xs).getD i 0<(ee xs).length:=by
 rw [pe (xs[i]) h]
 have:=fg (fY.2 (aX (d:=xs[i]) h))
 omega
theorem BE {xs:List α} (d:α) {i j:Nat} (hi:i<xs.length) (hj:j<xs.length):(dK xs).getD i 0=(dK xs).getD j 0↔xs.getD i d=xs.getD j d:=by
 rw [pe d hi,pe d hj]
 constructor
 ·intro h
  have h':bV (ee xs) (xs.getD i d)=bV (ee xs) (xs.getD j d):=by omega
  have h1:=fL d (fY.2 (aX (d:=d) hi))
  have h2:=fL d (fY.2 (aX (d:=d) hj))
  rw [h'] at h1
  exact h1.symm.trans h2
 ·intro h;rw [h]
theorem iJ {xs:List α} (d:α) {i k:Nat} (h:i<k):(xs.take k).getD i d=xs.getD i d:=by
 simp [List.getD_eq_getElem?_getD,List.getElem?_take,h]
theorem sX {xs:List α} {ys:List β} (d:α) (e:β) (hl:xs.length=ys.length) (h:∀ i j,i<xs.length→j<xs.length→(xs.getD i d=xs.getD j d↔ys.getD i e=ys.getD j e)):dK xs=dK ys∧(ee xs).length=(ee ys).length:=by
 have key:∀ k,k≤xs.length→dK (xs.take k)=dK (ys.take k)∧(ee (xs.take k)).length=(ee (ys.take k)).length:=by
  intro k
  induction k with
  | zero=>intro _;simp [dK,ee]
  | succ k ih=>
   intro hk
   obtain ⟨h1,h2⟩:=ih (by omega)
   have ik:k<xs.length:=by omega
   have hky:k<ys.length:=by omega
   have e0:bV (ee (xs.take k)) (xs.getD k d)=bV (ee (ys.take k)) (ys.getD k e)∧(xs.getD k d∈ee (xs.take k)↔ys.getD k e∈ee (ys.take k)):=by
    have MM:xs.getD k d∈ee (xs.take k)↔∃ i,i<k∧xs.getD i d=xs.getD k d:=by
     rw [fY]
     constructor
     ·intro hm
      obtain ⟨i,hi,e⟩:=fI d hm
      rw [List.length_take] at hi
      exact ⟨i,by omega,by rw [← iJ d (k:=k) (by omega)];exact e⟩
     ·rintro ⟨i,hi,e⟩
      rw [← e,← iJ d hi]
      exact aX (by rw [List.length_take];omega)
    have hmy:ys.getD k e∈ee (ys.take k)↔∃ i,i<k∧ys.getD i e=ys.getD k e:=by
     rw [fY]
     constructor
     ·intro hm
      obtain ⟨i,hi,e'⟩:=fI e hm
      rw [List.length_take] at hi
      exact ⟨i,by omega,by rw [← iJ e (k:=k) (by omega)];exact e'⟩
     ·rintro ⟨i,hi,e'⟩
      rw [← e',← iJ e hi]
      exact aX (by rw [List.length_take];omega)
    have hm:xs.getD k d∈ee (xs.take k)↔ys.getD k e∈ee (ys.take k):=by
     rw [MM,hmy]
     constructor
     ·rintro ⟨i,hi,e'⟩;exact ⟨i,hi,(h i k (by omega) ik).1 e'⟩
     ·rintro ⟨i,hi,e'⟩;exact ⟨i,hi,(h i k (by omega) ik).2 e'⟩
    refine ⟨?_,hm⟩
    by_cases hx:xs.getD k d∈ee (xs.take k)
    ·obtain ⟨i,hi,e'⟩:=MM.1 hx
     have e2:=(h i k (by omega) ik).1 e'
     have TX:i<(xs.take k).length:=by rw [List.length_take];omega
     have hiy:i<(ys.take k).length:=by rw [List.length_take];omega
     have g1:=pe d TX
     have g2:=pe e hiy
     rw [iJ d hi,e'] at g1
     rw [iJ e hi,e2] at g2
     rw [h1] at g1
     omega
    ·rw [ix hx,ix (fun hy=>hx (hm.2 hy)),h2]
   refine ⟨?_,?_⟩
   ·rw [p7 d ik,p7 e hky,h1,e0.1]
   ·rw [pc d ik,pc e hky]
    unfold dY
    by_cases hx:xs.getD k d∈ee (xs.take k)
    ·rw [if_pos hx,if_pos (e0.2.1 hx),h2]
    ·rw [if_neg hx,if_neg (fun hy=>hx (e0.2.2 hy)),List.length_append,List.length_append,h2];rfl
 have:=key xs.length (Nat.le_refl _)
 rw [List.take_length] at this
 have e:ys.take xs.length=ys:=by rw [hl,List.take_length]
 rw [e] at this
 exact this
theorem zO (xs:List α):dK (dK xs)=dK xs:=by
 by_cases h0:xs.length=0
 ·have:=List.length_eq_zero_iff.1 h0;subst this;rfl
 ·have hd:0<xs.length:=by omega
  exact (sX (xs:=dK xs) (ys:=xs) 0 xs[0] (jt xs) (fun i j hi hj=>by rw [jt] at hi hj;exact BE _ hi hj)).1
theorem sW (xs:List α):(ee (dK xs)).length=(ee xs).length:=by
 by_cases h0:xs.length=0
 ·have:=List.length_eq_zero_iff.1 h0;subst this;rfl
 ·have hd:0<xs.length:=by omega
  exact (sX (xs:=dK xs) (ys:=xs) 0 xs[0] (jt xs) (fun i j hi hj=>by rw [jt] at hi hj;exact BE _ hi hj)).2
theorem Fi {xs:List α} {ys:List β} (d:α) (e:β) (hl:xs.length=ys.length) (h:∀ i j,i<xs.length→j<xs.length→xs.getD i d=xs.getD j d→ys.getD i e=ys.getD j e) :
  (ee ys).length≤(ee xs).length∧((ee xs).length≤(ee ys).length→∀ i j,i<xs.length→j<xs.length→ys.getD i e=ys.getD j e→xs.getD i d=xs.getD j d):=by
 have hg:∀ i,i<xs.length→ys.getD (bV xs (xs.getD i d)) e=ys.getD i e:=by
  intro i hi
  have hm:=aX (d:=d) hi
  exact h _ _ (fg hm) hi (fL d hm)
 refine ⟨?_,?_⟩
 ·have:(ee ys).length≤((ee xs).map fun a=>ys.getD (bV xs a) e).length:=dz (uw ys) (fun y hy=>by
   obtain ⟨k,hk,ek⟩:=fI e (fY.1 hy)
   rw [← ek,← hg k (by omega)]
   exact List.mem_map_of_mem (f:=fun a=>ys.getD (bV xs a) e) (fY.2 (aX (d:=d) (by omega))))
  rwa [List.length_map] at this
 ·intro hle i j hi hj hy
  apply Classical.byContradiction
  intro j9
  have uH:xs.getD i d∈ee xs:=fY.2 (aX hi)
  have hmj:xs.getD j d∈ee xs:=fY.2 (aX hj)
  have:(ee ys).length≤(((ee xs).erase (xs.getD i d)).map fun a=>ys.getD (bV xs a) e).length:=dz (uw ys) (fun y Xr=>by
   obtain ⟨k,hk,ek⟩:=fI e (fY.1 Xr)
   by_cases ov:xs.getD k d=xs.getD i d
   ·have e1:ys.getD k e=ys.getD j e:=(h k i (by omega) hi ov).trans hy
    rw [← ek,e1,← hg j hj]
    exact List.mem_map_of_mem (f:=fun a=>ys.getD (bV xs a) e) ((List.mem_erase_of_ne (fun h=>j9 h.symm)).2 hmj)
   ·rw [← ek,← hg k (by omega)]
    exact List.mem_map_of_mem (f:=fun a=>ys.getD (bV xs a) e) ((List.mem_erase_of_ne ov).2 (fY.2 (aX (d:=d) (by omega)))))
  rw [List.length_map,List.length_erase_of_mem uH] at this
  have:=List.length_pos_of_mem uH
  omega
end
end Go.Sx
namespace Go.Sx
def rF (d:bB) (k:Nat) (p q:Int):Prop:=∀ l,kb d l→l.length≤k→c9 d (cV d p l)=c9 d (cV d q l)
def zW (d:bB) (p q:Int):Prop:=∀ l,kb d l→c9 d (cV d p l)=c9 d (cV d q l)
theorem kb.nil {d:bB}:kb d []:=rfl
theorem j6 {d:bB} {c:UInt8} {l:List UInt8}:kb d (c :: l)↔okB d.L c=true∧kb d l:=by unfold kb;rw [List.all_cons,Bool.and_eq_true]
theorem zW.refl (d:bB) (p:Int):zW d p p:=fun _ _=>rfl
theorem zW.run {d:bB} {p q:Int} (h:zW d p q) {u:List UInt8} (hu:kb d u):zW d (cV d p u) (cV d q u):=fun l hl=>by
 rw [← dT,← dT];exact h _ (hu.app hl)
theorem rF.zero {d:bB} {p q:Int}:rF d 0 p q↔c9 d p=c9 d q:=by
 constructor
 ·intro h;exact h [] kb.nil (Nat.le_refl _)
 ·intro h l _ hl
  have:l=[]:=List.length_eq_zero_iff.1 (by omega)
  subst this;exact h
theorem vK {L:Int} {c:UInt8} (h:okB L c=true):(((c.toNat:Int) - 97).toNat:Int)<L:=by
 simp only [okB,decide_eq_true_eq] at h;omega
theorem fK (d:bB) (q:Int) (c:UInt8) (l:List UInt8):cV d q (c :: l)=cV d (bC d q ((c.toNat:Int) - 97).toNat) l:=rfl
theorem rF.succ {d:bB} (hv:VD d) {k:Nat} {p q:Int}:rF d (k+1) p q↔c9 d p=c9 d q∧∀ x:Nat,(x:Int)<d.L→rF d k (bC d p x) (bC d q x):=by
 have hL:=hv.L
 constructor
 ·intro h
  refine ⟨h [] kb.nil (Nat.zero_le _),fun x hx l hl hk=>?_⟩
  have:=h (mf x :: l) (j6.2 ⟨A2 hL hx,hl⟩) (by simp;omega)
  rw [fK,fK,A6 (by omega)] at this
  exact this
 ·rintro ⟨h0,h⟩ l hl hk
  cases l with
  | nil=>exact h0
  | cons c l=>
   obtain ⟨h1,h2⟩:=j6.1 hl
   rw [fK,fK]
   exact h _ (vK h1) l h2 (by simp at hk;omega)
theorem rF.mono {d:bB} {k m:Nat} (h:k≤m) {p q:Int} (he:rF d m p q):rF d k p q:=fun l hl hk=>he l hl (by omega)
theorem zW.k {d:bB} {p q:Int} (h:zW d p q) (k:Nat):rF d k p q:=fun l hl _=>h l hl
theorem rF.U2 {d:bB} (hv:VD d) {k:Nat} {p q:Int}:rF d (k+1) p q↔rF d k p q∧∀ x:Nat,(x:Int)<d.L→rF d k (bC d p x) (bC d q x):=by
 constructor
 ·intro h;exact ⟨h.mono (by omega),((rF.succ hv).1 h).2⟩
 ·rintro ⟨h1,h2⟩;exact (rF.succ hv).2 ⟨rF.zero.1 (h1.mono (Nat.zero_le _)),h2⟩
theorem eH {d:bB} (hv:VD d) {q:Int} (hq:na d q) {x:Nat} (hx:(x:Int)<d.L):na d (bC d q x):=by
 have h1:=eR.1 (eG hv q (eR.2 hq) x (by omega))
 exact h1
def FD (d:bB) (k:Nat):Prop:=∀ p q,na d p→na d q→rF d k p q→rF d (k+1) p q
theorem FD.next {d:bB} (hv:VD d) {k:Nat} (h:FD d k):FD d (k+1):=fun p q hp hq he=>by
 rw [rF.succ hv] at he ⊢
 exact ⟨he.1,fun x hx=>h _ _ (eH hv hp hx) (eH hv hq hx) (he.2 x hx)⟩
theorem FD.eqs {d:bB} (hv:VD d) {k:Nat} (h:FD d k) {p q:Int} (hp:na d p) (hq:na d q) (he:rF d k p q):zW d p q:=by
 have key:∀ m,FD d (k+m)∧rF d (k+m) p q:=by
  intro m
  induction m with
  | zero=>exact ⟨h,he⟩
  | succ m ih=>exact ⟨ih.1.next hv,ih.1 p q hp hq ih.2⟩
 intro l hl
 exact (key l.length).2 l hl (by omega)
theorem FD.mono {d:bB} (hv:VD d) {k m:Nat} (h:FD d k) (hm:k≤m):FD d m:=by
 obtain ⟨j,rfl⟩:∃ j,m=k+j:=⟨m - k,by omega⟩
 clear hm
 induction j with
 | zero=>exact h
 | succ j ih=>exact ih.next hv
def td (d:bB) (k:Nat) (cs:List Int):Prop:=cs.length=d.fin.length∧∀ i j:Nat,i<d.fin.length→j<d.fin.length→(cs.getD i 0=cs.getD j 0↔rF d k (i:Int) (j:Int))
def rG (d:bB) (cs:List Int) (q:Nat):List Int:=cs.getD q 0 :: (d.nx.getD q []).map fun t=>cs.getD t.toNat 0
def sigs (d:bB) (cs:List Int):List (List Int):=(List.range d.fin.length).map (rG d cs)
theorem mu (d:bB) (cs:List Int):(sigs d cs).length=d.fin.length:=by simp [sigs]
theorem sw {d:bB} {cs:List Int} {q:Nat} (h:q<d.fin.length):(sigs d cs).getD q []=rG d cs q:=by simp [sigs,List.getD_eq_getElem?_getD,h]
def DP (d:bB):Nat→List Int
 | 0=>d.fin.map fun b=>if b then 1 else 0
 | k+1=>dK (sigs d (DP d k))
theorem A8 (d:bB):∀ k,(DP d k).length=d.fin.length
 | 0=>by simp [DP]
 | k+1=>by rw [DP,jt,mu]
theorem NA {d:bB} (hv:VD d) {k:Nat} {cs:List Int} (h:td d k cs) {i j:Nat} (hi:i<d.fin.length) (hj:j<d.fin.length):rG d cs i=rG d cs j↔rF d (k+1) (i:Int) (j:Int):=by
 have hL:=hv.L
 have hn:=hv.nx
 have hri:=hv.row i (by omega)
 have hrj:=hv.row j (by omega)
 rw [rF.U2 hv]
 unfold rG
 rw [List.cons.injEq]
 refine and_congr (h.2 i j hi hj) ?_
 have hs:∀ p:Nat,p<d.fin.length→∀ x:Nat,(x:Int)<d.L→((d.nx.getD p []).map fun t=>cs.getD t.toNat 0).getD x 0=cs.getD (bC d (p:Int) x).toNat 0:=by
  intro p hp x hx
  have hr:=hv.row p (by omega)
  have bZ:x<(d.nx.getD p []).length:=by omega
  show _=cs.getD ((d.nx.getD (p:Int).toNat []).getD x 0).toNat 0
  rw [Int.toNat_natCast]
  generalize d.nx.getD p []=r at *
  simp [List.getD_eq_getElem?_getD,bZ]
 have hk:∀ x:Nat,(x:Int)<d.L→(cs.getD (bC d (i:Int) x).toNat 0=cs.getD (bC d (j:Int) x).toNat 0↔rF d k (bC d (i:Int) x) (bC d (j:Int) x)):=by
  intro x hx
  have h1:=eH hv (q:=(i:Int)) ⟨by omega,by omega⟩ hx
  have h2:=eH hv (q:=(j:Int)) ⟨by omega,by omega⟩ hx
  have:=h.2 (bC d (i:Int) x).toNat (bC d (j:Int) x).toNat (by have:=h1.1;have:=h1.2;omega) (by have:=h2.1;have:=h2.2;omega)
  rw [Int.toNat_of_nonneg h1.1,Int.toNat_of_nonneg h2.1] at this
  exact this
 constructor
 ·intro he x hx
  rw [← hk x hx,← hs i hi x hx,← hs j hj x hx,he]
 ·intro he
  apply List.ext_getElem
  ·rw [List.length_map,List.length_map];omega
  ·intro x h1 h2
   rw [List.length_map] at h1
   have hx:(x:Int)<d.L:=by omega
   have e1:=hs i hi x hx
   have e2:=hs j hj x hx
   rw [(hk x hx).2 (he x hx),← e2] at e1
   generalize (d.nx.getD i []).map (fun t=>cs.getD t.toNat 0)=u at *
   generalize (d.nx.getD j []).map (fun t=>cs.getD t.toNat 0)=v at *
   simpa [List.getD_eq_getElem?_getD, *] using e1
theorem td.next {d:bB} (hv:VD d) {k:Nat} {cs:List Int} (h:td d k cs):td d (k+1) (dK (sigs d cs)):=by
 refine ⟨by rw [jt,mu],fun i j hi hj=>?_⟩
 rw [BE [] (by rw [mu];exact hi) (by rw [mu];exact hj),sw hi,sw hj,NA hv h hi hj]
theorem sT {d:bB} {i:Nat}:c9 d (i:Int)=d.fin.getD i false:=by simp [c9]
theorem td.zero (d:bB):td d 0 (DP d 0):=by
 refine ⟨by simp [DP],fun i j hi hj=>?_⟩
 rw [rF.zero,sT,sT]
 simp only [DP,List.getD_eq_getElem?_getD,List.getElem?_map,List.getElem?_eq_getElem hi,List.getElem?_eq_getElem hj,Option.map_some,Option.getD_some]
 cases d.fin[i] <;> cases d.fin[j] <;> simp
theorem pI {d:bB} (hv:VD d):∀ k,td d k (DP d k)
 | 0=>td.zero d
 | k+1=>(pI hv k).next hv
theorem td.uniq {d:bB} {k m:Nat} {cs ds:List Int} (h:td d k cs) (h':td d m ds) (he:∀ i j:Nat,i<d.fin.length→j<d.fin.length→(rF d k (i:Int) (j:Int)↔rF d m (i:Int) (j:Int))):dK cs=dK ds∧(ee cs).length=(ee ds).length:=
 sX 0 0 (h.1.trans h'.1.symm) (fun i j hi hj=>by rw [h.1] at hi hj;rw [h.2 i j hi hj,h'.2 i j hi hj,he i j hi hj])
theorem td.ref {d:bB} {k:Nat} {cs ds:List Int} (h:td d k cs) (h':td d (k+1) ds):(ee cs).length≤(ee ds).length∧((ee ds).length≤(ee cs).length→FD d k):=by
 have:=Fi (xs:=ds) (ys:=cs) 0 0 (h'.1.trans h.1.symm) (fun i j hi hj e=>by
  rw [h'.1] at hi hj
  rw [h.2 i j hi hj]
  exact ((h'.2 i j hi hj).1 e).mono (by omega))
 refine ⟨this.1,fun hle p q hp hq he=>?_⟩
 have yO:=hp.1;have MK:=hp.2;have QA:=hq.1;have I2:=hq.2
 have e1:((p.toNat:Nat):Int)=p:=by omega
 have e2:((q.toNat:Nat):Int)=q:=by omega
 have h1:=h.2 p.toNat q.toNat (by omega) (by omega)
 have h2:=h'.2 p.toNat q.toNat (by omega) (by omega)
 rw [e1,e2] at h1 h2
 exact h2.1 (this.2 hle p.toNat q.toNat (by rw [h'.1];omega) (by rw [h'.1];omega) (h1.2 he))
theorem rj {d:bB} (hv:VD d):FD d (d.fin.length - 1):=by
 have hn:0<d.fin.length:=by have:=hv.s;omega
 have key:∀ k,(∃ j,j<k∧FD d j)∨k+1≤(ee (DP d k)).length:=by
  intro k
  induction k with
  | zero=>
   right
   have:DP d 0 ≠ []:=by intro h;have:=A8 d 0;rw [h] at this;simp at this;omega
   obtain ⟨a,ha⟩:=List.exists_mem_of_ne_nil _ this
   have:=List.length_pos_of_mem (fY.2 ha)
   omega
  | succ k ih=>
   rcases ih with ⟨j,hj,h⟩ | h
   ·exact .inl ⟨j,by omega,h⟩
   ·obtain ⟨h1,h2⟩:=(pI hv k).ref (pI hv (k+1))
    by_cases hle:(ee (DP d (k+1))).length≤(ee (DP d k)).length
    ·exact .inl ⟨k,by omega,h2 hle⟩
    ·right;omega
 rcases key d.fin.length with ⟨j,hj,h⟩ | h
 ·exact h.mono hv (by omega)
 ·have:=Ay (DP d d.fin.length)
  rw [A8] at this;omega
def dj (d:bB):List Int:=DP d d.fin.length
def gH (d:bB) (p:Int):Int:=(dj d).getD p.toNat 0
theorem vW (d:bB):(dj d).length=d.fin.length:=A8 d _
theorem KC {d:bB} (hv:VD d) {k:Nat} {cs:List Int} (h:td d k cs) (hs:FD d k):dK cs=dj d∧(ee cs).length=(ee (dj d)).length:=by
 have hn:0<d.fin.length:=by have:=hv.s;omega
 obtain ⟨m,hm⟩:∃ m,d.fin.length=m+1:=⟨d.fin.length - 1,by omega⟩
 have h0:=h.uniq (pI hv d.fin.length) (fun i j hi hj=>by
  have ox:na d (i:Int):=⟨by omega,by omega⟩
  have yp:na d (j:Int):=⟨by omega,by omega⟩
  exact ⟨fun he=>(hs.eqs hv ox yp he).k _,fun he=>(((rj hv).mono hv (by omega)).eqs hv ox yp he).k _⟩)
 have e:dK (DP d d.fin.length)=dj d:=by unfold dj;rw [hm,DP,zO]
 rw [e] at h0
 exact h0
theorem BD {d:bB} (hv:VD d):dK (dj d)=dj d:=(KC hv (pI hv d.fin.length) ((rj hv).mono hv (by omega))).1
theorem ED {d:bB} (hv:VD d) {p q:Int} (hp:na d p) (hq:na d q):gH d p=gH d q↔zW d p q:=by
 have yO:=hp.1;have MK:=hp.2;have QA:=hq.1;have I2:=hq.2
 have h:=(pI hv d.fin.length).2 p.toNat q.toNat (by omega) (by omega)
 rw [Int.toNat_of_nonneg yO,Int.toNat_of_nonneg QA] at h
 unfold gH dj
 rw [h]
 exact ⟨((rj hv).mono hv (by omega)).eqs hv hp hq,fun h=>h.k _⟩
theorem S0 {d:bB} (hv:VD d) {p:Int} (hp:na d p):0≤gH d p∧gH d p<(ee (dj d)).length:=by
 have yO:=hp.1;have MK:=hp.2
 unfold gH
 rw [← BD hv]
 have h:=OP (xs:=dj d) (i:=p.toNat) (by rw [vW];omega)
 rw [sW];exact h
end Go.Sx
namespace Go.Sx
section
variable {α β : Type} [DecidableEq α] [DecidableEq β]
inductive lG (R:α→β→Prop):List α→List β→Prop
 | nil:lG R [] []
 | cons {a b xs ys}:R a b→lG R xs ys→lG R (a :: xs) (b :: ys)
variable {R : α → β → Prop}
theorem lG.len {xs:List α} {ys:List β} (h:lG R xs ys):xs.length=ys.length:=by
 induction h with
 | nil=>rfl
 | cons _ _ ih=>simp [ih]
theorem lG.get {xs:List α} {ys:List β} (h:lG R xs ys) (z:α) (z':β):∀ i,i<xs.length→R (xs.getD i z) (ys.getD i z'):=by
 induction h with
 | nil=>intro i hi;simp at hi
 | cons h1 _ ih=>
  intro i hi
  cases i with
  | zero=>exact h1
  | succ i=>exact ih i (by simpa using hi)
theorem lG.snoc {xs:List α} {ys:List β} (h:lG R xs ys) {a:α} {b:β} (tc:R a b):lG R (xs++[a]) (ys++[b]):=by
 induction h with
 | nil=>exact .cons tc .nil
 | cons h1 _ ih=>exact .cons h1 ih
def JH (R:α→β→Prop):Prop:=∀ a b a' b',R a b→R a' b'→(a=a'↔b=b')
theorem lG.pos (hR:JH R) {xs:List α} {ys:List β} (h:lG R xs ys) {a:α} {b:β} (tc:R a b):bV xs a=bV ys b∧(a∈xs↔b∈ys):=by
 induction h with
 | nil=>simp [bV]
 | @cons c d xs ys h1 _ ih=>
  have e:=hR _ _ _ _ tc h1
  constructor
  ·unfold bV
   by_cases hc:a=c
   ·rw [if_pos hc,if_pos (e.1 hc)]
   ·rw [if_neg hc,if_neg (fun h=>hc (e.2 h)),ih.1]
  ·rw [List.mem_cons,List.mem_cons,e,ih.2]
theorem lG.ins (hR:JH R) {xs:List α} {ys:List β} (h:lG R xs ys) {a:α} {b:β} (tc:R a b):lG R (dY xs a) (dY ys b):=by
 unfold dY
 have:=(h.pos hR tc).2
 by_cases hm:a∈xs
 ·rw [if_pos hm,if_pos (this.1 hm)];exact h
 ·rw [if_neg hm,if_neg (fun h=>hm (this.2 h))];exact h.snoc tc
theorem Dr (hR:JH R) {f:α→Nat→α} {g:β→Nat→β} {p:α} {q:β} {L:Nat} (hf:∀ x,x<L→R (f p x) (g q x)) {xs:List α} {ys:List β} (h:lG R xs ys):∀ k,k≤L→lG R (gk f p xs k) (gk g q ys k)
 | 0,_=>h
 | k+1,hk=>(Dr hR hf h k (by omega)).ins hR (hf k (by omega))
theorem Ds (hR:JH R) {f:α→Nat→α} {g:β→Nat→β} {L:Nat} {s z:α} {t y:β} (hs:R s t) (hf:∀ p q x,x<L→R p q→R (f p x) (g q x)):∀ i,lG R (aH f L s z i) (aH g L t y i)
 | 0=>.cons hs .nil
 | i+1=>by
  have ih:=Ds hR hs hf i (z:=z) (y:=y)
  by_cases hi:i<(aH f L s z i).length
  ·rw [fm hi,fm (by rw [← ih.len];exact hi)]
   have h1:=ih.get z y i hi
   exact Dr hR (fun x hx=>hf _ _ x hx h1) ih L (Nat.le_refl _)
  ·have hj:¬ i<(aH g L t y i).length:=by rw [← ih.len];exact hi
   have e1:=ll (f:=f) (L:=L) (s:=s) (z:=z) (n:=i) (by omega) 1
   have e2:=ll (f:=g) (L:=L) (s:=t) (z:=y) (n:=i) (by omega) 1
   rw [e1,e2];exact ih
end
theorem Du {a b:bB} (ha:VD a) (hb:VD b) (hL:a.L=b.L) (R:Int→Int→Prop) (hR:JH R) (hs:R a.s b.s) (hf:∀ p q (x:Nat),(x:Int)<a.L→R p q→R (bC a p x) (bC b q x)) (hg:∀ p q,R p q→c9 a p=c9 b q) :
  au a=au b∧lG R (eU a) (eU b):=by
 have hLa:=ha.L
 have h2:∀ i,lG R (aH (bC a) a.L.toNat a.s 0 i) (aH (bC b) b.L.toNat b.s 0 i):=by
  rw [← hL]
  exact Ds hR hs (fun p q x hx h=>hf p q x (by omega) h)
 obtain ⟨e1,e2,_⟩:=pB ha
 have e3:(eU a).length=(aH (bC b) b.L.toNat b.s 0 (eU a).length).length:=e1.trans (h2 _).len
 obtain ⟨e4,_⟩:=gV (fx hb) (eG hb) e3
 have e5:eU b=aH (bC b) b.L.toNat b.s 0 (eU a).length:=by
  rw [jo] at e4;exact e4
 have hT:lG R (eU a) (eU b):=by
  have:=h2 (eU a).length
  rw [e2,← e5] at this;exact this
 refine ⟨?_,hT⟩
 have gen:∀ (xs ys:List Int),lG R xs ys→(∀ p∈xs,p∈eU a) →
   xs.map (c9 a)=ys.map (c9 b)∧(xs.map fun q=>(List.range a.L.toNat).map fun x=>((bV (eU a) (bC a q x):Nat):Int))=ys.map fun q=>(List.range b.L.toNat).map fun x=>((bV (eU b) (bC b q x):Nat):Int):=by
  intro xs ys h
  induction h with
  | nil=>intro _;exact ⟨rfl,rfl⟩
  | @cons p q xs ys h1 _ ih=>
   intro hm
   obtain ⟨i1,i2⟩:=ih (fun p hp=>hm p (List.mem_cons_of_mem _ hp))
   constructor
   ·rw [List.map_cons,List.map_cons,i1,hg p q h1]
   ·rw [List.map_cons,List.map_cons,i2]
    congr 1
    rw [← hL]
    apply List.map_congr_left
    intro x hx
    rw [List.mem_range] at hx
    rw [(hT.pos hR (hf p q x (by omega) h1)).1]
 obtain ⟨g1,g2⟩:=gen _ _ hT (fun p hp=>hp)
 unfold au
 rw [g1,g2,hL]
def QO (d:bB):Prop:=∀ u v,kb d u→kb d v→zW d (cV d d.s u) (cV d d.s v)→cV d d.s u=cV d d.s v
theorem wu {a b:bB} (h:a.L=b.L) {l:List UInt8}:kb a l↔kb b l:=by unfold kb;rw [h]
def v7 (a b:bB):Prop:=∀ l,kb a l→c9 a (cV a a.s l)=c9 b (cV b b.s l)
theorem v7.symm {a b:bB} (hL:a.L=b.L) (h:v7 a b):v7 b a:=fun l hl=>(h l ((wu hL).2 hl)).symm
theorem v7.trans {a b c:bB} (hL:a.L=b.L) (h:v7 a b) (k:v7 b c):v7 a c:=fun l hl=>(h l hl).trans (k l ((wu hL).1 hl))
theorem nN (d:bB) (q:Int) (l:List UInt8) {x:Nat} (hx:x<128):cV d q (l++[mf x])=bC d (cV d q l) x:=by
 rw [dT]
 show oJ d (cV d q l) (mf x)=_
 exact y3 hx
theorem CR {d:bB} (hv:VD d) {l:List UInt8} (hl:kb d l) {x:Nat} (hx:(x:Int)<d.L):kb d (l++[mf x]):=hl.app (j6.2 ⟨A2 hv.L hx,kb.nil⟩)
theorem A7 {a b:bB} (hL:a.L=b.L) (h:v7 a b) {u v:List UInt8} (hu:kb a u) (hv:kb a v):zW a (cV a a.s u) (cV a a.s v)↔zW b (cV b b.s u) (cV b b.s v):=by
 constructor
 ·intro he l hl
  have uI:=(wu hL).2 hl
  rw [← dT,← dT,← h _ (hu.app uI),← h _ (hv.app uI),dT,dT]
  exact he l uI
 ·intro he l hl
  have uI:=(wu hL).1 hl
  rw [← dT,← dT,h _ (hu.app hl),h _ (hv.app hl),dT,dT]
  exact he l uI
theorem Dt {a b:bB} (ha:VD a) (hb:VD b) (hL:a.L=b.L) (JU:v7 a b) (TP:QO a) (Ms:QO b):au a=au b:=by
 have hLa:=ha.L
 refine (Du ha hb hL (fun p q=>∃ l,kb a l∧cV a a.s l=p∧cV b b.s l=q) ?_ ⟨[],kb.nil,rfl,rfl⟩ ?_ ?_).1
 ·rintro p q p' q' ⟨u,hu,rfl,rfl⟩ ⟨v,hv,rfl,rfl⟩
  constructor
  ·intro e
   refine Ms u v ((wu hL).1 hu) ((wu hL).1 hv) ((A7 hL JU hu hv).1 ?_)
   rw [e];exact zW.refl _ _
  ·intro e
   refine TP u v hu hv ((A7 hL JU hu hv).2 ?_)
   rw [e];exact zW.refl _ _
 ·rintro p q x hx ⟨u,hu,rfl,rfl⟩
  exact ⟨u++[mf x],CR ha hu hx,nN _ _ _ (by omega),nN _ _ _ (by omega)⟩
 ·rintro p q ⟨u,hu,rfl,rfl⟩
  exact JU u hu
theorem RV {d:bB} (hv:VD d) {p:Int} (hp:p∈eU d):na d p:=(oW hv).2.1 p hp
theorem HQ {d:bB} (hv:VD d) {p:Int} (hp:p∈eU d) {x:Nat} (hx:(x:Int)<d.L):bC (au d) ((bV (eU d) p:Nat):Int) x=((bV (eU d) (bC d p x):Nat):Int):=by
 have hL:=hv.L
 have h1:=fg hp
 have e:=fL 0 hp
 have bZ:x<d.L.toNat:=by omega
 unfold bC au
 rw [Int.toNat_natCast]
 simp only [List.getD_eq_getElem?_getD,List.getElem?_map,List.getElem?_eq_getElem h1,Option.map_some,Option.getD_some,List.getElem?_range bZ]
 rw [List.getD_eq_getElem?_getD,List.getElem?_eq_getElem h1,Option.getD_some] at e
 rw [e];rfl
theorem HR {d:bB} (hv:VD d) {p:Int} (hp:p∈eU d):c9 (au d) ((bV (eU d) p:Nat):Int)=c9 d p:=by
 have h1:=fg hp
 have e:=fL 0 hp
 unfold c9 au
 rw [Int.toNat_natCast]
 simp only [List.getD_eq_getElem?_getD,List.getElem?_map,List.getElem?_eq_getElem h1,Option.map_some,Option.getD_some]
 rw [List.getD_eq_getElem?_getD,List.getElem?_eq_getElem h1,Option.getD_some] at e
 rw [e];simp [c9,List.getD_eq_getElem?_getD]
theorem pN {d:bB} (hv:VD d):∀ {l:List UInt8} {p:Int},p∈eU d→kb d l→cV (au d) ((bV (eU d) p:Nat):Int) l=((bV (eU d) (cV d p l):Nat):Int)∧cV d p l∈eU d
 | [],p,hp,_=>⟨rfl,hp⟩
 | c :: l,p,hp,h=>by
  obtain ⟨h1,h2⟩:=j6.1 h
  have hx:=vK h1
  have hL:=hv.L
  have hm:=Fq hv hp (x:=((c.toNat:Int) - 97).toNat) (by omega)
  rw [fK,fK,HQ hv hp hx]
  exact pN hv (l:=l) hm h2
theorem EM {d:bB} (hv:VD d):(au d).s=((bV (eU d) d.s:Nat):Int):=by rw [(mJ hv).2];rfl
theorem KS {d:bB} (hv:VD d):v7 (au d) d:=fun l hl=>by
 have uI:kb d l:=hl
 obtain ⟨h1,h2⟩:=pN hv (mJ hv).1 uI
 rw [EM hv,h1,HR hv h2]
theorem EN {d:bB} (hv:VD d) {q:Int} (hq:na (au d) q):∃ l,kb d l∧cV (au d) 0 l=q∧l.length≤512:=by
 have h1:=hq.1;have h2:=hq.2
 have hl:(au d).fin.length=(eU d).length:=by simp [au]
 rw [hl] at h2
 have hi:q.toNat<(eU d).length:=by omega
 obtain ⟨h3,h4⟩:=RU hv hi
 have ho:kb d ((Jb d).getD q.toNat []):=by unfold gK at h3;rw [Bool.and_eq_true] at h3;exact h3.2
 obtain ⟨h5,_⟩:=pN hv (mJ hv).1 ho
 have e0:((bV (eU d) d.s:Nat):Int)=0:=by rw [(mJ hv).2];rfl
 refine ⟨_,ho,?_,?_⟩
 ·rw [← e0,h5,h4,vI 0 (oW hv).1 hi];omega
 ·obtain ⟨_,_,g3⟩:=pB hv
  have:=mH (f:=bC d) (L:=d.L.toNat) (s:=d.s) (z:=0) (eU d).length _ (by rw [g3];exact aX (d:=[]) (xs:=Jb d) (k:=q.toNat) (by rw [Ge hv];exact hi))
  have hb:=(oW hv).2.2.1
  have hn:=hv.n
  omega
end Go.Sx
namespace Go.Sx
def dM (cs:List Int):Nat→List Nat
 | 0=>[]
 | k+1=>if cs.getD k 0<(dM cs k).length then dM cs k else dM cs k++[k]
theorem EG {cs:List Int} (h:dK cs=cs) {k:Nat} (hk:k<cs.length):cs.getD k 0=((bV (ee (cs.take k)) (cs.getD k 0):Nat):Int):=by
 have h1:(dK (cs.take (k+1))).getD k 0=((bV (ee (cs.take k)) (cs.getD k 0):Nat):Int):=by
  have hl:(dK (cs.take k)).length=k:=by rw [jt,List.length_take];omega
  rw [p7 0 hk]
  simp [List.getD_eq_getElem?_getD,hl]
 have h2:dK (cs.take (k+1))=(dK cs).take (k+1):=by
  have Q9:∀ (xs ys:List Int),dK xs=(dK (xs++ys)).take xs.length:=by
   intro xs ys
   unfold dK
   rw [List.map_append,List.take_left' (by simp)]
   apply List.map_congr_left
   intro y hy
   have:∃ zs,ee (xs++ys)=ee xs++zs:=by
    unfold ee
    rw [List.foldl_append]
    generalize xs.foldl dY []=acc
    induction ys generalizing acc with
    | nil=>exact ⟨[],by simp⟩
    | cons y ys ih=>
     obtain ⟨zs,e⟩:=ih (dY acc y)
     obtain ⟨zs',e'⟩:=o8 acc y
     exact ⟨zs'++zs,by rw [List.foldl_cons,e,e',List.append_assoc]⟩
   obtain ⟨zs,e⟩:=this
   rw [e,lM zs (fY.2 hy)]
  have:=Q9 (cs.take (k+1)) (cs.drop (k+1))
  rw [List.take_append_drop,List.length_take,Nat.min_eq_left (by omega)] at this
  exact this
 rw [h2,h,iJ 0 (by omega)] at h1
 exact h1
theorem Bo {cs:List Int} (h:dK cs=cs):∀ k,k≤cs.length→(dM cs k).length=(ee (cs.take k)).length∧(∀ c,c<(dM cs k).length→(dM cs k).getD c 0<k∧cs.getD ((dM cs k).getD c 0) 0=(c:Int))
 | 0,_=>⟨rfl,fun c hc=>by simp [dM] at hc⟩
 | k+1,hk=>by
  obtain ⟨h1,h2⟩:=Bo h k (by omega)
  have ha:=EG h (k:=k) (by omega)
  rw [pc 0 (by omega)]
  unfold dM dY
  by_cases hm:cs.getD k 0∈ee (cs.take k)
  ·have:=fg hm
   rw [if_pos (by omega),if_pos hm]
   exact ⟨h1,fun c hc=>⟨by have:=(h2 c hc).1;omega,(h2 c hc).2⟩⟩
  ·have hp:=ix hm
   rw [if_neg (by omega),if_neg hm]
   refine ⟨by simp [h1],fun c hc=>?_⟩
   rw [List.length_append,List.length_cons,List.length_nil] at hc
   by_cases T0:c<(dM cs k).length
   ·have e:(dM cs k++[k]).getD c 0=(dM cs k).getD c 0:=gO 0 T0
    rw [e]
    exact ⟨by have:=(h2 c T0).1;omega,(h2 c T0).2⟩
   ·have e:c=(dM cs k).length:=by omega
    have e2:(dM cs k++[k]).getD c 0=k:=by rw [e];simp [List.getD_eq_getElem?_getD]
    rw [e2]
    exact ⟨by omega,by omega⟩
theorem OC {cs:List Int} (h:dK cs=cs) {k:Nat} (hk:k<cs.length):cs.getD k 0≤(dM cs k).length∧0≤cs.getD k 0:=by
 have ha:=EG h hk
 have h1:=(Bo h k (by omega)).1
 have:=N7 (ee (cs.take k)) (cs.getD k 0)
 omega
theorem pX {cs:List Int} {k:Nat} (h:cs.getD k 0<(dM cs k).length):dM cs (k+1)=dM cs k:=if_pos h
theorem j8 {cs:List Int} {k:Nat} (h:¬ cs.getD k 0<(dM cs k).length):dM cs (k+1)=dM cs k++[k]:=if_neg h
theorem Bp (cs:List Int):∀ k,(dM cs k).length≤k
 | 0=>Nat.le_refl _
 | k+1=>by
  have:=Bp cs k
  unfold dM
  split
  ·omega
  ·rw [List.length_append];simp;omega
def fe (d:bB):List Nat:=dM (dj d) d.fin.length
def iX (d:bB) (q:Nat):List Int:=(d.nx.getD q []).map (gH d)
def eX (d:bB):bB:=⟨d.L,gH d d.s,(fe d).map fun q=>d.fin.getD q false,(fe d).map (iX d)⟩
theorem zB {d:bB} (hv:VD d):(fe d).length=(ee (dj d)).length∧(fe d).length≤d.fin.length∧∀ c,c<(fe d).length→(fe d).getD c 0<d.fin.length∧gH d (((fe d).getD c 0:Nat):Int)=(c:Int):=by
 have h:=Bo (BD hv) (dj d).length (Nat.le_refl _)
 rw [List.take_length,vW] at h
 exact ⟨h.1,Bp _ _,fun c hc=>⟨(h.2 c hc).1,by unfold gH;rw [Int.toNat_natCast];exact (h.2 c hc).2⟩⟩
theorem pZ {d:bB} (hv:VD d) {p:Int} (hp:na d p):(gH d p).toNat<(fe d).length∧0≤gH d p∧na d (((fe d).getD (gH d p).toNat 0:Nat):Int)∧zW d (((fe d).getD (gH d p).toNat 0:Nat):Int) p:=by
 obtain ⟨h1,h2⟩:=S0 hv hp
 obtain ⟨h3,h4,h5⟩:=zB hv
 have bZ:(gH d p).toNat<(fe d).length:=by omega
 obtain ⟨h6,h7⟩:=h5 _ bZ
 have me:na d (((fe d).getD (gH d p).toNat 0:Nat):Int):=⟨by omega,by omega⟩
 exact ⟨bZ,h1,me,(ED hv me hp).1 (by rw [h7];omega)⟩
theorem Vd (d:bB):(eX d).fin.length=(fe d).length∧(eX d).nx.length=(fe d).length:=by simp [eX]
theorem wY {d:bB} (hv:VD d) {q:Nat} (hq:q<d.fin.length) {x:Nat} (hx:(x:Int)<d.L):(iX d q).getD x 0=gH d (bC d (q:Int) x):=by
 have hr:=hv.row q hq
 have bZ:x<(d.nx.getD q []).length:=by omega
 unfold iX bC
 rw [Int.toNat_natCast]
 generalize d.nx.getD q []=r at *
 simp [List.getD_eq_getElem?_getD,bZ]
theorem AU {d:bB} {c:Nat} (hc:c<(fe d).length):(eX d).nx.getD c []=iX d ((fe d).getD c 0):=by
 simp [eX,List.getD_eq_getElem?_getD,hc]
theorem wF {d:bB} (hv:VD d):VD (eX d):=by
 obtain ⟨h3,h4,h5⟩:=zB hv
 obtain ⟨n1,n2⟩:=Vd d
 have hs:=pZ hv (p:=d.s) hv.s
 have yM:∀ i,i<(fe d).length→((iX d ((fe d).getD i 0)).length:Int)=d.L:=fun i hi=>by
  unfold iX;rw [List.length_map];exact hv.row _ (h5 i hi).1
 refine ⟨hv.L,by rw [n1];have:=hv.n;omega,by rw [n1,n2],⟨hs.2.1,by rw [n1];have:=hs.1;have:=hs.2.1;show gH d d.s<_;omega⟩,?_,?_⟩
 ·intro i hi
  rw [n1] at hi
  rw [AU hi];exact yM i hi
 ·intro i x hi hx
  rw [n1] at hi
  rw [AU hi] at hx ⊢
  have hr:=yM i hi
  have uE:(x:Int)<d.L:=by omega
  rw [wY hv (h5 i hi).1 uE,n1]
  have:=pZ hv (eH hv (q:=(((fe d).getD i 0:Nat):Int)) ⟨by omega,by have:=(h5 i hi).1;omega⟩ uE)
  have h1:=this.1;have h2:=this.2.1
  omega
theorem zW.step {d:bB} (hv:VD d) {p q:Int} (h:zW d p q) {x:Nat} (hx:(x:Int)<d.L):zW d (bC d p x) (bC d q x):=by
 have hL:=hv.L
 have h1:=h.run (u:=[mf x]) (j6.2 ⟨A2 hL hx,kb.nil⟩)
 have e:∀ r,cV d r [mf x]=bC d r x:=fun r=>by
  show oJ d r (mf x)=_
  exact y3 (by omega)
 rw [e,e] at h1;exact h1
theorem Lm {d:bB} (hv:VD d) {p:Int} (hp:na d p) {x:Nat} (hx:(x:Int)<d.L):bC (eX d) (gH d p) x=gH d (bC d p x):=by
 obtain ⟨h1,h2,h3,h4⟩:=pZ hv hp
 show ((eX d).nx.getD (gH d p).toNat []).getD x 0=_
 have bZ:(fe d).getD (gH d p).toNat 0<d.fin.length:=by have:=h3.2;omega
 rw [AU h1,wY hv bZ hx]
 exact (ED hv (eH hv h3 hx) (eH hv hp hx)).2 (h4.step hv hx)
theorem N2 {d:bB} (hv:VD d) {p:Int} (hp:na d p):c9 (eX d) (gH d p)=c9 d p:=by
 obtain ⟨h1,h2,h3,h4⟩:=pZ hv hp
 have h5:c9 d (((fe d).getD (gH d p).toNat 0:Nat):Int)=c9 d p:=h4 [] kb.nil
 rw [← h5]
 show (eX d).fin.getD (gH d p).toNat false=c9 d _
 unfold c9 eX
 rw [Int.toNat_natCast]
 simp [List.getD_eq_getElem?_getD,h1]
theorem rZ {d:bB} (hv:VD d):∀ {l:List UInt8} {p:Int},na d p→kb d l→cV (eX d) (gH d p) l=gH d (cV d p l)
 | [],p,hp,_=>rfl
 | c :: l,p,hp,h=>by
  obtain ⟨h1,h2⟩:=j6.1 h
  have hx:=vK h1
  rw [fK,fK,Lm hv hp hx]
  exact rZ hv (eH hv hp hx) h2
theorem AV {d:bB} (hv:VD d):v7 (eX d) d:=fun l hl=>by
 have uI:kb d l:=hl
 show c9 (eX d) (cV (eX d) (gH d d.s) l)=_
 rw [rZ hv hv.s uI,N2 hv (mw hv l d.s hv.s uI)]
theorem QO.Sv {a b:bB} (hL:a.L=b.L) (h:v7 a b) (hb:∀ u v,kb a u→kb a v→zW b (cV b b.s u) (cV b b.s v)→cV a a.s u=cV a a.s v):QO a:=fun u v hu hv he=>hb u v hu hv ((A7 hL h hu hv).1 he)
theorem Gy {d:bB} (hv:VD d):QO (eX d):=QO.Sv (a:=eX d) (b:=d) rfl (AV hv) (fun u v hu hv' he=>by
 show cV (eX d) (gH d d.s) u=cV (eX d) (gH d d.s) v
 have hu':kb d u:=hu
 have Uo:kb d v:=hv'
 rw [rZ hv hv.s hu',rZ hv hv.s Uo]
 exact (ED hv (mw hv u d.s hv.s hu') (mw hv v d.s hv.s Uo)).2 he)
def minD (d:bB):bB:=au (eX d)
def lF (d:bB):bB:=if VD d then minD d else yv
theorem Sy {d:bB} (hv:VD d):VD (minD d):=vD (wF hv)
theorem Sz {m d:bB} (hm:VD m) (hv:VD d) (hL:m.L=d.L) (h:v7 m d) (hr:QO m):au m=minD d:=
 Dt hm (wF hv) hL (h.trans hL (v7.symm (a:=eX d) rfl (AV hv))) hr (Gy hv)
theorem min_eq {a b:bB} (ha:VD a) (hb:VD b) (hL:a.L=b.L) (h:v7 a b):minD a=minD b:=
 Sz (wF ha) hb hL ((AV ha).trans (b:=a) rfl h) (Gy ha)
theorem LB {d:bB} (hv:VD d):au (eX (au d))=minD d:=min_eq (vD hv) hv rfl (KS hv)
end Go.Sx
namespace Go.Sx
section
variable {α : Type} [DecidableEq α]
def Mq (f:α→Nat→α) (L:Nat) (s z:α) (N:Nat) (wd:α→Bool):Option Nat:=(List.range (aH f L s z N).length).find? fun i=>wd ((aH f L s z N).getD i z)
def oH (f:α→Nat→α) (L:Nat) (s z:α) (N:Nat) (wd:α→Bool):List UInt8 × Bool:=match Mq f L s z N wd with
 | some i=>((cX f L s z N).getD i [],true)
 | none=>([],false)
variable {f : α → Nat → α} {L : Nat} {s z : α} {U : List α} {wd : α → Bool}
theorem RX {n k:Nat} (hn:n=(aH f L s z n).length) (h:k<(aH f L s z k).length):k<n:=by
 rcases Nat.lt_or_ge k n with h1 | h1
 ·exact h1
 ·obtain ⟨m,rfl⟩:∃ m,k=n+m:=⟨k - n,by omega⟩
  rw [ll (by omega) m] at h;omega
theorem AN {n k:Nat} (hk:k≤n) {j:Nat} (hj:j<(aH f L s z k).length):(aH f L s z n).getD j z=(aH f L s z k).getD j z:=by
 obtain ⟨ys,e⟩:=fp f L s z k (n - k)
 rw [show k+(n - k)=n by omega] at e
 rw [e,gO z hj]
theorem K0 {n k:Nat} (hk:k≤n) {j:Nat} (hj:j<(aH f L s z k).length):(cX f L s z n).getD j []=(cX f L s z k).getD j []:=by
 obtain ⟨ys,e⟩:=mO f L s z k (n - k)
 rw [show k+(n - k)=n by omega] at e
 rw [e,sS (by rw [fj];exact hj)]
theorem KZ (hs:s∈U) (hf:∀ q∈U,∀ x,x<L→f q x∈U) {k:Nat} (hk:k<(aH f L s z k).length) (h:∀ j,j<k→wd ((aH f L s z k).getD j z)=false) (hw:wd ((aH f L s z k).getD k z)=true) :
  oH f L s z U.length wd=((cX f L s z k).getD k [],true):=by
 obtain ⟨n,hn⟩:=nP (f:=f) (L:=L) (z:=z) hs hf
 have e1:=(gV hs hf hn).1
 have e2:=rz hs hf hn
 have WL:=RX hn hk
 have e:Mq f L s z U.length wd=some k:=by
  unfold Mq;rw [e1,List.find?_range_eq_some]
  refine ⟨by rw [AN (by omega) hk];exact hw,by simp;omega,fun j hj=>by rw [AN (k:=k) (by omega) (by omega),h j hj];rfl⟩
 unfold oH
 rw [e,e2]
 show ((cX f L s z n).getD k [],true)=_
 rw [K0 (by omega) hk]
theorem K1 (hs:s∈U) (hf:∀ q∈U,∀ x,x<L→f q x∈U) {k:Nat} (hk:k=(aH f L s z k).length) (h:∀ j,j<k→wd ((aH f L s z k).getD j z)=false):oH f L s z U.length wd=([],false):=by
 have e1:=(gV hs hf hk).1
 have e:Mq f L s z U.length wd=none:=by
  unfold Mq;rw [e1,List.find?_range_eq_none]
  intro j hj
  rw [h j (by omega)];rfl
 unfold oH;rw [e]
theorem K2 {k:Nat} (hk:k<(aH f L s z k).length) (h:∀ j,j<k→wd ((aH f L s z k).getD j z)=false) (hw:wd ((aH f L s z k).getD k z)=false):∀ j,j<k+1→wd ((aH f L s z (k+1)).getD j z)=false:=by
 intro j hj
 rw [AN (n:=k+1) (k:=k) (by omega) (by omega)]
 rcases Nat.lt_or_eq_of_le (Nat.le_of_lt_succ hj) with h1 | rfl
 ·exact h j h1
 ·exact hw
theorem C7 (hL:L≤100) (hs:s∈U) (hf:∀ q∈U,∀ x,x<L→f q x∈U) {i:Nat} (hi:i<(aH f L s z U.length).length) :
  gi f s ((cX f L s z U.length).getD i [])=(aH f L s z U.length).getD i z∧((cX f L s z U.length).getD i []).all (okB (L:Int))=true:=by
 have h:=ur (f:=f) (L:=L) (by omega) (s:=s) (z:=z) U.length
 have hl:i<(cX f L s z U.length).length:=by rw [fj];exact hi
 refine ⟨?_,xA (by omega) U.length _ (aX hl)⟩
 conv=>rhs;rw [← h]
 simp [List.getD_eq_getElem?_getD,hl]
theorem KY (hL:L≤100) (hs:s∈U) (hf:∀ q∈U,∀ x,x<L→f q x∈U) :
  ((oH f L s z U.length wd).2=true→(oH f L s z U.length wd).1.all (okB (L:Int))=true∧wd (gi f s (oH f L s z U.length wd).1)=true) ∧
  (∀ l:List UInt8,l.all (okB (L:Int))=true→wd (gi f s l)=true→(oH f L s z U.length wd).2=true∧sle (oH f L s z U.length wd).1 l):=by
 obtain ⟨n,hn⟩:=nP (f:=f) (L:=L) (z:=z) hs hf
 have e1:=(gV hs hf hn).1
 have e2:=rz hs hf hn
 constructor
 ·intro h
  unfold oH at h ⊢
  cases e:Mq f L s z U.length wd with
  | none=>rw [e] at h;cases h
  | some i=>
   have e3:=e
   unfold Mq at e3;rw [List.find?_range_eq_some] at e3
   have hi:i<(aH f L s z U.length).length:=by simpa using e3.2.1
   obtain ⟨g1,g2⟩:=C7 (z:=z) hL hs hf hi
   exact ⟨g2,by show wd (gi f s ((cX f L s z U.length).getD i []))=true;rw [g1];exact e3.1⟩
 ·intro l hl hw
  have mg:=mL (f:=f) (L:=L) (s:=s) (z:=z)
  have XH:0<(aH f L s z n).length:=tP _ _ _ _ _
  have hsn:s∈aH f L s z n∧bV (aH f L s z n) s=0:=by
   obtain ⟨h1,h2⟩:=mg n
   refine ⟨h2,?_⟩
   have h3:=vI z (k6 hs hf n).1 XH
   rw [h1] at h3;exact h3
  have hc:∀ q∈aH f L s z n,∀ x,x<L→f q x∈aH f L s z n:=by
   intro q hq x hx
   rw [← e1] at hq ⊢
   exact rp hs hf hq hx
  obtain ⟨h1,h2⟩:=Dd (z:=z) (by omega) hn hc hsn l.length l rfl hl
  rw [← e1,← e2] at h2
  rw [← e1] at h1
  have hp:=fg h1
  have hg:=fL z h1
  have YU:Jc (cX f L s z U.length):=by
   rw [e2]
   exact (xz (z:=z) (by omega) n (fun j hj=>jU hn j hj)).1
  unfold oH
  cases e:Mq f L s z U.length wd with
  | none=>
   exfalso
   unfold Mq at e;rw [List.find?_range_eq_none] at e
   have:=e _ hp
   rw [hg,hw] at this;cases this
  | some i=>
   have e3:=e
   unfold Mq at e3;rw [List.find?_range_eq_some] at e3
   refine ⟨rfl,?_⟩
   show sle ((cX f L s z U.length).getD i []) l
   have hip:i≤bV (aH f L s z U.length) (gi f s l):=by
    rcases Nat.lt_or_ge (bV (aH f L s z U.length) (gi f s l)) i with h3 | h3
    ·have:=e3.2.2 _ h3
     rw [hg,hw] at this;cases this
    ·exact h3
   refine sle.trans ?_ h2
   rcases Nat.lt_or_eq_of_le hip with h3 | h3
   ·exact .inl (YU.get h3 (by rw [fj];exact hp))
   ·rw [h3];exact .inr rfl
def rJ (f:α→Nat→α) (q:α) (i:Nat) (l:List α) (bs:List (Int × Int)):Nat→List (Int × Int)
 | 0=>bs
 | k+1=>if f q k∈gk f q l k then rJ f q i l bs k else rJ f q i l bs k++[((i:Int),(k:Int))]
def eV (f:α→Nat→α) (L:Nat) (s z:α):Nat→List (Int × Int)
 | 0=>[(-1,0)]
 | i+1=>if i<(aH f L s z i).length then rJ f ((aH f L s z i).getD i z) i (aH f L s z i) (eV f L s z i) L else eV f L s z i
theorem zH {i:Nat} (h:i<(aH f L s z i).length):eV f L s z (i+1)=rJ f ((aH f L s z i).getD i z) i (aH f L s z i) (eV f L s z i) L:=by
 simp only [eV];rw [if_pos h]
theorem xy {q:α} {i:Nat} {l:List α} {bs:List (Int × Int)} (h:bs.length=l.length):∀ k,(rJ f q i l bs k).length=(gk f q l k).length
 | 0=>h
 | k+1=>by
  have ih:=xy (q:=q) (i:=i) h k
  simp only [rJ,gk]
  unfold dY
  split
  ·exact ih
  ·rw [List.length_append,List.length_append,ih];rfl
theorem sV:∀ i,(eV f L s z i).length=(aH f L s z i).length
 | 0=>rfl
 | i+1=>by
  have ih:=sV i
  simp only [eV,aH]
  split
  ·exact xy ih L
  ·exact ih
def Bk (bs:List (Int × Int)) (ws:List (List UInt8)) (i:Nat):Prop:=bs.length=ws.length∧(∀ j,0<j→j<bs.length→0≤(bs.getD j (0,0)).1∧(bs.getD j (0,0)).1<(j:Int)∧(bs.getD j (0,0)).1≤(i:Int)∧0≤(bs.getD j (0,0)).2∧(bs.getD j (0,0)).2<100∧ws.getD j []=ws.getD (bs.getD j (0,0)).1.toNat []++[mf (bs.getD j (0,0)).2.toNat])∧bs.getD 0 (0,0)=(-1,0)∧ws.getD 0 []=[]∧0<bs.length
theorem Bk.mono {bs:List (Int × Int)} {ws:List (List UInt8)} {i j:Nat} (h:Bk bs ws i) (yq:i≤j):Bk bs ws j:=
 ⟨h.1,fun k h0 hk=>by have:=h.2.1 k h0 hk;exact ⟨this.1,this.2.1,by omega,this.2.2.2⟩,h.2.2⟩
theorem jM {β:Type} {xs ys:List β} {d:β} {i:Nat} (h:i<xs.length):(xs++ys).getD i d=xs.getD i d:=by
 rw [List.getD_eq_getElem?_getD,List.getD_eq_getElem?_getD,List.getElem?_append_left h]
theorem zw {β:Type} {xs:List β} {y d:β}:(xs++[y]).getD xs.length d=y:=by
 simp [List.getD_eq_getElem?_getD]
theorem Bk.snoc {bs:List (Int × Int)} {ws:List (List UInt8)} {i x:Nat} (h:Bk bs ws i) (hi:i<bs.length) (hx:x<100):Bk (bs++[((i:Int),(x:Int))]) (ws++[ws.getD i []++[mf x]]) i:=by
 obtain ⟨h1,h2,h3,h4,h5⟩:=h
 refine ⟨by simp [h1],?_,by rw [jM h5];exact h3,by rw [jM (by omega)];exact h4,by simp⟩
 intro j h0 hj
 rw [List.length_append,List.length_cons,List.length_nil] at hj
 by_cases yP:j<bs.length
 ·rw [jM yP,jM (by omega)]
  obtain ⟨g1,g2,g3,g4,g5,g6⟩:=h2 j h0 yP
  refine ⟨g1,g2,g3,g4,g5,?_⟩
  rw [jM (by omega)];exact g6
 ·have e:j=bs.length:=by omega
  have e2:j=ws.length:=by omega
  have eb:(bs++[((i:Int),(x:Int))]).getD j (0,0)=((i:Int),(x:Int)):=by rw [e];exact zw
  have ew:(ws++[ws.getD i []++[mf x]]).getD j []=ws.getD i []++[mf x]:=by rw [e2];exact zw
  rw [eb,ew]
  refine ⟨by dsimp only;omega,by dsimp only;omega,Int.le_refl _,by dsimp only;omega,by dsimp only;omega,?_⟩
  dsimp only
  rw [Int.toNat_natCast,Int.toNat_natCast,jM (by omega)]
theorem G1 {q:α} {i:Nat} {l:List α} {bs:List (Int × Int)} {ws:List (List UInt8)} (h:Bk bs ws i) (hi:i<bs.length) (hl:bs.length=l.length):∀ k,k≤100→Bk (rJ f q i l bs k) (jJ f q (ws.getD i []) l ws k) i∧i<(rJ f q i l bs k).length∧(jJ f q (ws.getD i []) l ws k).getD i []=ws.getD i []
 | 0,_=>⟨h,hi,rfl⟩
 | k+1,hk=>by
  obtain ⟨h1,h2,h3⟩:=G1 h hi hl k (by omega)
  simp only [rJ,jJ]
  split
  ·exact ⟨h1,h2,h3⟩
  ·refine ⟨?_,by rw [List.length_append];omega,by rw [jM (by have:=h1.1;omega)];exact h3⟩
   have:=h1.snoc h2 (x:=k) (by omega)
   rw [h3] at this;exact this
theorem G3 (hL:L≤100):∀ i,Bk (eV f L s z i) (cX f L s z i) i
 | 0=>⟨rfl,fun j h0 hj=>by simp [eV] at hj;omega,rfl,rfl,by simp [eV]⟩
 | i+1=>by
  have ih:=G3 hL i
  by_cases hi:i<(aH f L s z i).length
  ·rw [zH hi,uo hi]
   exact ((G1 ih (by rw [sV];exact hi) (sV i) L hL).1).mono (by omega)
  ·have e1:eV f L s z (i+1)=eV f L s z i:=by simp only [eV];rw [if_neg hi]
   have e2:=um (f:=f) (L:=L) (s:=s) (z:=z) (n:=i) (by omega) 1
   rw [e1,e2];exact ih.mono (by omega)
end
end Go.Sx
namespace Go.Sx
def mapM (d:bB):List Int:=(List.range d.fin.length).map fun (q:Nat)=>if (q:Int)∈eU d then ((bV (eU (eX (au d))) (gH (au d) ((bV (eU d) (q:Int):Nat):Int)):Nat):Int) else -1
theorem LI {d:bB} {q:Int} (h:na d q):(mapM d).getD q.toNat 0=if q∈eU d then ((bV (eU (eX (au d))) (gH (au d) ((bV (eU d) q:Nat):Int)):Nat):Int) else -1:=by
 have h1:=h.1;have h2:=h.2
 have:q.toNat<d.fin.length:=by omega
 have e:((q.toNat:Nat):Int)=q:=by omega
 simp [mapM,List.getD_eq_getElem?_getD,this,e]
theorem N5 {d:bB} {q:Int} (h:q∈eU d):na (au d) ((bV (eU d) q:Nat):Int):=by
 have:=fg h
 refine ⟨by omega,?_⟩
 have:(au d).fin.length=(eU d).length:=by simp [au]
 omega
theorem Ie {d:bB} (hv:VD d) {i:Int} (hi:na (au d) i):gH (au d) i∈eU (eX (au d)):=by
 obtain ⟨l,h1,h2,_⟩:=EN hv hi
 have ht:=vD hv
 have hq:=wF ht
 have hl:kb (au d) l:=h1
 have h3:=rZ ht (p:=(au d).s) ht.s hl
 have h4:=(pN hq (l:=l) (mJ hq).1 hl).2
 have e:cV (au d) (au d).s l=i:=h2
 have h5:cV (eX (au d)) (gH (au d) (au d).s) l∈eU (eX (au d)):=h4
 rw [h3,e] at h5
 exact h5
end Go.Sx
namespace Go.Sx
instance (d:bB) (p:Int):Decidable (na d p):=inferInstanceAs (Decidable (_∧_))
end Go.Sx
namespace Go.Sx
section
variable {α : Type} [DecidableEq α]
theorem mB (xs:List α):(gC xs).length=xs.length:=by simp [gC]
theorem Og {xs:List α} {x:α} (h:(dq (gC xs) x).isSome=false):x ∉ xs∧((gC xs).length:Int)=((bV xs x:Nat):Int):=by
 have hx:x ∉ xs:=by
  rw [gU] at h;intro hm;rw [if_pos hm] at h;cases h
 exact ⟨hx,by rw [mB,ix hx]⟩
theorem Of {xs:List α} {x:α} (h:(dq (gC xs) x).isSome=true):x∈xs∧(dq (gC xs) x).getD 0=((bV xs x:Nat):Int):=by
 rw [gU] at h ⊢
 by_cases hm:x∈xs
 ·rw [if_pos hm];exact ⟨hm,rfl⟩
 ·rw [if_neg hm] at h;cases h
theorem OO {xs:List α} (d:α) {k:Nat} (hk:k<xs.length) (h:xs.getD k d ∉ ee (xs.take k)):jI (gC (ee (xs.take k))) (xs.getD k d) ((gC (ee (xs.take k))).length:Int)=gC (ee (xs.take (k+1))):=by
 rw [pc d hk,show dY (ee (xs.take k)) (xs.getD k d)=ee (xs.take k)++[xs.getD k d] from if_neg h,mB,ua h]
theorem ON {xs:List α} (d:α) {k:Nat} (hk:k<xs.length) (h:xs.getD k d∈ee (xs.take k)):ee (xs.take (k+1))=ee (xs.take k):=by
 rw [pc d hk,show dY (ee (xs.take k)) (xs.getD k d)=ee (xs.take k) from if_pos h]
theorem Dm {xs:List α} (d:α) {k n:Nat} (hn:xs.length=n) (hk:k<n) {c:Int} (hc:c=((bV (ee (xs.take k)) (xs.getD k d):Nat):Int)) :
  ((dK (xs.take k)++List.replicate (n - k) 0).map (Value.int .i64)).set k (.int .i64 c)=(dK (xs.take (k+1))++List.replicate (n - (k+1)) 0).map (Value.int .i64):=by
 rw [p7 d (by omega),← hc]
 exact fJ (Value.int .i64) _ 0 _ n k (by rw [jt,List.length_take];omega) hk
end
def rI (l:List Int):List Int:=(l++List.replicate 7 0).take 7
theorem w4 (l:List Int):(rI l).length=7:=by simp [rI]
theorem vJ {l:List Int} (h:l.length≤7):rI l=l++List.replicate (7 - l.length) 0:=by
 unfold rI
 rw [List.take_append,List.take_of_length_le h,List.take_replicate,Nat.min_eq_left (by omega)]
theorem Ig {A:List Int} {c:Int} {k:Nat} (hk:A.length=k) (h7:k<7) :
  ((rI A).map (Value.int .i64)).take k++[Value.int .i64 c]++((rI A).map (Value.int .i64)).drop (k+1)=(rI (A++[c])).map (Value.int .i64):=by
 rw [vJ (by omega),vJ (by rw [List.length_append];simp;omega),hk,List.length_append,hk]
 obtain ⟨m,hm⟩:∃ m,7 - k=m+1:=⟨6 - k,by omega⟩
 have e:7 - (k+[c].length)=m:=by simp;omega
 rw [e,hm,← List.map_take,← List.map_drop]
 have h1:(A++List.replicate (m+1) (0:Int)).take k=A:=by rw [List.take_append_of_le_length (by omega),List.take_of_length_le (by omega)]
 have h2:(A++List.replicate (m+1) (0:Int)).drop (k+1)=List.replicate m 0:=by
  rw [List.drop_append,List.drop_of_length_le (by omega),hk,show k+1 - k=1 by omega,List.replicate_succ];rfl
 rw [h1,h2]
 simp
theorem CP {l m:List Int} (hl:l.length=m.length) (h7:l.length≤7):rI l=rI m↔l=m:=by
 constructor
 ·intro h
  rw [vJ h7,vJ (by omega)] at h
  exact (List.append_inj h hl).1
 ·intro h;rw [h]
def Xf (d:bB) (cs:List Int) (q:Nat):MA 7:=⟨rI (rG d cs q),w4 _⟩
def mi (d:bB) (cs:List Int):List (MA 7):=(List.range d.fin.length).map (Xf d cs)
def rO:MA 7:=⟨rI [],w4 _⟩
theorem o4 (d:bB) (cs:List Int):(mi d cs).length=d.fin.length:=by simp [mi]
theorem wU {d:bB} {cs:List Int} {q:Nat} (h:q<d.fin.length):(mi d cs).getD q rO=Xf d cs q:=by simp [mi,List.getD_eq_getElem?_getD,h]
theorem sA {d:bB} (hv:VD d) (cs:List Int) {q:Nat} (h:q<d.fin.length):((rG d cs q).length:Int)=d.L+1:=by
 have:=hv.row q h
 unfold rG;rw [List.length_cons,List.length_map];omega
theorem CK {d:bB} (hv:VD d) (cs:List Int):dK (mi d cs)=dK (sigs d cs)∧(ee (mi d cs)).length=(ee (sigs d cs)).length:=by
 refine sX rO [] (by rw [o4,mu]) (fun i j hi hj=>?_)
 rw [o4] at hi hj
 rw [wU hi,wU hj,sw hi,sw hj]
 have h1:=sA hv cs hi
 have h2:=sA hv cs hj
 have hL:=hv.L
 unfold Xf
 constructor
 ·intro h;exact (CP (by omega) (by omega)).1 (congrArg Subtype.val h)
 ·intro h;exact Subtype.ext ((CP (by omega) (by omega)).2 h)
theorem HV {d:bB} {cs:List Int} {q j:Nat} (hj:j<(d.nx.getD q []).length):(rG d cs q).take (j+2)=(rG d cs q).take (j+1)++[cs.getD ((d.nx.getD q []).getD j 0).toNat 0]:=by
 unfold rG
 rw [List.take_succ_cons,List.take_succ_cons,List.cons_append]
 congr 1
 rw [aO 0 _ j (by rw [List.length_map];exact hj)]
 congr 2
 generalize d.nx.getD q []=r at *
 simp [List.getD_eq_getElem?_getD,hj]
theorem Ma {d:bB} (hv:VD d) {k:Nat} {cs:List Int} (h:td d k cs) (he:(ee (sigs d cs)).length=(ee cs).length):dK (sigs d cs)=dj d:=by
 have h1:=h.next hv
 have h2:FD d k:=(h.ref h1).2 (by rw [sW];omega)
 have h3:=(KC hv h1 (h2.next hv)).1
 rw [zO] at h3;exact h3
theorem Mb {d:bB} (hv:VD d) {k:Nat} {cs:List Int} (h:td d k cs) (he:¬ (ee (sigs d cs)).length=(ee cs).length):(ee cs).length<(ee (dK (sigs d cs))).length∧(ee (dK (sigs d cs))).length≤d.fin.length:=by
 have h1:=h.next hv
 have h2:=(h.ref h1).1
 have h3:=Ay (dK (sigs d cs))
 rw [jt,mu] at h3
 refine ⟨?_,h3⟩
 rw [sW] at h2 ⊢;omega
def f0 (d:bB):List Int:=d.fin.map fun b=>if b=d.fin.getD 0 false then 0 else 1
def diff (d:bB) (k:Nat):Bool:=(d.fin.take k).any fun b=>decide (b ≠ d.fin.getD 0 false)
theorem Av (d:bB):(f0 d).length=d.fin.length:=by simp [f0]
theorem EC {d:bB} {q:Nat} (h:q<d.fin.length):(f0 d).getD q 0=if d.fin.getD q false=d.fin.getD 0 false then 0 else 1:=by
 simp [f0,List.getD_eq_getElem?_getD,h]
theorem SQ (d:bB):td d 0 (f0 d):=by
 refine ⟨Av d,fun i j hi hj=>?_⟩
 rw [rF.zero,sT,sT,EC hi,EC hj]
 generalize d.fin.getD i false=a
 generalize d.fin.getD j false=b
 generalize d.fin.getD 0 false=c
 cases a <;> cases b <;> cases c <;> simp
theorem SR (d:bB) (hn:0<d.fin.length):((ee (f0 d)).length:Int)=if diff d d.fin.length then 2 else 1:=by
 have hm:∀ x,x∈ee (f0 d)↔x=0∨(x=1∧diff d d.fin.length=true):=by
  intro x
  rw [fY]
  unfold f0 diff
  rw [List.take_length,List.mem_map,List.any_eq_true]
  constructor
  ·rintro ⟨b,hb,rfl⟩
   split
   ·exact .inl rfl
   ·rename_i h;exact .inr ⟨rfl,b,hb,by simpa using h⟩
  ·rintro (rfl | ⟨rfl,b,hb,h⟩)
   ·exact ⟨d.fin.getD 0 false,aX hn,by simp⟩
   ·exact ⟨b,hb,by rw [if_neg (by simpa using h)]⟩
 have hd:=uw (f0 d)
 split
 ·rename_i h
  have h1:=dz (U:=[0,1]) hd (fun y hy=>by rcases (hm y).1 hy with h | h <;> simp [h])
  have h2:=dz (xs:=[(0:Int),1]) (U:=ee (f0 d)) (by decide) (fun y hy=>by
   rw [hm]
   simp only [List.mem_cons,List.not_mem_nil,or_false] at hy
   rcases hy with rfl | rfl
   ·exact .inl rfl
   ·exact .inr ⟨rfl,h⟩)
  simp only [List.length_cons,List.length_nil] at h1 h2;omega
 ·rename_i h
  have h1:=dz (U:=[0]) hd (fun y hy=>by
   rcases (hm y).1 hy with h' | h'
   ·simp [h']
   ·exact absurd h'.2 h)
  have h2:=dz (xs:=[(0:Int)]) (U:=ee (f0 d)) (by decide) (fun y hy=>by
   rw [hm]
   simp only [List.mem_cons,List.not_mem_nil,or_false] at hy
   exact .inl hy)
  simp only [List.length_cons,List.length_nil] at h1 h2;omega
theorem GZ {d:bB} {k:Nat} (h:k<d.fin.length):(f0 d).take (k+1)=(f0 d).take k++[if d.fin.getD k false=d.fin.getD 0 false then 0 else 1]:=by
 rw [aO 0 _ k (by rw [Av];exact h),EC h]
theorem zK {d:bB} {k:Nat} (h:k<d.fin.length):diff d (k+1)=(diff d k || decide (d.fin.getD k false ≠ d.fin.getD 0 false)):=Mi _ false h
end Go.Sx
namespace Go.Sx
theorem L2 {d:bB} {k:Nat} (h:k<d.fin.length) (j9:¬ d.fin.getD k false=d.fin.getD 0 false):(((f0 d).take k++List.replicate (d.fin.length - k) 0).map (Value.int .i64)).set k (.int .i64 1)=((f0 d).take (k+1)++List.replicate (d.fin.length - (k+1)) 0).map (Value.int .i64):=by
 rw [GZ h,if_neg j9]
 exact fJ (Value.int .i64) _ 0 _ d.fin.length k (by rw [List.length_take,Av];omega) h
theorem L3 {d:bB} {k:Nat} (h:k<d.fin.length) (he:d.fin.getD k false=d.fin.getD 0 false):(f0 d).take k++List.replicate (d.fin.length - k) 0=(f0 d).take (k+1)++List.replicate (d.fin.length - (k+1)) 0:=by
 rw [GZ h,if_pos he,show d.fin.length - k=(d.fin.length - (k+1))+1 by omega,List.replicate_succ]
 simp
theorem L7 {d:bB} {k:Nat} (h:k<d.fin.length) (j9:¬ d.fin.getD k false=d.fin.getD 0 false):(2:Int)=if diff d (k+1) then 2 else 1:=by
 have e:decide (d.fin.getD k false ≠ d.fin.getD 0 false)=true:=decide_eq_true j9
 rw [zK h,e,Bool.or_true,if_pos rfl]
theorem IB {d:bB} {k:Nat} (h:k<d.fin.length) (he:d.fin.getD k false=d.fin.getD 0 false):(if diff d k then 2 else 1:Int)=if diff d (k+1) then 2 else 1:=by
 have e:decide (d.fin.getD k false ≠ d.fin.getD 0 false)=false:=decide_eq_false (by rw [he];exact fun h=>h rfl)
 rw [zK h,e,Bool.or_false]
def JK (d:bB):List Int:=if VD d then dj d else []
end Go.Sx
namespace Go.Sx
def IL (l:List UInt8) (k:Nat):List UInt8:=(List.range l.length).map fun t=>if t<k∨l.length - k≤t then l.getD (l.length - 1 - t) 0 else l.getD t 0
theorem jP (l:List UInt8) (k:Nat):(IL l k).length=l.length:=by simp [IL]
theorem pC {l:List UInt8} {k t:Nat} (h:t<l.length):(IL l k).getD t 0=if t<k∨l.length - k≤t then l.getD (l.length - 1 - t) 0 else l.getD t 0:=by
 simp [IL,List.getD_eq_getElem?_getD,h]
theorem xw {xs ys:List UInt8} (hl:xs.length=ys.length) (h:∀ t,t<xs.length→xs.getD t 0=ys.getD t 0):xs=ys:=by
 apply List.ext_getElem hl
 intro t h1 h2
 have:=h t h1
 simpa [List.getD_eq_getElem?_getD,h1,h2] using this
theorem Lj (l:List UInt8):IL l 0=l:=by
 apply xw (jP l 0)
 intro t ht
 rw [jP] at ht
 rw [pC ht,if_neg (by omega)]
theorem zv {xs:List UInt8} {i t:Nat} {v:UInt8} (h:t<xs.length):(xs.set i v).getD t 0=if i=t then v else xs.getD t 0:=by
 rw [List.getD_eq_getElem?_getD,List.getD_eq_getElem?_getD,List.getElem?_set]
 by_cases e:i=t
 ·subst e;simp [h]
 ·simp [e]
theorem Lk {l:List UInt8} {k m:Nat} (hm:m=l.length - 1 - k) (h:k<m):(((IL l k).map rC).set k (rC ((IL l k).getD m 0))).set m (rC ((IL l k).getD k 0))=(IL l (k+1)).map rC:=by
 rw [← List.map_set,← List.map_set]
 congr 1
 apply xw (by simp [jP])
 intro t ht
 rw [List.length_set,List.length_set,jP] at ht
 rw [zv (by rw [List.length_set,jP];exact ht),zv (by rw [jP];exact ht),pC ht,pC ht,pC (by omega),pC (by omega)]
 subst hm
 by_cases e1:l.length - 1 - k=t
 ·rw [if_pos e1,if_neg (by omega),if_pos (by omega)]
  congr 1;omega
 ·rw [if_neg e1]
  by_cases e2:k=t
  ·rw [if_pos e2,if_neg (by omega),if_pos (by omega)]
   congr 1;omega
  ·rw [if_neg e2]
   by_cases e3:t<k∨l.length - k≤t
   ·rw [if_pos e3,if_pos (by omega)]
   ·rw [if_neg e3,if_neg (by omega)]
theorem NY {l:List UInt8} {k:Nat} (h:¬ (k:Int)<(l.length:Int) - 1 - (k:Int)):IL l k=l.reverse:=by
 apply xw (by rw [jP,List.length_reverse])
 intro t ht
 rw [jP] at ht
 have e:l.reverse.getD t 0=l.getD (l.length - 1 - t) 0:=by
  rw [List.getD_eq_getElem?_getD,List.getD_eq_getElem?_getD,List.getElem?_reverse ht]
 rw [pC ht,e]
 split
 ·rfl
 ·have:l.length - 1 - t=t:=by omega
  rw [this]
def cd (n:Nat) (p:Int × Int):Int:=p.1 * (n:Int)+p.2
def QS (m n:Nat) (p:Int × Int):Prop:=(0≤p.1∧p.1<m)∧0≤p.2∧p.2<n
theorem Qb {m n:Nat} {p:Int × Int} (h:QS m n p):0≤p.1 * (n:Int)∧p.1 * (n:Int)≤((m * n:Nat):Int)∧0≤cd n p∧cd n p<((m * n:Nat):Int):=by
 obtain ⟨⟨h1,h2⟩,h3,h4⟩:=h
 have e1:0≤p.1 * (n:Int):=Int.mul_nonneg h1 (by omega)
 have e2:(p.1+1) * (n:Int)≤(m:Int) * (n:Int):=Int.mul_le_mul_of_nonneg_right (by omega) (by omega)
 rw [Int.add_mul,Int.one_mul,← Int.natCast_mul] at e2
 unfold cd
 omega
theorem S4 {m n:Nat} {p q:Int × Int} (hp:QS m n p) (hq:QS m n q) (h:cd n p=cd n q):p=q:=by
 obtain ⟨⟨h1,h2⟩,h3,h4⟩:=hp
 obtain ⟨⟨k1,k2⟩,k3,k4⟩:=hq
 unfold cd at h
 have hac:p.1=q.1:=by
  rcases Int.lt_trichotomy p.1 q.1 with g | g | g
  ·have:=Int.mul_le_mul_of_nonneg_right (c:=(n:Int)) (show p.1+1≤q.1 by omega) (by omega)
   rw [Int.add_mul,Int.one_mul] at this;omega
  ·exact g
  ·have:=Int.mul_le_mul_of_nonneg_right (c:=(n:Int)) (show q.1+1≤p.1 by omega) (by omega)
   rw [Int.add_mul,Int.one_mul] at this;omega
 rw [hac] at h
 exact Prod.ext hac (by omega)
theorem S3 {m n:Nat} {l:List (Int × Int)} {p:Int × Int} (hl:∀ q∈l,QS m n q) (hp:QS m n p):cd n p∈l.map (cd n)↔p∈l:=by
 rw [List.mem_map]
 constructor
 ·rintro ⟨q,hq,e⟩
  rw [← S4 (hl q hq) hp e];exact hq
 ·intro h;exact ⟨p,h,rfl⟩
theorem uf {m n:Nat} {p:Int × Int}:p∈jY m n↔QS m n p:=iO
abbrev Q4:=(Int × Int) × (Int × Int)
def TD (p:Q4):List Value:=[.int .i64 p.1.1,.int .i64 p.1.2,.int .i64 p.2.1,.int .i64 p.2.2]
def TC (p:Q4):Value:=.agg #[.int .i64 p.1.1,.int .i64 p.1.2,.int .i64 p.2.1,.int .i64 p.2.2]
def DN (l:List Q4):List Value:=l.flatMap TD
theorem xI (l:List Q4):(DN l).length=l.length * 4:=by
 induction l with
 | nil=>rfl
 | cons p l ih=>simp only [DN,List.flatMap_cons,List.length_append,TD,List.length_cons,List.length_nil] at ih ⊢;omega
theorem xJ (a b:List Q4):DN (a++b)=DN a++DN b:=by simp [DN]
theorem Sl (l:List Q4) (j:Nat) (h:j<l.length):((DN l).drop (j * 4)).take 4=TD (l.getD j ((0,0),(0,0))):=by
 have h1:l=l.take j++l.getD j ((0,0),(0,0)) :: l.drop (j+1):=by
  rw [List.getD_eq_getElem?_getD,List.getElem?_eq_getElem h,Option.getD_some,List.getElem_cons_drop,List.take_append_drop]
 have h2:(DN (l.take j)).length=j * 4:=by rw [xI,List.length_take];omega
 conv=>lhs;rw [h1]
 rw [xJ,← h2,List.drop_left]
 simp [DN,TD]
theorem Yl.Py {C:Cx} {sl:List (Nat × Value)} {own:List bk} {dst:Option Nat} {ty:TypeId} {pos:String} {aft:Array Edge} {g:Option (Nat × Bool)} {x:Operand} {t:TypeId} {v:Value} {n j:Nat} {l:List Q4} (ht:nq C.P t 4) (hx:bO ⟨sl,own⟩ x=some (.pointer (some ((ko v).add (j * 4)))))
  (hr:cR C own v 4 n (DN l)) (hj:j<l.length):Yl C ⟨sl,own⟩ ⟨dst,.load t x,ty,pos,aft,g⟩ (TC (l.getD j ((0,0),(0,0)))):=fun a w hs=>by
 have hn:n=l.length:=by obtain ⟨_,_,_,_,h,_⟩:=hr w hs.world;rw [xI] at h;omega
 have:=Yl.JN (dst:=dst) (ty:=ty) (pos:=pos) (aft:=aft) (g:=g) ht hx hr (by omega) a w hs
 rw [Sl l j hj] at this
 exact this
theorem CC {a b:List (Int × Int)} (h:b.length=a.length):(a.zip b).length=a.length:=by rw [List.length_zip];omega
theorem CD {a b:List (Int × Int)} (h:b.length=a.length) {i:Nat} (hi:i<a.length):(a.zip b).getD i ((0,0),(0,0))=(a.getD i (0,0),b.getD i (0,0)):=by
 have h2:i<b.length:=by omega
 have h3:i<(a.zip b).length:=by rw [CC h];exact hi
 rw [List.getD_eq_getElem?_getD,List.getElem?_eq_getElem h3,Option.getD_some,List.getElem_zip,List.getD_eq_getElem?_getD,List.getElem?_eq_getElem hi,Option.getD_some,List.getD_eq_getElem?_getD,List.getElem?_eq_getElem h2,Option.getD_some]
theorem HN {a b:List (Int × Int)} (h:b.length=a.length) (x y:Int × Int):(a++[x]).zip (b++[y])=a.zip b++[(x,y)]:=by
 rw [List.zip_append h.symm];rfl
theorem Ln (l:List Q4) (x:Q4):DN (l++[x])=DN l++TD x:=by rw [xJ];simp [DN]
theorem Addr.add_add (a:Addr) (m n:Nat):(a.add m).add n=a.add (m+n):=by
 unfold Addr.add;repeat' split
 all_goals first | rfl | omega | (simp;omega) | (simp_all;done) | (congr 1;omega)
theorem Yl.GM {C:Cx} {sl:List (Nat × Value)} {own:List bk} {dst:Option Nat} {ty:TypeId} {pos:String} {aft:Array Edge} {g:Option (Nat × Bool)} {x i:Operand} {t e n sz:Nat} {a0:Addr} (k:Nat) (ht:Ek C.P t e n sz) (hx:bO ⟨sl,own⟩ x=some (.pointer (some a0))) (hi:bO ⟨sl,own⟩ i=some (.int .i64 (k:Int))) (hk:k<n) :
  Yl C ⟨sl,own⟩ ⟨dst,.indexAddr t x i,ty,pos,aft,g⟩ (.pointer (some (a0.add (k * sz)))):=
 fun a w hs=>by
  have uG:=cI ht.2 w
  have h0:(0:Int)≤(k:Int)∧(k:Int)<(n:Int):=by omega
  simp only [execOp,aq hs hx,aq hs hi,Instr.indexAt,asIntOf,Sem.run_bind,Sem.run_pure,Result.andThen_ok,run_underlying ht.1,Instr.sureAddr]
  simp [h0.1,h0.2,uG,run_underlying ht.1,hk]
theorem Yl.CX {C:Cx} {sl:List (Nat × Value)} {own:List bk} {dst:Option Nat} {ty:TypeId} {pos:String} {aft:Array Edge} {g:Option (Nat × Bool)} {x:Operand} {t:TypeId} {v u:Value} {n j k sz:Nat} {cs:List Value} (ht:dF C.P t) (hx:bO ⟨sl,own⟩ x=some (.pointer (some (((ko v).add j).add k))))
  (hr:cR C own v sz n cs) (hu:cs[j+k]? = some u):Yl C ⟨sl,own⟩ ⟨dst,.load t x,ty,pos,aft,g⟩ u:=
 fun a w hs=>by
  have h1:=(AT (hr w hs.world) hu).1
  rw [Addr.add_add] at hx
  simp [execOp,aq hs hx,Instr.loadAt,Instr.sureAddr,iC ht h1]
theorem CO {ps:List (Int × Int)} {j:Nat} (h:j<ps.length):(x7 ps)[j * 2+0 * 1]? = some (.int .i64 (ps.getD j (0,0)).1)∧(x7 ps)[j * 2+1 * 1]? = some (.int .i64 (ps.getD j (0,0)).2):=by
 have h1:=Su ps j h
 have h2:=congrArg (fun l=>l[0]?) h1
 have h3:=congrArg (fun l=>l[1]?) h1
 simp only [List.getElem?_take,List.getElem?_drop] at h2 h3
 constructor
 ·simpa using h2
 ·simpa using h3
theorem Ik {N:Nat} {c:Int} (h:0≤c∧c<(N:Int)):(List.replicate N (Value.bool false)).set c.toNat (Value.bool true)=(lD N [c]).map Value.bool:=by
 have e:List.replicate N (Value.bool false)=(lD N []).map Value.bool:=by rw [LD,List.map_replicate]
 rw [e,← List.map_set,CV h];rfl
theorem LC {N:Nat} {l:List Int} {c:Int} (h:0≤c∧c<(N:Int)):((lD N l).map Value.bool).set c.toNat (Value.bool true)=(lD N (l++[c])).map Value.bool:=by
 rw [← List.map_set,CV h]
end Go.Sx
namespace Go.Sx
end Go.Sx
namespace Go.Sx
theorem RN (e:Ex):(jA e).length+3≤4 * dt e:=by
 induction e using Ex.nh with
 | _ op lt ks ih=>
  rw [dx]
  have key:∀ (sep:List UInt8) (least:Int) (ks:List Ex) (b:Bool),sep.length≤1→(∀ k∈ks,(jA k).length+3≤4 * dt k)→(jv sep least b ks).length≤4 * dL ks:=by
   intro sep least ks
   induction ks with
   | nil=>intro b _ _;simp [jv]
   | cons k ks Qw=>
    intro b hs h
    have h1:=h k List.mem_cons_self
    have h2:=Qw true hs (fun q hq=>h q (List.mem_cons_of_mem _ hq))
    rw [jv,aD]
    simp only [List.length_append]
    have h3:(if b then sep else []).length≤1:=by split <;> simp [hs]
    have h4:(if least≤eh k.op then jA k else 40 :: (jA k++[41])).length≤(jA k).length+2:=by split <;> simp
    omega
  have k1:=key [124] 2 ks false (by simp) ih
  have k2:=key [38] 3 ks false (by simp) ih
  have k3:=key [] 4 ks false (by simp) ih
  have k4:=key [] 5 ks false (by simp) ih
  rw [jA]
  repeat' split
  all_goals try simp only [List.length_cons,List.length_nil,List.length_append]
  all_goals omega
theorem Ey {e:Ex} (h:cg e 6=0):Ac e=some (jA e):=by
 unfold Ac
 rw [if_pos h]
 have h1:=(iu h).1
 have h2:=RN e
 exact wG (by omega)
theorem Vn {x:Nat} (h:x<100):((mf x).toNat:Int) - 97=(x:Int):=by rw [iP (by omega)];omega
structure qB (r:mZ):Prop where
 L:1≤r.L∧r.L≤6
 Tu:1≤r.ex.length∧r.ex.length≤512
 val:∀ i,i<r.ex.length→cg (r.ex.getD i default) 6=0
 num:∀ t i,dq r.num t=some i→∃ k:Nat,i=(k:Int)∧k<r.ex.length∧jA (r.ex.getD k default)=t
 nx:r.nx.length=r.dn
 dn:r.dn≤r.ex.length
 row:∀ i,i<r.dn→(r.nx.getD i []).length=r.L∧∀ x,x<r.L→∃ k:Nat,(r.nx.getD i []).getD x 0=(k:Int)∧k<r.ex.length∧∀ w,LE (r.ex.getD k default) w↔LE (r.ex.getD i default) (mf x :: w)
theorem jd {α:Type} {d:α} {xs ys:List α} {i:Nat} (h:i<xs.length):(xs++ys).getD i d=xs.getD i d:=by
 rw [List.getD_eq_getElem?_getD,List.getElem?_append_left h,← List.getD_eq_getElem?_getD]
theorem tJ {α:Type} {d a:α} {xs:List α}:(xs++[a]).getD xs.length d=a:=by
 rw [List.getD_eq_getElem?_getD,List.getElem?_append_right (Nat.le_refl _)];simp
theorem OX {r:mZ} (h:qB r) {e:Ex} (hv:cg e 6=0) (hl:r.ex.length<512):∃ r2,qV r e=some r2∧qB r2∧r2.ex=r.ex++[e]∧r2.nx=r.nx∧r2.dn=r.dn∧r2.L=r.L:=by
 unfold qV
 rw [Ey hv]
 refine ⟨_,rfl,⟨h.L,by simp;omega,fun i hi=>?_,fun t i ht=>?_,h.nx,by have:=h.dn;simp;omega,fun i hi=>?_⟩,rfl,rfl,rfl,rfl⟩
 ·simp only [List.length_append,List.length_singleton] at hi
  rcases Nat.lt_or_ge i r.ex.length with h1 | h1
  ·show cg ((r.ex++[e]).getD i default) 6=0
   rw [jd h1];exact h.val i h1
  ·have:i=r.ex.length:=by omega
   subst this
   show cg ((r.ex++[e]).getD r.ex.length default) 6=0
   rw [tJ];exact hv
 ·rw [pT] at ht
  split at ht
  ·rename_i he
   cases ht
   refine ⟨r.ex.length,rfl,by simp,?_⟩
   show jA ((r.ex++[e]).getD r.ex.length default)=t
   rw [tJ];exact he.symm
  ·obtain ⟨k,h1,h2,h3⟩:=h.num t i ht
   refine ⟨k,h1,by simp;omega,?_⟩
   show jA ((r.ex++[e]).getD k default)=t
   rw [jd h2];exact h3
 ·have hi:i<r.dn:=hi
  obtain ⟨h1,h2⟩:=h.row i hi
  refine ⟨h1,fun x hx=>?_⟩
  obtain ⟨k,h3,h4,h5⟩:=h2 x hx
  refine ⟨k,h3,by simp;omega,fun w=>?_⟩
  show LE ((r.ex++[e]).getD k default) w↔LE ((r.ex++[e]).getD i default) _
  have:=h.dn
  rw [jd h4,jd (by omega)];exact h5 w
def Qj (r:mZ) (row:List Int) (x:Nat):Prop:=row.length=x∧∀ y,y<x→∃ k:Nat,row.getD y 0=(k:Int)∧k<r.ex.length∧∀ w,LE (r.ex.getD k default) w↔LE (r.ex.getD r.dn default) (mf y :: w)
theorem SD {e:Ex} (hv:cg e 6=0) {x:Nat} (hx:x<6):∃ p,letE e (x:Int)=some p∧(p.2=3∨(p.2=0∧cg p.1 6=0∧∀ w,LE p.1 w↔LE e (mf x :: w))):=by
 obtain ⟨hs,hw,_⟩:=iu hv
 obtain ⟨d,h1,h2⟩:=OM (n:=6) (nm:=true) (Vn (x:=x) (by omega)) e hw (by omega)
 unfold letE
 rw [h1]
 refine ⟨_,rfl,?_⟩
 split
 ·rename_i h;exact .inr ⟨rfl,h,h2.ky⟩
 ·exact .inl rfl
theorem AR:∀ (n x:Nat) (r:mZ) (row:List Int),qB r→r.dn<r.ex.length→x+n=r.L→Qj r row x →
  ∃ r2 og e,qM n x r row=some (r2,og,e)∧(e=3∨(e=0∧qB r2∧r2.dn=r.dn∧r2.nx=r.nx∧r2.L=r.L∧r2.dn<r2.ex.length∧Qj r2 og r.L∧∃ ys,r2.ex=r.ex++ys))
 | 0,x,r,row,h,hd,hx,hr=>⟨r,row,0,by rw [qM],.inr ⟨rfl,h,rfl,rfl,rfl,hd,by rw [← hx];exact hr,[],by simp⟩⟩
 | n+1,x,r,row,h,hd,hx,hr=>by
  have hL:=h.L
  obtain ⟨p,h1,h2⟩:=SD (h.val r.dn hd) (x:=x) (by omega)
  rw [qM,h1,Option.bind_some]
  rcases h2 with h2 | ⟨h2,h3,h4⟩
  ·rw [if_pos (by omega)];exact ⟨_,_,_,rfl,.inl h2⟩
  ·rw [if_neg (by omega),Ey h3,Option.bind_some]
   cases hm:dq r.num (jA p.1) with
   | some i=>
    obtain ⟨k,rfl,h5,h6⟩:=h.num _ _ hm
    have he:r.ex.getD k default=p.1:=RO (iu (h.val k h5)).2.1 (iu h3).2.1 h6
    obtain ⟨r2,og,e,g1,g2⟩:=AR n (x+1) r (row++[(k:Int)]) h hd (by omega) ⟨by simp [hr.1],fun y hy=>by
     rcases Nat.lt_or_ge y x with h7 | h7
     ·obtain ⟨k',q1,q2,q3⟩:=hr.2 y h7
      exact ⟨k',by rw [jd (by rw [hr.1];exact h7)];exact q1,q2,q3⟩
     ·have:y=x:=by omega
      subst this
      refine ⟨k,?_,h5,fun w=>by rw [he];exact h4 w⟩
      have:=hr.1;subst this;exact tJ⟩
    exact ⟨r2,og,e,g1,g2⟩
   | none=>
    show ∃ r2 og e,(if r.ex.length=512 then some (r,row,3) else _)=_∧_
    split
    ·exact ⟨_,_,_,rfl,.inl rfl⟩
    ·have hex:=h.Tu
     obtain ⟨r1,a1,a2,a3,a4,a5,a6⟩:=OX h h3 (by omega)
     rw [a1,Option.bind_some]
     have TZ:r1.dn<r1.ex.length:=by rw [a5,a3];simp;omega
     obtain ⟨r2,og,e,g1,g2⟩:=AR n (x+1) r1 (row++[(r.ex.length:Int)]) a2 TZ (by omega) ⟨by simp [hr.1],fun y hy=>by
      rcases Nat.lt_or_ge y x with h7 | h7
      ·obtain ⟨k',q1,q2,q3⟩:=hr.2 y h7
       refine ⟨k',by rw [jd (by rw [hr.1];exact h7)];exact q1,by rw [a3];simp;omega,fun w=>?_⟩
       rw [a3,a5,jd q2,jd hd];exact q3 w
      ·have:y=x:=by omega
       subst this
       refine ⟨r.ex.length,?_,by rw [a3];simp,fun w=>?_⟩
       ·have:=hr.1;subst this;exact tJ
       ·rw [a3,a5,tJ,jd hd];exact h4 w⟩
     refine ⟨r2,og,e,g1,?_⟩
     rcases g2 with g2 | ⟨g2,g3,g4,g5,g6,g7,g8,ys,g9⟩
     ·exact .inl g2
     ·exact .inr ⟨g2,g3,by rw [g4,a5],by rw [g5,a4],by rw [g6,a6],g7,by rw [← a6];exact g8,p.1 :: ys,by rw [g9,a3];simp⟩
theorem Lq {r:mZ} (h:qB r) (hd:r.dn<r.ex.length):∃ p,wo r=some p∧(p.2=3∨(p.2=0∧qB p.1∧p.1.dn=r.dn+1∧p.1.L=r.L∧∃ ys,p.1.ex=r.ex++ys)):=by
 obtain ⟨r2,og,e,g1,g2⟩:=AR r.L 0 r [] h hd (by omega) ⟨rfl,fun y hy=>by omega⟩
 unfold wo
 rw [g1,Option.bind_some]
 rcases g2 with g2 | ⟨g2,g3,g4,g5,g6,g7,g8,g9⟩
 ·subst g2;exact ⟨_,rfl,.inl rfl⟩
 ·subst g2
  refine ⟨_,rfl,.inr ⟨rfl,⟨g3.L,g3.Tu,g3.val,g3.num,by simp [g3.nx],by show r2.dn+1≤r2.ex.length;omega,fun i hi=>?_⟩,by rw [g4],g6,g9⟩⟩
  have ox:i<r2.dn+1:=hi
  have hn:=g3.nx
  rcases Nat.lt_or_ge i r2.dn with h1 | h1
  ·obtain ⟨q1,q2⟩:=g3.row i h1
   show ((r2.nx++[og]).getD i []).length=r2.L∧_
   rw [jd (by omega)]
   exact ⟨q1,q2⟩
  ·have:i=r2.dn:=by omega
   subst this
   show ((r2.nx++[og]).getD r2.dn []).length=r2.L∧_
   have e:(r2.nx++[og]).getD r2.dn []=og:=by rw [← hn];exact tJ
   show _∧∀ x,x<r2.L→∃ k:Nat,((r2.nx++[og]).getD r2.dn []).getD x 0=_∧_
   rw [e,g6]
   exact g8
theorem CW:∀ (n:Nat) (r:mZ),qB r→514≤n+r.dn→∃ p,qt n r=some p∧(p.2=3∨(p.2=0∧qB p.1∧p.1.dn=p.1.ex.length∧p.1.L=r.L∧∃ ys,p.1.ex=r.ex++ys))
 | 0,r,h,hn=>by have:=h.dn;have:=h.Tu;omega
 | n+1,r,h,hn=>by
  rw [qt]
  split
  ·rename_i h1;exact ⟨_,rfl,.inr ⟨rfl,h,h1,rfl,[],by simp⟩⟩
  ·rename_i h1
   have:=h.dn
   obtain ⟨p,g1,g2⟩:=Lq h (by omega)
   rw [g1,Option.bind_some]
   rcases g2 with g2 | ⟨g2,g3,g4,g5,ys,g6⟩
   ·rw [if_pos (by omega)];exact ⟨p,rfl,.inl g2⟩
   ·rw [if_neg (by omega)]
    obtain ⟨p2,q1,q2⟩:=CW n p.1 g3 (by omega)
    refine ⟨p2,q1,?_⟩
    rcases q2 with q2 | ⟨q2,q3,q4,q5,zs,q6⟩
    ·exact .inl q2
    ·exact .inr ⟨q2,q3,q4,by rw [q5,g5],ys++zs,by rw [q6,g6];simp⟩
theorem LJ {c:UInt8} (h:97≤c.toNat):mf ((c.toNat:Int) - 97).toNat=c:=by
 unfold mf
 have:97+((c.toNat:Int) - 97).toNat=c.toNat:=by omega
 rw [this];simp
theorem OW {r:mZ} (h:qB r) (hd:r.dn=r.ex.length):VD (qU r)∧∀ (l:List UInt8) (q:Nat),q<r.ex.length→kb (qU r) l→(c9 (qU r) (cV (qU r) (q:Int) l)=true↔LE (r.ex.getD q default) l):=by
 have hL:=h.L
 refine ⟨⟨by show 1≤(r.L:Int)∧(r.L:Int)≤6;omega,by simp [qU,h.Tu.2],by simp [qU,h.nx,hd],by have:=h.Tu;simp [qU];omega,fun i hi=>?_,fun i x hi hx=>?_⟩,?_⟩
 ·have hi:i<r.dn:=by rw [hd];simpa [qU] using hi
  have:=(h.row i hi).1
  show ((r.nx.getD i []).length:Int)=(r.L:Int)
  rw [this]
 ·have hi:i<r.dn:=by rw [hd];simpa [qU] using hi
  obtain ⟨h1,h2⟩:=h.row i hi
  have hx:x<(r.nx.getD i []).length:=hx
  obtain ⟨k,h3,h4,_⟩:=h2 x (by omega)
  show 0≤(r.nx.getD i []).getD x 0∧(r.nx.getD i []).getD x 0<((r.ex.map fq).length:Int)
  rw [h3,List.length_map];omega
 ·intro l
  induction l with
  | nil=>
   intro q hq _
   show (r.ex.map fq).getD ((q:Int)).toNat false=true↔_
   have e:(r.ex.map fq).getD ((q:Int)).toNat false=fq (r.ex.getD q default):=by simp [List.getD_eq_getElem?_getD,hq]
   rw [e]
   exact Ew 6 _ (iu (h.val q hq)).2.1
  | cons c l ih=>
   intro q hq ho
   obtain ⟨hc,hl⟩:=j6.1 ho
   have T0:97≤c.toNat∧(c.toNat:Int) - 97<(r.L:Int):=of_decide_eq_true hc
   obtain ⟨k,h3,h4,h5⟩:=(h.row q (by omega)).2 ((c.toNat:Int) - 97).toNat (by omega)
   rw [fK]
   have e:bC (qU r) (q:Int) ((c.toNat:Int) - 97).toNat=(k:Int):=by
    show (r.nx.getD ((q:Int)).toNat []).getD _ 0=_
    rw [Int.toNat_natCast];exact h3
   rw [e,ih k h4 hl,h5,LJ T0.1]
def OY (e:Ex) (n:Int) (d:bB) (er:Int):Prop:=(er=3∧d=rN)∨(er=0∧VD d∧d.L=n∧∀ l:List UInt8,l.all (okB n)=true→(c9 d (cV d d.s l)=true↔LE e l))
theorem Me {e:Ex} {n:Int} (hv:cg e n=0) (hs:dt e≤20):∃ d er,re e n=some (d,er)∧OY e n d er:=by
 obtain ⟨_,hw,h1,h6⟩:=iu hv
 have Hl:=pA h6 e hw
 have hv6:=oY (n:=6) (by omega) (by omega) Hl
 obtain ⟨e1,s1,s2,s3,s4⟩:=AQ 6 e Hl (by omega)
 have hv1:=oY (n:=6) (by omega) (by omega) s3
 unfold re
 rw [if_neg (by omega)]
 unfold uO
 rw [if_pos hv6,s1,Option.bind_some]
 have ha:∃ r,qV ⟨n.toNat,[],[],0,[]⟩ e1=some r∧qB r∧r.ex=[e1]∧r.L=n.toNat∧r.dn=0:=by
  unfold qV
  rw [Ey hv1]
  refine ⟨_,rfl,⟨by show 1≤n.toNat∧n.toNat≤6;omega,by simp,fun i hi=>?_,fun t i ht=>?_,rfl,by simp,fun i hi=>by simp at hi⟩,rfl,rfl,rfl⟩
  ·have:i=0:=by simpa using hi
   subst this;exact hv1
  ·rw [pT] at ht
   split at ht
   ·rename_i he;cases ht;exact ⟨0,rfl,by simp,he.symm⟩
   ·cases ht
 obtain ⟨r,a1,a2,a3,a4,a5⟩:=ha
 rw [a1,Option.bind_some]
 obtain ⟨p,p1,p2⟩:=CW 600 r a2 (by omega)
 rw [p1,Option.bind_some]
 rcases p2 with p2 | ⟨p2,p3,p4,p5,ys,p6⟩
 ·rw [if_pos (by omega)]
  exact ⟨_,_,rfl,.inl ⟨p2,rfl⟩⟩
 ·rw [if_neg (by omega)]
  obtain ⟨q1,q2⟩:=OW p3 p4
  have hL:((p.1.L:Nat):Int)=n:=by rw [p5,a4];omega
  refine ⟨_,_,rfl,.inr ⟨rfl,q1,hL,fun l hl=>?_⟩⟩
  have:=q2 l 0 (by have:=p3.Tu;omega) (by show l.all (okB ((p.1.L:Nat):Int))=true;rw [hL];exact hl)
  rw [p6,a3] at this
  show c9 _ (cV _ ((0:Nat):Int) l)=true↔_
  rw [this]
  exact s4 l
end Go.Sx
namespace Go.Sx
open Go.RowKit
def mI (l:List Nat):List Int:=l.map fun (i:Nat)=>(i:Int)
theorem Et (l:List Nat):(mI l).length=l.length:=by simp [mI]
theorem Eu {l:List Nat} {k:Nat} (h:k<l.length):(mI l).getD k 0=((l.getD k 0:Nat):Int):=by simp [mI,List.getD_eq_getElem?_getD,h]
theorem SA (a:List Nat) (i:Nat):mI (a++[i])=mI a++[(i:Int)]:=by simp [mI]
theorem C3 {r:List cF}:∀ (l:List Nat) (acc:cF) (i:Nat),yw r acc (l++[i])=yw r acc l ||| r.getD i 0
 | [],acc,i=>rfl
 | j :: l,acc,i=>C3 l (acc ||| r.getD j 0) i
theorem Ir {r:List cF} {l:List Nat} {k:Nat} (h:k<l.length):yw r 0 (l.take (k+1))=yw r 0 (l.take k) ||| r.getD (l.getD k 0) 0:=by
 rw [aO 0 l k h,C3]
theorem Am {s:cF} {m k:Nat} (hm:m≤64) (hk:k<(c5 (s &&& below (m:Int))).length):(c5 (s &&& below (m:Int))).getD k 0<m:=by
 have h:=jq.1 (aX (d:=0) hk)
 generalize (c5 (s &&& below (m:Int))).getD k 0=q at h
 rw [BitVec.getLsbD_and,Bool.and_eq_true] at h
 rcases Nat.lt_or_ge q 64 with h4 | h4
 ·have h5:=h.2
  rw [mQ (by omega) q h4] at h5
  have:=of_decide_eq_true h5
  omega
 ·have h5:=h.2
  rw [BitVec.getLsbD_of_ge _ _ h4] at h5;cases h5
end Go.Sx
