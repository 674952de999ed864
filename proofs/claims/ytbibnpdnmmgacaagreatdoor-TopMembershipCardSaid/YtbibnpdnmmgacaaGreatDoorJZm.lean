import Derived.Test.YtbibnpdnmmgacaaGreatDoorJZc
import Derived.Test.YtbibnpdnmmgacaaGreatDoorJZb
set_option linter.unusedVariables false
set_option linter.unusedSimpArgs false
set_option linter.unusedSectionVars false
set_option maxRecDepth 100000
namespace Go.Sx
section
variable {α β : Type} [DecidableEq α] [DecidableEq β]
def ded (xs:List α):List α:=xs.foldl insN []
theorem foldl_insN_mem:∀ (xs acc:List α) (x:α),x∈xs.foldl insN acc↔x∈acc∨x∈xs
 | [],acc,x=>by simp
 | y :: ys,acc,x=>by
  rw [List.foldl_cons,foldl_insN_mem ys (insN acc y) x,List.mem_cons]
  constructor
  ·rintro (h | h)
   ·rcases insN_cases h with h | h
    ·exact .inl h
    ·exact .inr (.inl h)
   ·exact .inr (.inr h)
  ·rintro (h | h | h)
   ·exact .inl (insN_sub h)
   ·subst h;exact .inl (insN_mem _ _)
   ·exact .inr h
theorem foldl_insN_nodup:∀ (xs acc:List α),acc.Nodup→(xs.foldl insN acc).Nodup
 | [],acc,h=>h
 | y :: ys,acc,h=>foldl_insN_nodup ys _ (insN_nodup h)
theorem insN_len (xs:List α) (x:α):(insN xs x).length≤xs.length+1:=by unfold insN;split <;> simp
theorem foldl_insN_len:∀ (xs acc:List α),(xs.foldl insN acc).length≤acc.length+xs.length
 | [],acc=>by simp
 | y :: ys,acc=>by
  have h1:=foldl_insN_len ys (insN acc y)
  have h2:=insN_len acc y
  rw [List.foldl_cons,List.length_cons];omega
theorem ded_snoc (xs:List α) (x:α):ded (xs++[x])=insN (ded xs) x:=by simp [ded]
theorem ded_take {xs:List α} (d:α) {k:Nat} (h:k<xs.length):ded (xs.take (k+1))=insN (ded (xs.take k)) (xs.getD k d):=by
 rw [take_snocD d xs k h,ded_snoc]
theorem ded_mem {xs:List α} {x:α}:x∈ded xs↔x∈xs:=by rw [ded,foldl_insN_mem];simp
theorem ded_nodup (xs:List α):(ded xs).Nodup:=foldl_insN_nodup xs [] List.nodup_nil
theorem ded_le (xs:List α):(ded xs).length≤xs.length:=by have:=foldl_insN_len xs [];simpa [ded] using this
def canN (xs:List α):List Int:=xs.map fun x=>((posN (ded xs) x:Nat):Int)
theorem canN_len (xs:List α):(canN xs).length=xs.length:=by simp [canN]
theorem canN_snoc (xs:List α) (x:α):canN (xs++[x])=canN xs++[((posN (ded xs) x:Nat):Int)]:=by
 unfold canN
 rw [ded_snoc,List.map_append]
 congr 1
 ·apply List.map_congr_left
  intro y hy
  obtain ⟨ys,e⟩:=insN_pre (ded xs) x
  rw [e,posN_append ys (ded_mem.2 hy)]
 ·rw [List.map_cons,List.map_nil,pos_in (xs:=ded xs) (XS:=insN (ded xs) x) (ys:=[]) (by simp)]
theorem canN_take {xs:List α} (d:α) {k:Nat} (h:k<xs.length):canN (xs.take (k+1))=canN (xs.take k)++[((posN (ded (xs.take k)) (xs.getD k d):Nat):Int)]:=by
 rw [take_snocD d xs k h,canN_snoc]
theorem canN_get {xs:List α} (d:α) {i:Nat} (h:i<xs.length):(canN xs).getD i 0=((posN (ded xs) (xs.getD i d):Nat):Int):=by
 simp [canN,List.getD_eq_getElem?_getD,h]
theorem canN_bd {xs:List α} {i:Nat} (h:i<xs.length):0≤(canN xs).getD i 0∧(canN xs).getD i 0<(ded xs).length:=by
 rw [canN_get (xs[i]) h]
 have:=posN_lt (ded_mem.2 (getD_mem (d:=xs[i]) h))
 omega
theorem canN_eq {xs:List α} (d:α) {i j:Nat} (hi:i<xs.length) (hj:j<xs.length):(canN xs).getD i 0=(canN xs).getD j 0↔xs.getD i d=xs.getD j d:=by
 rw [canN_get d hi,canN_get d hj]
 constructor
 ·intro h
  have h':posN (ded xs) (xs.getD i d)=posN (ded xs) (xs.getD j d):=by omega
  have h1:=getD_posN d (ded_mem.2 (getD_mem (d:=d) hi))
  have h2:=getD_posN d (ded_mem.2 (getD_mem (d:=d) hj))
  rw [h'] at h1
  exact h1.symm.trans h2
 ·intro h;rw [h]
theorem getD_take' {xs:List α} (d:α) {i k:Nat} (h:i<k):(xs.take k).getD i d=xs.getD i d:=by
 simp [List.getD_eq_getElem?_getD,List.getElem?_take,h]
theorem canN_ker {xs:List α} {ys:List β} (d:α) (e:β) (hl:xs.length=ys.length) (h:∀ i j,i<xs.length→j<xs.length→(xs.getD i d=xs.getD j d↔ys.getD i e=ys.getD j e)):canN xs=canN ys∧(ded xs).length=(ded ys).length:=by
 have key:∀ k,k≤xs.length→canN (xs.take k)=canN (ys.take k)∧(ded (xs.take k)).length=(ded (ys.take k)).length:=by
  intro k
  induction k with
  | zero=>intro _;simp [canN,ded]
  | succ k ih=>
   intro hk
   obtain ⟨h1,h2⟩:=ih (by omega)
   have hkx:k<xs.length:=by omega
   have hky:k<ys.length:=by omega
   have e0:posN (ded (xs.take k)) (xs.getD k d)=posN (ded (ys.take k)) (ys.getD k e)∧(xs.getD k d∈ded (xs.take k)↔ys.getD k e∈ded (ys.take k)):=by
    have hmx:xs.getD k d∈ded (xs.take k)↔∃ i,i<k∧xs.getD i d=xs.getD k d:=by
     rw [ded_mem]
     constructor
     ·intro hm
      obtain ⟨i,hi,e⟩:=mem_getD d hm
      rw [List.length_take] at hi
      exact ⟨i,by omega,by rw [← getD_take' d (k:=k) (by omega)];exact e⟩
     ·rintro ⟨i,hi,e⟩
      rw [← e,← getD_take' d hi]
      exact getD_mem (by rw [List.length_take];omega)
    have hmy:ys.getD k e∈ded (ys.take k)↔∃ i,i<k∧ys.getD i e=ys.getD k e:=by
     rw [ded_mem]
     constructor
     ·intro hm
      obtain ⟨i,hi,e'⟩:=mem_getD e hm
      rw [List.length_take] at hi
      exact ⟨i,by omega,by rw [← getD_take' e (k:=k) (by omega)];exact e'⟩
     ·rintro ⟨i,hi,e'⟩
      rw [← e',← getD_take' e hi]
      exact getD_mem (by rw [List.length_take];omega)
    have hm:xs.getD k d∈ded (xs.take k)↔ys.getD k e∈ded (ys.take k):=by
     rw [hmx,hmy]
     constructor
     ·rintro ⟨i,hi,e'⟩;exact ⟨i,hi,(h i k (by omega) hkx).1 e'⟩
     ·rintro ⟨i,hi,e'⟩;exact ⟨i,hi,(h i k (by omega) hkx).2 e'⟩
    refine ⟨?_,hm⟩
    by_cases hx:xs.getD k d∈ded (xs.take k)
    ·obtain ⟨i,hi,e'⟩:=hmx.1 hx
     have e2:=(h i k (by omega) hkx).1 e'
     have hix:i<(xs.take k).length:=by rw [List.length_take];omega
     have hiy:i<(ys.take k).length:=by rw [List.length_take];omega
     have g1:=canN_get d hix
     have g2:=canN_get e hiy
     rw [getD_take' d hi,e'] at g1
     rw [getD_take' e hi,e2] at g2
     rw [h1] at g1
     omega
    ·rw [posN_not hx,posN_not (fun hy=>hx (hm.2 hy)),h2]
   refine ⟨?_,?_⟩
   ·rw [canN_take d hkx,canN_take e hky,h1,e0.1]
   ·rw [ded_take d hkx,ded_take e hky]
    unfold insN
    by_cases hx:xs.getD k d∈ded (xs.take k)
    ·rw [if_pos hx,if_pos (e0.2.1 hx),h2]
    ·rw [if_neg hx,if_neg (fun hy=>hx (e0.2.2 hy)),List.length_append,List.length_append,h2];rfl
 have:=key xs.length (Nat.le_refl _)
 rw [List.take_length] at this
 have e:ys.take xs.length=ys:=by rw [hl,List.take_length]
 rw [e] at this
 exact this
theorem canN_canN (xs:List α):canN (canN xs)=canN xs:=by
 by_cases h0:xs.length=0
 ·have:=List.length_eq_zero_iff.1 h0;subst this;rfl
 ·have hd:0<xs.length:=by omega
  exact (canN_ker (xs:=canN xs) (ys:=xs) 0 xs[0] (canN_len xs) (fun i j hi hj=>by rw [canN_len] at hi hj;exact canN_eq _ hi hj)).1
theorem ded_canN (xs:List α):(ded (canN xs)).length=(ded xs).length:=by
 by_cases h0:xs.length=0
 ·have:=List.length_eq_zero_iff.1 h0;subst this;rfl
 ·have hd:0<xs.length:=by omega
  exact (canN_ker (xs:=canN xs) (ys:=xs) 0 xs[0] (canN_len xs) (fun i j hi hj=>by rw [canN_len] at hi hj;exact canN_eq _ hi hj)).2
theorem ded_refine {xs:List α} {ys:List β} (d:α) (e:β) (hl:xs.length=ys.length) (h:∀ i j,i<xs.length→j<xs.length→xs.getD i d=xs.getD j d→ys.getD i e=ys.getD j e) :
  (ded ys).length≤(ded xs).length∧((ded xs).length≤(ded ys).length→∀ i j,i<xs.length→j<xs.length→ys.getD i e=ys.getD j e→xs.getD i d=xs.getD j d):=by
 have hg:∀ i,i<xs.length→ys.getD (posN xs (xs.getD i d)) e=ys.getD i e:=by
  intro i hi
  have hm:=getD_mem (d:=d) hi
  exact h _ _ (posN_lt hm) hi (getD_posN d hm)
 refine ⟨?_,?_⟩
 ·have:(ded ys).length≤((ded xs).map fun a=>ys.getD (posN xs a) e).length:=nodup_sub_len (ded_nodup ys) (fun y hy=>by
   obtain ⟨k,hk,ek⟩:=mem_getD e (ded_mem.1 hy)
   rw [← ek,← hg k (by omega)]
   exact List.mem_map_of_mem (f:=fun a=>ys.getD (posN xs a) e) (ded_mem.2 (getD_mem (d:=d) (by omega))))
  rwa [List.length_map] at this
 ·intro hle i j hi hj hy
  apply Classical.byContradiction
  intro hne
  have hmi:xs.getD i d∈ded xs:=ded_mem.2 (getD_mem hi)
  have hmj:xs.getD j d∈ded xs:=ded_mem.2 (getD_mem hj)
  have:(ded ys).length≤(((ded xs).erase (xs.getD i d)).map fun a=>ys.getD (posN xs a) e).length:=nodup_sub_len (ded_nodup ys) (fun y hy'=>by
   obtain ⟨k,hk,ek⟩:=mem_getD e (ded_mem.1 hy')
   by_cases hki:xs.getD k d=xs.getD i d
   ·have e1:ys.getD k e=ys.getD j e:=(h k i (by omega) hi hki).trans hy
    rw [← ek,e1,← hg j hj]
    exact List.mem_map_of_mem (f:=fun a=>ys.getD (posN xs a) e) ((List.mem_erase_of_ne (fun h=>hne h.symm)).2 hmj)
   ·rw [← ek,← hg k (by omega)]
    exact List.mem_map_of_mem (f:=fun a=>ys.getD (posN xs a) e) ((List.mem_erase_of_ne hki).2 (ded_mem.2 (getD_mem (d:=d) (by omega)))))
  rw [List.length_map,List.length_erase_of_mem hmi] at this
  have:=List.length_pos_of_mem hmi
  omega
end
end Go.Sx
namespace Go.Sx
def EqK (d:Dfa) (k:Nat) (p q:Int):Prop:=∀ l,Okw d l→l.length≤k→finQ d (runI d p l)=finQ d (runI d q l)
def EqS (d:Dfa) (p q:Int):Prop:=∀ l,Okw d l→finQ d (runI d p l)=finQ d (runI d q l)
theorem Okw.nil {d:Dfa}:Okw d []:=rfl
theorem okw_cons {d:Dfa} {c:UInt8} {l:List UInt8}:Okw d (c :: l)↔okB d.L c=true∧Okw d l:=by unfold Okw;rw [List.all_cons,Bool.and_eq_true]
theorem EqS.refl (d:Dfa) (p:Int):EqS d p p:=fun _ _=>rfl
theorem EqS.run {d:Dfa} {p q:Int} (h:EqS d p q) {u:List UInt8} (hu:Okw d u):EqS d (runI d p u) (runI d q u):=fun l hl=>by
 rw [← runI_append,← runI_append];exact h _ (hu.app hl)
theorem EqK.zero {d:Dfa} {p q:Int}:EqK d 0 p q↔finQ d p=finQ d q:=by
 constructor
 ·intro h;exact h [] Okw.nil (Nat.le_refl _)
 ·intro h l _ hl
  have:l=[]:=List.length_eq_zero_iff.1 (by omega)
  subst this;exact h
theorem okB_num {L:Int} {c:UInt8} (h:okB L c=true):(((c.toNat:Int) - 97).toNat:Int)<L:=by
 simp only [okB,decide_eq_true_eq] at h;omega
theorem runI_cons (d:Dfa) (q:Int) (c:UInt8) (l:List UInt8):runI d q (c :: l)=runI d (stepQ d q ((c.toNat:Int) - 97).toNat) l:=rfl
theorem EqK.succ {d:Dfa} (hv:VD d) {k:Nat} {p q:Int}:EqK d (k+1) p q↔finQ d p=finQ d q∧∀ x:Nat,(x:Int)<d.L→EqK d k (stepQ d p x) (stepQ d q x):=by
 have hL:=hv.L
 constructor
 ·intro h
  refine ⟨h [] Okw.nil (Nat.zero_le _),fun x hx l hl hk=>?_⟩
  have:=h (ltr x :: l) (okw_cons.2 ⟨okB_ltr hL hx,hl⟩) (by simp;omega)
  rw [runI_cons,runI_cons,ltr_num (by omega)] at this
  exact this
 ·rintro ⟨h0,h⟩ l hl hk
  cases l with
  | nil=>exact h0
  | cons c l=>
   obtain ⟨h1,h2⟩:=okw_cons.1 hl
   rw [runI_cons,runI_cons]
   exact h _ (okB_num h1) l h2 (by simp at hk;omega)
theorem EqK.mono {d:Dfa} {k m:Nat} (h:k≤m) {p q:Int} (he:EqK d m p q):EqK d k p q:=fun l hl hk=>he l hl (by omega)
theorem EqS.k {d:Dfa} {p q:Int} (h:EqS d p q) (k:Nat):EqK d k p q:=fun l hl _=>h l hl
theorem EqK.succ' {d:Dfa} (hv:VD d) {k:Nat} {p q:Int}:EqK d (k+1) p q↔EqK d k p q∧∀ x:Nat,(x:Int)<d.L→EqK d k (stepQ d p x) (stepQ d q x):=by
 constructor
 ·intro h;exact ⟨h.mono (by omega),((EqK.succ hv).1 h).2⟩
 ·rintro ⟨h1,h2⟩;exact (EqK.succ hv).2 ⟨EqK.zero.1 (h1.mono (Nat.zero_le _)),h2⟩
theorem stepQ_inr {d:Dfa} (hv:VD d) {q:Int} (hq:InR d q) {x:Nat} (hx:(x:Int)<d.L):InR d (stepQ d q x):=by
 have h1:=mem_univ.1 (step_univ hv q (mem_univ.2 hq) x (by omega))
 exact h1
def Stb (d:Dfa) (k:Nat):Prop:=∀ p q,InR d p→InR d q→EqK d k p q→EqK d (k+1) p q
theorem Stb.next {d:Dfa} (hv:VD d) {k:Nat} (h:Stb d k):Stb d (k+1):=fun p q hp hq he=>by
 rw [EqK.succ hv] at he ⊢
 exact ⟨he.1,fun x hx=>h _ _ (stepQ_inr hv hp hx) (stepQ_inr hv hq hx) (he.2 x hx)⟩
theorem Stb.eqs {d:Dfa} (hv:VD d) {k:Nat} (h:Stb d k) {p q:Int} (hp:InR d p) (hq:InR d q) (he:EqK d k p q):EqS d p q:=by
 have key:∀ m,Stb d (k+m)∧EqK d (k+m) p q:=by
  intro m
  induction m with
  | zero=>exact ⟨h,he⟩
  | succ m ih=>exact ⟨ih.1.next hv,ih.1 p q hp hq ih.2⟩
 intro l hl
 exact (key l.length).2 l hl (by omega)
theorem Stb.mono {d:Dfa} (hv:VD d) {k m:Nat} (h:Stb d k) (hm:k≤m):Stb d m:=by
 obtain ⟨j,rfl⟩:∃ j,m=k+j:=⟨m - k,by omega⟩
 clear hm
 induction j with
 | zero=>exact h
 | succ j ih=>exact ih.next hv
def Ker (d:Dfa) (k:Nat) (cs:List Int):Prop:=cs.length=d.fin.length∧∀ i j:Nat,i<d.fin.length→j<d.fin.length→(cs.getD i 0=cs.getD j 0↔EqK d k (i:Int) (j:Int))
def sigQ (d:Dfa) (cs:List Int) (q:Nat):List Int:=cs.getD q 0 :: (d.nx.getD q []).map fun t=>cs.getD t.toNat 0
def sigs (d:Dfa) (cs:List Int):List (List Int):=(List.range d.fin.length).map (sigQ d cs)
theorem sigs_len (d:Dfa) (cs:List Int):(sigs d cs).length=d.fin.length:=by simp [sigs]
theorem sigs_get {d:Dfa} {cs:List Int} {q:Nat} (h:q<d.fin.length):(sigs d cs).getD q []=sigQ d cs q:=by simp [sigs,List.getD_eq_getElem?_getD,h]
def lev (d:Dfa):Nat→List Int
 | 0=>d.fin.map fun b=>if b then 1 else 0
 | k+1=>canN (sigs d (lev d k))
theorem lev_len (d:Dfa):∀ k,(lev d k).length=d.fin.length
 | 0=>by simp [lev]
 | k+1=>by rw [lev,canN_len,sigs_len]
theorem sigQ_eq {d:Dfa} (hv:VD d) {k:Nat} {cs:List Int} (h:Ker d k cs) {i j:Nat} (hi:i<d.fin.length) (hj:j<d.fin.length):sigQ d cs i=sigQ d cs j↔EqK d (k+1) (i:Int) (j:Int):=by
 have hL:=hv.L
 have hn:=hv.nx
 have hri:=hv.row i (by omega)
 have hrj:=hv.row j (by omega)
 rw [EqK.succ' hv]
 unfold sigQ
 rw [List.cons.injEq]
 refine and_congr (h.2 i j hi hj) ?_
 have hs:∀ p:Nat,p<d.fin.length→∀ x:Nat,(x:Int)<d.L→((d.nx.getD p []).map fun t=>cs.getD t.toNat 0).getD x 0=cs.getD (stepQ d (p:Int) x).toNat 0:=by
  intro p hp x hx
  have hr:=hv.row p (by omega)
  have hlt:x<(d.nx.getD p []).length:=by omega
  show _=cs.getD ((d.nx.getD (p:Int).toNat []).getD x 0).toNat 0
  rw [Int.toNat_natCast]
  generalize d.nx.getD p []=r at *
  simp [List.getD_eq_getElem?_getD,hlt]
 have hk:∀ x:Nat,(x:Int)<d.L→(cs.getD (stepQ d (i:Int) x).toNat 0=cs.getD (stepQ d (j:Int) x).toNat 0↔EqK d k (stepQ d (i:Int) x) (stepQ d (j:Int) x)):=by
  intro x hx
  have h1:=stepQ_inr hv (q:=(i:Int)) ⟨by omega,by omega⟩ hx
  have h2:=stepQ_inr hv (q:=(j:Int)) ⟨by omega,by omega⟩ hx
  have:=h.2 (stepQ d (i:Int) x).toNat (stepQ d (j:Int) x).toNat (by have:=h1.1;have:=h1.2;omega) (by have:=h2.1;have:=h2.2;omega)
  rw [Int.toNat_of_nonneg h1.1,Int.toNat_of_nonneg h2.1] at this
  exact this
 constructor
 ·intro he x hx
  rw [← hk x hx,← hs i hi x hx,← hs j hj x hx,he]
 ·intro he
  apply List.ext_getElem
  ·rw [List.length_map,List.length_map];omega
  ·intro x h1 h2
   rw [List.length_map] at h1
   have hx:(x:Int)<d.L:=by omega
   have e1:=hs i hi x hx
   have e2:=hs j hj x hx
   rw [(hk x hx).2 (he x hx),← e2] at e1
   generalize (d.nx.getD i []).map (fun t=>cs.getD t.toNat 0)=u at *
   generalize (d.nx.getD j []).map (fun t=>cs.getD t.toNat 0)=v at *
   simpa [List.getD_eq_getElem?_getD, *] using e1
theorem Ker.next {d:Dfa} (hv:VD d) {k:Nat} {cs:List Int} (h:Ker d k cs):Ker d (k+1) (canN (sigs d cs)):=by
 refine ⟨by rw [canN_len,sigs_len],fun i j hi hj=>?_⟩
 rw [canN_eq [] (by rw [sigs_len];exact hi) (by rw [sigs_len];exact hj),sigs_get hi,sigs_get hj,sigQ_eq hv h hi hj]
theorem finQ_nat {d:Dfa} {i:Nat}:finQ d (i:Int)=d.fin.getD i false:=by simp [finQ]
theorem Ker.zero (d:Dfa):Ker d 0 (lev d 0):=by
 refine ⟨by simp [lev],fun i j hi hj=>?_⟩
 rw [EqK.zero,finQ_nat,finQ_nat]
 simp only [lev,List.getD_eq_getElem?_getD,List.getElem?_map,List.getElem?_eq_getElem hi,List.getElem?_eq_getElem hj,Option.map_some,Option.getD_some]
 cases d.fin[i] <;> cases d.fin[j] <;> simp
theorem lev_ker {d:Dfa} (hv:VD d):∀ k,Ker d k (lev d k)
 | 0=>Ker.zero d
 | k+1=>(lev_ker hv k).next hv
theorem Ker.uniq {d:Dfa} {k m:Nat} {cs ds:List Int} (h:Ker d k cs) (h':Ker d m ds) (he:∀ i j:Nat,i<d.fin.length→j<d.fin.length→(EqK d k (i:Int) (j:Int)↔EqK d m (i:Int) (j:Int))):canN cs=canN ds∧(ded cs).length=(ded ds).length:=
 canN_ker 0 0 (h.1.trans h'.1.symm) (fun i j hi hj=>by rw [h.1] at hi hj;rw [h.2 i j hi hj,h'.2 i j hi hj,he i j hi hj])
theorem Ker.ref {d:Dfa} {k:Nat} {cs ds:List Int} (h:Ker d k cs) (h':Ker d (k+1) ds):(ded cs).length≤(ded ds).length∧((ded ds).length≤(ded cs).length→Stb d k):=by
 have:=ded_refine (xs:=ds) (ys:=cs) 0 0 (h'.1.trans h.1.symm) (fun i j hi hj e=>by
  rw [h'.1] at hi hj
  rw [h.2 i j hi hj]
  exact ((h'.2 i j hi hj).1 e).mono (by omega))
 refine ⟨this.1,fun hle p q hp hq he=>?_⟩
 have hp1:=hp.1;have hp2:=hp.2;have hq1:=hq.1;have hq2:=hq.2
 have e1:((p.toNat:Nat):Int)=p:=by omega
 have e2:((q.toNat:Nat):Int)=q:=by omega
 have h1:=h.2 p.toNat q.toNat (by omega) (by omega)
 have h2:=h'.2 p.toNat q.toNat (by omega) (by omega)
 rw [e1,e2] at h1 h2
 exact h2.1 (this.2 hle p.toNat q.toNat (by rw [h'.1];omega) (by rw [h'.1];omega) (h1.2 he))
theorem stb_states {d:Dfa} (hv:VD d):Stb d (d.fin.length - 1):=by
 have hn:0<d.fin.length:=by have:=hv.s;omega
 have key:∀ k,(∃ j,j<k∧Stb d j)∨k+1≤(ded (lev d k)).length:=by
  intro k
  induction k with
  | zero=>
   right
   have:lev d 0 ≠ []:=by intro h;have:=lev_len d 0;rw [h] at this;simp at this;omega
   obtain ⟨a,ha⟩:=List.exists_mem_of_ne_nil _ this
   have:=List.length_pos_of_mem (ded_mem.2 ha)
   omega
  | succ k ih=>
   rcases ih with ⟨j,hj,h⟩ | h
   ·exact .inl ⟨j,by omega,h⟩
   ·obtain ⟨h1,h2⟩:=(lev_ker hv k).ref (lev_ker hv (k+1))
    by_cases hle:(ded (lev d (k+1))).length≤(ded (lev d k)).length
    ·exact .inl ⟨k,by omega,h2 hle⟩
    ·right;omega
 rcases key d.fin.length with ⟨j,hj,h⟩ | h
 ·exact h.mono hv (by omega)
 ·have:=ded_le (lev d d.fin.length)
  rw [lev_len] at this;omega
def clsD (d:Dfa):List Int:=lev d d.fin.length
def clsA (d:Dfa) (p:Int):Int:=(clsD d).getD p.toNat 0
theorem cls_len (d:Dfa):(clsD d).length=d.fin.length:=lev_len d _
theorem cls_is {d:Dfa} (hv:VD d) {k:Nat} {cs:List Int} (h:Ker d k cs) (hs:Stb d k):canN cs=clsD d∧(ded cs).length=(ded (clsD d)).length:=by
 have hn:0<d.fin.length:=by have:=hv.s;omega
 obtain ⟨m,hm⟩:∃ m,d.fin.length=m+1:=⟨d.fin.length - 1,by omega⟩
 have h0:=h.uniq (lev_ker hv d.fin.length) (fun i j hi hj=>by
  have hi':InR d (i:Int):=⟨by omega,by omega⟩
  have hj':InR d (j:Int):=⟨by omega,by omega⟩
  exact ⟨fun he=>(hs.eqs hv hi' hj' he).k _,fun he=>(((stb_states hv).mono hv (by omega)).eqs hv hi' hj' he).k _⟩)
 have e:canN (lev d d.fin.length)=clsD d:=by unfold clsD;rw [hm,lev,canN_canN]
 rw [e] at h0
 exact h0
theorem cls_can {d:Dfa} (hv:VD d):canN (clsD d)=clsD d:=(cls_is hv (lev_ker hv d.fin.length) ((stb_states hv).mono hv (by omega))).1
theorem cls_eq {d:Dfa} (hv:VD d) {p q:Int} (hp:InR d p) (hq:InR d q):clsA d p=clsA d q↔EqS d p q:=by
 have hp1:=hp.1;have hp2:=hp.2;have hq1:=hq.1;have hq2:=hq.2
 have h:=(lev_ker hv d.fin.length).2 p.toNat q.toNat (by omega) (by omega)
 rw [Int.toNat_of_nonneg hp1,Int.toNat_of_nonneg hq1] at h
 unfold clsA clsD
 rw [h]
 exact ⟨((stb_states hv).mono hv (by omega)).eqs hv hp hq,fun h=>h.k _⟩
theorem cls_bd {d:Dfa} (hv:VD d) {p:Int} (hp:InR d p):0≤clsA d p∧clsA d p<(ded (clsD d)).length:=by
 have hp1:=hp.1;have hp2:=hp.2
 unfold clsA
 rw [← cls_can hv]
 have h:=canN_bd (xs:=clsD d) (i:=p.toNat) (by rw [cls_len];omega)
 rw [ded_canN];exact h
end Go.Sx
namespace Go.Sx
section
variable {α β : Type} [DecidableEq α] [DecidableEq β]
inductive All2 (R:α→β→Prop):List α→List β→Prop
 | nil:All2 R [] []
 | cons {a b xs ys}:R a b→All2 R xs ys→All2 R (a :: xs) (b :: ys)
variable {R : α → β → Prop}
theorem All2.len {xs:List α} {ys:List β} (h:All2 R xs ys):xs.length=ys.length:=by
 induction h with
 | nil=>rfl
 | cons _ _ ih=>simp [ih]
theorem All2.get {xs:List α} {ys:List β} (h:All2 R xs ys) (z:α) (z':β):∀ i,i<xs.length→R (xs.getD i z) (ys.getD i z'):=by
 induction h with
 | nil=>intro i hi;simp at hi
 | cons h1 _ ih=>
  intro i hi
  cases i with
  | zero=>exact h1
  | succ i=>exact ih i (by simpa using hi)
theorem All2.snoc {xs:List α} {ys:List β} (h:All2 R xs ys) {a:α} {b:β} (hab:R a b):All2 R (xs++[a]) (ys++[b]):=by
 induction h with
 | nil=>exact .cons hab .nil
 | cons h1 _ ih=>exact .cons h1 ih
def Inj2 (R:α→β→Prop):Prop:=∀ a b a' b',R a b→R a' b'→(a=a'↔b=b')
theorem All2.pos (hR:Inj2 R) {xs:List α} {ys:List β} (h:All2 R xs ys) {a:α} {b:β} (hab:R a b):posN xs a=posN ys b∧(a∈xs↔b∈ys):=by
 induction h with
 | nil=>simp [posN]
 | @cons c d xs ys h1 _ ih=>
  have e:=hR _ _ _ _ hab h1
  constructor
  ·unfold posN
   by_cases hc:a=c
   ·rw [if_pos hc,if_pos (e.1 hc)]
   ·rw [if_neg hc,if_neg (fun h=>hc (e.2 h)),ih.1]
  ·rw [List.mem_cons,List.mem_cons,e,ih.2]
theorem All2.ins (hR:Inj2 R) {xs:List α} {ys:List β} (h:All2 R xs ys) {a:α} {b:β} (hab:R a b):All2 R (insN xs a) (insN ys b):=by
 unfold insN
 have:=(h.pos hR hab).2
 by_cases hm:a∈xs
 ·rw [if_pos hm,if_pos (this.1 hm)];exact h
 ·rw [if_neg hm,if_neg (fun h=>hm (this.2 h))];exact h.snoc hab
theorem all2_exR (hR:Inj2 R) {f:α→Nat→α} {g:β→Nat→β} {p:α} {q:β} {L:Nat} (hf:∀ x,x<L→R (f p x) (g q x)) {xs:List α} {ys:List β} (h:All2 R xs ys):∀ k,k≤L→All2 R (exR f p xs k) (exR g q ys k)
 | 0,_=>h
 | k+1,hk=>(all2_exR hR hf h k (by omega)).ins hR (hf k (by omega))
theorem all2_exI (hR:Inj2 R) {f:α→Nat→α} {g:β→Nat→β} {L:Nat} {s z:α} {t y:β} (hs:R s t) (hf:∀ p q x,x<L→R p q→R (f p x) (g q x)):∀ i,All2 R (exI f L s z i) (exI g L t y i)
 | 0=>.cons hs .nil
 | i+1=>by
  have ih:=all2_exI hR hs hf i (z:=z) (y:=y)
  by_cases hi:i<(exI f L s z i).length
  ·rw [exI_next hi,exI_next (by rw [← ih.len];exact hi)]
   have h1:=ih.get z y i hi
   exact all2_exR hR (fun x hx=>hf _ _ x hx h1) ih L (Nat.le_refl _)
  ·have hj:¬ i<(exI g L t y i).length:=by rw [← ih.len];exact hi
   have e1:=exI_stop (f:=f) (L:=L) (s:=s) (z:=z) (n:=i) (by omega) 1
   have e2:=exI_stop (f:=g) (L:=L) (s:=t) (z:=y) (n:=i) (by omega) 1
   rw [e1,e2];exact ih
end
theorem trim_of_rel {a b:Dfa} (ha:VD a) (hb:VD b) (hL:a.L=b.L) (R:Int→Int→Prop) (hR:Inj2 R) (hs:R a.s b.s) (hf:∀ p q (x:Nat),(x:Int)<a.L→R p q→R (stepQ a p x) (stepQ b q x)) (hg:∀ p q,R p q→finQ a p=finQ b q) :
  trimD a=trimD b∧All2 R (TSt a) (TSt b):=by
 have hLa:=ha.L
 have h2:∀ i,All2 R (exI (stepQ a) a.L.toNat a.s 0 i) (exI (stepQ b) b.L.toNat b.s 0 i):=by
  rw [← hL]
  exact all2_exI hR hs (fun p q x hx h=>hf p q x (by omega) h)
 obtain ⟨e1,e2,_⟩:=tst_fix ha
 have e3:(TSt a).length=(exI (stepQ b) b.L.toNat b.s 0 (TSt a).length).length:=e1.trans (h2 _).len
 obtain ⟨e4,_⟩:=exI_final (start_univ hb) (step_univ hb) e3
 have e5:TSt b=exI (stepQ b) b.L.toNat b.s 0 (TSt a).length:=by
  rw [univ_len] at e4;exact e4
 have hT:All2 R (TSt a) (TSt b):=by
  have:=h2 (TSt a).length
  rw [e2,← e5] at this;exact this
 refine ⟨?_,hT⟩
 have gen:∀ (xs ys:List Int),All2 R xs ys→(∀ p∈xs,p∈TSt a) →
   xs.map (finQ a)=ys.map (finQ b)∧(xs.map fun q=>(List.range a.L.toNat).map fun x=>((posN (TSt a) (stepQ a q x):Nat):Int))=ys.map fun q=>(List.range b.L.toNat).map fun x=>((posN (TSt b) (stepQ b q x):Nat):Int):=by
  intro xs ys h
  induction h with
  | nil=>intro _;exact ⟨rfl,rfl⟩
  | @cons p q xs ys h1 _ ih=>
   intro hm
   obtain ⟨i1,i2⟩:=ih (fun p hp=>hm p (List.mem_cons_of_mem _ hp))
   constructor
   ·rw [List.map_cons,List.map_cons,i1,hg p q h1]
   ·rw [List.map_cons,List.map_cons,i2]
    congr 1
    rw [← hL]
    apply List.map_congr_left
    intro x hx
    rw [List.mem_range] at hx
    rw [(hT.pos hR (hf p q x (by omega) h1)).1]
 obtain ⟨g1,g2⟩:=gen _ _ hT (fun p hp=>hp)
 unfold trimD
 rw [g1,g2,hL]
def Rdc (d:Dfa):Prop:=∀ u v,Okw d u→Okw d v→EqS d (runI d d.s u) (runI d d.s v)→runI d d.s u=runI d d.s v
theorem okw_L {a b:Dfa} (h:a.L=b.L) {l:List UInt8}:Okw a l↔Okw b l:=by unfold Okw;rw [h]
def Lng (a b:Dfa):Prop:=∀ l,Okw a l→finQ a (runI a a.s l)=finQ b (runI b b.s l)
theorem Lng.symm {a b:Dfa} (hL:a.L=b.L) (h:Lng a b):Lng b a:=fun l hl=>(h l ((okw_L hL).2 hl)).symm
theorem Lng.trans {a b c:Dfa} (hL:a.L=b.L) (h:Lng a b) (k:Lng b c):Lng a c:=fun l hl=>(h l hl).trans (k l ((okw_L hL).1 hl))
theorem runI_snoc1 (d:Dfa) (q:Int) (l:List UInt8) {x:Nat} (hx:x<128):runI d q (l++[ltr x])=stepQ d (runI d q l) x:=by
 rw [runI_append]
 show stepI d (runI d q l) (ltr x)=_
 exact stepI_ltr hx
theorem okw_snoc {d:Dfa} (hv:VD d) {l:List UInt8} (hl:Okw d l) {x:Nat} (hx:(x:Int)<d.L):Okw d (l++[ltr x]):=hl.app (okw_cons.2 ⟨okB_ltr hv.L hx,Okw.nil⟩)
theorem lng_eqs {a b:Dfa} (hL:a.L=b.L) (h:Lng a b) {u v:List UInt8} (hu:Okw a u) (hv:Okw a v):EqS a (runI a a.s u) (runI a a.s v)↔EqS b (runI b b.s u) (runI b b.s v):=by
 constructor
 ·intro he l hl
  have hl':=(okw_L hL).2 hl
  rw [← runI_append,← runI_append,← h _ (hu.app hl'),← h _ (hv.app hl'),runI_append,runI_append]
  exact he l hl'
 ·intro he l hl
  have hl':=(okw_L hL).1 hl
  rw [← runI_append,← runI_append,h _ (hu.app hl),h _ (hv.app hl),runI_append,runI_append]
  exact he l hl'
theorem trim_unique {a b:Dfa} (ha:VD a) (hb:VD b) (hL:a.L=b.L) (hlang:Lng a b) (hra:Rdc a) (hrb:Rdc b):trimD a=trimD b:=by
 have hLa:=ha.L
 refine (trim_of_rel ha hb hL (fun p q=>∃ l,Okw a l∧runI a a.s l=p∧runI b b.s l=q) ?_ ⟨[],Okw.nil,rfl,rfl⟩ ?_ ?_).1
 ·rintro p q p' q' ⟨u,hu,rfl,rfl⟩ ⟨v,hv,rfl,rfl⟩
  constructor
  ·intro e
   refine hrb u v ((okw_L hL).1 hu) ((okw_L hL).1 hv) ((lng_eqs hL hlang hu hv).1 ?_)
   rw [e];exact EqS.refl _ _
  ·intro e
   refine hra u v hu hv ((lng_eqs hL hlang hu hv).2 ?_)
   rw [e];exact EqS.refl _ _
 ·rintro p q x hx ⟨u,hu,rfl,rfl⟩
  exact ⟨u++[ltr x],okw_snoc ha hu hx,runI_snoc1 _ _ _ (by omega),runI_snoc1 _ _ _ (by omega)⟩
 ·rintro p q ⟨u,hu,rfl,rfl⟩
  exact hlang u hu
theorem tst_in {d:Dfa} (hv:VD d) {p:Int} (hp:p∈TSt d):InR d p:=(TSt_ok hv).2.1 p hp
theorem trim_step {d:Dfa} (hv:VD d) {p:Int} (hp:p∈TSt d) {x:Nat} (hx:(x:Int)<d.L):stepQ (trimD d) ((posN (TSt d) p:Nat):Int) x=((posN (TSt d) (stepQ d p x):Nat):Int):=by
 have hL:=hv.L
 have h1:=posN_lt hp
 have e:=getD_posN 0 hp
 have hlt:x<d.L.toNat:=by omega
 unfold stepQ trimD
 rw [Int.toNat_natCast]
 simp only [List.getD_eq_getElem?_getD,List.getElem?_map,List.getElem?_eq_getElem h1,Option.map_some,Option.getD_some,List.getElem?_range hlt]
 rw [List.getD_eq_getElem?_getD,List.getElem?_eq_getElem h1,Option.getD_some] at e
 rw [e];rfl
theorem trim_finQ {d:Dfa} (hv:VD d) {p:Int} (hp:p∈TSt d):finQ (trimD d) ((posN (TSt d) p:Nat):Int)=finQ d p:=by
 have h1:=posN_lt hp
 have e:=getD_posN 0 hp
 unfold finQ trimD
 rw [Int.toNat_natCast]
 simp only [List.getD_eq_getElem?_getD,List.getElem?_map,List.getElem?_eq_getElem h1,Option.map_some,Option.getD_some]
 rw [List.getD_eq_getElem?_getD,List.getElem?_eq_getElem h1,Option.getD_some] at e
 rw [e];simp [finQ,List.getD_eq_getElem?_getD]
theorem trim_runI {d:Dfa} (hv:VD d):∀ {l:List UInt8} {p:Int},p∈TSt d→Okw d l→runI (trimD d) ((posN (TSt d) p:Nat):Int) l=((posN (TSt d) (runI d p l):Nat):Int)∧runI d p l∈TSt d
 | [],p,hp,_=>⟨rfl,hp⟩
 | c :: l,p,hp,h=>by
  obtain ⟨h1,h2⟩:=okw_cons.1 h
  have hx:=okB_num h1
  have hL:=hv.L
  have hm:=TSt_closed hv hp (x:=((c.toNat:Int) - 97).toNat) (by omega)
  rw [runI_cons,runI_cons,trim_step hv hp hx]
  exact trim_runI hv (l:=l) hm h2
theorem trim_start {d:Dfa} (hv:VD d):(trimD d).s=((posN (TSt d) d.s:Nat):Int):=by rw [(tst_start hv).2];rfl
theorem trim_lng {d:Dfa} (hv:VD d):Lng (trimD d) d:=fun l hl=>by
 have hl':Okw d l:=hl
 obtain ⟨h1,h2⟩:=trim_runI hv (tst_start hv).1 hl'
 rw [trim_start hv,h1,trim_finQ hv h2]
theorem trim_reach {d:Dfa} (hv:VD d) {q:Int} (hq:InR (trimD d) q):∃ l,Okw d l∧runI (trimD d) 0 l=q∧l.length≤512:=by
 have h1:=hq.1;have h2:=hq.2
 have hl:(trimD d).fin.length=(TSt d).length:=by simp [trimD]
 rw [hl] at h2
 have hi:q.toNat<(TSt d).length:=by omega
 obtain ⟨h3,h4⟩:=two_ok hv hi
 have ho:Okw d ((TWo d).getD q.toNat []):=by unfold validW at h3;rw [Bool.and_eq_true] at h3;exact h3.2
 obtain ⟨h5,_⟩:=trim_runI hv (tst_start hv).1 ho
 have e0:((posN (TSt d) d.s:Nat):Int)=0:=by rw [(tst_start hv).2];rfl
 refine ⟨_,ho,?_,?_⟩
 ·rw [← e0,h5,h4,posN_at 0 (TSt_ok hv).1 hi];omega
 ·obtain ⟨_,_,g3⟩:=tst_fix hv
  have:=exIw_wd' (f:=stepQ d) (L:=d.L.toNat) (s:=d.s) (z:=0) (TSt d).length _ (by rw [g3];exact getD_mem (d:=[]) (xs:=TWo d) (k:=q.toNat) (by rw [two_len hv];exact hi))
  have hb:=(TSt_ok hv).2.2.1
  have hn:=hv.n
  omega
end Go.Sx
namespace Go.Sx
def fstK (cs:List Int):Nat→List Nat
 | 0=>[]
 | k+1=>if cs.getD k 0<(fstK cs k).length then fstK cs k else fstK cs k++[k]
theorem can_at {cs:List Int} (h:canN cs=cs) {k:Nat} (hk:k<cs.length):cs.getD k 0=((posN (ded (cs.take k)) (cs.getD k 0):Nat):Int):=by
 have h1:(canN (cs.take (k+1))).getD k 0=((posN (ded (cs.take k)) (cs.getD k 0):Nat):Int):=by
  have hl:(canN (cs.take k)).length=k:=by rw [canN_len,List.length_take];omega
  rw [canN_take 0 hk]
  simp [List.getD_eq_getElem?_getD,hl]
 have h2:canN (cs.take (k+1))=(canN cs).take (k+1):=by
  have hpre:∀ (xs ys:List Int),canN xs=(canN (xs++ys)).take xs.length:=by
   intro xs ys
   unfold canN
   rw [List.map_append,List.take_left' (by simp)]
   apply List.map_congr_left
   intro y hy
   have:∃ zs,ded (xs++ys)=ded xs++zs:=by
    unfold ded
    rw [List.foldl_append]
    generalize xs.foldl insN []=acc
    induction ys generalizing acc with
    | nil=>exact ⟨[],by simp⟩
    | cons y ys ih=>
     obtain ⟨zs,e⟩:=ih (insN acc y)
     obtain ⟨zs',e'⟩:=insN_pre acc y
     exact ⟨zs'++zs,by rw [List.foldl_cons,e,e',List.append_assoc]⟩
   obtain ⟨zs,e⟩:=this
   rw [e,posN_append zs (ded_mem.2 hy)]
  have:=hpre (cs.take (k+1)) (cs.drop (k+1))
  rw [List.take_append_drop,List.length_take,Nat.min_eq_left (by omega)] at this
  exact this
 rw [h2,h,getD_take' 0 (by omega)] at h1
 exact h1
theorem fstK_ok {cs:List Int} (h:canN cs=cs):∀ k,k≤cs.length→(fstK cs k).length=(ded (cs.take k)).length∧(∀ c,c<(fstK cs k).length→(fstK cs k).getD c 0<k∧cs.getD ((fstK cs k).getD c 0) 0=(c:Int))
 | 0,_=>⟨rfl,fun c hc=>by simp [fstK] at hc⟩
 | k+1,hk=>by
  obtain ⟨h1,h2⟩:=fstK_ok h k (by omega)
  have ha:=can_at h (k:=k) (by omega)
  rw [ded_take 0 (by omega)]
  unfold fstK insN
  by_cases hm:cs.getD k 0∈ded (cs.take k)
  ·have:=posN_lt hm
   rw [if_pos (by omega),if_pos hm]
   exact ⟨h1,fun c hc=>⟨by have:=(h2 c hc).1;omega,(h2 c hc).2⟩⟩
  ·have hp:=posN_not hm
   rw [if_neg (by omega),if_neg hm]
   refine ⟨by simp [h1],fun c hc=>?_⟩
   rw [List.length_append,List.length_cons,List.length_nil] at hc
   by_cases hc':c<(fstK cs k).length
   ·have e:(fstK cs k++[k]).getD c 0=(fstK cs k).getD c 0:=getD_app 0 hc'
    rw [e]
    exact ⟨by have:=(h2 c hc').1;omega,(h2 c hc').2⟩
   ·have e:c=(fstK cs k).length:=by omega
    have e2:(fstK cs k++[k]).getD c 0=k:=by rw [e];simp [List.getD_eq_getElem?_getD]
    rw [e2]
    exact ⟨by omega,by omega⟩
theorem fstK_le {cs:List Int} (h:canN cs=cs) {k:Nat} (hk:k<cs.length):cs.getD k 0≤(fstK cs k).length∧0≤cs.getD k 0:=by
 have ha:=can_at h hk
 have h1:=(fstK_ok h k (by omega)).1
 have:=posN_le (ded (cs.take k)) (cs.getD k 0)
 omega
theorem fstK_skip {cs:List Int} {k:Nat} (h:cs.getD k 0<(fstK cs k).length):fstK cs (k+1)=fstK cs k:=if_pos h
theorem fstK_new {cs:List Int} {k:Nat} (h:¬ cs.getD k 0<(fstK cs k).length):fstK cs (k+1)=fstK cs k++[k]:=if_neg h
theorem fstK_bd (cs:List Int):∀ k,(fstK cs k).length≤k
 | 0=>Nat.le_refl _
 | k+1=>by
  have:=fstK_bd cs k
  unfold fstK
  split
  ·omega
  ·rw [List.length_append];simp;omega
def firsts (d:Dfa):List Nat:=fstK (clsD d) d.fin.length
def rowC (d:Dfa) (q:Nat):List Int:=(d.nx.getD q []).map (clsA d)
def quoD (d:Dfa):Dfa:=⟨d.L,clsA d d.s,(firsts d).map fun q=>d.fin.getD q false,(firsts d).map (rowC d)⟩
theorem firsts_ok {d:Dfa} (hv:VD d):(firsts d).length=(ded (clsD d)).length∧(firsts d).length≤d.fin.length∧∀ c,c<(firsts d).length→(firsts d).getD c 0<d.fin.length∧clsA d (((firsts d).getD c 0:Nat):Int)=(c:Int):=by
 have h:=fstK_ok (cls_can hv) (clsD d).length (Nat.le_refl _)
 rw [List.take_length,cls_len] at h
 exact ⟨h.1,fstK_bd _ _,fun c hc=>⟨(h.2 c hc).1,by unfold clsA;rw [Int.toNat_natCast];exact (h.2 c hc).2⟩⟩
theorem cls_first {d:Dfa} (hv:VD d) {p:Int} (hp:InR d p):(clsA d p).toNat<(firsts d).length∧0≤clsA d p∧InR d (((firsts d).getD (clsA d p).toNat 0:Nat):Int)∧EqS d (((firsts d).getD (clsA d p).toNat 0:Nat):Int) p:=by
 obtain ⟨h1,h2⟩:=cls_bd hv hp
 obtain ⟨h3,h4,h5⟩:=firsts_ok hv
 have hlt:(clsA d p).toNat<(firsts d).length:=by omega
 obtain ⟨h6,h7⟩:=h5 _ hlt
 have hin:InR d (((firsts d).getD (clsA d p).toNat 0:Nat):Int):=⟨by omega,by omega⟩
 exact ⟨hlt,h1,hin,(cls_eq hv hin hp).1 (by rw [h7];omega)⟩
theorem quo_n (d:Dfa):(quoD d).fin.length=(firsts d).length∧(quoD d).nx.length=(firsts d).length:=by simp [quoD]
theorem rowC_get {d:Dfa} (hv:VD d) {q:Nat} (hq:q<d.fin.length) {x:Nat} (hx:(x:Int)<d.L):(rowC d q).getD x 0=clsA d (stepQ d (q:Int) x):=by
 have hr:=hv.row q hq
 have hlt:x<(d.nx.getD q []).length:=by omega
 unfold rowC stepQ
 rw [Int.toNat_natCast]
 generalize d.nx.getD q []=r at *
 simp [List.getD_eq_getElem?_getD,hlt]
theorem quo_row {d:Dfa} {c:Nat} (hc:c<(firsts d).length):(quoD d).nx.getD c []=rowC d ((firsts d).getD c 0):=by
 simp [quoD,List.getD_eq_getElem?_getD,hc]
theorem quo_vd {d:Dfa} (hv:VD d):VD (quoD d):=by
 obtain ⟨h3,h4,h5⟩:=firsts_ok hv
 obtain ⟨n1,n2⟩:=quo_n d
 have hs:=cls_first hv (p:=d.s) hv.s
 have hrl:∀ i,i<(firsts d).length→((rowC d ((firsts d).getD i 0)).length:Int)=d.L:=fun i hi=>by
  unfold rowC;rw [List.length_map];exact hv.row _ (h5 i hi).1
 refine ⟨hv.L,by rw [n1];have:=hv.n;omega,by rw [n1,n2],⟨hs.2.1,by rw [n1];have:=hs.1;have:=hs.2.1;show clsA d d.s<_;omega⟩,?_,?_⟩
 ·intro i hi
  rw [n1] at hi
  rw [quo_row hi];exact hrl i hi
 ·intro i x hi hx
  rw [n1] at hi
  rw [quo_row hi] at hx ⊢
  have hr:=hrl i hi
  have hx':(x:Int)<d.L:=by omega
  rw [rowC_get hv (h5 i hi).1 hx',n1]
  have:=cls_first hv (stepQ_inr hv (q:=(((firsts d).getD i 0:Nat):Int)) ⟨by omega,by have:=(h5 i hi).1;omega⟩ hx')
  have h1:=this.1;have h2:=this.2.1
  omega
theorem EqS.step {d:Dfa} (hv:VD d) {p q:Int} (h:EqS d p q) {x:Nat} (hx:(x:Int)<d.L):EqS d (stepQ d p x) (stepQ d q x):=by
 have hL:=hv.L
 have h1:=h.run (u:=[ltr x]) (okw_cons.2 ⟨okB_ltr hL hx,Okw.nil⟩)
 have e:∀ r,runI d r [ltr x]=stepQ d r x:=fun r=>by
  show stepI d r (ltr x)=_
  exact stepI_ltr (by omega)
 rw [e,e] at h1;exact h1
theorem quo_step {d:Dfa} (hv:VD d) {p:Int} (hp:InR d p) {x:Nat} (hx:(x:Int)<d.L):stepQ (quoD d) (clsA d p) x=clsA d (stepQ d p x):=by
 obtain ⟨h1,h2,h3,h4⟩:=cls_first hv hp
 show ((quoD d).nx.getD (clsA d p).toNat []).getD x 0=_
 have hlt:(firsts d).getD (clsA d p).toNat 0<d.fin.length:=by have:=h3.2;omega
 rw [quo_row h1,rowC_get hv hlt hx]
 exact (cls_eq hv (stepQ_inr hv h3 hx) (stepQ_inr hv hp hx)).2 (h4.step hv hx)
theorem quo_fin {d:Dfa} (hv:VD d) {p:Int} (hp:InR d p):finQ (quoD d) (clsA d p)=finQ d p:=by
 obtain ⟨h1,h2,h3,h4⟩:=cls_first hv hp
 have h5:finQ d (((firsts d).getD (clsA d p).toNat 0:Nat):Int)=finQ d p:=h4 [] Okw.nil
 rw [← h5]
 show (quoD d).fin.getD (clsA d p).toNat false=finQ d _
 unfold finQ quoD
 rw [Int.toNat_natCast]
 simp [List.getD_eq_getElem?_getD,h1]
theorem quo_run {d:Dfa} (hv:VD d):∀ {l:List UInt8} {p:Int},InR d p→Okw d l→runI (quoD d) (clsA d p) l=clsA d (runI d p l)
 | [],p,hp,_=>rfl
 | c :: l,p,hp,h=>by
  obtain ⟨h1,h2⟩:=okw_cons.1 h
  have hx:=okB_num h1
  rw [runI_cons,runI_cons,quo_step hv hp hx]
  exact quo_run hv (stepQ_inr hv hp hx) h2
theorem quo_lng {d:Dfa} (hv:VD d):Lng (quoD d) d:=fun l hl=>by
 have hl':Okw d l:=hl
 show finQ (quoD d) (runI (quoD d) (clsA d d.s) l)=_
 rw [quo_run hv hv.s hl',quo_fin hv (runI_inr hv l d.s hv.s hl')]
theorem Rdc.of_lng {a b:Dfa} (hL:a.L=b.L) (h:Lng a b) (hb:∀ u v,Okw a u→Okw a v→EqS b (runI b b.s u) (runI b b.s v)→runI a a.s u=runI a a.s v):Rdc a:=fun u v hu hv he=>hb u v hu hv ((lng_eqs hL h hu hv).1 he)
theorem quo_rdc {d:Dfa} (hv:VD d):Rdc (quoD d):=Rdc.of_lng (a:=quoD d) (b:=d) rfl (quo_lng hv) (fun u v hu hv' he=>by
 show runI (quoD d) (clsA d d.s) u=runI (quoD d) (clsA d d.s) v
 have hu':Okw d u:=hu
 have hv'':Okw d v:=hv'
 rw [quo_run hv hv.s hu',quo_run hv hv.s hv'']
 exact (cls_eq hv (runI_inr hv u d.s hv.s hu') (runI_inr hv v d.s hv.s hv'')).2 he)
def minD (d:Dfa):Dfa:=trimD (quoD d)
def MinV (d:Dfa):Dfa:=if VD d then minD d else nilD
theorem min_vd {d:Dfa} (hv:VD d):VD (minD d):=trim_vd (quo_vd hv)
theorem min_lng {d:Dfa} (hv:VD d):Lng (minD d) d:=(trim_lng (quo_vd hv)).trans (b:=quoD d) rfl (quo_lng hv)
theorem min_of {m d:Dfa} (hm:VD m) (hv:VD d) (hL:m.L=d.L) (h:Lng m d) (hr:Rdc m):trimD m=minD d:=
 trim_unique hm (quo_vd hv) hL (h.trans hL (Lng.symm (a:=quoD d) rfl (quo_lng hv))) hr (quo_rdc hv)
theorem min_eq {a b:Dfa} (ha:VD a) (hb:VD b) (hL:a.L=b.L) (h:Lng a b):minD a=minD b:=
 min_of (quo_vd ha) hb hL ((quo_lng ha).trans (b:=a) rfl h) (quo_rdc ha)
theorem min_trim {d:Dfa} (hv:VD d):trimD (quoD (trimD d))=minD d:=min_eq (trim_vd hv) hv rfl (trim_lng hv)
end Go.Sx
namespace Go.Sx
section
variable {α : Type} [DecidableEq α]
variable {f : α → Nat → α} {L : Nat} {s z : α} {U : List α} {wd : α → Bool}
end
end Go.Sx
namespace Go.Sx
def mapM (d:Dfa):List Int:=(List.range d.fin.length).map fun (q:Nat)=>if (q:Int)∈TSt d then ((posN (TSt (quoD (trimD d))) (clsA (trimD d) ((posN (TSt d) (q:Int):Nat):Int)):Nat):Int) else -1
theorem mapM_get {d:Dfa} {q:Int} (h:InR d q):(mapM d).getD q.toNat 0=if q∈TSt d then ((posN (TSt (quoD (trimD d))) (clsA (trimD d) ((posN (TSt d) q:Nat):Int)):Nat):Int) else -1:=by
 have h1:=h.1;have h2:=h.2
 have:q.toNat<d.fin.length:=by omega
 have e:((q.toNat:Nat):Int)=q:=by omega
 simp [mapM,List.getD_eq_getElem?_getD,this,e]
theorem pos_inr {d:Dfa} {q:Int} (h:q∈TSt d):InR (trimD d) ((posN (TSt d) q:Nat):Int):=by
 have:=posN_lt h
 refine ⟨by omega,?_⟩
 have:(trimD d).fin.length=(TSt d).length:=by simp [trimD]
 omega
theorem quo_reach {d:Dfa} (hv:VD d) {i:Int} (hi:InR (trimD d) i):clsA (trimD d) i∈TSt (quoD (trimD d)):=by
 obtain ⟨l,h1,h2,_⟩:=trim_reach hv hi
 have ht:=trim_vd hv
 have hq:=quo_vd ht
 have hl:Okw (trimD d) l:=h1
 have h3:=quo_run ht (p:=(trimD d).s) ht.s hl
 have h4:=(trim_runI hq (l:=l) (tst_start hq).1 hl).2
 have e:runI (trimD d) (trimD d).s l=i:=h2
 have h5:runI (quoD (trimD d)) (clsA (trimD d) (trimD d).s) l∈TSt (quoD (trimD d)):=h4
 rw [h3,e] at h5
 exact h5
end Go.Sx
namespace Go.Sx
instance (d:Dfa) (p:Int):Decidable (InR d p):=inferInstanceAs (Decidable (_∧_))
end Go.Sx
namespace Go.Sx
section
variable {α : Type} [DecidableEq α]
theorem numM_len (xs:List α):(numM xs).length=xs.length:=by simp [numM]
theorem num_new {xs:List α} {x:α} (h:(mget (numM xs) x).isSome=false):x ∉ xs∧((numM xs).length:Int)=((posN xs x:Nat):Int):=by
 have hx:x ∉ xs:=by
  rw [mget_numM] at h;intro hm;rw [if_pos hm] at h;cases h
 exact ⟨hx,by rw [numM_len,posN_not hx]⟩
theorem num_old {xs:List α} {x:α} (h:(mget (numM xs) x).isSome=true):x∈xs∧(mget (numM xs) x).getD 0=((posN xs x:Nat):Int):=by
 rw [mget_numM] at h ⊢
 by_cases hm:x∈xs
 ·rw [if_pos hm];exact ⟨hm,rfl⟩
 ·rw [if_neg hm] at h;cases h
theorem ded_new {xs:List α} (d:α) {k:Nat} (hk:k<xs.length) (h:xs.getD k d ∉ ded (xs.take k)):mset (numM (ded (xs.take k))) (xs.getD k d) ((numM (ded (xs.take k))).length:Int)=numM (ded (xs.take (k+1))):=by
 rw [ded_take d hk,show insN (ded (xs.take k)) (xs.getD k d)=ded (xs.take k)++[xs.getD k d] from if_neg h,numM_len,mset_numM h]
theorem ded_old {xs:List α} (d:α) {k:Nat} (hk:k<xs.length) (h:xs.getD k d∈ded (xs.take k)):ded (xs.take (k+1))=ded (xs.take k):=by
 rw [ded_take d hk,show insN (ded (xs.take k)) (xs.getD k d)=ded (xs.take k) from if_pos h]
theorem can_fill {xs:List α} (d:α) {k n:Nat} (hn:xs.length=n) (hk:k<n) {c:Int} (hc:c=((posN (ded (xs.take k)) (xs.getD k d):Nat):Int)) :
  ((canN (xs.take k)++List.replicate (n - k) 0).map (Value.int .i64)).set k (.int .i64 c)=(canN (xs.take (k+1))++List.replicate (n - (k+1)) 0).map (Value.int .i64):=by
 rw [canN_take d (by omega),← hc]
 exact fill_set (Value.int .i64) _ 0 _ n k (by rw [canN_len,List.length_take];omega) hk
end
def pad7 (l:List Int):List Int:=(l++List.replicate 7 0).take 7
theorem pad7_len (l:List Int):(pad7 l).length=7:=by simp [pad7]
theorem pad7_eq {l:List Int} (h:l.length≤7):pad7 l=l++List.replicate (7 - l.length) 0:=by
 unfold pad7
 rw [List.take_append,List.take_of_length_le h,List.take_replicate,Nat.min_eq_left (by omega)]
theorem pad_store {A:List Int} {c:Int} {k:Nat} (hk:A.length=k) (h7:k<7) :
  ((pad7 A).map (Value.int .i64)).take k++[Value.int .i64 c]++((pad7 A).map (Value.int .i64)).drop (k+1)=(pad7 (A++[c])).map (Value.int .i64):=by
 rw [pad7_eq (by omega),pad7_eq (by rw [List.length_append];simp;omega),hk,List.length_append,hk]
 obtain ⟨m,hm⟩:∃ m,7 - k=m+1:=⟨6 - k,by omega⟩
 have e:7 - (k+[c].length)=m:=by simp;omega
 rw [e,hm,← List.map_take,← List.map_drop]
 have h1:(A++List.replicate (m+1) (0:Int)).take k=A:=by rw [List.take_append_of_le_length (by omega),List.take_of_length_le (by omega)]
 have h2:(A++List.replicate (m+1) (0:Int)).drop (k+1)=List.replicate m 0:=by
  rw [List.drop_append,List.drop_of_length_le (by omega),hk,show k+1 - k=1 by omega,List.replicate_succ];rfl
 rw [h1,h2]
 simp
theorem pad7_inj {l m:List Int} (hl:l.length=m.length) (h7:l.length≤7):pad7 l=pad7 m↔l=m:=by
 constructor
 ·intro h
  rw [pad7_eq h7,pad7_eq (by omega)] at h
  exact (List.append_inj h hl).1
 ·intro h;rw [h]
def sg7 (d:Dfa) (cs:List Int) (q:Nat):Tup 7:=⟨pad7 (sigQ d cs q),pad7_len _⟩
def sgs7 (d:Dfa) (cs:List Int):List (Tup 7):=(List.range d.fin.length).map (sg7 d cs)
def zero7:Tup 7:=⟨pad7 [],pad7_len _⟩
theorem sgs7_len (d:Dfa) (cs:List Int):(sgs7 d cs).length=d.fin.length:=by simp [sgs7]
theorem sgs7_get {d:Dfa} {cs:List Int} {q:Nat} (h:q<d.fin.length):(sgs7 d cs).getD q zero7=sg7 d cs q:=by simp [sgs7,List.getD_eq_getElem?_getD,h]
theorem sigQ_len {d:Dfa} (hv:VD d) (cs:List Int) {q:Nat} (h:q<d.fin.length):((sigQ d cs q).length:Int)=d.L+1:=by
 have:=hv.row q h
 unfold sigQ;rw [List.length_cons,List.length_map];omega
theorem sgs7_can {d:Dfa} (hv:VD d) (cs:List Int):canN (sgs7 d cs)=canN (sigs d cs)∧(ded (sgs7 d cs)).length=(ded (sigs d cs)).length:=by
 refine canN_ker zero7 [] (by rw [sgs7_len,sigs_len]) (fun i j hi hj=>?_)
 rw [sgs7_len] at hi hj
 rw [sgs7_get hi,sgs7_get hj,sigs_get hi,sigs_get hj]
 have h1:=sigQ_len hv cs hi
 have h2:=sigQ_len hv cs hj
 have hL:=hv.L
 unfold sg7
 constructor
 ·intro h;exact (pad7_inj (by omega) (by omega)).1 (congrArg Subtype.val h)
 ·intro h;exact Subtype.ext ((pad7_inj (by omega) (by omega)).2 h)
theorem sigQ_take {d:Dfa} {cs:List Int} {q j:Nat} (hj:j<(d.nx.getD q []).length):(sigQ d cs q).take (j+2)=(sigQ d cs q).take (j+1)++[cs.getD ((d.nx.getD q []).getD j 0).toNat 0]:=by
 unfold sigQ
 rw [List.take_succ_cons,List.take_succ_cons,List.cons_append]
 congr 1
 rw [take_snocD 0 _ j (by rw [List.length_map];exact hj)]
 congr 2
 generalize d.nx.getD q []=r at *
 simp [List.getD_eq_getElem?_getD,hj]
theorem cls_stop {d:Dfa} (hv:VD d) {k:Nat} {cs:List Int} (h:Ker d k cs) (he:(ded (sigs d cs)).length=(ded cs).length):canN (sigs d cs)=clsD d:=by
 have h1:=h.next hv
 have h2:Stb d k:=(h.ref h1).2 (by rw [ded_canN];omega)
 have h3:=(cls_is hv h1 (h2.next hv)).1
 rw [canN_canN] at h3;exact h3
theorem cls_more {d:Dfa} (hv:VD d) {k:Nat} {cs:List Int} (h:Ker d k cs) (he:¬ (ded (sigs d cs)).length=(ded cs).length):(ded cs).length<(ded (canN (sigs d cs))).length∧(ded (canN (sigs d cs))).length≤d.fin.length:=by
 have h1:=h.next hv
 have h2:=(h.ref h1).1
 have h3:=ded_le (canN (sigs d cs))
 rw [canN_len,sigs_len] at h3
 refine ⟨?_,h3⟩
 rw [ded_canN] at h2 ⊢;omega
def f0 (d:Dfa):List Int:=d.fin.map fun b=>if b=d.fin.getD 0 false then 0 else 1
def diff (d:Dfa) (k:Nat):Bool:=(d.fin.take k).any fun b=>decide (b ≠ d.fin.getD 0 false)
theorem f0_len (d:Dfa):(f0 d).length=d.fin.length:=by simp [f0]
theorem f0_get {d:Dfa} {q:Nat} (h:q<d.fin.length):(f0 d).getD q 0=if d.fin.getD q false=d.fin.getD 0 false then 0 else 1:=by
 simp [f0,List.getD_eq_getElem?_getD,h]
theorem f0_ker (d:Dfa):Ker d 0 (f0 d):=by
 refine ⟨f0_len d,fun i j hi hj=>?_⟩
 rw [EqK.zero,finQ_nat,finQ_nat,f0_get hi,f0_get hj]
 generalize d.fin.getD i false=a
 generalize d.fin.getD j false=b
 generalize d.fin.getD 0 false=c
 cases a <;> cases b <;> cases c <;> simp
theorem f0_ded (d:Dfa) (hn:0<d.fin.length):((ded (f0 d)).length:Int)=if diff d d.fin.length then 2 else 1:=by
 have hm:∀ x,x∈ded (f0 d)↔x=0∨(x=1∧diff d d.fin.length=true):=by
  intro x
  rw [ded_mem]
  unfold f0 diff
  rw [List.take_length,List.mem_map,List.any_eq_true]
  constructor
  ·rintro ⟨b,hb,rfl⟩
   split
   ·exact .inl rfl
   ·rename_i h;exact .inr ⟨rfl,b,hb,by simpa using h⟩
  ·rintro (rfl | ⟨rfl,b,hb,h⟩)
   ·exact ⟨d.fin.getD 0 false,getD_mem hn,by simp⟩
   ·exact ⟨b,hb,by rw [if_neg (by simpa using h)]⟩
 have hd:=ded_nodup (f0 d)
 split
 ·rename_i h
  have h1:=nodup_sub_len (U:=[0,1]) hd (fun y hy=>by rcases (hm y).1 hy with h | h <;> simp [h])
  have h2:=nodup_sub_len (xs:=[(0:Int),1]) (U:=ded (f0 d)) (by decide) (fun y hy=>by
   rw [hm]
   simp only [List.mem_cons,List.not_mem_nil,or_false] at hy
   rcases hy with rfl | rfl
   ·exact .inl rfl
   ·exact .inr ⟨rfl,h⟩)
  simp only [List.length_cons,List.length_nil] at h1 h2;omega
 ·rename_i h
  have h1:=nodup_sub_len (U:=[0]) hd (fun y hy=>by
   rcases (hm y).1 hy with h' | h'
   ·simp [h']
   ·exact absurd h'.2 h)
  have h2:=nodup_sub_len (xs:=[(0:Int)]) (U:=ded (f0 d)) (by decide) (fun y hy=>by
   rw [hm]
   simp only [List.mem_cons,List.not_mem_nil,or_false] at hy
   exact .inl hy)
  simp only [List.length_cons,List.length_nil] at h1 h2;omega
theorem f0_take {d:Dfa} {k:Nat} (h:k<d.fin.length):(f0 d).take (k+1)=(f0 d).take k++[if d.fin.getD k false=d.fin.getD 0 false then 0 else 1]:=by
 rw [take_snocD 0 _ k (by rw [f0_len];exact h),f0_get h]
theorem diff_succ {d:Dfa} {k:Nat} (h:k<d.fin.length):diff d (k+1)=(diff d k || decide (d.fin.getD k false ≠ d.fin.getD 0 false)):=any_snoc _ false h
end Go.Sx
namespace Go.Sx
theorem f0_fill1 {d:Dfa} {k:Nat} (h:k<d.fin.length) (hne:¬ d.fin.getD k false=d.fin.getD 0 false):(((f0 d).take k++List.replicate (d.fin.length - k) 0).map (Value.int .i64)).set k (.int .i64 1)=((f0 d).take (k+1)++List.replicate (d.fin.length - (k+1)) 0).map (Value.int .i64):=by
 rw [f0_take h,if_neg hne]
 exact fill_set (Value.int .i64) _ 0 _ d.fin.length k (by rw [List.length_take,f0_len];omega) h
theorem f0_fill0 {d:Dfa} {k:Nat} (h:k<d.fin.length) (he:d.fin.getD k false=d.fin.getD 0 false):(f0 d).take k++List.replicate (d.fin.length - k) 0=(f0 d).take (k+1)++List.replicate (d.fin.length - (k+1)) 0:=by
 rw [f0_take h,if_pos he,show d.fin.length - k=(d.fin.length - (k+1))+1 by omega,List.replicate_succ]
 simp
theorem diff_one {d:Dfa} {k:Nat} (h:k<d.fin.length) (hne:¬ d.fin.getD k false=d.fin.getD 0 false):(2:Int)=if diff d (k+1) then 2 else 1:=by
 have e:decide (d.fin.getD k false ≠ d.fin.getD 0 false)=true:=decide_eq_true hne
 rw [diff_succ h,e,Bool.or_true,if_pos rfl]
theorem diff_zero {d:Dfa} {k:Nat} (h:k<d.fin.length) (he:d.fin.getD k false=d.fin.getD 0 false):(if diff d k then 2 else 1:Int)=if diff d (k+1) then 2 else 1:=by
 have e:decide (d.fin.getD k false ≠ d.fin.getD 0 false)=false:=decide_eq_false (by rw [he];exact fun h=>h rfl)
 rw [diff_succ h,e,Bool.or_false]
def ClsV (d:Dfa):List Int:=if VD d then clsD d else []
end Go.Sx
namespace Go.Sx
end Go.Sx
namespace Go.Sx
end Go.Sx
