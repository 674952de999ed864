import Derived.Test.YtbibnpdnmmgacaaGreatDoorKZb
import Derived.Laws.Cover3
set_option linter.unusedVariables false
set_option linter.unusedSimpArgs false
set_option maxRecDepth 100000
namespace Go.Sx
def Ej (n:Int) (q:Int):Bool:=decide (q<0) || decide (n≤q)
def k7 (n L:Int) (r:List Int):Bool:=decide ((r.length:Int) ≠ L) || r.any (Ej n)
def nk (d:bB):Int:=
 if d.L<1∨6<d.L then 1
 else if 512<d.fin.length then 3
 else if d.nx.length ≠ d.fin.length∨d.s<0∨(d.fin.length:Int)≤d.s then 4
 else if d.nx.any (k7 d.fin.length d.L) then 4 else 0
theorem qG {α:Type} (p:α→Bool) (d:α) {xs:List α} {k:Nat} (hk:k<xs.length) (h:(xs.take k).any p=false) (h1:p (xs.getD k d)=false):(xs.take (k+1)).any p=false:=by
 rw [aO d xs k hk,List.any_append,h,List.any_cons,h1];rfl
theorem tQ {α:Type} (p:α→Bool) (d:α) {xs:List α} {k:Nat} (hk:k<xs.length) (h1:p (xs.getD k d)=true):xs.any p=true:=by
 rw [List.any_eq_true]
 refine ⟨xs.getD k d,?_,h1⟩
 rw [List.getD_eq_getElem?_getD,List.getElem?_eq_getElem hk];simp
structure VD (d:bB):Prop where
 L:1≤d.L∧d.L≤6
 n:d.fin.length≤512
 nx:d.nx.length=d.fin.length
 s:0≤d.s∧d.s<d.fin.length
 row:∀ i,i<d.fin.length→((d.nx.getD i []).length:Int)=d.L
 to:∀ i x,i<d.fin.length→x<(d.nx.getD i []).length→0≤(d.nx.getD i []).getD x 0∧(d.nx.getD i []).getD x 0<d.fin.length
theorem aX {α:Type} {d:α} {xs:List α} {k:Nat} (hk:k<xs.length):xs.getD k d∈xs:=by
 rw [List.getD_eq_getElem?_getD,List.getElem?_eq_getElem hk];simp
theorem fI {α:Type} (d:α) {xs:List α} {a:α} (h:a∈xs):∃ k,k<xs.length∧xs.getD k d=a:=by
 obtain ⟨k,hk,e⟩:=List.mem_iff_getElem.1 h
 exact ⟨k,hk,by rw [List.getD_eq_getElem?_getD,List.getElem?_eq_getElem hk];simpa using e⟩
theorem gj (d:bB):nk d=0↔VD d:=by
 unfold nk
 constructor
 ·intro h
  split at h
  ·omega
  ·split at h
   ·omega
   ·split at h
    ·omega
    ·split at h
     ·omega
     ·rename_i h1 h2 h3 h4
      have h5:∀ i,i<d.fin.length→k7 d.fin.length d.L (d.nx.getD i [])=false:=fun i hi=>by
       cases hb:k7 d.fin.length d.L (d.nx.getD i []) with
       | false=>rfl
       | true=>exact absurd (tQ _ [] (by omega) hb) h4
      refine ⟨by omega,by omega,by omega,by omega,fun i hi=>?_,fun i x hi hx=>?_⟩
      ·have:=h5 i hi
       simp only [k7,Bool.or_eq_false_iff,decide_eq_false_iff_not,ne_eq,Decidable.not_not] at this
       exact this.1
      ·have:=h5 i hi
       simp only [k7,Bool.or_eq_false_iff,List.any_eq_false] at this
       have:=this.2 _ (aX (d:=0) hx)
       simp only [Ej,Bool.or_eq_true,decide_eq_true_eq] at this
       omega
 ·intro h
  have h1:=h.L;have h2:=h.n;have h3:=h.nx;have h4:=h.s
  rw [if_neg (by omega),if_neg (by omega),if_neg (by omega),if_neg]
  rw [List.any_eq_true]
  rintro ⟨r,hr,hb⟩
  obtain ⟨i,hi,e⟩:=fI [] hr
  subst e
  have h5:=h.row i (by omega)
  simp only [k7,h5,ne_eq,not_true_eq_false,decide_false,Bool.false_or,List.any_eq_true] at hb
  obtain ⟨q,hq,hb⟩:=hb
  obtain ⟨x,hx,e⟩:=fI 0 hq
  subst e
  have:=h.to i x (by omega) hx
  simp only [Ej,Bool.or_eq_true,decide_eq_true_eq] at hb
  omega
instance (d:bB):Decidable (VD d):=decidable_of_iff _ (gj d)
end Go.Sx
namespace Go.Sx
def okB (L:Int) (c:UInt8):Bool:=decide (97≤c.toNat∧(c.toNat:Int) - 97<L)
def gK (L:Int) (l:List UInt8):Bool:=decide (1≤L∧L≤6∧l.length≤2048) && l.all (okB L)
theorem qH {α:Type} (p:α→Bool) (d:α) {xs:List α} {k:Nat} (hk:k<xs.length) (h:(xs.take k).all p=true) (h1:p (xs.getD k d)=true):(xs.take (k+1)).all p=true:=by
 rw [aO d xs k hk,List.all_append,h,List.all_cons,h1];rfl
theorem KM {α:Type} (p:α→Bool) (d:α) {xs:List α} {k:Nat} (hk:k<xs.length) (h1:p (xs.getD k d)=false):xs.all p=false:=by
 rw [List.all_eq_false]
 exact ⟨_,aX (d:=d) hk,by rw [h1];exact Bool.false_ne_true⟩
def oJ (d:bB) (q:Int) (c:UInt8):Int:=(d.nx.getD q.toNat []).getD ((c.toNat:Int) - 97).toNat 0
def cV (d:bB) (q:Int) (l:List UInt8):Int:=l.foldl (oJ d) q
theorem dT (d:bB) (q:Int) (u v:List UInt8):cV d q (u++v)=cV d (cV d q u) v:=List.foldl_append ..
theorem KX {d:bB} (hv:VD d) {q:Int} (hq:0≤q∧q<d.fin.length) {c:UInt8} (hc:okB d.L c=true):0≤oJ d q c∧oJ d q c<d.fin.length:=by
 simp only [okB,decide_eq_true_eq] at hc
 have h1:=hv.row q.toNat (by omega)
 exact hv.to q.toNat _ (by omega) (by omega)
end Go.Sx
namespace Go.Sx
def preB (d:bB) (row:List Bool):List Bool:=d.nx.map fun r=>r.any fun q=>row.getD q.toNat false
def EJ (d:bB):Nat→List Bool
 | 0=>d.fin
 | r+1=>preB d (EJ d r)
theorem Mi {α:Type} (p:α→Bool) (d:α) {xs:List α} {k:Nat} (hk:k<xs.length):(xs.take (k+1)).any p=((xs.take k).any p || p (xs.getD k d)):=by
 rw [aO d xs k hk,List.any_append,List.any_cons];simp
def mf (x:Nat):UInt8:=UInt8.ofNat (97+x)
theorem iP {x:Nat} (h:x<128):(mf x).toNat=97+x:=by simp [mf];omega
theorem OQ {x:Nat} (h:x<128):Value.int .u8 (97+(x:Int))=rC (mf x):=by unfold rC;rw [iP h];simp
def wl (d:bB) (n:Nat):Nat→Int→List UInt8→List (List UInt8)→List (List UInt8)
 | 0,q,pre,out=>if (EJ d 0).getD q.toNat false=false∨out.length=n then out else out++[pre]
 | r+1,q,pre,out=>if (EJ d (r+1)).getD q.toNat false=false∨out.length=n then out else
  (List.range (d.nx.getD q.toNat []).length).foldl (fun out x=>wl d n r ((d.nx.getD q.toNat []).getD x 0) (pre++[mf x]) out) out
def wk (d:bB) (n:Nat):Nat→List (List UInt8)
 | 0=>[]
 | k+1=>if (wk d n k).length<n then wl d n k d.s [] (wk d n k) else wk d n k
end Go.Sx
namespace Go.Sx
end Go.Sx
namespace Go.Sx
theorem oD.own {C:Cx} {own:List bk} {w:World} {EB EI ER:TypeId} {vF vN:Value} {rs:List Value} {d:bB} (i:Nat) (hw:HW C own w) (hl:rs.length=d.nx.length) (h1:own[i]? = some (row vF EB 1 d.fin.length (d.fin.map Value.bool))) (h2:own[i+1]? = some (row vN ER 1 d.nx.length rs)) (h3:own[i+2]? = some (bh (dQ (Value.int .i64) EI rs d.nx))) :
 oD (fun _=>False) w (.agg #[.int .i64 d.L,.int .i64 d.s,vF,vN]) d:=⟨vF,vN,rfl,lQ.own i hw h1,rL.own (i+1) (i+2) hw hl h2 h3⟩
end Go.Sx
namespace Go.Sx
end Go.Sx
namespace Go.Sx
section
variable {α : Type} [DecidableEq α]
def dY (xs:List α) (x:α):List α:=if x∈xs then xs else xs++[x]
def bV:List α→α→Nat
 | [],_=>0
 | b :: l,x=>if x=b then 0 else bV l x+1
def gC (xs:List α):List (α × Int):=xs.zipIdx.map fun p=>(p.1,(p.2:Int))
theorem CU (x:α):∀ (xs:List α) (n:Nat),dq ((xs.zipIdx n).map fun p=>(p.1,(p.2:Int))) x=if x∈xs then some (((n+bV xs x:Nat)):Int) else none
 | [],n=>by simp [dq]
 | b :: l,n=>by
  simp only [List.zipIdx_cons,List.map_cons,dq]
  by_cases h:x=b
  ·subst h;simp [bV]
  ·rw [if_neg h,CU x l (n+1)]
   by_cases h2:x∈l
   ·have:x∈b :: l:=List.mem_cons_of_mem _ h2
    rw [if_pos h2,if_pos this]
    simp only [bV,h,if_false]
    congr 2;omega
   ·have:¬ x∈b :: l:=by simp [h,h2]
    rw [if_neg h2,if_neg this]
theorem gU (xs:List α) (x:α):dq (gC xs) x=if x∈xs then some ((bV xs x:Nat):Int) else none:=by
 have:=CU x xs 0
 simpa [gC] using this
omit [DecidableEq α] in
theorem Ij (xs:List α) (x:α):gC (xs++[x])=gC xs++[(x,(xs.length:Int))]:=by
 simp [gC,List.zipIdx_append]
theorem ua {xs:List α} {x:α} (h:x ∉ xs):jI (gC xs) x (xs.length:Int)=gC (xs++[x]):=by
 rw [zi _ _ _ (by rw [gU,if_neg h]),Ij]
theorem fg {xs:List α} {x:α} (h:x∈xs):bV xs x<xs.length:=by
 induction xs with
 | nil=>cases h
 | cons b l ih=>
  simp only [bV,List.length_cons]
  by_cases hb:x=b
  ·simp [hb]
  ·rw [if_neg hb]
   have:=ih (by simpa [hb] using h);omega
theorem ix {xs:List α} {x:α} (h:x ∉ xs):bV xs x=xs.length:=by
 induction xs with
 | nil=>rfl
 | cons b l ih=>
  simp only [List.mem_cons,not_or] at h
  simp only [bV,List.length_cons,if_neg h.1,ih h.2]
theorem N7 (xs:List α) (x:α):bV xs x≤xs.length:=by
 by_cases h:x∈xs
 ·exact Nat.le_of_lt (fg h)
 ·rw [ix h];exact Nat.le_refl _
theorem fL {xs:List α} {x:α} (d:α) (h:x∈xs):xs.getD (bV xs x) d=x:=by
 induction xs with
 | nil=>cases h
 | cons b l ih=>
  simp only [bV]
  by_cases hb:x=b
  ·simp [hb]
  ·rw [if_neg hb]
   have:=ih (by simpa [hb] using h)
   simpa [List.getD_eq_getElem?_getD] using this
theorem lM {xs:List α} {x:α} (ys:List α) (h:x∈xs):bV (xs++ys) x=bV xs x:=by
 induction xs with
 | nil=>cases h
 | cons b l ih=>
  simp only [List.cons_append,bV]
  by_cases hb:x=b
  ·simp [hb]
  ·rw [if_neg hb,if_neg hb,ih (by simpa [hb] using h)]
theorem vI {xs:List α} (d:α) (hn:xs.Nodup) {i:Nat} (hi:i<xs.length):bV xs (xs.getD i d)=i:=by
 induction xs generalizing i with
 | nil=>simp at hi
 | cons b l ih=>
  rw [List.nodup_cons] at hn
  cases i with
  | zero=>simp [bV]
  | succ i=>
   have ox:i<l.length:=by simpa using hi
   have e:(b :: l).getD (i+1) d=l.getD i d:=by simp [List.getD_eq_getElem?_getD]
   have j9:l.getD i d ≠ b:=fun h=>hn.1 (h ▸ aX ox)
   rw [e]
   simp only [bV,if_neg j9,ih hn.2 ox]
theorem mE (xs:List α) (x:α):x∈dY xs x:=by unfold dY;split;assumption;simp
theorem sO {xs:List α} {x y:α} (h:y∈xs):y∈dY xs x:=by unfold dY;split;exact h;simp [h]
theorem rn {xs:List α} {x y:α} (h:y∈dY xs x):y∈xs∨y=x:=by
 unfold dY at h;split at h
 ·exact .inl h
 ·simpa using h
theorem xP {xs:List α} {x:α} (h:xs.Nodup):(dY xs x).Nodup:=by
 unfold dY;split
 ·exact h
 ·rename_i hx
  rw [List.nodup_append]
  refine ⟨h,by simp,fun a ha b hb=>?_⟩
  simp at hb;subst hb;exact fun e=>hx (e ▸ ha)
theorem o8 (xs:List α) (x:α):∃ ys,dY xs x=xs++ys:=by unfold dY;split;exact ⟨[],by simp⟩;exact ⟨[x],rfl⟩
def gk (f:α→Nat→α) (q:α) (l:List α):Nat→List α
 | 0=>l
 | k+1=>dY (gk f q l k) (f q k)
def yh (f:α→Nat→α) (q:α) (l:List α):Nat→List Int
 | 0=>[]
 | k+1=>yh f q l k++[((bV (gk f q l k) (f q k):Nat):Int)]
def aH (f:α→Nat→α) (L:Nat) (s z:α):Nat→List α
 | 0=>[s]
 | i+1=>if i<(aH f L s z i).length then gk f ((aH f L s z i).getD i z) (aH f L s z i) L else aH f L s z i
def vZ (f:α→Nat→α) (L:Nat) (s z:α):Nat→List (List Int)
 | 0=>[]
 | i+1=>vZ f L s z i++[yh f ((aH f L s z i).getD i z) (aH f L s z i) L]
def tk (f:α→Nat→α) (L:Nat) (s z:α) (g:α→Bool):Nat→List Bool
 | 0=>[]
 | i+1=>tk f L s z g i++[g ((aH f L s z i).getD i z)]
theorem fm {f:α→Nat→α} {L:Nat} {s z:α} {i:Nat} (h:i<(aH f L s z i).length):aH f L s z (i+1)=gk f ((aH f L s z i).getD i z) (aH f L s z i) L:=by
 simp only [aH];rw [if_pos h]
theorem sc (f:α→Nat→α) (q:α) (l:List α):∀ k,(yh f q l k).length=k
 | 0=>rfl
 | k+1=>by simp [yh,sc f q l k]
theorem pL (f:α→Nat→α) (L:Nat) (s z:α):∀ i,(vZ f L s z i).length=i
 | 0=>rfl
 | i+1=>by simp [vZ,pL f L s z i]
theorem BA (f:α→Nat→α) (L:Nat) (s z:α) (g:α→Bool):∀ i,(tk f L s z g i).length=i
 | 0=>rfl
 | i+1=>by simp [tk,BA f L s z g i]
theorem sg (f:α→Nat→α) (q:α) (l:List α):∀ k,∃ ys,gk f q l k=l++ys
 | 0=>⟨[],by simp [gk]⟩
 | k+1=>by
  obtain ⟨ys,h⟩:=sg f q l k
  obtain ⟨zs,h2⟩:=o8 (gk f q l k) (f q k)
  exact ⟨ys++zs,by rw [gk,h2,h,List.append_assoc]⟩
theorem uk {f:α→Nat→α} {q:α} {l:List α} (h:l.Nodup):∀ k,(gk f q l k).Nodup
 | 0=>h
 | k+1=>xP (uk h k)
theorem vT {f:α→Nat→α} {q:α} {l U:List α} {L:Nat} (h:∀ y∈l,y∈U) (hf:∀ x,x<L→f q x∈U):∀ k,k≤L→∀ y∈gk f q l k,y∈U
 | 0,_,y,hy=>h y hy
 | k+1,hk,y,hy=>by
  rcases rn hy with h' | rfl
  ·exact vT h hf k (by omega) y h'
  ·exact hf k (by omega)
theorem si (f:α→Nat→α) (L:Nat) (s z:α) (i:Nat):∃ ys,aH f L s z (i+1)=aH f L s z i++ys:=by
 simp only [aH];split
 ·exact sg _ _ _ _
 ·exact ⟨[],by simp⟩
theorem tP (f:α→Nat→α) (L:Nat) (s z:α):∀ i,0<(aH f L s z i).length
 | 0=>by simp [aH]
 | i+1=>by
  obtain ⟨ys,e⟩:=si f L s z i
  rw [e,List.length_append];have:=tP f L s z i;omega
theorem k6 {f:α→Nat→α} {L:Nat} {s z:α} {U:List α} (hs:s∈U) (hf:∀ q∈U,∀ x,x<L→f q x∈U):∀ i,(aH f L s z i).Nodup∧∀ y∈aH f L s z i,y∈U
 | 0=>⟨by simp [aH],by simp [aH,hs]⟩
 | i+1=>by
  obtain ⟨h1,h2⟩:=k6 (z:=z) hs hf i
  simp only [aH];split
  ·rename_i hi
   exact ⟨uk h1 L,vT h2 (hf _ (h2 _ (aX hi))) L (Nat.le_refl _)⟩
  ·exact ⟨h1,h2⟩
theorem dz:∀ {xs U:List α},xs.Nodup→(∀ y∈xs,y∈U)→xs.length≤U.length
 | [],_,_,_=>Nat.zero_le _
 | x :: xs,U,hn,h=>by
  rw [List.nodup_cons] at hn
  have hx:=h x (by simp)
  have h1:=List.length_erase_of_mem hx
  have h2:0<U.length:=List.length_pos_of_mem hx
  have h3:=dz (xs:=xs) (U:=U.erase x) hn.2 (fun y hy=>(List.mem_erase_of_ne (a:=y) (b:=x) (fun e=>hn.1 (by rw [← e];exact hy))).2 (h y (by simp [hy])))
  simp only [List.length_cons];omega
theorem q8 {f:α→Nat→α} {L:Nat} {s z:α} {U:List α} (hs:s∈U) (hf:∀ q∈U,∀ x,x<L→f q x∈U) (i:Nat):(aH f L s z i).length≤U.length:=
 dz (k6 hs hf i).1 (k6 hs hf i).2
theorem Kz {f:α→Nat→α} {L:Nat} {s z:α} {U:List α} (hs:s∈U) (hf:∀ q∈U,∀ x,x<L→f q x∈U) {i k:Nat} (hi:i<(aH f L s z i).length) (hk:k≤L):(gk f ((aH f L s z i).getD i z) (aH f L s z i) k).length≤U.length:=
 dz (uk (k6 hs hf i).1 k) (vT (k6 hs hf i).2 (hf _ ((k6 hs hf i).2 _ (aX hi))) k hk)
end
theorem Yl.Aw {C:Cx} {sl:List (Nat × Value)} {own:List bk} {dst:Option Nat} {ty:TypeId} {pos:String} {aft:Array Edge} {g:Option (Nat × Bool)} {x:Operand} {t t' k e:TypeId} {o:Option Nat} (ht:C.P.underlying t=some (.map k e)) (hx:bO ⟨sl,own⟩ x=some (.map o)) :
  Yl C ⟨sl,own⟩ ⟨dst,.binOp .eql t x (.const (.map none)) t',ty,pos,aft,g⟩ (.bool o.isNone):=
 fun a w hs=>by
  have h:=run_equal_map_nil (P:=C.P) (w:=w) t k e o ht
  have hc:a.eval (.const (.map none)) = .map none:=rfl
  simp only [execOp,aq hs hx,hc]
  simp [go_sem,binOp,h]
end Go.Sx
namespace Go.Sx
section
variable {α : Type} [DecidableEq α]
theorem fp (f:α→Nat→α) (L:Nat) (s z:α) (i:Nat):∀ m,∃ ys,aH f L s z (i+m)=aH f L s z i++ys
 | 0=>⟨[],by simp⟩
 | m+1=>by
  obtain ⟨ys,h⟩:=fp f L s z i m
  obtain ⟨zs,h2⟩:=si f L s z (i+m)
  exact ⟨ys++zs,by rw [← Nat.add_assoc,h2,h,List.append_assoc]⟩
theorem ll {f:α→Nat→α} {L:Nat} {s z:α} {n:Nat} (h:(aH f L s z n).length≤n):∀ m,aH f L s z (n+m)=aH f L s z n
 | 0=>rfl
 | m+1=>by
  have:=ll h m
  show aH f L s z (n+m+1)=_
  simp only [aH];rw [this,if_neg (by omega)]
theorem gV {f:α→Nat→α} {L:Nat} {s z:α} {U:List α} (hs:s∈U) (hf:∀ q∈U,∀ x,x<L→f q x∈U) {n:Nat} (h:n=(aH f L s z n).length):aH f L s z U.length=aH f L s z n∧n≤U.length:=by
 have hb:=q8 (z:=z) hs hf n
 have:=ll (f:=f) (L:=L) (s:=s) (z:=z) (n:=n) (by omega) (U.length - n)
 rw [show n+(U.length - n)=U.length by omega] at this
 exact ⟨this,by omega⟩
theorem Kp {xs XS ys:List α} {x:α} (h:XS=dY xs x++ys):bV XS x=bV xs x:=by
 rw [h,lM _ (mE xs x)]
 unfold dY
 split
 ·rfl
 ·rename_i hx
  rw [ix hx]
  have:∀ l:List α,x ∉ l→bV (l++[x]) x=l.length:=by
   intro l hl
   induction l with
   | nil=>simp [bV]
   | cons b l ih=>
    simp only [List.mem_cons,not_or] at hl
    simp only [List.cons_append,bV,if_neg hl.1,ih hl.2,List.length_cons]
  exact this xs hx
theorem G0 {f:α→Nat→α} {q:α} {l XS:List α}:∀ k,(∃ ys,XS=gk f q l k++ys)→yh f q l k=(List.range k).map fun x=>((bV XS (f q x):Nat):Int)
 | 0,_=>rfl
 | k+1,⟨ys,h⟩=>by
  obtain ⟨zs,h2⟩:=o8 (gk f q l k) (f q k)
  have h3:XS=gk f q l k++(zs++ys):=by rw [h,gk,h2,List.append_assoc]
  rw [yh,G0 k ⟨_,h3⟩,List.range_succ,List.map_append]
  simp only [List.map_cons,List.map_nil]
  have e:=Kp (XS:=XS) (xs:=gk f q l k) (x:=f q k) (ys:=ys) h
  rw [← e]
omit [DecidableEq α] in
theorem gO {xs ys:List α} {i:Nat} (z:α) (h:i<xs.length):(xs++ys).getD i z=xs.getD i z:=by
 rw [List.getD_eq_getElem?_getD,List.getD_eq_getElem?_getD,List.getElem?_append_left h]
theorem By {f:α→Nat→α} {L:Nat} {s z:α} {n:Nat} (bZ:∀ j,j<n→j<(aH f L s z j).length):∀ i,i≤n→vZ f L s z i=(List.range i).map fun p=>(List.range L).map fun x=>((bV (aH f L s z n) (f ((aH f L s z n).getD p z) x):Nat):Int)
 | 0,_=>rfl
 | i+1,hi=>by
  rw [vZ,By bZ i (by omega),List.range_succ,List.map_append]
  simp only [List.map_cons,List.map_nil]
  congr 2
  have h1:=bZ i (by omega)
  obtain ⟨ys,h2⟩:=fp f L s z i (n - i)
  rw [show i+(n - i)=n by omega] at h2
  have hq:(aH f L s z n).getD i z=(aH f L s z i).getD i z:=by rw [h2,gO z h1]
  rw [hq]
  refine G0 L ?_
  obtain ⟨zs,h3⟩:=fp f L s z (i+1) (n - (i+1))
  rw [show i+1+(n - (i+1))=n by omega,fm h1] at h3
  exact ⟨zs,h3⟩
theorem Bz {f:α→Nat→α} {L:Nat} {s z:α} {g:α→Bool} {n:Nat} (bZ:∀ j,j<n→j<(aH f L s z j).length):∀ i,i≤n→tk f L s z g i=(List.range i).map fun p=>g ((aH f L s z n).getD p z)
 | 0,_=>rfl
 | i+1,hi=>by
  rw [tk,Bz bZ i (by omega),List.range_succ,List.map_append]
  simp only [List.map_cons,List.map_nil]
  have h1:=bZ i (by omega)
  obtain ⟨ys,h2⟩:=fp f L s z i (n - i)
  rw [show i+(n - i)=n by omega] at h2
  rw [h2,gO z h1]
theorem jU {f:α→Nat→α} {L:Nat} {s z:α} {n:Nat} (h:n=(aH f L s z n).length):∀ j,j<n→j<(aH f L s z j).length:=by
 intro j hj
 rcases Nat.lt_or_ge j ((aH f L s z j).length) with h1 | h1
 ·exact h1
 ·have:=ll h1 (n - j)
  rw [show j+(n - j)=n by omega] at this
  rw [this] at h;omega
def jJ (f:α→Nat→α) (q:α) (wq:List UInt8) (l:List α) (ws:List (List UInt8)):Nat→List (List UInt8)
 | 0=>ws
 | k+1=>if f q k∈gk f q l k then jJ f q wq l ws k else jJ f q wq l ws k++[wq++[mf k]]
def cX (f:α→Nat→α) (L:Nat) (s z:α):Nat→List (List UInt8)
 | 0=>[[]]
 | i+1=>if i<(aH f L s z i).length then jJ f ((aH f L s z i).getD i z) ((cX f L s z i).getD i []) (aH f L s z i) (cX f L s z i) L else cX f L s z i
theorem sU {f:α→Nat→α} {q:α} {wq:List UInt8} {l:List α} {ws:List (List UInt8)} (h:ws.length=l.length):∀ k,(jJ f q wq l ws k).length=(gk f q l k).length
 | 0=>h
 | k+1=>by
  simp only [jJ,gk,dY]
  split
  ·exact sU h k
  ·simp [sU h k]
theorem fj {f:α→Nat→α} {L:Nat} {s z:α}:∀ i,(cX f L s z i).length=(aH f L s z i).length
 | 0=>rfl
 | i+1=>by
  simp only [cX,aH]
  split
  ·exact sU (fj i) L
  ·exact fj i
theorem uo {f:α→Nat→α} {L:Nat} {s z:α} {i:Nat} (h:i<(aH f L s z i).length):cX f L s z (i+1)=jJ f ((aH f L s z i).getD i z) ((cX f L s z i).getD i []) (aH f L s z i) (cX f L s z i) L:=by
 simp only [cX];rw [if_pos h]
theorem um {f:α→Nat→α} {L:Nat} {s z:α} {n:Nat} (h:(aH f L s z n).length≤n):∀ m,cX f L s z (n+m)=cX f L s z n
 | 0=>rfl
 | m+1=>by
  have:=um h m
  have h2:=ll h m
  show cX f L s z (n+m+1)=_
  simp only [cX];rw [this,h2,if_neg (by omega)]
theorem rz {f:α→Nat→α} {L:Nat} {s z:α} {U:List α} (hs:s∈U) (hf:∀ q∈U,∀ x,x<L→f q x∈U) {n:Nat} (h:n=(aH f L s z n).length):cX f L s z U.length=cX f L s z n:=by
 have hb:=(gV hs hf h).2
 have:=um (f:=f) (L:=L) (s:=s) (z:=z) (n:=n) (by omega) (U.length - n)
 rwa [show n+(U.length - n)=U.length by omega] at this
end
def bC (d:bB) (q:Int) (x:Nat):Int:=(d.nx.getD q.toNat []).getD x 0
def c9 (d:bB) (q:Int):Bool:=d.fin.getD q.toNat false
def univ (n:Nat):List Int:=(List.range n).map fun (i:Nat)=>(i:Int)
theorem eR {n:Nat} {q:Int}:q∈univ n↔0≤q∧q<n:=by
 unfold univ;rw [List.mem_map]
 constructor
 ·rintro ⟨i,hi,rfl⟩;rw [List.mem_range] at hi;omega
 ·intro h;exact ⟨q.toNat,by rw [List.mem_range];omega,by omega⟩
theorem jo (n:Nat):(univ n).length=n:=by simp [univ]
theorem eG {d:bB} (hv:VD d):∀ q∈univ d.fin.length,∀ x,x<d.L.toNat→bC d q x∈univ d.fin.length:=by
 intro q hq x hx
 rw [eR] at hq ⊢
 have h1:=hv.row q.toNat (by omega)
 exact hv.to q.toNat x (by omega) (by omega)
theorem fx {d:bB} (hv:VD d):d.s∈univ d.fin.length:=eR.2 hv.s
def eU (d:bB):List Int:=aH (bC d) d.L.toNat d.s 0 d.fin.length
def Jb (d:bB):List (List UInt8):=cX (bC d) d.L.toNat d.s 0 d.fin.length
def au (d:bB):bB:=⟨d.L,0,(eU d).map (c9 d),(eU d).map fun q=>(List.range d.L.toNat).map fun x=>((bV (eU d) (bC d q x):Nat):Int)⟩
theorem ju {α β:Type} (z:α) (f:α→β) (xs:List α):(List.range xs.length).map (fun p=>f (xs.getD p z))=xs.map f:=by
 apply List.ext_getElem
 ·simp
 ·intro i h1 h2
  simp at h1
  simp [List.getD_eq_getElem?_getD,h1]
theorem Gf {d:bB} (hv:VD d) {n:Nat} (h:n=(aH (bC d) d.L.toNat d.s 0 n).length) :
  aH (bC d) d.L.toNat d.s 0 n=eU d∧(⟨d.L,0,tk (bC d) d.L.toNat d.s 0 (c9 d) n,vZ (bC d) d.L.toNat d.s 0 n⟩:bB)=au d:=by
 have h1:=(gV (fx hv) (eG hv) h).1
 rw [jo] at h1
 have h2:aH (bC d) d.L.toNat d.s 0 n=eU d:=h1.symm
 refine ⟨h2,?_⟩
 have h3:=jU h
 have hn:n=(eU d).length:=by rw [← h2];exact h
 rw [Bz h3 n (Nat.le_refl n),By h3 n (Nat.le_refl n),h2]
 unfold au
 conv=>lhs;rw [hn]
 rw [ju 0 (c9 d),ju 0 (fun q=>(List.range d.L.toNat).map fun x=>((bV (eU d) (bC d q x):Nat):Int))]
theorem oW {d:bB} (hv:VD d):(eU d).Nodup∧(∀ q∈eU d,0≤q∧q<d.fin.length)∧(eU d).length≤d.fin.length∧0<(eU d).length:=by
 have h:=k6 (z:=0) (fx hv) (eG hv) d.fin.length
 have hb:=q8 (z:=0) (fx hv) (eG hv) d.fin.length
 rw [jo] at hb
 exact ⟨h.1,fun q hq=>eR.1 (h.2 q hq),hb,tP _ _ _ _ _⟩
def vu (n:Nat) (xs:List Int) (k:Nat):List Int:=(List.range k).foldl (fun l i=>l.set (xs.getD i 0).toNat (i:Int)) (List.replicate n (-1))
theorem tZ {n:Nat} {xs:List Int} {k:Nat}:vu n xs (k+1)=(vu n xs k).set (xs.getD k 0).toNat (k:Int):=by
 unfold vu;rw [List.range_succ,List.foldl_append];rfl
theorem mC (n:Nat) (xs:List Int):∀ k,(vu n xs k).length=n
 | 0=>by simp [vu]
 | k+1=>by rw [tZ,List.length_set,mC n xs k]
theorem w6 {n:Nat} {xs:List Int} (hn:xs.Nodup) (hb:∀ q∈xs,0≤q∧q<n):∀ k,k≤xs.length→∀ q:Int,0≤q∧q<n→(vu n xs k).getD q.toNat 0=if bV xs q<k then ((bV xs q:Nat):Int) else -1
 | 0,_,q,hq=>by
  have:q.toNat<n:=by omega
  simp [vu,List.getD_eq_getElem?_getD,this]
 | k+1,hk,q,hq=>by
  rw [tZ,List.getD_eq_getElem?_getD,List.getElem?_set,mC]
  have Th:=hb _ (aX (d:=0) (show k<xs.length by omega))
  have hp:=vI 0 hn (show k<xs.length by omega)
  have ih:=w6 hn hb k (by omega) q hq
  rw [List.getD_eq_getElem?_getD] at ih
  by_cases he:(xs.getD k 0).toNat=q.toNat
  ·have e2:xs.getD k 0=q:=by omega
   rw [if_pos he,if_pos (by omega)]
   rw [← e2,hp,if_pos (by omega)];rfl
  ·rw [if_neg he,ih]
   have j9:bV xs q ≠ k:=fun e=>he (by
    have hm:q∈xs:=by
     apply Classical.byContradiction
     intro h'
     have:=ix h';omega
    have:=fL 0 hm
    rw [e] at this;rw [this])
   by_cases h1:bV xs q<k
   ·rw [if_pos h1,if_pos (by omega)]
   ·rw [if_neg h1,if_neg (by omega)]
def iR (d:bB):List Int:=vu d.fin.length (eU d) (eU d).length
theorem Lx {d:bB} (hv:VD d) {q:Int} (hq:q∈eU d):(iR d).getD q.toNat 0=((bV (eU d) q:Nat):Int):=by
 obtain ⟨h1,h2,h3,_⟩:=oW hv
 unfold iR
 rw [w6 h1 h2 _ (Nat.le_refl _) q (h2 q hq),if_pos (fg hq)]
theorem Fq {d:bB} (hv:VD d) {q:Int} (hq:q∈eU d) {x:Nat} (hx:x<d.L.toNat):bC d q x∈eU d:=by
 have hs:=fx hv
 have hf:=eG hv
 obtain ⟨i,hi,e⟩:=fI 0 hq
 have hlen:=(oW hv).2.2.1
 have key:∀ n,n=(aH (bC d) d.L.toNat d.s 0 n).length→bC d q x∈eU d:=by
  intro n hn
  have h2:=(Gf hv hn).1
  have h3:=jU hn
  have me:i<n:=by rw [hn,h2];exact hi
  have h1:=h3 i me
  obtain ⟨ys,h4⟩:=fp (bC d) d.L.toNat d.s 0 i (n - i)
  rw [show i+(n - i)=n by omega] at h4
  have TT:(aH (bC d) d.L.toNat d.s 0 i).getD i 0=q:=by rw [← gO 0 h1 (ys:=ys),← h4,h2];exact e
  obtain ⟨zs,h5⟩:=fp (bC d) d.L.toNat d.s 0 (i+1) (n - (i+1))
  rw [show i+1+(n - (i+1))=n by omega,fm h1,TT] at h5
  rw [← h2,h5]
  apply List.mem_append_left
  have:∀ k,x<k→bC d q x∈gk (bC d) q (aH (bC d) d.L.toNat d.s 0 i) k:=by
   intro k
   induction k with
   | zero=>intro h;omega
   | succ k ih=>
    intro h
    by_cases Th:x=k
    ·subst Th;exact mE _ _
    ·exact sO (ih (by omega))
  exact this _ hx
 have ex:∃ n,n=(aH (bC d) d.L.toNat d.s 0 n).length:=by
  apply Classical.byContradiction
  intro yf
  have kA:∀ i,i≤(aH (bC d) d.L.toNat d.s 0 i).length:=by
   intro i
   induction i with
   | zero=>exact Nat.zero_le _
   | succ i ih=>
    have:i<(aH (bC d) d.L.toNat d.s 0 i).length:=Nat.lt_of_le_of_ne ih (fun e=>yf ⟨i,e⟩)
    obtain ⟨ys,e⟩:=si (bC d) d.L.toNat d.s 0 i
    rw [e,List.length_append];omega
  have h1:=kA ((univ d.fin.length).length+1)
  have h2:=q8 (z:=0) hs hf ((univ d.fin.length).length+1)
  omega
 obtain ⟨n,hn⟩:=ex
 exact key n hn
end Go.Sx
namespace Go.Sx
def qL (w:World) (b:Nat) (cs:List Value):Prop:=∃ E,w.heap[b]? = some (.cells cs.toArray E (0,0))
theorem iF.arg {C:Cx} {own:List bk} {b:Nat} {cs:List Value} (h:qL C.W0 b cs) (hS:¬ C.S b:=by exact id):iF C own b cs:=fun w hw=>by
 obtain ⟨E,h⟩:=h
 exact ⟨E,by rw [hw.frame.block b (Array.getElem?_eq_some_iff.1 h).1 hS];exact h⟩
theorem qL.own {C:Cx} {own:List bk} {w:World} {b:Nat} {E:TypeId} {sz:Nat} {cs:List Value} (i:Nat) (hw:HW C own w) (hi:own[i]? = some (box b E sz cs)):qL w b cs:=iF.own (C:=C) i hi w hw
theorem qL.fr {w w':World} {b:Nat} {cs:List Value} (h:qL w b cs) (hf:bj (fun _=>False) w w'):qL w' b cs:=by
 obtain ⟨E,h⟩:=h
 exact ⟨E,by rw [hf.block b (Array.getElem?_eq_some_iff.1 h).1 id];exact h⟩
theorem lQ.fr {α:Type} {f:α→Value} {w w':World} {v:Value} {xs:List α} (h:lQ (fun _=>False) f w v xs) (hf:bj (fun _=>False) w w'):lQ (fun _=>False) f w' v xs:=
 Rd.mono h fun b _ bZ=>⟨id,hf.block b bZ id⟩
theorem rL.fr {α:Type} {f:α→Value} {w w':World} {v:Value} {qa:List (List α)} (h:rL (fun _=>False) f w v qa) (hf:bj (fun _=>False) w w'):rL (fun _=>False) f w' v qa:=by
 obtain ⟨rs,h1,h2,h3⟩:=h
 exact ⟨rs,h1,Rd.mono h2 fun b _ bZ=>⟨id,hf.block b bZ id⟩,fun i hi=>(h3 i hi).fr hf⟩
def yv:bB:=⟨0,0,[],[]⟩
def uT (d:bB):bB:=if VD d then au d else yv
def HL (d:bB):List Int:=if VD d then iR d else []
def lD (n:Nat) (l:List Int):List Bool:=(List.range n).map fun (i:Nat)=>decide ((i:Int)∈l)
theorem LF (n:Nat) (l:List Int):(lD n l).length=n:=by simp [lD]
theorem LG {n:Nat} {l:List Int} {q:Int} (h:0≤q∧q<n):(lD n l).getD q.toNat false=decide (q∈l):=by
 have h1:q.toNat<n:=by omega
 have h2:((q.toNat:Nat):Int)=q:=by omega
 simp [lD,List.getD_eq_getElem?_getD,h1,h2]
theorem CV {n:Nat} {l:List Int} {q:Int} (h:0≤q∧q<n):(lD n l).set q.toNat true=lD n (l++[q]):=by
 apply List.ext_getElem
 ·simp [lD]
 ·intro i h1 h2
  rw [List.getElem_set]
  have hi:i<n:=by simpa [lD] using h2
  simp only [lD,List.getElem_map,List.getElem_range]
  by_cases e:q.toNat=i
  ·rw [if_pos e]
   have:((i:Nat):Int)=q:=by omega
   simp [this]
  ·rw [if_neg e]
   have:¬ ((i:Nat):Int)=q:=by omega
   simp [this]
theorem LD (n:Nat):lD n []=List.replicate n false:=by
 apply List.ext_getElem
 ·simp [lD]
 ·intro i h1 h2;simp [lD]
end Go.Sx
namespace Go.Sx
theorem Yl.iW {C:Cx} {st:St} {o:Oper} {v v':Value} (h:Yl C st o v) (e:v=v'):Yl C st o v':=e ▸ h
section
variable {α : Type} [DecidableEq α]
theorem C9 (f:α→Nat→α) (q:α) (wq:List UInt8) (l:List α) (ws:List (List UInt8)):∀ k,∃ ys,jJ f q wq l ws k=ws++ys
 | 0=>⟨[],by simp [jJ]⟩
 | k+1=>by
  obtain ⟨ys,h⟩:=C9 f q wq l ws k
  simp only [jJ];split
  ·exact ⟨ys,h⟩
  ·exact ⟨ys++[wq++[mf k]],by rw [h,List.append_assoc]⟩
theorem Bx {f:α→Nat→α} {q:α} {wq:List UInt8} {l:List α} {ws:List (List UInt8)} {n:Nat} (h1:∀ w∈ws,w.length≤n) (h2:wq.length+1≤n):∀ k,∀ w∈jJ f q wq l ws k,w.length≤n
 | 0,w,hw=>h1 w hw
 | k+1,w,hw=>by
  simp only [jJ] at hw
  split at hw
  ·exact Bx h1 h2 k w hw
  ·rw [List.mem_append] at hw
   rcases hw with hw | hw
   ·exact Bx h1 h2 k w hw
   ·simp at hw;subst hw;simp;omega
theorem mH {f:α→Nat→α} {L:Nat} {s z:α}:∀ i,∀ w∈cX f L s z i,w.length≤i
 | 0,w,hw=>by simp [cX] at hw;subst hw;simp
 | i+1,w,hw=>by
  simp only [cX] at hw
  split at hw
  ·rename_i hi
   refine Bx (fun u hu=>Nat.le_succ_of_le (mH i u hu)) ?_ L w hw
   have:=mH i _ (aX (d:=[]) (show i<(cX f L s z i).length by rw [fj];exact hi))
   omega
  ·exact Nat.le_succ_of_le (mH i w hw)
theorem OJ {f:α→Nat→α} {L:Nat} {s z:α} (i j:Nat) (h:j<(cX f L s z i).length):((cX f L s z i).getD j []).length≤2 * (i+1) * 8:=by
 have:=mH i _ (aX (d:=[]) h);omega
end
end Go.Sx
namespace Go.Sx
section
variable {α : Type} [DecidableEq α]
def oh (Lv:Int) (L:Nat) (xs:List α) (f:α→Nat→α) (g:α→Bool):bB:=⟨Lv,0,xs.map g,xs.map fun q=>(List.range L).map fun x=>((bV xs (f q x):Nat):Int)⟩
theorem SM {f:α→Nat→α} {L:Nat} {s z:α} {U:List α} {g:α→Bool} (Lv:Int) (hs:s∈U) (hf:∀ q∈U,∀ x,x<L→f q x∈U) {n:Nat} (h:n=(aH f L s z n).length) :
  aH f L s z n=aH f L s z U.length∧(⟨Lv,0,tk f L s z g n,vZ f L s z n⟩:bB)=oh Lv L (aH f L s z U.length) f g:=by
 have h2:=(gV hs hf h).1.symm
 refine ⟨h2,?_⟩
 have h3:=jU h
 have hn:n=(aH f L s z U.length).length:=by rw [← h2];exact h
 rw [Bz h3 n (Nat.le_refl n),By h3 n (Nat.le_refl n),h2]
 unfold oh
 conv=>lhs;rw [hn]
 rw [ju z g,ju z (fun q=>(List.range L).map fun x=>((bV (aH f L s z U.length) (f q x):Nat):Int))]
theorem nP {f:α→Nat→α} {L:Nat} {s z:α} {U:List α} (hs:s∈U) (hf:∀ q∈U,∀ x,x<L→f q x∈U):∃ n,n=(aH f L s z n).length:=by
 apply Classical.byContradiction
 intro yf
 have kA:∀ i,i≤(aH f L s z i).length:=by
  intro i
  induction i with
  | zero=>exact Nat.zero_le _
  | succ i ih=>
   have:i<(aH f L s z i).length:=Nat.lt_of_le_of_ne ih (fun e=>yf ⟨i,e⟩)
   obtain ⟨ys,e⟩:=si f L s z i
   rw [e,List.length_append];omega
 have h1:=kA (U.length+1)
 have h2:=q8 (z:=z) hs hf (U.length+1)
 omega
theorem rp {f:α→Nat→α} {L:Nat} {s z:α} {U:List α} (hs:s∈U) (hf:∀ q∈U,∀ x,x<L→f q x∈U) {q:α} (hq:q∈aH f L s z U.length) {x:Nat} (hx:x<L):f q x∈aH f L s z U.length:=by
 obtain ⟨n,hn⟩:=nP (z:=z) hs hf
 have h2:=(gV hs hf hn).1.symm
 rw [← h2] at hq ⊢
 obtain ⟨i,hi,e⟩:=fI z hq
 have h3:=jU hn
 have me:i<n:=by omega
 have h1:=h3 i me
 obtain ⟨ys,h4⟩:=fp f L s z i (n - i)
 rw [show i+(n - i)=n by omega] at h4
 have TT:(aH f L s z i).getD i z=q:=by rw [← gO z h1 (ys:=ys),← h4];exact e
 obtain ⟨zs,h5⟩:=fp f L s z (i+1) (n - (i+1))
 rw [show i+1+(n - (i+1))=n by omega,fm h1,TT] at h5
 rw [h5]
 apply List.mem_append_left
 have:∀ k,x<k→f q x∈gk f q (aH f L s z i) k:=by
  intro k
  induction k with
  | zero=>intro h;omega
  | succ k ih=>
   intro h
   by_cases Th:x=k
   ·subst Th;exact mE _ _
   ·exact sO (ih (by omega))
 exact this _ hx
theorem mL {f:α→Nat→α} {L:Nat} {s z:α}:∀ i,(aH f L s z i).getD 0 z=s∧s∈aH f L s z i
 | 0=>by simp [aH]
 | i+1=>by
  obtain ⟨ys,e⟩:=si f L s z i
  obtain ⟨h1,h2⟩:=mL (f:=f) (L:=L) (s:=s) (z:=z) i
  rw [e]
  exact ⟨by rw [gO z (tP f L s z i)];exact h1,List.mem_append_left _ h2⟩
end
def az (a b:bB) (p:Int × Int) (x:Nat):Int × Int:=(bC a p.1 x,bC b p.2 x)
def T7 (op:Int) (u v:Bool):Bool:=decide ((op / 2 ^ ((if u then 2 else 0)+(if v then 1 else 0):Int).toNat) % 2=1)
def JA (a b:bB) (op:Int) (p:Int × Int):Bool:=T7 op (c9 a p.1) (c9 b p.2)
def jY (m n:Nat):List (Int × Int):=(univ m).flatMap fun i=>(univ n).map fun j=>(i,j)
theorem iO {m n:Nat} {p:Int × Int}:p∈jY m n↔(0≤p.1∧p.1<m)∧(0≤p.2∧p.2<n):=by
 obtain ⟨i,j⟩:=p
 unfold jY
 rw [List.mem_flatMap]
 constructor
 ·rintro ⟨i',hi,hj⟩
  rw [List.mem_map] at hj
  obtain ⟨j',hj,e⟩:=hj
  cases e
  exact ⟨eR.1 hi,eR.1 hj⟩
 ·rintro ⟨h1,h2⟩
  exact ⟨i,eR.2 h1,List.mem_map.2 ⟨j,eR.2 h2,rfl⟩⟩
theorem tT (m n:Nat):(jY m n).length=m * n:=by
 unfold jY
 rw [List.length_flatMap]
 simp only [List.length_map,jo]
 rw [List.map_const']
 simp [jo]
theorem ri {a b:bB} (ha:VD a) (hb:VD b) (hL:a.L=b.L):∀ p∈jY a.fin.length b.fin.length,∀ x,x<a.L.toNat→az a b p x∈jY a.fin.length b.fin.length:=by
 intro p hp x hx
 rw [iO] at hp ⊢
 exact ⟨eR.1 (eG ha p.1 (eR.2 hp.1) x hx),eR.1 (eG hb p.2 (eR.2 hp.2) x (by omega))⟩
theorem pn {a b:bB} (ha:VD a) (hb:VD b):(a.s,b.s)∈jY a.fin.length b.fin.length:=iO.2 ⟨ha.s,hb.s⟩
def Yh (a b:bB):List (Int × Int):=aH (az a b) a.L.toNat (a.s,b.s) (0,0) (jY a.fin.length b.fin.length).length
def jB (a b:bB):Int:=if nk a ≠ 0 then nk a else if nk b ≠ 0 then nk b else if a.L ≠ b.L then 1 else 0
end Go.Sx
namespace Go.Sx
end Go.Sx
namespace Go.Sx
section
variable {α : Type} [DecidableEq α]
theorem GP {f:α→Nat→α} {L:Nat} {s z:α} {U:List α} {g:α→Bool} (hL:1≤L∧L≤6) (hs:s∈U) (hf:∀ q∈U,∀ x,x<L→f q x∈U) (hU:U.length≤512):VD (oh (L:Int) L (aH f L s z U.length) f g):=by
 have j9:=tP f L s z U.length
 have hb:=q8 (z:=z) hs hf U.length
 refine ⟨by simp only [oh];omega,by simp [oh];omega,by simp [oh],by simp [oh];omega,?_,?_⟩
 ·intro i hi
  have:i<(aH f L s z U.length).length:=by simpa [oh] using hi
  simp [oh,List.getD_eq_getElem?_getD,this]
 ·intro i x hi hx
  have h1:i<(aH f L s z U.length).length:=by simpa [oh] using hi
  have e:(oh (L:Int) L (aH f L s z U.length) f g).nx.getD i []=(List.range L).map fun x=>((bV (aH f L s z U.length) (f ((aH f L s z U.length).getD i z) x):Nat):Int):=by
   simp [oh,List.getD_eq_getElem?_getD,h1]
  rw [e] at hx ⊢
  have h2:x<L:=by simpa using hx
  have h3:=fg (rp hs hf (aX (d:=z) h1) h2)
  simp only [oh,List.length_map]
  have e2:((List.range L).map fun x=>((bV (aH f L s z U.length) (f ((aH f L s z U.length).getD i z) x):Nat):Int)).getD x 0=((bV (aH f L s z U.length) (f ((aH f L s z U.length).getD i z) x):Nat):Int):=by
   simp [List.getD_eq_getElem?_getD,h2]
  rw [e2];omega
def gi (f:α→Nat→α) (q:α) (l:List UInt8):α:=l.foldl (fun q c=>f q ((c.toNat:Int) - 97).toNat) q
theorem Bn {f:α→Nat→α} {L:Nat} {s z:α} {U:List α} {g:α→Bool} (Lv:Int) (hs:s∈U) (hf:∀ q∈U,∀ x,x<L→f q x∈U):∀ (l:List UInt8) (q:α),q∈aH f L s z U.length→l.all (okB (L:Int))=true →
  cV (oh Lv L (aH f L s z U.length) f g) ((bV (aH f L s z U.length) q:Nat):Int) l=((bV (aH f L s z U.length) (gi f q l):Nat):Int)∧gi f q l∈aH f L s z U.length
 | [],q,hq,_=>⟨rfl,hq⟩
 | c :: l,q,hq,h=>by
  rw [List.all_cons,Bool.and_eq_true] at h
  have hc:=h.1
  simp only [okB,decide_eq_true_eq] at hc
  have hx:((c.toNat:Int) - 97).toNat<L:=by omega
  have I2:=rp (z:=z) hs hf hq hx
  have:=Bn (g:=g) Lv hs hf l (f q ((c.toNat:Int) - 97).toNat) I2 h.2
  have e:oJ (oh Lv L (aH f L s z U.length) f g) ((bV (aH f L s z U.length) q:Nat):Int) c=((bV (aH f L s z U.length) (f q ((c.toNat:Int) - 97).toNat):Nat):Int):=by
   have h1:=fg hq
   have h2:=fL z hq
   have e1:(oh Lv L (aH f L s z U.length) f g).nx.getD (bV (aH f L s z U.length) q) []=(List.range L).map fun x=>((bV (aH f L s z U.length) (f q x):Nat):Int):=by
    rw [List.getD_eq_getElem?_getD] at h2 ⊢
    simp only [oh,List.getElem?_map]
    rw [List.getElem?_eq_getElem h1] at h2 ⊢
    simp only [Option.getD_some] at h2
    simp [h2]
   unfold oJ
   rw [Int.toNat_natCast,e1]
   simp [List.getD_eq_getElem?_getD,hx]
  show cV _ (oJ _ _ c) l=_∧_
  rw [e]
  exact this
end
theorem DG (d:bB) (l:List UInt8):∀ q,gi (bC d) q l=cV d q l:=by
 induction l with
 | nil=>intro q;rfl
 | cons c l ih=>intro q;exact ih _
theorem pq (a b:bB) (l:List UInt8):∀ p:Int × Int,gi (az a b) p l=(cV a p.1 l,cV b p.2 l):=by
 induction l with
 | nil=>intro p;rfl
 | cons c l ih=>intro p;exact ih _
end Go.Sx
namespace Go.Sx
end Go.Sx
namespace Go.Sx
theorem Dp:∀ {u v w:List UInt8},Op.bytesLess u v=true→Op.bytesLess v w=true→Op.bytesLess u w=true
 | _,_,[],_,h=>by cases h2:‹List UInt8› <;> simp [Op.bytesLess] at h
 | [],_,c :: w,_,_=>rfl
 | a :: u,[],c :: w,h,_=>by simp [Op.bytesLess] at h
 | a :: u,b :: v,c :: w,h,k=>by
  simp only [Op.bytesLess,Bool.or_eq_true,Bool.and_eq_true,decide_eq_true_eq,beq_iff_eq] at h k ⊢
  rcases h with h | ⟨rfl,h⟩
  ·rcases k with k | ⟨rfl,k⟩
   ·exact .inl (UInt8.lt_trans h k)
   ·exact .inl h
  ·rcases k with k | ⟨rfl,k⟩
   ·exact .inl k
   ·exact .inr ⟨rfl,Dp h k⟩
theorem KG:∀ {u v:List UInt8} (a b:List UInt8),u.length=v.length→Op.bytesLess u v=true→Op.bytesLess (u++a) (v++b)=true
 | [],[],a,b,_,h=>by simp [Op.bytesLess] at h
 | [],_ :: _,a,b,h,_=>by simp at h
 | _ :: _,[],a,b,h,_=>by simp at h
 | x :: u,y :: v,a,b,hl,h=>by
  simp only [List.cons_append,Op.bytesLess,Bool.or_eq_true,Bool.and_eq_true,decide_eq_true_eq,beq_iff_eq] at h ⊢
  rcases h with h | ⟨rfl,h⟩
  ·exact .inl h
  ·exact .inr ⟨rfl,KG a b (by simpa using hl) h⟩
theorem Ha:∀ (u:List UInt8) {a b:List UInt8},Op.bytesLess (u++a) (u++b)=Op.bytesLess a b
 | [],_,_=>rfl
 | x :: u,a,b=>by simp only [List.cons_append,Op.bytesLess,Ha u,UInt8.lt_irrefl];simp
def B1 (u v:List UInt8):Bool:=decide (u.length<v.length) || (decide (u.length=v.length) && Op.bytesLess u v)
theorem AP {u v:List UInt8}:B1 u v=true↔u.length<v.length∨(u.length=v.length∧Op.bytesLess u v=true):=by simp [B1]
theorem pP {u v w:List UInt8} (h:B1 u v=true) (k:B1 v w=true):B1 u w=true:=by
 rw [AP] at *
 rcases h with h | ⟨h,h2⟩
 ·rcases k with k | ⟨k,_⟩
  ·exact .inl (by omega)
  ·exact .inl (by omega)
 ·rcases k with k | ⟨k,k2⟩
  ·exact .inl (by omega)
  ·exact .inr ⟨by omega,Dp h2 k2⟩
theorem Gi {u v:List UInt8} (a b:UInt8) (h:B1 u v=true):B1 (u++[a]) (v++[b])=true:=by
 rw [AP] at *
 simp only [List.length_append,List.length_cons,List.length_nil]
 rcases h with h | ⟨h,h2⟩
 ·exact .inl (by omega)
 ·exact .inr ⟨by omega,KG _ _ h h2⟩
theorem K4 {u:List UInt8} {a b:UInt8} (h:a<b):B1 (u++[a]) (u++[b])=true:=by
 rw [AP];exact .inr ⟨by simp,by rw [Ha];simp [Op.bytesLess,h]⟩
theorem SB {x y:Nat} (h:x<y) (hy:y<128):mf x<mf y:=by
 rw [UInt8.lt_iff_toNat_lt,iP hy,iP (by omega)];omega
def sle (u v:List UInt8):Prop:=B1 u v=true∨u=v
theorem sle.trans {u v w:List UInt8} (h:sle u v) (k:sle v w):sle u w:=by
 rcases h with h | rfl
 ·rcases k with k | rfl
  ·exact .inl (pP h k)
  ·exact .inl h
 ·exact k
theorem sle.app {u v:List UInt8} (a:UInt8) (h:sle u v):sle (u++[a]) (v++[a]):=by
 rcases h with h | rfl
 ·exact .inl (Gi _ _ h)
 ·exact .inr rfl
def Jc (ws:List (List UInt8)):Prop:=ws.Pairwise fun u v=>B1 u v=true
theorem Jc.get {ws:List (List UInt8)} (h:Jc ws) {i j:Nat} (yq:i<j) (hj:j<ws.length):B1 (ws.getD i []) (ws.getD j [])=true:=by
 have:=List.pairwise_iff_getElem.1 h i j (by omega) hj yq
 simpa [List.getD_eq_getElem?_getD,show i<ws.length by omega,hj] using this
theorem Jc.snoc {ws:List (List UInt8)} (h:Jc ws) {w:List UInt8} (hw:∀ u∈ws,B1 u w=true):Jc (ws++[w]):=by
 unfold Jc;rw [List.pairwise_append]
 exact ⟨h,by simp,fun a ha b hb=>by simp at hb;subst hb;exact hw a ha⟩
section
variable {α : Type} [DecidableEq α]
theorem xx {f:α→Nat→α} {q:α} {wq:List UInt8} {l:List α} {ws:List (List UInt8)} (h:Jc ws) (h2:∀ w∈ws,B1 w (wq++[mf 0])=true):∀ k,k<128→Jc (jJ f q wq l ws k)∧∀ w∈jJ f q wq l ws k,B1 w (wq++[mf k])=true
 | 0,_=>⟨h,h2⟩
 | k+1,hk=>by
  obtain ⟨i1,i2⟩:=xx h h2 k (by omega)
  have hs:B1 (wq++[mf k]) (wq++[mf (k+1)])=true:=K4 (SB (by omega) hk)
  simp only [jJ]
  split
  ·exact ⟨i1,fun w hw=>pP (i2 w hw) hs⟩
  ·refine ⟨i1.snoc i2,fun w hw=>?_⟩
   rcases List.mem_append.1 hw with hw | hw
   ·exact pP (i2 w hw) hs
   ·simp at hw;subst hw;exact hs
theorem Dc (f:α→Nat→α) (L:Nat) (s z:α) (i:Nat):∃ ys,cX f L s z (i+1)=cX f L s z i++ys:=by
 simp only [cX];split
 ·exact C9 _ _ _ _ _ _
 ·exact ⟨[],by simp⟩
theorem mO (f:α→Nat→α) (L:Nat) (s z:α) (i:Nat):∀ m,∃ ys,cX f L s z (i+m)=cX f L s z i++ys
 | 0=>⟨[],by simp⟩
 | m+1=>by
  obtain ⟨ys,e⟩:=mO f L s z i m
  obtain ⟨zs,e2⟩:=Dc f L s z (i+m)
  exact ⟨ys++zs,by rw [show i+(m+1)=i+m+1 by omega,e2,e,List.append_assoc]⟩
theorem sS {xs ys:List (List UInt8)} {i:Nat} (h:i<xs.length):(xs++ys).getD i []=xs.getD i []:=by
 simp [List.getD_eq_getElem?_getD,List.getElem?_append,h]
theorem xz {f:α→Nat→α} {L:Nat} (hL:L<128) {s z:α}:∀ i,(∀ j,j<i→j<(aH f L s z j).length)→Jc (cX f L s z i)∧(i<(aH f L s z i).length→∀ w∈cX f L s z i,B1 w ((cX f L s z i).getD i []++[mf 0])=true)
 | 0,_=>⟨by simp [cX,Jc],fun _ w hw=>by simp [cX] at hw;subst hw;simp [cX,B1]⟩
 | i+1,h=>by
  have bZ:=h i (by omega)
  obtain ⟨i1,i2⟩:=xz hL i fun j hj=>h j (by omega)
  have hr:=xx (f:=f) (q:=(aH f L s z i).getD i z) (l:=aH f L s z i) i1 (i2 bZ) L hL
  rw [← uo bZ] at hr
  refine ⟨hr.1,fun hn w hw=>?_⟩
  have D3:=hr.2 w hw
  obtain ⟨ys,e⟩:=Dc f L s z i
  have e2:(cX f L s z i).getD i []=(cX f L s z (i+1)).getD i []:=by rw [e,sS (by rw [fj];exact bZ)]
  rw [e2] at D3
  exact pP D3 (Gi _ _ (hr.1.get (by omega) (by rw [fj];exact hn)))
omit [DecidableEq α] in
theorem xQ (f:α→Nat→α) (q:α) (l:List UInt8) (c:UInt8):gi f q (l++[c])=f (gi f q l) ((c.toNat:Int) - 97).toNat:=by
 unfold gi;rw [List.foldl_append];rfl
theorem A6 {x:Nat} (h:x<128):(((mf x).toNat:Int) - 97).toNat=x:=by rw [iP h];omega
theorem zG {f:α→Nat→α} {s q:α} {wq:List UInt8} {l:List α} {ws:List (List UInt8)} (h:ws.map (gi f s)=l) (hq:gi f s wq=q):∀ k,k<128→(jJ f q wq l ws k).map (gi f s)=gk f q l k
 | 0,_=>h
 | k+1,hk=>by
  have ih:=zG (ws:=ws) h hq k (by omega)
  simp only [jJ,gk,dY]
  split
  ·exact ih
  ·rw [List.map_append,ih,List.map_singleton,xQ,hq,A6 (by omega)]
theorem ur {f:α→Nat→α} {L:Nat} (hL:L<128) {s z:α}:∀ i,(cX f L s z i).map (gi f s)=aH f L s z i
 | 0=>rfl
 | i+1=>by
  have ih:=ur hL (f:=f) (s:=s) (z:=z) i
  simp only [cX,aH]
  split
  ·rename_i bZ
   refine zG ih ?_ L hL
   have hl:i<(cX f L s z i).length:=by rw [fj];exact bZ
   conv=>rhs;rw [← ih]
   simp [List.getD_eq_getElem?_getD,hl]
  ·exact ih
theorem Da {f:α→Nat→α} {q:α} {wq:List UInt8} {l:List α} {ws:List (List UInt8)} {Lv:Int} (h:∀ w∈ws,w.all (okB Lv)=true) (hq:wq.all (okB Lv)=true) (hLv:Lv≤100):∀ k:Nat,(k:Int)≤Lv→∀ w∈jJ f q wq l ws k,w.all (okB Lv)=true
 | 0,_=>h
 | k+1,hk=>by
  have ih:=Da (f:=f) (q:=q) (l:=l) h hq hLv k (by omega)
  simp only [jJ]
  split
  ·exact ih
  ·intro w hw
   rcases List.mem_append.1 hw with hw | hw
   ·exact ih w hw
   ·simp at hw;subst hw
    rw [List.all_append,hq,Bool.true_and,List.all_cons,List.all_nil,Bool.and_true,okB,iP (by omega),decide_eq_true_eq];omega
theorem xA {f:α→Nat→α} {L:Nat} (hL:L≤100) {s z:α}:∀ i,∀ w∈cX f L s z i,w.all (okB (L:Int))=true
 | 0=>fun w hw=>by simp [cX] at hw;subst hw;rfl
 | i+1=>by
  have ih:=xA hL (f:=f) (s:=s) (z:=z) i
  simp only [cX]
  split
  ·rename_i bZ
   refine Da ih (ih _ ?_) (by omega) L (Int.le_refl _)
   have hl:i<(cX f L s z i).length:=by rw [fj];exact bZ
   simp [List.getD_eq_getElem?_getD,hl]
  ·exact ih
theorem Db (f:α→Nat→α) (q:α) (l:List α) (k:Nat):∀ m,∃ ys,gk f q l (k+m)=gk f q l k++ys
 | 0=>⟨[],by simp⟩
 | m+1=>by
  obtain ⟨ys,e⟩:=Db f q l k m
  obtain ⟨zs,e2⟩:=o8 (gk f q l (k+m)) (f q (k+m))
  refine ⟨ys++zs,?_⟩
  show dY (gk f q l (k+m)) (f q (k+m))=_
  rw [e2,e,List.append_assoc]
theorem zF (f:α→Nat→α) (q:α) (wq:List UInt8) (l:List α) (ws:List (List UInt8)) (k:Nat):∀ m,∃ ys,jJ f q wq l ws (k+m)=jJ f q wq l ws k++ys
 | 0=>⟨[],by simp⟩
 | m+1=>by
  obtain ⟨ys,e⟩:=zF f q wq l ws k m
  show ∃ ys,jJ f q wq l ws (k+m+1)=_
  simp only [jJ]
  split
  ·exact ⟨ys,e⟩
  ·exact ⟨ys++[wq++[mf (k+m)]],by rw [e,List.append_assoc]⟩
theorem SU {f:α→Nat→α} {L:Nat} {s z:α} {n i k:Nat} (hn:n=(aH f L s z n).length) (hi:i<n) (hk:k≤L) :
  (∃ ys,aH f L s z n=gk f ((aH f L s z i).getD i z) (aH f L s z i) k++ys)∧∃ ys,cX f L s z n=jJ f ((aH f L s z i).getD i z) ((cX f L s z i).getD i []) (aH f L s z i) (cX f L s z i) k++ys:=by
 have bZ:=jU hn i hi
 refine ⟨?_,?_⟩
 ·obtain ⟨ys,e⟩:=fp f L s z (i+1) (n - (i+1))
  obtain ⟨zs,e2⟩:=Db f ((aH f L s z i).getD i z) (aH f L s z i) k (L - k)
  rw [show i+1+(n - (i+1))=n by omega,fm bZ] at e
  rw [show k+(L - k)=L by omega] at e2
  exact ⟨zs++ys,by rw [e,e2,List.append_assoc]⟩
 ·obtain ⟨ys,e⟩:=mO f L s z (i+1) (n - (i+1))
  obtain ⟨zs,e2⟩:=zF f ((aH f L s z i).getD i z) ((cX f L s z i).getD i []) (aH f L s z i) (cX f L s z i) k (L - k)
  rw [show i+1+(n - (i+1))=n by omega,uo bZ] at e
  rw [show k+(L - k)=L by omega] at e2
  exact ⟨zs++ys,by rw [e,e2,List.append_assoc]⟩
theorem SX {f:α→Nat→α} {L:Nat} {s z:α} {n i:Nat} (hn:n=(aH f L s z n).length) (hi:i<n):(aH f L s z n).getD i z=(aH f L s z i).getD i z∧(cX f L s z n).getD i []=(cX f L s z i).getD i []:=by
 have bZ:=jU hn i hi
 obtain ⟨ys,e⟩:=fp f L s z i (n - i)
 obtain ⟨zs,e2⟩:=mO f L s z i (n - i)
 rw [show i+(n - i)=n by omega] at e e2
 exact ⟨by rw [e,gO z bZ],by rw [e2,sS (by rw [fj];exact bZ)]⟩
theorem Iz {f:α→Nat→α} {L:Nat} (hL:L<128) {s z:α} {n i x:Nat} (hn:n=(aH f L s z n).length) (hi:i<n) (hx:x<L) :
  sle ((cX f L s z n).getD (bV (aH f L s z n) (f ((aH f L s z n).getD i z) x)) []) ((cX f L s z n).getD i []++[mf x]):=by
 have bZ:=jU hn i hi
 obtain ⟨e1,e2⟩:=SX hn hi
 rw [e1,e2]
 obtain ⟨⟨ys,p1⟩,zs,p2⟩:=SU hn hi (k:=x+1) (by omega)
 obtain ⟨s1,s2⟩:=xz (z:=z) hL i fun j hj=>jU hn j (by omega)
 have hr:=xx (f:=f) (q:=(aH f L s z i).getD i z) (l:=aH f L s z i) s1 (s2 bZ) x (by omega)
 have hl:=sU (f:=f) (q:=(aH f L s z i).getD i z) (wq:=(cX f L s z i).getD i []) (fj (f:=f) (L:=L) (s:=s) (z:=z) i)
 have hm:f ((aH f L s z i).getD i z) x∈gk f ((aH f L s z i).getD i z) (aH f L s z i) (x+1):=mE _ _
 rw [p1,lM _ hm,p2,sS (by rw [hl];exact fg hm)]
 simp only [gk,jJ]
 by_cases h:f ((aH f L s z i).getD i z) x∈gk f ((aH f L s z i).getD i z) (aH f L s z i) x
 ·rw [if_pos h,show dY (gk f ((aH f L s z i).getD i z) (aH f L s z i) x) (f ((aH f L s z i).getD i z) x)=gk f ((aH f L s z i).getD i z) (aH f L s z i) x from if_pos h]
  have hp:=fg h
  rw [← hl x] at hp
  exact .inl (hr.2 _ (aX (d:=[]) hp))
 ·rw [if_neg h,show dY (gk f ((aH f L s z i).getD i z) (aH f L s z i) x) (f ((aH f L s z i).getD i z) x)=gk f ((aH f L s z i).getD i z) (aH f L s z i) x++[f ((aH f L s z i).getD i z) x] from if_neg h]
  have e:bV (gk f ((aH f L s z i).getD i z) (aH f L s z i) x++[f ((aH f L s z i).getD i z) x]) (f ((aH f L s z i).getD i z) x)=(gk f ((aH f L s z i).getD i z) (aH f L s z i) x).length:=by
   have:∀ (xs:List α) (y:α),y ∉ xs→bV (xs++[y]) y=xs.length:=fun xs y hy=>by
    induction xs with
    | nil=>simp [bV]
    | cons b xs ih=>
     simp only [List.mem_cons,not_or] at hy
     simp only [List.cons_append,bV,if_neg hy.1,ih hy.2,List.length_cons]
   exact this _ _ h
  rw [e,← hl x]
  refine .inr ?_
  simp [List.getD_eq_getElem?_getD]
theorem Dd {f:α→Nat→α} {L:Nat} (hL:L<128) {s z:α} {n:Nat} (hn:n=(aH f L s z n).length) (hc:∀ q∈aH f L s z n,∀ x,x<L→f q x∈aH f L s z n) (XD:s∈aH f L s z n∧bV (aH f L s z n) s=0) :
  ∀ (m:Nat) (l:List UInt8),l.length=m→l.all (okB (L:Int))=true→gi f s l∈aH f L s z n∧sle ((cX f L s z n).getD (bV (aH f L s z n) (gi f s l)) []) l
 | 0,l,hl,_=>by
  have:l=[]:=List.length_eq_zero_iff.1 hl
  subst this
  refine ⟨XD.1,?_⟩
  show sle ((cX f L s z n).getD (bV (aH f L s z n) s) []) []
  rw [XD.2]
  obtain ⟨ys,e⟩:=mO f L s z 0 n
  rw [Nat.zero_add] at e
  rw [e];exact .inr rfl
 | m+1,l,hl,ha=>by
  have j9:l ≠ []:=by intro e;subst e;simp at hl
  obtain ⟨c,l',e⟩:∃ c l',l=l'++[c]:=⟨l.getLast j9,l.dropLast,(List.dropLast_concat_getLast j9).symm⟩
  subst e
  rw [List.all_append,Bool.and_eq_true] at ha
  have ih:=Dd hL hn hc XD m l' (by simpa using hl) ha.1
  have BT:okB (L:Int) c=true:=by simpa using ha.2
  simp only [okB,decide_eq_true_eq] at BT
  rw [xQ]
  have hx:((c.toNat:Int) - 97).toNat<L:=by omega
  refine ⟨hc _ ih.1 _ hx,?_⟩
  have hp:=fg ih.1
  have h:=Iz (z:=z) hL hn (i:=bV (aH f L s z n) (gi f s l')) (Nat.lt_of_lt_of_eq hp hn.symm) hx
  rw [fL z ih.1] at h
  have ec:mf ((c.toNat:Int) - 97).toNat=c:=by
   apply UInt8.toNat_inj.1
   rw [iP (by omega)];omega
  rw [ec] at h
  exact h.trans (ih.2.app c)
end
theorem pB {d:bB} (hv:VD d):(eU d).length=(aH (bC d) d.L.toNat d.s 0 (eU d).length).length∧aH (bC d) d.L.toNat d.s 0 (eU d).length=eU d∧cX (bC d) d.L.toNat d.s 0 (eU d).length=Jb d:=by
 obtain ⟨n,hn⟩:=nP (z:=(0:Int)) (fx hv) (eG hv)
 have h1:=(gV (fx hv) (eG hv) hn).1
 have h2:=rz (fx hv) (eG hv) hn
 rw [jo] at h1 h2
 have e1:eU d=aH (bC d) d.L.toNat d.s 0 n:=h1
 have e2:Jb d=cX (bC d) d.L.toNat d.s 0 n:=h2
 have e3:(eU d).length=n:=by rw [e1];exact hn.symm
 rw [e3]
 exact ⟨hn,e1.symm,e2.symm⟩
theorem Ge {d:bB} (hv:VD d):(Jb d).length=(eU d).length:=by
 obtain ⟨h1,h2,h3⟩:=pB hv
 rw [← h3,fj,h2]
theorem mJ {d:bB} (hv:VD d):d.s∈eU d∧bV (eU d) d.s=0:=by
 obtain ⟨h1,h2,h3⟩:=pB hv
 obtain ⟨ys,e⟩:=fp (bC d) d.L.toNat d.s 0 0 (eU d).length
 rw [Nat.zero_add,h2] at e
 rw [e];simp [aH,bV]
theorem Ns {d:bB} (hv:VD d):(Jb d).map (cV d d.s)=eU d:=by
 obtain ⟨h1,h2,h3⟩:=pB hv
 have h:=ur (f:=bC d) (L:=d.L.toNat) (by have:=hv.L;omega) (s:=d.s) (z:=0) (eU d).length
 rw [h2,h3] at h
 rw [← h]
 exact List.map_congr_left fun l _=>(DG d l d.s).symm
theorem RU {d:bB} (hv:VD d) {i:Nat} (hi:i<(eU d).length):gK d.L ((Jb d).getD i [])=true∧cV d d.s ((Jb d).getD i [])=(eU d).getD i 0:=by
 obtain ⟨h1,h2,h3⟩:=pB hv
 have hL:=hv.L
 have hl:i<(Jb d).length:=by rw [Ge hv];exact hi
 have hm:(Jb d).getD i []∈Jb d:=aX hl
 have e:((d.L.toNat:Nat):Int)=d.L:=by omega
 have ha:=xA (f:=bC d) (L:=d.L.toNat) (by omega) (s:=d.s) (z:=0) (eU d).length _ (by rw [h3];exact hm)
 have hd:=mH (f:=bC d) (L:=d.L.toNat) (s:=d.s) (z:=0) (eU d).length _ (by rw [h3];exact hm)
 have hn:=(oW hv).2.2.1
 have:=hv.n
 rw [e] at ha
 refine ⟨by unfold gK;rw [ha,Bool.and_true,decide_eq_true_eq];omega,?_⟩
 have hr:=Ns hv
 conv=>rhs;rw [← hr]
 simp [List.getD_eq_getElem?_getD,hl]
end Go.Sx
namespace Go.Sx
theorem vD {d:bB} (hv:VD d):VD (au d):=by
 have hL:=hv.L
 have h:=GP (z:=(0:Int)) (L:=d.L.toNat) (g:=c9 d) (by omega) (fx hv) (eG hv) (by rw [jo];exact hv.n)
 have e:((d.L.toNat:Nat):Int)=d.L:=by omega
 rw [e,jo] at h
 exact h
end Go.Sx
namespace Go.Sx
def kb (d:bB) (l:List UInt8):Prop:=l.all (okB d.L)=true
theorem kb.app {d:bB} {u v:List UInt8} (hu:kb d u) (hv:kb d v):kb d (u++v):=by unfold kb at *;rw [List.all_append,hu,hv];rfl
def na (d:bB) (q:Int):Prop:=0≤q∧q<d.fin.length
theorem mw {d:bB} (hv:VD d):∀ (l:List UInt8) (q:Int),na d q→kb d l→na d (cV d q l)
 | [],q,hq,_=>hq
 | c :: l,q,hq,h=>by
  unfold kb at h;rw [List.all_cons,Bool.and_eq_true] at h
  exact mw hv l (oJ d q c) (KX hv hq h.1) h.2
theorem A2 {L:Int} (hL:1≤L∧L≤6) {x:Nat} (hx:(x:Int)<L):okB L (mf x)=true:=by
 rw [okB,iP (by omega),decide_eq_true_eq];omega
theorem y3 {d:bB} {q:Int} {x:Nat} (hx:x<128):oJ d q (mf x)=bC d q x:=by
 unfold oJ bC;rw [A6 hx]
end Go.Sx
namespace Go.Sx
open Go.RowKit
abbrev cF:=BitVec 64
def uv (x:cF):Value:=.int .u64 (x.toNat:Int)
theorem tS (n:Nat):IntKind.u64.wrap (n:Int)=((n % 2 ^ 64:Nat):Int):=by
 simp only [IntKind.wrap,IntKind.bits,IntKind.signed,Bool.false_eq_true,if_false]
 simp [Int.emod_emod_of_dvd]
theorem w5 (x:cF):BitVec.ofInt 64 (x.toNat:Int)=x:=by
 apply BitVec.eq_of_toNat_eq
 rw [BitVec.toNat_ofInt]
 have:=x.isLt
 omega
theorem AE (x:cF):IntKind.u64.wrap ((x.toNat:Nat):Int)=(x.toNat:Int):=by
 rw [tS,Nat.mod_eq_of_lt x.isLt]
section
variable {C : Cx} {sl : List (Nat × Value)} {own : List bk} {dst : Option Nat} {ty : TypeId} {pos : String} {aft : Array Edge} {g : Option (Nat × Bool)} {x y : Operand} {t t' : TypeId} {a b : cF}
theorem Yl.HH (hx:bO ⟨sl,own⟩ x=some (uv a)) (hy:bO ⟨sl,own⟩ y=some (uv b)):Yl C ⟨sl,own⟩ ⟨dst,.binOp .and t x y t',ty,pos,aft,g⟩ (uv (a &&& b)):=
 fun act w hs=>by
  simp only [execOp,aq hs hx,aq hs hy,uv]
  simp [go_sem,binOp,Op.intBits,IntKind.bits,w5,AE,-BitVec.toNat_and]
  rfl
theorem Yl.IZ (hx:bO ⟨sl,own⟩ x=some (uv a)) (hy:bO ⟨sl,own⟩ y=some (uv b)):Yl C ⟨sl,own⟩ ⟨dst,.binOp .or t x y t',ty,pos,aft,g⟩ (uv (a ||| b)):=
 fun act w hs=>by
  simp only [execOp,aq hs hx,aq hs hy,uv]
  simp [go_sem,binOp,Op.intBits,IntKind.bits,w5,AE,-BitVec.toNat_or]
  rfl
theorem Yl.Hc (hx:bO ⟨sl,own⟩ x=some (uv a)) (hy:bO ⟨sl,own⟩ y=some (uv b)):Yl C ⟨sl,own⟩ ⟨dst,.binOp .andNot t x y t',ty,pos,aft,g⟩ (uv (a &&& ~~~b)):=
 fun act w hs=>by
  simp only [execOp,aq hs hx,aq hs hy,uv]
  simp [go_sem,binOp,Op.intBits,IntKind.bits,w5,AE,-BitVec.toNat_and,-BitVec.toNat_not]
  rfl
theorem NC (a:cF) (n:Nat):((a.toNat * 2 ^ (min n 64)) % 2 ^ 64)=(a <<< n).toNat:=by
 rw [BitVec.toNat_shiftLeft,Nat.shiftLeft_eq]
 by_cases h:n≤64
 ·rw [Nat.min_eq_left h]
 ·rw [Nat.min_eq_right (by omega)]
  have h1:a.toNat * 2 ^ 64 % 2 ^ 64=0:=Nat.mul_mod_left _ _
  have h2:2 ^ n=2 ^ (n - 64) * 2 ^ 64:=by rw [← Nat.pow_add];congr 1;omega
  rw [h1,h2,← Nat.mul_assoc,Nat.mul_mod_left]
theorem NB (a:cF) (n:Nat):a.toNat / 2 ^ (min n 64)=(a >>> n).toNat:=by
 rw [BitVec.toNat_ushiftRight,Nat.shiftRight_eq_div_pow]
 by_cases h:n≤64
 ·rw [Nat.min_eq_left h]
 ·rw [Nat.min_eq_right (by omega)]
  have h2:2 ^ 64≤2 ^ n:=Nat.pow_le_pow_right (by omega) (by omega)
  rw [Nat.div_eq_of_lt a.isLt,Nat.div_eq_of_lt (Nat.lt_of_lt_of_le a.isLt h2)]
theorem Yl.D8 {k:IntKind} {n:Int} (hx:bO ⟨sl,own⟩ x=some (uv a)) (hy:bO ⟨sl,own⟩ y=some (.int k n)) (hn:0≤n):Yl C ⟨sl,own⟩ ⟨dst,.binOp .shl t x y t',ty,pos,aft,g⟩ (uv (a <<< n.toNat)):=
 fun act w hs=>by
  have h2:¬ n<0:=by omega
  have h3:IntKind.u64.wrap ((a.toNat:Int) * 2 ^ (Min.min n.toNat 64))=((a <<< n.toNat).toNat:Int):=by
   rw [← NC,← tS];simp
  simp only [execOp,aq hs hx,aq hs hy,uv]
  simp [go_sem,binOp,Op.shift,IntKind.bits,h2,h3,-BitVec.toNat_shiftLeft]
theorem Yl.Uf {k:IntKind} {n:Int} (hx:bO ⟨sl,own⟩ x=some (uv a)) (hy:bO ⟨sl,own⟩ y=some (.int k n)) (hn:0≤n):Yl C ⟨sl,own⟩ ⟨dst,.binOp .shr t x y t',ty,pos,aft,g⟩ (uv (a >>> n.toNat)):=
 fun act w hs=>by
  have h2:¬ n<0:=by omega
  have h3:(a.toNat:Int).fdiv (2 ^ (Min.min n.toNat 64))=((a >>> n.toNat).toNat:Int):=by
   rw [Int.fdiv_eq_ediv_of_nonneg _ (Int.pow_nonneg (by decide)),← NB];simp
  simp only [execOp,aq hs hx,aq hs hy,uv]
  simp [go_sem,binOp,Op.shift,IntKind.bits,h2,h3,-BitVec.toNat_ushiftRight]
theorem Yl.Je (hx:bO ⟨sl,own⟩ x=some (uv a)) (hy:bO ⟨sl,own⟩ y=some (uv b)):Yl C ⟨sl,own⟩ ⟨dst,.binOp .sub t x y t',ty,pos,aft,g⟩ (uv (a - b)):=
 fun act w hs=>by
  have h3:IntKind.u64.wrap ((a.toNat:Int) - b.toNat)=((a - b).toNat:Int):=by
   have h1:=a.isLt;have h2:=b.isLt
   have h4:IntKind.u64.wrap ((a.toNat:Int) - b.toNat)=((a.toNat:Int) - b.toNat) % 2 ^ 64:=by simp [IntKind.wrap,IntKind.bits,IntKind.signed]
   rw [h4,BitVec.toNat_sub]
   omega
  simp only [execOp,aq hs hx,aq hs hy,uv]
  simp [go_sem,Op.intArith,h3,-BitVec.toNat_sub]
theorem Yl.UC (hx:bO ⟨sl,own⟩ x=some (uv a)) (hy:bO ⟨sl,own⟩ y=some (uv b)):Yl C ⟨sl,own⟩ ⟨dst,.binOp .eql t x y t',ty,pos,aft,g⟩ (.bool (decide (a=b))):=
 Yl.iW (Yl.eql hx hy) (congrArg Value.bool (decide_eq_decide.2 ⟨fun h=>BitVec.eq_of_toNat_eq (by omega),fun h=>by rw [h]⟩))
theorem Yl.Jm (hx:bO ⟨sl,own⟩ x=some (uv a)) (hy:bO ⟨sl,own⟩ y=some (uv b)):Yl C ⟨sl,own⟩ ⟨dst,.binOp .neq t x y t',ty,pos,aft,g⟩ (.bool (decide (a ≠ b))):=
 Yl.iW (Yl.neq hx hy) (congrArg Value.bool (decide_eq_decide.2 ⟨fun h e=>h (by rw [e]),fun h e=>h (BitVec.eq_of_toNat_eq (by omega))⟩))
end
def uz (a:cF):Int:=(a.toNat:Int)
theorem RR {a b:cF} (h:uz a=uz b):a=b:=BitVec.eq_of_toNat_eq (by unfold uz at h;omega)
theorem C8 {α β:Type} [DecidableEq α] [DecidableEq β] (f:α→β) (hf:∀ a b,f a=f b→a=b) (a:α):∀ ks:List α,iU (f a) (ks.map f)=iU a ks
 | []=>rfl
 | k :: ks=>by
  have ih:=C8 f hf a ks
  simp only [List.map_cons,iU,ih]
  by_cases h:a=k
  ·rw [if_pos h,if_pos (congrArg f h)]
  ·rw [if_neg h,if_neg (fun e=>h (hf _ _ e))]
theorem M6 {P:Program} {kt:TypeId} (hk:P.underlying kt=some (.int .u64)):yA P kt uv where
 find:=fun a es ks w h=>by
  have h2:=(ny hk).find (uz a) es (ks.map uz) w (by rw [h,List.map_map];rfl)
  rw [C8 uz (fun a b=>RR)] at h2
  exact h2
 check:=fun e a w=>(ny hk).check e (uz a) w
 same:=fun a=>(ny hk).same (uz a)
end Go.Sx
namespace Go.Sx
open Go.RowKit
abbrev iV:=Int × Int × Int
def BW (e:iV):List Value:=[.int .i64 e.1,.int .i64 e.2.1,.int .i64 e.2.2]
def ev (e:iV):Value:=.agg #[.int .i64 e.1,.int .i64 e.2.1,.int .i64 e.2.2]
def rE (es:List iV):List Value:=es.flatMap BW
theorem xT (l:List iV):(rE l).length=l.length * 3:=by
 induction l with
 | nil=>rfl
 | cons p ps ih=>simp only [rE,BW,List.flatMap_cons,List.length_append,List.length_cons,List.length_nil] at ih ⊢;omega
theorem Fc (a b:List iV):rE (a++b)=rE a++rE b:=by simp [rE]
theorem Df (l:List iV) (e:iV):rE (l++[e])=rE l++BW e:=by simp [rE]
theorem SY (ps:List iV) (j:Nat) (h:j<ps.length):((rE ps).drop (j * 3)).take 3=BW (ps.getD j (0,0,0)):=by
 have h1:ps=ps.take j++ps.getD j (0,0,0) :: ps.drop (j+1):=by
  rw [List.getD_eq_getElem?_getD,List.getElem?_eq_getElem h,Option.getD_some,List.getElem_cons_drop,List.take_append_drop]
 have h2:(rE (ps.take j)).length=j * 3:=by rw [xT,List.length_take];omega
 conv=>lhs;rw [h1]
 rw [Fc,← h2,List.drop_left]
 simp [rE,BW]
theorem BB (c:iV):qN (BW c):=by
 intro u hu
 simp only [BW,List.mem_cons,List.not_mem_nil,or_false] at hu
 rcases hu with rfl | rfl | rfl <;> rfl
structure kc where
 L:Int
 S:Int
 st:cF
 fi:cF
 es:List iV
def MB (F:Nat→Prop) (w:World) (v:Value) (n:kc):Prop:=∃ vE,v = .agg #[.int .i64 n.L,.int .i64 n.S,uv n.st,uv n.fi,vE]∧Rd (fun b=>¬ F b) w vE 3 n.es.length (rE n.es)
theorem MB.at {C:Cx} {on:List bk} {w:World} {v:Value} {n:kc} (h:MB C.S C.W0 v n) (hw:HW C on w):MB (fun _=>False) w v n:=by
 obtain ⟨vE,h1,h2⟩:=h
 exact ⟨vE,h1,Rd.Ce h2 hw.frame (fun _ _ _=>id)⟩
def below (n:Int):cF:=((1:cF) <<< n.toNat) - 1
theorem mQ {n:Int} (hn:0≤n∧n≤64) (i:Nat) (hi:i<64):(below n).getLsbD i=decide ((i:Int)<n):=by
 obtain ⟨m,rfl⟩:=Int.eq_ofNat_of_zero_le hn.1
 have hm:m≤64:=by omega
 unfold below
 rw [Int.toNat_natCast]
 have e:(1:cF) <<< m - 1=BitVec.ofNat 64 (2 ^ m - 1):=by
  apply BitVec.eq_of_toNat_eq
  rw [BitVec.toNat_sub,BitVec.toNat_shiftLeft,BitVec.toNat_ofNat]
  have h1:(1:cF).toNat=1:=by decide
  rw [h1,Nat.shiftLeft_eq,Nat.one_mul]
  have h2:2 ^ m≤2 ^ 64:=Nat.pow_le_pow_right (by omega) hm
  have h3:0<2 ^ m:=Nat.pow_pos (by omega)
  by_cases hk:m=64
  ·subst hk;decide
  ·have h4:2 ^ m<2 ^ 64:=Nat.pow_lt_pow_right (by omega) (by omega)
   rw [Nat.mod_eq_of_lt h4]
   omega
 rw [e,BitVec.getLsbD_ofNat,Nat.testBit_two_pow_sub_one]
 simp [hi]
def wj (n:kc) (k:Nat):Bool:=
 let e:=n.es.getD k (0,0,0)
 decide (e.1<0∨e.1 ≥ n.S∨e.2.2<0∨e.2.2 ≥ n.S∨e.2.1<0∨e.2.1 ≥ n.L)
def qf (a b:iV):Bool:=if a.1 ≠ b.1 then decide (a.1<b.1) else if a.2.1 ≠ b.2.1 then decide (a.2.1<b.2.1) else decide (a.2.2<b.2.2)
def qT (n:kc) (k:Nat):Bool:=wj n k || (decide (0<k) && !qf (n.es.getD (k - 1) (0,0,0)) (n.es.getD k (0,0,0)))
def qR (n:kc):Int:=
 if ¬ (1≤n.L∧n.L≤6)∨n.S<0∨n.S > 64 then 1
 else if (n.st ||| n.fi) &&& ~~~(below n.S) ≠ 0 then 4
 else if (List.range n.es.length).any (qT n) then 4 else 0
structure VN (n:kc):Prop where
 L:1≤n.L∧n.L≤6
 S:0≤n.S∧n.S≤64
 st:(n.st ||| n.fi) &&& ~~~(below n.S)=0
 ed:∀ k,k<n.es.length→qT n k=false
theorem L4 {n:kc}:qR n=0↔VN n:=by
 unfold qR
 constructor
 ·intro h
  split at h
  ·cases h
  ·split at h
   ·cases h
   ·split at h
    ·cases h
    ·rename_i h1 h2 h3
     refine ⟨by omega,by omega,Decidable.not_not.1 h2,fun k hk=>?_⟩
     rw [Bool.not_eq_true,List.any_eq_false] at h3
     have:=h3 k (List.mem_range.2 hk)
     simpa using this
 ·intro h
  have h1:=h.L;have h2:=h.S
  rw [if_neg (by omega),if_neg (fun k=>k h.st),if_neg]
  rw [Bool.not_eq_true,List.any_eq_false]
  intro k hk
  rw [h.ed k (List.mem_range.1 hk)];decide
theorem VN.Cl {n:kc} (h:VN n) {k:Nat} (hk:k<n.es.length):0≤(n.es.getD k (0,0,0)).1∧(n.es.getD k (0,0,0)).1<n.S∧0≤(n.es.getD k (0,0,0)).2.1∧(n.es.getD k (0,0,0)).2.1<n.L∧0≤(n.es.getD k (0,0,0)).2.2∧(n.es.getD k (0,0,0)).2.2<n.S:=by
 have:=h.ed k hk
 unfold qT at this
 rw [Bool.or_eq_false_iff] at this
 have h1:=this.1
 unfold wj at h1
 have h2:=of_decide_eq_false h1
 omega
end Go.Sx
