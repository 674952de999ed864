import Derived.Test.YtbibnpdnmmgacaaGreatDoorJZb
import Derived.Laws.Cover3
set_option linter.unusedVariables false
set_option linter.unusedSimpArgs false
set_option maxRecDepth 100000
namespace Go.Sx
def badQ (n:Int) (q:Int):Bool:=decide (q<0) || decide (n≤q)
def badRow (n L:Int) (r:List Int):Bool:=decide ((r.length:Int) ≠ L) || r.any (badQ n)
def errV (d:Dfa):Int:=
 if d.L<1∨6<d.L then 1
 else if 512<d.fin.length then 3
 else if d.nx.length ≠ d.fin.length∨d.s<0∨(d.fin.length:Int)≤d.s then 4
 else if d.nx.any (badRow d.fin.length d.L) then 4 else 0
theorem any_take_succ {α:Type} (p:α→Bool) (d:α) {xs:List α} {k:Nat} (hk:k<xs.length) (h:(xs.take k).any p=false) (h1:p (xs.getD k d)=false):(xs.take (k+1)).any p=false:=by
 rw [take_snocD d xs k hk,List.any_append,h,List.any_cons,h1];rfl
theorem any_at {α:Type} (p:α→Bool) (d:α) {xs:List α} {k:Nat} (hk:k<xs.length) (h1:p (xs.getD k d)=true):xs.any p=true:=by
 rw [List.any_eq_true]
 refine ⟨xs.getD k d,?_,h1⟩
 rw [List.getD_eq_getElem?_getD,List.getElem?_eq_getElem hk];simp
structure VD (d:Dfa):Prop where
 L:1≤d.L∧d.L≤6
 n:d.fin.length≤512
 nx:d.nx.length=d.fin.length
 s:0≤d.s∧d.s<d.fin.length
 row:∀ i,i<d.fin.length→((d.nx.getD i []).length:Int)=d.L
 to:∀ i x,i<d.fin.length→x<(d.nx.getD i []).length→0≤(d.nx.getD i []).getD x 0∧(d.nx.getD i []).getD x 0<d.fin.length
theorem getD_mem {α:Type} {d:α} {xs:List α} {k:Nat} (hk:k<xs.length):xs.getD k d∈xs:=by
 rw [List.getD_eq_getElem?_getD,List.getElem?_eq_getElem hk];simp
theorem mem_getD {α:Type} (d:α) {xs:List α} {a:α} (h:a∈xs):∃ k,k<xs.length∧xs.getD k d=a:=by
 obtain ⟨k,hk,e⟩:=List.mem_iff_getElem.1 h
 exact ⟨k,hk,by rw [List.getD_eq_getElem?_getD,List.getElem?_eq_getElem hk];simpa using e⟩
theorem errV_iff (d:Dfa):errV d=0↔VD d:=by
 unfold errV
 constructor
 ·intro h
  split at h
  ·omega
  ·split at h
   ·omega
   ·split at h
    ·omega
    ·split at h
     ·omega
     ·rename_i h1 h2 h3 h4
      have h5:∀ i,i<d.fin.length→badRow d.fin.length d.L (d.nx.getD i [])=false:=fun i hi=>by
       cases hb:badRow d.fin.length d.L (d.nx.getD i []) with
       | false=>rfl
       | true=>exact absurd (any_at _ [] (by omega) hb) h4
      refine ⟨by omega,by omega,by omega,by omega,fun i hi=>?_,fun i x hi hx=>?_⟩
      ·have:=h5 i hi
       simp only [badRow,Bool.or_eq_false_iff,decide_eq_false_iff_not,ne_eq,Decidable.not_not] at this
       exact this.1
      ·have:=h5 i hi
       simp only [badRow,Bool.or_eq_false_iff,List.any_eq_false] at this
       have:=this.2 _ (getD_mem (d:=0) hx)
       simp only [badQ,Bool.or_eq_true,decide_eq_true_eq] at this
       omega
 ·intro h
  have h1:=h.L;have h2:=h.n;have h3:=h.nx;have h4:=h.s
  rw [if_neg (by omega),if_neg (by omega),if_neg (by omega),if_neg]
  rw [List.any_eq_true]
  rintro ⟨r,hr,hb⟩
  obtain ⟨i,hi,e⟩:=mem_getD [] hr
  subst e
  have h5:=h.row i (by omega)
  simp only [badRow,h5,ne_eq,not_true_eq_false,decide_false,Bool.false_or,List.any_eq_true] at hb
  obtain ⟨q,hq,hb⟩:=hb
  obtain ⟨x,hx,e⟩:=mem_getD 0 hq
  subst e
  have:=h.to i x (by omega) hx
  simp only [badQ,Bool.or_eq_true,decide_eq_true_eq] at hb
  omega
instance (d:Dfa):Decidable (VD d):=decidable_of_iff _ (errV_iff d)
end Go.Sx
namespace Go.Sx
def okB (L:Int) (c:UInt8):Bool:=decide (97≤c.toNat∧(c.toNat:Int) - 97<L)
def validW (L:Int) (l:List UInt8):Bool:=decide (1≤L∧L≤6∧l.length≤2048) && l.all (okB L)
theorem validW_iff {L:Int} {l:List UInt8}:validW L l=true↔(1≤L∧L≤6∧l.length≤2048)∧∀ k,k<l.length→97≤(l.getD k 0).toNat∧((l.getD k 0).toNat:Int) - 97<L:=by
 unfold validW
 rw [Bool.and_eq_true,decide_eq_true_eq,List.all_eq_true]
 refine and_congr_right fun _=>⟨fun h k hk=>?_,fun h c hc=>?_⟩
 ·have:=h _ (getD_mem (d:=0) hk)
  simpa only [okB,decide_eq_true_eq] using this
 ·obtain ⟨k,hk,e⟩:=mem_getD 0 hc
  subst e
  simpa only [okB,decide_eq_true_eq] using h k hk
theorem all_take_succ {α:Type} (p:α→Bool) (d:α) {xs:List α} {k:Nat} (hk:k<xs.length) (h:(xs.take k).all p=true) (h1:p (xs.getD k d)=true):(xs.take (k+1)).all p=true:=by
 rw [take_snocD d xs k hk,List.all_append,h,List.all_cons,h1];rfl
theorem all_at {α:Type} (p:α→Bool) (d:α) {xs:List α} {k:Nat} (hk:k<xs.length) (h1:p (xs.getD k d)=false):xs.all p=false:=by
 rw [List.all_eq_false]
 exact ⟨_,getD_mem (d:=d) hk,by rw [h1];exact Bool.false_ne_true⟩
def stepI (d:Dfa) (q:Int) (c:UInt8):Int:=(d.nx.getD q.toNat []).getD ((c.toNat:Int) - 97).toNat 0
def runI (d:Dfa) (q:Int) (l:List UInt8):Int:=l.foldl (stepI d) q
theorem runI_snoc (d:Dfa) (q:Int) (l:List UInt8) (k:Nat) (h:k<l.length):runI d q (l.take (k+1))=stepI d (runI d q (l.take k)) (l.getD k 0):=by
 unfold runI;rw [take_snocD 0 l k h,List.foldl_append];rfl
theorem runI_append (d:Dfa) (q:Int) (u v:List UInt8):runI d q (u++v)=runI d (runI d q u) v:=List.foldl_append ..
theorem stepI_bd {d:Dfa} (hv:VD d) {q:Int} (hq:0≤q∧q<d.fin.length) {c:UInt8} (hc:okB d.L c=true):0≤stepI d q c∧stepI d q c<d.fin.length:=by
 simp only [okB,decide_eq_true_eq] at hc
 have h1:=hv.row q.toNat (by omega)
 exact hv.to q.toNat _ (by omega) (by omega)
theorem runI_bd' {d:Dfa} (hv:VD d):∀ (l:List UInt8) (q:Int),0≤q∧q<d.fin.length→l.all (okB d.L)=true→0≤runI d q l∧runI d q l<d.fin.length
 | [],q,hq,_=>hq
 | c :: l,q,hq,h=>by
  rw [List.all_cons,Bool.and_eq_true] at h
  exact runI_bd' hv l _ (stepI_bd hv hq h.1) h.2
theorem runI_bd {d:Dfa} (hv:VD d) {l:List UInt8} {q:Int} (hq:0≤q∧q<d.fin.length) (h:validW d.L l=true) (k:Nat):0≤runI d q (l.take k)∧runI d q (l.take k)<d.fin.length:=by
 unfold validW at h
 rw [Bool.and_eq_true,List.all_eq_true] at h
 exact runI_bd' hv _ q hq (by rw [List.all_eq_true];exact fun c hc=>h.2 c (List.mem_of_mem_take hc))
theorem runI_bdw {d:Dfa} (hv:VD d) {l:List UInt8} {q:Int} (hq:0≤q∧q<d.fin.length) (h:validW d.L l=true):0≤runI d q l∧runI d q l<d.fin.length:=by
 have:=runI_bd hv hq h l.length
 rwa [List.take_length] at this
def RunV (d:Dfa) (q:Int) (l:List UInt8):Int:=if errV d=0∧(0≤q∧q<d.fin.length)∧validW d.L l=true then runI d q l else -1
def AccV (d:Dfa) (l:List UInt8):Bool:=if 0≤RunV d d.s l then d.fin.getD (RunV d d.s l).toNat false else false
theorem RunV_bd {d:Dfa} {q:Int} {l:List UInt8} (h:0≤RunV d q l):RunV d q l<d.fin.length∧RunV d q l=runI d q l∧VD d∧validW d.L l=true:=by
 unfold RunV at h ⊢
 split at h
 ·rename_i hc
  have hv:=(errV_iff d).1 hc.1
  rw [if_pos hc]
  exact ⟨(runI_bdw hv hc.2.1 hc.2.2).2,rfl,hv,hc.2.2⟩
 ·omega
end Go.Sx
namespace Go.Sx
def preB (d:Dfa) (row:List Bool):List Bool:=d.nx.map fun r=>r.any fun q=>row.getD q.toNat false
def aliveR (d:Dfa):Nat→List Bool
 | 0=>d.fin
 | r+1=>preB d (aliveR d r)
theorem any_snoc {α:Type} (p:α→Bool) (d:α) {xs:List α} {k:Nat} (hk:k<xs.length):(xs.take (k+1)).any p=((xs.take k).any p || p (xs.getD k d)):=by
 rw [take_snocD d xs k hk,List.any_append,List.any_cons];simp
def ltr (x:Nat):UInt8:=UInt8.ofNat (97+x)
theorem ltr_toNat {x:Nat} (h:x<128):(ltr x).toNat=97+x:=by simp [ltr];omega
def wl (d:Dfa) (n:Nat):Nat→Int→List UInt8→List (List UInt8)→List (List UInt8)
 | 0,q,pre,out=>if (aliveR d 0).getD q.toNat false=false∨out.length=n then out else out++[pre]
 | r+1,q,pre,out=>if (aliveR d (r+1)).getD q.toNat false=false∨out.length=n then out else
  (List.range (d.nx.getD q.toNat []).length).foldl (fun out x=>wl d n r ((d.nx.getD q.toNat []).getD x 0) (pre++[ltr x]) out) out
def wk (d:Dfa) (n:Nat):Nat→List (List UInt8)
 | 0=>[]
 | k+1=>if (wk d n k).length<n then wl d n k d.s [] (wk d n k) else wk d n k
end Go.Sx
namespace Go.Sx
end Go.Sx
namespace Go.Sx
theorem RdD.own {C:Cx} {own:List Asn} {w:World} {EB EI ER:TypeId} {vF vN:Value} {rs:List Value} {d:Dfa} (i:Nat) (hw:HW C own w) (hl:rs.length=d.nx.length) (h1:own[i]? = some (row vF EB 1 d.fin.length (d.fin.map Value.bool))) (h2:own[i+1]? = some (row vN ER 1 d.nx.length rs)) (h3:own[i+2]? = some (bigA (matG (Value.int .i64) EI rs d.nx))) :
 RdD (fun _=>False) w (.agg #[.int .i64 d.L,.int .i64 d.s,vF,vN]) d:=⟨vF,vN,rfl,RdL.own i hw h1,RdLL.own (i+1) (i+2) hw hl h2 h3⟩
end Go.Sx
namespace Go.Sx
end Go.Sx
namespace Go.Sx
section
variable {α : Type} [DecidableEq α]
def insN (xs:List α) (x:α):List α:=if x∈xs then xs else xs++[x]
def posN:List α→α→Nat
 | [],_=>0
 | b :: l,x=>if x=b then 0 else posN l x+1
def numM (xs:List α):List (α × Int):=xs.zipIdx.map fun p=>(p.1,(p.2:Int))
theorem mget_zip (x:α):∀ (xs:List α) (n:Nat),mget ((xs.zipIdx n).map fun p=>(p.1,(p.2:Int))) x=if x∈xs then some (((n+posN xs x:Nat)):Int) else none
 | [],n=>by simp [mget]
 | b :: l,n=>by
  simp only [List.zipIdx_cons,List.map_cons,mget]
  by_cases h:x=b
  ·subst h;simp [posN]
  ·rw [if_neg h,mget_zip x l (n+1)]
   by_cases h2:x∈l
   ·have:x∈b :: l:=List.mem_cons_of_mem _ h2
    rw [if_pos h2,if_pos this]
    simp only [posN,h,if_false]
    congr 2;omega
   ·have:¬ x∈b :: l:=by simp [h,h2]
    rw [if_neg h2,if_neg this]
theorem mget_numM (xs:List α) (x:α):mget (numM xs) x=if x∈xs then some ((posN xs x:Nat):Int) else none:=by
 have:=mget_zip x xs 0
 simpa [numM] using this
omit [DecidableEq α] in
theorem numM_snoc (xs:List α) (x:α):numM (xs++[x])=numM xs++[(x,(xs.length:Int))]:=by
 simp [numM,List.zipIdx_append]
theorem mset_numM {xs:List α} {x:α} (h:x ∉ xs):mset (numM xs) x (xs.length:Int)=numM (xs++[x]):=by
 rw [mset_none _ _ _ (by rw [mget_numM,if_neg h]),numM_snoc]
theorem posN_lt {xs:List α} {x:α} (h:x∈xs):posN xs x<xs.length:=by
 induction xs with
 | nil=>cases h
 | cons b l ih=>
  simp only [posN,List.length_cons]
  by_cases hb:x=b
  ·simp [hb]
  ·rw [if_neg hb]
   have:=ih (by simpa [hb] using h);omega
theorem posN_not {xs:List α} {x:α} (h:x ∉ xs):posN xs x=xs.length:=by
 induction xs with
 | nil=>rfl
 | cons b l ih=>
  simp only [List.mem_cons,not_or] at h
  simp only [posN,List.length_cons,if_neg h.1,ih h.2]
theorem posN_le (xs:List α) (x:α):posN xs x≤xs.length:=by
 by_cases h:x∈xs
 ·exact Nat.le_of_lt (posN_lt h)
 ·rw [posN_not h];exact Nat.le_refl _
theorem getD_posN {xs:List α} {x:α} (d:α) (h:x∈xs):xs.getD (posN xs x) d=x:=by
 induction xs with
 | nil=>cases h
 | cons b l ih=>
  simp only [posN]
  by_cases hb:x=b
  ·simp [hb]
  ·rw [if_neg hb]
   have:=ih (by simpa [hb] using h)
   simpa [List.getD_eq_getElem?_getD] using this
theorem posN_append {xs:List α} {x:α} (ys:List α) (h:x∈xs):posN (xs++ys) x=posN xs x:=by
 induction xs with
 | nil=>cases h
 | cons b l ih=>
  simp only [List.cons_append,posN]
  by_cases hb:x=b
  ·simp [hb]
  ·rw [if_neg hb,if_neg hb,ih (by simpa [hb] using h)]
theorem posN_at {xs:List α} (d:α) (hn:xs.Nodup) {i:Nat} (hi:i<xs.length):posN xs (xs.getD i d)=i:=by
 induction xs generalizing i with
 | nil=>simp at hi
 | cons b l ih=>
  rw [List.nodup_cons] at hn
  cases i with
  | zero=>simp [posN]
  | succ i=>
   have hi':i<l.length:=by simpa using hi
   have e:(b :: l).getD (i+1) d=l.getD i d:=by simp [List.getD_eq_getElem?_getD]
   have hne:l.getD i d ≠ b:=fun h=>hn.1 (h ▸ getD_mem hi')
   rw [e]
   simp only [posN,if_neg hne,ih hn.2 hi']
theorem insN_mem (xs:List α) (x:α):x∈insN xs x:=by unfold insN;split;assumption;simp
theorem insN_sub {xs:List α} {x y:α} (h:y∈xs):y∈insN xs x:=by unfold insN;split;exact h;simp [h]
theorem insN_cases {xs:List α} {x y:α} (h:y∈insN xs x):y∈xs∨y=x:=by
 unfold insN at h;split at h
 ·exact .inl h
 ·simpa using h
theorem insN_nodup {xs:List α} {x:α} (h:xs.Nodup):(insN xs x).Nodup:=by
 unfold insN;split
 ·exact h
 ·rename_i hx
  rw [List.nodup_append]
  refine ⟨h,by simp,fun a ha b hb=>?_⟩
  simp at hb;subst hb;exact fun e=>hx (e ▸ ha)
theorem insN_pre (xs:List α) (x:α):∃ ys,insN xs x=xs++ys:=by unfold insN;split;exact ⟨[],by simp⟩;exact ⟨[x],rfl⟩
def exR (f:α→Nat→α) (q:α) (l:List α):Nat→List α
 | 0=>l
 | k+1=>insN (exR f q l k) (f q k)
def exW (f:α→Nat→α) (q:α) (l:List α):Nat→List Int
 | 0=>[]
 | k+1=>exW f q l k++[((posN (exR f q l k) (f q k):Nat):Int)]
def exI (f:α→Nat→α) (L:Nat) (s z:α):Nat→List α
 | 0=>[s]
 | i+1=>if i<(exI f L s z i).length then exR f ((exI f L s z i).getD i z) (exI f L s z i) L else exI f L s z i
def exN (f:α→Nat→α) (L:Nat) (s z:α):Nat→List (List Int)
 | 0=>[]
 | i+1=>exN f L s z i++[exW f ((exI f L s z i).getD i z) (exI f L s z i) L]
def exG (f:α→Nat→α) (L:Nat) (s z:α) (g:α→Bool):Nat→List Bool
 | 0=>[]
 | i+1=>exG f L s z g i++[g ((exI f L s z i).getD i z)]
theorem exI_next {f:α→Nat→α} {L:Nat} {s z:α} {i:Nat} (h:i<(exI f L s z i).length):exI f L s z (i+1)=exR f ((exI f L s z i).getD i z) (exI f L s z i) L:=by
 simp only [exI];rw [if_pos h]
theorem exW_len (f:α→Nat→α) (q:α) (l:List α):∀ k,(exW f q l k).length=k
 | 0=>rfl
 | k+1=>by simp [exW,exW_len f q l k]
theorem exN_len (f:α→Nat→α) (L:Nat) (s z:α):∀ i,(exN f L s z i).length=i
 | 0=>rfl
 | i+1=>by simp [exN,exN_len f L s z i]
theorem exG_len (f:α→Nat→α) (L:Nat) (s z:α) (g:α→Bool):∀ i,(exG f L s z g i).length=i
 | 0=>rfl
 | i+1=>by simp [exG,exG_len f L s z g i]
theorem exR_pre (f:α→Nat→α) (q:α) (l:List α):∀ k,∃ ys,exR f q l k=l++ys
 | 0=>⟨[],by simp [exR]⟩
 | k+1=>by
  obtain ⟨ys,h⟩:=exR_pre f q l k
  obtain ⟨zs,h2⟩:=insN_pre (exR f q l k) (f q k)
  exact ⟨ys++zs,by rw [exR,h2,h,List.append_assoc]⟩
theorem exR_nodup {f:α→Nat→α} {q:α} {l:List α} (h:l.Nodup):∀ k,(exR f q l k).Nodup
 | 0=>h
 | k+1=>insN_nodup (exR_nodup h k)
theorem exR_sub {f:α→Nat→α} {q:α} {l U:List α} {L:Nat} (h:∀ y∈l,y∈U) (hf:∀ x,x<L→f q x∈U):∀ k,k≤L→∀ y∈exR f q l k,y∈U
 | 0,_,y,hy=>h y hy
 | k+1,hk,y,hy=>by
  rcases insN_cases hy with h' | rfl
  ·exact exR_sub h hf k (by omega) y h'
  ·exact hf k (by omega)
theorem exI_pre (f:α→Nat→α) (L:Nat) (s z:α) (i:Nat):∃ ys,exI f L s z (i+1)=exI f L s z i++ys:=by
 simp only [exI];split
 ·exact exR_pre _ _ _ _
 ·exact ⟨[],by simp⟩
theorem exI_ne (f:α→Nat→α) (L:Nat) (s z:α):∀ i,0<(exI f L s z i).length
 | 0=>by simp [exI]
 | i+1=>by
  obtain ⟨ys,e⟩:=exI_pre f L s z i
  rw [e,List.length_append];have:=exI_ne f L s z i;omega
theorem exI_ok {f:α→Nat→α} {L:Nat} {s z:α} {U:List α} (hs:s∈U) (hf:∀ q∈U,∀ x,x<L→f q x∈U):∀ i,(exI f L s z i).Nodup∧∀ y∈exI f L s z i,y∈U
 | 0=>⟨by simp [exI],by simp [exI,hs]⟩
 | i+1=>by
  obtain ⟨h1,h2⟩:=exI_ok (z:=z) hs hf i
  simp only [exI];split
  ·rename_i hi
   exact ⟨exR_nodup h1 L,exR_sub h2 (hf _ (h2 _ (getD_mem hi))) L (Nat.le_refl _)⟩
  ·exact ⟨h1,h2⟩
theorem nodup_sub_len:∀ {xs U:List α},xs.Nodup→(∀ y∈xs,y∈U)→xs.length≤U.length
 | [],_,_,_=>Nat.zero_le _
 | x :: xs,U,hn,h=>by
  rw [List.nodup_cons] at hn
  have hx:=h x (by simp)
  have h1:=List.length_erase_of_mem hx
  have h2:0<U.length:=List.length_pos_of_mem hx
  have h3:=nodup_sub_len (xs:=xs) (U:=U.erase x) hn.2 (fun y hy=>(List.mem_erase_of_ne (a:=y) (b:=x) (fun e=>hn.1 (by rw [← e];exact hy))).2 (h y (by simp [hy])))
  simp only [List.length_cons];omega
theorem exI_bd {f:α→Nat→α} {L:Nat} {s z:α} {U:List α} (hs:s∈U) (hf:∀ q∈U,∀ x,x<L→f q x∈U) (i:Nat):(exI f L s z i).length≤U.length:=
 nodup_sub_len (exI_ok hs hf i).1 (exI_ok hs hf i).2
theorem exR_bd {f:α→Nat→α} {L:Nat} {s z:α} {U:List α} (hs:s∈U) (hf:∀ q∈U,∀ x,x<L→f q x∈U) {i k:Nat} (hi:i<(exI f L s z i).length) (hk:k≤L):(exR f ((exI f L s z i).getD i z) (exI f L s z i) k).length≤U.length:=
 nodup_sub_len (exR_nodup (exI_ok hs hf i).1 k) (exR_sub (exI_ok hs hf i).2 (hf _ ((exI_ok hs hf i).2 _ (getD_mem hi))) k hk)
end
theorem Yl.eqlMap {C:Cx} {sl:List (Nat × Value)} {own:List Asn} {dst:Option Nat} {ty:TypeId} {pos:String} {aft:Array Edge} {g:Option (Nat × Bool)} {x:Operand} {t t' k e:TypeId} {o:Option Nat} (ht:C.P.underlying t=some (.map k e)) (hx:opv ⟨sl,own⟩ x=some (.map o)) :
  Yl C ⟨sl,own⟩ ⟨dst,.binOp .eql t x (.const (.map none)) t',ty,pos,aft,g⟩ (.bool o.isNone):=
 fun a w hs=>by
  have h:=run_equal_map_nil (P:=C.P) (w:=w) t k e o ht
  have hc:a.eval (.const (.map none)) = .map none:=rfl
  simp only [execOp,opv_eval hs hx,hc]
  simp [go_sem,binOp,h]
end Go.Sx
namespace Go.Sx
section
variable {α : Type} [DecidableEq α]
theorem exI_mono (f:α→Nat→α) (L:Nat) (s z:α) (i:Nat):∀ m,∃ ys,exI f L s z (i+m)=exI f L s z i++ys
 | 0=>⟨[],by simp⟩
 | m+1=>by
  obtain ⟨ys,h⟩:=exI_mono f L s z i m
  obtain ⟨zs,h2⟩:=exI_pre f L s z (i+m)
  exact ⟨ys++zs,by rw [← Nat.add_assoc,h2,h,List.append_assoc]⟩
theorem exI_stop {f:α→Nat→α} {L:Nat} {s z:α} {n:Nat} (h:(exI f L s z n).length≤n):∀ m,exI f L s z (n+m)=exI f L s z n
 | 0=>rfl
 | m+1=>by
  have:=exI_stop h m
  show exI f L s z (n+m+1)=_
  simp only [exI];rw [this,if_neg (by omega)]
theorem exI_final {f:α→Nat→α} {L:Nat} {s z:α} {U:List α} (hs:s∈U) (hf:∀ q∈U,∀ x,x<L→f q x∈U) {n:Nat} (h:n=(exI f L s z n).length):exI f L s z U.length=exI f L s z n∧n≤U.length:=by
 have hb:=exI_bd (z:=z) hs hf n
 have:=exI_stop (f:=f) (L:=L) (s:=s) (z:=z) (n:=n) (by omega) (U.length - n)
 rw [show n+(U.length - n)=U.length by omega] at this
 exact ⟨this,by omega⟩
theorem pos_in {xs XS ys:List α} {x:α} (h:XS=insN xs x++ys):posN XS x=posN xs x:=by
 rw [h,posN_append _ (insN_mem xs x)]
 unfold insN
 split
 ·rfl
 ·rename_i hx
  rw [posN_not hx]
  have:∀ l:List α,x ∉ l→posN (l++[x]) x=l.length:=by
   intro l hl
   induction l with
   | nil=>simp [posN]
   | cons b l ih=>
    simp only [List.mem_cons,not_or] at hl
    simp only [List.cons_append,posN,if_neg hl.1,ih hl.2,List.length_cons]
  exact this xs hx
theorem exW_pos {f:α→Nat→α} {q:α} {l XS:List α}:∀ k,(∃ ys,XS=exR f q l k++ys)→exW f q l k=(List.range k).map fun x=>((posN XS (f q x):Nat):Int)
 | 0,_=>rfl
 | k+1,⟨ys,h⟩=>by
  obtain ⟨zs,h2⟩:=insN_pre (exR f q l k) (f q k)
  have h3:XS=exR f q l k++(zs++ys):=by rw [h,exR,h2,List.append_assoc]
  rw [exW,exW_pos k ⟨_,h3⟩,List.range_succ,List.map_append]
  simp only [List.map_cons,List.map_nil]
  have e:=pos_in (XS:=XS) (xs:=exR f q l k) (x:=f q k) (ys:=ys) h
  rw [← e]
omit [DecidableEq α] in
theorem getD_app {xs ys:List α} {i:Nat} (z:α) (h:i<xs.length):(xs++ys).getD i z=xs.getD i z:=by
 rw [List.getD_eq_getElem?_getD,List.getD_eq_getElem?_getD,List.getElem?_append_left h]
theorem exN_pos {f:α→Nat→α} {L:Nat} {s z:α} {n:Nat} (hlt:∀ j,j<n→j<(exI f L s z j).length):∀ i,i≤n→exN f L s z i=(List.range i).map fun p=>(List.range L).map fun x=>((posN (exI f L s z n) (f ((exI f L s z n).getD p z) x):Nat):Int)
 | 0,_=>rfl
 | i+1,hi=>by
  rw [exN,exN_pos hlt i (by omega),List.range_succ,List.map_append]
  simp only [List.map_cons,List.map_nil]
  congr 2
  have h1:=hlt i (by omega)
  obtain ⟨ys,h2⟩:=exI_mono f L s z i (n - i)
  rw [show i+(n - i)=n by omega] at h2
  have hq:(exI f L s z n).getD i z=(exI f L s z i).getD i z:=by rw [h2,getD_app z h1]
  rw [hq]
  refine exW_pos L ?_
  obtain ⟨zs,h3⟩:=exI_mono f L s z (i+1) (n - (i+1))
  rw [show i+1+(n - (i+1))=n by omega,exI_next h1] at h3
  exact ⟨zs,h3⟩
theorem exG_pos {f:α→Nat→α} {L:Nat} {s z:α} {g:α→Bool} {n:Nat} (hlt:∀ j,j<n→j<(exI f L s z j).length):∀ i,i≤n→exG f L s z g i=(List.range i).map fun p=>g ((exI f L s z n).getD p z)
 | 0,_=>rfl
 | i+1,hi=>by
  rw [exG,exG_pos hlt i (by omega),List.range_succ,List.map_append]
  simp only [List.map_cons,List.map_nil]
  have h1:=hlt i (by omega)
  obtain ⟨ys,h2⟩:=exI_mono f L s z i (n - i)
  rw [show i+(n - i)=n by omega] at h2
  rw [h2,getD_app z h1]
theorem exI_all {f:α→Nat→α} {L:Nat} {s z:α} {n:Nat} (h:n=(exI f L s z n).length):∀ j,j<n→j<(exI f L s z j).length:=by
 intro j hj
 rcases Nat.lt_or_ge j ((exI f L s z j).length) with h1 | h1
 ·exact h1
 ·have:=exI_stop h1 (n - j)
  rw [show j+(n - j)=n by omega] at this
  rw [this] at h;omega
def exRw (f:α→Nat→α) (q:α) (wq:List UInt8) (l:List α) (ws:List (List UInt8)):Nat→List (List UInt8)
 | 0=>ws
 | k+1=>if f q k∈exR f q l k then exRw f q wq l ws k else exRw f q wq l ws k++[wq++[ltr k]]
def exIw (f:α→Nat→α) (L:Nat) (s z:α):Nat→List (List UInt8)
 | 0=>[[]]
 | i+1=>if i<(exI f L s z i).length then exRw f ((exI f L s z i).getD i z) ((exIw f L s z i).getD i []) (exI f L s z i) (exIw f L s z i) L else exIw f L s z i
theorem exRw_len {f:α→Nat→α} {q:α} {wq:List UInt8} {l:List α} {ws:List (List UInt8)} (h:ws.length=l.length):∀ k,(exRw f q wq l ws k).length=(exR f q l k).length
 | 0=>h
 | k+1=>by
  simp only [exRw,exR,insN]
  split
  ·exact exRw_len h k
  ·simp [exRw_len h k]
theorem exIw_len {f:α→Nat→α} {L:Nat} {s z:α}:∀ i,(exIw f L s z i).length=(exI f L s z i).length
 | 0=>rfl
 | i+1=>by
  simp only [exIw,exI]
  split
  ·exact exRw_len (exIw_len i) L
  ·exact exIw_len i
theorem exIw_stop {f:α→Nat→α} {L:Nat} {s z:α} {n:Nat} (h:(exI f L s z n).length≤n):∀ m,exIw f L s z (n+m)=exIw f L s z n
 | 0=>rfl
 | m+1=>by
  have:=exIw_stop h m
  have h2:=exI_stop h m
  show exIw f L s z (n+m+1)=_
  simp only [exIw];rw [this,h2,if_neg (by omega)]
theorem exIw_final {f:α→Nat→α} {L:Nat} {s z:α} {U:List α} (hs:s∈U) (hf:∀ q∈U,∀ x,x<L→f q x∈U) {n:Nat} (h:n=(exI f L s z n).length):exIw f L s z U.length=exIw f L s z n:=by
 have hb:=(exI_final hs hf h).2
 have:=exIw_stop (f:=f) (L:=L) (s:=s) (z:=z) (n:=n) (by omega) (U.length - n)
 rwa [show n+(U.length - n)=U.length by omega] at this
end
def stepQ (d:Dfa) (q:Int) (x:Nat):Int:=(d.nx.getD q.toNat []).getD x 0
def finQ (d:Dfa) (q:Int):Bool:=d.fin.getD q.toNat false
def univ (n:Nat):List Int:=(List.range n).map fun (i:Nat)=>(i:Int)
theorem mem_univ {n:Nat} {q:Int}:q∈univ n↔0≤q∧q<n:=by
 unfold univ;rw [List.mem_map]
 constructor
 ·rintro ⟨i,hi,rfl⟩;rw [List.mem_range] at hi;omega
 ·intro h;exact ⟨q.toNat,by rw [List.mem_range];omega,by omega⟩
theorem univ_len (n:Nat):(univ n).length=n:=by simp [univ]
theorem step_univ {d:Dfa} (hv:VD d):∀ q∈univ d.fin.length,∀ x,x<d.L.toNat→stepQ d q x∈univ d.fin.length:=by
 intro q hq x hx
 rw [mem_univ] at hq ⊢
 have h1:=hv.row q.toNat (by omega)
 exact hv.to q.toNat x (by omega) (by omega)
theorem start_univ {d:Dfa} (hv:VD d):d.s∈univ d.fin.length:=mem_univ.2 hv.s
def TSt (d:Dfa):List Int:=exI (stepQ d) d.L.toNat d.s 0 d.fin.length
def TWo (d:Dfa):List (List UInt8):=exIw (stepQ d) d.L.toNat d.s 0 d.fin.length
def trimD (d:Dfa):Dfa:=⟨d.L,0,(TSt d).map (finQ d),(TSt d).map fun q=>(List.range d.L.toNat).map fun x=>((posN (TSt d) (stepQ d q x):Nat):Int)⟩
theorem map_range_getD {α β:Type} (z:α) (f:α→β) (xs:List α):(List.range xs.length).map (fun p=>f (xs.getD p z))=xs.map f:=by
 apply List.ext_getElem
 ·simp
 ·intro i h1 h2
  simp at h1
  simp [List.getD_eq_getElem?_getD,h1]
theorem trim_is {d:Dfa} (hv:VD d) {n:Nat} (h:n=(exI (stepQ d) d.L.toNat d.s 0 n).length) :
  exI (stepQ d) d.L.toNat d.s 0 n=TSt d∧(⟨d.L,0,exG (stepQ d) d.L.toNat d.s 0 (finQ d) n,exN (stepQ d) d.L.toNat d.s 0 n⟩:Dfa)=trimD d:=by
 have h1:=(exI_final (start_univ hv) (step_univ hv) h).1
 rw [univ_len] at h1
 have h2:exI (stepQ d) d.L.toNat d.s 0 n=TSt d:=h1.symm
 refine ⟨h2,?_⟩
 have h3:=exI_all h
 have hn:n=(TSt d).length:=by rw [← h2];exact h
 rw [exG_pos h3 n (Nat.le_refl n),exN_pos h3 n (Nat.le_refl n),h2]
 unfold trimD
 conv=>lhs;rw [hn]
 rw [map_range_getD 0 (finQ d),map_range_getD 0 (fun q=>(List.range d.L.toNat).map fun x=>((posN (TSt d) (stepQ d q x):Nat):Int))]
theorem TSt_ok {d:Dfa} (hv:VD d):(TSt d).Nodup∧(∀ q∈TSt d,0≤q∧q<d.fin.length)∧(TSt d).length≤d.fin.length∧0<(TSt d).length:=by
 have h:=exI_ok (z:=0) (start_univ hv) (step_univ hv) d.fin.length
 have hb:=exI_bd (z:=0) (start_univ hv) (step_univ hv) d.fin.length
 rw [univ_len] at hb
 exact ⟨h.1,fun q hq=>mem_univ.1 (h.2 q hq),hb,exI_ne _ _ _ _ _⟩
def numK (n:Nat) (xs:List Int) (k:Nat):List Int:=(List.range k).foldl (fun l i=>l.set (xs.getD i 0).toNat (i:Int)) (List.replicate n (-1))
theorem numK_succ {n:Nat} {xs:List Int} {k:Nat}:numK n xs (k+1)=(numK n xs k).set (xs.getD k 0).toNat (k:Int):=by
 unfold numK;rw [List.range_succ,List.foldl_append];rfl
theorem numK_len (n:Nat) (xs:List Int):∀ k,(numK n xs k).length=n
 | 0=>by simp [numK]
 | k+1=>by rw [numK_succ,List.length_set,numK_len n xs k]
theorem numK_get {n:Nat} {xs:List Int} (hn:xs.Nodup) (hb:∀ q∈xs,0≤q∧q<n):∀ k,k≤xs.length→∀ q:Int,0≤q∧q<n→(numK n xs k).getD q.toNat 0=if posN xs q<k then ((posN xs q:Nat):Int) else -1
 | 0,_,q,hq=>by
  have:q.toNat<n:=by omega
  simp [numK,List.getD_eq_getElem?_getD,this]
 | k+1,hk,q,hq=>by
  rw [numK_succ,List.getD_eq_getElem?_getD,List.getElem?_set,numK_len]
  have hxk:=hb _ (getD_mem (d:=0) (show k<xs.length by omega))
  have hp:=posN_at 0 hn (show k<xs.length by omega)
  have ih:=numK_get hn hb k (by omega) q hq
  rw [List.getD_eq_getElem?_getD] at ih
  by_cases he:(xs.getD k 0).toNat=q.toNat
  ·have e2:xs.getD k 0=q:=by omega
   rw [if_pos he,if_pos (by omega)]
   rw [← e2,hp,if_pos (by omega)];rfl
  ·rw [if_neg he,ih]
   have hne:posN xs q ≠ k:=fun e=>he (by
    have hm:q∈xs:=by
     apply Classical.byContradiction
     intro h'
     have:=posN_not h';omega
    have:=getD_posN 0 hm
    rw [e] at this;rw [this])
   by_cases h1:posN xs q<k
   ·rw [if_pos h1,if_pos (by omega)]
   ·rw [if_neg h1,if_neg (by omega)]
def numT (d:Dfa):List Int:=numK d.fin.length (TSt d) (TSt d).length
theorem numT_mem {d:Dfa} (hv:VD d) {q:Int} (hq:q∈TSt d):(numT d).getD q.toNat 0=((posN (TSt d) q:Nat):Int):=by
 obtain ⟨h1,h2,h3,_⟩:=TSt_ok hv
 unfold numT
 rw [numK_get h1 h2 _ (Nat.le_refl _) q (h2 q hq),if_pos (posN_lt hq)]
theorem TSt_closed {d:Dfa} (hv:VD d) {q:Int} (hq:q∈TSt d) {x:Nat} (hx:x<d.L.toNat):stepQ d q x∈TSt d:=by
 have hs:=start_univ hv
 have hf:=step_univ hv
 obtain ⟨i,hi,e⟩:=mem_getD 0 hq
 have hlen:=(TSt_ok hv).2.2.1
 have key:∀ n,n=(exI (stepQ d) d.L.toNat d.s 0 n).length→stepQ d q x∈TSt d:=by
  intro n hn
  have h2:=(trim_is hv hn).1
  have h3:=exI_all hn
  have hin:i<n:=by rw [hn,h2];exact hi
  have h1:=h3 i hin
  obtain ⟨ys,h4⟩:=exI_mono (stepQ d) d.L.toNat d.s 0 i (n - i)
  rw [show i+(n - i)=n by omega] at h4
  have hq':(exI (stepQ d) d.L.toNat d.s 0 i).getD i 0=q:=by rw [← getD_app 0 h1 (ys:=ys),← h4,h2];exact e
  obtain ⟨zs,h5⟩:=exI_mono (stepQ d) d.L.toNat d.s 0 (i+1) (n - (i+1))
  rw [show i+1+(n - (i+1))=n by omega,exI_next h1,hq'] at h5
  rw [← h2,h5]
  apply List.mem_append_left
  have:∀ k,x<k→stepQ d q x∈exR (stepQ d) q (exI (stepQ d) d.L.toNat d.s 0 i) k:=by
   intro k
   induction k with
   | zero=>intro h;omega
   | succ k ih=>
    intro h
    by_cases hxk:x=k
    ·subst hxk;exact insN_mem _ _
    ·exact insN_sub (ih (by omega))
  exact this _ hx
 have ex:∃ n,n=(exI (stepQ d) d.L.toNat d.s 0 n).length:=by
  apply Classical.byContradiction
  intro hno
  have hall:∀ i,i≤(exI (stepQ d) d.L.toNat d.s 0 i).length:=by
   intro i
   induction i with
   | zero=>exact Nat.zero_le _
   | succ i ih=>
    have:i<(exI (stepQ d) d.L.toNat d.s 0 i).length:=Nat.lt_of_le_of_ne ih (fun e=>hno ⟨i,e⟩)
    obtain ⟨ys,e⟩:=exI_pre (stepQ d) d.L.toNat d.s 0 i
    rw [e,List.length_append];omega
  have h1:=hall ((univ d.fin.length).length+1)
  have h2:=exI_bd (z:=0) hs hf ((univ d.fin.length).length+1)
  omega
 obtain ⟨n,hn⟩:=ex
 exact key n hn
end Go.Sx
namespace Go.Sx
def BxA (w:World) (b:Nat) (cs:List Value):Prop:=∃ E,w.heap[b]? = some (.cells cs.toArray E (0,0))
theorem BoxS.arg {C:Cx} {own:List Asn} {b:Nat} {cs:List Value} (h:BxA C.W0 b cs) (hS:¬ C.S b:=by exact id):BoxS C own b cs:=fun w hw=>by
 obtain ⟨E,h⟩:=h
 exact ⟨E,by rw [hw.frame.block b (Array.getElem?_eq_some_iff.1 h).1 hS];exact h⟩
theorem BxA.own {C:Cx} {own:List Asn} {w:World} {b:Nat} {E:TypeId} {sz:Nat} {cs:List Value} (i:Nat) (hw:HW C own w) (hi:own[i]? = some (box b E sz cs)):BxA w b cs:=BoxS.own (C:=C) i hi w hw
theorem BxA.fr {w w':World} {b:Nat} {cs:List Value} (h:BxA w b cs) (hf:FrameX (fun _=>False) w w'):BxA w' b cs:=by
 obtain ⟨E,h⟩:=h
 exact ⟨E,by rw [hf.block b (Array.getElem?_eq_some_iff.1 h).1 id];exact h⟩
theorem RdL.fr {α:Type} {f:α→Value} {w w':World} {v:Value} {xs:List α} (h:RdL (fun _=>False) f w v xs) (hf:FrameX (fun _=>False) w w'):RdL (fun _=>False) f w' v xs:=
 Rd.mono h fun b _ hlt=>⟨id,hf.block b hlt id⟩
theorem RdLL.fr {α:Type} {f:α→Value} {w w':World} {v:Value} {xss:List (List α)} (h:RdLL (fun _=>False) f w v xss) (hf:FrameX (fun _=>False) w w'):RdLL (fun _=>False) f w' v xss:=by
 obtain ⟨rs,h1,h2,h3⟩:=h
 exact ⟨rs,h1,Rd.mono h2 fun b _ hlt=>⟨id,hf.block b hlt id⟩,fun i hi=>(h3 i hi).fr hf⟩
def nilD:Dfa:=⟨0,0,[],[]⟩
def TrimV (d:Dfa):Dfa:=if VD d then trimD d else nilD
def NumV (d:Dfa):List Int:=if VD d then numT d else []
end Go.Sx
namespace Go.Sx
theorem Yl.valE {C:Cx} {st:St} {o:Oper} {v v':Value} (h:Yl C st o v) (e:v=v'):Yl C st o v':=e ▸ h
section
variable {α : Type} [DecidableEq α]
theorem exRw_pre (f:α→Nat→α) (q:α) (wq:List UInt8) (l:List α) (ws:List (List UInt8)):∀ k,∃ ys,exRw f q wq l ws k=ws++ys
 | 0=>⟨[],by simp [exRw]⟩
 | k+1=>by
  obtain ⟨ys,h⟩:=exRw_pre f q wq l ws k
  simp only [exRw];split
  ·exact ⟨ys,h⟩
  ·exact ⟨ys++[wq++[ltr k]],by rw [h,List.append_assoc]⟩
theorem exRw_wd {f:α→Nat→α} {q:α} {wq:List UInt8} {l:List α} {ws:List (List UInt8)} {n:Nat} (h1:∀ w∈ws,w.length≤n) (h2:wq.length+1≤n):∀ k,∀ w∈exRw f q wq l ws k,w.length≤n
 | 0,w,hw=>h1 w hw
 | k+1,w,hw=>by
  simp only [exRw] at hw
  split at hw
  ·exact exRw_wd h1 h2 k w hw
  ·rw [List.mem_append] at hw
   rcases hw with hw | hw
   ·exact exRw_wd h1 h2 k w hw
   ·simp at hw;subst hw;simp;omega
theorem exIw_wd' {f:α→Nat→α} {L:Nat} {s z:α}:∀ i,∀ w∈exIw f L s z i,w.length≤i
 | 0,w,hw=>by simp [exIw] at hw;subst hw;simp
 | i+1,w,hw=>by
  simp only [exIw] at hw
  split at hw
  ·rename_i hi
   refine exRw_wd (fun u hu=>Nat.le_succ_of_le (exIw_wd' i u hu)) ?_ L w hw
   have:=exIw_wd' i _ (getD_mem (d:=[]) (show i<(exIw f L s z i).length by rw [exIw_len];exact hi))
   omega
  ·exact Nat.le_succ_of_le (exIw_wd' i w hw)
end
end Go.Sx
namespace Go.Sx
section
variable {α : Type} [DecidableEq α]
def genD (Lv:Int) (L:Nat) (xs:List α) (f:α→Nat→α) (g:α→Bool):Dfa:=⟨Lv,0,xs.map g,xs.map fun q=>(List.range L).map fun x=>((posN xs (f q x):Nat):Int)⟩
theorem gen_exists {f:α→Nat→α} {L:Nat} {s z:α} {U:List α} (hs:s∈U) (hf:∀ q∈U,∀ x,x<L→f q x∈U):∃ n,n=(exI f L s z n).length:=by
 apply Classical.byContradiction
 intro hno
 have hall:∀ i,i≤(exI f L s z i).length:=by
  intro i
  induction i with
  | zero=>exact Nat.zero_le _
  | succ i ih=>
   have:i<(exI f L s z i).length:=Nat.lt_of_le_of_ne ih (fun e=>hno ⟨i,e⟩)
   obtain ⟨ys,e⟩:=exI_pre f L s z i
   rw [e,List.length_append];omega
 have h1:=hall (U.length+1)
 have h2:=exI_bd (z:=z) hs hf (U.length+1)
 omega
theorem gen_closed {f:α→Nat→α} {L:Nat} {s z:α} {U:List α} (hs:s∈U) (hf:∀ q∈U,∀ x,x<L→f q x∈U) {q:α} (hq:q∈exI f L s z U.length) {x:Nat} (hx:x<L):f q x∈exI f L s z U.length:=by
 obtain ⟨n,hn⟩:=gen_exists (z:=z) hs hf
 have h2:=(exI_final hs hf hn).1.symm
 rw [← h2] at hq ⊢
 obtain ⟨i,hi,e⟩:=mem_getD z hq
 have h3:=exI_all hn
 have hin:i<n:=by omega
 have h1:=h3 i hin
 obtain ⟨ys,h4⟩:=exI_mono f L s z i (n - i)
 rw [show i+(n - i)=n by omega] at h4
 have hq':(exI f L s z i).getD i z=q:=by rw [← getD_app z h1 (ys:=ys),← h4];exact e
 obtain ⟨zs,h5⟩:=exI_mono f L s z (i+1) (n - (i+1))
 rw [show i+1+(n - (i+1))=n by omega,exI_next h1,hq'] at h5
 rw [h5]
 apply List.mem_append_left
 have:∀ k,x<k→f q x∈exR f q (exI f L s z i) k:=by
  intro k
  induction k with
  | zero=>intro h;omega
  | succ k ih=>
   intro h
   by_cases hxk:x=k
   ·subst hxk;exact insN_mem _ _
   ·exact insN_sub (ih (by omega))
 exact this _ hx
end
end Go.Sx
namespace Go.Sx
end Go.Sx
namespace Go.Sx
section
variable {α : Type} [DecidableEq α]
theorem genD_vd {f:α→Nat→α} {L:Nat} {s z:α} {U:List α} {g:α→Bool} (hL:1≤L∧L≤6) (hs:s∈U) (hf:∀ q∈U,∀ x,x<L→f q x∈U) (hU:U.length≤512):VD (genD (L:Int) L (exI f L s z U.length) f g):=by
 have hne:=exI_ne f L s z U.length
 have hb:=exI_bd (z:=z) hs hf U.length
 refine ⟨by simp only [genD];omega,by simp [genD];omega,by simp [genD],by simp [genD];omega,?_,?_⟩
 ·intro i hi
  have:i<(exI f L s z U.length).length:=by simpa [genD] using hi
  simp [genD,List.getD_eq_getElem?_getD,this]
 ·intro i x hi hx
  have h1:i<(exI f L s z U.length).length:=by simpa [genD] using hi
  have e:(genD (L:Int) L (exI f L s z U.length) f g).nx.getD i []=(List.range L).map fun x=>((posN (exI f L s z U.length) (f ((exI f L s z U.length).getD i z) x):Nat):Int):=by
   simp [genD,List.getD_eq_getElem?_getD,h1]
  rw [e] at hx ⊢
  have h2:x<L:=by simpa using hx
  have h3:=posN_lt (gen_closed hs hf (getD_mem (d:=z) h1) h2)
  simp only [genD,List.length_map]
  have e2:((List.range L).map fun x=>((posN (exI f L s z U.length) (f ((exI f L s z U.length).getD i z) x):Nat):Int)).getD x 0=((posN (exI f L s z U.length) (f ((exI f L s z U.length).getD i z) x):Nat):Int):=by
   simp [List.getD_eq_getElem?_getD,h2]
  rw [e2];omega
def foldW (f:α→Nat→α) (q:α) (l:List UInt8):α:=l.foldl (fun q c=>f q ((c.toNat:Int) - 97).toNat) q
end
theorem foldW_stepQ (d:Dfa) (l:List UInt8):∀ q,foldW (stepQ d) q l=runI d q l:=by
 induction l with
 | nil=>intro q;rfl
 | cons c l ih=>intro q;exact ih _
end Go.Sx
namespace Go.Sx
end Go.Sx
namespace Go.Sx
section
variable {α : Type} [DecidableEq α]
theorem exIw_pre (f:α→Nat→α) (L:Nat) (s z:α) (i:Nat):∃ ys,exIw f L s z (i+1)=exIw f L s z i++ys:=by
 simp only [exIw];split
 ·exact exRw_pre _ _ _ _ _ _
 ·exact ⟨[],by simp⟩
theorem exIw_mono (f:α→Nat→α) (L:Nat) (s z:α) (i:Nat):∀ m,∃ ys,exIw f L s z (i+m)=exIw f L s z i++ys
 | 0=>⟨[],by simp⟩
 | m+1=>by
  obtain ⟨ys,e⟩:=exIw_mono f L s z i m
  obtain ⟨zs,e2⟩:=exIw_pre f L s z (i+m)
  exact ⟨ys++zs,by rw [show i+(m+1)=i+m+1 by omega,e2,e,List.append_assoc]⟩
theorem getD_pre {xs ys:List (List UInt8)} {i:Nat} (h:i<xs.length):(xs++ys).getD i []=xs.getD i []:=by
 simp [List.getD_eq_getElem?_getD,List.getElem?_append,h]
omit [DecidableEq α] in
theorem foldW_snoc (f:α→Nat→α) (q:α) (l:List UInt8) (c:UInt8):foldW f q (l++[c])=f (foldW f q l) ((c.toNat:Int) - 97).toNat:=by
 unfold foldW;rw [List.foldl_append];rfl
theorem ltr_num {x:Nat} (h:x<128):(((ltr x).toNat:Int) - 97).toNat=x:=by rw [ltr_toNat h];omega
theorem exRw_fold {f:α→Nat→α} {s q:α} {wq:List UInt8} {l:List α} {ws:List (List UInt8)} (h:ws.map (foldW f s)=l) (hq:foldW f s wq=q):∀ k,k<128→(exRw f q wq l ws k).map (foldW f s)=exR f q l k
 | 0,_=>h
 | k+1,hk=>by
  have ih:=exRw_fold (ws:=ws) h hq k (by omega)
  simp only [exRw,exR,insN]
  split
  ·exact ih
  ·rw [List.map_append,ih,List.map_singleton,foldW_snoc,hq,ltr_num (by omega)]
theorem exIw_fold {f:α→Nat→α} {L:Nat} (hL:L<128) {s z:α}:∀ i,(exIw f L s z i).map (foldW f s)=exI f L s z i
 | 0=>rfl
 | i+1=>by
  have ih:=exIw_fold hL (f:=f) (s:=s) (z:=z) i
  simp only [exIw,exI]
  split
  ·rename_i hlt
   refine exRw_fold ih ?_ L hL
   have hl:i<(exIw f L s z i).length:=by rw [exIw_len];exact hlt
   conv=>rhs;rw [← ih]
   simp [List.getD_eq_getElem?_getD,hl]
  ·exact ih
theorem exRw_let {f:α→Nat→α} {q:α} {wq:List UInt8} {l:List α} {ws:List (List UInt8)} {Lv:Int} (h:∀ w∈ws,w.all (okB Lv)=true) (hq:wq.all (okB Lv)=true) (hLv:Lv≤100):∀ k:Nat,(k:Int)≤Lv→∀ w∈exRw f q wq l ws k,w.all (okB Lv)=true
 | 0,_=>h
 | k+1,hk=>by
  have ih:=exRw_let (f:=f) (q:=q) (l:=l) h hq hLv k (by omega)
  simp only [exRw]
  split
  ·exact ih
  ·intro w hw
   rcases List.mem_append.1 hw with hw | hw
   ·exact ih w hw
   ·simp at hw;subst hw
    rw [List.all_append,hq,Bool.true_and,List.all_cons,List.all_nil,Bool.and_true,okB,ltr_toNat (by omega),decide_eq_true_eq];omega
theorem exIw_let {f:α→Nat→α} {L:Nat} (hL:L≤100) {s z:α}:∀ i,∀ w∈exIw f L s z i,w.all (okB (L:Int))=true
 | 0=>fun w hw=>by simp [exIw] at hw;subst hw;rfl
 | i+1=>by
  have ih:=exIw_let hL (f:=f) (s:=s) (z:=z) i
  simp only [exIw]
  split
  ·rename_i hlt
   refine exRw_let ih (ih _ ?_) (by omega) L (Int.le_refl _)
   have hl:i<(exIw f L s z i).length:=by rw [exIw_len];exact hlt
   simp [List.getD_eq_getElem?_getD,hl]
  ·exact ih
theorem exI_at {f:α→Nat→α} {L:Nat} {s z:α} {n i:Nat} (hn:n=(exI f L s z n).length) (hi:i<n):(exI f L s z n).getD i z=(exI f L s z i).getD i z∧(exIw f L s z n).getD i []=(exIw f L s z i).getD i []:=by
 have hlt:=exI_all hn i hi
 obtain ⟨ys,e⟩:=exI_mono f L s z i (n - i)
 obtain ⟨zs,e2⟩:=exIw_mono f L s z i (n - i)
 rw [show i+(n - i)=n by omega] at e e2
 exact ⟨by rw [e,getD_app z hlt],by rw [e2,getD_pre (by rw [exIw_len];exact hlt)]⟩
end
theorem tst_fix {d:Dfa} (hv:VD d):(TSt d).length=(exI (stepQ d) d.L.toNat d.s 0 (TSt d).length).length∧exI (stepQ d) d.L.toNat d.s 0 (TSt d).length=TSt d∧exIw (stepQ d) d.L.toNat d.s 0 (TSt d).length=TWo d:=by
 obtain ⟨n,hn⟩:=gen_exists (z:=(0:Int)) (start_univ hv) (step_univ hv)
 have h1:=(exI_final (start_univ hv) (step_univ hv) hn).1
 have h2:=exIw_final (start_univ hv) (step_univ hv) hn
 rw [univ_len] at h1 h2
 have e1:TSt d=exI (stepQ d) d.L.toNat d.s 0 n:=h1
 have e2:TWo d=exIw (stepQ d) d.L.toNat d.s 0 n:=h2
 have e3:(TSt d).length=n:=by rw [e1];exact hn.symm
 rw [e3]
 exact ⟨hn,e1.symm,e2.symm⟩
theorem two_len {d:Dfa} (hv:VD d):(TWo d).length=(TSt d).length:=by
 obtain ⟨h1,h2,h3⟩:=tst_fix hv
 rw [← h3,exIw_len,h2]
theorem tst_start {d:Dfa} (hv:VD d):d.s∈TSt d∧posN (TSt d) d.s=0:=by
 obtain ⟨h1,h2,h3⟩:=tst_fix hv
 obtain ⟨ys,e⟩:=exI_mono (stepQ d) d.L.toNat d.s 0 0 (TSt d).length
 rw [Nat.zero_add,h2] at e
 rw [e];simp [exI,posN]
theorem two_run {d:Dfa} (hv:VD d):(TWo d).map (runI d d.s)=TSt d:=by
 obtain ⟨h1,h2,h3⟩:=tst_fix hv
 have h:=exIw_fold (f:=stepQ d) (L:=d.L.toNat) (by have:=hv.L;omega) (s:=d.s) (z:=0) (TSt d).length
 rw [h2,h3] at h
 rw [← h]
 exact List.map_congr_left fun l _=>(foldW_stepQ d l d.s).symm
theorem two_ok {d:Dfa} (hv:VD d) {i:Nat} (hi:i<(TSt d).length):validW d.L ((TWo d).getD i [])=true∧runI d d.s ((TWo d).getD i [])=(TSt d).getD i 0:=by
 obtain ⟨h1,h2,h3⟩:=tst_fix hv
 have hL:=hv.L
 have hl:i<(TWo d).length:=by rw [two_len hv];exact hi
 have hm:(TWo d).getD i []∈TWo d:=getD_mem hl
 have e:((d.L.toNat:Nat):Int)=d.L:=by omega
 have ha:=exIw_let (f:=stepQ d) (L:=d.L.toNat) (by omega) (s:=d.s) (z:=0) (TSt d).length _ (by rw [h3];exact hm)
 have hd:=exIw_wd' (f:=stepQ d) (L:=d.L.toNat) (s:=d.s) (z:=0) (TSt d).length _ (by rw [h3];exact hm)
 have hn:=(TSt_ok hv).2.2.1
 have:=hv.n
 rw [e] at ha
 refine ⟨by unfold validW;rw [ha,Bool.and_true,decide_eq_true_eq];omega,?_⟩
 have hr:=two_run hv
 conv=>rhs;rw [← hr]
 simp [List.getD_eq_getElem?_getD,hl]
end Go.Sx
namespace Go.Sx
theorem trim_vd {d:Dfa} (hv:VD d):VD (trimD d):=by
 have hL:=hv.L
 have h:=genD_vd (z:=(0:Int)) (L:=d.L.toNat) (g:=finQ d) (by omega) (start_univ hv) (step_univ hv) (by rw [univ_len];exact hv.n)
 have e:((d.L.toNat:Nat):Int)=d.L:=by omega
 rw [e,univ_len] at h
 exact h
end Go.Sx
namespace Go.Sx
def Okw (d:Dfa) (l:List UInt8):Prop:=l.all (okB d.L)=true
theorem Okw.app {d:Dfa} {u v:List UInt8} (hu:Okw d u) (hv:Okw d v):Okw d (u++v):=by unfold Okw at *;rw [List.all_append,hu,hv];rfl
def InR (d:Dfa) (q:Int):Prop:=0≤q∧q<d.fin.length
theorem runI_inr {d:Dfa} (hv:VD d):∀ (l:List UInt8) (q:Int),InR d q→Okw d l→InR d (runI d q l)
 | [],q,hq,_=>hq
 | c :: l,q,hq,h=>by
  unfold Okw at h;rw [List.all_cons,Bool.and_eq_true] at h
  exact runI_inr hv l (stepI d q c) (stepI_bd hv hq h.1) h.2
theorem okB_ltr {L:Int} (hL:1≤L∧L≤6) {x:Nat} (hx:(x:Int)<L):okB L (ltr x)=true:=by
 rw [okB,ltr_toNat (by omega),decide_eq_true_eq];omega
theorem stepI_ltr {d:Dfa} {q:Int} {x:Nat} (hx:x<128):stepI d q (ltr x)=stepQ d q x:=by
 unfold stepI stepQ;rw [ltr_num hx]
end Go.Sx
namespace Go.Sx
open Go.RowKit
abbrev W64:=BitVec 64
def uv (x:W64):Value:=.int .u64 (x.toNat:Int)
theorem wrap_u64n (n:Nat):IntKind.u64.wrap (n:Int)=((n % 2 ^ 64:Nat):Int):=by
 simp only [IntKind.wrap,IntKind.bits,IntKind.signed,Bool.false_eq_true,if_false]
 simp [Int.emod_emod_of_dvd]
theorem ofInt_uv (x:W64):BitVec.ofInt 64 (x.toNat:Int)=x:=by
 apply BitVec.eq_of_toNat_eq
 rw [BitVec.toNat_ofInt]
 have:=x.isLt
 omega
theorem wrap_uv (x:W64):IntKind.u64.wrap ((x.toNat:Nat):Int)=(x.toNat:Int):=by
 rw [wrap_u64n,Nat.mod_eq_of_lt x.isLt]
section
variable {C : Cx} {sl : List (Nat × Value)} {own : List Asn} {dst : Option Nat} {ty : TypeId} {pos : String} {aft : Array Edge} {g : Option (Nat × Bool)} {x y : Operand} {t t' : TypeId} {a b : W64}
theorem Yl.andU (hx:opv ⟨sl,own⟩ x=some (uv a)) (hy:opv ⟨sl,own⟩ y=some (uv b)):Yl C ⟨sl,own⟩ ⟨dst,.binOp .and t x y t',ty,pos,aft,g⟩ (uv (a &&& b)):=
 fun act w hs=>by
  simp only [execOp,opv_eval hs hx,opv_eval hs hy,uv]
  simp [go_sem,binOp,Op.intBits,IntKind.bits,ofInt_uv,wrap_uv,-BitVec.toNat_and]
  rfl
theorem Yl.orU (hx:opv ⟨sl,own⟩ x=some (uv a)) (hy:opv ⟨sl,own⟩ y=some (uv b)):Yl C ⟨sl,own⟩ ⟨dst,.binOp .or t x y t',ty,pos,aft,g⟩ (uv (a ||| b)):=
 fun act w hs=>by
  simp only [execOp,opv_eval hs hx,opv_eval hs hy,uv]
  simp [go_sem,binOp,Op.intBits,IntKind.bits,ofInt_uv,wrap_uv,-BitVec.toNat_or]
  rfl
theorem Yl.andNotU (hx:opv ⟨sl,own⟩ x=some (uv a)) (hy:opv ⟨sl,own⟩ y=some (uv b)):Yl C ⟨sl,own⟩ ⟨dst,.binOp .andNot t x y t',ty,pos,aft,g⟩ (uv (a &&& ~~~b)):=
 fun act w hs=>by
  simp only [execOp,opv_eval hs hx,opv_eval hs hy,uv]
  simp [go_sem,binOp,Op.intBits,IntKind.bits,ofInt_uv,wrap_uv,-BitVec.toNat_and,-BitVec.toNat_not]
  rfl
theorem shl_nat (a:W64) (n:Nat):((a.toNat * 2 ^ (min n 64)) % 2 ^ 64)=(a <<< n).toNat:=by
 rw [BitVec.toNat_shiftLeft,Nat.shiftLeft_eq]
 by_cases h:n≤64
 ·rw [Nat.min_eq_left h]
 ·rw [Nat.min_eq_right (by omega)]
  have h1:a.toNat * 2 ^ 64 % 2 ^ 64=0:=Nat.mul_mod_left _ _
  have h2:2 ^ n=2 ^ (n - 64) * 2 ^ 64:=by rw [← Nat.pow_add];congr 1;omega
  rw [h1,h2,← Nat.mul_assoc,Nat.mul_mod_left]
theorem shr_nat (a:W64) (n:Nat):a.toNat / 2 ^ (min n 64)=(a >>> n).toNat:=by
 rw [BitVec.toNat_ushiftRight,Nat.shiftRight_eq_div_pow]
 by_cases h:n≤64
 ·rw [Nat.min_eq_left h]
 ·rw [Nat.min_eq_right (by omega)]
  have h2:2 ^ 64≤2 ^ n:=Nat.pow_le_pow_right (by omega) (by omega)
  rw [Nat.div_eq_of_lt a.isLt,Nat.div_eq_of_lt (Nat.lt_of_lt_of_le a.isLt h2)]
theorem Yl.shlU {k:IntKind} {n:Int} (hx:opv ⟨sl,own⟩ x=some (uv a)) (hy:opv ⟨sl,own⟩ y=some (.int k n)) (hn:0≤n):Yl C ⟨sl,own⟩ ⟨dst,.binOp .shl t x y t',ty,pos,aft,g⟩ (uv (a <<< n.toNat)):=
 fun act w hs=>by
  have h2:¬ n<0:=by omega
  have h3:IntKind.u64.wrap ((a.toNat:Int) * 2 ^ (Min.min n.toNat 64))=((a <<< n.toNat).toNat:Int):=by
   rw [← shl_nat,← wrap_u64n];simp
  simp only [execOp,opv_eval hs hx,opv_eval hs hy,uv]
  simp [go_sem,binOp,Op.shift,IntKind.bits,h2,h3,-BitVec.toNat_shiftLeft]
theorem Yl.shrU {k:IntKind} {n:Int} (hx:opv ⟨sl,own⟩ x=some (uv a)) (hy:opv ⟨sl,own⟩ y=some (.int k n)) (hn:0≤n):Yl C ⟨sl,own⟩ ⟨dst,.binOp .shr t x y t',ty,pos,aft,g⟩ (uv (a >>> n.toNat)):=
 fun act w hs=>by
  have h2:¬ n<0:=by omega
  have h3:(a.toNat:Int).fdiv (2 ^ (Min.min n.toNat 64))=((a >>> n.toNat).toNat:Int):=by
   rw [Int.fdiv_eq_ediv_of_nonneg _ (Int.pow_nonneg (by decide)),← shr_nat];simp
  simp only [execOp,opv_eval hs hx,opv_eval hs hy,uv]
  simp [go_sem,binOp,Op.shift,IntKind.bits,h2,h3,-BitVec.toNat_ushiftRight]
theorem Yl.subU (hx:opv ⟨sl,own⟩ x=some (uv a)) (hy:opv ⟨sl,own⟩ y=some (uv b)):Yl C ⟨sl,own⟩ ⟨dst,.binOp .sub t x y t',ty,pos,aft,g⟩ (uv (a - b)):=
 fun act w hs=>by
  have h3:IntKind.u64.wrap ((a.toNat:Int) - b.toNat)=((a - b).toNat:Int):=by
   have h1:=a.isLt;have h2:=b.isLt
   have h4:IntKind.u64.wrap ((a.toNat:Int) - b.toNat)=((a.toNat:Int) - b.toNat) % 2 ^ 64:=by simp [IntKind.wrap,IntKind.bits,IntKind.signed]
   rw [h4,BitVec.toNat_sub]
   omega
  simp only [execOp,opv_eval hs hx,opv_eval hs hy,uv]
  simp [go_sem,Op.intArith,h3,-BitVec.toNat_sub]
theorem Yl.eqlU (hx:opv ⟨sl,own⟩ x=some (uv a)) (hy:opv ⟨sl,own⟩ y=some (uv b)):Yl C ⟨sl,own⟩ ⟨dst,.binOp .eql t x y t',ty,pos,aft,g⟩ (.bool (decide (a=b))):=
 Yl.valE (Yl.eql hx hy) (congrArg Value.bool (decide_eq_decide.2 ⟨fun h=>BitVec.eq_of_toNat_eq (by omega),fun h=>by rw [h]⟩))
theorem Yl.neqU (hx:opv ⟨sl,own⟩ x=some (uv a)) (hy:opv ⟨sl,own⟩ y=some (uv b)):Yl C ⟨sl,own⟩ ⟨dst,.binOp .neq t x y t',ty,pos,aft,g⟩ (.bool (decide (a ≠ b))):=
 Yl.valE (Yl.neq hx hy) (congrArg Value.bool (decide_eq_decide.2 ⟨fun h e=>h (by rw [e]),fun h e=>h (BitVec.eq_of_toNat_eq (by omega))⟩))
end
end Go.Sx
namespace Go.Sx
open Go.RowKit
abbrev Edg:=Int × Int × Int
def ecs (e:Edg):List Value:=[.int .i64 e.1,.int .i64 e.2.1,.int .i64 e.2.2]
def ev (e:Edg):Value:=.agg #[.int .i64 e.1,.int .i64 e.2.1,.int .i64 e.2.2]
def edc (es:List Edg):List Value:=es.flatMap ecs
theorem edc_length (l:List Edg):(edc l).length=l.length * 3:=by
 induction l with
 | nil=>rfl
 | cons p ps ih=>simp only [edc,ecs,List.flatMap_cons,List.length_append,List.length_cons,List.length_nil] at ih ⊢;omega
theorem edc_append (a b:List Edg):edc (a++b)=edc a++edc b:=by simp [edc]
theorem edc_snoc (l:List Edg) (e:Edg):edc (l++[e])=edc l++ecs e:=by simp [edc]
theorem edc_at (ps:List Edg) (j:Nat) (h:j<ps.length):((edc ps).drop (j * 3)).take 3=ecs (ps.getD j (0,0,0)):=by
 have h1:ps=ps.take j++ps.getD j (0,0,0) :: ps.drop (j+1):=by
  rw [List.getD_eq_getElem?_getD,List.getElem?_eq_getElem h,Option.getD_some,List.getElem_cons_drop,List.take_append_drop]
 have h2:(edc (ps.take j)).length=j * 3:=by rw [edc_length,List.length_take];omega
 conv=>lhs;rw [h1]
 rw [edc_append,← h2,List.drop_left]
 simp [edc,ecs]
theorem ecs_one (c:Edg):one' (ecs c):=by
 intro u hu
 simp only [ecs,List.mem_cons,List.not_mem_nil,or_false] at hu
 rcases hu with rfl | rfl | rfl <;> rfl
structure Nfa where
 L:Int
 S:Int
 st:W64
 fi:W64
 es:List Edg
def RdN (F:Nat→Prop) (w:World) (v:Value) (n:Nfa):Prop:=∃ vE,v = .agg #[.int .i64 n.L,.int .i64 n.S,uv n.st,uv n.fi,vE]∧Rd (fun b=>¬ F b) w vE 3 n.es.length (edc n.es)
theorem RdN.at {C:Cx} {on:List Asn} {w:World} {v:Value} {n:Nfa} (h:RdN C.S C.W0 v n) (hw:HW C on w):RdN (fun _=>False) w v n:=by
 obtain ⟨vE,h1,h2⟩:=h
 exact ⟨vE,h1,Rd.keep h2 hw.frame (fun _ _ _=>id)⟩
def below (n:Int):W64:=((1:W64) <<< n.toNat) - 1
theorem below_bit {n:Int} (hn:0≤n∧n≤64) (i:Nat) (hi:i<64):(below n).getLsbD i=decide ((i:Int)<n):=by
 obtain ⟨m,rfl⟩:=Int.eq_ofNat_of_zero_le hn.1
 have hm:m≤64:=by omega
 unfold below
 rw [Int.toNat_natCast]
 have e:(1:W64) <<< m - 1=BitVec.ofNat 64 (2 ^ m - 1):=by
  apply BitVec.eq_of_toNat_eq
  rw [BitVec.toNat_sub,BitVec.toNat_shiftLeft,BitVec.toNat_ofNat]
  have h1:(1:W64).toNat=1:=by decide
  rw [h1,Nat.shiftLeft_eq,Nat.one_mul]
  have h2:2 ^ m≤2 ^ 64:=Nat.pow_le_pow_right (by omega) hm
  have h3:0<2 ^ m:=Nat.pow_pos (by omega)
  by_cases hk:m=64
  ·subst hk;decide
  ·have h4:2 ^ m<2 ^ 64:=Nat.pow_lt_pow_right (by omega) (by omega)
   rw [Nat.mod_eq_of_lt h4]
   omega
 rw [e,BitVec.getLsbD_ofNat,Nat.testBit_two_pow_sub_one]
 simp [hi]
def badB (n:Nfa) (k:Nat):Bool:=
 let e:=n.es.getD k (0,0,0)
 decide (e.1<0∨e.1 ≥ n.S∨e.2.2<0∨e.2.2 ≥ n.S∨e.2.1<0∨e.2.1 ≥ n.L)
def bef (a b:Edg):Bool:=if a.1 ≠ b.1 then decide (a.1<b.1) else if a.2.1 ≠ b.2.1 then decide (a.2.1<b.2.1) else decide (a.2.2<b.2.2)
def badE (n:Nfa) (k:Nat):Bool:=badB n k || (decide (0<k) && !bef (n.es.getD (k - 1) (0,0,0)) (n.es.getD k (0,0,0)))
def errN (n:Nfa):Int:=
 if ¬ (1≤n.L∧n.L≤6)∨n.S<0∨n.S > 64 then 1
 else if (n.st ||| n.fi) &&& ~~~(below n.S) ≠ 0 then 4
 else if (List.range n.es.length).any (badE n) then 4 else 0
structure VN (n:Nfa):Prop where
 L:1≤n.L∧n.L≤6
 S:0≤n.S∧n.S≤64
 st:(n.st ||| n.fi) &&& ~~~(below n.S)=0
 ed:∀ k,k<n.es.length→badE n k=false
theorem errN_iff {n:Nfa}:errN n=0↔VN n:=by
 unfold errN
 constructor
 ·intro h
  split at h
  ·cases h
  ·split at h
   ·cases h
   ·split at h
    ·cases h
    ·rename_i h1 h2 h3
     refine ⟨by omega,by omega,Decidable.not_not.1 h2,fun k hk=>?_⟩
     rw [Bool.not_eq_true,List.any_eq_false] at h3
     have:=h3 k (List.mem_range.2 hk)
     simpa using this
 ·intro h
  have h1:=h.L;have h2:=h.S
  rw [if_neg (by omega),if_neg (fun k=>k h.st),if_neg]
  rw [Bool.not_eq_true,List.any_eq_false]
  intro k hk
  rw [h.ed k (List.mem_range.1 hk)];decide
theorem VN.edge {n:Nfa} (h:VN n) {k:Nat} (hk:k<n.es.length):0≤(n.es.getD k (0,0,0)).1∧(n.es.getD k (0,0,0)).1<n.S∧0≤(n.es.getD k (0,0,0)).2.1∧(n.es.getD k (0,0,0)).2.1<n.L∧0≤(n.es.getD k (0,0,0)).2.2∧(n.es.getD k (0,0,0)).2.2<n.S:=by
 have:=h.ed k hk
 unfold badE at this
 rw [Bool.or_eq_false_iff] at this
 have h1:=this.1
 unfold badB at h1
 have h2:=of_decide_eq_false h1
 omega
end Go.Sx
