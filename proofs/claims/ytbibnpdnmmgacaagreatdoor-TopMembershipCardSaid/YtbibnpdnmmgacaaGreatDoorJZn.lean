import Derived.Test.YtbibnpdnmmgacaaGreatDoorJZk
import Derived.Test.YtbibnpdnmmgacaaGreatDoorJZg
import Derived.Test.YtbibnpdnmmgacaaGreatDoorJZm
import Derived.Test.YtbibnpdnmmgacaaGreatDoorJZl
import Derived.Test.YtbibnpdnmmgacaaGreatDoorJZe
import Derived.Test.YtbibnpdnmmgacaaGreatDoorJZb
import Derived.Test.YtbibnpdnmmgacaaGreatDoorJZh
set_option linter.unusedVariables false
set_option linter.unusedSimpArgs false
set_option maxRecDepth 100000
namespace Go.Sx
open Go.RowKit Go.Proofs Go.Lib Go.Sort
section
variable {C : Cx} {sl : List (Nat × Value)} {post : List Asn} {K : Act → World → Prop} {TA TE nb : Nat} {n : Nfa}
end
theorem cmpE_lt (a b:Edg):cmpE a b<0↔bef a b=true:=by
 rw [bef_iff]
 have h0:cmpE a b=0↔a=b:=by
  obtain ⟨a1,a2,a3⟩:=a
  obtain ⟨b1,b2,b3⟩:=b
  show (if cmpZ a1 b1 ≠ 0 then cmpZ a1 b1 else if cmpZ a2 b2 ≠ 0 then cmpZ a2 b2 else if cmpZ a3 b3 ≠ 0 then cmpZ a3 b3 else 0)=0↔_
  simp only [Prod.mk.injEq]
  have e1:=cmpZ_eq (x:=a1) (y:=b1)
  have e2:=cmpZ_eq (x:=a2) (y:=b2)
  have e3:=cmpZ_eq (x:=a3) (y:=b3)
  by_cases h1:cmpZ a1 b1=0
  ·rw [if_neg (fun h=>h h1)]
   by_cases h2:cmpZ a2 b2=0
   ·rw [if_neg (fun h=>h h2)]
    by_cases h3:cmpZ a3 b3=0
    ·rw [if_neg (fun h=>h h3)]
     exact ⟨fun _=>⟨e1.1 h1,e2.1 h2,e3.1 h3⟩,fun _=>rfl⟩
    ·rw [if_pos h3]
     exact ⟨fun h=>absurd h h3,fun h=>e3.2 h.2.2⟩
   ·rw [if_pos h2]
    exact ⟨fun h=>absurd h h2,fun h=>e2.2 h.2.1⟩
  ·rw [if_pos h1]
   exact ⟨fun h=>absurd h h1,fun h=>e1.2 h.1⟩
 constructor
 ·intro h hc
  rcases hc with hc | hc
  ·have:=h0.2 hc;omega
  ·omega
 ·intro h
  have h1:cmpE a b ≠ 0:=fun e=>h (.inl (h0.1 e))
  have h2:¬ 0<cmpE a b:=fun e=>h (.inr e)
  omega
theorem befF {a b:Edg}:bef a b=false↔a=b∨bef b a=true:=by
 constructor
 ·intro h
  rcases bef_tot a b with h1 | h1 | h1
  ·rw [h] at h1;cases h1
  ·exact .inl h1
  ·exact .inr h1
 ·rintro (rfl | h)
  ·exact bef_irr a
  ·cases h2:bef a b with
   | false=>rfl
   | true=>have:=bef_trans h2 h;rw [bef_irr] at this;cases this
theorem swoE:SWO (ltOf cmpE) where
 irrefl x:=by unfold ltOf;rw [decide_eq_false_iff_not,cmpE_lt,bef_irr];decide
 trans x y z h1 h2:=by
  unfold ltOf at *;rw [decide_eq_true_eq,cmpE_lt] at *;exact bef_trans h1 h2
 ntrans x y z h1 h2:=by
  unfold ltOf at *
  rw [decide_eq_false_iff_not,cmpE_lt,Bool.not_eq_true,befF] at *
  rcases h1 with rfl | h1
  ·exact h2
  ·rcases h2 with rfl | h2
   ·exact .inr h1
   ·exact .inr (bef_trans h2 h1)
theorem sort_edges {P:Program} {f g E:Nat} (hkit:SortK P f g [] 3) (hcmp:∀ (w:World) (a b:Edg),CallS P g [ev a,ev b] w (fun r o=>r = .int .i64 (cmpE a b)∧o=[]))
  (w:World) (F:Nat→Prop) (v:Value) (es:List Edg) (hn:1≤es.length∧es.length<4611686018427387904) (hA:(row v E 3 es.length (edc es)).holds w F) :
  CallM P f [v,.func (.func g) #[] #[]] w F (fun r A o=>∃ es',A=row v E 3 es'.length (edc es')∧o=[]∧es'.Perm es∧es'.Pairwise fun a b=>bef b a=false):=by
 have h:=sort_call hkit ecs (fun x=>rfl) (fun x v hv=>ecs_one x v hv) cmpE swoE w F v E es hA hn (fun w' _ x y=>by
  refine Calls.mono (hcmp w' x y) ?_
  rintro e w2 ⟨v,own',⟨h1,_⟩,h2,h3⟩
  exact ⟨v,own',h1,h2,h3⟩)
 refine Calls.mono h ?_
 rintro e w' ⟨v',A,own',⟨d',rfl,rfl,rfl,hp,hs⟩,h2,h3⟩
 refine ⟨_,_,[],⟨d',by rw [hp.length_eq];rfl,rfl,hp,hs.imp fun {a b} hab=>?_⟩,h2,h3⟩
 rw [cmpE_lt] at hab;simpa using hab
def eqE (a b:Edg):Bool:=decide (a=b)
theorem eqE_eq {a b:Edg} (h:eqE a b=true):a=b:=of_decide_eq_true h
def compE (es:List Edg):List Edg:=ddG eqE (0,0,0) es es.length
theorem mem_compE {es:List Edg} {x:Edg}:x∈compE es↔x∈es:=by
 unfold compE;rw [ddG_mem (fun _ _=>eqE_eq) _ (Nat.le_refl _),List.take_length]
theorem compE_sorted {es:List Edg} (hs:es.Pairwise fun a b=>bef b a=false):(compE es).Pairwise fun a b=>bef a b=true:=by
 have key:∀ m,m≤es.length→(ddG eqE (0,0,0) es m).Pairwise fun a b=>bef a b=true:=by
  intro m
  induction m with
  | zero=>intro _;exact .nil
  | succ m ih=>
   intro hm
   unfold ddG
   split
   ·exact ih (by omega)
   ·rename_i hc
    rw [List.pairwise_append]
    refine ⟨ih (by omega),List.pairwise_singleton ..,fun a ha b hb=>?_⟩
    rw [List.mem_singleton] at hb;subst hb
    rw [ddG_mem (fun _ _=>eqE_eq) _ (by omega)] at ha
    obtain ⟨i,hi⟩:=List.mem_iff_getElem?.1 ha
    rw [List.getElem?_take] at hi
    split at hi
    ·rename_i him
     have hil:=(List.getElem?_eq_some_iff.1 hi).1
     have hai:es.getD i (0,0,0)=a:=by rw [List.getD_eq_getElem?_getD,hi];rfl
     have hget:∀ p q,p<q→q<es.length→bef (es.getD q (0,0,0)) (es.getD p (0,0,0))=false:=fun p q hpq hq=>by
      have:=List.pairwise_iff_getElem.1 hs p q (by omega) hq hpq
      simpa [List.getD_eq_getElem?_getD,hq,show p<es.length by omega] using this
     have hne:¬ es.getD m (0,0,0)=es.getD (m - 1) (0,0,0):=fun e=>hc ⟨by omega,decide_eq_true e⟩
     have h1:=hget (m - 1) m (by omega) (by omega)
     rw [befF] at h1
     have h1:=h1.resolve_left hne
     rcases Nat.lt_or_ge i (m - 1) with h2 | h2
     ·have h3:=hget i (m - 1) h2 (by omega)
      rw [befF,hai] at h3
      rcases h3 with h3 | h3
      ·rw [← h3];exact h1
      ·exact bef_trans h3 h1
     ·have:i=m - 1:=by omega
      subst this;rw [← hai];exact h1
    ·cases hi
 exact key _ (Nat.le_refl _)
section
variable {es es' : List Edg} {i j k m a : Nat}
theorem compE_none (h:∀ i,0<i→i<es.length→eqE (es.getD i (0,0,0)) (es.getD (i - 1) (0,0,0))=false):compE es=es:=by
 unfold compE;rw [ddG_all _ (Nat.le_refl _) h,List.take_length]
end
structure WN (n:Nfa):Prop where
 L:1≤n.L∧n.L≤6
 S:0≤n.S∧n.S≤64
 st:∀ i:Nat,n.st.getLsbD i=true→(i:Int)<n.S
 fi:∀ i:Nat,n.fi.getLsbD i=true→(i:Int)<n.S
 ed:∀ e∈n.es,(0≤e.1∧e.1<n.S)∧(0≤e.2.1∧e.2.1<n.L)∧(0≤e.2.2∧e.2.2<n.S)
theorem WN.vn {n:Nfa} (h:WN n) {es:List Edg} (hp:es.Perm n.es) (hs:es.Pairwise fun a b=>bef b a=false):VN { n with es:=compE es } where
 L:=h.L
 S:=h.S
 st:=by
  apply BitVec.eq_of_getLsbD_eq
  intro i hi
  rw [BitVec.getLsbD_and,BitVec.getLsbD_or,BitVec.getLsbD_not,below_bit h.S i hi]
  simp only [BitVec.getLsbD_zero]
  have h1:=h.st i
  have h2:=h.fi i
  cases e1:n.st.getLsbD i <;> cases e2:n.fi.getLsbD i <;> simp_all
 ed:=fun k hk=>by
  have hk:k<(compE es).length:=hk
  have hm:(compE es).getD k (0,0,0)∈n.es:=hp.mem_iff.1 (mem_compE.1 (getD_mem hk))
  have he:=h.ed _ hm
  unfold badE badB
  rw [Bool.or_eq_false_iff]
  refine ⟨decide_eq_false (fun hc=>by
   have hc:((compE es).getD k (0,0,0)).1<0∨((compE es).getD k (0,0,0)).1 ≥ n.S∨((compE es).getD k (0,0,0)).2.2<0∨((compE es).getD k (0,0,0)).2.2 ≥ n.S∨((compE es).getD k (0,0,0)).2.1<0∨((compE es).getD k (0,0,0)).2.1 ≥ n.L:=hc
   omega),?_⟩
  by_cases h0:0<k
  ·have:=List.pairwise_iff_getElem.1 (compE_sorted hs) (k - 1) k (by omega) hk (by omega)
   have e:bef ((compE es).getD (k - 1) (0,0,0)) ((compE es).getD k (0,0,0))=true:=by
    simpa [List.getD_eq_getElem?_getD,hk,show k - 1<(compE es).length by omega] using this
   show (decide (0<k) && !bef ((compE es).getD (k - 1) (0,0,0)) ((compE es).getD k (0,0,0)))=false
   rw [e];simp
  ·simp [h0]
end Go.Sx
namespace Go.Proofs.YtbibnpdnmmgacaaGreatDoor
open Go.Sx Go.RowKit
end Go.Proofs.YtbibnpdnmmgacaaGreatDoor
namespace Go.Proofs.YtbibnpdnmmgacaaGreatDoor
open Go.Sx Go.RowKit
theorem kl196:KeyL Tryz.prog 196 (tv:Tup 7→Value):=keyTup ar196.1 un3 sz3
end Go.Proofs.YtbibnpdnmmgacaaGreatDoor
namespace Go.Proofs.YtbibnpdnmmgacaaGreatDoor
open Go.Sx Go.RowKit
set_option maxHeartbeats 2000000 in
theorem s_classes (w:World) (v:Value) (d:Dfa) (h:RdD (fun _=>False) w v d):CallS Tryz.prog 104 [v] w (fun r o=>IsSl r∧o=[row r 3 1 (ClsV d).length ((ClsV d).map (Value.int .i64))]):=by
 have h0:=h
 obtain ⟨vF,vN,rfl,hF,hN⟩:=h
 have hF0:=hF
 have hN0:=hN
 obtain ⟨rs,hrl,hNr,hNi⟩:=hN
 have sF:=hF.sl
 have sN:=hNr.sl
 have hmf:=hF.le
 have hmn:=hNr.le
 unfold RdL at hF
 refine spec_of Tryz.func104 rfl (leb rfl) ?_
 refine .sr fun _ hK1=>?_
 refine AK.box_ (E:=32) (cs:=[.int .i64 d.L,.int .i64 d.s,vF,vN]) rfl rfl rfl trivial rfl (fun bx1=>?_)
 refine .as rfl (.nt hK1 ?_)
 refine .seq fun _ hK2=>?_
 refine .sr fun _ hK3=>?_
 refine .v (.loadBoxG ag32 rfl bsp rfl rfl) ?_
 refine AK.call co23 rfl (fun w hw=>s_validate w _ d (h0.at hw)) trivial rfl ?_
 rintro r o ⟨rfl,rfl⟩
 refine .v (.neq rfl rfl) (.nt hK3 ?_)
 refine AK.condNe rfl (fun hc0=>?_) (fun hc0=>?_)
 ·have hnv:¬ VD d:=fun h=>hc0 ((errV_iff d).2 h)
  refine .sr fun _ hK4=>?_
  refine .as rfl (.nt hK4 (.ret (.then_ret ?_)))
  refine AK.ghost 3 1 ?_
  refine AK.ret1 rfl rfl (fun w hw=>⟨_,_,?_,rfl,Ret.of (hw.pick [1] (by decide) rfl rfl)⟩)
  rw [show ClsV d=[] from if_neg hnv]
  exact ⟨nilSl,rfl⟩
 ·have hv:VD d:=(errV_iff d).1 hc0
  have hL:=hv.L
  have hnx:=hv.nx
  have hn5:=hv.n
  have hn0:0<d.fin.length:=by have:=hv.s;omega
  have hf0:=f0_len d
  refine .skip ?_
  refine AK.then_ (hK2 _ ?_)
  refine .sr fun _ hK5=>?_
  refine .v (.fieldAddr fd32_2 rfl) (.v (.loadBox on29 rfl bsp rfl) ?_)
  refine .v (.lenR sl29 rfl (by first | exact rdp | exact .arg (hNi _ (by omega)))) ?_
  refine AK.make1 (n:=d.fin.length) sl67 el3 rfl rfl rfl (by omega) (by omega) trivial rfl (fun mv0=>?_)
  refine AK.shape 1 rfl (fun smv0=>?_)
  refine .as rfl (.as rfl (.nt hK5 ?_))
  refine .seq fun _ hK6=>?_
  refine .sr fun _ hK7=>?_
  refine .v (.fieldAddr fd32_2 rfl) (.v (.loadBox on29 rfl bsp rfl) ?_)
  refine .v (.lenR sl29 rfl (by first | exact rdp | exact .arg (hNi _ (by omega)))) ?_
  refine .mv rfl (.nt hK7 (.block ?_))
  refine AK.loopK (X:=Nat) [(1,_),(3,_),(24,_),(25,_)] (fun k=>[(4,.int .i64 (if diff d k then 2 else 1)),(26,.int .i64 (k:Int))]) (fun k=>[box bx1 32 4 [.int .i64 d.L,.int .i64 d.s,vF,vN],row mv0 3 1 d.fin.length (((f0 d).take k++List.replicate (d.fin.length - k) 0).map (Value.int .i64))]) (fun k=>k≤d.fin.length) (fun k=>d.fin.length - k) (0) slr ?_ ?_ ?_ ?_
  ·exact Nat.zero_le _
  ·exact slr
  ·exact fun w hw=>by have e:(((f0 d).take 0++List.replicate (d.fin.length - 0) 0).map (Value.int .i64))=List.replicate d.fin.length (Value.int .i64 0):=(by simp);rw [e];exact hw
  ·intro k hg0 _ hK8
   refine .sr fun _ hK9=>?_
   refine .v (.lss rfl rfl) (.nt hK9 ?_)
   refine .seq fun _ hK10=>?_
   refine AK.condD rfl (fun hc1=>?_) (fun hc1=>?_)
   ·refine .skip ?_
    refine AK.then_ (hK10 _ ?_)
    refine .seq fun _ hK11=>?_
    refine .block ?_
    refine .sr fun _ hK12=>?_
    refine .mv rfl ?_
    first | refine .v (.iN sl29 rfl rfl (hr:=(by first | exact rdp | exact .arg (hNi _ (by omega))))) ?_ | refine .v (.iK sl29 rfl rfl (hr:=(by first | exact rdp | exact .arg (hNi _ (by omega))))) ?_
    refine .v (.loadB on4 rfl (by first | exact rdp | exact .arg (hNi _ (by omega))) (by omega)) ?_
    refine .as rfl (.as rfl (.nt hK12 ?_))
    refine .sr fun _ hK13=>?_
    refine .mv rfl (.v (.fieldAddr fd32_2 rfl) (.v (.loadBox on29 rfl bsp rfl) ?_))
    refine .v (.idxN (k:=0) sl29 rfl rfl (by first | exact rdp | exact .arg (hNi _ (by omega))) (by decide) (by omega)) ?_
    refine .v (.loadB on4 rfl (by first | exact rdp | exact .arg (hNi _ (by omega))) (by omega)) ?_
    refine .v (.neqB bo4 rfl rfl) (.nt hK13 ?_)
    refine AK.cond rfl (fun hc2=>?_) (fun hc2=>?_)
    ·try simp only [bs] at hc2
     refine AK.region ?_
     refine .mv rfl (.mv rfl ?_)
     first | refine .v (.iN sl67 rfl rfl (hr:=(by first | exact rdp | exact .arg (hNi _ (by omega))))) ?_ | refine .v (.iK sl67 rfl rfl (hr:=(by first | exact rdp | exact .arg (hNi _ (by omega))))) ?_
     refine AK.store1e 1 rfl sz3 rfl rfl rfl rfl (by omega) (cs':=(((f0 d).take (k+1)++List.replicate (d.fin.length - (k+1)) 0).map (Value.int .i64))) (by exact f0_fill1 (by omega) (by simpa using hc2)) trivial ?_
     refine .as rfl (.nil (.block_normal ?_))
     refine AK.then_ (hK11 _ ?_)
     refine AK.region ?_
     refine .v (.add rfl rfl (by omega)) ?_
     refine .mv rfl (.nil ?_)
     first | refine AK.then_ (hK8 _ _ (k+1) (by omega) (by omega) (.cons (slI rfl (diff_one (by omega) (by simpa using hc2))) (slr)) (fun w hw=>hw)) | refine AK.then_ (hK8 _ _ (k+1) (by omega) (by omega) (.cons (slI rfl (diff_zero (by omega) (by simpa using hc2))) (slr)) (fun w hw=>by rw [← f0_fill0 (by omega) (by simpa using hc2)];exact hw))
    ·try simp only [bs] at hc2
     refine .skip (.block_normal ?_)
     refine AK.then_ (hK11 _ ?_)
     refine AK.region ?_
     refine .v (.add rfl rfl (by omega)) ?_
     refine .mv rfl (.nil ?_)
     first | refine AK.then_ (hK8 _ _ (k+1) (by omega) (by omega) (.cons (slI rfl (diff_one (by omega) (by simpa using hc2))) (slr)) (fun w hw=>hw)) | refine AK.then_ (hK8 _ _ (k+1) (by omega) (by omega) (.cons (slI rfl (diff_zero (by omega) (by simpa using hc2))) (slr)) (fun w hw=>by rw [← f0_fill0 (by omega) (by simpa using hc2)];exact hw))
   ·refine .exit (.then_exit (.then_exit (.block_exit ?_)))
    refine AK.then_ (hK6 _ ?_)
    refine .block ?_
    refine AK.loopK (X:=Value × List Int) [(1,_)] (fun x=>[(3,x.1),(4,.int .i64 ((ded x.2).length:Int))]) (fun x=>[box bx1 32 4 [.int .i64 d.L,.int .i64 d.s,vF,vN],row x.1 3 1 d.fin.length (x.2.map (Value.int .i64))]) (fun x=>(∃ k,Ker d k x.2)∧IsSl x.1) (fun x=>d.fin.length - (ded x.2).length) ((mv0,f0 d)) slr ?_ ?_ ?_ ?_
    ·exact ⟨⟨0,f0_ker d⟩,smv0⟩
    ·exact .cons (rfl) (.cons (slI rfl (by rw [f0_ded d hn0,show k=d.fin.length by omega])) (slr))
    ·exact fun w hw=>by rw [show k=d.fin.length by omega,Nat.sub_self,List.replicate_zero,List.append_nil,← hf0,List.take_length] at hw;rw [hf0] at hw;exact hw
    ·intro x hg1 _ hK14
     have hxl:x.2.length=d.fin.length:=by obtain ⟨kk,hkk⟩:=hg1.1;exact hkk.1
     have hdx:=ded_le x.2
     have sx1:=hg1.2
     refine .block ?_
     refine .sr fun _ hK15=>?_
     refine AK.makeMap trivial rfl (fun mb=>?_)
     refine .as rfl (.nt hK15 ?_)
     refine .sr fun _ hK16=>?_
     refine .mv rfl ?_
     refine .v (.lenR sl67 rfl (by first | exact rdp | exact .arg (hNi _ (by omega)))) ?_
     refine AK.make1 (n:=d.fin.length) sl67 el3 rfl rfl rfl (by omega) (by omega) trivial rfl (fun mv1=>?_)
     refine AK.shape 3 rfl (fun smv1=>?_)
     refine .as rfl (.nt hK16 ?_)
     refine .seq fun _ hK17=>?_
     refine .sr fun _ hK18=>?_
     refine .v (.fieldAddr fd32_3 rfl) (.v (.loadBox on30 rfl bsp rfl) ?_)
     refine .v (.lenR sl30 rfl (by first | exact rdp | exact .arg (hNi _ (by omega)))) ?_
     refine .mv rfl (.nt hK18 (.block ?_))
     refine AK.loopK (X:=Nat) [(1,_),(3,_),(4,_),(7,_),(8,_),(46,_),(47,_)] (fun q=>[(48,.int .i64 (q:Int))]) (fun q=>[box bx1 32 4 [.int .i64 d.L,.int .i64 d.s,vF,vN],row x.1 3 1 d.fin.length (x.2.map (Value.int .i64)),mapA mb (mkv (tv:Tup 7→Value) (Value.int .i64) (numM (ded ((sgs7 d x.2).take q)))),row mv1 3 1 d.fin.length ((canN ((sgs7 d x.2).take q)++List.replicate (d.fin.length - q) 0).map (Value.int .i64))]) (fun q=>q≤d.fin.length) (fun q=>d.fin.length - q) (0) slr ?_ ?_ ?_ ?_
     ·exact Nat.zero_le _
     ·exact slr
     ·exact fun w hw=>by have e:((canN ((sgs7 d x.2).take 0)++List.replicate (d.fin.length - 0) 0).map (Value.int .i64))=List.replicate d.fin.length (Value.int .i64 0):=(by simp [canN]);rw [e];exact hw
     ·intro q hg2 _ hK19
      refine .sr fun _ hK20=>?_
      refine .v (.lss rfl rfl) (.nt hK20 ?_)
      refine .seq fun _ hK21=>?_
      refine AK.condD rfl (fun hc3=>?_) (fun hc3=>?_)
      ·have hqn:q<d.fin.length:=by omega
       have hrw:=hv.row q hqn
       have hsl:=sgs7_len d x.2
       have hdl:=ded_le ((sgs7 d x.2).take q)
       rw [List.length_take] at hdl
       have hnl:=numM_len (ded ((sgs7 d x.2).take q))
       refine .skip ?_
       refine AK.then_ (hK21 _ ?_)
       refine .seq fun _ hK22=>?_
       refine .block ?_
       refine .sr fun _ hK23=>?_
       refine .mv rfl ?_
       first | refine .v (.iN sl30 rfl rfl (hr:=(by first | exact rdp | exact .arg (hNi _ (by omega))))) ?_ | refine .v (.iK sl30 rfl rfl (hr:=(by first | exact rdp | exact .arg (hNi _ (by omega))))) ?_
       refine .v (.loadV on67 rfl (by first | exact rdp | exact .arg (hNi _ (by omega))) (by omega)) ?_
       refine .as rfl (.as rfl (.nt hK23 ?_))
       refine .sr fun _ hK24=>?_
       refine .mv rfl (.mv rfl ?_)
       first | refine .v (.iN sl67 rfl rfl (hr:=(by first | exact rdp | exact .arg (hNi _ (by omega))))) ?_ | refine .v (.iK sl67 rfl rfl (hr:=(by first | exact rdp | exact .arg (hNi _ (by omega))))) ?_
       refine .v (.loadI on3 rfl (by first | exact rdp | exact .arg (hNi _ (by omega))) (by omega)) ?_
       refine .v (.build (parts:=[(0,.tmp 56)]) (cs:=#[.int .i64 (x.2.getD q 0),.int .i64 0,.int .i64 0,.int .i64 0,.int .i64 0,.int .i64 0,.int .i64 0]) rfl (by kernel_rfl)) ?_
       refine AK.alloc el196 rfl rfl trivial rfl (fun bx11=>?_)
       refine AK.storeBox 4 (us:=[.int .i64 (x.2.getD q 0),.int .i64 0,.int .i64 0,.int .i64 0,.int .i64 0,.int .i64 0,.int .i64 0]) (cs':=[.int .i64 (x.2.getD q 0),.int .i64 0,.int .i64 0,.int .i64 0,.int .i64 0,.int .i64 0,.int .i64 0]) rfl sz196 rfl rfl rfl rfl oneP (leb rfl) rfl trivial ?_
       refine .nt hK24 ?_
       refine .seq fun _ hK25=>?_
       refine .sr fun _ hK26=>?_
       refine .mv rfl ?_
       refine .v (.lenR sl67 rfl (by first | exact rdp | exact .arg (hNi _ (by omega)))) ?_
       refine .mv rfl (.nt hK26 (.block ?_))
       refine AK.loopK (X:=Nat) [(1,_),(3,_),(4,_),(7,_),(8,_),(9,_),(11,_),(46,_),(47,_),(48,_),(58,_),(59,_)] (fun j=>[(60,.int .i64 (j:Int))]) (fun j=>[box bx1 32 4 [.int .i64 d.L,.int .i64 d.s,vF,vN],row x.1 3 1 d.fin.length (x.2.map (Value.int .i64)),mapA mb (mkv (tv:Tup 7→Value) (Value.int .i64) (numM (ded ((sgs7 d x.2).take q)))),row mv1 3 1 d.fin.length ((canN ((sgs7 d x.2).take q)++List.replicate (d.fin.length - q) 0).map (Value.int .i64)),box bx11 196 7 ((pad7 ((sigQ d x.2 q).take (j+1))).map (Value.int .i64))]) (fun j=>j≤(d.nx.getD q []).length) (fun j=>(d.nx.getD q []).length - j) (0) slr ?_ ?_ ?_ ?_
       ·exact Nat.zero_le _
       ·exact slr
       ·exact fun w hw=>hw
       ·intro j hg3 _ hK27
        refine .sr fun _ hK28=>?_
        refine .v (.lss rfl rfl) (.nt hK28 ?_)
        refine .seq fun _ hK29=>?_
        refine AK.condD rfl (fun hc4=>?_) (fun hc4=>?_)
        ·have hto:=hv.to q j hqn (by omega)
         have hsl2:=sigQ_len hv x.2 hqn
         refine .skip ?_
         refine AK.then_ (hK29 _ ?_)
         refine .seq fun _ hK30=>?_
         refine .block ?_
         refine .sr fun _ hK31=>?_
         refine .mv rfl ?_
         first | refine .v (.iN sl67 rfl rfl (hr:=(by first | exact rdp | exact .arg (hNi _ (by omega))))) ?_ | refine .v (.iK sl67 rfl rfl (hr:=(by first | exact rdp | exact .arg (hNi _ (by omega))))) ?_
         refine .v (.loadI on3 rfl (by first | exact rdp | exact .arg (hNi _ (by omega))) (by omega)) ?_
         refine .as rfl (.as rfl (.nt hK31 ?_))
         refine AK.region ?_
         refine .mv rfl ?_
         refine .v (.add rfl rfl (by omega)) ?_
         refine .mv rfl (.mv rfl ?_)
         first | refine .v (.iN sl67 rfl rfl (hr:=(by first | exact rdp | exact .arg (hNi _ (by omega))))) ?_ | refine .v (.iK sl67 rfl rfl (hr:=(by first | exact rdp | exact .arg (hNi _ (by omega))))) ?_
         refine .v (.loadI on3 rfl (by first | exact rdp | exact .arg (hNi _ (by omega))) (by omega)) ?_
         refine .v (.idxArrZ ar196 rfl rfl (by omega)) ?_
         refine AK.storeBox 4 (us:=[.int .i64 (x.2.getD ((d.nx.getD q []).getD j 0).toNat 0)]) (cs':=((pad7 ((sigQ d x.2 q).take (j+2))).map (Value.int .i64))) rfl sz3 rfl rfl rfl rfl oneP (by rw [List.length_map,pad7_len];simp only [List.length_cons,List.length_nil];omega) (by rw [sigQ_take (by omega)];have e:0+((1:Int)+(j:Int)).toNat * 1=j+1:=(by omega);rw [e];exact pad_store (by rw [List.length_take];omega) (by omega)) trivial ?_
         refine .nil (.block_normal ?_)
         refine AK.then_ (hK30 _ ?_)
         refine AK.region ?_
         refine .v (.add rfl rfl (by omega)) ?_
         refine .mv rfl (.nil ?_)
         refine AK.then_ (hK27 _ _ (j+1) (by omega) (by omega) (slr) (fun w hw=>hw))
        ·have ejk:pad7 ((sigQ d x.2 q).take (j+1))=((sgs7 d x.2).getD q zero7).1:=by
          have hsl2:=sigQ_len hv x.2 hqn
          rw [sgs7_get hqn,List.take_of_length_le (by omega)];rfl
         rw [ejk]
         refine .exit (.then_exit (.then_exit (.block_exit ?_)))
         refine AK.then_ (hK25 _ ?_)
         refine .sr fun _ hK32=>?_
         refine .mv rfl ?_
         first | refine AK.val (tv ((sgs7 d x.2).getD q zero7)) (Yl.loadTup ag196 rfl (BoxS.own 4 rfl)) trivial rfl ?_
         refine .v (.lookup2I mp194 kl196 el3 rfl rfl msp) (.mv rfl (.v (.extract rfl rfl) (.v (.extract rfl rfl) (.as rfl (.as rfl (.nt hK32 ?_))))))
         refine .seq fun _ hK33=>?_
         refine .sr fun _ hK34=>?_
         refine .mv rfl (.v (.not rfl) (.nt hK34 ?_))
         refine AK.condB rfl (fun hc5=>?_) (fun hc5=>?_)
         ·obtain ⟨hx,hcv⟩:=num_new hc5
          refine .sr fun _ hK35=>?_
          refine .mv rfl (.v (.lenM mp194 rfl msp) (.as rfl (.nt hK35 ?_)))
          refine AK.region ?_
          refine .mv rfl ?_
          first | refine AK.val (tv ((sgs7 d x.2).getD q zero7)) (Yl.loadTup ag196 rfl (BoxS.own 4 rfl)) trivial rfl ?_
          refine .mv rfl ?_
          refine AK.mapSet 2 rfl mp194 kl196 rfl rfl rfl trivial ?_
          refine .nt hK33 ?_
          refine AK.region ?_
          refine .mv rfl (.mv rfl (.mv rfl ?_))
          first | refine .v (.iN sl67 rfl rfl (hr:=(by first | exact rdp | exact .arg (hNi _ (by omega))))) ?_ | refine .v (.iK sl67 rfl rfl (hr:=(by first | exact rdp | exact .arg (hNi _ (by omega))))) ?_
          refine AK.store1e 3 rfl sz3 rfl rfl rfl rfl (by omega) (cs':=((canN ((sgs7 d x.2).take (q+1))++List.replicate (d.fin.length - (q+1)) 0).map (Value.int .i64))) (by exact can_fill zero7 hsl hqn hcv) trivial ?_
          refine .nil (.block_normal ?_)
          refine AK.then_ (hK22 _ ?_)
          refine AK.region ?_
          refine .v (.add rfl rfl (by omega)) ?_
          refine .mv rfl (.nil ?_)
          first | refine AK.then_ (hK19 _ _ (q+1) (by omega) (by omega) (slr) (fun w hw=>by rw [← ded_new zero7 (by omega) hx];exact hw.pick [0,1,2,3] (by decide) rfl rfl)) | refine AK.then_ (hK19 _ _ (q+1) (by omega) (by omega) (slr) (fun w hw=>by rw [ded_old zero7 (by omega) (by assumption)];exact hw.pick [0,1,2,3] (by decide) rfl rfl))
         ·obtain ⟨hx,hcv⟩:=num_old hc5
          refine .skip ?_
          refine AK.then_ (hK33 _ ?_)
          refine AK.region ?_
          refine .mv rfl (.mv rfl (.mv rfl ?_))
          first | refine .v (.iN sl67 rfl rfl (hr:=(by first | exact rdp | exact .arg (hNi _ (by omega))))) ?_ | refine .v (.iK sl67 rfl rfl (hr:=(by first | exact rdp | exact .arg (hNi _ (by omega))))) ?_
          refine AK.store1e 3 rfl sz3 rfl rfl rfl rfl (by omega) (cs':=((canN ((sgs7 d x.2).take (q+1))++List.replicate (d.fin.length - (q+1)) 0).map (Value.int .i64))) (by exact can_fill zero7 hsl hqn hcv) trivial ?_
          refine .nil (.block_normal ?_)
          refine AK.then_ (hK22 _ ?_)
          refine AK.region ?_
          refine .v (.add rfl rfl (by omega)) ?_
          refine .mv rfl (.nil ?_)
          first | refine AK.then_ (hK19 _ _ (q+1) (by omega) (by omega) (slr) (fun w hw=>by rw [← ded_new zero7 (by omega) hx];exact hw.pick [0,1,2,3] (by decide) rfl rfl)) | refine AK.then_ (hK19 _ _ (q+1) (by omega) (by omega) (slr) (fun w hw=>by rw [ded_old zero7 (by omega) (by assumption)];exact hw.pick [0,1,2,3] (by decide) rfl rfl))
      ·refine .exit (.then_exit (.then_exit (.block_exit ?_)))
       refine AK.then_ (hK17 _ ?_)
       refine .seq fun _ hK36=>?_
       refine .sr fun _ hK37=>?_
       refine .mv rfl (.v (.lenM mp194 rfl msp) (.mv rfl (.v (.eql rfl rfl) (.nt hK37 ?_))))
       refine AK.condD rfl (fun hc6=>?_) (fun hc6=>?_)
       ·have hqe:q=d.fin.length:=by omega
        have hsl:=sgs7_len d x.2
        have hcn:=sgs7_can hv x.2
        have hnl:=numM_len (ded ((sgs7 d x.2).take q))
        rw [hqe,← hsl,List.take_length] at hc6 hnl
        refine .sr fun _ hK38=>?_
        refine .mv rfl (.as rfl (.nt hK38 (.ret (.then_ret (.block_ret (.then_ret (.block_ret ?_)))))))
        refine AK.ret1 rfl rfl (fun w hw=>⟨_,_,?_,rfl,Ret.of (hw.pick [3] (by decide) rfl rfl)⟩)
        obtain ⟨kk,hkk⟩:=hg1.1
        have e:=cls_stop hv hkk (by omega)
        refine ⟨smv1,?_⟩
        rw [show ClsV d=clsD d from if_pos hv,cls_len,hqe,Nat.sub_self,List.replicate_zero,List.append_nil,← hsl,List.take_length,hcn.1,e,hsl]
        rfl
       ·have hqe:q=d.fin.length:=by omega
        have hsl:=sgs7_len d x.2
        have hcn:=sgs7_can hv x.2
        have hnl:=numM_len (ded ((sgs7 d x.2).take q))
        rw [hqe,← hsl,List.take_length] at hc6 hnl
        obtain ⟨kk,hkk⟩:=hg1.1
        have hmo:=cls_more hv hkk (by omega)
        refine .skip ?_
        refine AK.then_ (hK36 _ ?_)
        refine AK.region ?_
        refine .mv rfl (.mv rfl (.v (.lenM mp194 rfl msp) (.as rfl (.as rfl (.nil (.block_normal ?_))))))
        refine AK.then_ (hK14 _ _ ((mv1,canN (sigs d x.2))) ⟨⟨kk+1,hkk.next hv⟩,smv1⟩ (by dsimp only;omega) (.cons (rfl) (.cons (slI rfl (by dsimp only;rw [ded_canN,← hcn.2,numM_len,hqe,← hsl,List.take_length])) (slr))) (fun w hw=>by rw [hqe,Nat.sub_self,List.replicate_zero,List.append_nil,← hsl,List.take_length,hcn.1,hsl] at hw;exact hw.pick [0,3] (by decide) rfl rfl))
end Go.Proofs.YtbibnpdnmmgacaaGreatDoor
namespace Go.Proofs.YtbibnpdnmmgacaaGreatDoor
open Go.Sx Go.RowKit
theorem numT_all {d:Dfa} (hv:VD d) {q:Int} (hq:InR d q):(numT d).getD q.toNat 0=if q∈TSt d then ((posN (TSt d) q:Nat):Int) else -1:=by
 obtain ⟨h1,h2,h3,h4⟩:=TSt_ok hv
 unfold numT
 rw [numK_get h1 h2 _ (Nat.le_refl _) q hq]
 by_cases hm:q∈TSt d
 ·rw [if_pos hm,if_pos (posN_lt hm)]
 ·rw [if_neg hm,if_neg (by rw [posN_not hm];omega)]
theorem set_mid {α:Type} (f:α→Value) (A B:List α) (z c:α) {n:Nat} (hn:A.length=n):(((A++[z])++B).map f).set n (f c)=((A++[c])++B).map f:=by
 subst hn
 rw [← List.map_set,List.set_append_left _ _ (by simp),List.set_append_right _ _ (Nat.le_refl _),Nat.sub_self];rfl
theorem rowC_len {d:Dfa} (hv:VD d) {q:Nat} (hq:q<d.fin.length):(rowC d q).length=d.L.toNat:=by
 have:=hv.row q hq
 unfold rowC;rw [List.length_map];omega
theorem rowC_fill {d:Dfa} (hv:VD d) {q:Nat} (hq:q<d.fin.length) {x:Nat} (hx:x<d.L.toNat) :
  (((rowC d q).take x++List.replicate (d.L.toNat - x) 0).map (Value.int .i64)).set x (.int .i64 ((clsD d).getD ((d.nx.getD q []).getD x 0).toNat 0))=((rowC d q).take (x+1)++List.replicate (d.L.toNat - (x+1)) 0).map (Value.int .i64):=by
 have hl:=rowC_len hv hq
 rw [take_snocD 0 (rowC d q) x (by omega),rowC_get hv hq (by omega)]
 exact fill_set (Value.int .i64) _ 0 _ d.L.toNat x (by rw [List.length_take];omega) hx
set_option maxHeartbeats 4000000 in
theorem s_minimal (w:World) (v:Value) (d:Dfa) (h:RdD (fun _=>False) w v d) (hv:VD d):CallS Tryz.prog 51 [v] w (fun r o=>∃ (vF vN vS:Value) (rs:List Value),r = .tuple #[.agg #[.int .i64 (minD d).L,.int .i64 (minD d).s,vF,vN],vS]∧rs.length=(minD d).nx.length∧IsSl vF∧IsSl vN∧IsSl vS∧o=dfaO 4 3 67 vF vN rs (minD d)++[row vS 3 1 (mapM d).length ((mapM d).map (Value.int .i64))]):=by
 have h0:=h
 obtain ⟨vF,vN,rfl,hF,hN⟩:=h
 have hF0:=hF
 have hN0:=hN
 obtain ⟨rs,hrl,hNr,hNi⟩:=hN
 have sF:=hF.sl
 have sN:=hNr.sl
 have hmf:=hF.le
 have hmn:=hNr.le
 unfold RdL at hF
 have hL:=hv.L
 have hn5:=hv.n
 have hTe:TrimV d=trimD d:=if_pos hv
 have hNe:NumV d=numT d:=if_pos hv
 have hT:=trim_vd hv
 have hTnx:=hT.nx
 have hTn5:=hT.n
 have hcl:=cls_len (trimD d)
 have hcan:=cls_can hT
 have hCe:ClsV (trimD d)=(clsD (trimD d)):=if_pos hT
 have hQ:=quo_vd hT
 have hqs:(quoD (trimD d)).s=0:=by
  have h1:=can_at hcan (k:=0) (by have:=hT.s;omega)
  exact h1.trans (by simp [ded,posN])
 have hQe:TrimV (quoD (trimD d))=minD d:=(if_pos hQ).trans (min_trim hv)
 have hQn:NumV (quoD (trimD d))=numT (quoD (trimD d)):=if_pos hQ
 have hnt:(numT d).length=d.fin.length:=numK_len _ _ _
 have hTL:(trimD d).L=d.L:=rfl
 refine spec_of Tryz.func51 rfl (leb rfl) ?_
 refine .sr fun _ hK1=>?_
 refine AK.box_ (E:=32) (cs:=[.int .i64 d.L,.int .i64 d.s,vF,vN]) rfl rfl rfl trivial rfl (fun bx1=>?_)
 refine AK.alloc el32 rfl rfl trivial rfl (fun bx2=>?_)
 refine .as rfl (.nt hK1 ?_)
 refine .sr fun _ hK2=>?_
 refine .v (.loadBoxG ag32 rfl bsp rfl rfl) ?_
 refine AK.call co74 rfl (fun w hw=>s_trim w _ d (h0.at hw)) trivial rfl ?_
 rintro r o ⟨tF,tN,tM,trs,rfl,htrs,stF,stN,stM,rfl⟩
 rw [hTe] at htrs
 rw [hTe,hNe]
 refine .mv rfl (.v (.extract rfl rfl) (.v (.extract rfl rfl) ?_))
 refine AK.alloc el32 rfl rfl trivial rfl (fun bx4=>?_)
 refine AK.storeBox 6 (us:=[.int .i64 (trimD d).L,.int .i64 (trimD d).s,tF,tN]) (cs':=[.int .i64 (trimD d).L,.int .i64 (trimD d).s,tF,tN]) rfl sz32 rfl rfl rfl rfl oneP (leb rfl) rfl trivial ?_
 refine .as rfl (.nt hK2 ?_)
 refine .sr fun _ hK3=>?_
 refine .v (.loadBoxG ag32 rfl bsp rfl rfl) ?_
 refine AK.call co104 rfl (fun w hw=>s_classes w _ (trimD d) (RdD.own 2 hw htrs rfl rfl rfl)) trivial rfl ?_
 rintro cv o ⟨scv,rfl⟩
 rw [hCe]
 refine .as rfl (.nt hK3 ?_)
 refine .sr fun _ hK4=>?_
 refine .v (.fieldAddr fd32_0 rfl) (.v (.loadBox on3 rfl bsp rfl) ?_)
 refine .v (.build (parts:=[(0,.tmp 26)]) (cs:=#[.int .i64 d.L,.int .i64 0,.slice none 0 0,.slice none 0 0]) rfl (by kernel_rfl)) ?_
 refine AK.alloc el32 rfl rfl trivial rfl (fun bx7=>?_)
 refine AK.storeBox 8 (us:=[.int .i64 d.L,.int .i64 0,.slice none 0 0,.slice none 0 0]) (cs':=[.int .i64 d.L,.int .i64 0,.slice none 0 0,.slice none 0 0]) rfl sz32 rfl rfl rfl rfl oneP (leb rfl) rfl trivial ?_
 refine .nt hK4 ?_
 refine .seq fun _ hK5=>?_
 refine .sr fun _ hK6=>?_
 refine .mv rfl ?_
 refine .v (.lenR sl67 rfl (by first | exact rdp | exact (RdS.big 4 _ rfl (matG_get htrs (by omega))))) ?_
 refine .mv rfl (.nt hK6 (.block ?_))
 refine AK.loopK (X:=Nat × Value × Value × List Value) [(1,_),(2,_),(4,_),(5,_),(6,_),(7,_),(28,_),(29,_)] (fun x=>[(30,.int .i64 (x.1:Int))]) (fun x=>[box bx1 32 4 [.int .i64 d.L,.int .i64 d.s,vF,vN],box bx2 32 4 [.int .i64 0,.int .i64 0,.slice none 0 0,.slice none 0 0],row tF 4 1 (trimD d).fin.length ((trimD d).fin.map Value.bool),row tN 67 1 (trimD d).nx.length trs,bigA (matG (Value.int .i64) 3 trs (trimD d).nx),row tM 3 1 (numT d).length ((numT d).map (Value.int .i64)),box bx4 32 4 [.int .i64 (trimD d).L,.int .i64 (trimD d).s,tF,tN],row cv 3 1 (clsD (trimD d)).length ((clsD (trimD d)).map (Value.int .i64)),box bx7 32 4 [.int .i64 d.L,.int .i64 0,x.2.1,x.2.2.1],row x.2.1 4 1 ((fstK (clsD (trimD d)) x.1).map fun q=>(trimD d).fin.getD q false).length (((fstK (clsD (trimD d)) x.1).map fun q=>(trimD d).fin.getD q false).map Value.bool),row x.2.2.1 67 1 ((fstK (clsD (trimD d)) x.1).map (rowC (trimD d))).length x.2.2.2,bigA (matG (Value.int .i64) 3 x.2.2.2 ((fstK (clsD (trimD d)) x.1).map (rowC (trimD d))))]) (fun x=>x.1≤(clsD (trimD d)).length∧x.2.2.2.length=((fstK (clsD (trimD d)) x.1).map (rowC (trimD d))).length∧IsSl x.2.1∧IsSl x.2.2.1) (fun x=>(clsD (trimD d)).length - x.1) ((0,.slice none 0 0,.slice none 0 0,[])) slr ?_ ?_ ?_ ?_
 ·exact ⟨Nat.zero_le _,rfl,nilSl,nilSl⟩
 ·exact slr
 ·exact fun w hw=>by have h1:=((hw.ghostG (f:=Value.int .i64) 3).ghost 4 1).ghost 67 1;exact h1.pick [0,1,2,3,4,5,6,7,8,10,11,9] (by decide) rfl rfl
 ·intro x hg0 _ hK7
  have hsF:=hg0.2.2.1
  have hsN:=hg0.2.2.2
  refine .sr fun _ hK8=>?_
  refine .v (.lss rfl rfl) (.nt hK8 ?_)
  refine .seq fun _ hK9=>?_
  refine AK.condD rfl (fun hc0=>?_) (fun hc0=>?_)
  ·have hqT:x.1<(trimD d).fin.length:=by omega
   have hgl:((fstK (clsD (trimD d)) x.1).map fun q=>(trimD d).fin.getD q false).length=(fstK (clsD (trimD d)) x.1).length:=List.length_map ..
   have hnl:((fstK (clsD (trimD d)) x.1).map (rowC (trimD d))).length=(fstK (clsD (trimD d)) x.1).length:=List.length_map ..
   have hfl:=fstK_le hcan (k:=x.1) (by omega)
   have hrw:=hT.row x.1 hqT
   have hfb:=fstK_bd (clsD (trimD d)) x.1
   refine .skip ?_
   refine AK.then_ (hK9 _ ?_)
   refine .seq fun _ hK10=>?_
   refine .block ?_
   refine .sr fun _ hK11=>?_
   refine .mv rfl ?_
   first | refine .v (.iN sl67 rfl rfl (hr:=(by first | exact rdp | exact (RdS.big 4 _ rfl (matG_get htrs (by omega)))))) ?_ | refine .v (.iK sl67 rfl rfl (hr:=(by first | exact rdp | exact (RdS.big 4 _ rfl (matG_get htrs (by omega)))))) ?_
   refine .v (.loadI on3 rfl (by first | exact rdp | exact (RdS.big 4 _ rfl (matG_get htrs (by omega)))) (by omega)) ?_
   refine .as rfl (.as rfl (.nt hK11 ?_))
   refine .seq fun _ hK12=>?_
   refine .sr fun _ hK13=>?_
   refine .mv rfl (.v (.fieldAddr fd32_2 rfl) (.v (.loadBox on29 rfl bsp rfl) ?_))
   refine .v (.lenR sl29 rfl (by first | exact rdp | exact (RdS.big 4 _ rfl (matG_get htrs (by omega))))) ?_
   refine .v (.lss rfl rfl) (.nt hK13 ?_)
   refine AK.condD rfl (fun hc1=>?_) (fun hc1=>?_)
   ·refine .exit (.then_exit (.block_exit ?_))
    refine AK.then_ (hK10 _ ?_)
    refine AK.region ?_
    refine .v (.add rfl rfl (by omega)) ?_
    refine .mv rfl (.nil ?_)
    first | refine AK.then_ (hK7 _ _ ((x.1+1,z,vn2,x.2.2.2++[mv1])) ⟨by dsimp only;omega,by dsimp only;rw [fstK_new hc1'];simp [hg0.2.1],hg,hn2⟩ (by dsimp only;omega) (slr) (fun w hw=>by
      dsimp only
      have e0:y=(trimD d).L.toNat:=(by omega)
      have e5:=rowC_len hT hqT
      rw [e0,Nat.sub_self,List.replicate_zero,List.append_nil,← e5,List.take_length,e5,smv1.cells] at hw
      have e1:((fstK (clsD (trimD d)) (x.1+1)).map fun q=>(trimD d).fin.getD q false).map Value.bool=((fstK (clsD (trimD d)) x.1).map fun q=>(trimD d).fin.getD q false).map Value.bool++[Value.bool ((trimD d).fin.getD x.1 false)].flatMap (·.cells.toList):=(by rw [fstK_new hc1'];simp [Value.cells])
      have e2:((fstK (clsD (trimD d)) (x.1+1)).map (rowC (trimD d)))=((fstK (clsD (trimD d)) x.1).map (rowC (trimD d)))++[rowC (trimD d) x.1]:=(by rw [fstK_new hc1',List.map_append];rfl)
      have e3:((fstK (clsD (trimD d)) (x.1+1)).map fun q=>(trimD d).fin.getD q false).length=((fstK (clsD (trimD d)) x.1).map fun q=>(trimD d).fin.getD q false).length+1:=(by rw [fstK_new hc1'];simp)
      rw [e1,e3,e2,matG_snoc hg0.2.1,List.length_append]
      rw [← e5] at hw
      exact HW.absorb (own:=[_,_,_,_,_,_,_,_,_,_,_,_]) 11 rfl hw)) | refine AK.then_ (hK7 _ _ ((x.1+1,x.2)) ⟨by dsimp only;omega,by dsimp only;rw [fstK_skip (by omega)];exact hg0.2.1,hsF,hsN⟩ (by dsimp only;omega) (slr) (fun w hw=>by dsimp only;rw [fstK_skip (by omega)];exact hw))
   ·have hc1':¬ (clsD (trimD d)).getD x.1 0<((fstK (clsD (trimD d)) x.1).length:Int):=by omega
    refine .skip ?_
    refine AK.then_ (hK12 _ ?_)
    refine .sr fun _ hK14=>?_
    refine .v (.fieldAddr fd32_0 rfl) (.v (.loadBox on3 rfl bsp rfl) ?_)
    refine AK.make1Z sl67 el3 rfl rfl rfl (by omega) (by omega) (by omega) trivial rfl (fun mv1=>?_)
    refine AK.shape 12 rfl (fun smv1=>?_)
    refine .as rfl (.nt hK14 ?_)
    refine .seq fun _ hK15=>?_
    refine .sr fun _ hK16=>?_
    refine .v (.fieldAddr fd32_3 rfl) (.v (.loadBox on30 rfl bsp rfl) (.mv rfl ?_))
    first | refine .v (.iN sl30 rfl rfl (hr:=(by first | exact rdp | exact (RdS.big 4 _ rfl (matG_get htrs (by omega)))))) ?_ | refine .v (.iK sl30 rfl rfl (hr:=(by first | exact rdp | exact (RdS.big 4 _ rfl (matG_get htrs (by omega)))))) ?_
    refine .v (.loadV on67 rfl (by first | exact rdp | exact (RdS.big 4 _ rfl (matG_get htrs (by omega)))) (by omega)) ?_
    refine .v (.lenR sl67 rfl (by first | exact rdp | exact (RdS.big 4 _ rfl (matG_get htrs (by omega))))) ?_
    refine .mv rfl (.nt hK16 (.block ?_))
    refine AK.loopK (X:=Nat) [(1,_),(2,_),(4,_),(5,_),(6,_),(7,_),(8,_),(10,_),(28,_),(29,_),(30,_),(47,_),(48,_)] (fun y=>[(49,.int .i64 (y:Int))]) (fun y=>[box bx1 32 4 [.int .i64 d.L,.int .i64 d.s,vF,vN],box bx2 32 4 [.int .i64 0,.int .i64 0,.slice none 0 0,.slice none 0 0],row tF 4 1 (trimD d).fin.length ((trimD d).fin.map Value.bool),row tN 67 1 (trimD d).nx.length trs,bigA (matG (Value.int .i64) 3 trs (trimD d).nx),row tM 3 1 (numT d).length ((numT d).map (Value.int .i64)),box bx4 32 4 [.int .i64 (trimD d).L,.int .i64 (trimD d).s,tF,tN],row cv 3 1 (clsD (trimD d)).length ((clsD (trimD d)).map (Value.int .i64)),box bx7 32 4 [.int .i64 d.L,.int .i64 0,x.2.1,x.2.2.1],row x.2.1 4 1 ((fstK (clsD (trimD d)) x.1).map fun q=>(trimD d).fin.getD q false).length (((fstK (clsD (trimD d)) x.1).map fun q=>(trimD d).fin.getD q false).map Value.bool),row x.2.2.1 67 1 ((fstK (clsD (trimD d)) x.1).map (rowC (trimD d))).length x.2.2.2,bigA (matG (Value.int .i64) 3 x.2.2.2 ((fstK (clsD (trimD d)) x.1).map (rowC (trimD d)))),row mv1 3 1 (trimD d).L.toNat (((rowC (trimD d) x.1).take y++List.replicate ((trimD d).L.toNat - y) 0).map (Value.int .i64))]) (fun y=>y≤(trimD d).L.toNat) (fun y=>(trimD d).L.toNat - y) (0) slr ?_ ?_ ?_ ?_
    ·exact Nat.zero_le _
    ·exact slr
    ·exact fun w hw=>by have e:(((rowC (trimD d) x.1).take 0++List.replicate ((trimD d).L.toNat - 0) 0).map (Value.int .i64))=List.replicate d.L.toNat (Value.int .i64 0):=(by simp [hTL]);rw [e];exact hw
    ·intro y hg1 _ hK17
     refine .sr fun _ hK18=>?_
     refine .v (.lss rfl rfl) (.nt hK18 ?_)
     refine .seq fun _ hK19=>?_
     refine AK.condD rfl (fun hc2=>?_) (fun hc2=>?_)
     ·have hto:=hT.to x.1 y hqT (by omega)
      refine .skip ?_
      refine AK.then_ (hK19 _ ?_)
      refine .seq fun _ hK20=>?_
      refine .block ?_
      refine .sr fun _ hK21=>?_
      refine .mv rfl ?_
      first | refine .v (.iN sl67 rfl rfl (hr:=(by first | exact rdp | exact (RdS.big 4 _ rfl (matG_get htrs (by omega)))))) ?_ | refine .v (.iK sl67 rfl rfl (hr:=(by first | exact rdp | exact (RdS.big 4 _ rfl (matG_get htrs (by omega)))))) ?_
      refine .v (.loadI on3 rfl (by first | exact rdp | exact (RdS.big 4 _ rfl (matG_get htrs (by omega)))) (by omega)) ?_
      refine .as rfl (.as rfl (.nt hK21 ?_))
      refine AK.region ?_
      refine .mv rfl (.mv rfl (.mv rfl (.mv rfl ?_)))
      first | refine .v (.iN sl67 rfl rfl (hr:=(by first | exact rdp | exact (RdS.big 4 _ rfl (matG_get htrs (by omega)))))) ?_ | refine .v (.iK sl67 rfl rfl (hr:=(by first | exact rdp | exact (RdS.big 4 _ rfl (matG_get htrs (by omega)))))) ?_
      refine .v (.loadI on3 rfl (by first | exact rdp | exact (RdS.big 4 _ rfl (matG_get htrs (by omega)))) (by omega)) ?_
      first | refine .v (.iN sl67 rfl rfl (hr:=(by first | exact rdp | exact (RdS.big 4 _ rfl (matG_get htrs (by omega)))))) ?_ | refine .v (.iK sl67 rfl rfl (hr:=(by first | exact rdp | exact (RdS.big 4 _ rfl (matG_get htrs (by omega)))))) ?_
      refine AK.store1e 12 rfl sz3 rfl rfl rfl rfl (by omega) (cs':=(((rowC (trimD d) x.1).take (y+1)++List.replicate ((trimD d).L.toNat - (y+1)) 0).map (Value.int .i64))) (by exact rowC_fill hT hqT (by omega)) trivial ?_
      refine .nil (.block_normal ?_)
      refine AK.then_ (hK20 _ ?_)
      refine AK.region ?_
      refine .v (.add rfl rfl (by omega)) ?_
      refine .mv rfl (.nil ?_)
      refine AK.then_ (hK17 _ _ (y+1) (by omega) (by omega) (slr) (fun w hw=>hw))
     ·refine .exit (.then_exit (.then_exit (.block_exit ?_)))
      refine AK.then_ (hK15 _ ?_)
      refine .seq fun _ hK22=>?_
      refine AK.joinK (X:=Value) [(1,_),(2,_),(4,_),(5,_),(6,_),(7,_),(10,_),(28,_),(29,_),(30,_)] (fun z=>[]) (fun z=>[box bx1 32 4 [.int .i64 d.L,.int .i64 d.s,vF,vN],box bx2 32 4 [.int .i64 0,.int .i64 0,.slice none 0 0,.slice none 0 0],row tF 4 1 (trimD d).fin.length ((trimD d).fin.map Value.bool),row tN 67 1 (trimD d).nx.length trs,bigA (matG (Value.int .i64) 3 trs (trimD d).nx),row tM 3 1 (numT d).length ((numT d).map (Value.int .i64)),box bx4 32 4 [.int .i64 (trimD d).L,.int .i64 (trimD d).s,tF,tN],row cv 3 1 (clsD (trimD d)).length ((clsD (trimD d)).map (Value.int .i64)),box bx7 32 4 [.int .i64 d.L,.int .i64 0,z,x.2.2.1],row z 4 1 (((fstK (clsD (trimD d)) x.1).map fun q=>(trimD d).fin.getD q false).length+1) (((fstK (clsD (trimD d)) x.1).map fun q=>(trimD d).fin.getD q false).map Value.bool++[Value.bool ((trimD d).fin.getD x.1 false)].flatMap (·.cells.toList)),row x.2.2.1 67 1 ((fstK (clsD (trimD d)) x.1).map (rowC (trimD d))).length x.2.2.2,bigA (matG (Value.int .i64) 3 x.2.2.2 ((fstK (clsD (trimD d)) x.1).map (rowC (trimD d)))),row mv1 3 1 (trimD d).L.toNat (((rowC (trimD d) x.1).take y++List.replicate ((trimD d).L.toNat - y) 0).map (Value.int .i64))]) (fun z=>IsSl z) slr (fun _ hJ=>?_) (fun z hg=>?_)
      ·try (conv=>enter [2,2];simp only [nrm])
       refine AK.held 10 mixed ?_
       refine HeldK.first 0 (fuel:=10) (listed':=(lb 11 1)) _ rfl krf krf rfl (Yl.fieldAddr fd32_2 rfl) trivial rfl ?_
       refine HeldK.first 1 (fuel:=9) (listed':=(lb 11 3)) _ rfl krf krf rfl (Yl.loadBox on29 rfl bsp rfl) trivial rfl ?_
       refine HeldK.first 2 (fuel:=8) (listed':=(lb 11 7)) _ rfl krf krf rfl (Yl.fieldAddr fd32_2 rfl) trivial rfl ?_
       refine HeldK.first 3 (fuel:=7) (listed':=(lb 11 15)) _ rfl krf krf rfl (Yl.loadBox on29 rfl bsp rfl) trivial rfl ?_
       refine HeldK.first 4 (fuel:=6) (listed':=(lb 11 31)) _ rfl krf krf rfl (Yl.move rfl) trivial rfl ?_
       first | refine HeldK.first 5 (fuel:=5) (listed':=(lb 11 63)) _ rfl krf krf rfl (.iN sl29 rfl rfl (hr:=(by first | exact rdp | exact (RdS.big 4 _ rfl (matG_get htrs (by omega)))))) trivial rfl ?_ | refine HeldK.first 5 (fuel:=5) (listed':=(lb 11 63)) _ rfl krf krf rfl (.iK sl29 rfl rfl (hr:=(by first | exact rdp | exact (RdS.big 4 _ rfl (matG_get htrs (by omega)))))) trivial rfl ?_
       refine HeldK.first 6 (fuel:=4) (listed':=(lb 11 127)) _ rfl krf krf rfl (Yl.loadB on4 rfl (by first | exact rdp | exact (RdS.big 4 _ rfl (matG_get htrs (by omega)))) (by omega)) trivial rfl ?_
       refine HeldK.one 7 (fuel:=3) (listed':=(lb 11 255)) krf rfl krf ?_
       refine AK.lit (xs:=[.tmp 68]) sl29 el4 rfl rfl rfl (by intro a ha;simp at ha;subst ha;rfl) (by decide) (by decide) trivial rfl (fun t2=>?_)
       refine .nil ?_
       try (conv=>enter [2,2];simp only [nrm])
       refine HeldK.back Go.Sx.hle ?_
       refine HeldK.one 8 (fuel:=2) (listed':=(lb 11 511)) krf rfl krf ?_
       refine AK.appendH 9 rfl sl29 el4 rfl (by decide) rfl rfl rfl (by first | exact rdp | exact (RdS.big 4 _ rfl (matG_get htrs (by omega)))) oneP (by omega) (by omega) trivial rfl (fun vf2 hf2=>?_)
       refine .nil ?_
       try (conv=>enter [2,2];simp only [nrm])
       refine HeldK.back Go.Sx.hle ?_
       refine HeldK.first 9 (fuel:=1) (listed':=(lb 11 1023)) _ rfl krf krf rfl (Yl.fieldAddr fd32_2 rfl) trivial rfl ?_
       refine HeldK.one 10 (fuel:=0) (listed':=(lb 11 2047)) krf rfl krf ?_
       refine AK.storeBox 8 (us:=[vf2]) (cs':=[.int .i64 d.L,.int .i64 0,vf2,x.2.2.1]) rfl sz29 rfl rfl (by rw [IsSl.cells (by assumption)]) rfl oneP (leb rfl) rfl trivial ?_
       refine .nil ?_
       try (conv=>enter [2,2];simp only [nrm])
       refine HeldK.backN 11 krf rfl krf ?_
       refine .nil ?_
       refine AK.fromQn ?_
       exact hJ _ _ (vf2) hf2 (slr) (fun w hw=>by first | exact hw.pickLe [0,1,2,3,4,5,6,7,8,9,10,11,12] (by decide) pkl)
      ·skip
       refine AK.then_ (hK22 _ ?_)
       refine AK.region ?_
       refine .v (.fieldAddr fd32_3 rfl) (.v (.loadBox on30 rfl bsp rfl) (.mv rfl ?_))
       refine AK.append1 10 rfl sl30 el67 rfl (by decide) rfl (by intro k hk;cases hk;rfl) (by rw [smv1.cells];rfl) (by rw [smv1.cells];exact one'_cons smv1.one one'_nil) (by omega) (by omega) (by decide) rfl rfl (fun vn2 _ hn2=>?_)
       refine .v (.fieldAddr fd32_3 rfl) ?_
       refine AK.storeBox 8 (us:=[vn2]) (cs':=[.int .i64 d.L,.int .i64 0,z,vn2]) rfl sz30 rfl rfl (by rw [IsSl.cells (by assumption)]) rfl oneP (leb rfl) rfl trivial ?_
       refine .nil (.block_normal ?_)
       refine AK.then_ (hK10 _ ?_)
       refine AK.region ?_
       refine .v (.add rfl rfl (by omega)) ?_
       refine .mv rfl (.nil ?_)
       first | refine AK.then_ (hK7 _ _ ((x.1+1,z,vn2,x.2.2.2++[mv1])) ⟨by dsimp only;omega,by dsimp only;rw [fstK_new hc1'];simp [hg0.2.1],hg,hn2⟩ (by dsimp only;omega) (slr) (fun w hw=>by
        dsimp only
        have e0:y=(trimD d).L.toNat:=(by omega)
        have e5:=rowC_len hT hqT
        rw [e0,Nat.sub_self,List.replicate_zero,List.append_nil,← e5,List.take_length,e5,smv1.cells] at hw
        have e1:((fstK (clsD (trimD d)) (x.1+1)).map fun q=>(trimD d).fin.getD q false).map Value.bool=((fstK (clsD (trimD d)) x.1).map fun q=>(trimD d).fin.getD q false).map Value.bool++[Value.bool ((trimD d).fin.getD x.1 false)].flatMap (·.cells.toList):=(by rw [fstK_new hc1'];simp [Value.cells])
        have e2:((fstK (clsD (trimD d)) (x.1+1)).map (rowC (trimD d)))=((fstK (clsD (trimD d)) x.1).map (rowC (trimD d)))++[rowC (trimD d) x.1]:=(by rw [fstK_new hc1',List.map_append];rfl)
        have e3:((fstK (clsD (trimD d)) (x.1+1)).map fun q=>(trimD d).fin.getD q false).length=((fstK (clsD (trimD d)) x.1).map fun q=>(trimD d).fin.getD q false).length+1:=(by rw [fstK_new hc1'];simp)
        rw [e1,e3,e2,matG_snoc hg0.2.1,List.length_append]
        rw [← e5] at hw
        exact HW.absorb (own:=[_,_,_,_,_,_,_,_,_,_,_,_]) 11 rfl hw)) | refine AK.then_ (hK7 _ _ ((x.1+1,x.2)) ⟨by dsimp only;omega,by dsimp only;rw [fstK_skip (by omega)];exact hg0.2.1,hsF,hsN⟩ (by dsimp only;omega) (slr) (fun w hw=>by dsimp only;rw [fstK_skip (by omega)];exact hw))
  ·have hqe:fstK (clsD (trimD d)) x.1=firsts (trimD d):=by rw [show x.1=(trimD d).fin.length by omega];rfl
   have hrsl:=hg0.2.1
   rw [hqe] at hrsl
   rw [hqe]
   refine AK.own' [box bx1 32 4 [.int .i64 d.L,.int .i64 d.s,vF,vN],box bx2 32 4 [.int .i64 0,.int .i64 0,.slice none 0 0,.slice none 0 0],row tF 4 1 (trimD d).fin.length ((trimD d).fin.map Value.bool),row tN 67 1 (trimD d).nx.length trs,bigA (matG (Value.int .i64) 3 trs (trimD d).nx),row tM 3 1 (numT d).length ((numT d).map (Value.int .i64)),box bx4 32 4 [.int .i64 (trimD d).L,.int .i64 (trimD d).s,tF,tN],row cv 3 1 (clsD (trimD d)).length ((clsD (trimD d)).map (Value.int .i64)),box bx7 32 4 [.int .i64 d.L,.int .i64 0,x.2.1,x.2.2.1],row x.2.1 4 1 (quoD (trimD d)).fin.length ((quoD (trimD d)).fin.map Value.bool),row x.2.2.1 67 1 (quoD (trimD d)).nx.length x.2.2.2,bigA (matG (Value.int .i64) 3 x.2.2.2 (quoD (trimD d)).nx)] (fun w hw=>hw) ?_
   refine .exit (.then_exit (.then_exit (.block_exit ?_)))
   refine AK.then_ (hK5 _ ?_)
   refine .sr fun _ hK23=>?_
   refine .v (.loadBoxG ag32 rfl bsp rfl rfl) ?_
   refine AK.call co74 rfl (fun w hw=>(by have h:=s_trim w _ (quoD (trimD d)) (RdD.own 9 hw hrsl rfl rfl rfl);rw [hqs] at h;exact h)) trivial rfl ?_
   rintro r o ⟨mF,mN,mM,mrs,rfl,hmrs,smF,smN,smM,rfl⟩
   rw [hQe] at hmrs
   rw [hQe,hQn]
   refine .mv rfl (.v (.extract rfl rfl) (.v (.extract rfl rfl) ?_))
   refine AK.alloc el32 rfl rfl trivial rfl (fun bx13=>?_)
   refine AK.storeBox 16 (us:=[.int .i64 (minD d).L,.int .i64 (minD d).s,mF,mN]) (cs':=[.int .i64 (minD d).L,.int .i64 (minD d).s,mF,mN]) rfl sz32 rfl rfl rfl rfl oneP (leb rfl) rfl trivial ?_
   refine .as rfl (.nt hK23 ?_)
   refine .sr fun _ hK24=>?_
   refine .mv rfl ?_
   refine .v (.lenR sl67 rfl (by first | exact rdp | exact (RdS.big 4 _ rfl (matG_get htrs (by omega))))) ?_
   refine AK.make1 (n:=(numT d).length) sl67 el3 rfl rfl rfl (by omega) (by omega) trivial rfl (fun mv2=>?_)
   refine AK.shape 17 rfl (fun smv2=>?_)
   refine .as rfl (.nt hK24 ?_)
   refine .seq fun _ hK25=>?_
   refine .sr fun _ hK26=>?_
   refine .mv rfl ?_
   refine .v (.lenR sl67 rfl (by first | exact rdp | exact (RdS.big 4 _ rfl (matG_get htrs (by omega))))) ?_
   refine .mv rfl (.nt hK26 (.block ?_))
   refine AK.loopK (X:=Nat) [(2,_),(6,_),(13,_),(14,_),(15,_),(87,_),(88,_)] (fun q=>[(89,.int .i64 (q:Int))]) (fun q=>[box bx1 32 4 [.int .i64 d.L,.int .i64 d.s,vF,vN],box bx2 32 4 [.int .i64 0,.int .i64 0,.slice none 0 0,.slice none 0 0],row tF 4 1 (trimD d).fin.length ((trimD d).fin.map Value.bool),row tN 67 1 (trimD d).nx.length trs,bigA (matG (Value.int .i64) 3 trs (trimD d).nx),row tM 3 1 (numT d).length ((numT d).map (Value.int .i64)),box bx4 32 4 [.int .i64 (trimD d).L,.int .i64 (trimD d).s,tF,tN],row cv 3 1 (clsD (trimD d)).length ((clsD (trimD d)).map (Value.int .i64)),box bx7 32 4 [.int .i64 d.L,.int .i64 0,x.2.1,x.2.2.1],row x.2.1 4 1 (quoD (trimD d)).fin.length ((quoD (trimD d)).fin.map Value.bool),row x.2.2.1 67 1 (quoD (trimD d)).nx.length x.2.2.2,bigA (matG (Value.int .i64) 3 x.2.2.2 (quoD (trimD d)).nx),row mF 4 1 (minD d).fin.length ((minD d).fin.map Value.bool),row mN 67 1 (minD d).nx.length mrs,bigA (matG (Value.int .i64) 3 mrs (minD d).nx),row mM 3 1 (numT (quoD (trimD d))).length ((numT (quoD (trimD d))).map (Value.int .i64)),box bx13 32 4 [.int .i64 (minD d).L,.int .i64 (minD d).s,mF,mN],row mv2 3 1 (numT d).length (((mapM d).take q++List.replicate (d.fin.length - q) 0).map (Value.int .i64))]) (fun q=>q≤d.fin.length) (fun q=>d.fin.length - q) (0) slr ?_ ?_ ?_ ?_
   ·exact Nat.zero_le _
   ·exact slr
   ·exact fun w hw=>by have e:(((mapM d).take 0++List.replicate (d.fin.length - 0) 0).map (Value.int .i64))=List.replicate (numT d).length (Value.int .i64 0):=(by simp [hnt]);rw [e];exact hw
   ·intro q hg2 _ hK27
    refine .sr fun _ hK28=>?_
    refine .v (.lss rfl rfl) (.nt hK28 ?_)
    refine .seq fun _ hK29=>?_
    refine AK.condD rfl (fun hc3=>?_) (fun hc3=>?_)
    ·have hqn:q<d.fin.length:=by omega
     have hml:(mapM d).length=d.fin.length:=by simp [mapM]
     have hin:InR d (q:Int):=⟨by omega,by omega⟩
     have hna:=numT_all hv hin
     have hmg:=mapM_get hin
     rw [Int.toNat_natCast] at hna hmg
     refine .skip ?_
     refine AK.then_ (hK29 _ ?_)
     refine .seq fun _ hK30=>?_
     refine .block ?_
     refine .sr fun _ hK31=>?_
     refine .mv rfl ?_
     first | refine .v (.iN sl67 rfl rfl (hr:=(by first | exact rdp | exact (RdS.big 4 _ rfl (matG_get htrs (by omega)))))) ?_ | refine .v (.iK sl67 rfl rfl (hr:=(by first | exact rdp | exact (RdS.big 4 _ rfl (matG_get htrs (by omega)))))) ?_
     refine .v (.loadI on3 rfl (by first | exact rdp | exact (RdS.big 4 _ rfl (matG_get htrs (by omega)))) (by omega)) ?_
     refine .as rfl (.as rfl (.nt hK31 ?_))
     refine .sr fun _ hK32=>?_
     refine .mv rfl (.mv rfl ?_)
     first | refine .v (.iN sl67 rfl rfl (hr:=(by first | exact rdp | exact (RdS.big 4 _ rfl (matG_get htrs (by omega)))))) ?_ | refine .v (.iK sl67 rfl rfl (hr:=(by first | exact rdp | exact (RdS.big 4 _ rfl (matG_get htrs (by omega)))))) ?_
     refine AK.store1e 17 rfl sz3 rfl rfl rfl rfl (by omega) (cs':=((((mapM d).take q++[-1])++List.replicate (d.fin.length - (q+1)) 0).map (Value.int .i64))) (by exact fill_set (Value.int .i64) _ 0 (-1) d.fin.length q (by rw [List.length_take];omega) (by omega)) trivial ?_
     refine .nt hK32 ?_
     refine .sr fun _ hK33=>?_
     refine .mv rfl (.v (.geq rfl rfl) (.nt hK33 ?_))
     refine AK.condD rfl (fun hc4=>?_) (fun hc4=>?_)
     ·have hm:(q:Int)∈TSt d:=by
       by_cases hm:(q:Int)∈TSt d
       ·exact hm
       ·rw [if_neg hm] at hna;omega
      rw [if_pos hm] at hna hmg
      have hpi:=pos_inr hm
      have hpb:=hpi.2
      have hqr:=quo_reach hv hpi
      have hqb:=tst_in hQ hqr
      have hqb1:=hqb.1
      have hqb2:=hqb.2
      have hqnl:(numT (quoD (trimD d))).length=(quoD (trimD d)).fin.length:=numK_len _ _ _
      have hst:(mapM d).getD q 0=(numT (quoD (trimD d))).getD ((clsD (trimD d)).getD ((numT d).getD q 0).toNat 0).toNat 0:=by
       rw [hmg,hna];exact (numT_mem hQ hqr).symm
      have hcle:clsA (trimD d) ((posN (TSt d) (q:Int):Nat):Int)=(clsD (trimD d)).getD ((numT d).getD q 0).toNat 0:=by rw [hna];rfl
      rw [hcle] at hqb1 hqb2
      refine AK.region ?_
      refine .mv rfl (.mv rfl (.mv rfl (.mv rfl (.mv rfl ?_))))
      first | refine .v (.iN sl67 rfl rfl (hr:=(by first | exact rdp | exact (RdS.big 4 _ rfl (matG_get htrs (by omega)))))) ?_ | refine .v (.iK sl67 rfl rfl (hr:=(by first | exact rdp | exact (RdS.big 4 _ rfl (matG_get htrs (by omega)))))) ?_
      refine .v (.loadI on3 rfl (by first | exact rdp | exact (RdS.big 4 _ rfl (matG_get htrs (by omega)))) (by omega)) ?_
      first | refine .v (.iN sl67 rfl rfl (hr:=(by first | exact rdp | exact (RdS.big 4 _ rfl (matG_get htrs (by omega)))))) ?_ | refine .v (.iK sl67 rfl rfl (hr:=(by first | exact rdp | exact (RdS.big 4 _ rfl (matG_get htrs (by omega)))))) ?_
      refine .v (.loadI on3 rfl (by first | exact rdp | exact (RdS.big 4 _ rfl (matG_get htrs (by omega)))) (by omega)) ?_
      first | refine .v (.iN sl67 rfl rfl (hr:=(by first | exact rdp | exact (RdS.big 4 _ rfl (matG_get htrs (by omega)))))) ?_ | refine .v (.iK sl67 rfl rfl (hr:=(by first | exact rdp | exact (RdS.big 4 _ rfl (matG_get htrs (by omega)))))) ?_
      refine AK.store1e 17 rfl sz3 rfl rfl rfl rfl (by omega) (cs':=((((mapM d).take q++[(mapM d).getD q 0])++List.replicate (d.fin.length - (q+1)) 0).map (Value.int .i64))) (by rw [hst];exact set_mid (Value.int .i64) _ _ (-1) _ (by rw [List.length_take];omega)) trivial ?_
      refine .nil (.block_normal ?_)
      refine AK.then_ (hK30 _ ?_)
      refine AK.region ?_
      refine .v (.add rfl rfl (by omega)) ?_
      refine .mv rfl (.nil ?_)
      first | refine AK.then_ (hK27 _ _ (q+1) (by omega) (by omega) (slr) (fun w hw=>by rw [take_snocD 0 (mapM d) q (by omega)];exact hw)) | refine AK.then_ (hK27 _ _ (q+1) (by omega) (by omega) (slr) (fun w hw=>by rw [take_snocD 0 (mapM d) q (by omega),hmg];exact hw))
     ·have hm:(q:Int) ∉ TSt d:=by
       intro hm
       rw [if_pos hm] at hna;omega
      rw [if_neg hm] at hmg
      refine .skip (.block_normal ?_)
      refine AK.then_ (hK30 _ ?_)
      refine AK.region ?_
      refine .v (.add rfl rfl (by omega)) ?_
      refine .mv rfl (.nil ?_)
      first | refine AK.then_ (hK27 _ _ (q+1) (by omega) (by omega) (slr) (fun w hw=>by rw [take_snocD 0 (mapM d) q (by omega)];exact hw)) | refine AK.then_ (hK27 _ _ (q+1) (by omega) (by omega) (slr) (fun w hw=>by rw [take_snocD 0 (mapM d) q (by omega),hmg];exact hw))
    ·refine .exit (.then_exit (.then_exit (.block_exit ?_)))
     refine AK.then_ (hK25 _ ?_)
     refine .sr fun _ hK34=>?_
     refine .v (.loadBoxG ag32 rfl bsp rfl rfl) (.mv rfl ?_)
     refine AK.storeBox 1 (us:=[.int .i64 (minD d).L,.int .i64 (minD d).s,mF,mN]) (cs':=[.int .i64 (minD d).L,.int .i64 (minD d).s,mF,mN]) rfl sz32 rfl rfl rfl rfl oneP (leb rfl) rfl trivial ?_
     refine .as rfl (.nt hK34 (.ret ?_))
     refine AK.retG [.cell 2 32,.tmp 3] rfl (.cons (.cell ag32 rfl bsp rfl rfl) (.cons (.tmp rfl) (.nil))) (fun w hw=>⟨_,_,?_,rfl,Ret.of (hw.pick [12,13,14,17] (by decide) rfl rfl)⟩)
     have e:q=d.fin.length:=(by omega)
     have hml:(mapM d).length=d.fin.length:=(by simp [mapM])
     refine ⟨mF,mN,mv2,mrs,rfl,hmrs,smF,smN,smv2,?_⟩
     rw [hnt,e,Nat.sub_self,List.replicate_zero,List.append_nil,← hml,List.take_length];rfl
end Go.Proofs.YtbibnpdnmmgacaaGreatDoor
namespace Go.Proofs.YtbibnpdnmmgacaaGreatDoor
open Go.Sx Go.RowKit
set_option maxHeartbeats 400000 in
theorem s_min (w:World) (v:Value) (d:Dfa) (h:RdD (fun _=>False) w v d):CallS Tryz.prog 15 [v] w (fun r o=>∃ (vF vN:Value) (rs:List Value),r = .agg #[.int .i64 (MinV d).L,.int .i64 (MinV d).s,vF,vN]∧rs.length=(MinV d).nx.length∧IsSl vF∧IsSl vN∧o=dfaO 4 3 67 vF vN rs (MinV d)):=by
 have h0:=h
 obtain ⟨vF,vN,rfl,hF,hN⟩:=h
 have hF0:=hF
 have hN0:=hN
 obtain ⟨rs,hrl,hNr,hNi⟩:=hN
 have sF:=hF.sl
 have sN:=hNr.sl
 have hmf:=hF.le
 have hmn:=hNr.le
 unfold RdL at hF
 refine spec_of Tryz.func15 rfl (leb rfl) ?_
 refine .sr fun _ hK1=>?_
 refine AK.box_ (E:=32) (cs:=[.int .i64 d.L,.int .i64 d.s,vF,vN]) rfl rfl rfl trivial rfl (fun bx1=>?_)
 refine AK.alloc el32 rfl rfl trivial rfl (fun bx2=>?_)
 refine .nt hK1 ?_
 refine .seq fun _ hK2=>?_
 refine .sr fun _ hK3=>?_
 refine .v (.loadBoxG ag32 rfl bsp rfl rfl) ?_
 refine AK.call co23 rfl (fun w hw=>s_validate w _ d (h0.at hw)) trivial rfl ?_
 rintro r o ⟨rfl,rfl⟩
 refine .v (.neq rfl rfl) (.nt hK3 ?_)
 refine AK.condNe rfl (fun hc0=>?_) (fun hc0=>?_)
 ·have hnv:¬ VD d:=fun h=>hc0 ((errV_iff d).2 h)
  refine .sr fun _ hK4=>?_
  refine .v (.build (parts:=[]) (cs:=#[.int .i64 0,.int .i64 0,.slice none 0 0,.slice none 0 0]) rfl (by kernel_rfl)) ?_
  refine AK.storeBox 1 (us:=[.int .i64 0,.int .i64 0,.slice none 0 0,.slice none 0 0]) (cs':=[.int .i64 0,.int .i64 0,.slice none 0 0,.slice none 0 0]) rfl sz32 rfl rfl rfl rfl oneP (leb rfl) rfl trivial ?_
  refine .nt hK4 (.ret (.then_ret ?_))
  refine AK.own' (dfaO 4 3 67 (.slice none 0 0) (.slice none 0 0) [] nilD++[box bx2 32 4 [.int .i64 0,.int .i64 0,.slice none 0 0,.slice none 0 0]]) (fun w hw=>by have h1:=(((hw.pick [1] (by decide) rfl rfl).ghost 4 1).ghost 67 1).ghostG (f:=Value.int .i64) 3;exact h1.pick [1,2,3,0] (by decide) rfl rfl) ?_
  refine AK.retG [.cell 2 32] rfl (.cons (.cell ag32 rfl bsp rfl rfl) (.nil)) (fun w hw=>⟨_,_,?_,rfl,Ret.of (hw.pick [0,1,2] (by decide) rfl rfl)⟩)
  rw [show MinV d=nilD from if_neg hnv]
  exact ⟨_,_,[],rfl,rfl,nilSl,nilSl,rfl⟩
 ·have hv:VD d:=(errV_iff d).1 hc0
  refine .skip ?_
  refine AK.then_ (hK2 _ ?_)
  refine .sr fun _ hK5=>?_
  refine .v (.loadBoxG ag32 rfl bsp rfl rfl) ?_
  refine AK.call co51 rfl (fun w hw=>s_minimal w _ d (h0.at hw) hv) trivial rfl ?_
  rintro r o ⟨mF,mN,mS,mrs,rfl,hmrs,smF,smN,smS,rfl⟩
  refine .mv rfl (.v (.extract rfl rfl) (.v (.extract rfl rfl) ?_))
  refine AK.alloc el32 rfl rfl trivial rfl (fun bx3=>?_)
  refine AK.storeBox 6 (us:=[.int .i64 (minD d).L,.int .i64 (minD d).s,mF,mN]) (cs':=[.int .i64 (minD d).L,.int .i64 (minD d).s,mF,mN]) rfl sz32 rfl rfl rfl rfl oneP (leb rfl) rfl trivial ?_
  refine .as rfl (.nt hK5 ?_)
  refine .sr fun _ hK6=>?_
  refine .v (.loadBoxG ag32 rfl bsp rfl rfl) ?_
  refine AK.storeBox 1 (us:=[.int .i64 (minD d).L,.int .i64 (minD d).s,mF,mN]) (cs':=[.int .i64 (minD d).L,.int .i64 (minD d).s,mF,mN]) rfl sz32 rfl rfl rfl rfl oneP (leb rfl) rfl trivial ?_
  refine .nt hK6 (.ret ?_)
  refine AK.retG [.cell 2 32] rfl (.cons (.cell ag32 rfl bsp rfl rfl) (.nil)) (fun w hw=>⟨_,_,?_,rfl,Ret.of (hw.pick [2,3,4] (by decide) rfl rfl)⟩)
  rw [show MinV d=minD d from if_pos hv]
  exact ⟨mF,mN,mrs,rfl,hmrs,smF,smN,rfl⟩
end Go.Proofs.YtbibnpdnmmgacaaGreatDoor
namespace Go.Sx
open Go.RowKit
def nilN:Nfa:=⟨0,0,0,0,[]⟩
theorem RdN.own {C:Cx} {on:List Asn} {w:World} {vE:Value} {E:TypeId} {n:Nfa} (i:Nat) (hw:HW C on w) (hi:on[i]? = some (row vE E 3 n.es.length (edc n.es))):RdN (fun _=>False) w (.agg #[.int .i64 n.L,.int .i64 n.S,uv n.st,uv n.fi,vE]) n:=
 ⟨vE,rfl,(RdS.own (C:=C) i hi w hw).mono fun b _ _=>⟨id,rfl⟩⟩
end Go.Sx
namespace Go.Proofs.YtbibnpdnmmgacaaGreatDoor
open Go.Sx Go.RowKit
end Go.Proofs.YtbibnpdnmmgacaaGreatDoor
