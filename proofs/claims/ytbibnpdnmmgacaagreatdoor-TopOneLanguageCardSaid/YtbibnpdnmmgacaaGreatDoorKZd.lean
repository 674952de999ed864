import Derived.Test.YtbibnpdnmmgacaaGreatDoorKZc
import Derived.Lib.TrailingZeros
import Derived.Laws.StructEq
import Derived.Test.YtbibnpdnmmgacaaGreatDoorKZa
import Derived.ProofKit
import Derived.OpenShut
import Derived.Deep.Slices
import Derived.Test.YtbibnpdnmmgacaaGreatDoorKZb
import Derived.WideShapes
import Derived.Test.YtbibnpdnmmgacaaGreatDoorRows
import Derived.LaidMore
import Derived.Lib.LaidTab
import Derived.Stop.Joined
import Derived.ChangeKeysEq
import Derived.Laws.IdiomCopy
set_option linter.unusedVariables false
set_option linter.unusedSimpArgs false
set_option maxRecDepth 100000
namespace Go.Sx
open Go.RowKit
def oF (s:cF) (i:Nat):Nat→List Nat
 | 0=>[]
 | f+1=>if s.getLsbD i=true then i :: oF s (i+1) f else oF s (i+1) f
def c5 (s:cF):List Nat:=oF s 0 64
theorem xL {s t:cF}:∀ (f i:Nat),(∀ j,i≤j→j<i+f→s.getLsbD j=t.getLsbD j)→oF s i f=oF t i f
 | 0,_,_=>rfl
 | f+1,i,h=>by
  have h1:=h i (Nat.le_refl _) (by omega)
  have h2:=xL f (i+1) (fun j h3 h4=>h j (by omega) (by omega))
  show (if s.getLsbD i=true then _ else _)=if t.getLsbD i=true then _ else _
  rw [h1,h2]
theorem ub {s:cF}:∀ (k i f:Nat),(∀ j,i≤j→j<i+k→s.getLsbD j=false)→oF s i (k+f)=oF s (i+k) f
 | 0,i,f,_=>by simp
 | k+1,i,f,h=>by
  rw [show k+1+f=(k+f)+1 by omega]
  show (if s.getLsbD i=true then _ else _)=_
  rw [h i (Nat.le_refl _) (by omega)]
  have:=ub k (i+1) f (fun j h1 h2=>h j (by omega) (by omega))
  rw [if_neg (by decide),this];congr 1;omega
theorem w8 {s:cF}:∀ (f i j:Nat),j∈oF s i f↔(i≤j∧j<i+f∧s.getLsbD j=true)
 | 0,i,j=>by simp [oF];omega
 | f+1,i,j=>by
  have ih:=w8 (s:=s) f (i+1) j
  show j∈(if s.getLsbD i=true then i :: oF s (i+1) f else oF s (i+1) f)↔_
  split
  ·rename_i h
   rw [List.mem_cons,ih]
   constructor
   ·rintro (rfl | ⟨h1,h2,h3⟩)
    ·exact ⟨Nat.le_refl _,by omega,h⟩
    ·exact ⟨by omega,by omega,h3⟩
   ·rintro ⟨h1,h2,h3⟩
    by_cases e:j=i
    ·exact .inl e
    ·exact .inr ⟨by omega,by omega,h3⟩
  ·rename_i h
   rw [ih]
   constructor
   ·rintro ⟨h1,h2,h3⟩;exact ⟨by omega,by omega,h3⟩
   ·rintro ⟨h1,h2,h3⟩
    refine ⟨?_,by omega,h3⟩
    by_cases e:j=i
    ·subst e;exact absurd h3 h
    ·omega
theorem jq {s:cF} {j:Nat}:j∈c5 s↔s.getLsbD j=true:=by
 unfold c5
 rw [w8]
 constructor
 ·exact fun h=>h.2.2
 ·intro h
  refine ⟨Nat.zero_le _,?_,h⟩
  apply Classical.byContradiction
  intro hc
  rw [BitVec.getLsbD_of_ge s j (by omega)] at h;cases h
theorem mD (s:cF):(c5 s).length≤64:=by
 have:∀ f i,(oF s i f).length≤f:=by
  intro f
  induction f with
  | zero=>intro i;exact Nat.le_refl _
  | succ f ih=>
   intro i
   have:=ih (i+1)
   show (if s.getLsbD i=true then _ else _:List Nat).length≤_
   split
   ·simp;omega
   ·omega
 exact this 64 0
theorem zk:c5 0=[]:=by decide
theorem xc {s:cF} (h:s ≠ 0):Lib.ctz 64 s.toNat<64∧s.getLsbD (Lib.ctz 64 s.toNat)=true∧(∀ i,i<Lib.ctz 64 s.toNat→s.getLsbD i=false)∧∀ i,i<64→(s &&& (s - 1)).getLsbD i=(s.getLsbD i && decide (i ≠ Lib.ctz 64 s.toNat)):=by
 have h0:s.toNat ≠ 0:=fun e=>h (BitVec.eq_of_toNat_eq (by rw [e];rfl))
 obtain ⟨m,hm,hc⟩:=Lib.ctzFrom_spec 64 s.toNat (by omega) s.isLt
 have e:Lib.ctz 64 s.toNat=Lib.ctzFrom 64 s.toNat:=if_neg h0
 rw [e]
 generalize Lib.ctzFrom 64 s.toNat=c at hm hc
 have hb:∀ i,s.getLsbD i=if i<c then false else (2 * m+1).testBit (i - c):=fun i=>by
  rw [← BitVec.testBit_toNat,hm]
  have:=Nat.testBit_two_pow_mul_add (2 * m+1) (b:=0) (i:=c) (Nat.pow_pos (by omega)) i
  rw [Nat.add_zero] at this
  rw [this]
  split
  ·exact Nat.zero_testBit i
  ·rfl
 have Jr:0<2 ^ c:=Nat.pow_pos (by omega)
 have uG:(s - 1).toNat=2 ^ c * (2 * m)+(2 ^ c - 1):=by
  rw [BitVec.toNat_sub]
  have h1:(1:cF).toNat=1:=by decide
  have h2:=s.isLt
  have h3:2 ^ c * (2 * m+1)=2 ^ c * (2 * m)+2 ^ c:=by rw [Nat.mul_add,Nat.mul_one]
  rw [h1];omega
 have XX:∀ i,(s - 1).getLsbD i=if i<c then true else (2 * m).testBit (i - c):=fun i=>by
  rw [← BitVec.testBit_toNat,uG]
  have:=Nat.testBit_two_pow_mul_add (2 * m) (b:=2 ^ c - 1) (i:=c) (by omega) i
  rw [this]
  split
  ·rw [Nat.testBit_two_pow_sub_one];simp;omega
  ·rfl
 refine ⟨hc,?_,fun i hi=>?_,fun i hi=>?_⟩
 ·rw [hb,if_neg (by omega),Nat.sub_self];simp
 ·rw [hb,if_pos hi]
 ·rw [BitVec.getLsbD_and,hb,XX]
  by_cases h1:i<c
  ·rw [if_pos h1];simp
  ·rw [if_neg h1,if_neg h1]
   by_cases h2:i=c
   ·subst h2;simp
   ·have h3:i - c=(i - c - 1)+1:=by omega
    rw [h3,Nat.testBit_succ,Nat.testBit_succ]
    have e1:(2 * m+1) / 2=m:=by omega
    have e2:2 * m / 2=m:=by omega
    rw [e1,e2];simp [h2]
theorem zm {s:cF} (h:s ≠ 0):c5 s=Lib.ctz 64 s.toNat :: c5 (s &&& (s - 1)):=by
 obtain ⟨h1,h2,h3,h4⟩:=xc h
 generalize Lib.ctz 64 s.toNat=c at h1 h2 h3 h4
 unfold c5
 obtain ⟨f,hf⟩:∃ f,64=c+(f+1):=⟨63 - c,by omega⟩
 rw [congrArg (oF s 0) hf,congrArg (oF (s &&& (s - 1)) 0) hf,ub c 0 (f+1) (fun j _ hj=>h3 j (by omega)),ub c 0 (f+1) (fun j _ hj=>by rw [h4 j (by omega),h3 j (by omega)];rfl)]
 show (if s.getLsbD (0+c)=true then _ else _)=_ :: (if (s &&& (s - 1)).getLsbD (0+c)=true then _ else _)
 rw [Nat.zero_add,h2,if_pos rfl,h4 c h1]
 simp only [ne_eq,not_true_eq_false,decide_false,Bool.and_false,Bool.false_eq_true,if_false]
 congr 1
 refine xL _ _ fun j k1 k2=>?_
 rw [h4 j (by omega),decide_eq_true (show j ≠ c by omega),Bool.and_true]
def bit (j:Int):cF:=(1:cF) <<< j.toNat
theorem so {j:Int} (hj:0≤j∧j<64) (i:Nat):(bit j).getLsbD i=decide ((i:Int)=j):=by
 obtain ⟨m,rfl⟩:=Int.eq_ofNat_of_zero_le hj.1
 unfold bit
 rw [Int.toNat_natCast,BitVec.getLsbD_shiftLeft]
 have h1:∀ k,(1:cF).getLsbD k=decide (k=0):=fun k=>by
  rw [show (1:cF)=BitVec.ofNat 64 1 from rfl,BitVec.getLsbD_ofNat]
  by_cases hk:k=0
  ·subst hk;decide
  ·have:Nat.testBit 1 k=false:=by
    obtain ⟨q,rfl⟩:=Nat.exists_eq_succ_of_ne_zero hk
    rw [Nat.testBit_succ];simp
   rw [this];simp [hk]
 rw [h1]
 by_cases h:i=m
 ·subst h
  have h2:i<64:=by omega
  simp [h2]
 ·rw [decide_eq_false (show ¬ (i:Int)=(m:Int) by omega)]
  by_cases h2:i<m
  ·simp [h2]
  ·have h3:¬ i - m=0:=by omega
   simp [h3]
def has (s:cF) (j:Int):Bool:=s.getLsbD j.toNat
def Jg (es:List iV) (s:cF) (x:Int):Nat→cF
 | 0=>0
 | k+1=>let e:=es.getD k (0,0,0);if e.2.1=x∧has s e.1=true then Jg es s x k ||| bit e.2.2 else Jg es s x k
def Jf (n:kc) (s:cF) (x:Int):cF:=Jg n.es s x n.es.length
def vt (es:List iV) (x q:Int):Nat→cF
 | 0=>0
 | k+1=>let e:=es.getD k (0,0,0);if e.2.1=x∧e.1=q then vt es x q k ||| bit e.2.2 else vt es x q k
def Cp (n:kc) (x q:Int):cF:=vt n.es x q n.es.length
theorem wT {es:List iV} {s:cF} {x:Int} {i:Nat}:∀ k,(∀ j,j<k→0≤(es.getD j (0,0,0)).2.2∧(es.getD j (0,0,0)).2.2<64)→((Jg es s x k).getLsbD i=true↔∃ j,j<k∧(es.getD j (0,0,0)).2.1=x∧has s (es.getD j (0,0,0)).1=true∧(i:Int)=(es.getD j (0,0,0)).2.2)
 | 0,_=>by simp [Jg]
 | k+1,h=>by
  have ih:=wT (es:=es) (s:=s) (x:=x) (i:=i) k (fun j hj=>h j (by omega))
  show ((if _ then _ else _:cF).getLsbD i=true)↔_
  split
  ·rename_i hc
   rw [BitVec.getLsbD_or,Bool.or_eq_true,ih,so (h k (by omega)),decide_eq_true_eq]
   constructor
   ·rintro (⟨j,h1,h2⟩ | h1)
    ·exact ⟨j,by omega,h2⟩
    ·exact ⟨k,by omega,hc.1,hc.2,h1⟩
   ·rintro ⟨j,h1,h2,h3,h4⟩
    by_cases e:j=k
    ·subst e;exact .inr h4
    ·exact .inl ⟨j,by omega,h2,h3,h4⟩
  ·rename_i hc
   rw [ih]
   constructor
   ·rintro ⟨j,h1,h2⟩;exact ⟨j,by omega,h2⟩
   ·rintro ⟨j,h1,h2,h3,h4⟩
    refine ⟨j,?_,h2,h3,h4⟩
    by_cases e:j=k
    ·subst e;exact absurd ⟨h2,h3⟩ hc
    ·omega
theorem sG {es:List iV} {x q:Int} {i:Nat}:∀ k,(∀ j,j<k→0≤(es.getD j (0,0,0)).2.2∧(es.getD j (0,0,0)).2.2<64)→((vt es x q k).getLsbD i=true↔∃ j,j<k∧(es.getD j (0,0,0)).2.1=x∧(es.getD j (0,0,0)).1=q∧(i:Int)=(es.getD j (0,0,0)).2.2)
 | 0,_=>by simp [vt]
 | k+1,h=>by
  have ih:=sG (es:=es) (x:=x) (q:=q) (i:=i) k (fun j hj=>h j (by omega))
  show ((if _ then _ else _:cF).getLsbD i=true)↔_
  split
  ·rename_i hc
   rw [BitVec.getLsbD_or,Bool.or_eq_true,ih,so (h k (by omega)),decide_eq_true_eq]
   constructor
   ·rintro (⟨j,h1,h2⟩ | h1)
    ·exact ⟨j,by omega,h2⟩
    ·exact ⟨k,by omega,hc.1,hc.2,h1⟩
   ·rintro ⟨j,h1,h2,h3,h4⟩
    by_cases e:j=k
    ·subst e;exact .inr h4
    ·exact .inl ⟨j,by omega,h2,h3,h4⟩
  ·rename_i hc
   rw [ih]
   constructor
   ·rintro ⟨j,h1,h2⟩;exact ⟨j,by omega,h2⟩
   ·rintro ⟨j,h1,h2,h3,h4⟩
    refine ⟨j,?_,h2,h3,h4⟩
    by_cases e:j=k
    ·subst e;exact absurd ⟨h2,h3⟩ hc
    ·omega
def yw (r:List cF) (acc:cF):List Nat→cF
 | []=>acc
 | i :: l=>yw r (acc ||| r.getD i 0) l
theorem C2 {r:List cF} {b:Nat}:∀ (l:List Nat) (acc:cF),((yw r acc l).getLsbD b=true↔acc.getLsbD b=true∨∃ i,i∈l∧(r.getD i 0).getLsbD b=true)
 | [],acc=>by simp [yw]
 | i :: l,acc=>by
  show (yw r (acc ||| r.getD i 0) l).getLsbD b=true↔_
  rw [C2 l,BitVec.getLsbD_or,Bool.or_eq_true]
  constructor
  ·rintro ((h | h) | ⟨j,h1,h2⟩)
   ·exact .inl h
   ·exact .inr ⟨i,by simp,h⟩
   ·exact .inr ⟨j,by simp [h1],h2⟩
  ·rintro (h | ⟨j,h1,h2⟩)
   ·exact .inl (.inl h)
   ·rcases List.mem_cons.1 h1 with rfl | h1
    ·exact .inl (.inr h2)
    ·exact .inr ⟨j,h1,h2⟩
def jZ (n:kc) (x:Int):List cF:=(List.range n.S.toNat).map fun (q:Nat)=>Cp n x (q:Int)
def M8 (r:List cF) (s:cF):cF:=yw r 0 (c5 (s &&& below (r.length:Int)))
theorem LS {n:kc} (hv:VN n) (s:cF) (x:Int):M8 (jZ n x) s=Jf n s x:=by
 have hS:=hv.S
 have hlen:((jZ n x).length:Int)=n.S:=by simp [jZ];omega
 have Ti:∀ j,j<n.es.length→0≤(n.es.getD j (0,0,0)).2.2∧(n.es.getD j (0,0,0)).2.2<64:=fun j hj=>by have:=hv.Cl hj;omega
 apply BitVec.eq_of_getLsbD_eq
 intro i hi
 rw [Bool.eq_iff_iff]
 unfold M8 Jf
 rw [C2,wT _ Ti]
 constructor
 ·rintro (h | ⟨q,h1,h2⟩)
  ·simp at h
  ·rw [jq,BitVec.getLsbD_and,Bool.and_eq_true,hlen] at h1
   have hq:q<n.S.toNat:=by
    apply Classical.byContradiction
    intro hc
    have h3:=h1.2
    rcases Nat.lt_or_ge q 64 with h4 | h4
    ·rw [mQ hS q h4] at h3
     have:=of_decide_eq_true h3
     omega
    ·rw [BitVec.getLsbD_of_ge _ _ h4] at h3;cases h3
   have e:(jZ n x).getD q 0=Cp n x (q:Int):=by simp [jZ,List.getD_eq_getElem?_getD,hq]
   rw [e] at h2
   obtain ⟨j,k1,k2,k3,k4⟩:=(sG _ Ti).1 h2
   refine ⟨j,k1,k2,?_,k4⟩
   unfold has
   rw [k3,Int.toNat_natCast];exact h1.1
 ·rintro ⟨j,h1,h2,h3,h4⟩
  have he:=hv.Cl h1
  refine .inr ⟨(n.es.getD j (0,0,0)).1.toNat,?_,?_⟩
  ·rw [jq,BitVec.getLsbD_and,Bool.and_eq_true,hlen]
   refine ⟨h3,?_⟩
   rw [mQ hS _ (by omega)]
   exact decide_eq_true (by omega)
  ·have e:∀ q:Nat,q<n.S.toNat→(jZ n x).getD q 0=Cp n x (q:Int):=fun q hq=>by simp [jZ,List.getD_eq_getElem?_getD,hq]
   rw [e _ (show (n.es.getD j (0,0,0)).1.toNat<n.S.toNat by omega)]
   exact (sG _ Ti).2 ⟨j,h1,h2,by omega,h4⟩
end Go.Sx
namespace Go.Sx
open Go.RowKit
abbrev iv (n:Int):Value:=.int .i64 n
def FY (P:Program) (t:TypeId):Bool:=match P.underlying t with
 | some (.struct fs)=>match fs.toList with
  | [f0,f1,f2]=>(match P.underlying f0.type with | some (.int .i64)=>true | _=>false) && (match P.underlying f1.type with | some (.int .i64)=>true | _=>false) && (match P.underlying f2.type with | some (.int .i64)=>true | _=>false) && f0.offset == 0 && f1.offset == 1 && f2.offset == 2 && f0.name != "_" && f1.name != "_" && f2.name != "_" && !P.stoodInHeld t && !P.eqGuardType P.depth t
  | _=>false
 | _=>false
theorem OL {P:Program} {t:TypeId} (h:FY P t=true):P.eqGuardType P.depth t=false∧∀ (a b:iV) (w:World),(Op.equalIn 10000 t (ev a) (ev b)).run P w = .ok (decide (a=b)) w:=by
 unfold FY at h
 split at h
 case h_2=>cases h
 rename_i fs hu
 split at h
 case h_2=>cases h
 rename_i f0 f1 f2 hf
 simp only [Bool.and_eq_true,beq_iff_eq,bne_iff_ne,Bool.not_eq_true'] at h
 obtain ⟨⟨⟨⟨⟨⟨⟨⟨⟨⟨h0,h1⟩,h2⟩,o0⟩,o1⟩,o2⟩,n0⟩,n1⟩,n2⟩,hp⟩,hg⟩:=h
 split at h0
 case h_2=>cases h0
 rename_i u0
 split at h1
 case h_2=>cases h1
 rename_i u1
 split at h2
 case h_2=>cases h2
 rename_i u2
 refine ⟨hg,fun a b w=>?_⟩
 have hfs:P.fieldsOf t=fs:=by unfold Program.fieldsOf;rw [hu]
 have hu2:P.underlying t=some (.struct (P.fieldsOf t)):=by rw [hfs];exact hu
 rw [show ev a = .agg #[iv a.1,iv a.2.1,iv a.2.2] from rfl,show ev b = .agg #[iv b.1,iv b.2.1,iv b.2.2] from rfl,run_equalIn_struct w 9999 t _ _ hu2 hp,hfs,hf]
 have p:∀ (f:Field) (cs:Array Value) (v:Value) (w:World),P.underlying f.type=some (.int .i64)→cs[f.offset]? = some v→(part f.type cs f.offset).run P w = .ok v w:=fun f cs v w hs hv=>by
  simp [part,isAgg,run_underlying hs,hv]
 have q:∀ (d:Nat) (f:Field) (u v:Int) (w:World),P.underlying f.type=some (.int .i64)→(Op.equalIn (d+1) f.type (iv u) (iv v)).run P w = .ok (decide (u=v)) w:=fun d f u v w hs=>by
  unfold iv
  rw [run_equalIn_int w d f.type _ _ _ _ hs]
  rfl
 obtain ⟨a1,a2,a3⟩:=a
 obtain ⟨b1,b2,b3⟩:=b
 simp only [Op.eqFields,n0,n1,n2,ne_eq,not_false_eq_true,if_true,Sem.run_bind]
 rw [p f0 _ (iv a1) w u0 (by rw [o0];rfl)]
 simp only [Result.andThen_ok]
 rw [p f0 _ (iv b1) w u0 (by rw [o0];rfl)]
 simp only [Result.andThen_ok,q 9998 f0 _ _ _ u0]
 by_cases e1:a1=b1
 ·rw [decide_eq_true e1]
  simp only [Bool.not_true,Bool.false_eq_true,if_false,Sem.run_bind]
  rw [p f1 _ (iv a2) w u1 (by rw [o1];rfl)]
  simp only [Result.andThen_ok]
  rw [p f1 _ (iv b2) w u1 (by rw [o1];rfl)]
  simp only [Result.andThen_ok,q 9998 f1 _ _ _ u1]
  by_cases e2:a2=b2
  ·rw [decide_eq_true e2]
   simp only [Bool.not_true,Bool.false_eq_true,if_false,Sem.run_bind]
   rw [p f2 _ (iv a3) w u2 (by rw [o2];rfl)]
   simp only [Result.andThen_ok]
   rw [p f2 _ (iv b3) w u2 (by rw [o2];rfl)]
   simp only [Result.andThen_ok,q 9998 f2 _ _ _ u2]
   by_cases e3:a3=b3
   ·rw [decide_eq_true e3]
    simp [e1,e2,e3]
   ·rw [decide_eq_false e3]
    simp [e3]
  ·rw [decide_eq_false e2]
   simp [e2]
 ·rw [decide_eq_false e1]
  simp [e1]
section
variable {C : Cx} {sl : List (Nat × Value)} {own : List bk} {dst : Option Nat} {ty : TypeId} {pos : String} {aft : Array Edge} {g : Option (Nat × Bool)}
theorem Yl.ZY {x y:Operand} {t t':TypeId} {a b:iV} (ht:FY C.P t=true) (hx:bO ⟨sl,own⟩ x=some (ev a)) (hy:bO ⟨sl,own⟩ y=some (ev b)) :
  Yl C ⟨sl,own⟩ ⟨dst,.binOp .eql t x y t',ty,pos,aft,g⟩ (.bool (decide (a=b))):=fun act w hs=>by
 obtain ⟨hg,hE⟩:=OL ht
 simp only [execOp,aq hs hx,aq hs hy]
 have h1:=run_eqGuard_agg (P:=C.P) w .eql t x y #[iv a.1,iv a.2.1,iv a.2.2] #[iv b.1,iv b.2.1,iv b.2.2] hg
 have h2:=run_eql_struct (P:=C.P) w t #[iv a.1,iv a.2.1,iv a.2.2] #[iv b.1,iv b.2.1,iv b.2.2]
 have h3:=hE a b w
 simp only [ev] at h3 ⊢
 rw [h3] at h2
 simp [h1,h2]
end
section
variable {C : Cx} {sl : List (Nat × Value)} {own : List bk} {dst : Option Nat} {ty : TypeId} {pos : String} {aft : Array Edge} {g : Option (Nat × Bool)}
theorem Yl.Ao {x:Operand} {t:TypeId} {v:Value} {n j:Nat} {ps:List iV} (ht:nq C.P t 3) (hx:bO ⟨sl,own⟩ x=some (.pointer (some ((ko v).add (j * 3)))))
  (hr:cR C own v 3 n (rE ps)) (hj:j<ps.length):Yl C ⟨sl,own⟩ ⟨dst,.load t x,ty,pos,aft,g⟩ (ev (ps.getD j (0,0,0))):=fun a w hs=>by
 have hn:n=ps.length:=by obtain ⟨_,_,_,_,h,_⟩:=hr w hs.world;rw [xT] at h;omega
 have:=Yl.JN (dst:=dst) (ty:=ty) (pos:=pos) (aft:=aft) (g:=g) ht hx hr (by omega) a w hs
 rw [SY ps j hj] at this
 exact this
theorem Yl.CY {x:Operand} {t b:Nat} {c:iV} (ht:nq C.P t 3) (hx:bO ⟨sl,own⟩ x=some (.pointer (some ⟨b,0,none⟩))) (hb:iF C own b (BW c)) :
 Yl C ⟨sl,own⟩ ⟨dst,.load t x,ty,pos,aft,g⟩ (ev c):=Yl.ak ht hx hb rfl rfl
theorem Yl.rS {x:Operand} {t:TypeId} {v:Value} {n j:Nat} {xs:List cF} (ht:dF C.P t) (hx:bO ⟨sl,own⟩ x=some (.pointer (some ((ko v).add (j * 1)))))
 (hr:cR C own v 1 n (xs.map uv)) (hj:j<xs.length):Yl C ⟨sl,own⟩ ⟨dst,.load t x,ty,pos,aft,g⟩ (uv (xs.getD j 0)):=Yl.load ht hx hr rfl 0 hj
end
section
variable {C : Cx} {sl : List (Nat × Value)} {own : List bk} {dst : Option Nat} {ty : TypeId} {pos : String} {aft : Array Edge} {g : Option (Nat × Bool)}
theorem Yl.YL {x y z:Operand} {t t' t'':TypeId} {k:IntKind} {l m n:Int} (hx:bO ⟨sl,own⟩ x=some (.int k l)) (hy:bO ⟨sl,own⟩ y=some (.int k m)) (hz:bO ⟨sl,own⟩ z=some (.int k n)) :
  Yl C ⟨sl,own⟩ ⟨dst,.call ⟨.builtin .min,#[x,y,z],#[t,t',t'']⟩,ty,pos,aft,g⟩ (.int k (Min.min (Min.min l m) n)):=
 fun a w hs=>by
  simp [execOp,resolve,invoke,builtin,aq hs hx,aq hs hy,aq hs hz,Builtin.min_,Builtin.min2]
  repeat' split
  all_goals omega
end
theorem PJ {P:Nat→Prop} {n:Nat} (h:∀ j,j<n→P j) (hn:P n):∀ j,j<n+1→P j:=fun j hj=>by
 rcases Nat.lt_or_eq_of_le (Nat.le_of_lt_succ hj) with h1 | rfl
 ·exact h j h1
 ·exact hn
def vw (x y:Int):Int:=if x<y then -1 else if y<x then 1 else 0
def DO:List Int→Int
 | []=>0
 | x :: l=>if x ≠ 0 then x else DO l
def tC (a b:iV):Int:=DO [vw a.1 b.1,vw a.2.1 b.2.1,vw a.2.2 b.2.2]
theorem Lw {xs:List Int} {k:Nat} (hk:k<xs.length) (h:xs.getD k 0=0):DO (xs.drop k)=DO (xs.drop (k+1)):=by
 have e:xs.drop k=xs.getD k 0 :: xs.drop (k+1):=by
  rw [List.drop_eq_getElem_cons hk];simp [List.getD_eq_getElem?_getD,hk]
 rw [e,h];rfl
theorem Ob {xs:List Int} {k:Nat} (hk:k<xs.length) (h:¬ xs.getD k 0=0):DO (xs.drop k)=xs.getD k 0:=by
 have e:xs.drop k=xs.getD k 0 :: xs.drop (k+1):=by
  rw [List.drop_eq_getElem_cons hk];simp [List.getD_eq_getElem?_getD,hk]
 rw [e];exact if_pos h
theorem Oc {xs:List Int} {k:Nat} (hk:xs.length≤k):DO (xs.drop k)=0:=by rw [List.drop_eq_nil_of_le hk];rfl
theorem BG {a b:iV}:qf a b=true↔¬ (a=b∨0<tC a b):=by
 obtain ⟨a1,a2,a3⟩:=a
 obtain ⟨b1,b2,b3⟩:=b
 unfold qf tC vw DO
 simp only [Prod.mk.injEq,ne_eq]
 by_cases h1:a1=b1
 ·subst h1
  by_cases h2:a2=b2
  ·subst h2
   by_cases h3:a3=b3
   ·subst h3;simp
   ·by_cases h4:a3<b3
    ·simp [h3,h4,DO]
    ·have h5:b3<a3:=by omega
     simp [h3,h4,h5,DO]
  ·by_cases h4:a2<b2
   ·simp [h2,h4,DO]
   ·have h5:b2<a2:=by omega
    simp [h2,h4,h5,DO]
 ·by_cases h4:a1<b1
  ·simp [h1,h4,DO]
  ·have h5:b1<a1:=by omega
   simp [h1,h4,h5,DO]
end Go.Sx
namespace Go.Sx
open Go.RowKit
def vp (w:World):Prop:=∀ j,j<64→w.cell? ⟨0,j,none⟩ = some (.int .u8 ((Lib.deBruijn64tab.getD j 0:Nat):Int))
theorem vp.lt {w:World} (h:vp w):0<w.heap.size:=by
 have hm:=h 0 (by omega)
 unfold World.cell? at hm
 rcases Nat.lt_or_ge 0 w.heap.size with k | k
 ·exact k
 ·rw [Array.getElem?_eq_none (by simpa using k)] at hm;simp at hm
theorem vp.fr {S:Nat→Prop} {w w':World} (h:vp w) (hf:bj S w w') (hS:¬ S 0):vp w':=fun j hj=>by
 rw [World.cell?_of_block (hf.block 0 h.lt hS)];exact h j hj
theorem vp.at {C:Cx} {own:List bk} {w:World} (h:vp C.W0) (hw:HW C own w) (hS:¬ C.S 0:=by exact fun h=>h):vp w:=h.fr hw.frame hS
section
variable {C : Cx} {sl : List (Nat × Value)} {own : List bk} {dst : Option Nat} {ty : TypeId} {pos : String} {aft : Array Edge} {g : Option (Nat × Bool)}
theorem Yl.YH {x:Operand} {t t':TypeId} {a:cF} (hx:bO ⟨sl,own⟩ x=some (uv a)):Yl C ⟨sl,own⟩ ⟨dst,.unOp .neg t x,t',pos,aft,g⟩ (uv (-a)):=
 fun act w hs=>by
  have h3:IntKind.u64.wrap (-(a.toNat:Int))=((-a).toNat:Int):=by
   have h1:=a.isLt
   have h4:IntKind.u64.wrap (-(a.toNat:Int))=(-(a.toNat:Int)) % 2 ^ 64:=by simp [IntKind.wrap,IntKind.bits,IntKind.signed]
   rw [h4,BitVec.toNat_neg]
   omega
  simp only [execOp,aq hs hx,uv]
  simp [go_sem,h3,-BitVec.toNat_neg]
theorem Yl.YJ {x y:Operand} {t t':TypeId} {a b:cF} (hx:bO ⟨sl,own⟩ x=some (uv a)) (hy:bO ⟨sl,own⟩ y=some (uv b)):Yl C ⟨sl,own⟩ ⟨dst,.binOp .mul t x y t',ty,pos,aft,g⟩ (uv (a * b)):=
 fun act w hs=>by
  have h3:IntKind.u64.wrap ((a.toNat:Int) * b.toNat)=((a * b).toNat:Int):=by
   rw [BitVec.toNat_mul,← tS];simp
  simp only [execOp,aq hs hx,aq hs hy,uv]
  simp [go_sem,Op.intArith,h3,-BitVec.toNat_mul]
theorem Yl.OA {x i:Operand} {t e n sz b off:Nat} {q:IntKind} {k:Nat} (ht:Ek C.P t e n sz) (hx:bO ⟨sl,own⟩ x=some (.pointer (some ⟨b,off,none⟩))) (hi:bO ⟨sl,own⟩ i=some (.int q (k:Int))) (hk:k<n) :
  Yl C ⟨sl,own⟩ ⟨dst,.indexAddr t x i,ty,pos,aft,g⟩ (.pointer (some ⟨b,off+k * sz,none⟩)):=
 fun a w hs=>by
  have uG:=cI ht.2 w
  simp only [execOp,aq hs hx,aq hs hi,Instr.indexAt,asIntOf,Sem.run_bind,Sem.run_pure,Result.andThen_ok,run_underlying ht.1,Instr.sureAddr]
  simp [hk,uG,run_underlying ht.1,Addr.add_lit]
theorem Yl.SC {x:Operand} {t:TypeId} {k:Nat} (ht:dF C.P t) (hx:bO ⟨sl,own⟩ x=some (.pointer (some ⟨0,k,none⟩))) (hk:k<64) (h:vp C.W0) (hS:¬ C.S 0:=by exact fun h=>h) :
  Yl C ⟨sl,own⟩ ⟨dst,.load t x,ty,pos,aft,g⟩ (.int .u8 ((Lib.deBruijn64tab.getD k 0:Nat):Int)):=
 fun a w hs=>by
  have h1:=(h.at hs.world hS) k hk
  simp [execOp,aq hs hx,Instr.loadAt,Instr.sureAddr,iC ht h1]
end
theorem RT {s:cF} (h:s ≠ 0):∃ k:Nat,k<64∧((s &&& -s) * 285870213051353865) >>> 58=BitVec.ofNat 64 k∧Lib.deBruijn64tab.getD k 0=Lib.ctz 64 s.toNat:=by
 have h0:s.toNat ≠ 0:=fun e=>h (BitVec.eq_of_toNat_eq (by rw [e];rfl))
 obtain ⟨Y5,hk⟩:=Lib.lowest_bit 64 s.toNat h0 s.isLt
 obtain ⟨hi,YS⟩:=Lib.deBruijn64_at _ hk
 refine ⟨_,hi,?_,YS⟩
 apply BitVec.eq_of_toNat_eq
 have e1:(s &&& -s).toNat=2 ^ Lib.ctz 64 s.toNat:=by
  rw [BitVec.toNat_and,BitVec.toNat_neg,← Y5]
  congr 1
  have:=s.isLt
  omega
 rw [BitVec.toNat_ushiftRight,BitVec.toNat_mul,e1,BitVec.toNat_ofNat,Nat.shiftRight_eq_div_pow]
 have e2:(285870213051353865:cF).toNat=285870213051353865:=by decide
 rw [e2]
 have e3:(2:Nat) ^ 58=288230376151711744:=by decide
 have e4:(2:Nat) ^ 64=18446744073709551616:=by decide
 rw [e3,e4]
 omega
theorem RS {k:Nat} (h:k<64):uv (BitVec.ofNat 64 k) = .int .u64 (k:Int):=by
 unfold uv
 rw [BitVec.toNat_ofNat,Nat.mod_eq_of_lt (by omega)]
end Go.Sx
namespace Go.Sx
open Go.ChangeShapes Go.WideShapes Go.ChangeAt Go.RowKit
end Go.Sx
namespace Go.Sx
open Go.ChangeShapes Go.WideShapes Go.ChangeAt Go.RowKit
section
variable {H : Type} {enc : TypeId × Value → H} {P : Program} {W : World}
end
end Go.Sx
namespace Go.Sx
open Go.ChangeShapes Go.WideShapes Go.ChangeAt Go.RowKit
variable {H : Type} {enc : TypeId × Value → H} {P : Program} {W : World}
end Go.Sx
namespace Go.Proofs.YtbibnpdnmmgacaaGreatDoor
open Go.ChangeShapes Go.WideShapes Go.ChangeAt Go.RowKit Go.Sx
theorem YF:ownKnob Tryz.prog.godebug=none:=by kernel_rfl
theorem laidOut:laidOutB Tryz.prog=true:=by kernel_rfl
def yY:List (String × DataW Unit):=[("math/bits.deBruijn64tab",Rows.laid_math_bits_deBruijn64tab)]
theorem Ux:Tryz.prog.globalNamed "math/bits.deBruijn64tab" = some 0:=by kernel_rfl
theorem L6 (os:Os) (args:Array Value):laidMetH Tryz.prog yY ((World.doorLaid Tryz.prog 400 os).forCall (fun _ _=>0) ⟨#[],args,[]⟩).memory:=
 laidMetH_of_parts3 (fuel:=8) (laidMet_of_run' 8 (by kernel_rfl) (by kernel_rfl)) (by kernel_rfl) (by kernel_rfl)
theorem LK:yY=[("math/bits.deBruijn64tab",Lib.tabData .u8 (Lib.deBruijn64tab.map fun n:Nat=>(n:Int)))]:=rfl
theorem Oe {W:World} (h:laidMetH Tryz.prog yY W):vp W:=by
 rw [MakeChecks.laidMetH_plain _ _ _ (by kernel_rfl),LK] at h
 have h1:=Lib.tabIs_of_head (n:=64) Ux (t:=197) (e:=5) (by kernel_rfl) (by kernel_rfl) (by kernel_rfl) (by kernel_rfl) (by kernel_rfl) h
 intro j hj
 have h2:=h1.cell Ux j (by simpa [Lib.deBruijn64tab] using hj)
 rw [h2]
 congr 2
 simp only [List.getD_eq_getElem?_getD,List.getElem?_map]
 cases Lib.deBruijn64tab[j]? <;> rfl
end Go.Proofs.YtbibnpdnmmgacaaGreatDoor
namespace Go.Sx
open Go.RowKit
section Si
variable {C : Cx} {sl : List (Nat × Value)} {own : List bk} {dst : Option Nat} {ty : TypeId} {pos : String} {aft : Array Edge} {g : Option (Nat × Bool)}
end Si
section N0
variable {C : Cx} {sl : List (Nat × Value)} {own : List bk} {ops : Array Oper} {Q : Exit → Act → World → Prop} {ty : TypeId} {pos : String} {aft : Array Edge} {g : Option (Nat × Bool)} {rest : List Oper}
end N0
end Go.Sx
namespace Go.Sx
end Go.Sx
namespace Go.Sx
open Go.RowKit
section Z7
variable {C : Cx} {sl : List (Nat × Value)} {own : List bk} {dst : Option Nat} {ty : TypeId} {pos : String} {aft : Array Edge} {g : Option (Nat × Bool)}
def mn (C:Cx) (own:List bk) (v:Value) (n:Nat):Prop:=∀ w,HW C own w→∃ ao c,v = .slice ao n c∧n≤c
theorem mn.row (i:Nat) {v:Value} {E:TypeId} {sz n:Nat} {cs:List Value} (hi:own[i]? = some (row v E sz n cs)):mn C own v n:=fun w hw=>by
 obtain ⟨_,Fs,XP,_⟩:=hw
 obtain ⟨c4,_⟩:=XP.at_ i _ hi
 rcases c4.2 with ⟨rfl,rfl⟩ | ⟨gb,cp,cur,rfl,_,_,mc,_⟩
 ·exact ⟨none,0,rfl,Nat.le_refl _⟩
 ·exact ⟨_,cp,rfl,mc⟩
def nf (v:Value) (sz m:Nat):Value:=match v with
 | .slice a n c=>.slice (if c=m then a else a.map (·.add (m * sz))) (n - m) (c - m)
 | v=>v
theorem Yl.rX {x l:Operand} {t E:TypeId} {sz n:Nat} {v:Value} {m:Int} (hc:mn C own v n) (ht:oC C.P t E sz) (hx:bO ⟨sl,own⟩ x=some v) (hh:bO ⟨sl,own⟩ l=some (.int .i64 m)) (hm:0≤m∧m≤n) :
  Yl C ⟨sl,own⟩ ⟨dst,.slice t x (some l) none none,ty,pos,aft,g⟩ (nf v sz m.toNat):=
 fun a w hs=>by
  obtain ⟨ao,c,rfl,mc⟩:=hc w hs.world
  obtain ⟨inf,ta,yQ⟩:=ht.inf
  simp only [execOp,aq hs hx,Option.map_none,Option.map_some,aq hs hh]
  simp [Instr.sliceAt,Instr.slice,Instr.sliceBounds,Instr.sliceBound,asIntOf,run_underlying ht.1,hm.1,hm.2,sizeOf,typeInfo,ta,nf,yQ]
end Z7
section VO
variable {C : Cx} {sl : List (Nat × Value)} {own : List bk} {ops : Array Oper} {Q : Exit → Act → World → Prop} {ty : TypeId} {pos : String} {aft : Array Edge} {g : Option (Nat × Bool)} {rest : List Oper}
end VO
end Go.Sx
namespace Go.Sx
open Go.RowKit
inductive Ex where
 | mk (op lt:Int) (kids:List Ex)
def Ex.op:Ex→Int | .mk o _ _=>o
def Ex.lt:Ex→Int | .mk _ l _=>l
def Ex.kids:Ex→List Ex | .mk _ _ k=>k
instance:Inhabited Ex:=⟨.mk 0 0 []⟩
def e0:Ex:=.mk 0 0 []
def dc (ks:List Ex) (ss:List Value):List Value:=(ks.zip ss).flatMap fun p=>[.int .i64 p.1.op,.int .i64 p.1.lt,p.2]
def aW:Value:=.slice none 0 0
theorem nM:∀ (ks:List Ex) (ss:List Value),ss.length=ks.length→(dc ks ss).length=ks.length * 3
 | [],ss,_=>by simp [dc]
 | k :: ks,[],h=>by simp at h
 | k :: ks,s :: ss,h=>by
  have:=nM ks ss (by simpa using h)
  simp only [dc,List.zip_cons_cons,List.flatMap_cons,List.length_append,List.length_cons,List.length_nil] at this ⊢
  omega
theorem iI (ks ls:List Ex) (ss ts:List Value) (h:ss.length=ks.length):dc (ks++ls) (ss++ts)=dc ks ss++dc ls ts:=by
 simp only [dc]
 rw [List.zip_append h.symm,List.flatMap_append]
theorem jn (k:Ex) (ks:List Ex) (s:Value) (ss:List Value):dc (k :: ks) (s :: ss) = .int .i64 k.op :: .int .i64 k.lt :: s :: dc ks ss:=by
 simp [dc]
theorem mr:∀ (i:Nat) (ks:List Ex) (ss:List Value),ss.length=ks.length→(dc ks ss).drop (i * 3)=dc (ks.drop i) (ss.drop i)
 | 0,ks,ss,_=>by simp
 | i+1,[],ss,h=>by cases ss <;> simp [dc] at h ⊢
 | i+1,k :: ks,[],h=>by simp at h
 | i+1,k :: ks,s :: ss,h=>by
  rw [jn,show (i+1) * 3=i * 3+1+1+1 by omega]
  simp only [List.drop_succ_cons]
  exact (mr i ks ss (by simpa using h))
theorem wP:∀ (i:Nat) (ks:List Ex) (ss:List Value),ss.length=ks.length→(dc ks ss).take (i * 3)=dc (ks.take i) (ss.take i)
 | 0,ks,ss,_=>by simp [dc]
 | i+1,[],ss,h=>by cases ss <;> simp [dc] at h ⊢
 | i+1,k :: ks,[],h=>by simp at h
 | i+1,k :: ks,s :: ss,h=>by
  rw [jn,show (i+1) * 3=i * 3+1+1+1 by omega]
  simp only [List.take_succ_cons,jn,wP i ks ss (by simpa using h)]
theorem J8 (i:Nat) (ks:List Ex) (ss:List Value) (h:ss.length=ks.length) (hi:i<ks.length) :
  ((dc ks ss).drop (i * 3)).take 3=[.int .i64 (ks.getD i default).op,.int .i64 (ks.getD i default).lt,ss.getD i undef]:=by
 rw [mr i ks ss h,List.drop_eq_getElem_cons hi,List.drop_eq_getElem_cons (by omega:i<ss.length),jn]
 simp [List.getD_eq_getElem?_getD,hi,h]
theorem AD (i:Nat) (ks:List Ex) (ss:List Value) (h:ss.length=ks.length) (hi:i<ks.length) (e:Ex) (s:Value) :
  (dc ks ss).take (i * 3)++[.int .i64 e.op,.int .i64 e.lt,s]++(dc ks ss).drop (i * 3+3)=dc (ks.set i e) (ss.set i s):=by
 rw [wP i ks ss h,show i * 3+3=(i+1) * 3 by omega,mr (i+1) ks ss h]
 rw [List.set_eq_take_append_cons_drop,List.set_eq_take_append_cons_drop,if_pos hi,if_pos (by omega)]
 rw [iI _ _ _ _ (by simp [h]),jn]
 simp
theorem Nk (n:Nat):dc (List.replicate n e0) (List.replicate n aW)=(List.replicate n [Value.int .i64 0,.int .i64 0,aW]).flatten:=by
 induction n with
 | zero=>simp [dc]
 | succ n ih=>rw [List.replicate_succ,List.replicate_succ,jn,ih,List.replicate_succ];rfl
abbrev Cell:=Addr→Value→Prop
def yR (R:Cell) (v:Value) (sz n:Nat) (cs:List Value):Prop:=
 ∃ oa cap,v = .slice oa n cap∧n≤cap∧n≤maxLen∧cs.length=n * sz∧(0<n→0<sz→oa.isSome)∧∀ a j u,oa=some a→cs[j]? = some u→R (a.add j) u
theorem yR.mono {R R':Cell} {v:Value} {sz n:Nat} {cs:List Value} (h:yR R v sz n cs) (hR:∀ a u,R a u→R' a u):yR R' v sz n cs:=by
 obtain ⟨oa,cap,h1,h2,h3,h4,h5,h6⟩:=h
 exact ⟨oa,cap,h1,h2,h3,h4,h5,fun a j u ha hj=>hR _ _ (h6 a j u ha hj)⟩
theorem yR.sl {R:Cell} {v:Value} {sz n:Nat} {cs:List Value} (h:yR R v sz n cs):aB v:=by
 obtain ⟨oa,cap,h1,_⟩:=h;exact ⟨_,_,_,h1⟩
inductive dy (R:Cell):Value→List Ex→Prop
 | mk (s:Value) (ss:List Value) (ks:List Ex):ss.length=ks.length→yR R s 3 ks.length (dc ks ss)→(∀ i,i<ks.length→dy R (ss.getD i undef) (ks.getD i default).kids)→dy R s ks
theorem dy.inv {R:Cell} {s:Value} {ks:List Ex} (h:dy R s ks):∃ ss:List Value,ss.length=ks.length∧yR R s 3 ks.length (dc ks ss)∧∀ i,i<ks.length→dy R (ss.getD i undef) (ks.getD i default).kids:=by
 cases h with
 | mk s ss ks h1 h2 h3=>exact ⟨ss,h1,h2,h3⟩
theorem dy.mono {R R':Cell} (hR:∀ a u,R a u→R' a u) {s:Value} {ks:List Ex} (h:dy R s ks):dy R' s ks:=by
 induction h with
 | mk s ss ks h1 h2 h3 ih=>exact .mk s ss ks h1 (h2.mono hR) ih
theorem dy.sl {R:Cell} {s:Value} {ks:List Ex} (h:dy R s ks):aB s:=by
 obtain ⟨ss,_,h,_⟩:=h.inv;exact h.sl
theorem dy.nil (R:Cell):dy R aW []:=.mk aW [] [] rfl ⟨none,0,rfl,Nat.le_refl _,by simp [maxLen],rfl,fun h=>absurd h (by simp),fun a j u h=>by cases h⟩ (fun i h=>by simp at h)
def bD (F:Nat→Prop) (w:World):Cell:=fun a u=>¬ F a.block∧w.cell? a=some u
theorem zR (a:Addr) (j:Nat):(a.add j).block=a.block:=by unfold Addr.add;split <;> rfl
theorem yR.rd {F:Nat→Prop} {w:World} {v:Value} {sz n:Nat} {cs:List Value} (h:yR (bD F w) v sz n cs):Rd (fun b=>¬ F b) w v sz n cs:=by
 obtain ⟨oa,cap,h1,_,h3,h4,h5,h6⟩:=h
 exact ⟨oa,cap,h1,h3,h4,h5,fun a j u ha hj=>by have:=h6 a j u ha hj;exact ⟨by have:=this.1;rwa [zR] at this,this.2⟩⟩
theorem yR.cut {R:Cell} {v:Value} {sz n:Nat} {cs:List Value} (h:yR R v sz n cs):∃ ao c,v = .slice ao n c∧n≤c:=by
 obtain ⟨oa,cap,h1,h2,_⟩:=h;exact ⟨oa,cap,h1,h2⟩
theorem Md {C:Cx} {own:List bk} {w:World} (hw:HW C own w) (a:Addr) (u:Value) (h:bD C.S C.W0 a u):bD (fun _=>False) w a u:=by
 refine ⟨id,?_⟩
 have bZ:=World.block_lt_of_cell? _ _ h.2
 rw [World.cell?_of_block (w:=C.W0) (w':=w) (hw.frame.block _ bZ h.1)];exact h.2
theorem dy.at {C:Cx} {own:List bk} {w:World} {s:Value} {ks:List Ex} (h:dy (bD C.S C.W0) s ks) (hw:HW C own w):dy (bD (fun _=>False) w) s ks:=h.mono (Md hw)
theorem IF {C:Cx} {w:World} {Fs:Nat→Nat→Prop} (bI:bj C.S C.W0 w) (bc:∀ k b,Fs k b→C.W0.heap.size≤b∨C.S b) (j:Nat) (a:Addr) (u:Value) (h:bD C.S C.W0 a u):bD (Fs j) w a u:=by
 have bZ:=World.block_lt_of_cell? _ _ h.2
 refine ⟨fun hb=>?_,?_⟩
 ·rcases bc j _ hb with h1 | h1
  ·omega
  ·exact h.1 h1
 ·rw [World.cell?_of_block (w:=C.W0) (w':=w) (bI.block _ bZ h.1)];exact h.2
theorem dy.yi {C:Cx} {w:World} {Fs:Nat→Nat→Prop} {s:Value} {ks:List Ex} (h:dy (bD C.S C.W0) s ks) (bI:bj C.S C.W0 w) (bc:∀ k b,Fs k b→C.W0.heap.size≤b∨C.S b) (j:Nat):dy (bD (Fs j) w) s ks:=h.mono (IF bI bc j)
inductive cw where
 | deep (s:Value) (ks:List Ex)
 | row (s:Value) (n:Nat) (cs:List Value)
def cw.ok (R:Cell):cw→Prop
 | .deep s ks=>dy R s ks
 | .row s n cs=>yR R s 3 n cs
theorem cw.r4 {R R':Cell} (hR:∀ a u,R a u→R' a u) {x:cw} (h:x.ok R):x.ok R':=by
 cases x with
 | deep s ks=>exact dy.mono hR h
 | row s n cs=>exact yR.mono h hR
structure Bs where
 W:World
 G:Nat→Prop
def wz (B:Bs) (F:Nat→Prop) (w:World):Cell:=fun a u=>(F a.block∧w.cell? a=some u)∨(B.G a.block∧B.W.cell? a=some u)
def aI (B:Bs) (l:List cw):bk where
 holds w F:=(∀ x∈l,x.ok (wz B F w))∧∀ b,F b→b<w.heap.size
 loc:=by
  rintro w w' F ⟨h1,h2⟩ hb
  refine ⟨fun x hx=>cw.r4 (fun a u hu=>?_) (h1 x hx),fun b hF=>?_⟩
  ·rcases hu with ⟨hF,hc⟩ | hu
   ·exact .inl ⟨hF,by rw [World.cell?_of_block (w:=w) (w':=w') (hb _ hF)];exact hc⟩
   ·exact .inr hu
  ·have h:=h2 b hF
   have e:=hb b hF
   rw [Array.getElem?_eq_getElem h] at e
   exact (Array.getElem?_eq_some_iff.1 e).1
 lt:=fun w F h b hb=>h.2 b hb
def gI (B:Bs) (w:World) (F:Nat→Prop):Prop:=∀ b,B.G b→¬ F b∧w.heap[b]? = B.W.heap[b]?∧b<w.heap.size
theorem gI.later {B:Bs} {C:Cx} {w:World} {Fs:Nat→Nat→Prop} (h:gI B C.W0 C.S) (bI:bj C.S C.W0 w) (bc:∀ k b,Fs k b→C.W0.heap.size≤b∨C.S b) (j:Nat):gI B w (Fs j):=fun b hb=>by
 obtain ⟨h1,h2,h3⟩:=h b hb
 refine ⟨fun hF=>?_,(bI.block b h3 h1).trans h2,Nat.lt_of_lt_of_le h3 bI.size⟩
 rcases bc j b hF with h4 | h4
 ·omega
 ·exact h1 h4
theorem gI.at {B:Bs} {C:Cx} {own:List bk} {w:World} (h:gI B C.W0 C.S) (hw:HW C own w):gI B w (fun _=>False):=fun b hb=>by
 obtain ⟨h1,h2,h3⟩:=h b hb
 exact ⟨id,(hw.frame.block b h3 h1).trans h2,Nat.lt_of_lt_of_le h3 hw.frame.size⟩
theorem G9 {B:Bs} {F F':Nat→Prop} {w:World} (hB:gI B w F') (hd:∀ b,F b→¬ F' b) (a:Addr) (u:Value) (h:wz B F w a u):bD F' w a u:=by
 rcases h with ⟨h1,h2⟩ | ⟨h1,h2⟩
 ·exact ⟨hd _ h1,h2⟩
 ·obtain ⟨h3,h4,h5⟩:=hB _ h1
  exact ⟨h3,by rw [World.cell?_of_block (w:=B.W) (w':=w) h4];exact h2⟩
section
variable {C : Cx} {own : List bk} {B : Bs} {l : List cw} {sl : List (Nat × Value)} {K : Act → World → Prop}
theorem HW.Tg (hB:gI B C.W0 C.S) (i:Nat) (hi:own[i]? = some (aI B l)) {x:cw} (hx:x∈l) {w:World} (hw:HW C own w):x.ok (bD (fun _=>False) w):=by
 obtain ⟨hf,Fs,hh,bc⟩:=hw
 exact cw.r4 (G9 (hB.at ⟨hf,Fs,hh,bc⟩) (fun _ _=>id)) ((hh.at_ i _ hi).1 x hx)
theorem cj.Tg {w:World} {Fs:Nat→Nat→Prop} (hB:gI B C.W0 C.S) (i j:Nat) (yq:i ≠ j) (hi:own[i]? = some (aI B l)) {x:cw} (hx:x∈l) (hh:cj own Fs w) (bI:bj C.S C.W0 w) (bc:∀ k b,Fs k b→C.W0.heap.size≤b∨C.S b):x.ok (bD (Fs j) w):=
 cw.r4 (G9 (hB.later bI bc j) (fun b h1 h2=>yq (hh.apart i j b h1 h2))) ((hh.at_ i _ hi).1 x hx)
theorem cR.tree (hB:gI B C.W0 C.S) (i:Nat) (hi:own[i]? = some (aI B l)) {s:Value} {n:Nat} {cs:List Value} (hx:cw.row s n cs∈l):cR C own s 3 n cs:=fun w hw=>by
 have h:yR _ s 3 n cs:=HW.Tg hB i hi hx hw
 exact h.rd.mono (fun b _ _=>⟨trivial,rfl⟩)
theorem mn.tree (hB:gI B C.W0 C.S) (i:Nat) (hi:own[i]? = some (aI B l)) {s:Value} {n:Nat} {cs:List Value} (hx:cw.row s n cs∈l):mn C own s n:=fun w hw=>by
 have h:yR _ s 3 n cs:=HW.Tg hB i hi hx hw
 exact h.cut
theorem HW.bH (i:Nat) {l':List cw} (hi:own[i]? = some (aI B l)) (hl:∀ x∈l',x∈l) {w:World} (hw:HW C own w):HW C (own.set i (aI B l')) w:=
 HW.elem i hi (fun F hF=>show (aI B l').holds _ F from ⟨fun x hx=>hF.1 x (hl x hx),hF.2⟩) hw
theorem AK.Iu (i:Nat) (x:cw) (hi:own[i]? = some (aI B l)) (hx:∀ R,x.ok R) (h:AK C ⟨sl,own.set i (aI B (x :: l))⟩ K):AK C ⟨sl,own⟩ K:=
 AK.own' _ (fun w hw=>HW.elem i hi (fun F hF=>show (aI B (x :: l)).holds _ F from ⟨fun y hy=>by rcases List.mem_cons.1 hy with rfl | hy;exact hx _;exact hF.1 y hy,hF.2⟩) hw) h
theorem AK.LX (i:Nat) {s:Value} {ks:List Ex} (hi:own[i]? = some (aI B l)) (hx:.deep s ks∈l) (h:aB s→AK C ⟨sl,own⟩ K):AK C ⟨sl,own⟩ K:=
 AK.fact (p:=aB s) (fun w hw=>by
  obtain ⟨hf,Fs,hh,bc⟩:=hw
  have:dy _ s ks:=(hh.at_ i _ hi).1 _ hx
  exact this.sl) h
def Xo (ks:List Ex) (ss:List Value):List cw:=(ks.zip ss).map fun p=>.deep p.2 p.1.kids
theorem Ot {ks:List Ex} {ss:List Value} (h:ss.length=ks.length) {i:Nat} (hi:i<ks.length):cw.deep (ss.getD i undef) (ks.getD i default).kids∈Xo ks ss:=by
 refine List.mem_map.2 ⟨(ks.getD i default,ss.getD i undef),?_,rfl⟩
 have h1:(ks.zip ss)[i]? = some (ks[i],ss[i]):=by simp [List.getElem?_zip_eq_some,hi,h]
 have:=List.mem_of_getElem? h1
 simpa [List.getD_eq_getElem?_getD,hi,h] using this
theorem Ol {ks:List Ex} {ss:List Value} (h:ss.length=ks.length) {x:cw} (hx:x∈Xo ks ss):∃ i,i<ks.length∧x = .deep (ss.getD i undef) (ks.getD i default).kids:=by
 obtain ⟨p,hp,rfl⟩:=List.mem_map.1 hx
 obtain ⟨i,hi⟩:=List.mem_iff_getElem?.1 hp
 rw [List.getElem?_zip_eq_some] at hi
 obtain ⟨h1,h2⟩:=hi
 have hl:=(List.getElem?_eq_some_iff.1 h1).1
 exact ⟨i,hl,by simp [List.getD_eq_getElem?_getD,h1,h2]⟩
theorem AK.Vh (i:Nat) {s:Value} {ks:List Ex} (hi:own[i]? = some (aI B l)) (hm:.deep s ks∈l)
  (h:∀ ss:List Value,ss.length=ks.length→aB s→(∀ k,k<ks.length→aB (ss.getD k undef))→ks.length≤maxLen→AK C ⟨sl,own.set i (aI B (.row s ks.length (dc ks ss) :: (Xo ks ss++l)))⟩ K):AK C ⟨sl,own⟩ K:=by
 intro a w hs
 obtain ⟨hf,Fs,hh,bc⟩:=hs.world
 have hA:=hh.at_ i _ hi
 have h0:dy _ s ks:=hA.1 _ hm
 obtain ⟨ss,h1,h2,h3⟩:=h0.inv
 refine h ss h1 h0.sl (fun k hk=>(h3 k hk).sl) (by obtain ⟨_,_,_,_,h,_⟩:=h2;exact h) a w ⟨hs.size,hs.defers,hs.slot,?_⟩
 refine ⟨hf,Fs,⟨fun k A hk=>?_,fun k hk b hb=>hh.out k (by simpa using hk) b hb,hh.apart⟩,bc⟩
 by_cases ov:i=k
 ·subst ov
  have bZ:=(List.getElem?_eq_some_iff.1 hi).1
  simp [bZ] at hk
  subst hk
  refine ⟨fun x hx=>?_,hA.2⟩
  rcases List.mem_cons.1 hx with rfl | hx
  ·exact h2
  ·rcases List.mem_append.1 hx with hx | hx
   ·obtain ⟨k,hk,rfl⟩:=Ol h1 hx
    exact h3 k hk
   ·exact hA.1 x hx
 ·rw [List.getElem?_set_ne ov] at hk;exact hh.at_ k A hk
theorem HW.EE (i j:Nat) {s:Value} {E:TypeId} {ks:List Ex} {ss:List Value} (yq:i ≠ j) (hi:own[i]? = some (aI B l)) (hj:own[j]? = some (row s E 3 ks.length (dc ks ss))) (hl:ss.length=ks.length)
  (hk:∀ k,k<ks.length→cw.deep (ss.getD k undef) (ks.getD k default).kids∈l) {w:World} (hw:HW C own w):HW C ((own.set j om).set i (aI B (.deep s ks :: .row s ks.length (dc ks ss) :: l))) w:=by
 obtain ⟨hf,Fs,hh,bc⟩:=hw
 have hA:=hh.at_ i _ hi
 have hR:=hh.at_ j _ hj
 have yP:=(List.getElem?_eq_some_iff.1 hj).1
 have oA:=(List.getElem?_eq_some_iff.1 hi).1
 refine ⟨hf,fun k b=>if k=i then Fs i b∨Fs j b else if k=j then False else Fs k b,⟨?_,?_,?_⟩,?_⟩
 ·intro k A QD
  by_cases ov:k=i
  ·subst ov
   simp [oA] at QD
   subst QD
   simp only [if_true]
   have hcr:yR (wz B (fun b=>Fs k b∨Fs j b) w) s 3 ks.length (dc ks ss):=by
    obtain ⟨c4,hF⟩:=hR
    rcases c4.2 with ⟨rfl,h0⟩ | ⟨gb,cap,cur,rfl,hg,hb,mc,vo,r⟩
    ·exact ⟨none,0,by rw [h0],by omega,by simp [maxLen];omega,c4.1,fun h=>by omega,fun a j u ha=>by cases ha⟩
    ·refine ⟨_,cap,rfl,mc,Nat.le_trans mc vo,c4.1,fun _ _=>rfl,fun a m u ha hm=>?_⟩
     cases ha
     have bZ:m<ks.length * 3:=by rw [← c4.1];exact (List.getElem?_eq_some_iff.1 hm).1
     have:=c4.cellAt m bZ
     refine .inl ⟨.inr ((hF _).2 (by rw [zR];rfl)),?_⟩
     simpa [Addr.add_lit] using this.trans hm
   have PE:∀ a u,wz B (Fs k) w a u→wz B (fun b=>Fs k b∨Fs j b) w a u:=fun a u h=>by
    rcases h with ⟨h1,h2⟩ | h
    ·exact .inl ⟨.inl h1,h2⟩
    ·exact .inr h
   refine ⟨fun x hx=>?_,fun b hb=>by rcases hb with hb | hb <;> exact hh.lt hb⟩
   rcases List.mem_cons.1 hx with rfl | hx
   ·exact .mk s ss ks hl hcr (fun m hm=>(show cw.ok _ (.deep _ _) from cw.r4 PE (hA.1 _ (hk m hm))))
   ·rcases List.mem_cons.1 hx with rfl | hx
    ·exact hcr
    ·exact cw.r4 PE (hA.1 x hx)
  ·rw [List.getElem?_set_ne (Ne.symm ov)] at QD
   by_cases B5:k=j
   ·subst B5
    simp [yP] at QD
    subst QD
    simp only [ov,if_false,if_true]
    intro b hb;exact hb
   ·rw [List.getElem?_set_ne (Ne.symm B5)] at QD
    simp only [ov,B5,if_false]
    exact hh.at_ k A QD
 ·intro k hk b hb
  simp at hk
  simp only [show k ≠ i by omega,show k ≠ j by omega,if_false] at hb
  exact hh.out k hk b hb
 ·have key:∀ k b,(if k=i then Fs i b∨Fs j b else if k=j then False else Fs k b)→∃ m,Fs m b∧(k=i∧(m=i∨m=j)∨k ≠ i∧k ≠ j∧m=k):=fun k b h=>by
   split at h
   ·rename_i e
    rcases h with h | h
    ·exact ⟨i,h,.inl ⟨e,.inl rfl⟩⟩
    ·exact ⟨j,h,.inl ⟨e,.inr rfl⟩⟩
   ·rename_i e
    split at h
    ·exact h.elim
    ·rename_i e2;exact ⟨k,h,.inr ⟨e,e2,rfl⟩⟩
  intro k m b h1 h2
  obtain ⟨x,hx,h3⟩:=key k b h1
  obtain ⟨y,hy,h4⟩:=key m b h2
  have:=hh.apart x y b hx hy
  omega
 ·intro k b hb
  split at hb
  ·rcases hb with hb | hb <;> exact bc _ b hb
  ·split at hb
   ·exact hb.elim
   ·exact bc _ b hb
theorem AK.EE (i j:Nat) {s:Value} {E:TypeId} {ks:List Ex} {ss:List Value} (yq:i ≠ j) (hi:own[i]? = some (aI B l)) (hj:own[j]? = some (row s E 3 ks.length (dc ks ss))) (hl:ss.length=ks.length)
  (hk:∀ k,k<ks.length→cw.deep (ss.getD k undef) (ks.getD k default).kids∈l) (h:AK C ⟨sl,(own.set j om).set i (aI B (.deep s ks :: .row s ks.length (dc ks ss) :: l))⟩ K):AK C ⟨sl,own⟩ K:=
 AK.own' _ (fun w hw=>hw.EE i j yq hi hj hl hk) h
theorem HW.pS (B:Bs) {w:World} (h:HW C own w):HW C (own++[aI B []]) w:=
 h.push (bj.refl _ w) (cj.one (F:=fun _=>False) (show (aI B []).holds w (fun _=>False) from ⟨fun x hx=>(by cases hx),fun b hb=>hb.elim⟩)) (fun j b hb=>hb.2.elim)
theorem AK.pS (B:Bs) (h:AK C ⟨sl,own++[aI B []]⟩ K):AK C ⟨sl,own⟩ K:=AK.own' _ (fun w hw=>hw.pS B) h
end
section
variable {C : Cx} {sl : List (Nat × Value)} {own : List bk} {ops : Array Oper} {Q : Exit → Act → World → Prop} {d : Nat} {dst : Option Nat} {ty : TypeId} {pos : String} {aft : Array Edge} {g : Option (Nat × Bool)} {rest : List Oper}
theorem Yl.da {x:Operand} {t:TypeId} {v:Value} {n j:Nat} {ks:List Ex} {ss:List Value} (ht:nq C.P t 3) (hx:bO ⟨sl,own⟩ x=some (.pointer (some ((ko v).add (j * 3)))))
  (hr:cR C own v 3 n (dc ks ss)) (hl:ss.length=ks.length) (hn:n=ks.length) (hj:j<n):Yl C ⟨sl,own⟩ ⟨dst,.load t x,ty,pos,aft,g⟩ (.agg #[.int .i64 (ks.getD j default).op,.int .i64 (ks.getD j default).lt,ss.getD j undef]):=by
 have:=Yl.JN (dst:=dst) (ty:=ty) (pos:=pos) (aft:=aft) (g:=g) ht hx hr hj
 rw [J8 j ks ss hl (by omega)] at this
 exact this
theorem yI (n:Nat):(madeCells (Value.agg #[.int .i64 0,.int .i64 0,.slice none 0 0]).cells (n * 3)).toList=dc (List.replicate n e0) (List.replicate n aW):=by
 rw [Nk]
 unfold madeCells
 simp only [Value.cells]
 apply List.ext_getElem?
 intro i
 induction n generalizing i with
 | zero=>simp
 | succ n ih=>
  have h1:(List.range ((n+1) * 3))=[0,1,2]++(List.range (n * 3)).map (· + 3):=by
   rw [show (n+1) * 3=3+n * 3 by omega,List.range_add]
   congr 1
   apply List.map_congr_left;intro a _;omega
  simp only [Array.toList_map,Array.toList_range] at ih ⊢
  rw [h1]
  simp only [List.map_append,List.map_map,List.replicate_succ,List.flatten_cons]
  rcases Nat.lt_or_ge i 3 with hi | hi
  ·rw [List.getElem?_append_left (by simpa using hi),List.getElem?_append_left (by simpa using hi)]
   have:i=0∨i=1∨i=2:=by omega
   rcases this with rfl | rfl | rfl <;> rfl
  ·rw [List.getElem?_append_right (by simpa using hi),List.getElem?_append_right (by simpa using hi)]
   have:=ih (i - 3)
   simp only [List.length_map,List.length_cons,List.length_nil] at this ⊢
   rw [← this]
   congr 1
   apply List.map_congr_left
   intro a _
   simp
theorem AK.uP {d:Nat} {t E:TypeId} {l c:Operand} {s' ky:Nat} {n:Nat} (ht:oC C.P t E 3) (hE:gX C.P E (.agg #[.int .i64 0,.int .i64 0,.slice none 0 0]) s' ky) (hl:bO ⟨sl,own⟩ l=some (.int .i64 (n:Int))) (hc:bO ⟨sl,own⟩ c=some (.int .i64 (n:Int)))
  (hb:ky * n≤281474976710656) (hm:n≤9223372036854775807) (hg:nc ops sl g) (hd:Nat.blt d C.N=true)
  (h:∀ v,AK C ⟨(d,v) :: sl,own++[row v E 3 n (dc (List.replicate n e0) (List.replicate n aW))]⟩ (wpList C.P ops Q rest)) :
  AK C ⟨sl,own⟩ (wpList C.P ops Q (⟨some d,.makeSlice t l c,ty,pos,aft,g⟩ :: rest)):=
 AK.make ht hE hl hc hb hm hg hd (fun v=>by rw [yI];exact h v)
end
theorem mA:∀ (ks:List Ex) (ss:List Value),(∀ s∈ss,aB s)→qN (dc ks ss)
 | [],_,_=>by intro u hu;simp [dc] at hu
 | k :: ks,[],_=>by intro u hu;simp [dc] at hu
 | k :: ks,s :: ss,h=>by
  rw [jn]
  exact aw rfl (aw rfl (aw (aB.one (h s List.mem_cons_self)) (mA ks ss fun u hu=>h u (List.mem_cons_of_mem _ hu))))
theorem pf {p:Value→Prop} {ss:List Value} (h:∀ k,k<ss.length→p (ss.getD k undef)):∀ s∈ss,p s:=fun s hs=>by
 obtain ⟨i,hi⟩:=List.mem_iff_getElem?.1 hs
 have hl:=(List.getElem?_eq_some_iff.1 hi).1
 have:=h i hl
 simpa [List.getD_eq_getElem?_getD,hi] using this
theorem wQ (ks:List Ex) (ss:List Value) (e:Ex) (s:Value) (h:ss.length=ks.length):dc ks ss++[.int .i64 e.op,.int .i64 e.lt,s]=dc (ks++[e]) (ss++[s]):=by
 rw [iI _ _ _ _ h];rfl
theorem Mc {F:Nat→Prop} {w w':World} (hf:bj F w w') (a:Addr) (u:Value) (h:bD F w a u):bD F w' a u:=by
 have bZ:=World.block_lt_of_cell? _ _ h.2
 exact ⟨h.1,by rw [World.cell?_of_block (w:=w) (w':=w') (hf.block _ bZ h.1)];exact h.2⟩
theorem dy.fr {F:Nat→Prop} {w w':World} {s:Value} {ks:List Ex} (h:dy (bD F w) s ks) (hf:bj F w w'):dy (bD F w') s ks:=h.mono (Mc hf)
theorem dy.wk {F:Nat→Prop} {w:World} {s:Value} {ks:List Ex} (h:dy (bD F w) s ks):dy (bD (fun _=>False) w) s ks:=h.mono fun a u hu=>⟨id,hu.2⟩
theorem Ex.Am:∀ {ks:List Ex} {i:Nat},i<ks.length→SizeOf.sizeOf (ks.getD i default)<1+SizeOf.sizeOf ks
 | [],i,h=>by simp at h
 | k :: ks,0,_=>by simp [List.getD_eq_getElem?_getD];omega
 | k :: ks,i+1,h=>by
  have:=Ex.Am (ks:=ks) (i:=i) (by simpa using h)
  simp only [List.getD_eq_getElem?_getD,List.getElem?_cons_succ,List.cons.sizeOf_spec] at this ⊢
  omega
theorem Ex.ind {P:Ex→Prop} (h:∀ e:Ex,(∀ i,i<e.kids.length→P (e.kids.getD i default))→P e) (e:Ex):P e:=by
 have:∀ n (e:Ex),SizeOf.sizeOf e<n→P e:=by
  intro n
  induction n with
  | zero=>intro e he;omega
  | succ n ih=>
   intro e he
   refine h e fun i hi=>ih _ ?_
   have:=Ex.Am hi
   cases e with
   | mk op lt ks=>
    simp only [Ex.kids] at this ⊢
    simp only [Ex.mk.sizeOf_spec] at he
    omega
 exact this _ e (Nat.lt_succ_self _)
structure MX (l l':List cw) (s:Value) (ks:List Ex) (ss:List Value):Prop where
 sub:∀ x∈l,x∈l'
 len:ss.length=ks.length
 sl:aB s
 qd:∀ k,k<ks.length→aB (ss.getD k undef)
 mx:ks.length≤maxLen
 rw:cw.row s ks.length (dc ks ss)∈l'
 th:∀ k,k<ks.length→cw.deep (ss.getD k undef) (ks.getD k default).kids∈l'
theorem MX.later {l l' l2:List cw} {s:Value} {ks:List Ex} {ss:List Value} (h:MX l l' s ks ss) (h2:∀ x∈l',x∈l2):MX l l2 s ks ss:=
 ⟨fun x hx=>h2 _ (h.sub x hx),h.len,h.sl,h.qd,h.mx,h2 _ h.rw,fun k hk=>h2 _ (h.th k hk)⟩
theorem MX.ME {l l':List cw} {s:Value} {ks:List Ex} {ss:List Value} (h:MX l l' s ks ss):ks.length≤9223372036854775807:=by
 have:=h.mx;simp [maxLen] at this;omega
section
variable {C : Cx} {own : List bk} {B : Bs} {l : List cw} {sl : List (Nat × Value)} {K : Act → World → Prop}
theorem AK.rQ (i:Nat) {s:Value} {ks:List Ex} (hi:own[i]? = some (aI B l)) (hm:cw.deep s ks∈l)
  (h:∀ l' ss,MX l l' s ks ss→AK C ⟨sl,own.set i (aI B l')⟩ K):AK C ⟨sl,own⟩ K:=
 AK.Vh i hi hm fun ss h1 h2 h3 h4=>h _ ss ⟨fun x hx=>List.mem_cons_of_mem _ (List.mem_append_right _ hx),h1,h2,h3,h4,List.mem_cons_self,fun k hk=>List.mem_cons_of_mem _ (List.mem_append_left _ (Ot h1 hk))⟩
theorem AK.GG (i:Nat):∀ (ps:List (Value × List Ex)) {l:List cw} {own:List bk},own[i]? = some (aI B l)→(∀ p∈ps,cw.deep p.1 p.2∈l) →
  (∀ l' (lH:List (List Value)),(∀ x∈l,x∈l')→lH.length=ps.length→(∀ k,k<ps.length→MX l l' (ps.getD k (undef,[])).1 (ps.getD k (undef,[])).2 (lH.getD k []))→AK C ⟨sl,own.set i (aI B l')⟩ K)→AK C ⟨sl,own⟩ K
 | [],l,own,hi,hm,h=>by
  have:=h l [] (fun x hx=>hx) rfl (fun k hk=>by simp at hk)
  have e:own.set i (aI B l)=own:=by
   apply List.ext_getElem?;intro k
   by_cases hk:i=k
   ·subst hk
    have bZ:=(List.getElem?_eq_some_iff.1 hi).1
    rw [hi];simp [bZ]
   ·rw [List.getElem?_set_ne hk]
  rwa [e] at this
 | p :: ps,l,own,hi,hm,h=>by
  refine AK.rQ i hi (hm p List.mem_cons_self) fun l1 ss h1=>?_
  have bZ:=(List.getElem?_eq_some_iff.1 hi).1
  refine AK.GG i ps (l:=l1) (own:=own.set i (aI B l1)) (by simp [bZ]) (fun q hq=>h1.sub _ (hm q (List.mem_cons_of_mem _ hq))) fun l2 lH h2 h3 h4=>?_
  rw [List.set_set]
  refine h l2 (ss :: lH) (fun x hx=>h2 x (h1.sub x hx)) (by simp [h3]) fun k hk=>?_
  cases k with
  | zero=>exact h1.later h2
  | succ k=>
   have:=h4 k (by simpa using hk)
   refine ⟨fun x hx=>h2 x (h1.sub x hx),this.len,this.sl,this.qd,this.mx,this.rw,this.th⟩
structure RI (l l':List cw) (s:Value) (ks:List Ex) (ss:List Value) (lH:List (List Value)):Prop where
 o:MX l l' s ks ss
 tl:lH.length=ks.length
 each:∀ k,k<ks.length→MX l l' (ss.getD k undef) (ks.getD k default).kids (lH.getD k [])
theorem AK.FQ (i:Nat) {s:Value} {ks:List Ex} (hi:own[i]? = some (aI B l)) (hm:cw.deep s ks∈l)
  (h:∀ l' ss lH,RI l l' s ks ss lH→AK C ⟨sl,own.set i (aI B l')⟩ K):AK C ⟨sl,own⟩ K:=by
 refine AK.rQ i hi hm fun l1 ss h1=>?_
 have bZ:=(List.getElem?_eq_some_iff.1 hi).1
 have hz:∀ k,k<ks.length→(ss.zip (ks.map Ex.kids)).getD k (undef,[])=(ss.getD k undef,(ks.getD k default).kids):=fun k hk=>by
  have h1':=h1.len
  simp [List.getD_eq_getElem?_getD,hk,h1',List.getElem?_zip_eq_some]
 refine AK.GG (B:=B) i (ss.zip (ks.map Ex.kids)) (l:=l1) (own:=own.set i (aI B l1)) (by simp [bZ]) (fun p hp=>?_) fun l2 lH h2 h3 h4=>?_
 ·obtain ⟨k,hk⟩:=List.mem_iff_getElem?.1 hp
  have eo:k<ks.length:=by have:=(List.getElem?_eq_some_iff.1 hk).1;simp at this;omega
  have e:=hz k eo
  rw [List.getD_eq_getElem?_getD,hk,Option.getD_some] at e
  rw [e];exact h1.th k eo
 ·rw [List.set_set]
  have hlen:(ss.zip (ks.map Ex.kids)).length=ks.length:=by simp [h1.len]
  refine h l2 ss lH ⟨h1.later h2,by rw [h3,hlen],fun k hk=>?_⟩
  have:=h4 k (by omega)
  rw [hz k hk] at this
  exact ⟨fun x hx=>h2 x (h1.sub x hx),this.len,this.sl,this.qd,this.mx,this.rw,this.th⟩
theorem AK.close' (i j:Nat) {s:Value} {E:TypeId} {n:Nat} {cs:List Value} (ks:List Ex) (ss:List Value) (yq:i ≠ j) (hi:own[i]? = some (aI B l)) (hj:own[j]? = some (row s E 3 n cs)) (hn:n=ks.length) (hc:cs=dc ks ss) (hl:ss.length=ks.length)
  (hk:∀ k,k<ks.length→cw.deep (ss.getD k undef) (ks.getD k default).kids∈l) (h:∀ l',(∀ x∈l,x∈l')→cw.deep s ks∈l'→cw.row s ks.length (dc ks ss)∈l'→AK C ⟨sl,(own.set j om).set i (aI B l')⟩ K):AK C ⟨sl,own⟩ K:=by
 subst hn hc
 exact AK.EE i j yq hi hj hl hk (h _ (fun x hx=>List.mem_cons_of_mem _ (List.mem_cons_of_mem _ hx)) List.mem_cons_self (List.mem_cons_of_mem _ List.mem_cons_self))
theorem AK.np (i:Nat) (x:cw) (hi:own[i]? = some (aI B l)) (hx:∀ R,x.ok R) (h:∀ l',(∀ y∈l,y∈l')→x∈l'→AK C ⟨sl,own.set i (aI B l')⟩ K):AK C ⟨sl,own⟩ K:=
 AK.Iu i x hi hx (h _ (fun y hy=>List.mem_cons_of_mem _ hy) List.mem_cons_self)
end
structure kS (gu:List Ex) (jw:List Value) (ks:List Ex) (ss:List Value):Prop where
 len:jw.length=gu.length
 le:gu.length≤ks.length
 at_:∀ k,k<gu.length→∃ j,j<ks.length∧gu.getD k default=ks.getD j default∧jw.getD k undef=ss.getD j undef
theorem kS.rfl {ks:List Ex} {ss:List Value} (h:ss.length=ks.length):kS ks ss ks ss:=⟨h,Nat.le_refl _,fun k hk=>⟨k,hk,_root_.rfl,_root_.rfl⟩⟩
theorem kS.trans {k1 k2 k3:List Ex} {s1 s2 s3:List Value} (h:kS k1 s1 k2 s2) (h':kS k2 s2 k3 s3):kS k1 s1 k3 s3:=⟨h.len,Nat.le_trans h.le h'.le,fun k hk=>by
 obtain ⟨j,h1,h2,h3⟩:=h.at_ k hk
 obtain ⟨m,h4,h5,h6⟩:=h'.at_ j h1
 exact ⟨m,h4,h2.trans h5,h3.trans h6⟩⟩
theorem kS.deep {l:List cw} {gu ks:List Ex} {jw ss:List Value} (h:kS gu jw ks ss) (hd:∀ k,k<ks.length→cw.deep (ss.getD k undef) (ks.getD k default).kids∈l):∀ k,k<gu.length→cw.deep (jw.getD k undef) (gu.getD k default).kids∈l:=fun k hk=>by
 obtain ⟨j,h1,h2,h3⟩:=h.at_ k hk
 rw [h2,h3];exact hd j h1
theorem kS.qd {gu ks:List Ex} {jw ss:List Value} (h:kS gu jw ks ss) (hd:∀ k,k<ks.length→aB (ss.getD k undef)):∀ k,k<gu.length→aB (jw.getD k undef):=fun k hk=>by
 obtain ⟨j,h1,h2,h3⟩:=h.at_ k hk
 rw [h3];exact hd j h1
section
variable {C : Cx} {sl : List (Nat × Value)} {own : List bk} {ops : Array Oper} {Q : Exit → Act → World → Prop} {ty : TypeId} {pos : String} {aft : Array Edge} {g : Option (Nat × Bool)} {rest : List Oper}
theorem RM {z:Value} (hz:z = .agg #[.int .i64 0,.int .i64 0,.slice none 0 0]) (n:Nat):(Builtin.zeroCells z.cells n).toList.length=n * 3∧qN (Builtin.zeroCells z.cells n).toList:=by
 subst hz
 have hs:(Value.agg #[.int .i64 0,.int .i64 0,.slice none 0 0]).cells.size=3:=rfl
 refine ⟨by simp [Builtin.zeroCells,hs],fun u hu=>?_⟩
 simp only [Builtin.zeroCells,Array.toList_map,Array.toList_range,List.mem_map,hs] at hu
 obtain ⟨i,_,rfl⟩:=hu
 have:∀ k:Nat,k<3→((Value.agg #[.int .i64 0,.int .i64 0,.slice none 0 0]).cells[k]!).oneCell'=true:=fun k hk=>by
  have:k=0∨k=1∨k=2:=by omega
  rcases this with rfl | rfl | rfl <;> rfl
 exact this _ (Nat.mod_lt _ (by decide))
theorem AK.S2 (i:Nat) {x:Operand} {t E e s' ky:Nat} {v z:Value} {n a:Nat} {cs:List Value} (hi:own[i]? = some (row v E 3 n cs)) (ht:oC C.P t e 3) (he:gX C.P e z s' ky) (hzz:∀ n,(Builtin.zeroCells z.cells n).toList.length=n * 3∧qN (Builtin.zeroCells z.cells n).toList) (hx:bO ⟨sl,own⟩ x=some (nf v 3 a)) (ha:a≤n) (hg:nc ops sl g)
  (h:∀ cs',cs'.take (a * 3)=cs.take (a * 3)→AK C ⟨sl,own.set i (row v E 3 n cs')⟩ (wpList C.P ops Q rest)) :
  AK C ⟨sl,own⟩ (wpList C.P ops Q (⟨none,.call ⟨.builtin .clear,#[x],#[t]⟩,ty,pos,aft,g⟩ :: rest)):=by
 intro ac w hs
 refine wpList_step fun K hK=>?_
 rw [if_pos (bA hs hg)]
 obtain ⟨hf,Fs,hh,bc⟩:=hs.world
 obtain ⟨c4,hF⟩:=hh.at_ i _ hi
 obtain ⟨inf,ta,yQ,Pc,MQ⟩:=he.inf
 have hz:(zeroValue e).run C.P w = .ok z w:=by simp [zeroValue,typeInfo,ta,yQ]
 have PD:∀ w2,w2=w→K (ac.put none (.tuple #[])) w2:=by
  rintro _ rfl
  refine hK _ _ (h cs rfl _ _ ?_)
  have wb:own.set i (row v E 3 n cs)=own:=by
   apply List.ext_getElem?;intro k
   by_cases hk:i=k
   ·subst hk
    have bZ:=(List.getElem?_eq_some_iff.1 hi).1
    rw [hi];simp [bZ]
   ·rw [List.getElem?_set_ne hk]
  rw [wb]
  exact hs.put hs.world (d:=none) (fun i hi=>by cases hi) undef
 rcases c4.2 with ⟨rfl,h0⟩ | ⟨gb,cap,cur,rfl,QG,hb,mc,vo,Ch,jF⟩
 ·have ie:(execOp ac.eval ⟨none,.call ⟨.builtin .clear,#[x],#[t]⟩,ty,pos,aft,g⟩).run C.P w = .ok (.value (.tuple #[])) w:=by
   simp [execOp,resolve,invoke,builtin,aq hs hx,Builtin.clear_,run_underlying ht.1,nf]
  simp only [Oper.wp,ie,Oper.upon]
  exact PD w rfl
 ·rcases Nat.lt_or_ge a n with bZ | Hp
  ·obtain ⟨zl,zo⟩:=hzz (n - a)
   have mg:=run_storeCells_at C.P gb (a * 3) E (Builtin.zeroCells z.cells (n - a)).toList 0 cur w hb (by rw [zl,Ch];omega) zo
   simp only [Nat.add_zero,zl] at mg
   have j9:n - a ≠ 0:=by omega
   have ie:(execOp ac.eval ⟨none,.call ⟨.builtin .clear,#[x],#[t]⟩,ty,pos,aft,g⟩).run C.P w = .ok (.value (.tuple #[])) (w.setRow gb (cur.toList.take (a * 3)++(Builtin.zeroCells z.cells (n - a)).toList++cur.toList.drop (a * 3+(n - a) * 3)).toArray):=by
    have e1:nf (.slice (some ⟨gb,0,none⟩) n cap) 3 a = .slice (some ⟨gb,a * 3,none⟩) (n - a) (cap - a):=by
     have Y0:cap ≠ a:=by omega
     simp [nf,Addr.add_lit,Y0]
    rw [e1] at hx
    obtain ⟨m,hm⟩:∃ m,n - a=m+1:=⟨n - a - 1,by omega⟩
    rw [hm] at mg hx ⊢
    simp only [execOp,resolve,invoke,builtin,Builtin.clear_]
    simp [aq hs hx,run_underlying ht.1,hz,mg]
   simp only [Oper.wp,ie,Oper.upon]
   have HA:i<own.length:=(List.getElem?_eq_some_iff.1 hi).1
   have Vw:cur.toList.length=cap * 3:=by simpa using Ch
   refine hK _ _ (h ((cur.toList.take (a * 3)++(Builtin.zeroCells z.cells (n - a)).toList++cur.toList.drop (a * 3+(n - a) * 3)).take (n * 3)) ?_ _ _ ?_)
   ·rw [List.take_take,Nat.min_eq_left (by omega),List.append_assoc,List.take_append_of_le_length (by simp;omega),List.take_take,Nat.min_self]
    have:=congrArg (List.take (a * 3)) jF
    rw [← this,List.take_take,Nat.min_eq_left (by omega)]
   ·have tz:(w.setRow gb (cur.toList.take (a * 3)++(Builtin.zeroCells z.cells (n - a)).toList++cur.toList.drop (a * 3+(n - a) * 3)).toArray).ownsRow 0 E 3 (.slice (some ⟨gb,0,none⟩) n cap) n ((cur.toList.take (a * 3)++(Builtin.zeroCells z.cells (n - a)).toList++cur.toList.drop (a * 3+(n - a) * 3)).take (n * 3)):=by
     refine ⟨by simp [zl];omega,.inr ⟨gb,cap,_,rfl,Nat.zero_le _,setRow_heap w gb cur _ E _ hb,mc,vo,?_,?_⟩⟩
     ·have:=zl
      simp only [Array.length_toList] at this
      simp [this];omega
     ·simp
    have qo:=HW.update (w':=w.setRow gb (cur.toList.take (a * 3)++(Builtin.zeroCells z.cells (n - a)).toList++cur.toList.drop (a * 3+(n - a) * 3)).toArray) (own2:=[]) (A':=row (.slice (some ⟨gb,0,none⟩) n cap) E 3 n _) hf hh bc HA ⟨rfl,rfl,rfl,by simp,fun k _ hk=>setRow_other w gb k _ (fun e=>hk (by rw [e];exact (hF gb).2 rfl)),Nat.le_refl _⟩
     (cj.one (lU tz)) (fun k c hc=>.inl ((hF c).2 hc.2))
    rw [List.append_nil] at qo
    exact hs.put qo (d:=none) (fun i hi=>by cases hi) undef
  ·have e0:n - a=0:=by omega
   have ie:(execOp ac.eval ⟨none,.call ⟨.builtin .clear,#[x],#[t]⟩,ty,pos,aft,g⟩).run C.P w = .ok (.value (.tuple #[])) w:=by
    obtain ⟨ao,c2,e1⟩:∃ ao c2,nf (.slice (some ⟨gb,0,none⟩) n cap) 3 a = .slice ao 0 c2:=⟨_,_,by simp only [nf,e0];rfl⟩
    rw [e1] at hx
    simp only [execOp,resolve,invoke,builtin,Builtin.clear_]
    cases ao <;> simp [aq hs hx,run_underlying ht.1]
   simp only [Oper.wp,ie,Oper.upon]
   exact PD w rfl
theorem AK.KD (i:Nat) {x:Operand} {t E e s' ky:Nat} {v:Value} {n a:Nat} {ks:List Ex} {ss:List Value} (hi:own[i]? = some (row v E 3 n (dc ks ss))) (ht:oC C.P t e 3) (he:gX C.P e (.agg #[.int .i64 0,.int .i64 0,.slice none 0 0]) s' ky) (hx:bO ⟨sl,own⟩ x=some (nf v 3 a)) (hn:n=ks.length) (hl:ss.length=ks.length) (ha:a≤n) (hg:nc ops sl g)
  (h:∀ cs',cs'.take (a * 3)=dc (ks.take a) (ss.take a)→AK C ⟨sl,own.set i (row v E 3 n cs')⟩ (wpList C.P ops Q rest)) :
  AK C ⟨sl,own⟩ (wpList C.P ops Q (⟨none,.call ⟨.builtin .clear,#[x],#[t]⟩,ty,pos,aft,g⟩ :: rest)):=
 AK.S2 i hi ht he (RM rfl) hx ha hg fun cs' hc=>h cs' (hc.trans (wP a ks ss hl))
end
end Go.Sx
namespace Go.Sx
def aP:Ex:=.mk 1 0 []
def bu:Ex:=.mk 2 0 []
def gg:Ex:=.mk 8 0 [aP]
def bb (e:Ex):Bool:=e.op == 1
def eA (e:Ex):Bool:=e.op == 2
def fE (e:Ex):Bool:=e.op == 8 && e.kids.length == 1 && bb (e.kids.getD 0 default)
def gz:Nat→Ex→Nat→Option Nat
 | 0,_,_=>none
 | d+1,e,left=>if left=0 then none else e.kids.foldlM (fun l k=>gz d k l) (left - 1)
mutual
def dg (n:Int):Ex→Bool
 | .mk op lt ks=>if op=3 then ks.length == 0 && decide (0≤lt) && decide (lt<n)
  else if lt ≠ 0 then false
  else if op=1∨op=2 then ks.length == 0
  else if op=4∨op=5∨op=6 then decide (2≤ks.length) && Tc n ks
  else if op=7∨op=8 then ks.length == 1 && Tc n ks else false
def Tc (n:Int):List Ex→Bool
 | []=>true
 | k :: ks=>dg n k && Tc n ks
end
theorem AI (n:Int):∀ ks:List Ex,Tc n ks=ks.all (dg n)
 | []=>by simp [Tc]
 | k :: ks=>by simp [Tc,AI n ks]
theorem dZ (n:Int) (e:Ex):dg n e=if e.op=3 then e.kids.length == 0 && decide (0≤e.lt) && decide (e.lt<n)
  else if e.lt ≠ 0 then false
  else if e.op=1∨e.op=2 then e.kids.length == 0
  else if e.op=4∨e.op=5∨e.op=6 then decide (2≤e.kids.length) && e.kids.all (dg n)
  else if e.op=7∨e.op=8 then e.kids.length == 1 && e.kids.all (dg n) else false:=by
 cases e with | mk op lt ks=>simp only [dg,Ex.op,Ex.lt,Ex.kids,AI];rfl
theorem all_false {p:Ex→Bool} {ks:List Ex} {k:Nat} (hk:k<ks.length) (h:p (ks.getD k default)=false):ks.all p=false:=by
 rw [List.all_eq_false]
 exact ⟨ks[k],List.getElem_mem hk,by simpa [List.getD_eq_getElem?_getD,hk] using h⟩
theorem all_true {p:Ex→Bool} {ks:List Ex} (h:∀ i,i<ks.length→p (ks.getD i default)=true):ks.all p=true:=by
 rw [List.all_eq_true]
 intro x hx
 obtain ⟨i,hi⟩:=List.mem_iff_getElem?.1 hx
 have hl:=(List.getElem?_eq_some_iff.1 hi).1
 simpa [List.getD_eq_getElem?_getD,hi] using h i hl
def qj (p:Ex→Bool) (ks:List Ex):Int:=if ks.any p then (ks.findIdx p:Int) else -1
theorem zt {p:Ex→Bool} {ks:List Ex} {k:Nat} (hk:k<ks.length) (hb:∀ i,i<k→p (ks.getD i default)=false) (h:p (ks.getD k default)=true):qj p ks=k:=by
 unfold qj
 have h1:p ks[k]=true:=by simpa [List.getD_eq_getElem?_getD,hk] using h
 rw [if_pos (List.any_eq_true.2 ⟨_,List.getElem_mem hk,h1⟩)]
 congr 1
 rw [List.findIdx_eq hk]
 refine ⟨h1,fun j hj=>?_⟩
 have:=hb j hj
 simpa [List.getD_eq_getElem?_getD,show j<ks.length by omega] using this
theorem any_none {p:Ex→Bool} {ks:List Ex} (h:∀ i,i<ks.length→p (ks.getD i default)=false):ks.any p=false:=by
 rw [List.any_eq_false]
 intro x hx
 obtain ⟨i,hi⟩:=List.mem_iff_getElem?.1 hx
 have hl:=(List.getElem?_eq_some_iff.1 hi).1
 have:=h i hl
 simpa [List.getD_eq_getElem?_getD,hi] using this
theorem zu {p:Ex→Bool} {ks:List Ex} (h:∀ i,i<ks.length→p (ks.getD i default)=false):qj p ks = -1:=by
 unfold qj
 rw [any_none h];rfl
theorem sP (p:Ex→Bool) (ks:List Ex):(ks.any p=true↔0≤qj p ks)∧-1≤qj p ks∧qj p ks≤ks.length:=by
 unfold qj
 have:=List.findIdx_le_length (p:=p) (xs:=ks)
 split <;> rename_i h
 ·refine ⟨⟨fun _=>by omega,fun _=>h⟩,by omega,by omega⟩
 ·refine ⟨⟨fun h'=>absurd h' h,fun h'=>by omega⟩,by omega,by omega⟩
def cg (e:Ex) (n:Int):Int:=if n<1∨6<n then 1 else if (gz 40 e 400).isSome then if dg n e then 0 else 4 else 3
mutual
def fq:Ex→Bool
 | .mk op lt ks=>if op=2∨op=7 then true else if op=4 then pJ ks else if op=5∨op=6 then r7 ks else if op=8 then ks.length == 1 && !pJ ks else false
def pJ:List Ex→Bool
 | []=>false
 | k :: ks=>fq k || pJ ks
def r7:List Ex→Bool
 | []=>true
 | k :: ks=>fq k && r7 ks
end
theorem vf:∀ ks:List Ex,pJ ks=ks.any fq
 | []=>by simp [pJ]
 | k :: ks=>by simp [pJ,vf ks]
theorem vg:∀ ks:List Ex,r7 ks=ks.all fq
 | []=>by simp [r7]
 | k :: ks=>by simp [r7,vg ks]
theorem iB (e:Ex):fq e=if e.op=2∨e.op=7 then true else if e.op=4 then e.kids.any fq else if e.op=5∨e.op=6 then e.kids.all fq else if e.op=8 then e.kids.length == 1 && !fq (e.kids.getD 0 default) else false:=by
 cases e with
 | mk op lt ks=>
  have key:(ks.length == 1 && !ks.any fq)=(ks.length == 1 && !fq (ks.getD 0 default)):=by
   match ks with
   | []=>rfl
   | [k]=>simp [List.getD_eq_getElem?_getD]
   | a :: b :: l=>simp
  simp only [fq,Ex.op,Ex.kids,vf,vg,key];rfl
def lim {α:Type} (l:List α):Option (List α):=if l.length≤1073741824 then some l else none
theorem js {α:Type} {l m:List α} (h:lim l=some m):m=l∧l.length≤1073741824:=by
 unfold lim at h;split at h
 ·cases h;exact ⟨rfl,by assumption⟩
 ·cases h
def bG (op:Int) (ks:List Ex):List Ex:=ks.flatMap fun k=>if k.op=op then k.kids else [k]
def kh (x y:Int):Int:=if x<y then -1 else if y<x then 1 else 0
mutual
def gD:Ex→Ex→Int
 | .mk o l ks,e=>if o ≠ e.op then kh o e.op else if l ≠ e.lt then kh l e.lt else dA ks e.kids
def dA:List Ex→List Ex→Int
 | [],[]=>0
 | [],_ :: _=>-1
 | _ :: _,[]=>1
 | a :: qq,b :: bs=>if gD a b ≠ 0 then gD a b else dA qq bs
end
def Eb (a:Ex):List Ex→List Ex
 | []=>[a]
 | b :: l=>if gD a b≤0 then a :: b :: l else b :: Eb a l
def gw (l:List Ex):List Ex:=l.foldr Eb []
def uM {α:Type} (q:α→α→Bool) (d:α) (xs:List α):Nat→List α
 | 0=>[]
 | m+1=>if 0<m∧q (xs.getD m d) (xs.getD (m - 1) d)=true then uM q d xs m else uM q d xs m++[xs.getD m d]
def qe (a b:Ex):Bool:=decide (gD a b=0)
def hD (l:List Ex):List Ex:=uM qe default l l.length
def Jj (l:List Ex):Option (List Ex):=some (hD (gw l))
def bp (op:Int) (parts:List Ex) (nn:Ex):Ex:=match parts with
 | []=>nn
 | [p]=>p
 | _=>.mk op 0 parts
def qu (ks:List Ex):Option Ex:=if ks.any fE then some gg else (lim (bG 4 ks)).bind fun p=>(Jj (p.filter fun e=>!bb e)).bind fun q=>some (bp 4 q aP)
def oN (ks:List Ex):Option Ex:=if ks.any bb then some aP else (lim (bG 5 ks)).bind fun p=>some (bp 5 (p.filter fun e=>!eA e) bu)
def uQ (ks:List Ex):Option Ex:=if ks.any bb then some aP else (lim (bG 6 ks)).bind fun p=>(Jj (p.filter fun e=>!fE e)).bind fun q=>some (bp 6 q gg)
def eK (op:Int) (k:Ex):Ex:=
 if op=8 then if k.op=8∧k.kids.length=1 then k.kids.getD 0 default else .mk 8 0 [k]
 else if op=7 then if k.op=1∨k.op=2 then bu else if k.op=7∨fE k=true then k else .mk 7 0 [k]
 else e0
def dN (op:Int) (ks:List Ex):Option Ex:=
 if op=4 then qu ks else if op=5 then oN ks else if op=6 then uQ ks
 else if ks.length=1 then some (eK op (ks.getD 0 default)) else some e0
mutual
def kr:Ex→Option Ex
 | .mk op lt ks=>if ks.length=0 then some (.mk op lt []) else if ks.length≤1073741824 then (nY ks).bind fun l=>dN op l else none
def nY:List Ex→Option (List Ex)
 | []=>some []
 | k :: ks=>(kr k).bind fun a=>(nY ks).bind fun l=>some (a :: l)
end
abbrev Dv:=Ex × Ex × Bool
def kj (ky Ke:List Ex):Option (List Ex):=match ky with
 | []=>some []
 | b :: bs=>(if b.op=1 then some b else dN 5 (b :: Ke.drop 1)).bind fun p=>(kj bs (Ke.drop 1)).bind fun l=>some (p :: l)
def uR (op:Int) (ds:List Dv):Option Dv:=
 (dN op (ds.map (·.1))).bind fun b=>(dN op (ds.map (·.2.1))).bind fun s=>
  some (b,s,if op=4 then decide (0<(ds.filter (·.2.2)).length) else if op=6 then decide ((ds.filter (·.2.2)).length=ds.length) else if op=8 then decide ((ds.filter (·.2.2)).length=0) else false)
mutual
def eM (a:Int) (nm:Bool):Ex→Option Dv
 | .mk op lt ks=>
  if op=2 then some (aP,bu,true)
  else if op=3 then some (if lt=a then bu else aP,.mk 3 lt [],false)
  else if op=4∨op=6∨op=8 then if ks.length≤1073741824 then (qz a nm ks).bind fun ds=>uR op ds else none
  else if op=7 then (qz a nm ks).bind fun ds=>if ds.length=0 then none else (dN 7 [(ds.getD 0 default).2.1]).bind fun s=>(dN 5 [(ds.getD 0 default).1,s]).bind fun b=>some (b,s,true)
  else if op=5 then if ks.length≤1073741824 then (gZ a nm true ks).bind fun x=>(kj x.1 x.2.1).bind fun p=>(dN 4 p).bind fun b=>(dN 5 x.2.1).bind fun s=>some (b,s,x.2.2) else none
  else some (aP,aP,false)
def qz (a:Int) (nm:Bool):List Ex→Option (List Dv)
 | []=>some []
 | k :: ks=>(eM a nm k).bind fun d=>(qz a nm ks).bind fun l=>some (d :: l)
def gZ (a:Int) (nm:Bool):Bool→List Ex→Option (List Ex × List Ex × Bool)
 | nl,[]=>some ([],[],nl)
 | true,k :: ks=>(eM a nm k).bind fun d=>(gZ a nm d.2.2 ks).bind fun x=>some (d.1 :: x.1,d.2.1 :: x.2.1,x.2.2)
 | false,k :: ks=>(if nm then some k else kr k).bind fun s=>(gZ a nm false ks).bind fun x=>some (x.1,s :: x.2.1,x.2.2)
end
def letE (e:Ex) (a:Int):Option (Ex × Int):=(eM a true e).bind fun d=>some (if cg d.1 6=0 then (d.1,0) else (e0,3))
def eh (op:Int):Int:=if op=4 then 1 else if op=6 then 2 else if op=5 then 3 else if op=8 then 4 else if op=7 then 5 else 6
mutual
def jA:Ex→List UInt8
 | .mk op lt ks=>if op=1 then [48] else if op=2 then [49] else if op=3 then [97+UInt8.ofNat lt.toNat] else if op=4 then jv [124] 2 false ks else if op=6 then jv [38] 3 false ks
  else if op=5 then jv [] 4 false ks else if op=8 then 33 :: jv [] 4 false ks else if op=7 then jv [] 5 false ks++[42] else []
def jv (sep:List UInt8) (least:Int):Bool→List Ex→List UInt8
 | _,[]=>[]
 | b,k :: ks=>(if b then sep else [])++(if least≤eh k.op then jA k else 40 :: (jA k++[41]))++jv sep least true ks
end
def Ac (e:Ex):Option (List UInt8):=if cg e 6=0 then lim (jA e) else some []
structure mZ where
 L:Nat
 ex:List Ex
 nx:List (List Int)
 dn:Nat
 num:List (List UInt8 × Int)
def qV (r:mZ) (e:Ex):Option mZ:=(Ac e).bind fun t=>some { r with ex:=r.ex++[e],num:=jI r.num t (r.ex.length:Int) }
def qM:Nat→Nat→mZ→List Int→Option (mZ × List Int × Int)
 | 0,_,r,row=>some (r,row,0)
 | n+1,x,r,row=>(letE (r.ex.getD r.dn default) (x:Int)).bind fun p=>if p.2 ≠ 0 then some (r,row,p.2) else
  (Ac p.1).bind fun t=>match dq r.num t with
   | some i=>qM n (x+1) r (row++[i])
   | none=>if r.ex.length=512 then some (r,row,3) else (qV r p.1).bind fun r2=>qM n (x+1) r2 (row++[(r.ex.length:Int)])
def wo (r:mZ):Option (mZ × Int):=(qM r.L 0 r []).bind fun p=>if p.2.2 ≠ 0 then some (p.1,p.2.2) else some ({ p.1 with nx:=p.1.nx++[p.2.1],dn:=p.1.dn+1 },0)
def qt:Nat→mZ→Option (mZ × Int)
 | 0,_=>none
 | n+1,r=>if r.dn=r.ex.length then some (r,0) else (wo r).bind fun p=>if p.2 ≠ 0 then some p else qt n p.1
def qU (r:mZ):bB:=⟨r.L,0,r.ex.map fq,r.nx⟩
def rN:bB:=⟨0,0,[],[]⟩
def uO (e:Ex):Option Ex:=if cg e 6=0 then kr e else some e0
def re (e:Ex) (n:Int):Option (bB × Int):=if cg e n ≠ 0 then some (rN,cg e n) else
 (uO e).bind fun e1=>(qV ⟨n.toNat,[],[],0,[]⟩ e1).bind fun r=>(qt 600 r).bind fun p=>if p.2 ≠ 0 then some (rN,p.2) else some (qU p.1,0)
def UB:Ex:=.mk 7 0 [.mk 5 0 [.mk 3 0 [],.mk 3 1 []]]
theorem Mf:re UB 2=some (⟨2,0,[true,false,false],[[1,2],[2,0],[2,2]]⟩,0):=by decide +kernel
end Go.Sx
