import Derived.Test.YtbibnpdnmmgacaaGreatDoorJZc
import Derived.Lib.TrailingZeros
import Derived.Laws.StructEq
import Derived.Test.YtbibnpdnmmgacaaGreatDoorJZa
import Derived.ProofKit
import Derived.OpenShut
import Derived.Deep.Slices
import Derived.Test.YtbibnpdnmmgacaaGreatDoorJZb
import Derived.WideShapes
import Derived.Test.YtbibnpdnmmgacaaGreatDoorRows
import Derived.LaidMore
import Derived.Lib.LaidTab
import Derived.Stop.Joined
import Derived.Test.YtbibnpdnmmgacaaGreatDoorProg
import Derived.KernelRfl
set_option linter.unusedVariables false
set_option linter.unusedSimpArgs false
set_option maxRecDepth 100000
namespace Go.Sx
open Go.RowKit
def memF (s:W64) (i:Nat):Nat→List Nat
 | 0=>[]
 | f+1=>if s.getLsbD i=true then i :: memF s (i+1) f else memF s (i+1) f
def mems (s:W64):List Nat:=memF s 0 64
theorem memF_congr {s t:W64}:∀ (f i:Nat),(∀ j,i≤j→j<i+f→s.getLsbD j=t.getLsbD j)→memF s i f=memF t i f
 | 0,_,_=>rfl
 | f+1,i,h=>by
  have h1:=h i (Nat.le_refl _) (by omega)
  have h2:=memF_congr f (i+1) (fun j h3 h4=>h j (by omega) (by omega))
  show (if s.getLsbD i=true then _ else _)=if t.getLsbD i=true then _ else _
  rw [h1,h2]
theorem memF_skip {s:W64}:∀ (k i f:Nat),(∀ j,i≤j→j<i+k→s.getLsbD j=false)→memF s i (k+f)=memF s (i+k) f
 | 0,i,f,_=>by simp
 | k+1,i,f,h=>by
  rw [show k+1+f=(k+f)+1 by omega]
  show (if s.getLsbD i=true then _ else _)=_
  rw [h i (Nat.le_refl _) (by omega)]
  have:=memF_skip k (i+1) f (fun j h1 h2=>h j (by omega) (by omega))
  rw [if_neg (by decide),this];congr 1;omega
theorem memF_mem {s:W64}:∀ (f i j:Nat),j∈memF s i f↔(i≤j∧j<i+f∧s.getLsbD j=true)
 | 0,i,j=>by simp [memF];omega
 | f+1,i,j=>by
  have ih:=memF_mem (s:=s) f (i+1) j
  show j∈(if s.getLsbD i=true then i :: memF s (i+1) f else memF s (i+1) f)↔_
  split
  ·rename_i h
   rw [List.mem_cons,ih]
   constructor
   ·rintro (rfl | ⟨h1,h2,h3⟩)
    ·exact ⟨Nat.le_refl _,by omega,h⟩
    ·exact ⟨by omega,by omega,h3⟩
   ·rintro ⟨h1,h2,h3⟩
    by_cases e:j=i
    ·exact .inl e
    ·exact .inr ⟨by omega,by omega,h3⟩
  ·rename_i h
   rw [ih]
   constructor
   ·rintro ⟨h1,h2,h3⟩;exact ⟨by omega,by omega,h3⟩
   ·rintro ⟨h1,h2,h3⟩
    refine ⟨?_,by omega,h3⟩
    by_cases e:j=i
    ·subst e;exact absurd h3 h
    ·omega
theorem mem_mems {s:W64} {j:Nat}:j∈mems s↔s.getLsbD j=true:=by
 unfold mems
 rw [memF_mem]
 constructor
 ·exact fun h=>h.2.2
 ·intro h
  refine ⟨Nat.zero_le _,?_,h⟩
  apply Classical.byContradiction
  intro hc
  rw [BitVec.getLsbD_of_ge s j (by omega)] at h;cases h
theorem mems_len (s:W64):(mems s).length≤64:=by
 have:∀ f i,(memF s i f).length≤f:=by
  intro f
  induction f with
  | zero=>intro i;exact Nat.le_refl _
  | succ f ih=>
   intro i
   have:=ih (i+1)
   show (if s.getLsbD i=true then _ else _:List Nat).length≤_
   split
   ·simp;omega
   ·omega
 exact this 64 0
theorem mems_zero:mems 0=[]:=by decide
theorem low_bits {s:W64} (h:s ≠ 0):Lib.ctz 64 s.toNat<64∧s.getLsbD (Lib.ctz 64 s.toNat)=true∧(∀ i,i<Lib.ctz 64 s.toNat→s.getLsbD i=false)∧∀ i,i<64→(s &&& (s - 1)).getLsbD i=(s.getLsbD i && decide (i ≠ Lib.ctz 64 s.toNat)):=by
 have h0:s.toNat ≠ 0:=fun e=>h (BitVec.eq_of_toNat_eq (by rw [e];rfl))
 obtain ⟨m,hm,hc⟩:=Lib.ctzFrom_spec 64 s.toNat (by omega) s.isLt
 have e:Lib.ctz 64 s.toNat=Lib.ctzFrom 64 s.toNat:=if_neg h0
 rw [e]
 generalize Lib.ctzFrom 64 s.toNat=c at hm hc
 have hb:∀ i,s.getLsbD i=if i<c then false else (2 * m+1).testBit (i - c):=fun i=>by
  rw [← BitVec.testBit_toNat,hm]
  have:=Nat.testBit_two_pow_mul_add (2 * m+1) (b:=0) (i:=c) (Nat.pow_pos (by omega)) i
  rw [Nat.add_zero] at this
  rw [this]
  split
  ·exact Nat.zero_testBit i
  ·rfl
 have hpos:0<2 ^ c:=Nat.pow_pos (by omega)
 have hs1:(s - 1).toNat=2 ^ c * (2 * m)+(2 ^ c - 1):=by
  rw [BitVec.toNat_sub]
  have h1:(1:W64).toNat=1:=by decide
  have h2:=s.isLt
  have h3:2 ^ c * (2 * m+1)=2 ^ c * (2 * m)+2 ^ c:=by rw [Nat.mul_add,Nat.mul_one]
  rw [h1];omega
 have hb1:∀ i,(s - 1).getLsbD i=if i<c then true else (2 * m).testBit (i - c):=fun i=>by
  rw [← BitVec.testBit_toNat,hs1]
  have:=Nat.testBit_two_pow_mul_add (2 * m) (b:=2 ^ c - 1) (i:=c) (by omega) i
  rw [this]
  split
  ·rw [Nat.testBit_two_pow_sub_one];simp;omega
  ·rfl
 refine ⟨hc,?_,fun i hi=>?_,fun i hi=>?_⟩
 ·rw [hb,if_neg (by omega),Nat.sub_self];simp
 ·rw [hb,if_pos hi]
 ·rw [BitVec.getLsbD_and,hb,hb1]
  by_cases h1:i<c
  ·rw [if_pos h1];simp
  ·rw [if_neg h1,if_neg h1]
   by_cases h2:i=c
   ·subst h2;simp
   ·have h3:i - c=(i - c - 1)+1:=by omega
    rw [h3,Nat.testBit_succ,Nat.testBit_succ]
    have e1:(2 * m+1) / 2=m:=by omega
    have e2:2 * m / 2=m:=by omega
    rw [e1,e2];simp [h2]
theorem mems_next {s:W64} (h:s ≠ 0):mems s=Lib.ctz 64 s.toNat :: mems (s &&& (s - 1)):=by
 obtain ⟨h1,h2,h3,h4⟩:=low_bits h
 generalize Lib.ctz 64 s.toNat=c at h1 h2 h3 h4
 unfold mems
 obtain ⟨f,hf⟩:∃ f,64=c+(f+1):=⟨63 - c,by omega⟩
 rw [congrArg (memF s 0) hf,congrArg (memF (s &&& (s - 1)) 0) hf,memF_skip c 0 (f+1) (fun j _ hj=>h3 j (by omega)),memF_skip c 0 (f+1) (fun j _ hj=>by rw [h4 j (by omega),h3 j (by omega)];rfl)]
 show (if s.getLsbD (0+c)=true then _ else _)=_ :: (if (s &&& (s - 1)).getLsbD (0+c)=true then _ else _)
 rw [Nat.zero_add,h2,if_pos rfl,h4 c h1]
 simp only [ne_eq,not_true_eq_false,decide_false,Bool.and_false,Bool.false_eq_true,if_false]
 congr 1
 refine memF_congr _ _ fun j k1 k2=>?_
 rw [h4 j (by omega),decide_eq_true (show j ≠ c by omega),Bool.and_true]
def bit (j:Int):W64:=(1:W64) <<< j.toNat
theorem bit_get {j:Int} (hj:0≤j∧j<64) (i:Nat):(bit j).getLsbD i=decide ((i:Int)=j):=by
 obtain ⟨m,rfl⟩:=Int.eq_ofNat_of_zero_le hj.1
 unfold bit
 rw [Int.toNat_natCast,BitVec.getLsbD_shiftLeft]
 have h1:∀ k,(1:W64).getLsbD k=decide (k=0):=fun k=>by
  rw [show (1:W64)=BitVec.ofNat 64 1 from rfl,BitVec.getLsbD_ofNat]
  by_cases hk:k=0
  ·subst hk;decide
  ·have:Nat.testBit 1 k=false:=by
    obtain ⟨q,rfl⟩:=Nat.exists_eq_succ_of_ne_zero hk
    rw [Nat.testBit_succ];simp
   rw [this];simp [hk]
 rw [h1]
 by_cases h:i=m
 ·subst h
  have h2:i<64:=by omega
  simp [h2]
 ·rw [decide_eq_false (show ¬ (i:Int)=(m:Int) by omega)]
  by_cases h2:i<m
  ·simp [h2]
  ·have h3:¬ i - m=0:=by omega
   simp [h3]
def has (s:W64) (j:Int):Bool:=s.getLsbD j.toNat
def stpK (es:List Edg) (s:W64) (x:Int):Nat→W64
 | 0=>0
 | k+1=>let e:=es.getD k (0,0,0);if e.2.1=x∧has s e.1=true then stpK es s x k ||| bit e.2.2 else stpK es s x k
def stpN (n:Nfa) (s:W64) (x:Int):W64:=stpK n.es s x n.es.length
def rowE (es:List Edg) (x q:Int):Nat→W64
 | 0=>0
 | k+1=>let e:=es.getD k (0,0,0);if e.2.1=x∧e.1=q then rowE es x q k ||| bit e.2.2 else rowE es x q k
def rowNf (n:Nfa) (x q:Int):W64:=rowE n.es x q n.es.length
theorem stpK_get {es:List Edg} {s:W64} {x:Int} {i:Nat}:∀ k,(∀ j,j<k→0≤(es.getD j (0,0,0)).2.2∧(es.getD j (0,0,0)).2.2<64)→((stpK es s x k).getLsbD i=true↔∃ j,j<k∧(es.getD j (0,0,0)).2.1=x∧has s (es.getD j (0,0,0)).1=true∧(i:Int)=(es.getD j (0,0,0)).2.2)
 | 0,_=>by simp [stpK]
 | k+1,h=>by
  have ih:=stpK_get (es:=es) (s:=s) (x:=x) (i:=i) k (fun j hj=>h j (by omega))
  show ((if _ then _ else _:W64).getLsbD i=true)↔_
  split
  ·rename_i hc
   rw [BitVec.getLsbD_or,Bool.or_eq_true,ih,bit_get (h k (by omega)),decide_eq_true_eq]
   constructor
   ·rintro (⟨j,h1,h2⟩ | h1)
    ·exact ⟨j,by omega,h2⟩
    ·exact ⟨k,by omega,hc.1,hc.2,h1⟩
   ·rintro ⟨j,h1,h2,h3,h4⟩
    by_cases e:j=k
    ·subst e;exact .inr h4
    ·exact .inl ⟨j,by omega,h2,h3,h4⟩
  ·rename_i hc
   rw [ih]
   constructor
   ·rintro ⟨j,h1,h2⟩;exact ⟨j,by omega,h2⟩
   ·rintro ⟨j,h1,h2,h3,h4⟩
    refine ⟨j,?_,h2,h3,h4⟩
    by_cases e:j=k
    ·subst e;exact absurd ⟨h2,h3⟩ hc
    ·omega
theorem rowE_get {es:List Edg} {x q:Int} {i:Nat}:∀ k,(∀ j,j<k→0≤(es.getD j (0,0,0)).2.2∧(es.getD j (0,0,0)).2.2<64)→((rowE es x q k).getLsbD i=true↔∃ j,j<k∧(es.getD j (0,0,0)).2.1=x∧(es.getD j (0,0,0)).1=q∧(i:Int)=(es.getD j (0,0,0)).2.2)
 | 0,_=>by simp [rowE]
 | k+1,h=>by
  have ih:=rowE_get (es:=es) (x:=x) (q:=q) (i:=i) k (fun j hj=>h j (by omega))
  show ((if _ then _ else _:W64).getLsbD i=true)↔_
  split
  ·rename_i hc
   rw [BitVec.getLsbD_or,Bool.or_eq_true,ih,bit_get (h k (by omega)),decide_eq_true_eq]
   constructor
   ·rintro (⟨j,h1,h2⟩ | h1)
    ·exact ⟨j,by omega,h2⟩
    ·exact ⟨k,by omega,hc.1,hc.2,h1⟩
   ·rintro ⟨j,h1,h2,h3,h4⟩
    by_cases e:j=k
    ·subst e;exact .inr h4
    ·exact .inl ⟨j,by omega,h2,h3,h4⟩
  ·rename_i hc
   rw [ih]
   constructor
   ·rintro ⟨j,h1,h2⟩;exact ⟨j,by omega,h2⟩
   ·rintro ⟨j,h1,h2,h3,h4⟩
    refine ⟨j,?_,h2,h3,h4⟩
    by_cases e:j=k
    ·subst e;exact absurd ⟨h2,h3⟩ hc
    ·omega
def imgL (r:List W64) (acc:W64):List Nat→W64
 | []=>acc
 | i :: l=>imgL r (acc ||| r.getD i 0) l
theorem imgL_get {r:List W64} {b:Nat}:∀ (l:List Nat) (acc:W64),((imgL r acc l).getLsbD b=true↔acc.getLsbD b=true∨∃ i,i∈l∧(r.getD i 0).getLsbD b=true)
 | [],acc=>by simp [imgL]
 | i :: l,acc=>by
  show (imgL r (acc ||| r.getD i 0) l).getLsbD b=true↔_
  rw [imgL_get l,BitVec.getLsbD_or,Bool.or_eq_true]
  constructor
  ·rintro ((h | h) | ⟨j,h1,h2⟩)
   ·exact .inl h
   ·exact .inr ⟨i,by simp,h⟩
   ·exact .inr ⟨j,by simp [h1],h2⟩
  ·rintro (h | ⟨j,h1,h2⟩)
   ·exact .inl (.inl h)
   ·rcases List.mem_cons.1 h1 with rfl | h1
    ·exact .inl (.inr h2)
    ·exact .inr ⟨j,h1,h2⟩
def rowsN (n:Nfa) (x:Int):List W64:=(List.range n.S.toNat).map fun (q:Nat)=>rowNf n x (q:Int)
def imgN (r:List W64) (s:W64):W64:=imgL r 0 (mems (s &&& below (r.length:Int)))
theorem img_step {n:Nfa} (hv:VN n) (s:W64) (x:Int):imgN (rowsN n x) s=stpN n s x:=by
 have hS:=hv.S
 have hlen:((rowsN n x).length:Int)=n.S:=by simp [rowsN];omega
 have hto:∀ j,j<n.es.length→0≤(n.es.getD j (0,0,0)).2.2∧(n.es.getD j (0,0,0)).2.2<64:=fun j hj=>by have:=hv.edge hj;omega
 apply BitVec.eq_of_getLsbD_eq
 intro i hi
 rw [Bool.eq_iff_iff]
 unfold imgN stpN
 rw [imgL_get,stpK_get _ hto]
 constructor
 ·rintro (h | ⟨q,h1,h2⟩)
  ·simp at h
  ·rw [mem_mems,BitVec.getLsbD_and,Bool.and_eq_true,hlen] at h1
   have hq:q<n.S.toNat:=by
    apply Classical.byContradiction
    intro hc
    have h3:=h1.2
    rcases Nat.lt_or_ge q 64 with h4 | h4
    ·rw [below_bit hS q h4] at h3
     have:=of_decide_eq_true h3
     omega
    ·rw [BitVec.getLsbD_of_ge _ _ h4] at h3;cases h3
   have e:(rowsN n x).getD q 0=rowNf n x (q:Int):=by simp [rowsN,List.getD_eq_getElem?_getD,hq]
   rw [e] at h2
   obtain ⟨j,k1,k2,k3,k4⟩:=(rowE_get _ hto).1 h2
   refine ⟨j,k1,k2,?_,k4⟩
   unfold has
   rw [k3,Int.toNat_natCast];exact h1.1
 ·rintro ⟨j,h1,h2,h3,h4⟩
  have he:=hv.edge h1
  refine .inr ⟨(n.es.getD j (0,0,0)).1.toNat,?_,?_⟩
  ·rw [mem_mems,BitVec.getLsbD_and,Bool.and_eq_true,hlen]
   refine ⟨h3,?_⟩
   rw [below_bit hS _ (by omega)]
   exact decide_eq_true (by omega)
  ·have e:∀ q:Nat,q<n.S.toNat→(rowsN n x).getD q 0=rowNf n x (q:Int):=fun q hq=>by simp [rowsN,List.getD_eq_getElem?_getD,hq]
   rw [e _ (show (n.es.getD j (0,0,0)).1.toNat<n.S.toNat by omega)]
   exact (rowE_get _ hto).2 ⟨j,h1,h2,by omega,h4⟩
end Go.Sx
namespace Go.Sx
open Go.RowKit
abbrev iv (n:Int):Value:=.int .i64 n
def eqE3B (P:Program) (t:TypeId):Bool:=match P.underlying t with
 | some (.struct fs)=>match fs.toList with
  | [f0,f1,f2]=>(match P.underlying f0.type with | some (.int .i64)=>true | _=>false) && (match P.underlying f1.type with | some (.int .i64)=>true | _=>false) && (match P.underlying f2.type with | some (.int .i64)=>true | _=>false) && f0.offset == 0 && f1.offset == 1 && f2.offset == 2 && f0.name != "_" && f1.name != "_" && f2.name != "_" && !P.stoodInHeld t && !P.eqGuardType P.depth t
  | _=>false
 | _=>false
theorem eqE3_of {P:Program} {t:TypeId} (h:eqE3B P t=true):P.eqGuardType P.depth t=false∧∀ (a b:Edg) (w:World),(Op.equalIn 10000 t (ev a) (ev b)).run P w = .ok (decide (a=b)) w:=by
 unfold eqE3B at h
 split at h
 case h_2=>cases h
 rename_i fs hu
 split at h
 case h_2=>cases h
 rename_i f0 f1 f2 hf
 simp only [Bool.and_eq_true,beq_iff_eq,bne_iff_ne,Bool.not_eq_true'] at h
 obtain ⟨⟨⟨⟨⟨⟨⟨⟨⟨⟨h0,h1⟩,h2⟩,o0⟩,o1⟩,o2⟩,n0⟩,n1⟩,n2⟩,hp⟩,hg⟩:=h
 split at h0
 case h_2=>cases h0
 rename_i u0
 split at h1
 case h_2=>cases h1
 rename_i u1
 split at h2
 case h_2=>cases h2
 rename_i u2
 refine ⟨hg,fun a b w=>?_⟩
 have hfs:P.fieldsOf t=fs:=by unfold Program.fieldsOf;rw [hu]
 have hu2:P.underlying t=some (.struct (P.fieldsOf t)):=by rw [hfs];exact hu
 rw [show ev a = .agg #[iv a.1,iv a.2.1,iv a.2.2] from rfl,show ev b = .agg #[iv b.1,iv b.2.1,iv b.2.2] from rfl,run_equalIn_struct w 9999 t _ _ hu2 hp,hfs,hf]
 have p:∀ (f:Field) (cs:Array Value) (v:Value) (w:World),P.underlying f.type=some (.int .i64)→cs[f.offset]? = some v→(part f.type cs f.offset).run P w = .ok v w:=fun f cs v w hs hv=>by
  simp [part,isAgg,run_underlying hs,hv]
 have q:∀ (d:Nat) (f:Field) (u v:Int) (w:World),P.underlying f.type=some (.int .i64)→(Op.equalIn (d+1) f.type (iv u) (iv v)).run P w = .ok (decide (u=v)) w:=fun d f u v w hs=>by
  unfold iv
  rw [run_equalIn_int w d f.type _ _ _ _ hs]
  rfl
 obtain ⟨a1,a2,a3⟩:=a
 obtain ⟨b1,b2,b3⟩:=b
 simp only [Op.eqFields,n0,n1,n2,ne_eq,not_false_eq_true,if_true,Sem.run_bind]
 rw [p f0 _ (iv a1) w u0 (by rw [o0];rfl)]
 simp only [Result.andThen_ok]
 rw [p f0 _ (iv b1) w u0 (by rw [o0];rfl)]
 simp only [Result.andThen_ok,q 9998 f0 _ _ _ u0]
 by_cases e1:a1=b1
 ·rw [decide_eq_true e1]
  simp only [Bool.not_true,Bool.false_eq_true,if_false,Sem.run_bind]
  rw [p f1 _ (iv a2) w u1 (by rw [o1];rfl)]
  simp only [Result.andThen_ok]
  rw [p f1 _ (iv b2) w u1 (by rw [o1];rfl)]
  simp only [Result.andThen_ok,q 9998 f1 _ _ _ u1]
  by_cases e2:a2=b2
  ·rw [decide_eq_true e2]
   simp only [Bool.not_true,Bool.false_eq_true,if_false,Sem.run_bind]
   rw [p f2 _ (iv a3) w u2 (by rw [o2];rfl)]
   simp only [Result.andThen_ok]
   rw [p f2 _ (iv b3) w u2 (by rw [o2];rfl)]
   simp only [Result.andThen_ok,q 9998 f2 _ _ _ u2]
   by_cases e3:a3=b3
   ·rw [decide_eq_true e3]
    simp [e1,e2,e3]
   ·rw [decide_eq_false e3]
    simp [e3]
  ·rw [decide_eq_false e2]
   simp [e2]
 ·rw [decide_eq_false e1]
  simp [e1]
section
variable {C : Cx} {sl : List (Nat × Value)} {own : List Asn} {dst : Option Nat} {ty : TypeId} {pos : String} {aft : Array Edge} {g : Option (Nat × Bool)}
theorem Yl.eqlE {x y:Operand} {t t':TypeId} {a b:Edg} (ht:eqE3B C.P t=true) (hx:opv ⟨sl,own⟩ x=some (ev a)) (hy:opv ⟨sl,own⟩ y=some (ev b)) :
  Yl C ⟨sl,own⟩ ⟨dst,.binOp .eql t x y t',ty,pos,aft,g⟩ (.bool (decide (a=b))):=fun act w hs=>by
 obtain ⟨hg,hE⟩:=eqE3_of ht
 simp only [execOp,opv_eval hs hx,opv_eval hs hy]
 have h1:=run_eqGuard_agg (P:=C.P) w .eql t x y #[iv a.1,iv a.2.1,iv a.2.2] #[iv b.1,iv b.2.1,iv b.2.2] hg
 have h2:=run_eql_struct (P:=C.P) w t #[iv a.1,iv a.2.1,iv a.2.2] #[iv b.1,iv b.2.1,iv b.2.2]
 have h3:=hE a b w
 simp only [ev] at h3 ⊢
 rw [h3] at h2
 simp [h1,h2]
end
section
variable {C : Cx} {sl : List (Nat × Value)} {own : List Asn} {dst : Option Nat} {ty : TypeId} {pos : String} {aft : Array Edge} {g : Option (Nat × Bool)}
theorem Yl.loadEd {x:Operand} {t:TypeId} {v:Value} {n j:Nat} {ps:List Edg} (ht:AggT C.P t 3) (hx:opv ⟨sl,own⟩ x=some (.pointer (some ((slA v).add (j * 3)))))
  (hr:RdS C own v 3 n (edc ps)) (hj:j<ps.length):Yl C ⟨sl,own⟩ ⟨dst,.load t x,ty,pos,aft,g⟩ (ev (ps.getD j (0,0,0))):=fun a w hs=>by
 have hn:n=ps.length:=by obtain ⟨_,_,_,_,h,_⟩:=hr w hs.world;rw [edc_length] at h;omega
 have:=Yl.loadG (dst:=dst) (ty:=ty) (pos:=pos) (aft:=aft) (g:=g) ht hx hr (by omega) a w hs
 rw [edc_at ps j hj] at this
 exact this
theorem Yl.loadBoxE {x:Operand} {t b:Nat} {c:Edg} (ht:AggT C.P t 3) (hx:opv ⟨sl,own⟩ x=some (.pointer (some ⟨b,0,none⟩))) (hb:BoxS C own b (ecs c)) :
 Yl C ⟨sl,own⟩ ⟨dst,.load t x,ty,pos,aft,g⟩ (ev c):=Yl.loadBoxG ht hx hb rfl rfl
theorem Yl.loadU {x:Operand} {t:TypeId} {v:Value} {n j:Nat} {xs:List W64} (ht:OneT C.P t) (hx:opv ⟨sl,own⟩ x=some (.pointer (some ((slA v).add (j * 1)))))
 (hr:RdS C own v 1 n (xs.map uv)) (hj:j<xs.length):Yl C ⟨sl,own⟩ ⟨dst,.load t x,ty,pos,aft,g⟩ (uv (xs.getD j 0)):=Yl.load ht hx hr rfl 0 hj
end
section
variable {C : Cx} {sl : List (Nat × Value)} {own : List Asn} {dst : Option Nat} {ty : TypeId} {pos : String} {aft : Array Edge} {g : Option (Nat × Bool)}
theorem Yl.min3 {x y z:Operand} {t t' t'':TypeId} {k:IntKind} {l m n:Int} (hx:opv ⟨sl,own⟩ x=some (.int k l)) (hy:opv ⟨sl,own⟩ y=some (.int k m)) (hz:opv ⟨sl,own⟩ z=some (.int k n)) :
  Yl C ⟨sl,own⟩ ⟨dst,.call ⟨.builtin .min,#[x,y,z],#[t,t',t'']⟩,ty,pos,aft,g⟩ (.int k (Min.min (Min.min l m) n)):=
 fun a w hs=>by
  simp [execOp,resolve,invoke,builtin,opv_eval hs hx,opv_eval hs hy,opv_eval hs hz,Builtin.min_,Builtin.min2]
  repeat' split
  all_goals omega
end
theorem ext_n {P:Nat→Prop} {n:Nat} (h:∀ j,j<n→P j) (hn:P n):∀ j,j<n+1→P j:=fun j hj=>by
 rcases Nat.lt_or_eq_of_le (Nat.le_of_lt_succ hj) with h1 | rfl
 ·exact h j h1
 ·exact hn
def cmpI (x y:Int):Int:=if x<y then -1 else if y<x then 1 else 0
def orI:List Int→Int
 | []=>0
 | x :: l=>if x ≠ 0 then x else orI l
def cmpE (a b:Edg):Int:=orI [cmpI a.1 b.1,cmpI a.2.1 b.2.1,cmpI a.2.2 b.2.2]
theorem orI_drop {xs:List Int} {k:Nat} (hk:k<xs.length) (h:xs.getD k 0=0):orI (xs.drop k)=orI (xs.drop (k+1)):=by
 have e:xs.drop k=xs.getD k 0 :: xs.drop (k+1):=by
  rw [List.drop_eq_getElem_cons hk];simp [List.getD_eq_getElem?_getD,hk]
 rw [e,h];rfl
theorem orI_hit {xs:List Int} {k:Nat} (hk:k<xs.length) (h:¬ xs.getD k 0=0):orI (xs.drop k)=xs.getD k 0:=by
 have e:xs.drop k=xs.getD k 0 :: xs.drop (k+1):=by
  rw [List.drop_eq_getElem_cons hk];simp [List.getD_eq_getElem?_getD,hk]
 rw [e];exact if_pos h
theorem orI_end {xs:List Int} {k:Nat} (hk:xs.length≤k):orI (xs.drop k)=0:=by rw [List.drop_eq_nil_of_le hk];rfl
theorem bef_iff {a b:Edg}:bef a b=true↔¬ (a=b∨0<cmpE a b):=by
 obtain ⟨a1,a2,a3⟩:=a
 obtain ⟨b1,b2,b3⟩:=b
 unfold bef cmpE cmpI orI
 simp only [Prod.mk.injEq,ne_eq]
 by_cases h1:a1=b1
 ·subst h1
  by_cases h2:a2=b2
  ·subst h2
   by_cases h3:a3=b3
   ·subst h3;simp
   ·by_cases h4:a3<b3
    ·simp [h3,h4,orI]
    ·have h5:b3<a3:=by omega
     simp [h3,h4,h5,orI]
  ·by_cases h4:a2<b2
   ·simp [h2,h4,orI]
   ·have h5:b2<a2:=by omega
    simp [h2,h4,h5,orI]
 ·by_cases h4:a1<b1
  ·simp [h1,h4,orI]
  ·have h5:b1<a1:=by omega
   simp [h1,h4,h5,orI]
end Go.Sx
namespace Go.Sx
open Go.RowKit
def TbA (w:World):Prop:=∀ j,j<64→w.cell? ⟨0,j,none⟩ = some (.int .u8 ((Lib.deBruijn64tab.getD j 0:Nat):Int))
theorem TbA.lt {w:World} (h:TbA w):0<w.heap.size:=by
 have hm:=h 0 (by omega)
 unfold World.cell? at hm
 rcases Nat.lt_or_ge 0 w.heap.size with k | k
 ·exact k
 ·rw [Array.getElem?_eq_none (by simpa using k)] at hm;simp at hm
theorem TbA.fr {S:Nat→Prop} {w w':World} (h:TbA w) (hf:FrameX S w w') (hS:¬ S 0):TbA w':=fun j hj=>by
 rw [World.cell?_of_block (hf.block 0 h.lt hS)];exact h j hj
theorem TbA.at {C:Cx} {own:List Asn} {w:World} (h:TbA C.W0) (hw:HW C own w) (hS:¬ C.S 0:=by exact fun h=>h):TbA w:=h.fr hw.frame hS
section
variable {C : Cx} {sl : List (Nat × Value)} {own : List Asn} {dst : Option Nat} {ty : TypeId} {pos : String} {aft : Array Edge} {g : Option (Nat × Bool)}
theorem Yl.negU {x:Operand} {t t':TypeId} {a:W64} (hx:opv ⟨sl,own⟩ x=some (uv a)):Yl C ⟨sl,own⟩ ⟨dst,.unOp .neg t x,t',pos,aft,g⟩ (uv (-a)):=
 fun act w hs=>by
  have h3:IntKind.u64.wrap (-(a.toNat:Int))=((-a).toNat:Int):=by
   have h1:=a.isLt
   have h4:IntKind.u64.wrap (-(a.toNat:Int))=(-(a.toNat:Int)) % 2 ^ 64:=by simp [IntKind.wrap,IntKind.bits,IntKind.signed]
   rw [h4,BitVec.toNat_neg]
   omega
  simp only [execOp,opv_eval hs hx,uv]
  simp [go_sem,h3,-BitVec.toNat_neg]
theorem Yl.mulU {x y:Operand} {t t':TypeId} {a b:W64} (hx:opv ⟨sl,own⟩ x=some (uv a)) (hy:opv ⟨sl,own⟩ y=some (uv b)):Yl C ⟨sl,own⟩ ⟨dst,.binOp .mul t x y t',ty,pos,aft,g⟩ (uv (a * b)):=
 fun act w hs=>by
  have h3:IntKind.u64.wrap ((a.toNat:Int) * b.toNat)=((a * b).toNat:Int):=by
   rw [BitVec.toNat_mul,← wrap_u64n];simp
  simp only [execOp,opv_eval hs hx,opv_eval hs hy,uv]
  simp [go_sem,Op.intArith,h3,-BitVec.toNat_mul]
theorem Yl.idxArrU {x i:Operand} {t e n sz b off:Nat} {q:IntKind} {k:Nat} (ht:ArrT C.P t e n sz) (hx:opv ⟨sl,own⟩ x=some (.pointer (some ⟨b,off,none⟩))) (hi:opv ⟨sl,own⟩ i=some (.int q (k:Int))) (hk:k<n) :
  Yl C ⟨sl,own⟩ ⟨dst,.indexAddr t x i,ty,pos,aft,g⟩ (.pointer (some ⟨b,off+k * sz,none⟩)):=
 fun a w hs=>by
  have hs1:=run_sizeOf_of ht.2 w
  simp only [execOp,opv_eval hs hx,opv_eval hs hi,Instr.indexAt,asIntOf,Sem.run_bind,Sem.run_pure,Result.andThen_ok,run_underlying ht.1,Instr.sureAddr]
  simp [hk,hs1,run_underlying ht.1,Addr.add_lit]
theorem Yl.loadTb {x:Operand} {t:TypeId} {k:Nat} (ht:OneT C.P t) (hx:opv ⟨sl,own⟩ x=some (.pointer (some ⟨0,k,none⟩))) (hk:k<64) (h:TbA C.W0) (hS:¬ C.S 0:=by exact fun h=>h) :
  Yl C ⟨sl,own⟩ ⟨dst,.load t x,ty,pos,aft,g⟩ (.int .u8 ((Lib.deBruijn64tab.getD k 0:Nat):Int)):=
 fun a w hs=>by
  have h1:=(h.at hs.world hS) k hk
  simp [execOp,opv_eval hs hx,Instr.loadAt,Instr.sureAddr,run_loadVar_one ht h1]
end
theorem tz_key {s:W64} (h:s ≠ 0):∃ k:Nat,k<64∧((s &&& -s) * 285870213051353865) >>> 58=BitVec.ofNat 64 k∧Lib.deBruijn64tab.getD k 0=Lib.ctz 64 s.toNat:=by
 have h0:s.toNat ≠ 0:=fun e=>h (BitVec.eq_of_toNat_eq (by rw [e];rfl))
 obtain ⟨hlow,hk⟩:=Lib.lowest_bit 64 s.toNat h0 s.isLt
 obtain ⟨hi,htab⟩:=Lib.deBruijn64_at _ hk
 refine ⟨_,hi,?_,htab⟩
 apply BitVec.eq_of_toNat_eq
 have e1:(s &&& -s).toNat=2 ^ Lib.ctz 64 s.toNat:=by
  rw [BitVec.toNat_and,BitVec.toNat_neg,← hlow]
  congr 1
  have:=s.isLt
  omega
 rw [BitVec.toNat_ushiftRight,BitVec.toNat_mul,e1,BitVec.toNat_ofNat,Nat.shiftRight_eq_div_pow]
 have e2:(285870213051353865:W64).toNat=285870213051353865:=by decide
 rw [e2]
 have e3:(2:Nat) ^ 58=288230376151711744:=by decide
 have e4:(2:Nat) ^ 64=18446744073709551616:=by decide
 rw [e3,e4]
 omega
theorem uv_nat {k:Nat} (h:k<64):uv (BitVec.ofNat 64 k) = .int .u64 (k:Int):=by
 unfold uv
 rw [BitVec.toNat_ofNat,Nat.mod_eq_of_lt (by omega)]
end Go.Sx
namespace Go.Sx
open Go.ChangeShapes Go.WideShapes Go.ChangeAt Go.RowKit
end Go.Sx
namespace Go.Sx
open Go.ChangeShapes Go.WideShapes Go.ChangeAt Go.RowKit
section
variable {H : Type} {enc : TypeId × Value → H} {P : Program} {W : World}
end
end Go.Sx
namespace Go.Sx
open Go.ChangeShapes Go.WideShapes Go.ChangeAt Go.RowKit
variable {H : Type} {enc : TypeId × Value → H} {P : Program} {W : World}
end Go.Sx
namespace Go.Proofs.YtbibnpdnmmgacaaGreatDoor
open Go.ChangeShapes Go.WideShapes Go.ChangeAt Go.RowKit Go.Sx
theorem ownK:ownKnob Tryz.prog.godebug=none:=by kernel_rfl
theorem laidOut:laidOutB Tryz.prog=true:=by kernel_rfl
def laidT:List (String × DataW Unit):=[("math/bits.deBruijn64tab",Rows.laid_math_bits_deBruijn64tab)]
theorem gTab:Tryz.prog.globalNamed "math/bits.deBruijn64tab" = some 0:=by kernel_rfl
theorem door_met (os:Os) (args:Array Value):laidMetH Tryz.prog laidT ((World.doorLaid Tryz.prog 400 os).forCall (fun _ _=>0) ⟨#[],args,[]⟩).memory:=
 laidMetH_of_parts3 (fuel:=8) (laidMet_of_run' 8 (by kernel_rfl) (by kernel_rfl)) (by kernel_rfl) (by kernel_rfl)
theorem laidT_is:laidT=[("math/bits.deBruijn64tab",Lib.tabData .u8 (Lib.deBruijn64tab.map fun n:Nat=>(n:Int)))]:=rfl
theorem of_laid {W:World} (h:laidMetH Tryz.prog laidT W):TbA W:=by
 rw [MakeChecks.laidMetH_plain _ _ _ (by kernel_rfl),laidT_is] at h
 have h1:=Lib.tabIs_of_head (n:=64) gTab (t:=197) (e:=5) (by kernel_rfl) (by kernel_rfl) (by kernel_rfl) (by kernel_rfl) (by kernel_rfl) h
 intro j hj
 have h2:=h1.cell gTab j (by simpa [Lib.deBruijn64tab] using hj)
 rw [h2]
 congr 2
 simp only [List.getD_eq_getElem?_getD,List.getElem?_map]
 cases Lib.deBruijn64tab[j]? <;> rfl
end Go.Proofs.YtbibnpdnmmgacaaGreatDoor
namespace Go.Proofs.YtbibnpdnmmgacaaGreatDoor
open Go.Sx
theorem sz1:(Tryz.prog.info? 1).map (·.size)=some 1:=by kernel_rfl
theorem sz2:(Tryz.prog.info? 2).map (·.size)=some 1:=by kernel_rfl
theorem el3:ElT Tryz.prog 3 (.int .i64 0) 1 8:=by unfold ElT;kernel_rfl
theorem sz3:(Tryz.prog.info? 3).map (·.size)=some 1:=by kernel_rfl
theorem on3:OneT Tryz.prog 3:=by unfold OneT;kernel_rfl
theorem un3:Tryz.prog.underlying 3=some (.int .i64):=by kernel_rfl
theorem el4:ElT Tryz.prog 4 (.bool false) 1 1:=by unfold ElT;kernel_rfl
theorem sz4:(Tryz.prog.info? 4).map (·.size)=some 1:=by kernel_rfl
theorem on4:OneT Tryz.prog 4:=by unfold OneT;kernel_rfl
theorem bo4:Tryz.prog.underlying 4=some .bool:=by kernel_rfl
theorem el5:ElT Tryz.prog 5 (.int .u8 0) 1 1:=by unfold ElT;kernel_rfl
theorem on5:OneT Tryz.prog 5:=by unfold OneT;kernel_rfl
theorem un5:Tryz.prog.underlying 5=some (.int .u8):=by kernel_rfl
theorem on9:OneT Tryz.prog 9:=by unfold OneT;kernel_rfl
theorem un9:Tryz.prog.underlying 9=some .string:=by kernel_rfl
theorem sl22:SlT Tryz.prog 22 24 3:=⟨by kernel_rfl,by kernel_rfl⟩
theorem sz22:(Tryz.prog.info? 22).map (·.size)=some 1:=by kernel_rfl
theorem on22:OneT Tryz.prog 22:=by unfold OneT;kernel_rfl
theorem el24:ElT Tryz.prog 24 (.agg #[(.int .i64 0),(.int .i64 0),(.slice none 0 0)]) 3 40:=by unfold ElT;kernel_rfl
theorem sz24:(Tryz.prog.info? 24).map (·.size)=some 3:=by kernel_rfl
theorem ag24:AggT Tryz.prog 24 3:=⟨by kernel_rfl,by kernel_rfl⟩
theorem fd24_0:FldT Tryz.prog 24 0 0:=FldT.of (by kernel_rfl)
theorem fd24_1:FldT Tryz.prog 24 1 1:=FldT.of (by kernel_rfl)
theorem fd24_2:FldT Tryz.prog 24 2 2:=FldT.of (by kernel_rfl)
theorem sl29:SlT Tryz.prog 29 4 1:=⟨by kernel_rfl,by kernel_rfl⟩
theorem sz29:(Tryz.prog.info? 29).map (·.size)=some 1:=by kernel_rfl
theorem on29:OneT Tryz.prog 29:=by unfold OneT;kernel_rfl
theorem sl30:SlT Tryz.prog 30 67 1:=⟨by kernel_rfl,by kernel_rfl⟩
theorem sz30:(Tryz.prog.info? 30).map (·.size)=some 1:=by kernel_rfl
theorem on30:OneT Tryz.prog 30:=by unfold OneT;kernel_rfl
theorem el32:ElT Tryz.prog 32 (.agg #[(.int .i64 0),(.int .i64 0),(.slice none 0 0),(.slice none 0 0)]) 4 64:=by unfold ElT;kernel_rfl
theorem sz32:(Tryz.prog.info? 32).map (·.size)=some 4:=by kernel_rfl
theorem ag32:AggT Tryz.prog 32 4:=⟨by kernel_rfl,by kernel_rfl⟩
theorem fd32_0:FldT Tryz.prog 32 0 0:=FldT.of (by kernel_rfl)
theorem fd32_1:FldT Tryz.prog 32 1 1:=FldT.of (by kernel_rfl)
theorem fd32_2:FldT Tryz.prog 32 2 2:=FldT.of (by kernel_rfl)
theorem fd32_3:FldT Tryz.prog 32 3 3:=FldT.of (by kernel_rfl)
theorem el42:ElT Tryz.prog 42 (.int .u64 0) 1 8:=by unfold ElT;kernel_rfl
theorem sz42:(Tryz.prog.info? 42).map (·.size)=some 1:=by kernel_rfl
theorem on42:OneT Tryz.prog 42:=by unfold OneT;kernel_rfl
theorem sl43:SlT Tryz.prog 43 98 3:=⟨by kernel_rfl,by kernel_rfl⟩
theorem sz43:(Tryz.prog.info? 43).map (·.size)=some 1:=by kernel_rfl
theorem on43:OneT Tryz.prog 43:=by unfold OneT;kernel_rfl
theorem el45:ElT Tryz.prog 45 (.agg #[(.int .i64 0),(.int .i64 0),(.int .u64 0),(.int .u64 0),(.slice none 0 0)]) 5 56:=by unfold ElT;kernel_rfl
theorem sz45:(Tryz.prog.info? 45).map (·.size)=some 5:=by kernel_rfl
theorem ag45:AggT Tryz.prog 45 5:=⟨by kernel_rfl,by kernel_rfl⟩
theorem fd45_0:FldT Tryz.prog 45 0 0:=FldT.of (by kernel_rfl)
theorem fd45_1:FldT Tryz.prog 45 1 1:=FldT.of (by kernel_rfl)
theorem fd45_2:FldT Tryz.prog 45 2 2:=FldT.of (by kernel_rfl)
theorem fd45_3:FldT Tryz.prog 45 3 3:=FldT.of (by kernel_rfl)
theorem fd45_4:FldT Tryz.prog 45 4 4:=FldT.of (by kernel_rfl)
theorem sl64:SlT Tryz.prog 64 42 1:=⟨by kernel_rfl,by kernel_rfl⟩
theorem el64:ElT Tryz.prog 64 (.slice none 0 0) 1 24:=by unfold ElT;kernel_rfl
theorem sz64:(Tryz.prog.info? 64).map (·.size)=some 1:=by kernel_rfl
theorem on64:OneT Tryz.prog 64:=by unfold OneT;kernel_rfl
theorem sl67:SlT Tryz.prog 67 3 1:=⟨by kernel_rfl,by kernel_rfl⟩
theorem el67:ElT Tryz.prog 67 (.slice none 0 0) 1 24:=by unfold ElT;kernel_rfl
theorem sz67:(Tryz.prog.info? 67).map (·.size)=some 1:=by kernel_rfl
theorem on67:OneT Tryz.prog 67:=by unfold OneT;kernel_rfl
theorem el75:ElT Tryz.prog 75 (.agg #[(.string ByteArray.empty)]) 1 16:=by unfold ElT;kernel_rfl
theorem sz75:(Tryz.prog.info? 75).map (·.size)=some 1:=by kernel_rfl
theorem ag75:AggT Tryz.prog 75 1:=⟨by kernel_rfl,by kernel_rfl⟩
theorem fd75_0:FldT Tryz.prog 75 0 0:=FldT.of (by kernel_rfl)
theorem sl76:SlT Tryz.prog 76 42 1:=⟨by kernel_rfl,by kernel_rfl⟩
theorem el76:ElT Tryz.prog 76 (.slice none 0 0) 1 24:=by unfold ElT;kernel_rfl
theorem sz76:(Tryz.prog.info? 76).map (·.size)=some 1:=by kernel_rfl
theorem on76:OneT Tryz.prog 76:=by unfold OneT;kernel_rfl
theorem sl79:SlT Tryz.prog 79 76 1:=⟨by kernel_rfl,by kernel_rfl⟩
theorem el79:ElT Tryz.prog 79 (.slice none 0 0) 1 24:=by unfold ElT;kernel_rfl
theorem sz79:(Tryz.prog.info? 79).map (·.size)=some 1:=by kernel_rfl
theorem on79:OneT Tryz.prog 79:=by unfold OneT;kernel_rfl
theorem el92:ElT Tryz.prog 92 (.agg #[(.int .i64 0),(.slice none 0 0)]) 2 32:=by unfold ElT;kernel_rfl
theorem sz92:(Tryz.prog.info? 92).map (·.size)=some 2:=by kernel_rfl
theorem fd92_0:FldT Tryz.prog 92 0 0:=FldT.of (by kernel_rfl)
theorem fd92_1:FldT Tryz.prog 92 1 1:=FldT.of (by kernel_rfl)
theorem el94:ElT Tryz.prog 94 (.agg #[(.int .u64 0),(.int .u64 0),(.bool false)]) 3 24:=by unfold ElT;kernel_rfl
theorem sz94:(Tryz.prog.info? 94).map (·.size)=some 3:=by kernel_rfl
theorem ag94:AggT Tryz.prog 94 3:=⟨by kernel_rfl,by kernel_rfl⟩
theorem fd94_0:FldT Tryz.prog 94 0 0:=FldT.of (by kernel_rfl)
theorem fd94_1:FldT Tryz.prog 94 1 1:=FldT.of (by kernel_rfl)
theorem fd94_2:FldT Tryz.prog 94 2 2:=FldT.of (by kernel_rfl)
theorem el98:ElT Tryz.prog 98 (.agg #[(.int .i64 0),(.int .i64 0),(.int .i64 0)]) 3 24:=by unfold ElT;kernel_rfl
theorem sz98:(Tryz.prog.info? 98).map (·.size)=some 3:=by kernel_rfl
theorem ag98:AggT Tryz.prog 98 3:=⟨by kernel_rfl,by kernel_rfl⟩
theorem fd98_0:FldT Tryz.prog 98 0 0:=FldT.of (by kernel_rfl)
theorem fd98_1:FldT Tryz.prog 98 1 1:=FldT.of (by kernel_rfl)
theorem fd98_2:FldT Tryz.prog 98 2 2:=FldT.of (by kernel_rfl)
theorem sl102:SlT Tryz.prog 102 64 1:=⟨by kernel_rfl,by kernel_rfl⟩
theorem un130:Tryz.prog.underlying 130=some (.int .u64):=by kernel_rfl
theorem on133:OneT Tryz.prog 133:=by unfold OneT;kernel_rfl
theorem mp133:Tryz.prog.underlying 133=some (.map 9 3):=by kernel_rfl
theorem fd135_0:FldT Tryz.prog 135 0 0:=FldT.of (by kernel_rfl)
theorem fd135_1:FldT Tryz.prog 135 1 1:=FldT.of (by kernel_rfl)
theorem fd135_2:FldT Tryz.prog 135 2 2:=FldT.of (by kernel_rfl)
theorem fd135_3:FldT Tryz.prog 135 3 3:=FldT.of (by kernel_rfl)
theorem fd137_0:FldT Tryz.prog 137 0 0:=FldT.of (by kernel_rfl)
theorem fd137_1:FldT Tryz.prog 137 1 4:=FldT.of (by kernel_rfl)
theorem el142:ElT Tryz.prog 142 (.agg #[(.int .i64 0),(.int .i64 0),(.slice none 0 0),(.int .i64 0),(.int .i64 0),(.slice none 0 0),(.bool false)]) 7 88:=by unfold ElT;kernel_rfl
theorem sz142:(Tryz.prog.info? 142).map (·.size)=some 7:=by kernel_rfl
theorem ag142:AggT Tryz.prog 142 7:=⟨by kernel_rfl,by kernel_rfl⟩
theorem fd142_0:FldT Tryz.prog 142 0 0:=FldT.of (by kernel_rfl)
theorem fd142_1:FldT Tryz.prog 142 1 3:=FldT.of (by kernel_rfl)
theorem fd142_2:FldT Tryz.prog 142 2 6:=FldT.of (by kernel_rfl)
theorem ag144:AggT Tryz.prog 144 2:=⟨by kernel_rfl,by kernel_rfl⟩
theorem fd144_0:FldT Tryz.prog 144 0 0:=FldT.of (by kernel_rfl)
theorem fd144_1:FldT Tryz.prog 144 1 1:=FldT.of (by kernel_rfl)
theorem sl184:SlT Tryz.prog 184 5 1:=⟨by kernel_rfl,by kernel_rfl⟩
theorem sz184:(Tryz.prog.info? 184).map (·.size)=some 1:=by kernel_rfl
theorem on184:OneT Tryz.prog 184:=by unfold OneT;kernel_rfl
theorem sz189:(Tryz.prog.info? 189).map (·.size)=some 1:=by kernel_rfl
theorem on189:OneT Tryz.prog 189:=by unfold OneT;kernel_rfl
theorem el191:ElT Tryz.prog 191 (.agg #[(.pointer none),(.slice none 0 0)]) 2 32:=by unfold ElT;kernel_rfl
theorem fd191_0:FldT Tryz.prog 191 0 0:=FldT.of (by kernel_rfl)
theorem fd191_1:FldT Tryz.prog 191 1 1:=FldT.of (by kernel_rfl)
theorem mp194:Tryz.prog.underlying 194=some (.map 196 3):=by kernel_rfl
theorem el196:ElT Tryz.prog 196 (.agg #[(.int .i64 0),(.int .i64 0),(.int .i64 0),(.int .i64 0),(.int .i64 0),(.int .i64 0),(.int .i64 0)]) 7 56:=by unfold ElT;kernel_rfl
theorem sz196:(Tryz.prog.info? 196).map (·.size)=some 7:=by kernel_rfl
theorem ag196:AggT Tryz.prog 196 7:=⟨by kernel_rfl,by kernel_rfl⟩
theorem ar196:ArrT Tryz.prog 196 3 7 1:=⟨by kernel_rfl,by kernel_rfl⟩
theorem ar197:ArrT Tryz.prog 197 5 64 1:=⟨by kernel_rfl,by kernel_rfl⟩
theorem sz211:(Tryz.prog.info? 211).map (·.size)=some 1:=by kernel_rfl
theorem on211:OneT Tryz.prog 211:=by unfold OneT;kernel_rfl
theorem mp211:Tryz.prog.underlying 211=some (.map 3 3):=by kernel_rfl
theorem el213:ElT Tryz.prog 213 (.agg #[(.slice none 0 0),(.map none)]) 2 32:=by unfold ElT;kernel_rfl
theorem fd213_0:FldT Tryz.prog 213 0 0:=FldT.of (by kernel_rfl)
theorem fd213_1:FldT Tryz.prog 213 1 1:=FldT.of (by kernel_rfl)
theorem co7:CallOk Tryz.prog 7:=by unfold CallOk;kernel_rfl
theorem co8:CallOk Tryz.prog 8:=by unfold CallOk;kernel_rfl
theorem co9:CallOk Tryz.prog 9:=by unfold CallOk;kernel_rfl
theorem co10:CallOk Tryz.prog 10:=by unfold CallOk;kernel_rfl
theorem co11:CallOk Tryz.prog 11:=by unfold CallOk;kernel_rfl
theorem co12:CallOk Tryz.prog 12:=by unfold CallOk;kernel_rfl
theorem co13:CallOk Tryz.prog 13:=by unfold CallOk;kernel_rfl
theorem co14:CallOk Tryz.prog 14:=by unfold CallOk;kernel_rfl
theorem co15:CallOk Tryz.prog 15:=by unfold CallOk;kernel_rfl
theorem co16:CallOk Tryz.prog 16:=by unfold CallOk;kernel_rfl
theorem co17:CallOk Tryz.prog 17:=by unfold CallOk;kernel_rfl
theorem co18:CallOk Tryz.prog 18:=by unfold CallOk;kernel_rfl
theorem co20:CallOk Tryz.prog 20:=by unfold CallOk;kernel_rfl
theorem co23:CallOk Tryz.prog 23:=by unfold CallOk;kernel_rfl
theorem co33:CallOk Tryz.prog 33:=by unfold CallOk;kernel_rfl
theorem co34:CallOk Tryz.prog 34:=by unfold CallOk;kernel_rfl
theorem co35:CallOk Tryz.prog 35:=by unfold CallOk;kernel_rfl
theorem co36:CallOk Tryz.prog 36:=by unfold CallOk;kernel_rfl
theorem co37:CallOk Tryz.prog 37:=by unfold CallOk;kernel_rfl
theorem co38:CallOk Tryz.prog 38:=by unfold CallOk;kernel_rfl
theorem co39:CallOk Tryz.prog 39:=by unfold CallOk;kernel_rfl
theorem co40:CallOk Tryz.prog 40:=by unfold CallOk;kernel_rfl
theorem co41:CallOk Tryz.prog 41:=by unfold CallOk;kernel_rfl
theorem co42:CallOk Tryz.prog 42:=by unfold CallOk;kernel_rfl
theorem co43:CallOk Tryz.prog 43:=by unfold CallOk;kernel_rfl
theorem co44:CallOk Tryz.prog 44:=by unfold CallOk;kernel_rfl
theorem co45:CallOk Tryz.prog 45:=by unfold CallOk;kernel_rfl
theorem co46:CallOk Tryz.prog 46:=by unfold CallOk;kernel_rfl
theorem co47:CallOk Tryz.prog 47:=by unfold CallOk;kernel_rfl
theorem co48:CallOk Tryz.prog 48:=by unfold CallOk;kernel_rfl
theorem co49:CallOk Tryz.prog 49:=by unfold CallOk;kernel_rfl
theorem co50:CallOk Tryz.prog 50:=by unfold CallOk;kernel_rfl
theorem co51:CallOk Tryz.prog 51:=by unfold CallOk;kernel_rfl
theorem co52:CallOk Tryz.prog 52:=by unfold CallOk;kernel_rfl
theorem co53:CallOk Tryz.prog 53:=by unfold CallOk;kernel_rfl
theorem co54:CallOk Tryz.prog 54:=by unfold CallOk;kernel_rfl
theorem co55:CallOk Tryz.prog 55:=by unfold CallOk;kernel_rfl
theorem co56:CallOk Tryz.prog 56:=by unfold CallOk;kernel_rfl
theorem co57:CallOk Tryz.prog 57:=by unfold CallOk;kernel_rfl
theorem co58:CallOk Tryz.prog 58:=by unfold CallOk;kernel_rfl
theorem co59:CallOk Tryz.prog 59:=by unfold CallOk;kernel_rfl
theorem co60:CallOk Tryz.prog 60:=by unfold CallOk;kernel_rfl
theorem co61:CallOk Tryz.prog 61:=by unfold CallOk;kernel_rfl
theorem co74:CallOk Tryz.prog 74:=by unfold CallOk;kernel_rfl
theorem co78:CallOk Tryz.prog 78:=by unfold CallOk;kernel_rfl
theorem co80:CallOk Tryz.prog 80:=by unfold CallOk;kernel_rfl
theorem co88:CallOk Tryz.prog 88:=by unfold CallOk;kernel_rfl
theorem co89:CallOk Tryz.prog 89:=by unfold CallOk;kernel_rfl
theorem co90:CallOk Tryz.prog 90:=by unfold CallOk;kernel_rfl
theorem co91:CallOk Tryz.prog 91:=by unfold CallOk;kernel_rfl
theorem co92:CallOk Tryz.prog 92:=by unfold CallOk;kernel_rfl
theorem co93:CallOk Tryz.prog 93:=by unfold CallOk;kernel_rfl
theorem co94:CallOk Tryz.prog 94:=by unfold CallOk;kernel_rfl
theorem co95:CallOk Tryz.prog 95:=by unfold CallOk;kernel_rfl
theorem co96:CallOk Tryz.prog 96:=by unfold CallOk;kernel_rfl
theorem co97:CallOk Tryz.prog 97:=by unfold CallOk;kernel_rfl
theorem co98:CallOk Tryz.prog 98:=by unfold CallOk;kernel_rfl
theorem co99:CallOk Tryz.prog 99:=by unfold CallOk;kernel_rfl
theorem co100:CallOk Tryz.prog 100:=by unfold CallOk;kernel_rfl
theorem co101:CallOk Tryz.prog 101:=by unfold CallOk;kernel_rfl
theorem co102:CallOk Tryz.prog 102:=by unfold CallOk;kernel_rfl
theorem co103:CallOk Tryz.prog 103:=by unfold CallOk;kernel_rfl
theorem co104:CallOk Tryz.prog 104:=by unfold CallOk;kernel_rfl
theorem co105:CallOk Tryz.prog 105:=by unfold CallOk;kernel_rfl
theorem co106:CallOk Tryz.prog 106:=by unfold CallOk;kernel_rfl
theorem co107:CallOk Tryz.prog 107:=by unfold CallOk;kernel_rfl
theorem co108:CallOk Tryz.prog 108:=by unfold CallOk;kernel_rfl
theorem co109:CallOk Tryz.prog 109:=by unfold CallOk;kernel_rfl
theorem co110:CallOk Tryz.prog 110:=by unfold CallOk;kernel_rfl
theorem co111:CallOk Tryz.prog 111:=by unfold CallOk;kernel_rfl
theorem co112:CallOk Tryz.prog 112:=by unfold CallOk;kernel_rfl
theorem co113:CallOk Tryz.prog 113:=by unfold CallOk;kernel_rfl
theorem co114:CallOk Tryz.prog 114:=by unfold CallOk;kernel_rfl
theorem co115:CallOk Tryz.prog 115:=by unfold CallOk;kernel_rfl
theorem co123:CallOk Tryz.prog 123:=by unfold CallOk;kernel_rfl
theorem co124:CallOk Tryz.prog 124:=by unfold CallOk;kernel_rfl
theorem co125:CallOk Tryz.prog 125:=by unfold CallOk;kernel_rfl
theorem co126:CallOk Tryz.prog 126:=by unfold CallOk;kernel_rfl
theorem co127:CallOk Tryz.prog 127:=by unfold CallOk;kernel_rfl
theorem co129:CallOk Tryz.prog 129:=by unfold CallOk;kernel_rfl
theorem co132:CallOk Tryz.prog 132:=by unfold CallOk;kernel_rfl
theorem co140:CallOk Tryz.prog 140:=by unfold CallOk;kernel_rfl
theorem co141:CallOk Tryz.prog 141:=by unfold CallOk;kernel_rfl
theorem co142:CallOk Tryz.prog 142:=by unfold CallOk;kernel_rfl
theorem co143:CallOk Tryz.prog 143:=by unfold CallOk;kernel_rfl
theorem co144:CallOk Tryz.prog 144:=by unfold CallOk;kernel_rfl
theorem co145:CallOk Tryz.prog 145:=by unfold CallOk;kernel_rfl
theorem co146:CallOk Tryz.prog 146:=by unfold CallOk;kernel_rfl
theorem co147:CallOk Tryz.prog 147:=by unfold CallOk;kernel_rfl
theorem co148:CallOk Tryz.prog 148:=by unfold CallOk;kernel_rfl
theorem co149:CallOk Tryz.prog 149:=by unfold CallOk;kernel_rfl
theorem co150:CallOk Tryz.prog 150:=by unfold CallOk;kernel_rfl
theorem co151:CallOk Tryz.prog 151:=by unfold CallOk;kernel_rfl
theorem co152:CallOk Tryz.prog 152:=by unfold CallOk;kernel_rfl
theorem co153:CallOk Tryz.prog 153:=by unfold CallOk;kernel_rfl
theorem co154:CallOk Tryz.prog 154:=by unfold CallOk;kernel_rfl
theorem co155:CallOk Tryz.prog 155:=by unfold CallOk;kernel_rfl
theorem co165:CallOk Tryz.prog 165:=by unfold CallOk;kernel_rfl
theorem co167:CallOk Tryz.prog 167:=by unfold CallOk;kernel_rfl
theorem co168:CallOk Tryz.prog 168:=by unfold CallOk;kernel_rfl
theorem co171:CallOk Tryz.prog 171:=by unfold CallOk;kernel_rfl
theorem co172:CallOk Tryz.prog 172:=by unfold CallOk;kernel_rfl
theorem co173:CallOk Tryz.prog 173:=by unfold CallOk;kernel_rfl
theorem co174:CallOk Tryz.prog 174:=by unfold CallOk;kernel_rfl
theorem co175:CallOk Tryz.prog 175:=by unfold CallOk;kernel_rfl
theorem co176:CallOk Tryz.prog 176:=by unfold CallOk;kernel_rfl
theorem co177:CallOk Tryz.prog 177:=by unfold CallOk;kernel_rfl
theorem co178:CallOk Tryz.prog 178:=by unfold CallOk;kernel_rfl
theorem co184:CallOk Tryz.prog 184:=by unfold CallOk;kernel_rfl
theorem co192:CallOk Tryz.prog 192:=by unfold CallOk;kernel_rfl
theorem co193:CallOk Tryz.prog 193:=by unfold CallOk;kernel_rfl
theorem co194:CallOk Tryz.prog 194:=by unfold CallOk;kernel_rfl
theorem co195:CallOk Tryz.prog 195:=by unfold CallOk;kernel_rfl
theorem co196:CallOk Tryz.prog 196:=by unfold CallOk;kernel_rfl
theorem co197:CallOk Tryz.prog 197:=by unfold CallOk;kernel_rfl
theorem co198:CallOk Tryz.prog 198:=by unfold CallOk;kernel_rfl
theorem co199:CallOk Tryz.prog 199:=by unfold CallOk;kernel_rfl
theorem co200:CallOk Tryz.prog 200:=by unfold CallOk;kernel_rfl
theorem co205:CallOk Tryz.prog 205:=by unfold CallOk;kernel_rfl
theorem mixed:Tryz.prog.follows .mixedOrders=true:=by kernel_rfl
end Go.Proofs.YtbibnpdnmmgacaaGreatDoor
