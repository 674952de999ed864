import Derived.Test.YtbibnpdnmmgacaaGreatDoorKZd
set_option linter.unusedVariables false
set_option linter.unusedSimpArgs false
set_option maxRecDepth 100000
namespace Go.Sx
structure nW where
 us:List Ex
 qq:List Ex
 cs:List Ex
 n:Nat
 at_:Option Ex
def Hy:Nat→Ex→Ex
 | 0,e=>e
 | n+1,e=>.mk 8 0 [Hy n e]
def B3 (op:Int):List Ex→Ex
 | [e]=>e
 | l=>.mk op 0 l
def nW.fl (f:nW):nW:=match f.at_ with
 | none=>f
 | some e=>⟨f.us,f.qq,f.cs++[Hy f.n e],0,none⟩
def nW.My (f:nW):nW:=⟨f.us,f.qq++[B3 5 f.fl.cs],[],0,none⟩
def nW.QJ (f:nW):nW:=⟨f.us++[B3 6 f.My.qq],[],[],0,none⟩
def nW.fin (f:nW):Ex:=B3 4 f.QJ.us
def Na:nW:=⟨[],[],[],0,none⟩
def nW.put (f:nW) (e:Ex):nW:=⟨f.us,f.qq,f.cs,f.n,some e⟩
def OZ (st:List nW) (c:UInt8):List nW:=match st with
 | []=>[]
 | f :: r=>
  if c=48 then f.fl.put aP :: r
  else if c=49 then f.fl.put bu :: r
  else if c=33 then ⟨f.fl.us,f.fl.qq,f.fl.cs,f.fl.n+1,none⟩ :: r
  else if c=42 then ⟨f.us,f.qq,f.cs,f.n,f.at_.map fun e=>.mk 7 0 [e]⟩ :: r
  else if c=124 then f.QJ :: r
  else if c=38 then f.My :: r
  else if c=40 then Na :: f.fl :: r
  else if c=41 then match r with
   | []=>[]
   | g :: r'=>g.put f.fin :: r'
  else f.fl.put (.mk 3 ((c.toNat:Int) - 97) []) :: r
theorem Vx (f:nW):f.fl.us=f.us:=by unfold nW.fl;split <;> rfl
theorem Vy (f:nW):f.fl.qq=f.qq:=by unfold nW.fl;split <;> rfl
def dh (least:Int) (e:Ex):List UInt8:=if least≤eh e.op then jA e else 40 :: (jA e++[41])
def B2 (st:List nW) (l:List UInt8):List nW:=l.foldl OZ st
theorem nE (st:List nW) (a b:List UInt8):B2 st (a++b)=B2 (B2 st a) b:=List.foldl_append ..
theorem sI (st:List nW) (c:UInt8) (b:List UInt8):B2 st (c :: b)=B2 (OZ st c) b:=rfl
def P5 (e:Ex):Prop:=∀ f r,B2 (f :: r) (dh 5 e)=f.fl.put e :: r
def P4 (e:Ex):Prop:=∃ m c,Hy m c=e∧∀ f r,B2 (f :: r) (dh 4 e)=⟨f.fl.us,f.fl.qq,f.fl.cs,f.fl.n+m,some c⟩ :: r
def P3 (e:Ex):Prop:=∀ us qq r,∃ f':nW,B2 (⟨us,qq,[],0,none⟩ :: r) (dh 3 e)=f' :: r∧f'.us=us∧f'.qq=qq∧B3 5 f'.fl.cs=e
def P2 (e:Ex):Prop:=∀ us r,∃ f':nW,B2 (⟨us,[],[],0,none⟩ :: r) (dh 2 e)=f' :: r∧f'.us=us∧B3 6 f'.My.qq=e
def P1 (e:Ex):Prop:=∀ r,∃ f':nW,B2 (Na :: r) (jA e)=f' :: r∧f'.fin=e
theorem FM {e:Ex} (h:P5 e) (he:dh 4 e=dh 5 e):P4 e:=⟨0,e,rfl,fun f r=>by rw [he,h];rfl⟩
theorem FN {e:Ex} (h:P4 e) (he:dh 3 e=dh 4 e):P3 e:=fun us qq r=>by
 obtain ⟨m,c,h1,h2⟩:=h
 refine ⟨_,by rw [he,h2],rfl,rfl,?_⟩
 show B3 5 ([]++[Hy (0+m) c])=e
 rw [Nat.zero_add,h1];rfl
theorem FO {e:Ex} (h:P3 e) (he:dh 2 e=dh 3 e):P2 e:=fun us r=>by
 obtain ⟨f',h1,h2,h3,h4⟩:=h us [] r
 refine ⟨f',by rw [he,h1],h2,?_⟩
 show B3 6 (f'.qq++[B3 5 f'.fl.cs])=e
 rw [h3,h4];rfl
theorem FP {e:Ex} (h:P2 e) (he:jA e=dh 2 e):P1 e:=fun r=>by
 obtain ⟨f',h1,h2,h3⟩:=h [] r
 refine ⟨f',by rw [he];exact h1,?_⟩
 show B3 4 (f'.us++[B3 6 f'.My.qq])=e
 rw [h2,h3];rfl
theorem sM {e:Ex} (h:P1 e) (he:eh e.op<5):P5 e:=fun f r=>by
 unfold dh
 rw [if_neg (by omega),sI,nE]
 have e1:OZ (f :: r) 40=Na :: f.fl :: r:=rfl
 obtain ⟨f',h1,h2⟩:=h (f.fl :: r)
 rw [e1,h1]
 show f.fl.put f'.fin :: r=_
 rw [h2]
theorem pF {e:Ex} {a b:Int} (ha:a≤eh e.op) (hb:b≤eh e.op):dh a e=dh b e:=by unfold dh;rw [if_pos ha,if_pos hb]
theorem pE {e:Ex} {a b:Int} (ha:eh e.op<a) (hb:eh e.op<b):dh a e=dh b e:=by unfold dh;rw [if_neg (by omega),if_neg (by omega)]
theorem KE:∀ (ks:List Ex),(∀ k∈ks,P4 k)→∀ (b:Bool) (f:nW) (r:List nW),f.fl.n=0→∃ f':nW,B2 (f :: r) (jv [] 4 b ks)=f' :: r∧f'.us=f.us∧f'.qq=f.qq∧f'.fl.cs=f.fl.cs++ks∧f'.fl.n=0
 | [],_,b,f,r,h=>⟨f,by simp [jv,B2],rfl,rfl,by simp,h⟩
 | k :: ks,hk,b,f,r,h=>by
  obtain ⟨m,c,h1,h2⟩:=hk k List.mem_cons_self
  have e1:jv [] 4 b (k :: ks)=dh 4 k++jv [] 4 true ks:=by simp [jv,dh]
  rw [e1,nE,h2]
  obtain ⟨f',g1,g2,g3,g4,g5⟩:=KE ks (fun q hq=>hk q (List.mem_cons_of_mem _ hq)) true ⟨f.fl.us,f.fl.qq,f.fl.cs,f.fl.n+m,some c⟩ r rfl
  refine ⟨f',g1,by rw [g2];exact Vx f,by rw [g3];exact Vy f,?_,g5⟩
  rw [g4]
  show (f.fl.cs++[Hy (f.fl.n+m) c])++ks=_
  rw [h,Nat.zero_add,h1];simp
theorem KK:∀ (ks:List Ex),(∀ k∈ks,P3 k)→∀ (f:nW) (r:List nW) (us done:List Ex),f.us=us→f.My.qq=done→∃ f':nW,B2 (f :: r) (jv [38] 3 true ks)=f' :: r∧f'.us=us∧f'.My.qq=done++ks
 | [],_,f,r,us,done,h,hd=>⟨f,by simp [jv,B2],h,by simpa using hd⟩
 | k :: ks,hk,f,r,us,done,h,hd=>by
  have e1:jv [38] 3 true (k :: ks)=38 :: (dh 3 k++jv [38] 3 true ks):=by simp [jv,dh]
  have e2:OZ (f :: r) 38=f.My :: r:=rfl
  have e3:f.My=⟨us,done,[],0,none⟩:=by
   rw [← hd,← h];rfl
  obtain ⟨g,h1,h2,h3,h4⟩:=hk k List.mem_cons_self us done r
  rw [e1,sI,nE,e2,e3,h1]
  obtain ⟨f',g1,g2,g3⟩:=KK ks (fun q hq=>hk q (List.mem_cons_of_mem _ hq)) g r us (done++[k]) h2 (by show g.qq++[B3 5 g.fl.cs]=_;rw [h3,h4])
  exact ⟨f',g1,g2,by rw [g3];simp⟩
theorem Pv:∀ (ks:List Ex),(∀ k∈ks,P2 k)→∀ (f:nW) (r:List nW) (done:List Ex),f.QJ.us=done→∃ f':nW,B2 (f :: r) (jv [124] 2 true ks)=f' :: r∧f'.QJ.us=done++ks
 | [],_,f,r,done,hd=>⟨f,by simp [jv,B2],by simpa using hd⟩
 | k :: ks,hk,f,r,done,hd=>by
  have e1:jv [124] 2 true (k :: ks)=124 :: (dh 2 k++jv [124] 2 true ks):=by simp [jv,dh]
  have e2:OZ (f :: r) 124=f.QJ :: r:=rfl
  have e3:f.QJ=⟨done,[],[],0,none⟩:=by rw [← hd];rfl
  obtain ⟨g,h1,h2,h3⟩:=hk k List.mem_cons_self done r
  rw [e1,sI,nE,e2,e3,h1]
  obtain ⟨f',g1,g2⟩:=Pv ks (fun q hq=>hk q (List.mem_cons_of_mem _ hq)) g r (done++[k]) (by show g.us++[B3 6 g.My.qq]=_;rw [h2,h3])
  exact ⟨f',g1,by rw [g2];simp⟩
theorem A3 {op:Int} {ks:List Ex} (h:2≤ks.length):B3 op ks = .mk op 0 ks:=by
 match ks,h with
 | a :: b :: l,_=>rfl
structure Nh (e:Ex):Prop where
 p5:P5 e
 p4:P4 e
 p3:P3 e
 p2:P2 e
 p1:P1 e
theorem FJ {e:Ex} (h:P5 e) (hl:5≤eh e.op):Nh e:=by
 have h4:=FM h (pF (by omega) hl)
 have h3:=FN h4 (pF (by omega) (by omega))
 have h2:=FO h3 (pF (by omega) (by omega))
 exact ⟨h,h4,h3,h2,FP h2 (by unfold dh;rw [if_pos (by omega)])⟩
theorem YM {lt:Int} (h0:0≤lt) (h1:lt<6):∃ c:UInt8,97+UInt8.ofNat lt.toNat=c∧(c.toNat:Int) - 97=lt∧c ≠ 48∧c ≠ 49∧c ≠ 33∧c ≠ 42∧c ≠ 124∧c ≠ 38∧c ≠ 40∧c ≠ 41:=by
 obtain ⟨n,rfl⟩:=Int.eq_ofNat_of_zero_le h0
 have:n=0∨n=1∨n=2∨n=3∨n=4∨n=5:=by omega
 rcases this with rfl | rfl | rfl | rfl | rfl | rfl <;> exact ⟨_,rfl,by decide⟩
theorem nu (n op lt:Int) (ks:List Ex):dg n (.mk op lt ks)=if op=3 then ks.length == 0 && decide (0≤lt) && decide (lt<n)
 else if lt ≠ 0 then false
 else if op=1∨op=2 then ks.length == 0
 else if op=4∨op=5∨op=6 then decide (2≤ks.length) && ks.all (dg n)
 else if op=7∨op=8 then ks.length == 1 && ks.all (dg n) else false:=by simp only [dg,AI]
theorem fh {n op lt:Int} {ks:List Ex} (h:dg n (.mk op lt ks)=true) :
  (op=3∧ks=[]∧0≤lt∧lt<n)∨(lt=0∧(((op=1∨op=2)∧ks=[])∨((op=4∨op=5∨op=6)∧2≤ks.length∧∀ k∈ks,dg n k=true)∨((op=7∨op=8)∧ks.length=1∧∀ k∈ks,dg n k=true))):=by
 rw [nu] at h
 by_cases h3:op=3
 ·rw [if_pos h3] at h
  simp only [Bool.and_eq_true,beq_iff_eq,decide_eq_true_eq] at h
  exact .inl ⟨h3,List.eq_nil_of_length_eq_zero h.1.1,h.1.2,h.2⟩
 ·rw [if_neg h3] at h
  by_cases bZ:lt=0
  ·rw [if_neg (by simpa using bZ)] at h
   refine .inr ⟨bZ,?_⟩
   by_cases h1:op=1∨op=2
   ·rw [if_pos h1] at h;exact .inl ⟨h1,List.eq_nil_of_length_eq_zero (by simpa using h)⟩
   ·rw [if_neg h1] at h
    by_cases h2:op=4∨op=5∨op=6
    ·rw [if_pos h2] at h
     simp only [Bool.and_eq_true,decide_eq_true_eq,List.all_eq_true] at h
     exact .inr (.inl ⟨h2,h.1,h.2⟩)
    ·rw [if_neg h2] at h
     by_cases h4:op=7∨op=8
     ·rw [if_pos h4] at h
      simp only [Bool.and_eq_true,beq_iff_eq,List.all_eq_true] at h
      exact .inr (.inr ⟨h4,h.1,h.2⟩)
     ·rw [if_neg h4] at h;cases h
  ·rw [if_pos bZ] at h;cases h
theorem Uj (e:Ex):dg 6 e=true→Nh e:=by
 induction e using Ex.ind with
 | _ e ih=>
  intro hw
  obtain ⟨op,lt,ks⟩:=e
  have Us:∀ k∈ks,dg 6 k=true→Nh k:=fun k hk h=>by
   obtain ⟨i,hi,rfl⟩:=fI default hk
   exact ih i hi h
  rcases fh hw with ⟨rfl,rfl,h0,h1⟩ | ⟨rfl,D3⟩
  ·obtain ⟨c,hc,hn,g1,g2,g3,g4,g5,g6,g7,g8⟩:=YM h0 h1
   refine FJ (fun f r=>?_) (by show (5:Int)≤eh 3;decide)
   have e1:dh 5 (.mk 3 lt [])=[c]:=by
    unfold dh;rw [if_pos (by show (5:Int)≤eh 3;decide)];rw [← hc];rfl
   rw [e1]
   show OZ (f :: r) c=_
   unfold OZ
   simp only [g1,g2,g3,g4,g5,g6,g7,g8,if_false,hn]
  ·rcases D3 with ⟨Tt,rfl⟩ | ⟨ZX,hlen,kA⟩ | ⟨WX,hlen,kA⟩
   ·rcases Tt with rfl | rfl
    ·exact FJ (fun f r=>rfl) (by decide)
    ·exact FJ (fun f r=>rfl) (by decide)
   ·have hP:∀ k∈ks,Nh k:=fun k hk=>Us k hk (kA k hk)
    rcases ZX with rfl | rfl | rfl
    ·have h1:P1 (.mk 4 0 ks):=fun r=>by
      match ks,hlen,hP with
      | k :: ks,hlen,hP=>
       have e1:jA (.mk 4 0 (k :: ks))=dh 2 k++jv [124] 2 true ks:=by simp [jA,jv,dh]
       obtain ⟨g,g1,g2,g3⟩:=(hP k List.mem_cons_self).p2 [] r
       rw [e1,nE]
       have e2:B2 (Na :: r) (dh 2 k)=g :: r:=g1
       rw [e2]
       obtain ⟨f',q1,q2⟩:=Pv ks (fun q hq=>(hP q (List.mem_cons_of_mem _ hq)).p2) g r [k] (by show g.us++[B3 6 g.My.qq]=_;rw [g2,g3];rfl)
       refine ⟨f',q1,?_⟩
       show B3 4 f'.QJ.us=_
       rw [q2];exact A3 hlen
     have h5:=sM h1 (by show eh 4<5;decide)
     have h4:=FM h5 (pE (by show eh 4<4;decide) (by show eh 4<5;decide))
     have FC:=FN h4 (pE (by show eh 4<3;decide) (by show eh 4<4;decide))
     have h2:=FO FC (pE (by show eh 4<2;decide) (by show eh 4<3;decide))
     exact ⟨h5,h4,FC,h2,h1⟩
    ·have FC:P3 (.mk 5 0 ks):=fun us qq r=>by
      have e1:dh 3 (.mk 5 0 ks)=jv [] 4 false ks:=by unfold dh;rw [if_pos (by show (3:Int)≤eh 5;decide)];simp [jA]
      rw [e1]
      obtain ⟨f',g1,g2,g3,g4,g5⟩:=KE ks (fun k hk=>(hP k hk).p4) false ⟨us,qq,[],0,none⟩ r rfl
      refine ⟨f',g1,g2,g3,?_⟩
      rw [g4]
      show B3 5 ([]++ks)=_
      rw [List.nil_append];exact A3 hlen
     have h2:=FO FC (pF (by show (2:Int)≤eh 5;decide) (by show (3:Int)≤eh 5;decide))
     have h1:=FP h2 (by unfold dh;rw [if_pos (by show (2:Int)≤eh 5;decide)])
     have h5:=sM h1 (by show eh 5<5;decide)
     exact ⟨h5,FM h5 (pE (by show eh 5<4;decide) (by show eh 5<5;decide)),FC,h2,h1⟩
    ·have h2:P2 (.mk 6 0 ks):=fun us r=>by
      match ks,hlen,hP with
      | k :: ks,hlen,hP=>
       have e1:dh 2 (.mk 6 0 (k :: ks))=dh 3 k++jv [38] 3 true ks:=by
        show (if (2:Int)≤eh 6 then _ else _)=_
        rw [if_pos (by decide)];simp [jA,jv,dh]
       obtain ⟨g,g1,g2,g3,g4⟩:=(hP k List.mem_cons_self).p3 us [] r
       rw [e1,nE,g1]
       obtain ⟨f',q1,q2,q3⟩:=KK ks (fun q hq=>(hP q (List.mem_cons_of_mem _ hq)).p3) g r us [k] g2 (by show g.qq++[B3 5 g.fl.cs]=_;rw [g3,g4];rfl)
       refine ⟨f',q1,q2,?_⟩
       rw [q3];exact A3 hlen
     have h1:=FP h2 (by unfold dh;rw [if_pos (by show (2:Int)≤eh 6;decide)])
     have h5:=sM h1 (by show eh 6<5;decide)
     have h4:=FM h5 (pE (by show eh 6<4;decide) (by show eh 6<5;decide))
     exact ⟨h5,h4,FN h4 (pE (by show eh 6<3;decide) (by show eh 6<4;decide)),h2,h1⟩
   ·obtain ⟨k,rfl⟩:=List.length_eq_one_iff.1 hlen
    have hk:=Us k List.mem_cons_self (kA k List.mem_cons_self)
    rcases WX with rfl | rfl
    ·refine FJ (fun f r=>?_) (by show (5:Int)≤eh 7;decide)
     have e1:dh 5 (.mk 7 0 [k])=dh 5 k++[42]:=by
      show (if (5:Int)≤eh 7 then _ else _)=_
      rw [if_pos (by decide)];simp [jA,jv,dh]
     rw [e1,nE,hk.p5]
     rfl
    ·have h4:P4 (.mk 8 0 [k]):=by
      obtain ⟨m,c,g1,g2⟩:=hk.p4
      refine ⟨m+1,c,by show Ex.mk 8 0 [Hy m c]=_;rw [g1],fun f r=>?_⟩
      have e1:dh 4 (.mk 8 0 [k])=33 :: dh 4 k:=by
       show (if (4:Int)≤eh 8 then _ else _)=_
       rw [if_pos (by decide)];simp [jA,jv,dh]
      have e2:OZ (f :: r) 33=⟨f.fl.us,f.fl.qq,f.fl.cs,f.fl.n+1,none⟩ :: r:=rfl
      rw [e1,sI,e2,g2]
      show (⟨f.fl.us,f.fl.qq,f.fl.cs,f.fl.n+1+m,some c⟩:nW) :: r=_
      rw [show f.fl.n+1+m=f.fl.n+(m+1) by omega]
     have FC:=FN h4 (pF (by show (3:Int)≤eh 8;decide) (by show (4:Int)≤eh 8;decide))
     have h2:=FO FC (pF (by show (2:Int)≤eh 8;decide) (by show (3:Int)≤eh 8;decide))
     have h1:=FP h2 (by unfold dh;rw [if_pos (by show (2:Int)≤eh 8;decide)])
     exact ⟨sM h1 (by show eh 8<5;decide),h4,FC,h2,h1⟩
theorem RO {a b:Ex} (ha:dg 6 a=true) (hb:dg 6 b=true) (h:jA a=jA b):a=b:=by
 obtain ⟨f,h1,h2⟩:=(Uj a ha).p1 []
 obtain ⟨g,h3,h4⟩:=(Uj b hb).p1 []
 rw [h,h3] at h1
 cases h1
 rw [← h2,← h4]
end Go.Sx
namespace Go.Sx
theorem sn {x y:Int}:kh x y=0↔x=y:=by
 unfold kh
 by_cases h:x<y
 ·simp [h];omega
 ·by_cases h2:y<x <;> simp [h,h2] <;> omega
theorem Dk (x y:Int):kh y x = - kh x y:=by unfold kh;split <;> split <;> (try split) <;> omega
theorem lL {x y:Int}:kh x y<0↔x<y:=by
 unfold kh
 by_cases h:x<y
 ·simp [h]
 ·by_cases h2:y<x <;> simp [h,h2] <;> omega
theorem G8 (o l:Int) (ks:List Ex) (e:Ex):gD (.mk o l ks) e=if o ≠ e.op then kh o e.op else if l ≠ e.lt then kh l e.lt else dA ks e.kids:=by rw [gD]
theorem BC (a b:Ex):gD a b=if a.op ≠ b.op then kh a.op b.op else if a.lt ≠ b.lt then kh a.lt b.lt else dA a.kids b.kids:=by
 obtain ⟨o,l,ks⟩:=a;exact G8 o l ks b
theorem nL (o l o' l':Int) (ks gu:List Ex):gD (.mk o l ks) (.mk o' l' gu)=if o ≠ o' then kh o o' else if l ≠ l' then kh l l' else dA ks gu:=by rw [G8];rfl
theorem Ex.nh {P:Ex→Prop} (h:∀ op lt ks,(∀ k∈ks,P k)→P (.mk op lt ks)) (e:Ex):P e:=by
 refine Ex.ind (fun e ih=>?_) e
 obtain ⟨op,lt,ks⟩:=e
 refine h op lt ks fun k hk=>?_
 obtain ⟨i,hi,rfl⟩:=fI default hk
 exact ih i hi
theorem kO (a:Ex):∀ b,gD a b=0→a=b:=by
 induction a using Ex.nh with
 | _ op lt ks ih=>
  intro b h
  obtain ⟨Xk,Xn,gu⟩:=b
  rw [nL] at h
  split at h
  ·rename_i h1;exact absurd (sn.1 h) h1
  ·rename_i h1
   split at h
   ·rename_i h2;exact absurd (sn.1 h) h2
   ·rename_i h2
    have h1:op=Xk:=Classical.byContradiction h1
    have h2:lt=Xn:=Classical.byContradiction h2
    subst h1 h2
    have key:∀ (ks gu:List Ex),(∀ k∈ks,∀ b,gD k b=0→k=b)→dA ks gu=0→ks=gu:=by
     intro ks
     induction ks with
     | nil=>intro gu _ h;cases gu with
      | nil=>rfl
      | cons a l=>simp [dA] at h
     | cons a l Qv=>
      intro gu hk h
      cases gu with
      | nil=>simp [dA] at h
      | cons b m=>
       rw [dA] at h
       by_cases tc:gD a b ≠ 0
       ·rw [if_pos tc] at h;exact absurd h tc
       ·rw [if_neg tc] at h
        rw [hk a List.mem_cons_self b (Classical.byContradiction tc),Qv m (fun k vB=>hk k (List.mem_cons_of_mem _ vB)) h]
    rw [key ks gu ih h]
theorem mP (a:Ex):gD a a=0:=by
 induction a using Ex.nh with
 | _ op lt ks ih=>
  rw [nL]
  simp only [ne_eq,not_true,if_false]
  induction ks with
  | nil=>simp [dA]
  | cons a l Qv=>
   rw [dA,if_neg (by rw [ih a List.mem_cons_self];simp)]
   exact Qv (fun k hk=>ih k (List.mem_cons_of_mem _ hk))
theorem pd (a:Ex):∀ b,gD b a = - gD a b:=by
 induction a using Ex.nh with
 | _ op lt ks ih=>
  intro b
  obtain ⟨Xk,Xn,gu⟩:=b
  rw [nL,nL]
  by_cases h1:op=Xk
  ·subst h1
   by_cases h2:lt=Xn
   ·subst h2
    simp only [ne_eq,not_true,if_false]
    have key:∀ (ks gu:List Ex),(∀ k∈ks,∀ b,gD b k = - gD k b)→dA gu ks = - dA ks gu:=by
     intro ks
     induction ks with
     | nil=>intro gu _;cases gu <;> simp [dA]
     | cons a l Qv=>
      intro gu hk
      cases gu with
      | nil=>simp [dA]
      | cons b m=>
       rw [dA,dA]
       have e:=hk a List.mem_cons_self b
       have e2:=Qv m (fun k vB=>hk k (List.mem_cons_of_mem _ vB))
       by_cases tc:gD a b=0
       ·rw [if_neg (by rw [e];simp [tc]),if_neg (by simp [tc])];exact e2
       ·rw [if_pos (by rw [e];omega),if_pos tc];exact e
    exact key ks gu ih
   ·have e0:¬ (op ≠ op):=fun h=>h rfl
    rw [if_neg e0,if_neg e0,if_pos (Ne.symm h2),if_pos h2];exact Dk _ _
  ·rw [if_pos (Ne.symm h1),if_pos h1];exact Dk _ _
theorem xY (a:Ex):∀ b c,gD a b<0→gD b c<0→gD a c<0:=by
 induction a using Ex.nh with
 | _ op lt ks ih=>
  intro b c
  obtain ⟨op1,lt1,O4⟩:=b
  obtain ⟨op2,lt2,O3⟩:=c
  rw [nL,nL,nL]
  have key:∀ (ks O4 O3:List Ex),(∀ k∈ks,∀ b c,gD k b<0→gD b c<0→gD k c<0)→dA ks O4<0→dA O4 O3<0→dA ks O3<0:=by
   intro ks
   induction ks with
   | nil=>
    intro O4 O3 _ h1 h2
    cases O4 with
    | nil=>simp [dA] at h1
    | cons a l=>cases O3 with
     | nil=>simp [dA] at h2
     | cons b m=>simp [dA]
   | cons a l Qv=>
    intro O4 O3 hk h1 h2
    cases O4 with
    | nil=>simp [dA] at h1
    | cons b m=>cases O3 with
     | nil=>simp [dA] at h2
     | cons c n=>
      rw [dA] at h1 h2 ⊢
      by_cases tc:gD a b=0
      ·rw [if_neg (by simp [tc])] at h1
       have:=kO a b tc;subst this
       by_cases T1:gD a c=0
       ·rw [if_neg (by simp [T1])] at h2 ⊢
        exact Qv m n (fun k vB=>hk k (List.mem_cons_of_mem _ vB)) h1 h2
       ·rw [if_pos T1] at h2 ⊢;exact h2
      ·rw [if_pos tc] at h1
       by_cases T1:gD b c=0
       ·have:=kO b c T1;subst this
        rw [if_pos tc];exact h1
       ·rw [if_pos T1] at h2
        have h3:=hk a List.mem_cons_self b c h1 h2
        rw [if_pos (by omega)];exact h3
  intro h1 h2
  by_cases e1:op=op1
  ·subst e1
   rw [if_neg (by simp)] at h1
   by_cases e2:op=op2
   ·subst e2
    rw [if_neg (by simp)] at h2 ⊢
    by_cases f1:lt=lt1
    ·subst f1
     rw [if_neg (by simp)] at h1
     by_cases f2:lt=lt2
     ·subst f2
      rw [if_neg (by simp)] at h2 ⊢
      exact key ks O4 O3 ih h1 h2
     ·rw [if_pos f2] at h2 ⊢;exact h2
    ·rw [if_pos f1,lL] at h1
     by_cases f2:lt1=lt2
     ·subst f2;rw [if_pos f1,lL];exact h1
     ·rw [if_pos f2,lL] at h2;rw [if_pos (by omega),lL];omega
   ·rw [if_pos e2] at h2 ⊢;exact h2
  ·rw [if_pos e1,lL] at h1
   by_cases e2:op1=op2
   ·subst e2;rw [if_pos e1,lL];exact h1
   ·rw [if_pos e2,lL] at h2;rw [if_pos (by omega),lL];omega
def x8 (a b:Ex):Prop:=¬ gD b a<0
theorem Ip (a b:Ex):x8 a b∨x8 b a:=by unfold x8;have:=pd a b;omega
theorem CZ {a b:Ex} (h:x8 a b) (k:x8 b a):a=b:=by
 unfold x8 at h k;have:=pd a b;exact kO a b (by omega)
theorem zn {a b c:Ex} (h:x8 a b) (k:x8 b c):x8 a c:=by
 unfold x8 at *
 intro hc
 have n1:=pd a b
 have n2:=pd b c
 by_cases e1:gD a b=0
 ·have:=kO a b e1;subst this;exact k hc
 ·exact k (xY c a b hc (by omega))
theorem ue (a:Ex):∀ l,(Eb a l).Perm (a :: l)
 | []=>.refl _
 | b :: l=>by
  unfold Eb
  split
  ·exact .refl _
  ·exact ((ue a l).cons b).trans (.swap a b l)
theorem lu:∀ l:List Ex,(gw l).Perm l
 | []=>.refl _
 | a :: l=>(ue a (gw l)).trans ((lu l).cons a)
theorem vc (a:Ex):∀ l:List Ex,l.Pairwise x8→(Eb a l).Pairwise x8
 | [],_=>by simp [Eb]
 | b :: l,h=>by
  rw [List.pairwise_cons] at h
  unfold Eb
  split
  ·rename_i hc
   have tc:x8 a b:=by unfold x8;have:=pd a b;omega
   rw [List.pairwise_cons]
   refine ⟨fun x hx=>?_,List.pairwise_cons.2 h⟩
   rcases List.mem_cons.1 hx with rfl | hx
   ·exact tc
   ·exact zn tc (h.1 x hx)
  ·rename_i hc
   have hba:x8 b a:=by unfold x8;omega
   rw [List.pairwise_cons]
   refine ⟨fun x hx=>?_,vc a l h.2⟩
   rcases List.mem_cons.1 ((ue a l).mem_iff.1 hx) with rfl | hx
   ·exact hba
   ·exact h.1 x hx
theorem nR:∀ l:List Ex,(gw l).Pairwise x8
 | []=>.nil
 | a :: l=>vc a _ (nR l)
theorem xG:∀ {l m:List Ex},l.Perm m→l.Pairwise x8→m.Pairwise x8→l=m
 | [],m,h,_,_=>by rw [h.nil_eq]
 | a :: l,[],h,_,_=>by have:=h.length_eq;simp at this
 | a :: l,b :: m,h,h1,h2=>by
  rw [List.pairwise_cons] at h1 h2
  have tc:a=b:=by
   have ha:a∈b :: m:=h.mem_iff.1 List.mem_cons_self
   have hb:b∈a :: l:=h.mem_iff.2 List.mem_cons_self
   rcases List.mem_cons.1 ha with e | ha
   ·exact e
   ·rcases List.mem_cons.1 hb with e | hb
    ·exact e.symm
    ·exact CZ (h1.1 b hb) (h2.1 a ha)
  subst tc
  rw [xG (h.cons_inv) h1.2 h2.2]
theorem K3 {l m:List Ex} (h:m.Perm l) (hs:m.Pairwise x8):m=gw l:=xG (h.trans (lu l).symm) hs (nR l)
theorem pU {l:List Ex} {x:Ex}:x∈gw l↔x∈l:=(lu l).mem_iff
theorem pO (l:List Ex):(gw l).length=l.length:=(lu l).length_eq
theorem sj {α:Type} {q:α→α→Bool} {d:α} {xs:List α} (hq:∀ a b,q a b=true→a=b) {x:α}:∀ m,m≤xs.length→(x∈uM q d xs m↔x∈xs.take m)
 | 0,_=>by simp [uM]
 | m+1,h=>by
  have ih:=sj (d:=d) (xs:=xs) hq (x:=x) m (by omega)
  rw [aO d xs m (by omega),List.mem_append,List.mem_singleton]
  unfold uM
  split
  ·rename_i hc
   rw [ih]
   have e:=hq _ _ hc.2
   constructor
   ·exact .inl
   ·rintro (h1 | rfl)
    ·exact h1
    ·rw [e]
     have:m=(m - 1)+1:=by omega
     rw [this,aO d xs (m - 1) (by omega)];simp
  ·rw [List.mem_append,ih,List.mem_singleton]
theorem G6 {α:Type} {q:α→α→Bool} {d:α} {xs:List α}:∀ m,(uM q d xs m).length≤m
 | 0=>by simp [uM]
 | m+1=>by
  have ih:=G6 (q:=q) (d:=d) (xs:=xs) m
  unfold uM
  split
  ·omega
  ·simp;omega
theorem vU {α:Type} {q:α→α→Bool} {d:α} {xs:List α}:∀ m,m≤xs.length→(∀ i,0<i→i<m→q (xs.getD i d) (xs.getD (i - 1) d)=false)→uM q d xs m=xs.take m
 | 0,_,_=>by simp [uM]
 | m+1,hm,h=>by
  rw [aO d xs m (by omega),← vU m (by omega) (fun i h1 h2=>h i h1 (by omega))]
  exact if_neg fun hc=>by rw [h m hc.1 (by omega)] at hc;cases hc.2
theorem Ax {a b:Ex} (h:qe a b=true):a=b:=kO a b (of_decide_eq_true h)
theorem pV {l:List Ex} {x:Ex}:x∈hD l↔x∈l:=by
 unfold hD;rw [sj (fun _ _=>Ax) _ (Nat.le_refl _),List.take_length]
theorem zM (l:List Ex):(hD l).length≤l.length:=G6 _
theorem o6 {l m:List Ex} (h:Jj l=some m) {x:Ex}:x∈m↔x∈l:=by
 cases h;rw [pV,pU]
end Go.Sx
namespace Go.Sx
inductive cT (L:List UInt8→Prop):List UInt8→Prop
 | nil:cT L []
 | cons {u v:List UInt8} (h:L u) (t:cT L v):cT L (u++v)
mutual
def LE:Ex→List UInt8→Prop
 | .mk op lt ks,w=>if op=2 then w=[] else if op=3 then ∃ c:UInt8,w=[c]∧(c.toNat:Int) - 97=lt else if op=4 then cL ks w else if op=5 then cA ks w
  else if op=6 then ei ks w else if op=7 then cT (cL ks) w else if op=8 then ¬ cL ks w else False
def cL:List Ex→List UInt8→Prop
 | [],_=>False
 | k :: ks,w=>LE k w∨cL ks w
def ei:List Ex→List UInt8→Prop
 | [],_=>True
 | k :: ks,w=>LE k w∧ei ks w
def cA:List Ex→List UInt8→Prop
 | [],w=>w=[]
 | k :: ks,w=>∃ u v,w=u++v∧LE k u∧cA ks v
end
def tG (L M:List UInt8→Prop):Prop:=∀ w,L w↔M w
theorem tG.rfl {L:List UInt8→Prop}:tG L L:=fun _=>Iff.rfl
theorem gm:∀ {ks:List Ex} {w:List UInt8},cL ks w↔∃ k∈ks,LE k w
 | [],w=>by simp [cL]
 | k :: ks,w=>by simp [cL,gm (ks:=ks)]
theorem gW:∀ {ks:List Ex} {w:List UInt8},ei ks w↔∀ k∈ks,LE k w
 | [],w=>by simp [ei]
 | k :: ks,w=>by simp [ei,gW (ks:=ks)]
theorem zS:∀ {ks ls:List Ex} {w:List UInt8},cA (ks++ls) w↔∃ u v,w=u++v∧cA ks u∧cA ls v
 | [],ls,w=>by
  simp only [cA,List.nil_append]
  exact ⟨fun h=>⟨[],w,rfl,rfl,h⟩,fun ⟨u,v,e,h1,h2⟩=>by subst h1;rw [e];exact h2⟩
 | k :: ks,ls,w=>by
  simp only [List.cons_append,cA,zS (ks:=ks)]
  constructor
  ·rintro ⟨u,v,rfl,h1,u2,v2,rfl,h2,h3⟩
   exact ⟨u++u2,v2,by simp,⟨u,u2,rfl,h1,h2⟩,h3⟩
  ·rintro ⟨u,v,rfl,⟨u1,u2,rfl,h1,h2⟩,h3⟩
   exact ⟨u1,u2++v,by simp,h1,u2,v,rfl,h2,h3⟩
theorem mR {k:Ex} {w:List UInt8}:cA [k] w↔LE k w:=by
 simp only [cA]
 constructor
 ·rintro ⟨u,v,rfl,h,rfl⟩;rw [List.append_nil];exact h
 ·intro h;exact ⟨w,[],by simp,h,rfl⟩
theorem Jd {e:Ex} (h:e.op=1) (w:List UInt8):LE e w↔False:=by obtain ⟨op,lt,ks⟩:=e;cases h;simp [LE]
theorem Tv {e:Ex} (h:e.op=2) (w:List UInt8):LE e w↔w=[]:=by obtain ⟨op,lt,ks⟩:=e;cases h;simp [LE]
theorem MY {e:Ex} (h:e.op=4) (w:List UInt8):LE e w↔cL e.kids w:=by obtain ⟨op,lt,ks⟩:=e;cases h;simp [LE,Ex.kids]
theorem MD {e:Ex} (h:e.op=5) (w:List UInt8):LE e w↔cA e.kids w:=by obtain ⟨op,lt,ks⟩:=e;cases h;simp [LE,Ex.kids]
theorem QR {e:Ex} (h:e.op=6) (w:List UInt8):LE e w↔ei e.kids w:=by obtain ⟨op,lt,ks⟩:=e;cases h;simp [LE,Ex.kids]
theorem IU {e:Ex} (h:e.op=7) (w:List UInt8):LE e w↔cT (cL e.kids) w:=by obtain ⟨op,lt,ks⟩:=e;cases h;simp [LE,Ex.kids]
theorem Pn {e:Ex} (h:e.op=8) (w:List UInt8):LE e w↔¬ cL e.kids w:=by obtain ⟨op,lt,ks⟩:=e;cases h;simp [LE,Ex.kids]
theorem gl {k:Ex} {w:List UInt8}:cL [k] w↔LE k w:=by simp [cL]
theorem o7 {e:Ex} (h:fE e=true) (w:List UInt8):LE e w:=by
 unfold fE at h
 simp only [Bool.and_eq_true,beq_iff_eq] at h
 obtain ⟨⟨h1,h2⟩,h3⟩:=h
 rw [Pn h1]
 obtain ⟨k,hk⟩:=List.length_eq_one_iff.1 h2
 rw [hk] at h3 ⊢
 rw [gl]
 have:k.op=1:=by simpa [bb] using h3
 rw [Jd this];exact id
theorem mK {e:Ex} (h:bb e=true) (w:List UInt8):¬ LE e w:=by rw [Jd (by simpa [bb] using h)];exact id
theorem xd {e:Ex} (h:eA e=true) (w:List UInt8):LE e w↔w=[]:=Tv (by simpa [eA] using h) w
theorem Gc (w:List UInt8):LE gg w:=o7 (by decide) w
theorem pa (w:List UInt8):¬ LE aP w:=mK (by decide) w
theorem rV (w:List UInt8):LE bu w↔w=[]:=xd (by decide) w
theorem OE (ks:List Ex) (w:List UInt8):cL (bG 4 ks) w↔cL ks w:=by
 rw [gm,gm]
 unfold bG
 simp only [List.mem_flatMap]
 constructor
 ·rintro ⟨x,⟨k,hk,hx⟩,hw⟩
  split at hx
  ·rename_i h;exact ⟨k,hk,(MY h w).2 (gm.2 ⟨x,hx,hw⟩)⟩
  ·simp at hx;subst hx;exact ⟨x,hk,hw⟩
 ·rintro ⟨k,hk,hw⟩
  by_cases h:k.op=4
  ·rw [MY h,gm] at hw
   obtain ⟨x,hx,hw⟩:=hw
   exact ⟨x,⟨k,hk,by rw [if_pos h];exact hx⟩,hw⟩
  ·exact ⟨k,⟨k,hk,by rw [if_neg h];simp⟩,hw⟩
theorem OD (ks:List Ex) (w:List UInt8):ei (bG 6 ks) w↔ei ks w:=by
 rw [gW,gW]
 unfold bG
 simp only [List.mem_flatMap]
 constructor
 ·intro H k hk
  by_cases h:k.op=6
  ·rw [QR h,gW]
   exact fun x hx=>H x ⟨k,hk,by rw [if_pos h];exact hx⟩
  ·exact H k ⟨k,hk,by rw [if_neg h];simp⟩
 ·rintro H x ⟨k,hk,hx⟩
  split at hx
  ·rename_i h
   have:=H k hk
   rw [QR h,gW] at this
   exact this x hx
  ·simp at hx;subst hx;exact H x hk
theorem Br:∀ (ks:List Ex) (w:List UInt8),cA (bG 5 ks) w↔cA ks w
 | [],w=>by simp [bG,cA]
 | k :: ks,w=>by
  have e:bG 5 (k :: ks)=(if k.op=5 then k.kids else [k])++bG 5 ks:=by simp [bG]
  rw [e,zS]
  simp only [cA]
  have ih:=Br ks
  constructor
  ·rintro ⟨u,v,rfl,h1,h2⟩
   refine ⟨u,v,rfl,?_,(ih v).1 h2⟩
   split at h1
   ·rename_i h;exact (MD h u).2 h1
   ·exact mR.1 h1
  ·rintro ⟨u,v,rfl,h1,h2⟩
   refine ⟨u,v,rfl,?_,(ih v).2 h2⟩
   split
   ·rename_i h;exact (MD h u).1 h1
   ·exact mR.2 h1
theorem Fk {ps:List Ex} {w:List UInt8}:LE (bp 4 ps aP) w↔cL ps w:=by
 match ps with
 | []=>simp [bp,cL,pa]
 | [p]=>simp [bp,cL]
 | a :: b :: l=>show LE (.mk 4 0 _) w↔_;rw [MY rfl];rfl
theorem xX {ps:List Ex} {w:List UInt8}:LE (bp 5 ps bu) w↔cA ps w:=by
 match ps with
 | []=>simp only [bp,cA];exact rV w
 | [p]=>simp only [bp];exact mR.symm
 | a :: b :: l=>show LE (.mk 5 0 _) w↔_;rw [MD rfl];rfl
theorem Fj {ps:List Ex} {w:List UInt8}:LE (bp 6 ps gg) w↔ei ps w:=by
 match ps with
 | []=>simp [bp,ei,Gc]
 | [p]=>simp [bp,ei]
 | a :: b :: l=>show LE (.mk 6 0 _) w↔_;rw [QR rfl];rfl
theorem pr:∀ {ks:List Ex} {w:List UInt8},ks.any bb=true→¬ cA ks w
 | [],w,h=>by simp at h
 | k :: ks,w,h=>by
  rw [List.any_cons,Bool.or_eq_true] at h
  rintro ⟨u,v,rfl,h1,h2⟩
  rcases h with h | h
  ·exact mK h u h1
  ·exact pr h h2
theorem nU:∀ {ks:List Ex} {w:List UInt8},cA (ks.filter fun e=>!eA e) w↔cA ks w
 | [],w=>by simp
 | k :: ks,w=>by
  have ih:=fun w=>nU (ks:=ks) (w:=w)
  rw [List.filter_cons]
  split
  ·simp only [cA,ih]
  ·rename_i h
   have hu:eA k=true:=by simpa using h
   rw [ih]
   simp only [cA]
   constructor
   ·intro h2;exact ⟨[],w,rfl,(xd hu []).2 rfl,h2⟩
   ·rintro ⟨u,v,rfl,h1,h2⟩
    rw [xd hu] at h1;subst h1;exact h2
theorem Ou {ks:List Ex} {j:Ex} (h:qu ks=some j) (w:List UInt8):LE j w↔cL ks w:=by
 unfold qu at h
 split at h
 ·rename_i hu
  cases h
  obtain ⟨k,hk,h2⟩:=List.any_eq_true.1 hu
  exact ⟨fun _=>gm.2 ⟨k,hk,o7 h2 w⟩,fun _=>Gc w⟩
 ·obtain ⟨p,hp,h⟩:=Option.bind_eq_some_iff.1 h
  obtain ⟨rfl,_⟩:=js hp
  obtain ⟨q,hq,h⟩:=Option.bind_eq_some_iff.1 h
  cases h
  rw [Fk,← OE ks,gm,gm]
  constructor
  ·rintro ⟨k,hk,h⟩
   rw [o6 hq,List.mem_filter] at hk
   exact ⟨k,hk.1,h⟩
  ·rintro ⟨k,hk,h⟩
   refine ⟨k,(o6 hq).2 (List.mem_filter.2 ⟨hk,?_⟩),h⟩
   cases he:bb k with
   | false=>rfl
   | true=>exact absurd h (mK he w)
theorem Ox {ks:List Ex} {j:Ex} (h:uQ ks=some j) (w:List UInt8):LE j w↔ei ks w:=by
 unfold uQ at h
 split at h
 ·rename_i hu
  cases h
  obtain ⟨k,hk,h2⟩:=List.any_eq_true.1 hu
  exact ⟨fun h=>absurd h (pa w),fun h=>absurd (gW.1 h k hk) (mK h2 w)⟩
 ·obtain ⟨p,hp,h⟩:=Option.bind_eq_some_iff.1 h
  obtain ⟨rfl,_⟩:=js hp
  obtain ⟨q,hq,h⟩:=Option.bind_eq_some_iff.1 h
  cases h
  rw [Fj,← OD ks,gW,gW]
  constructor
  ·intro H k hk
   cases he:fE k with
   | true=>exact o7 he w
   | false=>exact H k ((o6 hq).2 (List.mem_filter.2 ⟨hk,by rw [he];rfl⟩))
  ·intro H k hk
   rw [o6 hq,List.mem_filter] at hk
   exact H k hk.1
theorem Ow {ks:List Ex} {j:Ex} (h:oN ks=some j) (w:List UInt8):LE j w↔cA ks w:=by
 unfold oN at h
 split at h
 ·rename_i hu
  cases h
  exact ⟨fun h=>absurd h (pa w),fun h=>absurd h (pr hu)⟩
 ·obtain ⟨p,hp,h⟩:=Option.bind_eq_some_iff.1 h
  obtain ⟨rfl,_⟩:=js hp
  cases h
  rw [xX,nU,Br]
theorem cT.app {L:List UInt8→Prop} {u v:List UInt8} (h:cT L u) (k:cT L v):cT L (u++v):=by
 induction h with
 | nil=>exact k
 | cons h t ih=>rw [List.append_assoc];exact .cons h ih
theorem cT.mono {L M:List UInt8→Prop} (hm:∀ w,L w→M w) {u:List UInt8} (h:cT L u):cT M u:=by
 induction h with
 | nil=>exact .nil
 | cons h t ih=>exact .cons (hm _ h) ih
theorem cT.one {L:List UInt8→Prop} {u:List UInt8} (h:L u):cT L u:=by have:=cT.cons h (.nil (L:=L));rwa [List.append_nil] at this
theorem cT.star {L:List UInt8→Prop} {u:List UInt8} (h:cT (cT L) u):cT L u:=by
 induction h with
 | nil=>exact .nil
 | cons h t ih=>exact h.app ih
theorem cT.same {L M:List UInt8→Prop} (h:tG L M):tG (cT L) (cT M):=fun w=>⟨cT.mono fun w=>(h w).1,cT.mono fun w=>(h w).2⟩
theorem RW {k:Ex} (w:List UInt8):LE (eK 7 k) w↔cT (LE k) w:=by
 unfold eK
 rw [if_neg (by decide),if_pos rfl]
 split
 ·rename_i h
  rw [rV]
  constructor
  ·rintro rfl;exact .nil
  ·intro hs
   induction hs with
   | nil=>rfl
   | cons h1 t ih=>
    rcases h with h | h
    ·rw [Jd h] at h1;exact h1.elim
    ·rw [Tv h] at h1;subst h1;exact ih
 ·split
  ·rename_i h
   rcases h with h | h
   ·constructor
    ·exact cT.one
    ·intro hs
     rw [IU h]
     exact (cT.mono (fun w hw=>(IU h w).1 hw) hs).star
   ·exact ⟨fun _=>cT.one (o7 h w),fun _=>o7 h w⟩
  ·rw [IU rfl]
   exact cT.same (fun w=>gl) w
theorem Vk {k:Ex} (w:List UInt8):LE (eK 8 k) w↔¬ LE k w:=by
 unfold eK
 rw [if_pos rfl]
 split
 ·rename_i h
  rw [Pn h.1]
  obtain ⟨q,hq⟩:=List.length_eq_one_iff.1 h.2
  rw [hq,gl,Classical.not_not]
  rfl
 ·rw [Pn rfl]
  show ¬ cL [k] w↔_
  rw [gl]
def yW (op:Int) (ks:List Ex) (w:List UInt8):Prop:=if op=4 then cL ks w else if op=5 then cA ks w else if op=6 then ei ks w else if op=7 then cT (cL ks) w else ¬ cL ks w
theorem Ov {op:Int} {ks:List Ex} {j:Ex} (h:dN op ks=some j) (ho:op=4∨op=5∨op=6∨(op=7∨op=8)∧ks.length=1) (w:List UInt8):LE j w↔yW op ks w:=by
 unfold dN at h
 rcases ho with rfl | rfl | rfl | ⟨ho,hl⟩
 ·exact Ou h w
 ·exact Ow h w
 ·exact Ox h w
 ·obtain ⟨k,rfl⟩:=List.length_eq_one_iff.1 hl
  rcases ho with rfl | rfl
  ·simp only [show (7:Int) ≠ 4 by decide,show (7:Int) ≠ 5 by decide,show (7:Int) ≠ 6 by decide,if_false,List.length_singleton,if_true] at h
   cases h
   show LE (eK 7 k) w↔cT (cL [k]) w
   rw [RW]
   exact cT.same (fun w=>gl.symm) w
  ·simp only [show (8:Int) ≠ 4 by decide,show (8:Int) ≠ 5 by decide,show (8:Int) ≠ 6 by decide,if_false,List.length_singleton,if_true] at h
   cases h
   show LE (eK 8 k) w↔¬ cL [k] w
   rw [Vk,gl]
inductive rK:List Ex→List Ex→Prop
 | nil:rK [] []
 | cons {a b:Ex} {l m:List Ex} (h:tG (LE a) (LE b)) (t:rK l m):rK (a :: l) (b :: m)
theorem rK.any {l m:List Ex} (h:rK l m):tG (cL l) (cL m):=by
 induction h with
 | nil=>exact .rfl
 | cons h t ih=>intro w;simp only [cL];rw [h w,ih w]
theorem rK.all {l m:List Ex} (h:rK l m):tG (ei l) (ei m):=by
 induction h with
 | nil=>exact .rfl
 | cons h t ih=>intro w;simp only [ei];rw [h w,ih w]
theorem rK.cat {l m:List Ex} (h:rK l m):tG (cA l) (cA m):=by
 induction h with
 | nil=>exact .rfl
 | cons h t ih=>
  intro w;simp only [cA]
  constructor
  ·rintro ⟨u,v,e,h1,h2⟩;exact ⟨u,v,e,(h u).1 h1,(ih v).1 h2⟩
  ·rintro ⟨u,v,e,h1,h2⟩;exact ⟨u,v,e,(h u).2 h1,(ih v).2 h2⟩
theorem rK.node {l m:List Ex} (h:rK l m) (op:Int):tG (yW op l) (yW op m):=by
 intro w;unfold yW
 split
 ·exact h.any w
 ·split
  ·exact h.cat w
  ·split
   ·exact h.all w
   ·split
    ·exact cT.same h.any w
    ·rw [h.any w]
theorem He {op lt:Int} {ks:List Ex} (ho:op=4∨op=5∨op=6∨op=7∨op=8) (w:List UInt8):LE (.mk op lt ks) w↔yW op ks w:=by
 rcases ho with rfl | rfl | rfl | rfl | rfl
 ·exact MY rfl w
 ·exact MD rfl w
 ·exact QR rfl w
 ·exact IU rfl w
 ·exact Pn rfl w
theorem pA {n m:Int} (hnm:n≤m) (e:Ex):dg n e=true→dg m e=true:=by
 induction e using Ex.nh with
 | _ op lt ks ih=>
  intro h
  rcases fh h with ⟨rfl,rfl,h1,h2⟩ | ⟨rfl,h9⟩
  ·rw [nu];simp [h1];omega
  ·rw [nu]
   have kA:(∀ k∈ks,dg n k=true)→ks.all (dg m)=true:=fun h=>List.all_eq_true.2 fun k hk=>ih k hk (h k hk)
   rcases h9 with ⟨rfl | rfl,rfl⟩ | ⟨rfl | rfl | rfl,h1,h2⟩ | ⟨rfl | rfl,h1,h2⟩ <;> simp_all
theorem Ew (n:Int) (e:Ex):dg n e=true→(fq e=true↔LE e []):=by
 induction e using Ex.nh with
 | _ op lt ks ih=>
  intro h
  rw [iB]
  simp only [Ex.op,Ex.kids]
  have Aa:∀ ks:List Ex,cA ks []↔ei ks []:=fun ks=>by
   induction ks with
   | nil=>simp [cA,ei]
   | cons k ks Qw=>
    simp only [cA,ei]
    constructor
    ·rintro ⟨u,v,e,h1,h2⟩
     have e:=List.append_eq_nil_iff.1 e.symm
     obtain ⟨rfl,rfl⟩:=e
     exact ⟨h1,Qw.1 h2⟩
    ·rintro ⟨h1,h2⟩;exact ⟨[],[],rfl,h1,Qw.2 h2⟩
  have vv:(∀ k∈ks,dg n k=true)→(ks.any fq=true↔cL ks []):=fun hk=>by
   rw [List.any_eq_true,gm]
   exact ⟨fun ⟨k,h1,h2⟩=>⟨k,h1,(ih k h1 (hk k h1)).1 h2⟩,fun ⟨k,h1,h2⟩=>⟨k,h1,(ih k h1 (hk k h1)).2 h2⟩⟩
  have kA:(∀ k∈ks,dg n k=true)→(ks.all fq=true↔ei ks []):=fun hk=>by
   rw [List.all_eq_true,gW]
   exact ⟨fun h k h1=>(ih k h1 (hk k h1)).1 (h k h1),fun h k h1=>(ih k h1 (hk k h1)).2 (h k h1)⟩
  rcases fh h with ⟨rfl,rfl,h1,h2⟩ | ⟨rfl,h9⟩
  ·simp [LE]
  ·rcases h9 with ⟨rfl | rfl,rfl⟩ | ⟨rfl | rfl | rfl,h1,h2⟩ | ⟨rfl | rfl,h1,h2⟩
   ·simp [LE]
   ·simp [LE]
   ·rw [MY rfl];simpa [Ex.kids] using vv h2
   ·rw [MD rfl];simpa [Ex.kids,Aa] using kA h2
   ·rw [QR rfl];simpa [Ex.kids] using kA h2
   ·rw [IU rfl];simp;exact .nil
   ·rw [Pn rfl]
    obtain ⟨k,rfl⟩:=List.length_eq_one_iff.1 h1
    have:=vv h2
    simp only [List.any_cons,List.any_nil,Bool.or_false] at this
    simp only [Ex.kids,List.length_singleton,BEq.rfl,Bool.true_and]
    simp only [show (8:Int) ≠ 2 by decide,show (8:Int) ≠ 7 by decide,show (8:Int) ≠ 4 by decide,show (8:Int) ≠ 5 by decide,show (8:Int) ≠ 6 by decide,or_self,if_false,if_true,List.getD_cons_zero]
    rw [← this];simp
end Go.Sx
namespace Go.Sx
mutual
def dt:Ex→Nat
 | .mk _ _ ks=>1+dL ks
def dL:List Ex→Nat
 | []=>0
 | k :: ks=>dt k+dL ks
end
theorem jc (e:Ex):dt e=1+dL e.kids:=by obtain ⟨o,l,ks⟩:=e;rw [dt];rfl
theorem dx (o l:Int) (ks:List Ex):dt (.mk o l ks)=1+dL ks:=by rw [dt]
theorem aD (k:Ex) (ks:List Ex):dL (k :: ks)=dt k+dL ks:=by rw [dL]
theorem bU:dL []=0:=by rw [dL]
theorem AM:∀ (a b:List Ex),dL (a++b)=dL a+dL b
 | [],b=>by simp [bU]
 | k :: a,b=>by rw [List.cons_append,aD,aD,AM a b];omega
theorem kD:∀ ks:List Ex,ks.length≤dL ks
 | []=>by simp
 | k :: ks=>by have:=kD ks;rw [aD,List.length_cons,jc];omega
theorem KV {a b:List Ex} (h:a.Perm b):dL a=dL b:=by
 induction h with
 | nil=>rfl
 | cons x _ ih=>rw [aD,aD,ih]
 | swap x y l=>simp only [aD];omega
 | trans _ _ h1 h2=>exact h1.trans h2
theorem nC {a b:List Ex} (h:a.Sublist b):dL a≤dL b:=by
 induction h with
 | slnil=>exact Nat.le_refl _
 | cons x _ ih=>rw [aD];omega
 | cons_cons x _ ih=>rw [aD,aD];omega
theorem jO {k:Ex}:∀ {ks:List Ex},k∈ks→dt k≤dL ks
 | a :: ks,h=>by
  rw [aD]
  rcases List.mem_cons.1 h with rfl | h
  ·omega
  ·have:=jO h;omega
theorem G5 {α:Type} {q:α→α→Bool} {d:α} {xs:List α}:∀ m,m≤xs.length→(uM q d xs m).Sublist (xs.take m)
 | 0,_=>by simp [uM]
 | m+1,h=>by
  have ih:=G5 (q:=q) (d:=d) (xs:=xs) m (by omega)
  rw [aO d xs m (by omega)]
  unfold uM
  split
  ·exact ih.trans (List.sublist_append_left _ _)
  ·exact ih.append (List.Sublist.refl _)
theorem Gh {l m:List Ex} (h:Jj l=some m):dL m≤dL l:=by
 cases h
 have h1:=nC (G5 (q:=qe) (d:=default) (xs:=gw l) (gw l).length (Nat.le_refl _))
 rw [List.take_length,KV (lu l)] at h1
 exact h1
theorem oZ (op:Int):∀ ks:List Ex,dL (bG op ks)≤dL ks
 | []=>by simp [bG]
 | k :: ks=>by
  have e:bG op (k :: ks)=(if k.op=op then k.kids else [k])++bG op ks:=by simp [bG]
  have ih:=oZ op ks
  rw [e,AM,aD]
  have:dL (if k.op=op then k.kids else [k])≤dt k:=by
   split
   ·rw [jc];omega
   ·rw [aD,bU];omega
  omega
theorem pj (op:Int) (ps:List Ex) (nn:Ex):dt (bp op ps nn)≤dt nn∨dt (bp op ps nn)≤1+dL ps:=by
 match ps with
 | []=>exact .inl (Nat.le_refl _)
 | [p]=>right;show dt p≤_;rw [aD];omega
 | a :: b :: l=>right;show dt (.mk op 0 _)≤_;rw [dx];omega
theorem Gg:dt gg=2:=by simp [gg,aP,dx,aD,bU]
theorem k8:dt aP=1:=by simp [aP,dx,bU]
theorem rW:dt bu=1:=by simp [bu,dx,bU]
theorem wG {α:Type} {l:List α} (h:l.length≤1073741824):lim l=some l:=if_pos h
def Pm (n:Int) (ks:List Ex) (j:Ex):Prop:=(dt j≤2∨dt j≤1+dL ks)∧((∀ k∈ks,dg n k=true)→dg n j=true)
theorem Nn {n op:Int} {ks:List Ex} (ho:op=4∨op=5∨op=6) (hl:2≤ks.length) (h:∀ k∈ks,dg n k=true):dg n (.mk op 0 ks)=true:=by
 rw [nu]
 have:ks.all (dg n)=true:=List.all_eq_true.2 h
 rcases ho with rfl | rfl | rfl <;> simp [this,hl]
theorem wR {n op:Int} {k:Ex} (ho:op=7∨op=8) (h:dg n k=true):dg n (.mk op 0 [k])=true:=by
 rw [nu]
 rcases ho with rfl | rfl <;> simp [h]
theorem nB {n:Int} {k:Ex} (h:dg n k=true):∀ x∈k.kids,dg n x=true:=by
 obtain ⟨o,l,ks⟩:=k
 intro x hx
 simp only [Ex.kids] at hx
 rcases fh h with ⟨_,rfl,_⟩ | ⟨_,⟨_,rfl⟩ | ⟨_,_,h⟩ | ⟨_,_,h⟩⟩
 ·cases hx
 ·cases hx
 ·exact h x hx
 ·exact h x hx
theorem AH {n op:Int} {ks:List Ex} (h:∀ k∈ks,dg n k=true):∀ x∈bG op ks,dg n x=true:=by
 intro x hx
 obtain ⟨k,hk,hx⟩:=List.mem_flatMap.1 hx
 split at hx
 ·exact nB (h k hk) x hx
 ·simp at hx;subst hx;exact h x hk
theorem rh {n op:Int} {ps:List Ex} {nn:Ex} (ho:op=4∨op=5∨op=6) (h:∀ k∈ps,dg n k=true) (hn:dg n nn=true):dg n (bp op ps nn)=true:=by
 match ps,h with
 | [],_=>exact hn
 | [p],h=>exact h p List.mem_cons_self
 | a :: b :: l,h=>exact Nn ho (by simp) h
theorem F6 (n:Int):dg n gg=true:=wR (.inr rfl) (by rw [aP,nu];simp)
theorem wS (n:Int):dg n aP=true:=by rw [aP,nu];simp
theorem AF (n:Int):dg n bu=true:=by rw [bu,nu];simp
theorem LL (n:Int) {ks:List Ex} (h:dL ks≤1073741824):∃ j,qu ks=some j∧Pm n ks j:=by
 unfold qu
 split
 ·exact ⟨_,rfl,.inl (by rw [Gg];omega),fun _=>F6 n⟩
 ·have h1:=oZ 4 ks
  have h2:=kD (bG 4 ks)
  rw [wG (by omega)]
  refine ⟨_,rfl,?_,fun hk=>?_⟩
  ·have h3:=Gh (l:=(bG 4 ks).filter fun e=>!bb e) rfl
   have h4:=nC (List.filter_sublist (l:=bG 4 ks) (p:=fun e=>!bb e))
   have:=pj 4 (hD (gw ((bG 4 ks).filter fun e=>!bb e))) aP
   rw [k8] at this
   omega
  ·exact rh (.inl rfl) (fun k vB=>by rw [pV,pU,List.mem_filter] at vB;exact AH hk k vB.1) (wS n)
theorem LO (n:Int) {ks:List Ex} (h:dL ks≤1073741824):∃ j,uQ ks=some j∧Pm n ks j:=by
 unfold uQ
 split
 ·exact ⟨_,rfl,.inl (by rw [k8];omega),fun _=>wS n⟩
 ·have h1:=oZ 6 ks
  have h2:=kD (bG 6 ks)
  rw [wG (by omega)]
  refine ⟨_,rfl,?_,fun hk=>?_⟩
  ·have h3:=Gh (l:=(bG 6 ks).filter fun e=>!fE e) rfl
   have h4:=nC (List.filter_sublist (l:=bG 6 ks) (p:=fun e=>!fE e))
   have:=pj 6 (hD (gw ((bG 6 ks).filter fun e=>!fE e))) gg
   rw [Gg] at this
   omega
  ·exact rh (.inr (.inr rfl)) (fun k vB=>by rw [pV,pU,List.mem_filter] at vB;exact AH hk k vB.1) (F6 n)
theorem LN (n:Int) {ks:List Ex} (h:dL ks≤1073741824):∃ j,oN ks=some j∧Pm n ks j:=by
 unfold oN
 split
 ·exact ⟨_,rfl,.inl (by rw [k8];omega),fun _=>wS n⟩
 ·have h1:=oZ 5 ks
  have h2:=kD (bG 5 ks)
  rw [wG (by omega)]
  refine ⟨_,rfl,?_,fun hk=>?_⟩
  ·have h4:=nC (List.filter_sublist (l:=bG 5 ks) (p:=fun e=>!eA e))
   have:=pj 5 ((bG 5 ks).filter fun e=>!eA e) bu
   rw [rW] at this
   omega
  ·exact rh (.inr (.inl rfl)) (fun k vB=>by rw [List.mem_filter] at vB;exact AH hk k vB.1) (AF n)
theorem C1 (n:Int) {op:Int} {k:Ex} (ho:op=7∨op=8):Pm n [k] (eK op k):=by
 have hs:dL [k]=dt k:=by rw [aD,bU];rfl
 unfold Pm
 rw [hs]
 rcases ho with rfl | rfl
 ·unfold eK
  rw [if_neg (by decide),if_pos rfl]
  split
  ·exact ⟨.inl (by rw [rW];omega),fun _=>AF n⟩
  ·split
   ·exact ⟨.inr (by omega),fun h=>h k List.mem_cons_self⟩
   ·exact ⟨.inr (by rw [dx,hs];omega),fun h=>wR (.inl rfl) (h k List.mem_cons_self)⟩
 ·unfold eK
  rw [if_pos rfl]
  split
  ·rename_i h1
   obtain ⟨q,hq⟩:=List.length_eq_one_iff.1 h1.2
   rw [hq]
   refine ⟨.inr ?_,fun h=>nB (h k List.mem_cons_self) _ (by rw [hq];simp)⟩
   have:dt k=1+dt q:=by rw [jc,hq,aD,bU];rfl
   simp;omega
  ·exact ⟨.inr (by rw [dx,hs];omega),fun h=>wR (.inr rfl) (h k List.mem_cons_self)⟩
theorem gM (n:Int) {op:Int} {ks:List Ex} (ho:op=4∨op=5∨op=6∨(op=7∨op=8)∧ks.length=1) (h:dL ks≤1073741824):∃ j,dN op ks=some j∧Pm n ks j∧∀ w,LE j w↔yW op ks w:=by
 have key:∃ j,dN op ks=some j∧Pm n ks j:=by
  unfold dN
  rcases ho with rfl | rfl | rfl | ⟨ho,hl⟩
  ·exact LL n h
  ·exact LN n h
  ·exact LO n h
  ·obtain ⟨k,rfl⟩:=List.length_eq_one_iff.1 hl
   rcases ho with rfl | rfl
   ·exact ⟨_,rfl,C1 n (.inl rfl)⟩
   ·exact ⟨_,rfl,C1 n (.inr rfl)⟩
 obtain ⟨j,h1,h2⟩:=key
 exact ⟨j,h1,h2,Ov h1 ho⟩
theorem zh {n op lt:Int} {ks:List Ex} (h:dg n (.mk op lt ks)=true) (hk:ks ≠ []):lt=0∧(op=4∨op=5∨op=6∨(op=7∨op=8)∧ks.length=1)∧∀ k∈ks,dg n k=true:=by
 rcases fh h with ⟨_,h,_⟩ | ⟨h0,⟨_,h⟩ | ⟨ho,hl,h⟩ | ⟨ho,hl,h⟩⟩
 ·exact absurd h hk
 ·exact absurd h hk
 ·exact ⟨h0,by rcases ho with h | h | h <;> simp [h],h⟩
 ·exact ⟨h0,.inr (.inr (.inr ⟨ho,hl⟩)),h⟩
def KO (n:Int) (e:Ex):Prop:=dg n e=true→dt e≤1000000→∃ e',kr e=some e'∧dt e'≤2 * dt e∧dg n e'=true∧tG (LE e') (LE e)
theorem CI {n:Int}:∀ ks:List Ex,(∀ k∈ks,KO n k)→(∀ k∈ks,dg n k=true)→dL ks≤1000000→∃ l,nY ks=some l∧dL l≤2 * dL ks∧l.length=ks.length∧(∀ k∈l,dg n k=true)∧rK l ks
 | [],_,_,_=>⟨[],by rw [nY],by simp [bU],rfl,by simp,.nil⟩
 | k :: ks,h,hw,hs=>by
  rw [aD] at hs
  obtain ⟨a,h1,h2,h3,h4⟩:=h k List.mem_cons_self (hw k List.mem_cons_self) (by omega)
  obtain ⟨l,g1,g2,g3,g4,g5⟩:=CI ks (fun q hq=>h q (List.mem_cons_of_mem _ hq)) (fun q hq=>hw q (List.mem_cons_of_mem _ hq)) (by omega)
  refine ⟨a :: l,by rw [nY,h1,g1];rfl,by rw [aD,aD];omega,by simp [g3],fun q hq=>?_,.cons h4 g5⟩
  rcases List.mem_cons.1 hq with rfl | hq
  ·exact h3
  ·exact g4 q hq
theorem AQ (n:Int) (e:Ex):KO n e:=by
 induction e using Ex.nh with
 | _ op lt ks ih=>
  intro hw hs
  rw [dx] at hs
  rw [kr]
  by_cases hk:ks=[]
  ·subst hk
   exact ⟨_,rfl,by rw [dx];omega,hw,.rfl⟩
  ·have hl:=kD ks
   have Jr:0<ks.length:=List.length_pos_iff.2 hk
   rw [if_neg (by omega),if_pos (by omega)]
   obtain ⟨h0,ho,hkw⟩:=zh hw hk
   obtain ⟨l,g1,g2,g3,g4,g5⟩:=CI ks ih hkw (by omega)
   obtain ⟨j,j1,⟨j2,j3⟩,j4⟩:=gM n (op:=op) (ks:=l) (by rw [g3];exact ho) (by omega)
   refine ⟨j,by rw [g1];exact j1,by rw [dx];omega,j3 g4,fun w=>?_⟩
   rw [j4,He (by rcases ho with h | h | h | ⟨h | h,_⟩ <;> simp [h])]
   exact g5.node op w
theorem zA:∀ (d:Nat) (e:Ex) (left l:Nat),gz d e left=some l→l+dt e=left
 | 0,e,left,l,h=>by simp [gz] at h
 | d+1,e,left,l,h=>by
  unfold gz at h
  split at h
  ·cases h
  ·rename_i h0
   have key:∀ (ks:List Ex) (a b:Nat),ks.foldlM (fun l k=>gz d k l) a=some b→b+dL ks=a:=by
    intro ks
    induction ks with
    | nil=>intro a b h;simp at h;rw [bU];omega
    | cons k ks ih=>
     intro a b h
     rw [List.foldlM_cons] at h
     obtain ⟨m,h1,h2⟩:=Option.bind_eq_some_iff.1 h
     have:=zA d k a m h1
     have:=ih m b h2
     rw [aD];omega
   have:=key _ _ _ h
   rw [jc];omega
theorem GS:∀ (d:Nat) (e:Ex) (left:Nat),dt e≤d→dt e≤left→gz d e left=some (left - dt e)
 | 0,e,left,h,_=>by rw [jc] at h;omega
 | d+1,e,left,h,h2=>by
  rw [jc] at h h2
  unfold gz
  rw [if_neg (by omega)]
  have key:∀ (ks:List Ex) (a:Nat),dL ks≤d→dL ks≤a→ks.foldlM (fun l k=>gz d k l) a=some (a - dL ks):=by
   intro ks
   induction ks with
   | nil=>intro a _ _;simp [bU]
   | cons k ks ih=>
    intro a h h2
    rw [aD] at h h2
    rw [List.foldlM_cons,GS d k a (by omega) (by omega)]
    show ks.foldlM (fun l k=>gz d k l) (a - dt k)=_
    rw [ih _ (by omega) (by omega),aD];congr 1;omega
  rw [key _ _ (by omega) (by omega),jc];congr 1;omega
theorem iu {e:Ex} {n:Int} (h:cg e n=0):dt e≤400∧dg n e=true∧1≤n∧n≤6:=by
 unfold cg at h
 split at h
 ·cases h
 ·rename_i h1
  split at h
  ·rename_i h2
   split at h
   ·rename_i h3
    obtain ⟨l,hl⟩:=Option.isSome_iff_exists.1 h2
    have:=zA 40 e 400 l hl
    exact ⟨by omega,h3,by omega,by omega⟩
   ·cases h
  ·cases h
theorem oY {e:Ex} {n:Int} (hn:1≤n∧n≤6) (hs:dt e≤40) (hw:dg n e=true):cg e n=0:=by
 unfold cg
 rw [if_neg (by omega),GS 40 e 400 hs (by omega)]
 simp [hw]
def cb (n:Nat):Nat:=n * n * n
theorem EF (a b:Nat):cb a+cb b≤cb (a+b):=by
 unfold cb
 simp only [Nat.add_mul,Nat.mul_add]
 omega
theorem S5 (n:Nat):cb (1+n)=1+3 * n+3 * (n * n)+cb n:=by
 unfold cb
 simp only [Nat.add_mul,Nat.mul_add,Nat.one_mul,Nat.mul_one]
 omega
theorem Cz {n:Nat} (h:n≤500):cb n≤125000000:=by
 unfold cb
 have h1:n * n≤500 * 500:=Nat.mul_le_mul h h
 exact Nat.mul_le_mul h1 h
structure aaH (c:UInt8) (e:Ex) (d:Dv):Prop where
 Hi:dt d.1≤2 * cb (dt e)
 Hh:dt d.2.1≤2 * dt e
 ky:∀ w,LE d.1 w↔LE e (c :: w)
 self:tG (LE d.2.1) (LE e)
 O2:d.2.2=true↔LE e []
theorem y4 {L:List UInt8→Prop} {c:UInt8} {w:List UInt8}:cT L (c :: w)↔∃ u v,w=u++v∧L (c :: u)∧cT L v:=by
 constructor
 ·intro h
  generalize hx:c :: w=x at h
  induction h with
  | nil=>cases hx
  | @cons u v h t ih=>
   cases u with
   | nil=>exact ih hx
   | cons a u=>
    simp only [List.cons_append,List.cons.injEq] at hx
    obtain ⟨rfl,rfl⟩:=hx
    exact ⟨u,v,rfl,h,t⟩
 ·rintro ⟨u,v,rfl,h1,h2⟩
  exact cT.cons (u:=c :: u) h1 h2
theorem Dl {k:Ex} {ks:List Ex} {c:UInt8} {w:List UInt8}:cA (k :: ks) (c :: w)↔(∃ u v,w=u++v∧LE k (c :: u)∧cA ks v)∨(LE k []∧cA ks (c :: w)):=by
 simp only [cA]
 constructor
 ·rintro ⟨u,v,e,h1,h2⟩
  cases u with
  | nil=>rw [List.nil_append] at e;subst e;exact .inr ⟨h1,h2⟩
  | cons a u=>
   simp only [List.cons_append,List.cons.injEq] at e
   obtain ⟨rfl,rfl⟩:=e
   exact .inl ⟨u,v,rfl,h1,h2⟩
 ·rintro (⟨u,v,rfl,h1,h2⟩ | ⟨h1,h2⟩)
  ·exact ⟨c :: u,v,rfl,h1,h2⟩
  ·exact ⟨[],c :: w,rfl,h1,h2⟩
structure aaI (c:UInt8) (ks:List Ex) (ds:List Dv):Prop where
 len:ds.length=ks.length
 Hi:dL (ds.map (·.1))≤2 * cb (dL ks)
 Hh:dL (ds.map (·.2.1))≤2 * dL ks
 any:∀ w,cL (ds.map (·.1)) w↔cL ks (c :: w)
 all:∀ w,ei (ds.map (·.1)) w↔ei ks (c :: w)
 self:rK (ds.map (·.2.1)) ks
 Q2:0<(ds.filter (·.2.2)).length↔cL ks []
 Ul:(ds.filter (·.2.2)).length=ds.length↔ei ks []
section
variable {c : UInt8} {a : Int} {nm : Bool} {n : Int}
def RK (c:UInt8) (a:Int) (nm:Bool) (n:Int) (e:Ex):Prop:=dg n e=true→dt e≤500→∃ d,eM a nm e=some d∧aaH c e d
theorem xB:∀ ks:List Ex,(∀ k∈ks,RK c a nm n k)→(∀ k∈ks,dg n k=true)→dL ks≤500→∃ ds,qz a nm ks=some ds∧aaI c ks ds
 | [],_,_,_=>⟨[],by rw [qz],⟨rfl,by simp [bU],by simp [bU],fun w=>by simp [cL],fun w=>by simp [ei],.nil,by simp [cL],by simp [ei]⟩⟩
 | k :: ks,h,hw,hs=>by
  rw [aD] at hs
  obtain ⟨d,h1,h2⟩:=h k List.mem_cons_self (hw k List.mem_cons_self) (by omega)
  obtain ⟨ds,g1,g2⟩:=xB ks (fun q hq=>h q (List.mem_cons_of_mem _ hq)) (fun q hq=>hw q (List.mem_cons_of_mem _ hq)) (by omega)
  have Pf:=EF (dt k) (dL ks)
  have e1:=h2.Hi;have e2:=h2.Hh;have e3:=g2.Hi;have e4:=g2.Hh
  refine ⟨d :: ds,by rw [qz,h1,g1];rfl,⟨by simp [g2.len],?_,?_,fun w=>?_,fun w=>?_,.cons h2.self g2.self,?_,?_⟩⟩
  ·rw [List.map_cons,aD,aD];omega
  ·rw [List.map_cons,aD,aD];omega
  ·rw [List.map_cons];simp only [cL];rw [h2.ky,g2.any]
  ·rw [List.map_cons];simp only [ei];rw [h2.ky,g2.all]
  ·simp only [cL];rw [← h2.O2,← g2.Q2,List.filter_cons]
   split
   ·rename_i hd;simp [hd]
   ·rename_i hd;simp [hd]
  ·simp only [ei];rw [← h2.O2,← g2.Ul,List.filter_cons]
   have:=List.length_filter_le (fun x:Dv=>x.2.2) ds
   split
   ·rename_i hd;simp [hd]
   ·rename_i hd
    simp only [List.length_cons,hd,Bool.false_eq_true,false_and,iff_false]
    omega
structure aaJ (c:UInt8) (ks:List Ex) (nl:Bool) (x:List Ex × List Ex × Bool):Prop where
 len:x.1.length≤ks.length
 mh:x.2.1.length=ks.length
 Hi:dL x.1≤2 * cb (dL ks)
 Hh:dL x.2.1≤2 * dL ks
 self:rK x.2.1 ks
 O2:x.2.2=true↔nl=true∧ei ks []
 parts:∃ ps,kj x.1 x.2.1=some ps∧dL ps≤dL x.1+x.1.length * (2+dL x.2.1)∧∀ w,cL ps w↔nl=true∧cA ks (c :: w)
theorem Oa (b:Ex) (ss:List Ex) (h:dt b+dL ss≤1000000000):∃ p,(if b.op=1 then some b else dN 5 (b :: ss))=some p∧dt p≤2+dt b+dL ss∧∀ w,LE p w↔cA (b :: ss) w:=by
 split
 ·rename_i h1
  refine ⟨b,rfl,by omega,fun w=>?_⟩
  rw [Jd h1]
  refine ⟨False.elim,?_⟩
  rintro ⟨u,v,_,h2,_⟩
  exact (Jd h1 u).1 h2
 ·obtain ⟨j,j1,⟨j2,_⟩,j4⟩:=gM 0 (op:=5) (ks:=b :: ss) (.inr (.inl rfl)) (by rw [aD];omega)
  rw [aD] at j2
  exact ⟨j,j1,by omega,fun w=>j4 w⟩
theorem xD:∀ (ks:List Ex) (nl:Bool),(∀ k∈ks,RK c a nm n k)→(∀ k∈ks,dg n k=true)→dL ks≤500→∃ x,gZ a nm nl ks=some x∧aaJ c ks nl x
 | [],nl,_,_,_=>⟨([],[],nl),by rw [gZ],⟨Nat.le_refl _,rfl,by simp [bU],by simp [bU],.nil,by simp [ei],[],by rw [kj],by simp [bU],fun w=>by simp [cL,cA]⟩⟩
 | k :: ks,true,h,hw,hs=>by
  rw [aD] at hs
  obtain ⟨d,h1,h2⟩:=h k List.mem_cons_self (hw k List.mem_cons_self) (by omega)
  obtain ⟨x,g1,g2⟩:=xD ks d.2.2 (fun q hq=>h q (List.mem_cons_of_mem _ hq)) (fun q hq=>hw q (List.mem_cons_of_mem _ hq)) (by omega)
  have Pf:=EF (dt k) (dL ks)
  have e1:=h2.Hi;have e2:=h2.Hh;have e3:=g2.Hi;have e4:=g2.Hh;have e5:=g2.len;have e6:=g2.mh
  have XX:=Cz (n:=dt k) (by omega)
  have WS:=Cz (n:=dL ks) (by omega)
  obtain ⟨ps,p1,p2,p3⟩:=g2.parts
  obtain ⟨p,q1,q2,q3⟩:=Oa d.1 x.2.1 (by omega)
  refine ⟨(d.1 :: x.1,d.2.1 :: x.2.1,x.2.2),by rw [gZ,h1];show (gZ a nm d.2.2 ks).bind _=_;rw [g1];rfl,⟨by simp;omega,by simp [e6],?_,?_,.cons h2.self g2.self,?_,p :: ps,?_,?_,fun w=>?_⟩⟩
  ·rw [aD,aD];omega
  ·rw [aD,aD];omega
  ·simp only [ei];rw [g2.O2,h2.O2];simp
  ·rw [kj];simp only [List.drop_succ_cons,List.drop_zero];rw [q1,p1];rfl
  ·simp only [aD,List.length_cons]
   have hm:x.1.length * (2+dL x.2.1)≤x.1.length * (2+(dt d.2.1+dL x.2.1)):=Nat.mul_le_mul_left _ (by omega)
   rw [Nat.add_mul,Nat.one_mul];omega
  ·simp only [cL]
   rw [q3,p3,Dl,h2.O2]
   simp only [true_and]
   have e:cA (d.1 :: x.2.1) w↔∃ u v,w=u++v∧LE k (c :: u)∧cA ks v:=by
    simp only [cA]
    constructor
    ·rintro ⟨u,v,e,r1,r2⟩;exact ⟨u,v,e,(h2.ky u).1 r1,(g2.self.cat v).1 r2⟩
    ·rintro ⟨u,v,e,r1,r2⟩;exact ⟨u,v,e,(h2.ky u).2 r1,(g2.self.cat v).2 r2⟩
   rw [e]
 | k :: ks,false,h,hw,hs=>by
  rw [aD] at hs
  have Vq:∃ s,(if nm then some k else kr k)=some s∧dt s≤2 * dt k∧tG (LE s) (LE k):=by
   split
   ·exact ⟨k,rfl,by omega,.rfl⟩
   ·obtain ⟨s,h1,h2,_,h3⟩:=AQ n k (hw k List.mem_cons_self) (by omega)
    exact ⟨s,h1,h2,h3⟩
  obtain ⟨s,h1,h2,h3⟩:=Vq
  obtain ⟨x,g1,g2⟩:=xD ks false (fun q hq=>h q (List.mem_cons_of_mem _ hq)) (fun q hq=>hw q (List.mem_cons_of_mem _ hq)) (by omega)
  have Pf:=EF (dt k) (dL ks)
  have e3:=g2.Hi;have e4:=g2.Hh;have e5:=g2.len;have e6:=g2.mh
  have hx:x.1=[]:=by
   have key:∀ (ks:List Ex) (x:List Ex × List Ex × Bool),gZ a nm false ks=some x→x.1=[]:=by
    intro ks
    induction ks with
    | nil=>intro x hx;rw [gZ] at hx;cases hx;rfl
    | cons k ks ih=>
     intro x hx
     rw [gZ] at hx
     obtain ⟨_,_,hx⟩:=Option.bind_eq_some_iff.1 hx
     obtain ⟨y,hy,hx⟩:=Option.bind_eq_some_iff.1 hx
     cases hx
     exact ih y hy
   exact key ks x g1
  refine ⟨(x.1,s :: x.2.1,x.2.2),by rw [gZ,h1];show (gZ a nm false ks).bind _=_;rw [g1];rfl,⟨by simp;omega,by simp [e6],?_,?_,.cons h3 g2.self,?_,[],?_,?_,fun w=>?_⟩⟩
  ·show dL x.1≤2 * cb (dL (k :: ks));rw [aD];omega
  ·rw [aD,aD];omega
  ·rw [g2.O2];simp
  ·show kj x.1 _=_;rw [hx,kj]
  ·rw [bU];omega
  ·simp [cL]
theorem OM (hc:(c.toNat:Int) - 97=a) (e:Ex):RK c a nm n e:=by
 induction e using Ex.nh with
 | _ op lt ks ih=>
  intro hw hs
  rw [dx] at hs
  have Ci:=S5 (dL ks)
  have hl:=kD ks
  rcases fh hw with ⟨rfl,rfl,h0,h1⟩ | ⟨rfl,h9⟩
  ·
   refine ⟨(if lt=a then bu else aP,.mk 3 lt [],false),by rw [eM];rfl,⟨?_,?_,fun w=>?_,.rfl,?_⟩⟩
   ·rw [dx,Ci];split
    ·rw [rW];omega
    ·rw [k8];omega
   ·simp only [dx];omega
   ·show LE (if lt=a then bu else aP) w↔_
    simp only [LE]
    split
    ·rename_i he
     rw [rV]
     simp only [show (3:Int) ≠ 2 by decide,if_false,if_true]
     constructor
     ·rintro rfl;exact ⟨c,rfl,by omega⟩
     ·rintro ⟨c',e,_⟩;simp at e;exact e.2
    ·rename_i he
     simp only [show (3:Int) ≠ 2 by decide,if_false,if_true]
     refine ⟨fun h=>absurd h (pa w),?_⟩
     rintro ⟨c',e,h2⟩
     simp at e;obtain ⟨rfl,rfl⟩:=e;exact absurd (by omega) he
   ·simp [LE]
  ·rcases h9 with ⟨Tt,rfl⟩ | ⟨ho,hlen,hk⟩ | ⟨ho,hlen,hk⟩
   ·rcases Tt with rfl | rfl
    ·refine ⟨(aP,aP,false),by rw [eM];rfl,⟨?_,?_,fun w=>?_,fun w=>?_,?_⟩⟩
     ·rw [dx,Ci,k8];omega
     ·rw [dx];show dt aP≤_;rw [k8];omega
     ·rw [Jd rfl,Jd rfl]
     ·rw [Jd rfl,Jd rfl]
     ·simp [LE]
    ·refine ⟨(aP,bu,true),by rw [eM];rfl,⟨?_,?_,fun w=>?_,fun w=>?_,?_⟩⟩
     ·rw [dx,Ci,k8];omega
     ·rw [dx];show dt bu≤_;rw [rW];omega
     ·rw [Jd rfl,Tv rfl];simp
     ·rw [Tv rfl,Tv rfl]
     ·simp [LE]
   ·by_cases h5:op=5
    ·
     subst h5
     obtain ⟨x,g1,g2⟩:=xD (n:=n) ks true (fun k h=>ih k h) hk (by omega)
     obtain ⟨ps,p1,p2,p3⟩:=g2.parts
     have e1:=g2.Hi;have e2:=g2.Hh;have e3:=g2.len
     have hb:=Cz (n:=dL ks) (by omega)
     have Tq:x.1.length * (2+dL x.2.1)≤dL ks * (2+2 * dL ks):=Nat.mul_le_mul (by omega) (by omega)
     have gG:dL ks * (2+2 * dL ks)=2 * dL ks+2 * (dL ks * dL ks):=by rw [Nat.mul_add];simp only [Nat.mul_left_comm,Nat.mul_comm]
     have DT:dL ks * dL ks≤500 * 500:=Nat.mul_le_mul (by omega) (by omega)
     obtain ⟨b,b1,⟨b2,_⟩,b4⟩:=gM n (op:=4) (ks:=ps) (.inl rfl) (by omega)
     obtain ⟨s,s1,⟨s2,_⟩,s4⟩:=gM n (op:=5) (ks:=x.2.1) (.inr (.inl rfl)) (by omega)
     refine ⟨(b,s,x.2.2),?_,⟨?_,?_,fun w=>?_,fun w=>?_,?_⟩⟩
     ·rw [eM]
      simp only [show (5:Int) ≠ 2 by decide,show (5:Int) ≠ 3 by decide,show (5:Int) ≠ 4 by decide,show (5:Int) ≠ 6 by decide,show (5:Int) ≠ 7 by decide,show (5:Int) ≠ 8 by decide,or_self,if_false,if_true]
      rw [if_pos (by omega),g1]
      show (kj x.1 x.2.1).bind _=_
      rw [p1]
      show (dN 4 ps).bind _=_
      rw [b1]
      show (dN 5 x.2.1).bind _=_
      rw [s1];rfl
     ·rw [dx,Ci];show dt b≤_;omega
     ·rw [dx];show dt s≤_;omega
     ·rw [b4,MD rfl]
      show cL ps w↔cA ks (c :: w)
      rw [p3];simp
     ·rw [s4,MD rfl]
      exact g2.self.cat w
     ·show x.2.2=true↔_
      rw [g2.O2,MD rfl]
      show _↔cA ks []
      have Aa:∀ ks:List Ex,cA ks []↔ei ks []:=fun ks=>by
       induction ks with
       | nil=>simp [cA,ei]
       | cons k ks Qw=>
        simp only [cA,ei]
        constructor
        ·rintro ⟨u,v,e,h1,h2⟩
         obtain ⟨rfl,rfl⟩:=List.append_eq_nil_iff.1 e.symm
         exact ⟨h1,Qw.1 h2⟩
        ·rintro ⟨h1,h2⟩;exact ⟨[],[],rfl,h1,Qw.2 h2⟩
      rw [Aa];simp
    ·
     have I4:op=4∨op=6:=by omega
     obtain ⟨ds,g1,g2⟩:=xB (n:=n) ks (fun k h=>ih k h) hk (by omega)
     have e1:=g2.Hi;have e2:=g2.Hh;have e3:=g2.len
     have hb:=Cz (n:=dL ks) (by omega)
     obtain ⟨b,b1,⟨b2,_⟩,b4⟩:=gM n (op:=op) (ks:=ds.map (·.1)) (by omega) (by omega)
     obtain ⟨s,s1,⟨s2,_⟩,s4⟩:=gM n (op:=op) (ks:=ds.map (·.2.1)) (by omega) (by omega)
     refine ⟨(b,s,if op=4 then decide (0<(ds.filter (·.2.2)).length) else if op=6 then decide ((ds.filter (·.2.2)).length=ds.length) else if op=8 then decide ((ds.filter (·.2.2)).length=0) else false),?_,⟨?_,?_,fun w=>?_,fun w=>?_,?_⟩⟩
     ·rw [eM,if_neg (by omega),if_neg (by omega),if_pos (by omega),if_pos (by omega),g1]
      show uR op ds=_
      unfold uR
      rw [b1]
      show (dN op (ds.map (·.2.1))).bind _=_
      rw [s1];rfl
     ·rw [dx,Ci];show dt b≤_;omega
     ·rw [dx];show dt s≤_;omega
     ·rw [b4]
      rcases I4 with rfl | rfl
      ·rw [MY rfl];exact g2.any w
      ·rw [QR rfl];exact g2.all w
     ·rw [s4,He (by omega)];exact g2.self.node op w
     ·rcases I4 with rfl | rfl
      ·rw [MY rfl];simp only [if_true,decide_eq_true_eq];exact g2.Q2
      ·rw [QR rfl];simp only [show (6:Int) ≠ 4 by decide,if_false,if_true,decide_eq_true_eq];exact g2.Ul
   ·obtain ⟨k,rfl⟩:=List.length_eq_one_iff.1 hlen
    obtain ⟨ds,g1,g2⟩:=xB (n:=n) [k] (fun k h=>ih k h) hk (by omega)
    have e1:=g2.Hi;have e2:=g2.Hh
    have hb:=Cz (n:=dL [k]) (by omega)
    obtain ⟨d,rfl⟩:=List.length_eq_one_iff.1 (g2.len.trans hlen)
    simp only [List.map_cons,List.map_nil,aD,bU] at e1 e2 Ci hs
    have hkp:1≤dt k:=by rw [jc];omega
    rcases ho with rfl | rfl
    ·
     obtain ⟨s,s1,⟨s2,_⟩,s4⟩:=gM n (op:=7) (ks:=[d.2.1]) (.inr (.inr (.inr ⟨.inl rfl,rfl⟩))) (by rw [aD,bU];omega)
     rw [aD,bU] at s2
     simp only [aD,bU] at hb
     obtain ⟨b,b1,⟨b2,_⟩,b4⟩:=gM n (op:=5) (ks:=[d.1,s]) (.inr (.inl rfl)) (by rw [aD,aD,bU];omega)
     rw [aD,aD,bU] at b2
     have Qx:tG (LE s) (cT (cL [k])):=fun w=>by
      rw [s4]
      exact cT.same (fun w=>(g2.self.any w)) w
     refine ⟨(b,s,true),?_,⟨?_,?_,fun w=>?_,fun w=>?_,?_⟩⟩
     ·rw [eM,if_neg (by omega),if_neg (by omega),if_neg (by omega),if_pos rfl,g1]
      show (dN 7 [d.2.1]).bind (fun s=>(dN 5 [d.1,s]).bind fun b=>some (b,s,true))=_
      rw [s1,Option.bind_some,b1,Option.bind_some]
     ·rw [dx];simp only [aD,bU];rw [Ci];show dt b≤_;omega
     ·rw [dx];simp only [aD,bU];show dt s≤_;omega
     ·rw [b4,IU rfl,y4]
      show cA [d.1,s] w↔∃ u v,w=u++v∧cL [k] (c :: u)∧cT (cL [k]) v
      have vv:=g2.any
      simp only [List.map_cons,List.map_nil,gl] at vv
      simp only [gl]
      constructor
      ·rintro ⟨u,v,e,r1,r2⟩
       exact ⟨u,v,e,(vv u).1 r1,(Qx v).1 (mR.1 r2)⟩
      ·rintro ⟨u,v,e,r1,r2⟩
       exact ⟨u,v,e,(vv u).2 r1,mR.2 ((Qx v).2 r2)⟩
     ·show LE s w↔LE (.mk 7 0 [k]) w
      rw [IU (e:=.mk 7 0 [k]) rfl];exact Qx w
     ·rw [IU rfl];simp;exact .nil
    ·
     obtain ⟨b,b1,⟨b2,_⟩,b4⟩:=gM n (op:=8) (ks:=[d.1]) (.inr (.inr (.inr ⟨.inr rfl,rfl⟩))) (by rw [aD,bU];simp only [aD,bU] at hb;omega)
     obtain ⟨s,s1,⟨s2,_⟩,s4⟩:=gM n (op:=8) (ks:=[d.2.1]) (.inr (.inr (.inr ⟨.inr rfl,rfl⟩))) (by rw [aD,bU];omega)
     rw [aD,bU] at b2 s2
     refine ⟨(b,s,if (8:Int)=4 then decide (0<([d].filter (·.2.2)).length) else if (8:Int)=6 then decide (([d].filter (·.2.2)).length=[d].length) else if (8:Int)=8 then decide (([d].filter (·.2.2)).length=0) else false),?_,⟨?_,?_,fun w=>?_,fun w=>?_,?_⟩⟩
     ·rw [eM,if_neg (by omega),if_neg (by omega),if_pos (by omega),if_pos (by simp),g1]
      show uR 8 [d]=_
      unfold uR
      simp only [List.map_cons,List.map_nil,b1,s1,Option.bind_some]
     ·rw [dx];simp only [aD,bU];rw [Ci];show dt b≤_;omega
     ·rw [dx];simp only [aD,bU];show dt s≤_;omega
     ·rw [b4,Pn rfl]
      show ¬ cL [d.1] w↔¬ cL [k] (c :: w)
      have:=g2.any w
      simp only [List.map_cons,List.map_nil] at this
      rw [this]
     ·rw [s4,Pn rfl]
      show ¬ cL [d.2.1] w↔¬ cL [k] w
      have:=g2.self.any w
      simp only [List.map_cons,List.map_nil] at this
      rw [this]
     ·rw [Pn rfl]
      show _↔¬ cL [k] []
      rw [← g2.Q2]
      simp only [show (8:Int) ≠ 4 by decide,show (8:Int) ≠ 6 by decide,if_false,if_true,decide_eq_true_eq]
      omega
end
end Go.Sx
