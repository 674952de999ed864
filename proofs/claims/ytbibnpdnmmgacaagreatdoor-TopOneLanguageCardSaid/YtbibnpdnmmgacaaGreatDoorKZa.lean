import Derived.WalkKit
import Derived.Still
import Derived.Deep.Quiet
import Derived.Deep.LoopGhost
import Derived.StillTail
import Derived.Carry
import Derived.Laws.Tables
import Derived.ChangeKeysEq
import Derived.Laws.StructEq
set_option linter.unusedVariables false
set_option linter.unusedSimpArgs false
set_option maxRecDepth 100000
namespace Go.Sx
open Go.RowKit
structure bk where
 holds:World→(Nat→Prop)→Prop
 loc:∀ w w' F,holds w F→(∀ b,F b→w'.heap[b]? = w.heap[b]?)→holds w' F
 lt:∀ w F,holds w F→∀ b,F b→b<w.heap.size
structure Cx where
 P:Program
 N:Nat
 W0:World
 S:Nat→Prop
theorem uy {α:Type}:∀ (q:Ask α) (w:World),w.drawn≤(w.ask q).2.drawn
 | .done a,w=>Nat.le_refl _
 | .ask aaT range k,w=>by
  simp only [World.ask]
  split
  ·exact uy (k 0) w
  ·exact Nat.le_trans (Nat.le_succ _) (uy (k _) { w with drawn:=w.drawn+1 })
theorem HS (w:World) (c:Sys):w.drawn≤(w.sys c).2.drawn:=by
 have h:=uy (Kernel.perform c w.os) w
 unfold World.sys
 split
 ·exact Nat.le_refl _
 ·rename_i r os w1 _ e
  rw [e] at h;exact h
theorem vy {p:Program} {w:World} {a k:Addr} {u:TypeId} {v:Value} {b:Bool} {r:World × List Addr} (h:w.viewStore p a u k v b = .ok r):r.1.drawn=w.drawn:=by
 unfold World.viewStore at h
 simp only [bind,Except.bind,pure,Except.pure,throwThe,MonadExcept.throw,MonadExceptOf.throw] at h
 repeat' (first | (cases h;done) | (cases h;rfl) | split at h)
theorem pQ {P:Program} {α:Type}:∀ (s:Sem α) (w w':World) (a:α),s.run P w = .ok a w'→w.drawn≤w'.drawn:=by
 intro s
 induction s with
 | pure a=>intro w w' b h;cases h;exact Nat.le_refl _
 | load m a k ih=>
  intro w w' b h
  simp only [Sem.run] at h
  split at h
  ·exact ih _ w w' b h
  ·split at h
   ·exact ih _ w w' b h
   ·cases h
 | store m a v k ih=>
  intro w w' b h
  cases v <;> simp only [Sem.run] at h <;> first | (cases h;done) | skip
  all_goals
   split at h
   ·split at h
    ·cases h
    ·exact ih (w.setCell a _) w' b h
   ·split at h
    ·rename_i w1 es e
     refine Nat.le_trans (Nat.le_of_eq ?_) (ih _ w' b h)
     unfold World.farStore at e
     split at e
     ·split at e
      ·rename_i r e2
       cases e
       exact (vy e2).symm
      ·cases e
     ·cases e
    ·cases h
 | new o k ih=>intro w w' b h;exact ih _ { w with heap:=w.heap.push o } w' b h
 | shape r k ih=>intro w w' b h;exact ih _ w w' b h
 | freeze a n k ih=>
  intro w w' b h
  refine Nat.le_trans (Nat.le_of_eq ?_) (ih (w.freeze a n) w' b h)
  unfold World.freeze;split <;> rfl
 | frozen a k ih=>intro w w' b h;exact ih _ w w' b h
 | getObj r k ih=>
  intro w w' b h
  simp only [Sem.run] at h
  split at h
  ·cases h
  ·exact ih _ w w' b h
  ·cases h
 | setObj r o k ih=>
  intro w w' b h
  simp only [Sem.run] at h
  split at h
  ·cases h
  ·exact ih { w with heap:=w.heap.setIfInBounds r o } w' b h
  ·cases h
 | choose q k ih=>
  intro w w' b h
  simp only [Sem.run] at h
  split at h
  ·exact ih _ w w' b h
  ·exact Nat.le_trans (Nat.le_succ _) (ih _ { w with drawn:=w.drawn+1 } w' b h)
 | sys c k ih=>intro w w' b h;exact Nat.le_trans (HS w c) (ih _ _ w' b h)
 | program k ih=>intro w w' b h;exact ih _ w w' b h
 | mark m k ih=>intro w w' b h;exact ih w w' b h
 | halt h=>intro w w' b h;cases h
structure bj (F:Nat→Prop) (w w':World):Prop where
 os:w'.os=w.os
 tape:w'.tape=w.tape
 output:w'.output=w.output
 size:w.heap.size≤w'.heap.size
 block:∀ k,k<w.heap.size→¬ F k→w'.heap[k]? = w.heap[k]?
 drawn:w.drawn≤w'.drawn
theorem bj.refl (F:Nat→Prop) (w:World):bj F w w:=⟨rfl,rfl,rfl,Nat.le_refl _,fun _ _ _=>rfl,Nat.le_refl _⟩
theorem bj.toBelow {w w':World} (h:bj (fun _=>False) w w'):Below w.heap.size w w':=
 ⟨h.os,h.tape,h.output,h.size,fun k hk=>h.block k hk id⟩
theorem bj.step {S F:Nat→Prop} {w0 w w':World} (h:bj S w0 w) (k:bj F w w') (hF:∀ b,F b→b<w0.heap.size→S b):bj S w0 w':=
 ⟨k.os.trans h.os,k.tape.trans h.tape,k.output.trans h.output,Nat.le_trans h.size k.size,
  fun b hb hs=>(k.block b (Nat.lt_of_lt_of_le hb h.size) (fun hf=>hs (hF b hf hb))).trans (h.block b hb hs),Nat.le_trans h.drawn k.drawn⟩
theorem bj.mono {F G:Nat→Prop} {w w':World} (h:bj F w w') (hFG:∀ b,F b→b<w.heap.size→G b):bj G w w':=
 ⟨h.os,h.tape,h.output,h.size,fun k hk hg=>h.block k hk (fun hf=>hg (hFG k hf hk)),h.drawn⟩
structure cj (own:List bk) (Fs:Nat→Nat→Prop) (w:World):Prop where
 at_:∀ (i:Nat) (A:bk),own[i]? = some A→A.holds w (Fs i)
 out:∀ i,own.length≤i→∀ b,¬ Fs i b
 apart:∀ i j b,Fs i b→Fs j b→i=j
def W5 (Fs:Nat→Nat→Prop) (b:Nat):Prop:=∃ i,Fs i b
theorem cj.lt {own:List bk} {Fs:Nat→Nat→Prop} {w:World} (h:cj own Fs w) {i b:Nat} (hb:Fs i b):b<w.heap.size:=by
 by_cases hi:i<own.length
 ·exact (own[i]).lt w _ (h.at_ i own[i] (by simp [hi])) b hb
 ·exact absurd hb (h.out i (by omega) b)
theorem cj.nil (w:World):cj [] (fun _ _=>False) w:=⟨by simp,fun _ _ _=>id,fun _ _ _ h=>h.elim⟩
structure HW (C:Cx) (own:List bk) (w:World):Prop where
 frame:bj C.S C.W0 w
 heap:∃ Fs,cj own Fs w∧∀ i b,Fs i b→C.W0.heap.size≤b∨C.S b
structure St where
 sl:List (Nat × Value)
 own:List bk
def get:List (Nat × Value)→Nat→Option Value
 | [],_=>none
 | (i,v) :: l,k=>if i=k then some v else get l k
structure B8 (C:Cx) (st:St) (a:Act) (w:World):Prop where
 size:a.tmps.size=C.N
 defers:a.defers=[]
 slot:∀ i v,get st.sl i=some v→a.tmps.getD i undef=v
 world:HW C st.own w
def AK (C:Cx) (st:St) (K:Act→World→Prop):Prop:=∀ a w,B8 C st a w→K a w
def St.put (st:St) (d:Option Nat) (v:Value):St:=
 match d with
 | some d=>⟨(d,v) :: st.sl,st.own⟩
 | none=>st
def bO (st:St):Operand→Option Value
 | .tmp t=>get st.sl t
 | .const v=>some v
 | .global g=>some (.pointer (some ⟨g,0,none⟩))
 | .func f=>some (.func (.func f) #[] #[])
theorem aq {C:Cx} {st:St} {a:Act} {w:World} (h:B8 C st a w) {x:Operand} {v:Value} (hx:bO st x=some v):a.eval x=v:=by
 cases x with
 | tmp t=>exact h.slot t v hx
 | const u=>simpa [bO,Act.eval] using hx
 | global g=>simpa [bO,Act.eval] using hx
 | func f=>simpa [bO,Act.eval] using hx
theorem B8.put {C:Cx} {st:St} {a:Act} {w w':World} (h:B8 C st a w) {own':List bk} (hw:HW C own' w') {d:Option Nat} (hd:∀ i,d=some i→i<C.N) (v:Value) :
  B8 C ⟨(st.put d v).sl,own'⟩ (a.put d v) w':=by
 cases d with
 | none=>exact ⟨h.size,h.defers,h.slot,hw⟩
 | some i=>
  refine ⟨by simp [Act.put,h.size],h.defers,fun j u hj=>?_,hw⟩
  simp only [St.put,get] at hj
  have hi:=hd i rfl
  rw [← h.size] at hi
  simp only [Act.put]
  split at hj
  ·rename_i e;subst e
   simp only [Option.some.injEq] at hj
   subst hj
   simp [hi]
  ·rename_i e
   have:=h.slot j u hj
   simp only [Array.getD_eq_getD_getElem?] at this ⊢
   rw [Array.getElem?_setIfInBounds,if_neg e]
   exact this
def Yl (C:Cx) (st:St) (o:Oper) (v:Value):Prop:=∀ a w,B8 C st a w→(execOp a.eval o).run C.P w = .ok (.value v) w
theorem AK.nil {C:Cx} {st:St} {ops:Array Oper} {Q:Exit→Act→World→Prop} (h:AK C st (Q .normal)):AK C st (wpList C.P ops Q []):=
 fun a w hs=>wpList_nil (h a w hs)
theorem AK.region {C:Cx} {st:St} {id:Nat} {l:List Oper} {Q:Exit→Act→World→Prop} (h:AK C st (wpList C.P l.toArray Q l)):AK C st ((Code.region id l.toArray false).wp C.P Q):=
 fun a w hs=>wp_region_lit (h a w hs)
theorem AK.seq {C:Cx} {st:St} {x y:Code} {Q:Exit→Act→World→Prop}
  (h:∀ K:Act→World→Prop,(∀ O0,AK C O0 (y.wp C.P Q)→AK C O0 K)→AK C st (x.wp C.P (Exit.then K Q))):AK C st ((Code.seq x y).wp C.P Q):=
 fun a w hs=>wp_seq (h _ (fun _ h=>h) a w hs)
theorem AK.ab {C:Cx} {st:St} {K:Act→World→Prop} {Q:Exit→Act→World→Prop} (h:AK C st K):AK C st (Exit.then K Q .normal):=h
theorem AK.block {C:Cx} {st:St} {id:Nat} {c:Code} {Q:Exit→Act→World→Prop} (h:AK C st (c.wp C.P (Exit.inBlock id Q))):AK C st ((Code.block id c).wp C.P Q):=
 fun a w hs=>wp_block (h a w hs)
theorem AK.skip {C:Cx} {st:St} {Q:Exit→Act→World→Prop} (h:AK C st (Q .normal)):AK C st (Code.skip.wp C.P Q):=fun a w hs=>wp_skip (h a w hs)
theorem AK.exit {C:Cx} {st:St} {id:Nat} {Q:Exit→Act→World→Prop} (h:AK C st (Q (.exit id))):AK C st ((Code.exit id).wp C.P Q):=fun a w hs=>wp_exit (h a w hs)
theorem AK.ret {C:Cx} {st:St} {Q:Exit→Act→World→Prop} (h:AK C st (Q .ret)):AK C st (Code.ret.wp C.P Q):=fun a w hs=>wp_ret (h a w hs)
theorem AK.cond {C:Cx} {st:St} {c:Operand} {x y:Code} {Q:Exit→Act→World→Prop} {t:Bool} (hc:bO st c=some (.bool t)) (hx:t=true→AK C st (x.wp C.P Q)) (hy:t=false→AK C st (y.wp C.P Q)) :
  AK C st ((Code.cond c x y).wp C.P Q):=
 fun a w hs=>wp_cond_split (aq hs hc) (fun h=>hx h a w hs) (fun h=>hy h a w hs)
theorem AK.cD {C:Cx} {st:St} {c:Operand} {x y:Code} {Q:Exit→Act→World→Prop} {t:Bool} (hc:bO st c=some (.bool t)) (ht:t=true) (hx:AK C st (x.wp C.P Q)) :
 AK C st ((Code.cond c x y).wp C.P Q):=AK.cond hc (fun _=>hx) (fun h=>by rw [ht] at h;cases h)
theorem AK.dH {C:Cx} {st:St} {c:Operand} {x y:Code} {Q:Exit→Act→World→Prop} {t:Bool} (hc:bO st c=some (.bool t)) (ht:t=false) (hx:AK C st (y.wp C.P Q)) :
 AK C st ((Code.cond c x y).wp C.P Q):=AK.cond hc (fun h=>by rw [ht] at h;cases h) (fun _=>hx)
def nc (ops:Array Oper) (sl:List (Nat × Value)):Option (Nat × Bool)→Prop
 | none=>True
 | some (j,want)=>∃ d,(ops[j]?).bind (·.dst)=some d∧get sl d=some (.bool want)
def HM (v:Value) (want:Bool):Prop:=match v with | .bool b=>b = !want | _=>True
theorem bA {C:Cx} {st:St} {a:Act} {w:World} (hs:B8 C st a w) {ops:Array Oper} {o:Oper} (hg:nc ops st.sl o.guard):Region.wanted o (yielded ops a.tmps)=true:=by
 unfold Region.wanted
 split
 ·rfl
 ·rename_i j want h
  rw [h] at hg
  obtain ⟨d,h1,h2⟩:=hg
  have h3:=hs.slot d _ h2
  cases ho:ops[j]? with
  | none=>simp [ho] at h1
  | some o'=>
   simp only [ho,Option.bind_some] at h1
   simp [yielded,ho,h1]
   simp only [Array.getD_eq_getD_getElem?] at h3
   cases hq:a.tmps[d]? with
   | none=>simp [hq,undef] at h3
   | some u=>simp [hq] at h3;simp [h3]
theorem AK.val {C:Cx} {sl:List (Nat × Value)} {own:List bk} {ops:Array Oper} {Q:Exit→Act→World→Prop} {d:Nat} {op:Op} {ty:TypeId} {pos:String} {aft:Array Edge} {g:Option (Nat × Bool)} {rest:List Oper} (v:Value)
  (hy:Yl C ⟨sl,own⟩ ⟨some d,op,ty,pos,aft,g⟩ v) (hg:nc ops sl g) (hd:Nat.blt d C.N=true) (h:AK C ⟨(d,v) :: sl,own⟩ (wpList C.P ops Q rest)) :
  AK C ⟨sl,own⟩ (wpList C.P ops Q (⟨some d,op,ty,pos,aft,g⟩ :: rest)):=by
 intro a w hs
 refine wpList_step fun K hK=>?_
 rw [if_pos (bA hs hg)]
 simp only [Oper.wp,hy a w hs,Oper.upon]
 refine hK _ _ (h _ _ ?_)
 exact hs.put hs.world (d:=some d) (fun i hi=>by cases hi;exact by simpa [Nat.blt_eq] using hd) v
theorem AK.pass {C:Cx} {sl:List (Nat × Value)} {own:List bk} {ops:Array Oper} {Q:Exit→Act→World→Prop} {d:Nat} {op:Op} {ty:TypeId} {pos:String} {aft:Array Edge} {j:Nat} {want:Bool} {rest:List Oper} {gd:Nat} {gv:Value}
  (h1:(ops[j]?).bind (·.dst)=some gd) (h2:get sl gd=some gv) (h3:HM gv want) (hd:Nat.blt d C.N=true) (h:AK C ⟨(d,undef) :: sl,own⟩ (wpList C.P ops Q rest)) :
  AK C ⟨sl,own⟩ (wpList C.P ops Q (⟨some d,op,ty,pos,aft,some (j,want)⟩ :: rest)):=by
 intro a w hs
 refine wpList_step fun K hK=>?_
 have hw:Region.wanted (⟨some d,op,ty,pos,aft,some (j,want)⟩:Oper) (yielded ops a.tmps)=false:=by
  have h4:=hs.slot gd _ h2
  cases ho:ops[j]? with
  | none=>simp [ho] at h1
  | some o'=>
   simp only [ho,Option.bind_some] at h1
   simp only [Array.getD_eq_getD_getElem?] at h4
   simp only [Region.wanted,yielded,ho,Option.bind_some,h1]
   cases hq:a.tmps[gd]? with
   | none=>simp [hq] at h4 ⊢
   | some u=>
    simp [hq] at h4
    subst h4
    cases u <;> simp [HM] at h3 ⊢
    subst h3
    cases want <;> simp
 rw [hw]
 simp only [Bool.false_eq_true,if_false]
 refine hK _ _ (h _ _ ?_)
 exact hs.put hs.world (d:=some d) (fun i hi=>by cases hi;exact by simpa [Nat.blt_eq] using hd) undef
section ops
variable {C : Cx} {sl : List (Nat × Value)} {own : List bk} {dst : Option Nat} {ty : TypeId} {pos : String} {aft : Array Edge} {g : Option (Nat × Bool)}
theorem Yl.move {x:Operand} {v:Value} (hx:bO ⟨sl,own⟩ x=some v):Yl C ⟨sl,own⟩ ⟨dst,.move x,ty,pos,aft,g⟩ v:=
 fun a w hs=>by simp [execOp,aq hs hx]
theorem Yl.assign {x:Operand} {v:Value} (hx:bO ⟨sl,own⟩ x=some v):Yl C ⟨sl,own⟩ ⟨dst,.assign x,ty,pos,aft,g⟩ v:=
 fun a w hs=>by simp [execOp,aq hs hx]
theorem Yl.pick {c x y:Operand} {b:Bool} {u:Value} (hc:bO ⟨sl,own⟩ c=some (.bool b)) (hx:bO ⟨sl,own⟩ (if b then x else y)=some u):Yl C ⟨sl,own⟩ ⟨dst,.pick c x y,ty,pos,aft,g⟩ u:=
 fun a w hs=>by
  have h:=aq hs hx
  cases b <;> simp at h <;> simp [execOp,aq hs hc,asBool,h]
theorem rU {n:Int} (h1:-9223372036854775808≤n) (h2:n≤9223372036854775807):IntKind.i64.wrap n=n:=by
 rw [IntKind.wrap_i64];omega
theorem Yl.add {x y:Operand} {t t':TypeId} {m n:Int} (hx:bO ⟨sl,own⟩ x=some (.int .i64 m)) (hy:bO ⟨sl,own⟩ y=some (.int .i64 n)) (h1:-9223372036854775808≤m+n∧m+n≤9223372036854775807) :
  Yl C ⟨sl,own⟩ ⟨dst,.binOp .add t x y t',ty,pos,aft,g⟩ (.int .i64 (m+n)):=
 fun a w hs=>by (simp only [execOp,aq hs hx,aq hs hy];simp [go_sem,Op.intArith,rU h1.1 h1.2])
theorem Yl.sub {x y:Operand} {t t':TypeId} {m n:Int} (hx:bO ⟨sl,own⟩ x=some (.int .i64 m)) (hy:bO ⟨sl,own⟩ y=some (.int .i64 n)) (h1:-9223372036854775808≤m - n∧m - n≤9223372036854775807) :
  Yl C ⟨sl,own⟩ ⟨dst,.binOp .sub t x y t',ty,pos,aft,g⟩ (.int .i64 (m - n)):=
 fun a w hs=>by (simp only [execOp,aq hs hx,aq hs hy];simp [go_sem,Op.intArith,rU h1.1 h1.2])
theorem Yl.mul {x y:Operand} {t t':TypeId} {m n:Int} (hx:bO ⟨sl,own⟩ x=some (.int .i64 m)) (hy:bO ⟨sl,own⟩ y=some (.int .i64 n)) (h1:-9223372036854775808≤m * n∧m * n≤9223372036854775807) :
  Yl C ⟨sl,own⟩ ⟨dst,.binOp .mul t x y t',ty,pos,aft,g⟩ (.int .i64 (m * n)):=
 fun a w hs=>by (simp only [execOp,aq hs hx,aq hs hy];simp [go_sem,Op.intArith,rU h1.1 h1.2])
theorem Yl.lss {x y:Operand} {t t':TypeId} {k:IntKind} {m n:Int} (hx:bO ⟨sl,own⟩ x=some (.int k m)) (hy:bO ⟨sl,own⟩ y=some (.int k n)):Yl C ⟨sl,own⟩ ⟨dst,.binOp .lss t x y t',ty,pos,aft,g⟩ (.bool (decide (m<n))):=
 fun a w hs=>by (simp only [execOp,aq hs hx,aq hs hy];simp [go_sem])
theorem Yl.leq {x y:Operand} {t t':TypeId} {k:IntKind} {m n:Int} (hx:bO ⟨sl,own⟩ x=some (.int k m)) (hy:bO ⟨sl,own⟩ y=some (.int k n)):Yl C ⟨sl,own⟩ ⟨dst,.binOp .leq t x y t',ty,pos,aft,g⟩ (.bool (decide (m≤n))):=
 fun a w hs=>by (simp only [execOp,aq hs hx,aq hs hy];simp [go_sem])
theorem Yl.gtr {x y:Operand} {t t':TypeId} {k:IntKind} {m n:Int} (hx:bO ⟨sl,own⟩ x=some (.int k m)) (hy:bO ⟨sl,own⟩ y=some (.int k n)):Yl C ⟨sl,own⟩ ⟨dst,.binOp .gtr t x y t',ty,pos,aft,g⟩ (.bool (decide (n<m))):=
 fun a w hs=>by (simp only [execOp,aq hs hx,aq hs hy];simp [go_sem])
theorem Yl.geq {x y:Operand} {t t':TypeId} {k:IntKind} {m n:Int} (hx:bO ⟨sl,own⟩ x=some (.int k m)) (hy:bO ⟨sl,own⟩ y=some (.int k n)):Yl C ⟨sl,own⟩ ⟨dst,.binOp .geq t x y t',ty,pos,aft,g⟩ (.bool (decide (n≤m))):=
 fun a w hs=>by (simp only [execOp,aq hs hx,aq hs hy];simp [go_sem])
theorem Yl.eql {x y:Operand} {t t':TypeId} {k:IntKind} {m n:Int} (hx:bO ⟨sl,own⟩ x=some (.int k m)) (hy:bO ⟨sl,own⟩ y=some (.int k n)):Yl C ⟨sl,own⟩ ⟨dst,.binOp .eql t x y t',ty,pos,aft,g⟩ (.bool (decide (m=n))):=
 fun a w hs=>by (simp only [execOp,aq hs hx,aq hs hy];simp [go_sem]);rfl
theorem Yl.neq {x y:Operand} {t t':TypeId} {k:IntKind} {m n:Int} (hx:bO ⟨sl,own⟩ x=some (.int k m)) (hy:bO ⟨sl,own⟩ y=some (.int k n)):Yl C ⟨sl,own⟩ ⟨dst,.binOp .neq t x y t',ty,pos,aft,g⟩ (.bool (decide (m ≠ n))):=
 fun a w hs=>by
  (simp only [execOp,aq hs hx,aq hs hy];simp [go_sem])
  rw [Bool.eq_iff_iff];simp
theorem Yl.ZZ {x y:Operand} {t t':TypeId} {m n:Bool} (ht:C.P.underlying t=some .bool) (hx:bO ⟨sl,own⟩ x=some (.bool m)) (hy:bO ⟨sl,own⟩ y=some (.bool n)):Yl C ⟨sl,own⟩ ⟨dst,.binOp .eql t x y t',ty,pos,aft,g⟩ (.bool (m == n)):=
 fun a w hs=>by (simp only [execOp,aq hs hx,aq hs hy];simp [go_sem,ht])
theorem Yl.Q1 {x y:Operand} {t t':TypeId} {m n:Bool} (ht:C.P.underlying t=some .bool) (hx:bO ⟨sl,own⟩ x=some (.bool m)) (hy:bO ⟨sl,own⟩ y=some (.bool n)):Yl C ⟨sl,own⟩ ⟨dst,.binOp .neq t x y t',ty,pos,aft,g⟩ (.bool (m != n)):=
 fun a w hs=>by
  have h:=run_equal_bool (P:=C.P) w t m n ht
  (simp only [execOp,aq hs hx,aq hs hy];simp [go_sem,binOp,h])
  cases m <;> cases n <;> rfl
theorem Yl.not {x:Operand} {t:TypeId} {b:Bool} (hx:bO ⟨sl,own⟩ x=some (.bool b)):Yl C ⟨sl,own⟩ ⟨dst,.unOp .not t x,ty,pos,aft,g⟩ (.bool (!b)):=
 fun a w hs=>by simp [execOp,aq hs hx,Op.unary]
def oC (P:Program) (t e:TypeId) (sz:Nat):Prop:=P.underlying t=some (.slice e)∧(P.info? e).map (·.size)=some sz
theorem oC.inf {P:Program} {t e:TypeId} {sz:Nat} (h:oC P t e sz):∃ i,P.info? e=some i∧i.size=sz:=by
 have:=h.2
 cases hi:P.info? e with
 | none=>simp [hi] at this
 | some i=>exact ⟨i,rfl,by simpa [hi] using this⟩
def gX (P:Program) (e:TypeId) (z:Value) (sz ky:Nat):Prop:=(P.info? e).map (fun i=>(i.zero,i.size,i.bytes))=some (some z,sz,ky)
theorem gX.inf {P:Program} {e:TypeId} {z:Value} {sz ky:Nat} (h:gX P e z sz ky):∃ i,P.info? e=some i∧i.zero=some z∧i.size=sz∧i.bytes=ky:=by
 unfold gX at h
 cases hi:P.info? e with
 | none=>simp [hi] at h
 | some i=>exact ⟨i,rfl,by simpa [hi] using h⟩
theorem Yl.len {x:Operand} {t:TypeId} {e:TypeId} {sz:Nat} {ao:Option Addr} {n c:Nat} (ht:oC C.P t e sz) (hx:bO ⟨sl,own⟩ x=some (.slice ao n c)) :
  Yl C ⟨sl,own⟩ ⟨dst,.call ⟨.builtin .len,#[x],#[t]⟩,ty,pos,aft,g⟩ (.int .i64 n):=
 fun a w hs=>by
  simp [execOp,resolve,invoke,builtin,aq hs hx,Builtin.len_,run_underlying ht.1,goInt]
theorem Yl.max {x y:Operand} {t t':TypeId} {k:IntKind} {m n:Int} (hx:bO ⟨sl,own⟩ x=some (.int k m)) (hy:bO ⟨sl,own⟩ y=some (.int k n)) :
  Yl C ⟨sl,own⟩ ⟨dst,.call ⟨.builtin .max,#[x,y],#[t,t']⟩,ty,pos,aft,g⟩ (.int k (max m n)):=
 fun a w hs=>by
  simp [execOp,resolve,invoke,builtin,aq hs hx,aq hs hy,Builtin.max_,Builtin.max2]
  split <;> omega
theorem Yl.min {x y:Operand} {t t':TypeId} {k:IntKind} {m n:Int} (hx:bO ⟨sl,own⟩ x=some (.int k m)) (hy:bO ⟨sl,own⟩ y=some (.int k n)) :
  Yl C ⟨sl,own⟩ ⟨dst,.call ⟨.builtin .min,#[x,y],#[t,t']⟩,ty,pos,aft,g⟩ (.int k (min m n)):=
 fun a w hs=>by
  simp [execOp,resolve,invoke,builtin,aq hs hx,aq hs hy,Builtin.min_,Builtin.min2]
  split <;> omega
theorem Yl.extract {x:Operand} {i:Nat} {vs:Array Value} {v:Value} (hx:bO ⟨sl,own⟩ x=some (.tuple vs)) (hv:vs[i]? = some v):Yl C ⟨sl,own⟩ ⟨dst,.extract x i,ty,pos,aft,g⟩ v:=
 fun a w hs=>by simp [execOp,aq hs hx,Instr.extract,hv]
def ko:Value→Addr
 | .slice (some a) _ _=>a
 | _=>default
def Rd (G:Nat→Prop) (w:World) (v:Value) (sz n:Nat) (cs:List Value):Prop:=
 ∃ oa cap,v = .slice oa n cap∧n≤maxLen∧cs.length=n * sz∧(0<n→0<sz→oa.isSome)∧(∀ a j u,oa=some a→cs[j]? = some u→G a.block∧w.cell? (a.add j)=some u)
def cR (C:Cx) (own:List bk) (v:Value) (sz n:Nat) (cs:List Value):Prop:=∀ w,HW C own w→Rd (fun _=>True) w v sz n cs
theorem Rd.mono {G G':Nat→Prop} {w w':World} {v:Value} {sz n:Nat} {cs:List Value} (h:Rd G w v sz n cs) (hG:∀ b,G b→b<w.heap.size→G' b∧w'.heap[b]? = w.heap[b]?):Rd G' w' v sz n cs:=by
 obtain ⟨oa,cap,h1,h2,h3,h4,h5⟩:=h
 refine ⟨oa,cap,h1,h2,h3,h4,fun a j u ha hj=>?_⟩
 obtain ⟨g1,g2⟩:=h5 a j u ha hj
 have bZ:=World.block_lt_of_cell? w _ g2
 have hb:(a.add j).block=a.block:=by unfold Addr.add;split <;> rfl
 rw [hb] at bZ
 obtain ⟨g3,g4⟩:=hG a.block g1 bZ
 exact ⟨g3,by rw [World.cell?_of_block (w:=w) (w':=w') (by rw [hb];exact g4)];exact g2⟩
theorem cR.arg {v:Value} {sz n:Nat} {cs:List Value} (h:Rd (fun b=>¬ C.S b) C.W0 v sz n cs):cR C own v sz n cs:=
 fun _ hw=>h.mono fun b hb bZ=>⟨trivial,hw.frame.block b bZ hb⟩
theorem Yl.idx {x i:Operand} {t e:TypeId} {sz:Nat} {v:Value} {n:Nat} {k:Int} {cs:List Value} (ht:oC C.P t e sz) (hx:bO ⟨sl,own⟩ x=some v) (hi:bO ⟨sl,own⟩ i=some (.int .i64 k))
  (hr:cR C own v sz n cs) (hz:0<sz) (h0:0≤k∧k<n):Yl C ⟨sl,own⟩ ⟨dst,.indexAddr t x i,ty,pos,aft,g⟩ (.pointer (some ((ko v).add (k.toNat * sz)))):=
 fun a w hs=>by
  obtain ⟨oa,cap,rfl,_,_,h4,_⟩:=hr w hs.world
  have:=h4 (by omega) hz
  obtain ⟨ad,rfl⟩:=Option.isSome_iff_exists.1 this
  have h1:=ht.1
  obtain ⟨inf,h2,h3⟩:=ht.inf
  simp [execOp,aq hs hx,aq hs hi,Instr.indexAt,asIntOf,run_underlying h1,h0.1,h0.2,sizeOf,typeInfo,h2,h3,ko]
theorem Yl.qi {x i:Operand} {t e:TypeId} {sz:Nat} {v:Value} {n:Nat} {k:Nat} {cs:List Value} (ht:oC C.P t e sz) (hx:bO ⟨sl,own⟩ x=some v) (hi:bO ⟨sl,own⟩ i=some (.int .i64 (k:Int)))
  (hr:cR C own v sz n cs) (hz:0<sz) (h0:k<n):Yl C ⟨sl,own⟩ ⟨dst,.indexAddr t x i,ty,pos,aft,g⟩ (.pointer (some ((ko v).add (k * sz)))):=
 Yl.idx ht hx hi hr hz (by omega)
def Jk:TypeDesc→Bool
 | .struct _ | .array _ _=>false
 | _=>true
def dF (P:Program) (t:TypeId):Prop:=(P.underlying t).map Jk=some true
def nq (P:Program) (t:TypeId) (sz:Nat):Prop:=(P.underlying t).map Jk=some false∧(P.info? t).map (·.size)=some sz
theorem qE {P:Program} {t:TypeId} (ht:dF P t) (w:World):(isAgg t).run P w = .ok false w:=by
 unfold dF at ht
 cases hd:P.underlying t with
 | none=>simp [hd] at ht
 | some d=>
  simp only [isAgg,Sem.run_bind,run_underlying hd,Result.andThen_ok]
  cases d <;> simp [hd,Jk] at ht ⊢
theorem iy {P:Program} {t:TypeId} {sz:Nat} (ht:nq P t sz) (w:World):(isAgg t).run P w = .ok true w:=by
 obtain ⟨ht,_⟩:=ht
 cases hd:P.underlying t with
 | none=>simp [hd] at ht
 | some d=>
  simp only [isAgg,Sem.run_bind,run_underlying hd,Result.andThen_ok]
  cases d <;> simp [hd,Jk] at ht ⊢
theorem cI {P:Program} {t:TypeId} {sz:Nat} (h:(P.info? t).map (·.size)=some sz) (w:World):(sizeOf t).run P w = .ok sz w:=by
 cases hi:P.info? t with
 | none=>simp [hi] at h
 | some i=>simp [hi] at h;simp [sizeOf,typeInfo,hi,h]
theorem iC {P:Program} {t:TypeId} (ht:dF P t) {w:World} {a:Addr} {v:Value} (h:w.cell? a=some v):(loadVar t a).run P w = .ok v w:=by
 have:=qE ht w
 simp [loadVar,this,h]
theorem AT {G:Nat→Prop} {w:World} {v:Value} {sz n:Nat} {cs:List Value} (h:Rd G w v sz n cs) {j:Nat} {u:Value} (hj:cs[j]? = some u):w.cell? ((ko v).add j)=some u∧G (ko v).block:=by
 obtain ⟨oa,cap,rfl,_,h3,h4,h5⟩:=h
 have bZ:j<cs.length:=by
  rcases Nat.lt_or_ge j cs.length with h | h
  ·exact h
  ·rw [List.getElem?_eq_none h] at hj;cases hj
 have hn:0<n:=Nat.pos_of_ne_zero (fun e=>by subst e;simp at h3;simp [h3] at bZ)
 have hz:0<sz:=Nat.pos_of_ne_zero (fun e=>by subst e;simp at h3;simp [h3] at bZ)
 obtain ⟨ad,rfl⟩:=Option.isSome_iff_exists.1 (h4 hn hz)
 exact ⟨(h5 ad j u rfl hj).2,(h5 ad j u rfl hj).1⟩
theorem Yl.load {x:Operand} {t:TypeId} {v:Value} {n j:Nat} {cs:List Value} {α:Type} {xs:List α} {f:α→Value} (ht:dF C.P t) (hx:bO ⟨sl,own⟩ x=some (.pointer (some ((ko v).add (j * 1)))))
  (hr:cR C own v 1 n cs) (hc:cs=xs.map f) (d:α) (hj:j<xs.length):Yl C ⟨sl,own⟩ ⟨dst,.load t x,ty,pos,aft,g⟩ (f (xs.getD j d)):=
 fun a w hs=>by
  have hu:cs[j]? = some (f (xs.getD j d)):=by
   subst hc
   simp [List.getElem?_map,List.getElem?_eq_getElem hj,List.getD_eq_getElem?_getD]
  have h1:=(AT (hr w hs.world) hu).1
  simp only [Nat.mul_one] at hx
  simp [execOp,aq hs hx,Instr.loadAt,Instr.sureAddr,iC ht h1]
theorem Yl.ff {x:Operand} {t:TypeId} {v:Value} {n j:Nat} {xs:List Int} {k:IntKind} (ht:dF C.P t) (hx:bO ⟨sl,own⟩ x=some (.pointer (some ((ko v).add (j * 1)))))
 (hr:cR C own v 1 n (xs.map (Value.int k))) (hj:j<xs.length):Yl C ⟨sl,own⟩ ⟨dst,.load t x,ty,pos,aft,g⟩ (.int k (xs.getD j 0)):=Yl.load ht hx hr rfl 0 hj
theorem Yl.oK {x:Operand} {t:TypeId} {v:Value} {n j:Nat} {xs:List Bool} (ht:dF C.P t) (hx:bO ⟨sl,own⟩ x=some (.pointer (some ((ko v).add (j * 1)))))
 (hr:cR C own v 1 n (xs.map Value.bool)) (hj:j<xs.length):Yl C ⟨sl,own⟩ ⟨dst,.load t x,ty,pos,aft,g⟩ (.bool (xs.getD j false)):=Yl.load ht hx hr rfl false hj
theorem Yl.jD {x:Operand} {t:TypeId} {v:Value} {n j:Nat} {cs:List Value} (ht:dF C.P t) (hx:bO ⟨sl,own⟩ x=some (.pointer (some ((ko v).add (j * 1)))))
 (hr:cR C own v 1 n cs) (hj:j<cs.length):Yl C ⟨sl,own⟩ ⟨dst,.load t x,ty,pos,aft,g⟩ (cs.getD j undef):=Yl.load (f:=id) ht hx hr (by simp) undef hj
theorem Yl.JN {x:Operand} {t:TypeId} {v:Value} {n j sz:Nat} {cs:List Value} (ht:nq C.P t sz) (hx:bO ⟨sl,own⟩ x=some (.pointer (some ((ko v).add (j * sz)))))
  (hr:cR C own v sz n cs) (hj:j<n):Yl C ⟨sl,own⟩ ⟨dst,.load t x,ty,pos,aft,g⟩ (.agg ((cs.drop (j * sz)).take sz).toArray):=
 fun a w hs=>by
  have hr:=hr w hs.world
  have hlen:cs.length=n * sz:=by obtain ⟨_,_,_,_,h,_⟩:=hr;exact h
  have qP:j * sz+sz≤n * sz:=by rw [← Nat.succ_mul];exact Nat.mul_le_mul_right _ hj
  have hl:=run_loadCells_list (P:=C.P) (w:=w) ((ko v).add (j * sz)) ((cs.drop (j * sz)).take sz) (fun i u hi=>by
   rw [List.getElem?_take] at hi
   split at hi
   ·rw [List.getElem?_drop] at hi
    have:=(AT hr hi).1
    rw [show ((ko v).add (j * sz)).add i=(ko v).add (j * sz+i) from ?_]
    ·exact this
    ·unfold Addr.add;repeat' split
     all_goals first | rfl | omega | (simp;omega) | (simp_all;done) | (congr 1;omega)
   ·cases hi)
  have Vu:((cs.drop (j * sz)).take sz).length=sz:=by simp;omega
  rw [Vu] at hl
  simp only [execOp,aq hs hx]
  simp [Instr.loadAt,Instr.sureAddr,loadVar,iy ht,cI ht.2,hl]
end ops
theorem HW.update {C:Cx} {own:List bk} {w w':World} {i:Nat} {A':bk} {own2:List bk} {Fs Fs':Nat→Nat→Prop} (hf:bj C.S C.W0 w) (hh:cj own Fs w) (bc:∀ i b,Fs i b→C.W0.heap.size≤b∨C.S b)
  (hi:i<own.length) (hx:bj (Fs i) w w') (DV:cj (A' :: own2) Fs' w') (me:∀ j b,Fs' j b→Fs i b∨w.heap.size≤b):HW C (own.set i A'++own2) w':=by
 refine ⟨hf.step hx (fun b hb bZ=>(bc i b hb).resolve_left (by omega)),⟨fun k b=>if k=i then Fs' 0 b else if k<own.length then Fs k b else Fs' (k - own.length+1) b,⟨?_,?_,?_⟩,?_⟩⟩
 ·intro k A hk
  by_cases ov:k=i
  ·subst ov
   rw [List.getElem?_append_left (by simpa using hi)] at hk
   simp [hi] at hk
   subst hk
   simpa using DV.at_ 0 A' (by simp)
  ·by_cases eo:k<own.length
   ·rw [List.getElem?_append_left (by simpa using eo),List.getElem?_set_ne (Ne.symm ov)] at hk
    simp only [ov,if_false,eo,if_true]
    refine A.loc w w' (Fs k) (hh.at_ k A hk) fun b hb=>hx.block b (hh.lt hb) fun MT=>ov (hh.apart k i b hb MT)
   ·rw [List.getElem?_append_right (by simp;omega)] at hk
    simp only [ov,if_false,eo]
    exact DV.at_ _ A (by simpa using hk)
 ·intro k hk b hb
  have eo:¬ k<own.length:=by simp at hk;omega
  have ov:k ≠ i:=by omega
  simp only [ov,if_false,eo] at hb
  exact DV.out _ (by simp at hk ⊢;omega) b hb
 ·have qA:∀ k j b,k ≠ i→Fs k b→Fs' j b→False:=fun k j b ov h1 h2=>by
   rcases me j b h2 with h | h
   ·exact ov (hh.apart k i b h1 h)
   ·have:=hh.lt h1;omega
  intro k j b hk hj
  by_cases ov:k=i <;> by_cases uJ:j=i
  ·omega
  ·simp only [ov,if_true] at hk
   simp only [uJ,if_false] at hj
   split at hj
   ·exact (qA j 0 b uJ hj hk).elim
   ·have:=DV.apart _ _ b hk hj;omega
  ·simp only [uJ,if_true] at hj
   simp only [ov,if_false] at hk
   split at hk
   ·exact (qA k 0 b ov hk hj).elim
   ·have:=DV.apart _ _ b hk hj;omega
  ·simp only [ov,if_false] at hk
   simp only [uJ,if_false] at hj
   split at hk <;> split at hj
   ·exact hh.apart k j b hk hj
   ·exact (qA k _ b ov hk hj).elim
   ·exact (qA j _ b uJ hj hk).elim
   ·have:=DV.apart _ _ b hk hj;omega
 ·intro k b hb
  have qI:=hf.size
  have one:∀ j,Fs' j b→C.W0.heap.size≤b∨C.S b:=fun j h=>by
   rcases me j b h with h | h
   ·exact bc i b h
   ·exact .inl (by omega)
  split at hb
  ·exact one _ hb
  ·split at hb
   ·exact bc k b hb
   ·exact one _ hb
theorem HW.push {C:Cx} {own:List bk} {w w':World} {own2:List bk} {Fs':Nat→Nat→Prop} (hw:HW C own w)
  (hx:bj (fun _=>False) w w') (DV:cj own2 Fs' w') (me:∀ j b,Fs' j b→w.heap.size≤b):HW C (own++own2) w':=by
 obtain ⟨hf,Fs,hh,bc⟩:=hw
 refine ⟨hf.step hx (fun b hb _=>hb.elim),⟨fun k b=>if k<own.length then Fs k b else Fs' (k - own.length) b,⟨?_,?_,?_⟩,?_⟩⟩
 ·intro k A hk
  by_cases eo:k<own.length
  ·rw [List.getElem?_append_left eo] at hk
   simp only [eo,if_true]
   exact A.loc w w' (Fs k) (hh.at_ k A hk) fun b hb=>hx.block b (hh.lt hb) id
  ·rw [List.getElem?_append_right (by omega)] at hk
   simp only [eo,if_false]
   exact DV.at_ _ A hk
 ·intro k hk b hb
  have eo:¬ k<own.length:=by simp at hk;omega
  simp only [eo,if_false] at hb
  exact DV.out _ (by simp at hk ⊢;omega) b hb
 ·have qA:∀ k j b,Fs k b→Fs' j b→False:=fun k j b h1 h2=>by
   have:=me j b h2;have:=hh.lt h1;omega
  intro k j b hk hj
  split at hk <;> split at hj
  ·exact hh.apart k j b hk hj
  ·exact (qA k _ b hk hj).elim
  ·exact (qA j _ b hj hk).elim
  ·have:=DV.apart _ _ b hk hj;omega
 ·intro k b hb
  have qI:=hf.size
  split at hb
  ·exact bc k b hb
  ·have:=me _ b hb;exact .inl (by omega)
theorem cj.one {A:bk} {F:Nat→Prop} {w:World} (h:A.holds w F):cj [A] (fun k b=>k=0∧F b) w:=by
 refine ⟨?_,?_,?_⟩
 ·intro i A' hi
  cases i with
  | zero=>simp at hi;subst hi;simpa using h
  | succ n=>simp at hi
 ·rintro i hi b ⟨rfl,_⟩;simp at hi
 ·rintro i j b ⟨rfl,_⟩ ⟨rfl,_⟩;rfl
theorem HW.pick {C:Cx} {own own':List bk} {w:World} (hw:HW C own w) (σ:List Nat) (hn:σ.Nodup) (he:own' = σ.filterMap (own[·]?)) (hl:own'.length = σ.length):HW C own' w:=by
 obtain ⟨hf,Fs,hh,bc⟩:=hw
 have Ph:∀ (k i:Nat) (A:bk),own'[k]? = some A→σ[k]? = some i→own[i]? = some A:=by
  subst he
  clear hn bc hh
  induction σ with
  | nil=>intro k i A h;simp at h
  | cons s σ ih=>
   intro k i A h1 h2
   cases ho:own[s]? with
   | none=>
    simp [ho] at hl
    have:=List.length_filterMap_le (own[·]?) σ
    omega
   | some B=>
    simp only [List.filterMap_cons,ho] at h1 hl
    cases k with
    | zero=>simp at h1 h2;subst h1;subst h2;exact ho
    | succ k=>exact ih (by simpa using hl) k i A (by simpa using h1) (by simpa using h2)
 refine ⟨hf,fun k b=>∃ i,σ[k]? = some i∧Fs i b,⟨?_,?_,?_⟩,?_⟩
 ·intro k A hk
  have eo:k < σ.length:=by
   have:=(List.getElem?_eq_some_iff.1 hk).1;omega
  have hs:σ[k]? = some σ[k]:=List.getElem?_eq_getElem eo
  have h1:=hh.at_ _ A (Ph k _ A hk hs)
  have:(fun b=>∃ i,σ[k]? = some i∧Fs i b)=Fs σ[k]:=by
   funext b;apply propext;rw [hs];constructor
   ·rintro ⟨i,hi,hb⟩;cases hi;exact hb
   ·intro hb;exact ⟨_,rfl,hb⟩
  rw [this];exact h1
 ·rintro k hk b ⟨i,hi,_⟩
  rw [List.getElem?_eq_none (by omega)] at hi;cases hi
 ·rintro k j b ⟨i,hi,hb⟩ ⟨i',ox,MT⟩
  have:=hh.apart i i' b hb MT
  subst this
  obtain ⟨h1,h2⟩:=List.getElem?_eq_some_iff.1 hi
  obtain ⟨h3,h4⟩:=List.getElem?_eq_some_iff.1 ox
  rcases Nat.lt_trichotomy k j with bZ | heq | bZ
  ·exact absurd (h2.trans h4.symm) (List.pairwise_iff_getElem.1 hn k j h1 h3 bZ)
  ·exact heq
  ·exact absurd (h4.trans h2.symm) (List.pairwise_iff_getElem.1 hn j k h3 h1 bZ)
 ·rintro k b ⟨i,_,hb⟩;exact bc i b hb
theorem HW.pk {C:Cx} {own own':List bk} {w:World} (hw:HW C own w) (σ:List Nat) (hn:σ.Nodup:=by decide) (he:own' = σ.filterMap (own[·]?):=by exact rfl) (hl:own'.length = σ.length:=by exact rfl):HW C own' w:=hw.pick σ hn he hl
def row (v:Value) (E:TypeId) (sz n:Nat) (cs:List Value):bk where
 holds w F:=w.ownsRow 0 E sz v n cs∧∀ b,F b↔v.ownBlock=some b
 loc:=by
  rintro w w' F ⟨h,hF⟩ hb
  refine ⟨⟨h.1,?_⟩,hF⟩
  rcases h.2 with h2 | ⟨gb,cap,cur,hv,hg,hh,r⟩
  ·exact .inl h2
  ·exact .inr ⟨gb,cap,cur,hv,hg,by rw [hb gb ((hF gb).2 (by rw [hv];rfl))];exact hh,r⟩
 lt:=by
  rintro w F ⟨h,hF⟩ b hb
  exact (h.lt b ((hF b).1 hb)).2
theorem oT {w:World} {F:Nat→Prop} {v:Value} {E:TypeId} {sz n:Nat} {cs:List Value} (h:(row v E sz n cs).holds w F):Rd F w v sz n cs:=by
 obtain ⟨h,hF⟩:=h
 rcases h.2 with ⟨rfl,rfl⟩ | ⟨gb,cap,cur,rfl,hg,hh,mc,vo,r⟩
 ·exact ⟨none,0,rfl,by simp [maxLen],h.1,fun h=>by omega,fun a j u ha=>by cases ha⟩
 ·refine ⟨_,cap,rfl,Nat.le_trans mc vo,h.1,fun _ _=>rfl,fun a j u ha hj=>?_⟩
  cases ha
  refine ⟨(hF gb).2 rfl,?_⟩
  have yp:j<n * sz:=by rw [← h.1];exact (List.getElem?_eq_some_iff.1 hj).1
  have:=h.cellAt j yp
  simpa [Addr.add_lit] using this.trans hj
theorem cR.own {C:Cx} {own:List bk} {v:Value} {E:TypeId} {sz n:Nat} {cs:List Value} (i:Nat) (hi:own[i]? = some (row v E sz n cs)):cR C own v sz n cs:=fun w hw=>by
 obtain ⟨_,Fs,hh,_⟩:=hw
 have:=oT (hh.at_ i _ hi)
 exact this.mono fun b _ _=>⟨trivial,rfl⟩
theorem Yl.aZ {C:Cx} {sl:List (Nat × Value)} {own:List bk} {dst:Option Nat} {ty:TypeId} {pos:String} {aft:Array Edge} {g:Option (Nat × Bool)} {x:Operand} {t:TypeId} {e:TypeId} {sz s1:Nat} {v:Value} {n:Nat} {cs:List Value} (ht:oC C.P t e sz) (hx:bO ⟨sl,own⟩ x=some v)
  (hr:cR C own v s1 n cs):Yl C ⟨sl,own⟩ ⟨dst,.call ⟨.builtin .len,#[x],#[t]⟩,ty,pos,aft,g⟩ (.int .i64 (n:Int)):=
 fun a w hs=>by
  obtain ⟨oa,cap,rfl,_⟩:=hr w hs.world
  exact Yl.len ht hx a w hs
def kq (F:Nat→Prop) (w w':World) (own:List bk):Prop:=bj F w w'∧∃ Fs,cj own Fs w'∧∀ i b,Fs i b→F b∨w.heap.size≤b
def aK (P:Program) (f:FuncId) (vs:List Value) (w:World) (φ:Value→List bk→Prop):Prop:=
 Calls P f vs.toArray w fun e w'=>∃ v own',φ v own'∧e = .returned v∧kq (fun _=>False) w w' own'
def ck (P:Program) (f:FuncId) (vs:List Value) (w:World) (F:Nat→Prop) (φ:Value→bk→List bk→Prop):Prop:=
 Calls P f vs.toArray w fun e w'=>∃ v A' own',φ v A' own'∧e = .returned v∧kq F w w' (A' :: own')
def aj (P:Program) (f:FuncId):Prop:=(P.funcs[f]?).map (fun fn=>(fn.name == "runtime.NumGoroutine",fn.body.isNone))=some (false,false)
theorem aj.fn {P:Program} {f:FuncId} (h:aj P f):∃ fn,P.funcs[f]? = some fn∧(fn.name == "runtime.NumGoroutine")=false∧fn.body.isNone=false:=by
 unfold aj at h
 cases hi:P.funcs[f]? with
 | none=>rw [hi] at h;cases h
 | some i=>rw [hi] at h;simp only [Option.map_some,Option.some.injEq,Prod.mk.injEq] at h;exact ⟨i,rfl,h⟩
def mj (st:St):List Operand→Option (List Value)
 | []=>some []
 | x :: l=>match bO st x,mj st l with
  | some v,some vs=>some (v :: vs)
  | _,_=>none
theorem jK {C:Cx} {st:St} {a:Act} {w:World} (h:B8 C st a w):∀ {xs:List Operand} {vs:List Value},mj st xs=some vs→xs.map a.eval=vs
 | [],vs,hx=>by simp [mj] at hx;simp [hx]
 | x :: l,vs,hx=>by
  simp only [mj] at hx
  cases h1:bO st x with
  | none=>simp [h1] at hx
  | some v=>
   cases h2:mj st l with
   | none=>simp [h1,h2] at hx
   | some us=>
    simp [h1,h2] at hx
    subst hx
    simp [aq h h1,jK h h2]
theorem sD {C:Cx} {sl:List (Nat × Value)} {own:List bk} {a:Act} {w:World} (hs:B8 C ⟨sl,own⟩ a w) {f:FuncId} {xs:List Operand} {yL:Array TypeId} {vs:List Value} {dst:Option Nat} {ty:TypeId} {pos:String} {aft:Array Edge} {g:Option (Nat × Bool)}
  (hf:aj C.P f) (hx:mj ⟨sl,own⟩ xs=some vs):(execOp a.eval ⟨dst,.call ⟨.value (.func f),xs.toArray,yL⟩,ty,pos,aft,g⟩).run C.P w = .ok (.enter f vs.toArray) w:=by
 obtain ⟨fn,h1,h2,h3⟩:=hf.fn
 have:=jK hs hx
 subst this
 have T4:¬ fn.name = "runtime.NumGoroutine":=by simpa using h2
 have FC:¬ fn.body=none:=by intro e;simp [e] at h3
 simp [execOp,resolve,Act.eval,Deferred.ofValue,invoke,callFunc,h1,T4,FC]
section calls
variable {C : Cx} {sl : List (Nat × Value)} {own : List bk} {ops : Array Oper} {Q : Exit → Act → World → Prop} {d : Nat} {ty : TypeId} {pos : String} {aft : Array Edge} {g : Option (Nat × Bool)} {rest : List Oper}
theorem AK.call {f:FuncId} {xs:List Operand} {yL:Array TypeId} {vs:List Value} {φ:Value→List bk→Prop} (hf:aj C.P f) (hx:mj ⟨sl,own⟩ xs=some vs) (oO:∀ w,HW C own w→aK C.P f vs w φ) (hg:nc ops sl g) (hd:Nat.blt d C.N=true)
  (h:∀ v own',φ v own'→AK C ⟨(d,v) :: sl,own++own'⟩ (wpList C.P ops Q rest)):AK C ⟨sl,own⟩ (wpList C.P ops Q (⟨some d,.call ⟨.value (.func f),xs.toArray,yL⟩,ty,pos,aft,g⟩ :: rest)):=by
 intro a w hs
 refine wpList_step fun K hK=>?_
 rw [if_pos (bA hs hg)]
 simp only [Oper.wp,sD hs hf hx,Oper.upon]
 refine (oO w hs.world).mono ?_
 rintro e w' ⟨v,own',yo,rfl,uE,Fs,hh,me⟩
 refine hK _ _ (h v own' yo _ _ ?_)
 exact hs.put (hs.world.push uE hh (fun j b hb=>(me j b hb).resolve_left id)) (d:=some d) (fun i hi=>by cases hi;simpa [Nat.blt_eq] using hd) v
theorem AK.CA (i:Nat) {A:bk} {f:FuncId} {xs:List Operand} {yL:Array TypeId} {vs:List Value} {φ:Value→bk→List bk→Prop} (hi:own[i]? = some A) (hf:aj C.P f) (hx:mj ⟨sl,own⟩ xs=some vs) (oO:∀ w F,HW C own w→A.holds w F→ck C.P f vs w F φ) (hg:nc ops sl g) (hd:Nat.blt d C.N=true)
  (h:∀ v A' own',φ v A' own'→AK C ⟨(d,v) :: sl,own.set i A'++own'⟩ (wpList C.P ops Q rest)):AK C ⟨sl,own⟩ (wpList C.P ops Q (⟨some d,.call ⟨.value (.func f),xs.toArray,yL⟩,ty,pos,aft,g⟩ :: rest)):=by
 intro a w hs
 refine wpList_step fun K hK=>?_
 rw [if_pos (bA hs hg)]
 simp only [Oper.wp,sD hs hf hx,Oper.upon]
 obtain ⟨I5,Fs,hh,bc⟩:=hs.world
 refine (oO w (Fs i) hs.world (hh.at_ i A hi)).mono ?_
 rintro e w' ⟨v,A',own',yo,rfl,uE,Fs',DV,me⟩
 refine hK _ _ (h v A' own' yo _ _ ?_)
 exact hs.put (HW.update I5 hh bc (List.getElem?_eq_some_iff.1 hi).1 uE DV me) (d:=some d) (fun i hi=>by cases hi;simpa [Nat.blt_eq] using hd) v
end calls
def wA:Nat→List Value→List (Nat × Value)
 | _,[]=>[]
 | i,v :: l=>(i,v) :: wA (i+1) l
theorem ui:∀ (l:List Value) (i k:Nat) (v:Value),get (wA i l) k=some v→i≤k∧l[k - i]? = some v
 | [],_,_,_,h=>by simp [wA,get] at h
 | u :: l,i,k,v,h=>by
  simp only [wA,get] at h
  split at h
  ·rename_i e;subst e;simp at h;simp [h]
  ·rename_i e
   obtain ⟨h1,h2⟩:=ui l (i+1) k v h
   refine ⟨by omega,?_⟩
   have:k - i=(k - (i+1))+1:=by omega
   rw [this];simpa using h2
theorem aC {P:Program} {f:FuncId} {fn:Func} {c:Code} {vs:List Value} {w:World} {φ:Value→List bk→Prop} (hf:P.funcs[f]? = some fn) (hb:fn.body=some c) (hN:vs.length≤fn.ntmps)
  (h:AK ⟨P,fn.ntmps,w,fun _=>False⟩ ⟨wA 0 vs,[]⟩ (c.wp P (bodyPost P fn fun e w'=>∃ v own',φ v own'∧e = .returned v∧kq (fun _=>False) w w' own'))):aK P f vs w φ:=by
 refine calls_of_wp hf hb (h _ _ ⟨by simp;omega,rfl,?_,⟨bj.refl _ _,_,cj.nil w,fun _ _ h=>h.elim⟩⟩)
 intro i v hv
 obtain ⟨_,h2⟩:=ui vs 0 i v hv
 simp only [Nat.sub_zero] at h2
 have bZ:=(List.getElem?_eq_some_iff.1 h2).1
 simp only [Array.getD_eq_getD_getElem?]
 rw [Array.getElem?_append_left (by simpa using bZ)]
 simp [h2]
theorem cu {P:Program} {f:FuncId} {fn:Func} {c:Code} {vs:List Value} {w:World} {F:Nat→Prop} {A:bk} {φ:Value→bk→List bk→Prop} (hf:P.funcs[f]? = some fn) (hb:fn.body=some c) (hN:vs.length≤fn.ntmps) (hA:A.holds w F)
  (h:AK ⟨P,fn.ntmps,w,F⟩ ⟨wA 0 vs,[A]⟩ (c.wp P (bodyPost P fn fun e w'=>∃ v A' own',φ v A' own'∧e = .returned v∧kq F w w' (A' :: own')))):ck P f vs w F φ:=by
 refine calls_of_wp hf hb (h _ _ ⟨by simp;omega,rfl,?_,⟨bj.refl _ _,_,cj.one hA,fun i b hb=>.inr hb.2⟩⟩)
 intro i v hv
 obtain ⟨_,h2⟩:=ui vs 0 i v hv
 simp only [Nat.sub_zero] at h2
 have bZ:=(List.getElem?_eq_some_iff.1 h2).1
 simp only [Array.getD_eq_getD_getElem?]
 rw [Array.getElem?_append_left (by simpa using bZ)]
 simp [h2]
theorem kq.of {C:Cx} {own:List bk} {w:World} (h:HW C own w):kq C.S C.W0 w own:=by
 obtain ⟨hf,Fs,hh,bc⟩:=h
 exact ⟨hf,Fs,hh,fun i b hb=>(bc i b hb).symm⟩
theorem AK.aG {C:Cx} {sl:List (Nat × Value)} {own:List bk} {fn:Func} {R:Ending→World→Prop} {t:Nat} {v:Value} (hr:fn.results = #[.tmp t]) (hv:get sl t=some v) (h:∀ w,HW C own w→R (.returned v) w):AK C ⟨sl,own⟩ (bodyPost C.P fn R .ret):=by
 intro a w hs
 exact ⟨hs.defers,_,results_tmp hr _ _ _,by rw [hs.slot t v hv];exact h w hs.world⟩
theorem AK.zZ {C:Cx} {sl:List (Nat × Value)} {own:List bk} {fn:Func} {R:Ending→World→Prop} {t u:Nat} {v z:Value} (hr:fn.results = #[.tmp t,.tmp u]) (hv:get sl t=some v) (hz:get sl u=some z) (h:∀ w,HW C own w→R (.returned (.tuple #[v,z])) w):AK C ⟨sl,own⟩ (bodyPost C.P fn R .ret):=by
 intro a w hs
 exact ⟨hs.defers,_,results_tmp2 hr _ _ _,by rw [hs.slot t v hv,hs.slot u z hz];exact h w hs.world⟩
theorem AK.ai {C:Cx} {st:St} {K:Act→World→Prop} {Q:Exit→Act→World→Prop} {id:Nat} (h:AK C st (Q (.exit id))):AK C st (Exit.then K Q (.exit id)):=h
theorem AK.ae {C:Cx} {st:St} {K:Act→World→Prop} {Q:Exit→Act→World→Prop} (h:AK C st (Q .ret)):AK C st (Exit.then K Q .ret):=h
theorem AK.al {C:Cx} {st:St} {Q:Exit→Act→World→Prop} {id:Nat} (h:AK C st (Q .ret)):AK C st (Exit.inBlock id Q .ret):=h
theorem AK.ag {C:Cx} {st:St} {Q:Exit→Act→World→Prop} {id:Nat} (h:AK C st (Q .normal)):AK C st (Exit.inBlock id Q .normal):=h
theorem AK.ar {C:Cx} {st:St} {Q:Exit→Act→World→Prop} {id:Nat} (h:AK C st (Q .normal)):AK C st (Exit.inBlock id Q (.exit id)):=fun a w hs=>by
 simp only [Exit.inBlock,if_true];exact h a w hs
theorem AK.DK {C:Cx} {st:St} {Q:Exit→Act→World→Prop} {id Xp:Nat} (j9:(Xp == id)=false) (h:AK C st (Q (.exit Xp))):AK C st (Exit.inBlock id Q (.exit Xp)):=fun a w hs=>by
 simp only [beq_eq_false_iff_ne,ne_eq] at j9
 simp only [Exit.inBlock,j9,if_false];exact h a w hs
def jb (sl:List (Nat × Value)):List (Nat × Value)→Prop
 | []=>True
 | (i,v) :: l=>get sl i=some v∧jb sl l
theorem jb.get {sl:List (Nat × Value)}:∀ {l:List (Nat × Value)},jb sl l→∀ i v,Sx.get l i=some v→Sx.get sl i=some v
 | [],_,i,v,h=>by simp [Sx.get] at h
 | (j,u) :: l,h,i,v,hv=>by
  simp only [Sx.get] at hv
  split at hv
  ·rename_i e;subst e;simp at hv;subst hv;exact h.1
  ·exact jb.get h.2 i v hv
theorem jb.append {sl l l':List (Nat × Value)} (h:jb sl l) (h':jb sl l'):jb sl (l++l'):=by
 induction l with
 | nil=>exact h'
 | cons p l ih=>exact ⟨h.1,ih h.2⟩
theorem AK.F7 {C:Cx} {sl Fu:List (Nat × Value)} {own own':List bk} {K:Act→World→Prop} (h1:jb sl Fu) (h2:∀ w,HW C own w→HW C own' w) (h:AK C ⟨Fu,own'⟩ K):AK C ⟨sl,own⟩ K:=
 fun a w hs=>h a w ⟨hs.size,hs.defers,fun i v hv=>hs.slot i v (h1.get i v hv),h2 w hs.world⟩
end Go.Sx
namespace Go.Sx
open Go.RowKit
def qN (us:List Value):Prop:=∀ u∈us,u.oneCell'=true
section X6
variable {C : Cx} {sl : List (Nat × Value)} {own : List bk} {ops : Array Oper} {Q : Exit → Act → World → Prop} {ty : TypeId} {pos : String} {aft : Array Edge} {g : Option (Nat × Bool)} {rest : List Oper}
theorem bj.lJ {w w':World} {r:Option Nat} {F:Nat→Prop} (h:w.grownBy w' r) (hF:∀ k,some k=r→F k) (hd:w.drawn≤w'.drawn):bj F w w':=
 ⟨h.os,h.tape,h.output,h.size,fun k hk hn=>h.block k hk (fun e=>hn (hF k e)),hd⟩
theorem lU {w:World} {v:Value} {E:TypeId} {sz n:Nat} {cs:List Value} (h:w.ownsRow 0 E sz v n cs):(row v E sz n cs).holds w (fun b=>v.ownBlock=some b):=⟨h,fun _=>Iff.rfl⟩
theorem fZ {w:World} {B B':Nat} {E:TypeId} {sz n:Nat} {v:Value} {cs:List Value} (h:w.ownsRow B E sz v n cs) (hb:∀ b,v.ownBlock=some b→B'≤b):w.ownsRow B' E sz v n cs:=by
 refine ⟨h.1,?_⟩
 rcases h.2 with h2 | ⟨gb,cap,cur,hv,hg,hh,r⟩
 ·exact .inl h2
 ·exact .inr ⟨gb,cap,cur,hv,hb gb (by rw [hv];rfl),hh,r⟩
theorem HW.ghost {C:Cx} {own:List bk} {w:World} (h:HW C own w) (E:TypeId) (sz:Nat):HW C (own++[row (.slice none 0 0) E sz 0 []]) w:=
 h.push (bj.refl _ w) (cj.one (lU (World.ownsRow_nil w 0 E sz))) (fun j b hb=>by simp [Value.ownBlock] at hb)
theorem AK.ghost {K:Act→World→Prop} (E:TypeId) (sz:Nat) (h:AK C ⟨sl,own++[row (.slice none 0 0) E sz 0 []]⟩ K):AK C ⟨sl,own⟩ K:=
 fun a w hs=>h a w ⟨hs.size,hs.defers,hs.slot,hs.world.ghost E sz⟩
theorem AK.make {d:Nat} {t E:TypeId} {l c:Operand} {sz s' ky:Nat} {z:Value} {n:Nat} (ht:oC C.P t E sz) (hE:gX C.P E z s' ky) (hl:bO ⟨sl,own⟩ l=some (.int .i64 (n:Int))) (hc:bO ⟨sl,own⟩ c=some (.int .i64 (n:Int)))
  (hb:ky * n≤281474976710656) (hm:n≤9223372036854775807) (hg:nc ops sl g) (hd:Nat.blt d C.N=true)
  (h:∀ v,AK C ⟨(d,v) :: sl,own++[row v E sz n (madeCells z.cells (n * sz)).toList]⟩ (wpList C.P ops Q rest)) :
  AK C ⟨sl,own⟩ (wpList C.P ops Q (⟨some d,.makeSlice t l c,ty,pos,aft,g⟩ :: rest)):=by
 intro a w hs
 refine wpList_step fun K hK=>?_
 rw [if_pos (bA hs hg)]
 obtain ⟨i,ta,yQ,Pc,MQ⟩:=hE.inf
 obtain ⟨i',ox,qI⟩:=ht.inf
 rw [ta] at ox;cases ox
 subst MQ
 obtain ⟨w',hr,c4,hgr⟩:=run_make_full (P:=C.P) w w.heap.size t E i z sz ht.1 ta yQ qI .i64 .i64 n hb (by simpa [maxLen] using hm) (Nat.le_refl _)
 have ie:(execOp a.eval ⟨some d,.makeSlice t l c,ty,pos,aft,g⟩).run C.P w = .ok (.value (.slice (some ⟨w.heap.size,0,none⟩) n n)) w':=by
  simp only [execOp,aq hs hl,aq hs hc,Sem.run_bind,hr,Result.andThen_ok,Sem.run_pure]
 simp only [Oper.wp,ie,Oper.upon]
 refine hK _ _ (h (.slice (some ⟨w.heap.size,0,none⟩) n n) _ _ ?_)
 refine hs.put (hs.world.push (.lJ hgr (by simp) (pQ _ _ _ _ hr)) (cj.one (lU (fZ c4 (fun b _=>Nat.zero_le _)))) (fun j b hb=>?_)) (d:=some d) (fun i hi=>by cases hi;simpa [Nat.blt_eq] using hd) _
 obtain ⟨_,hb⟩:=hb
 simp [Value.ownBlock] at hb
 omega
theorem yH {z:Value} {n:Nat} (hz:z.cells = #[z]):(madeCells z.cells (n * 1)).toList=List.replicate n z:=by
 rw [hz,Nat.mul_one];exact toList_madeCells_one z n
theorem AK.kT {d:Nat} {t E:TypeId} {l c:Operand} {s' ky:Nat} {z:Value} {n:Nat} (ht:oC C.P t E 1) (hE:gX C.P E z s' ky) (hz:z.cells = #[z]) (hl:bO ⟨sl,own⟩ l=some (.int .i64 (n:Int))) (hc:bO ⟨sl,own⟩ c=some (.int .i64 (n:Int)))
  (hb:ky * n≤281474976710656) (hm:n≤9223372036854775807) (hg:nc ops sl g) (hd:Nat.blt d C.N=true)
  (h:∀ v,AK C ⟨(d,v) :: sl,own++[row v E 1 n (List.replicate n z)]⟩ (wpList C.P ops Q rest)) :
  AK C ⟨sl,own⟩ (wpList C.P ops Q (⟨some d,.makeSlice t l c,ty,pos,aft,g⟩ :: rest)):=
 AK.make ht hE hl hc hb hm hg hd (fun v=>by rw [yH hz];exact h v)
theorem yG {P:Program} (w:World) (t ty e:TypeId) (i:TypeInfo) (z:Value) (size bytes:Nat) (ht:P.underlying t=some (.slice e)) (hi:P.info? e=some i) (hz:i.zero=some z)
  (oP:i.size=size) (Pg:i.bytes=bytes) (TJ:z.cells.size=size) (qI:0<size)
  (v:Value) (n:Nat) (xs:List Value) (c4:w.ownsRow 0 e size v n xs)
  (a:Addr) (m c:Nat) (news:List Value) (hl:news.length=m * size) (wv:∀ j u,news[j]? = some u→w.cell? (a.add j)=some u) (h1:∀ u∈news,u.oneCell'=true)
  (Mx:n+m≤maxLen) (wJ:(n+m) * bytes≤140737488355328) :
  ∃ v' w',(Builtin.append_ #[t,t] ty #[v,.slice (some a) m c]).run P w = .ok v' w'∧w'.ownsRow 0 e size v' (n+m) (xs++news)∧w.grownBy w' v.ownBlock ∧
   (∀ b,v'.ownBlock=some b→v.ownBlock=some b∨w.heap.size≤b):=by
 by_cases qP:(∃ gb cap,v = .slice (some ⟨gb,0,none⟩) n cap∧n+m≤cap)
 ·obtain ⟨gb,cap,rfl,qw⟩:=qP
  rcases c4.2 with ⟨h,_⟩ | ⟨g',aaC,cur,h',_,hg,mc,vo,oB,jF⟩
  ·simp at h
  ·simp only [Value.slice.injEq,Option.some.injEq,Addr.mk.injEq,and_true,true_and] at h'
   obtain ⟨rfl,rfl⟩:=h'
   subst oP
   have hlen:(xs++news).length=(n+m) * i.size:=by rw [List.length_append,c4.1,hl,Nat.add_mul]
   have qP:n * i.size+news.length≤cur.size:=by rw [hl,oB,← Nat.add_mul];exact Nat.mul_le_mul_right _ qw
   have hr:=run_append_room (P:=P) w t ty e i ht hi gb n cap cur hg a m c news hl wv h1 qw qP
   refine ⟨_,_,hr,⟨hlen,.inr ⟨gb,cap,_,rfl,Nat.zero_le _,setRow_heap w gb cur _ e _ hg,qw,vo,?_,?_⟩⟩,⟨rfl,rfl,rfl,by simp,fun k _ hk=>setRow_other w gb k _ (fun e=>hk (by simp [Value.ownBlock,e]))⟩,fun b hb=>.inl hb⟩
   ·simp only [List.size_toArray,List.length_append,List.length_take,List.length_drop,Array.length_toList]
    omega
   ·rw [jF,← hlen]
    exact List.take_left
 ·rcases c4.2 with ⟨rfl,rfl⟩ | ⟨gb,cap,cur,rfl,_,hg,mc,vo,oB,jF⟩
  ·obtain ⟨v',w',e1,e2,e3,_⟩:=run_append_own (P:=P) w w.heap.size t ty e i z size bytes ht hi hz oP Pg TJ qI _ 0 xs (fZ c4 (by simp [Value.ownBlock])) a m c news hl wv h1 Mx wJ (Nat.le_refl _)
   exact ⟨v',w',e1,fZ e2 (fun b _=>Nat.zero_le _),e3,fun b hb=>.inr (e2.lt b hb).1⟩
  ·subst oP
   subst Pg
   have yf:¬ n+m≤cap:=fun h=>qP ⟨gb,cap,rfl,h⟩
   have SJ:n+m≤9223372036854775807:=by simp only [maxLen] at Mx;omega
   have holds:∀ j u,xs[j]? = some u→w.cell? ((⟨gb,0,none⟩:Addr).add j)=some u:=c4.cells (g:=gb) rfl
   have hr:=run_append_grow (P:=P) w t ty e i z ht hi hz ⟨gb,0,none⟩ n cap xs c4.1 holds a m c news hl wv (by omega) (by omega) (growslice_fits (by omega) wJ)
   have hlen:(xs++news).length=(n+m) * i.size:=by rw [List.length_append,c4.1,hl,Nat.add_mul]
   have Hp:=grownCap_ge w (n+m) cap e
   have Jv:grownCap w (n+m) cap e≤maxLen:=grownCap_le_maxLen w (n+m) cap e Mx
   refine ⟨_,_,hr,⟨hlen,.inr ⟨w.heap.size,_,_,rfl,Nat.zero_le _,heap_alloc_new w.drew _,Hp,Jv,?_,?_⟩⟩,⟨rfl,rfl,rfl,by simp,fun k hk _=>Below.heap_alloc w.drew _ k hk⟩,fun b hb=>.inr (by simp [Value.ownBlock] at hb;omega)⟩
   ·simp only [Array.size_append,List.size_toArray,size_zeroCells,TJ,c4.1,hl,← Nat.add_mul]
    congr 1
    omega
   ·simp only [Array.toList_append,List.append_assoc]
    rw [← List.append_assoc,← hlen]
    exact List.take_left
theorem AK.gA (i:Nat) {d:Nat} {s x:Operand} {t t' E:TypeId} {sz ky:Nat} {z v v2:Value} {n m:Nat} {cs cs2:List Value} (hi:own[i]? = some (row v E sz n cs)) (ht:oC C.P t E sz) (hE:gX C.P E z sz ky) (hz:z.cells.size=sz) (qI:0<sz) (Xz:t'=t)
  (hx:bO ⟨sl,own⟩ s=some v) (hy:bO ⟨sl,own⟩ x=some v2) (hr:cR C own v2 sz m cs2) (h1:qN cs2) (hm:n+m≤9223372036854775807) (hb:(n+m) * ky≤140737488355328) (hg:nc ops sl g) (hd:Nat.blt d C.N=true)
  (h:∀ v',AK C ⟨(d,v') :: sl,own.set i (row v' E sz (n+m) (cs++cs2))⟩ (wpList C.P ops Q rest)) :
  AK C ⟨sl,own⟩ (wpList C.P ops Q (⟨some d,.call ⟨.builtin .append,#[s,x],#[t,t']⟩,ty,pos,aft,g⟩ :: rest)):=by
 subst Xz
 intro a w hs
 refine wpList_step fun K hK=>?_
 rw [if_pos (bA hs hg)]
 obtain ⟨inf,ta,yQ,Pc,MQ⟩:=hE.inf
 obtain ⟨hf,Fs,hh,bc⟩:=hs.world
 obtain ⟨c4,Ja⟩:=hh.at_ i _ hi
 have XE:=hr w hs.world
 have key:∃ v' w',(Builtin.append_ #[t',t'] ty #[v,v2]).run C.P w = .ok v' w'∧w'.ownsRow 0 E sz v' (n+m) (cs++cs2)∧w.grownBy w' v.ownBlock∧(∀ b,v'.ownBlock=some b→v.ownBlock=some b∨w.heap.size≤b):=by
  obtain ⟨oa,cap,rfl,hmm,DU,To,cZ⟩:=XE
  cases oa with
  | some ad=>
   exact yG (P:=C.P) w t' ty E inf z sz ky ht.1 ta yQ Pc MQ hz qI v n cs c4 ad m cap cs2 DU (fun j u hj=>(cZ ad j u rfl hj).2) h1 (by simpa [maxLen] using hm) hb
  | none=>
   have MO:m=0:=by
    rcases Nat.eq_zero_or_pos m with h | h
    ·exact h
    ·have:=To h qI;simp at this
   subst MO
   have Rj:cs2=[]:=List.eq_nil_of_length_eq_zero (by simpa using DU)
   subst Rj
   have:n≤(match v with | .slice _ _ c=>c | _=>0)∧∃ ao c,v = .slice ao n c∧n≤c:=by
    rcases c4.2 with ⟨rfl,rfl⟩ | ⟨gb,cp,cur,rfl,_,_,mc,_⟩
    ·exact ⟨Nat.le_refl _,none,0,rfl,Nat.le_refl _⟩
    ·exact ⟨mc,_,cp,rfl,mc⟩
   obtain ⟨_,ao,c,rfl,mc⟩:=this
   refine ⟨.slice ao n c,w,?_,by simpa using c4,⟨rfl,rfl,rfl,Nat.le_refl _,fun _ _ _=>rfl⟩,fun b hb=>.inl hb⟩
   cases ao with
   | none=>simp [Builtin.append_,run_underlying ht.1,sizeOf,typeInfo,ta,Builtin.lenOf,mc,Builtin.firstCells]
   | some a0=>simp [Builtin.append_,run_underlying ht.1,sizeOf,typeInfo,ta,Builtin.lenOf,mc,Builtin.firstCells,storeCells]
 obtain ⟨v',w',e1,e2,e3,e4⟩:=key
 have ie:(execOp a.eval ⟨some d,.call ⟨.builtin .append,#[s,x],#[t',t']⟩,ty,pos,aft,g⟩).run C.P w = .ok (.value v') w':=by
  simp [execOp,resolve,invoke,builtin,aq hs hx,aq hs hy,e1]
 simp only [Oper.wp,ie,Oper.upon]
 refine hK _ _ (h v' _ _ ?_)
 have bZ:i<own.length:=(List.getElem?_eq_some_iff.1 hi).1
 have qo:=HW.update (own2:=[]) (A':=row v' E sz (n+m) (cs++cs2)) hf hh bc bZ (.lJ e3 (fun k hk=>(Ja k).2 hk.symm) (pQ _ _ _ _ e1)) (cj.one (lU e2)) (fun j b hb=>by
  exact (e4 b hb.2).imp (Ja b).2 id)
 rw [List.append_nil] at qo
 exact hs.put qo (d:=some d) (fun i hi=>by cases hi;simpa [Nat.blt_eq] using hd) v'
theorem zx:∀ (vs:List Value) (j off:Nat) (cells:Array Value),off+j+vs.length≤cells.size →
  (vs.zipIdx j).foldl (fun cs p=>cs.setIfInBounds (off+p.2) p.1) cells=(cells.toList.take (off+j)++vs++cells.toList.drop (off+j+vs.length)).toArray
 | [],j,off,cells,h=>by simp
 | v :: vs,j,off,cells,h=>by
  simp only [List.zipIdx_cons,List.foldl_cons]
  rw [zx vs (j+1) off _ (by simp at h ⊢;omega)]
  congr 1
  simp only [Array.toList_setIfInBounds,List.length_cons] at h ⊢
  have hl:cells.toList.length=cells.size:=Array.length_toList
  generalize cells.toList=L at hl ⊢
  have bZ:off+j<L.length:=by omega
  have e1:(L.set (off+j) v).take (off+(j+1))=L.take (off+j)++[v]:=by
   rw [show off+(j+1)=(off+j)+1 from by omega,List.take_succ_eq_append_getElem (by simpa using bZ),List.take_set_of_le (Nat.le_refl _)]
   simp
  have e2:(L.set (off+j) v).drop (off+(j+1)+vs.length)=L.drop (off+j+(vs.length+1)):=by
   rw [List.drop_set_of_lt (by omega)]
   congr 1
   omega
  rw [e1,e2]
  simp
theorem zC {sz:Nat}:∀ (us:List Value) (k:Nat) (cells:Array Value),(∀ u∈us,u.cells.size=sz)→k * sz+us.length * sz≤cells.size →
  Instr.fill (fun i=>some (i * sz,sz)) cells ((us.zipIdx k).map fun p=>(p.2,p.1))=some (cells.toList.take (k * sz)++us.flatMap (·.cells.toList)++cells.toList.drop (k * sz+us.length * sz)).toArray
 | [],k,cells,_,h=>by simp [Instr.fill]
 | u :: us,k,cells,hu,h=>by
  have Xy:=hu u (by simp)
  have qP:k * sz+sz≤cells.size:=by simp only [List.length_cons,Nat.succ_mul] at h;omega
  simp only [List.zipIdx_cons,List.map_cons,Instr.fill]
  rw [if_neg (by simp [Xy];omega)]
  have hf:=zx u.cells.toList 0 (k * sz) cells (by simp [Xy];omega)
  have he:u.cells.zipIdx.foldl (fun cs x=>match x with | (c,j)=>cs.setIfInBounds (k * sz+j) c) cells=(u.cells.toList.zipIdx 0).foldl (fun cs p=>cs.setIfInBounds (k * sz+p.2) p.1) cells:=by
   rw [← Array.foldl_toList,Array.toList_zipIdx]
  rw [he,hf]
  have Wy:u.cells.toList.length=sz:=by simp [Xy]
  rw [zC us (k+1) _ (fun x hx=>hu x (by simp [hx])) (by simp only [List.length_cons,Nat.succ_mul] at h ⊢;simp;omega)]
  congr 2
  simp only [List.flatMap_cons,Nat.add_zero,List.length_cons,Nat.succ_mul]
  have hl:cells.toList.length=cells.size:=Array.length_toList
  generalize cells.toList=L at hl ⊢
  generalize us.flatMap (·.cells.toList)=M
  generalize hU:u.cells.toList=U at Wy ⊢
  have e1:(L.take (k * sz)++U++L.drop (k * sz+U.length)).take (k * sz+sz)=L.take (k * sz)++U:=by
   rw [List.take_append_of_le_length (by simp;omega),List.take_of_length_le (by simp;omega)]
  have e2:(L.take (k * sz)++U++L.drop (k * sz+U.length)).drop (k * sz+sz+us.length * sz)=L.drop (k * sz+(us.length * sz+sz)):=by
   rw [List.drop_append]
   rw [List.drop_eq_nil_of_le (by simp;omega),List.nil_append,List.drop_drop]
   congr 1
   simp
   omega
  rw [e1,e2]
  simp
def G4 (xs:List Operand):List (Nat × Operand):=xs.zipIdx.map fun p=>(p.2,p.1)
theorem AK.lit {d:Nat} {t E:TypeId} {sz ky:Nat} {z:Value} {xs:List Operand} {us:List Value} {n:Nat} {parts:List (Nat × Operand)} (ht:oC C.P t E sz) (hE:gX C.P E z sz ky) (hp:parts=G4 xs) (hn:n=xs.length) (hx:mj ⟨sl,own⟩ xs=some us)
  (hu:∀ u∈us,u.cells.size=sz) (hb:n * sz≤16777216) (hbn:n≤16777216) (hg:nc ops sl g) (hd:Nat.blt d C.N=true)
  (h:∀ v,AK C ⟨(d,v) :: sl,own++[row v E sz n (us.flatMap (·.cells.toList))]⟩ (wpList C.P ops Q rest)) :
  AK C ⟨sl,own⟩ (wpList C.P ops Q (⟨some d,.buildSlice t n parts.toArray,ty,pos,aft,g⟩ :: rest)):=by
 intro a w hs
 refine wpList_step fun K hK=>?_
 rw [if_pos (bA hs hg)]
 obtain ⟨i,ta,yQ,Pc,MQ⟩:=hE.inf
 have he:=jK hs hx
 have hlen:us.length=n:=by rw [← he,List.length_map,hn]
 have Ku:(parts.toArray.map fun x=>(x.1,a.eval x.2)).toList=(us.zipIdx 0).map fun p=>(p.2,p.1):=by
  subst hp;subst he
  simp [G4,List.zipIdx_map,Function.comp_def]
 have wI:∀ c:Array Value,c.size=n * sz→Instr.fill (fun i=>some (i * sz,sz)) c ((us.zipIdx 0).map fun p=>(p.2,p.1))=some (us.flatMap (·.cells.toList)).toArray:=by
  intro c hc
  rw [zC us 0 c hu (by simp [hlen,hc])]
  simp [hlen,hc]
 have MR:(us.flatMap (·.cells.toList)).length=n * sz:=by
  rw [← hlen];clear hlen hx wI Ku he h
  induction us with
  | nil=>simp
  | cons u us ih=>simp only [List.flatMap_cons,List.length_append,List.length_cons,Nat.succ_mul];rw [ih (fun x hx=>hu x (by simp [hx]))];have:=hu u (by simp);simp [this];omega
 have ie:(execOp a.eval ⟨some d,.buildSlice t n parts.toArray,ty,pos,aft,g⟩).run C.P w = .ok (.value (.slice (some ⟨w.heap.size,0,none⟩) n n)) (w.alloc (.cells (us.flatMap (·.cells.toList)).toArray E)):=by
  have GN:(parts.map fun x=>(x.1,a.eval x.2))=(us.zipIdx 0).map fun p=>(p.2,p.1):=by simpa using Ku
  simp only [execOp,Instr.buildSlice]
  have qI:(sizeOf E).run C.P w = .ok sz w:=cI ht.2 w
  by_cases h0:n * sz=0
  ·have:=wI ((Array.range 0).map fun _=>default) (by simp [h0])
   simp only [Sem.run_bind,run_underlying ht.1,Result.andThen_ok,qI]
   rw [if_neg (by omega)]
   simp only [Sem.run_bind,Sem.run_pure,Result.andThen_ok,h0,if_true]
   simp [GN,this,newRow]
  ·have:=wI ((Array.range (n * sz)).map (z.cells[· % z.cells.size]!)) (by simp)
   simp only [Sem.run_bind,run_underlying ht.1,Result.andThen_ok,qI]
   rw [if_neg (by omega)]
   simp only [Sem.run_bind,Sem.run_pure,Result.andThen_ok,h0,if_false]
   simp [zeroValue,typeInfo,ta,yQ,GN,this,newRow]
 simp only [Oper.wp,ie,Oper.upon]
 refine hK _ _ (h (.slice (some ⟨w.heap.size,0,none⟩) n n) _ _ ?_)
 have c4:=World.ownsRow_lit (base:=0) (e:=E) (size:=sz) w (us.flatMap (·.cells.toList)).toArray n (Nat.zero_le _) (by unfold maxLen;omega) (by simpa using MR)
 refine hs.put (hs.world.push (.lJ (World.grownBy_alloc w _ none) (by simp) (Nat.le_refl _)) (cj.one (lU c4)) (fun j b hb=>?_)) (d:=some d) (fun i hi=>by cases hi;simpa [Nat.blt_eq] using hd) _
 obtain ⟨_,hb⟩:=hb
 simp [Value.ownBlock] at hb
 omega
end X6
section Z6
variable {C : Cx} {sl : List (Nat × Value)} {own : List bk} {ops : Array Oper} {Q : Exit → Act → World → Prop} {ty : TypeId} {pos : String} {aft : Array Edge} {g : Option (Nat × Bool)} {rest : List Oper}
theorem HW.take {C:Cx} {own l:List bk} {w:World} (h:HW C (own++l) w):HW C own w:=by
 obtain ⟨hf,Fs,hh,bc⟩:=h
 refine ⟨hf,fun k b=>k<own.length∧Fs k b,⟨?_,?_,?_⟩,fun k b hb=>bc k b hb.2⟩
 ·intro k A hk
  have bZ:=(List.getElem?_eq_some_iff.1 hk).1
  have:=hh.at_ k A (by rw [List.getElem?_append_left bZ];exact hk)
  simpa [bZ] using this
 ·rintro k hk b ⟨h,_⟩;omega
 ·rintro k j b ⟨_,h1⟩ ⟨_,h2⟩;exact hh.apart k j b h1 h2
def aB (v:Value):Prop:=∃ ao n c,v = .slice ao n c
theorem aB.cells {v:Value} (h:aB v):v.cells = #[v]:=by obtain ⟨_,_,_,rfl⟩:=h;rfl
theorem aB.one {v:Value} (h:aB v):v.oneCell'=true:=by obtain ⟨_,_,_,rfl⟩:=h;rfl
theorem tI {w:World} {F:Nat→Prop} {v:Value} {E:TypeId} {sz n:Nat} {cs:List Value} (h:(row v E sz n cs).holds w F):aB v:=by
 rcases h.1.2 with ⟨h2,_⟩ | ⟨gb,cap,cur,hv,_⟩
 ·exact ⟨_,_,_,h2⟩
 ·exact ⟨_,_,_,hv⟩
theorem AK.fact {C:Cx} {st:St} {K:Act→World→Prop} {p:Prop} (hp:∀ w,HW C st.own w→p) (h:p→AK C st K):AK C st K:=fun a w hs=>h (hp w hs.world) a w hs
theorem HW.shape {C:Cx} {own:List bk} {v:Value} {E:TypeId} {sz n:Nat} {cs:List Value} {w:World} (i:Nat) (hw:HW C own w) (hi:own[i]? = some (row v E sz n cs)):aB v:=by
 obtain ⟨_,Fs,hh,_⟩:=hw
 exact tI (hh.at_ i _ hi)
theorem AK.fF (i:Nat) {d1 d2:Nat} {s x:Operand} {t E:TypeId} {sz ky:Nat} {z v u:Value} {n:Nat} {cs:List Value} {ty2:TypeId} {YE:String} {aaG:Array Edge} (hi:own[i]? = some (row v E sz n cs)) (ht:oC C.P t E sz) (hE:gX C.P E z sz ky) (hz:z.cells.size=sz) (qI:0<sz)
  (Wx:mj ⟨sl,own⟩ [s,x]=some [v,u]) (j9:∀ k,s = .tmp k→(d1 == k)=false) (hu:u.cells.size=sz) (h1:qN u.cells.toList) (hm:n+1≤9223372036854775807) (hb:(n+1) * ky≤140737488355328) (WS:sz≤16777216) (TZ:Nat.blt d1 C.N=true) (hd:Nat.blt d2 C.N=true)
  (h:∀ v' t',aB v'→AK C ⟨(d2,v') :: (d1,t') :: sl,own.set i (row v' E sz (n+1) (cs++u.cells.toList))⟩ (wpList C.P ops Q rest)) :
  AK C ⟨sl,own⟩ (wpList C.P ops Q (⟨some d1,.buildSlice t 1 #[(0,x)],ty,pos,aft,none⟩ :: ⟨some d2,.call ⟨.builtin .append,#[s,.tmp d1],#[t,t]⟩,ty2,YE,aaG,none⟩ :: rest)):=by
 have ye:bO ⟨sl,own⟩ s=some v∧bO ⟨sl,own⟩ x=some u:=by
  simp only [mj] at Wx
  cases e1:bO ⟨sl,own⟩ s <;> cases e2:bO ⟨sl,own⟩ x <;> simp [e1,e2] at Wx
  exact ⟨by rw [Wx.1],by rw [Wx.2]⟩
 have HA:=(List.getElem?_eq_some_iff.1 hi).1
 refine AK.lit (xs:=[x]) (us:=[u]) ht hE rfl rfl (by simp [mj,ye.2]) (by simpa using hu) (by omega) (by omega) trivial TZ fun tv=>?_
 refine AK.gA i (v:=v) (v2:=tv) (n:=n) (m:=1) (cs:=cs) (cs2:=u.cells.toList) (by rw [List.getElem?_append_left HA];exact hi) ht hE hz qI rfl ?_ (by simp [bO,get]) (cR.own own.length (E:=E) (by simp)) h1 hm hb trivial hd fun v'=>?_
 ·cases s with
  | tmp k=>have:=j9 k rfl;simp only [beq_eq_false_iff_ne,ne_eq] at this;simp only [bO,get,this,if_false];exact ye.1
  | const c=>exact ye.1
  | global c=>exact ye.1
  | func c=>exact ye.1
 ·intro a w hs
  have D3:HW C (own.set i (row v' E sz (n+1) (cs++u.cells.toList))) w:=by
   have:=hs.world
   rw [List.set_append_left _ _ HA] at this
   exact this.take
  exact h v' tv (D3.shape (E:=E) (sz:=sz) (n:=n+1) (cs:=cs++u.cells.toList) i (by simp [HA])) a w ⟨hs.size,hs.defers,hs.slot,D3⟩
theorem Ia {w:World} {v:Value} {E:TypeId} {sz n:Nat} {cs:List Value} {F:Nat→Prop} (h:(row v E sz n cs).holds w F) {j:Nat} (hj:j<n * sz) (u:Value) :
  (w.setCell ((ko v).add j) u).ownsRow 0 E sz v n (cs.set j u)∧bj F w (w.setCell ((ko v).add j) u)∧(w.cell? ((ko v).add j)).isSome∧w.frozen? ((ko v).add j)=false:=by
 obtain ⟨c4,hF⟩:=h
 rcases c4.2 with ⟨rfl,rfl⟩ | ⟨gb,cap,cur,rfl,hb,hg,mc,vo,oB,jF⟩
 ·omega
 ·obtain ⟨h1,h2⟩:=c4.stored j u
  have ha:((ko (.slice (some ⟨gb,0,none⟩) n cap)).add j)=⟨gb,j,none⟩:=by simp [ko,Addr.add_lit]
  rw [ha]
  refine ⟨h1,.lJ h2 (fun k hk=>by cases hk;exact (hF gb).2 rfl) (Nat.le_refl _),?_,c4.frozenAt j⟩
  have yP:j<cs.length:=by rw [c4.1];exact hj
  rw [c4.cellAt j hj,List.getElem?_eq_getElem yP]
  rfl
theorem AK.Kd (i:Nat) {t E:TypeId} {x y:Operand} {v u:Value} {n j:Nat} {cs:List Value} (hi:own[i]? = some (row v E 1 n cs)) (uG:(C.P.info? t).map (·.size)=some 1) (hx:bO ⟨sl,own⟩ x=some (.pointer (some ((ko v).add (j * 1))))) (hy:bO ⟨sl,own⟩ y=some u)
  (hu:u.cells = #[u]) (h1:u.oneCell'=true) (hj:j<n) (hg:nc ops sl g) (h:AK C ⟨sl,own.set i (row v E 1 n (cs.set j u))⟩ (wpList C.P ops Q rest)) :
  AK C ⟨sl,own⟩ (wpList C.P ops Q (⟨none,.store t x y,ty,pos,aft,g⟩ :: rest)):=by
 intro a w hs
 refine wpList_step fun K hK=>?_
 rw [if_pos (bA hs hg)]
 obtain ⟨hf,Fs,hh,bc⟩:=hs.world
 have hA:=hh.at_ i _ hi
 obtain ⟨e1,e2,e3,e4⟩:=Ia hA (j:=j) (by omega) u
 rw [Nat.mul_one] at hx
 have mg:(store ((ko v).add j) u).run C.P w = .ok () (w.setCell ((ko v).add j) u):=by
  obtain ⟨u0,I1⟩:=Option.isSome_iff_exists.1 e3
  rw [run_store _ _ _ _ _ h1,I1,e4];rfl
 have Rp:∀ a:Addr,a.add 0=a:=fun a=>by simp [Addr.add]
 have ie:(execOp a.eval ⟨none,.store t x y,ty,pos,aft,g⟩).run C.P w = .ok .skip (w.setCell ((ko v).add j) u):=by
  simp only [execOp,aq hs hx,aq hs hy,Instr.storeAt,Instr.sureAddr,storeVar,Sem.run_bind,Sem.run_pure,Result.andThen_ok,cI uG,hu]
  simp [storeCells,mg,Rp]
 simp only [Oper.wp,ie,Oper.upon]
 refine hK _ _ (h _ _ ?_)
 have bZ:i<own.length:=(List.getElem?_eq_some_iff.1 hi).1
 have qo:=HW.update (own2:=[]) (A':=row v E 1 n (cs.set j u)) hf hh bc bZ e2 (cj.one (lU e1)) (fun k b hb=>.inl ((hA.2 b).2 hb.2))
 rw [List.append_nil] at qo
 exact hs.put qo (d:=none) (fun i hi=>by cases hi) undef
end Z6
structure tE (C:Cx) (sl:List (Nat × Value)) (a:Act):Prop where
 size:a.tmps.size=C.N
 defers:a.defers=[]
 slot:∀ i v,get sl i=some v→a.tmps.getD i undef=v
theorem tE.Qr {C:Cx} {sl:List (Nat × Value)} {own:List bk} {a:Act} {w:World} (h:tE C sl a) (hw:HW C own w):B8 C ⟨sl,own⟩ a w:=⟨h.size,h.defers,h.slot,hw⟩
theorem B8.D7 {C:Cx} {sl:List (Nat × Value)} {own:List bk} {a:Act} {w:World} (h:B8 C ⟨sl,own⟩ a w):tE C sl a:=⟨h.size,h.defers,h.slot⟩
theorem tE.put {C:Cx} {sl:List (Nat × Value)} {a:Act} (h:tE C sl a) {d:Nat} (hd:Nat.blt d C.N=true) (v:Value):tE C ((d,v) :: sl) (a.put (some d) v):=by
 refine ⟨by simp [Act.put,h.size],h.defers,fun j u hj=>?_⟩
 simp only [get] at hj
 have hi:d<a.tmps.size:=by rw [h.size];simpa [Nat.blt_eq] using hd
 simp only [Act.put]
 split at hj
 ·rename_i e;subst e
  simp only [Option.some.injEq] at hj
  subst hj
  simp [hi]
 ·rename_i e
  have:=h.slot j u hj
  simp only [Array.getD_eq_getD_getElem?] at this ⊢
  rw [Array.getElem?_setIfInBounds,if_neg e]
  exact this
theorem fM {C:Cx} {sl:List (Nat × Value)} {a:Act} (hs:tE C sl a) {ops:Array Oper} {o:Oper} (hg:nc ops sl o.guard):Region.wanted o (yielded ops a.tmps)=true:=
 bA (C:=⟨C.P,C.N,default,fun _=>False⟩) (st:=⟨sl,[]⟩) (w:=default) ⟨hs.size,hs.defers,hs.slot,⟨bj.refl _ _,_,cj.nil _,fun _ _ h=>h.elim⟩⟩ hg
theorem uX {C:Cx} {sl:List (Nat × Value)} {a:Act} (hs:tE C sl a) {ops:Array Oper} {d:Nat} {op:Op} {ty:TypeId} {pos:String} {aft:Array Edge} {j:Nat} {want:Bool} {gd:Nat} {gv:Value}
  (h1:(ops[j]?).bind (·.dst)=some gd) (h2:get sl gd=some gv) (h3:HM gv want):Region.wanted (⟨some d,op,ty,pos,aft,some (j,want)⟩:Oper) (yielded ops a.tmps)=false:=by
 have h4:=hs.slot gd _ h2
 cases ho:ops[j]? with
 | none=>simp [ho] at h1
 | some o'=>
  simp only [ho,Option.bind_some] at h1
  simp only [Array.getD_eq_getD_getElem?] at h4
  simp only [Region.wanted,yielded,ho,Option.bind_some,h1]
  cases hq:a.tmps[gd]? with
  | none=>simp [hq] at h4 ⊢
  | some u=>
   simp [hq] at h4
   subst h4
   cases u <;> simp [HM] at h3 ⊢
   subst h3
   cases want <;> simp
def QK (C:Cx) (st:St) (K:Act→Prop):Prop:=∀ a,tE C st.sl a→K a
section quiet
variable {C : Cx} {sl : List (Nat × Value)} {own : List bk} {ops : Array Oper} {Qq : Act → Prop} {d : Nat} {op : Op} {ty : TypeId} {pos : String} {aft : Array Edge} {g : Option (Nat × Bool)} {rest : List Oper}
theorem QK.nil (h:QK C ⟨sl,own⟩ Qq):QK C ⟨sl,own⟩ (wpQuiet C.P ops (HW C own) Qq []):=fun a hs=>wpQuiet_nil (h a hs)
theorem QK.val (v:Value) (hy:Yl C ⟨sl,own⟩ ⟨some d,op,ty,pos,aft,g⟩ v) (hg:nc ops sl g) (hd:Nat.blt d C.N=true) (h:QK C ⟨(d,v) :: sl,own⟩ (wpQuiet C.P ops (HW C own) Qq rest)) :
  QK C ⟨sl,own⟩ (wpQuiet C.P ops (HW C own) Qq (⟨some d,op,ty,pos,aft,g⟩ :: rest)):=by
 intro a hs
 refine wpQuiet_step fun K hK=>?_
 rw [if_pos (fM hs hg)]
 refine ⟨v,fun w hw=>?_,hK _ (h _ (hs.put hd v))⟩
 unfold Oper.quietAt
 rw [hy a w (hs.Qr hw)]
 exact ⟨rfl,rfl⟩
theorem QK.pass {j:Nat} {want:Bool} {gd:Nat} {gv:Value} (h1:(ops[j]?).bind (·.dst)=some gd) (h2:get sl gd=some gv) (h3:HM gv want) (hd:Nat.blt d C.N=true) (h:QK C ⟨(d,undef) :: sl,own⟩ (wpQuiet C.P ops (HW C own) Qq rest)) :
  QK C ⟨sl,own⟩ (wpQuiet C.P ops (HW C own) Qq (⟨some d,op,ty,pos,aft,some (j,want)⟩ :: rest)):=by
 intro a hs
 refine wpQuiet_step fun K hK=>?_
 rw [uX hs h1 h2 h3]
 simp only [Bool.false_eq_true,if_false]
 exact hK _ (h _ (hs.put hd undef))
theorem QK.call (v:Value) {f:FuncId} {xs:List Operand} {yL:Array TypeId} {vs:List Value} {φ:Value→List bk→Prop} (hf:aj C.P f) (hx:mj ⟨sl,own⟩ xs=some vs) (oO:∀ w,HW C own w→aK C.P f vs w φ) (hv:∀ u own',φ u own'→u=v) (hg:nc ops sl g) (hd:Nat.blt d C.N=true)
  (h:QK C ⟨(d,v) :: sl,own⟩ (wpQuiet C.P ops (HW C own) Qq rest)):QK C ⟨sl,own⟩ (wpQuiet C.P ops (HW C own) Qq (⟨some d,.call ⟨.value (.func f),xs.toArray,yL⟩,ty,pos,aft,g⟩ :: rest)):=by
 intro a hs
 refine wpQuiet_step fun K hK=>?_
 rw [if_pos (fM hs hg)]
 refine ⟨v,fun w hw=>?_,hK _ (h _ (hs.put hd v))⟩
 unfold Oper.quietAt
 rw [sD (hs.Qr hw) hf hx]
 refine ⟨rfl,(oO w hw).mono ?_⟩
 rintro e w' ⟨u,own',yo,rfl,uE,Fs,hh,me⟩
 rw [hv u own' yo]
 exact ⟨rfl,(hw.push uE hh (fun j b hb=>(me j b hb).resolve_left id)).take⟩
theorem QK.bQ {g:Nat} {b:Bool} {K:Act→Prop} (hx:get sl g=some (.bool b)) (h1:b=true→QK C ⟨sl,own⟩ K) (h2:b=false→QK C ⟨sl,own⟩ K):QK C ⟨sl,own⟩ K:=by
 cases b
 ·exact h2 rfl
 ·exact h1 rfl
theorem AK.quiet {Q:Exit→Act→World→Prop} {id:Nat} {l:List Oper} (hm:C.P.follows .mixedOrders=true) (hB:Region.lexB .any l.toArray=true)
  (h:QK C ⟨sl,own⟩ (wpQuiet C.P l.toArray (HW C own) (fun a'=>∀ w',HW C own w'→Q .normal a' w') l)):AK C ⟨sl,own⟩ ((Code.region id l.toArray true).wp C.P Q):=by
 intro a w hs
 refine wp_region_quiet (C:=HW C own) hm hB ?_ (by simpa using h a hs.D7)
 have:=hs.world.push (w':={ w with drawn:=w.drawn+1 }) (own2:=[]) ⟨rfl,rfl,rfl,Nat.le_refl _,fun _ _ _=>rfl,Nat.le_succ _⟩ (cj.nil _) (fun _ _ h=>h.elim)
 simpa using this
theorem QK.fin {K:Act→World→Prop} (h:AK C ⟨sl,own⟩ K):QK C ⟨sl,own⟩ (fun a'=>∀ w',HW C own w'→K a' w'):=fun a hs w' hw=>h a w' (hs.Qr hw)
end quiet
theorem AK.bQ {C:Cx} {sl:List (Nat × Value)} {own:List bk} {g:Nat} {b:Bool} {K:Act→World→Prop} (hx:get sl g=some (.bool b)) (h1:b=true→AK C ⟨sl,own⟩ K) (h2:b=false→AK C ⟨sl,own⟩ K):AK C ⟨sl,own⟩ K:=by
 cases b
 ·exact h2 rfl
 ·exact h1 rfl
def SK (C:Cx) (st:St) (K:Act→Prop):Prop:=∀ a,tE C st.sl a→K a
section still
variable {C : Cx} {sl : List (Nat × Value)} {own : List bk} {ops : Array Oper} {Qq : Act → Prop} {d : Nat} {op : Op} {ty : TypeId} {pos : String} {aft : Array Edge} {g : Option (Nat × Bool)} {rest : List Oper} {w : World}
theorem SK.nil (h:SK C ⟨sl,own⟩ Qq):SK C ⟨sl,own⟩ (wpStill C.P ops w Qq []):=fun a hs=>wpStill_nil (h a hs)
theorem SK.val (hw:HW C own w) (v:Value) (hy:Yl C ⟨sl,own⟩ ⟨some d,op,ty,pos,aft,g⟩ v) (hg:nc ops sl g) (hd:Nat.blt d C.N=true) (h:SK C ⟨(d,v) :: sl,own⟩ (wpStill C.P ops w Qq rest)) :
  SK C ⟨sl,own⟩ (wpStill C.P ops w Qq (⟨some d,op,ty,pos,aft,g⟩ :: rest)):=by
 intro a hs
 refine wpStill_step fun K hK=>?_
 rw [if_pos (fM hs hg)]
 unfold Oper.still
 rw [hy a w (hs.Qr hw)]
 exact ⟨rfl,hK _ (h _ (hs.put hd v))⟩
theorem SK.pass {j:Nat} {want:Bool} {gd:Nat} {gv:Value} (h1:(ops[j]?).bind (·.dst)=some gd) (h2:get sl gd=some gv) (h3:HM gv want) (hd:Nat.blt d C.N=true) (h:SK C ⟨(d,undef) :: sl,own⟩ (wpStill C.P ops w Qq rest)) :
  SK C ⟨sl,own⟩ (wpStill C.P ops w Qq (⟨some d,op,ty,pos,aft,some (j,want)⟩ :: rest)):=by
 intro a hs
 refine wpStill_step fun K hK=>?_
 rw [uX hs h1 h2 h3]
 simp only [Bool.false_eq_true,if_false]
 exact hK _ (h _ (hs.put hd undef))
theorem SK.bQ {g:Nat} {b:Bool} {K:Act→Prop} (hx:get sl g=some (.bool b)) (h1:b=true→SK C ⟨sl,own⟩ K) (h2:b=false→SK C ⟨sl,own⟩ K):SK C ⟨sl,own⟩ K:=by
 cases b
 ·exact h2 rfl
 ·exact h1 rfl
theorem AK.kK {Q:Exit→Act→World→Prop} {id:Nat} {l:List Oper} (n:Nat) (hm:C.P.follows .mixedOrders=true) (hB:Region.lexTailB .any l.toArray n=true)
  (h:∀ w,HW C own w→SK C ⟨sl,own⟩ (wpStill C.P l.toArray w (fun a'=>wpList C.P l.toArray Q (l.drop n) a' w) (l.take n))):AK C ⟨sl,own⟩ ((Code.region id l.toArray true).wp C.P Q):=by
 intro a w hs
 refine wp_region_still_tail n hm hB (h _ ?_ a hs.D7)
 have:=hs.world.push (w':={ w with drawn:=w.drawn+1 }) (own2:=[]) ⟨rfl,rfl,rfl,Nat.le_refl _,fun _ _ _=>rfl,Nat.le_succ _⟩ (cj.nil _) (fun _ _ h=>h.elim)
 simpa using this
theorem SK.fin {K:Act→World→Prop} (hw:HW C own w) (h:AK C ⟨sl,own⟩ K):SK C ⟨sl,own⟩ (fun a'=>K a' w):=fun a hs=>h a w (hs.Qr hw)
end still
section Vf
variable {C : Cx} {sl : List (Nat × Value)} {own : List bk} {dst : Option Nat} {ty : TypeId} {pos : String} {aft : Array Edge} {g : Option (Nat × Bool)}
theorem Yl.bw {c x y:Operand} {b:Bool} {u:Value} (hc:bO ⟨sl,own⟩ c=some (.bool b)) (hb:b=true) (hx:bO ⟨sl,own⟩ x=some u):Yl C ⟨sl,own⟩ ⟨dst,.pick c x y,ty,pos,aft,g⟩ u:=
 Yl.pick hc (by subst hb;exact hx)
theorem Yl.cH {c x y:Operand} {b:Bool} {u:Value} (hc:bO ⟨sl,own⟩ c=some (.bool b)) (hb:b=false) (hx:bO ⟨sl,own⟩ y=some u):Yl C ⟨sl,own⟩ ⟨dst,.pick c x y,ty,pos,aft,g⟩ u:=
 Yl.pick hc (by subst hb;exact hx)
end Vf
def BX (w:World) (v:Value) (xs:List Int):Prop:=Rd (fun _=>¬ False) w v 1 xs.length (xs.map (Value.int .i64))
theorem AK.aA {C:Cx} {st:St} {c:Operand} {x y:Code} {Q:Exit→Act→World→Prop} {p:Prop} [Decidable p] (hc:bO st c=some (.bool (decide p))) (hx:p→AK C st (x.wp C.P Q)) (hy:¬ p→AK C st (y.wp C.P Q)) :
 AK C st ((Code.cond c x y).wp C.P Q):=AK.cond hc (fun h=>hx (of_decide_eq_true h)) (fun h=>hy (of_decide_eq_false h))
theorem AK.eW {C:Cx} {st:St} {c:Operand} {x y:Code} {Q:Exit→Act→World→Prop} {b:Bool} (hc:bO st c=some (.bool (!b))) (hx:b=false→AK C st (x.wp C.P Q)) (hy:b=true→AK C st (y.wp C.P Q)) :
 AK C st ((Code.cond c x y).wp C.P Q):=AK.cond hc (fun h=>hx (by simpa using h)) (fun h=>hy (by simpa using h))
theorem jb.nil {sl:List (Nat × Value)}:jb sl []:=trivial
theorem jb.cons {sl l:List (Nat × Value)} {i:Nat} {v:Value} (h:Sx.get sl i=some v) (h':jb sl l):jb sl ((i,v) :: l):=⟨h,h'⟩
theorem s9 {sl:List (Nat × Value)} {i:Nat} {k:IntKind} {a b:Int} (h:Sx.get sl i=some (.int k a)) (e:a=b):Sx.get sl i=some (.int k b):=by rw [← e];exact h
theorem Ft {sl:List (Nat × Value)} {i:Nat} {a b:Bool} (h:Sx.get sl i=some (.bool a)) (e:a=b):Sx.get sl i=some (.bool b):=by rw [← e];exact h
theorem aO {α:Type} (d:α) (xs:List α) (k:Nat) (h:k<xs.length):xs.take (k+1)=xs.take k++[xs.getD k d]:=by
 rw [List.getD_eq_getElem?_getD,List.getElem?_eq_getElem h,Option.getD_some,List.take_append_getElem]
theorem AK.df {C:Cx} {st:St} {c:Operand} {x y:Code} {Q:Exit→Act→World→Prop} {p:Prop} [Decidable p] (hc:bO st c=some (.bool (decide (¬ p)))) (hx:¬ p→AK C st (x.wp C.P Q)) (hy:p→AK C st (y.wp C.P Q)) :
 AK C st ((Code.cond c x y).wp C.P Q):=AK.aA hc hx (fun h=>hy (Decidable.not_not.1 h))
theorem AK.di {C:Cx} {sl:List (Nat × Value)} {own:List bk} {ops:Array Oper} {Q:Exit→Act→World→Prop} {ty:TypeId} {pos:String} {aft:Array Edge} {g:Option (Nat × Bool)} {rest:List Oper} (i:Nat) {t E:TypeId} {x y:Operand} {v u:Value} {n j:Nat} {cs cs':List Value} (hi:own[i]? = some (row v E 1 n cs)) (uG:(C.P.info? t).map (·.size)=some 1) (hx:bO ⟨sl,own⟩ x=some (.pointer (some ((ko v).add (j * 1))))) (hy:bO ⟨sl,own⟩ y=some u)
 (hu:u.cells = #[u]) (h1:u.oneCell'=true) (hj:j<n) (oB:cs.set j u=cs') (hg:nc ops sl g) (h:AK C ⟨sl,own.set i (row v E 1 n cs')⟩ (wpList C.P ops Q rest)) :
 AK C ⟨sl,own⟩ (wpList C.P ops Q (⟨none,.store t x y,ty,pos,aft,g⟩ :: rest)):=AK.Kd i hi uG hx hy hu h1 hj hg (by rw [oB];exact h)
theorem fJ {α:Type} (f:α→Value) (A:List α) (z c:α) (n k:Nat) (hA:A.length=k) (hk:k<n):((A++List.replicate (n - k) z).map f).set k (f c)=(((A++[c])++List.replicate (n - (k+1)) z)).map f:=by
 rw [← List.map_set,List.set_append_right _ _ (by omega),hA,Nat.sub_self]
 rw [show n - k=(n - (k+1))+1 from by omega,List.replicate_succ]
 simp
theorem BX.at {C:Cx} {own:List bk} {v:Value} {xs:List Int} {w:World} (h:BX C.W0 v xs) (hw:HW C own w) (hS:∀ b,¬ C.S b:=by exact fun _=>id):BX w v xs:=
 Rd.mono h fun b _ bZ=>⟨id,hw.frame.block b bZ (hS b)⟩
theorem BX.own {C:Cx} {own:List bk} {v:Value} {E:TypeId} {xs:List Int} {w:World} (i:Nat) (hw:HW C own w) (hi:own[i]? = some (row v E 1 xs.length (xs.map (Value.int .i64)))):BX w v xs:=by
 have:=cR.own (C:=C) i hi w hw
 exact this.mono fun b _ _=>⟨id,rfl⟩
theorem AK.e8 {C:Cx} {sl:List (Nat × Value)} {own:List bk} {g:Nat} {b:Bool} {K:Act→World→Prop} (hx:get sl g=some (.bool b)) (hb:b=true) (h1:b=true→AK C ⟨sl,own⟩ K):AK C ⟨sl,own⟩ K:=h1 hb
theorem AK.SE {C:Cx} {sl:List (Nat × Value)} {own:List bk} {g:Nat} {b:Bool} {K:Act→World→Prop} (hx:get sl g=some (.bool b)) (hb:b=false) (h1:b=false→AK C ⟨sl,own⟩ K):AK C ⟨sl,own⟩ K:=h1 hb
end Go.Sx
namespace Go.Sx
open Go.RowKit
section maps
variable {α β : Type} [DecidableEq α]
def iU (a:α):List α→Option Nat
 | []=>none
 | b :: l=>if a=b then some 0 else (iU a l).map (· + 1)
def dq (m:List (α × β)) (a:α):Option β:=match m with
 | []=>none
 | (b,v) :: l=>if a=b then some v else dq l a
def jI (m:List (α × β)) (a:α) (v:β):List (α × β):=match m with
 | []=>[(a,v)]
 | (b,u) :: l=>if a=b then (a,v) :: l else (b,u) :: jI l a v
theorem pT (m:List (α × β)) (a b:α) (v:β):dq (jI m a v) b=if b=a then some v else dq m b:=by
 induction m with
 | nil=>simp [jI,dq]
 | cons p m ih=>
  obtain ⟨c,u⟩:=p
  simp only [jI]
  by_cases h:a=c
  ·subst h
   simp only [if_true,dq]
   by_cases h2:b=a <;> simp [h2]
  ·simp only [h,if_false,dq]
   by_cases h2:b=c
   ·subst h2;simp [Ne.symm h]
   ·simp only [h2,if_false];exact ih
theorem po (m:List (α × β)) (a:α) (v:β):(jI m a v).length=if (dq m a).isSome then m.length else m.length+1:=by
 induction m with
 | nil=>simp [jI,dq]
 | cons p m ih=>
  obtain ⟨c,u⟩:=p
  simp only [jI,dq]
  by_cases h:a=c
  ·simp [h]
  ·simp only [h,if_false,List.length_cons,ih];split <;> rfl
structure yA (P:Program) (kt:TypeId) (fk:α→Value):Prop where
 find:∀ (a:α) (es:List MapEntry) (ks:List α) (w:World),es.map (·.key)=ks.map fk→(Instr.findKey kt (fk a) es).run P w = .ok ((iU a ks).bind fun i=>(es[i]?).map fun e=>(i,e.val)) w
 check:∀ (e:Bool) (a:α) (w:World),(Instr.checkKey e 10000 kt (fk a)).run P w = .ok () w
 same:∀ a:α,Instr.sameBits 10000 (fk a) (fk a)=true
def mapA (b:Nat) (DQ:List (Value × Value)):bk where
 holds w F:=(∃ es clock,w.heap[b]? = some (.map es clock)∧es.toList.map (fun e=>(e.key,e.val))=DQ)∧∀ c,F c↔c=b
 loc:=by
  rintro w w' F ⟨⟨es,clock,h1,h2⟩,hF⟩ hb
  exact ⟨⟨es,clock,by rw [hb b ((hF b).2 rfl)];exact h1,h2⟩,hF⟩
 lt:=by
  rintro w F ⟨⟨es,clock,h1,h2⟩,hF⟩ c hc
  rw [(hF c).1 hc]
  exact (Array.getElem?_eq_some_iff.1 h1).1
def kx (fk:α→Value) (fv:β→Value) (m:List (α × β)):List (Value × Value):=m.map fun p=>(fk p.1,fv p.2)
theorem L0 (m:List (α × β)) (a:α) (fv:β→Value) (es:List MapEntry) (hv:es.map (·.val)=m.map (fun p=>fv p.2)) :
  ((iU a (m.map (·.1))).bind fun i=>(es[i]?).map fun e=>(i,e.val)).map (·.2)=(dq m a).map fv:=by
 induction m generalizing es with
 | nil=>simp [iU,dq]
 | cons p m ih=>
  obtain ⟨c,u⟩:=p
  cases es with
  | nil=>simp at hv
  | cons e es=>
   simp at hv
   simp only [List.map_cons,iU,dq]
   by_cases h:a=c
   ·simp [h,hv.1]
   ·simp only [h,if_false]
    rw [← ih es (by simpa using hv.2)]
    cases iU a (m.map (·.1)) <;> simp [Function.comp_def]
theorem Iy (m:List (α × β)) (a:α):iU a (m.map (·.1))=none↔dq m a=none:=by
 induction m with
 | nil=>simp [iU,dq]
 | cons p m ih=>
  obtain ⟨c,u⟩:=p
  simp only [List.map_cons,iU,dq]
  by_cases h:a=c
  ·simp [h]
  ·simp [h,ih]
theorem LZ (m:List (α × β)) (a:α) (v:β) (i:Nat) (h:iU a (m.map (·.1))=some i):jI m a v=m.set i (a,v)∧i<m.length∧(m[i]?).map (·.1)=some a:=by
 induction m generalizing i with
 | nil=>simp [iU] at h
 | cons p m ih=>
  obtain ⟨c,u⟩:=p
  simp only [List.map_cons,iU] at h
  by_cases hc:a=c
  ·simp [hc] at h;subst h;simp [jI,hc]
  ·simp only [hc,if_false,Option.map_eq_some_iff] at h
   obtain ⟨j,hj,rfl⟩:=h
   obtain ⟨h1,h2,h3⟩:=ih j hj
   rw [List.getElem?_eq_getElem h2] at h3
   simp at h3
   simp [jI,hc,h1,h2,h3]
theorem zi (m:List (α × β)) (a:α) (v:β) (h:dq m a=none):jI m a v=m++[(a,v)]:=by
 induction m with
 | nil=>rfl
 | cons p m ih=>
  obtain ⟨c,u⟩:=p
  simp only [dq] at h
  by_cases hc:a=c
  ·simp [hc] at h
  ·simp only [hc,if_false] at h;simp [jI,hc,ih h]
def oq (C:Cx) (own:List bk) (v:Value) (DQ:List (Value × Value)):Prop:=
 ∀ w,HW C own w→(v = .map none∧DQ=[])∨∃ b es clock,v = .map (some b)∧w.heap[b]? = some (.map es clock)∧es.toList.map (fun e=>(e.key,e.val))=DQ
theorem oq.own {C:Cx} {own:List bk} {b:Nat} {DQ:List (Value × Value)} (i:Nat) (hi:own[i]? = some (mapA b DQ)):oq C own (.map (some b)) DQ:=fun w hw=>by
 obtain ⟨_,Fs,hh,_⟩:=hw
 obtain ⟨⟨es,clock,h1,h2⟩,_⟩:=hh.at_ i _ hi
 exact .inr ⟨b,es,clock,rfl,h1,h2⟩
theorem oq.nil {C:Cx} {own:List bk}:oq C own (.map none) []:=fun w hw=>.inl ⟨rfl,rfl⟩
section ops
variable {C : Cx} {sl : List (Nat × Value)} {own : List bk} {dst : Option Nat} {ty : TypeId} {pos : String} {aft : Array Edge} {g : Option (Nat × Bool)}
omit [DecidableEq α] in
theorem zj {fk:α→Value} {fv:β→Value} {m:List (α × β)} {es:List MapEntry} (h:es.map (fun e=>(e.key,e.val))=kx fk fv m):es.map (·.key)=(m.map (·.1)).map fk∧es.map (·.val)=m.map (fun p=>fv p.2):=by
 have h1:=congrArg (List.map Prod.fst) h
 have h2:=congrArg (List.map Prod.snd) h
 simp [kx,Function.comp_def] at h1 h2 ⊢
 exact ⟨h1,h2⟩
theorem yE {P:Program} {w:World} {t kt et:TypeId} {v:Value} {z:Value} {sz ky:Nat} {fk:α→Value} {fv:β→Value} {m:List (α × β)} (ht:P.underlying t=some (.map kt et)) (K:yA P kt fk) (hz:gX P et z sz ky)
  (hm:(v = .map none∧kx fk fv m=[])∨∃ b es clock,v = .map (some b)∧w.heap[b]? = some (.map es clock)∧es.toList.map (fun e=>(e.key,e.val))=kx fk fv m) (a:α) (ok:Bool) :
  (Instr.lookup t v (fk a) ok).run P w = .ok (if ok then .tuple #[((dq m a).map fv).getD z,.bool (dq m a).isSome] else ((dq m a).map fv).getD z) w:=by
 obtain ⟨inf,ta,yQ,_,_⟩:=hz.inf
 have hzero:(zeroValue et).run P w = .ok z w:=by simp [zeroValue,typeInfo,ta,yQ]
 have core:∀ (es:Array MapEntry),es.toList.map (fun e=>(e.key,e.val))=kx fk fv m →
   ∃ r,(Instr.findKey kt (fk a) es.toList).run P w = .ok r w∧((r=none∧dq m a=none)∨∃ i b,r=some (i,fv b)∧dq m a=some b):=by
  intro es nV
  obtain ⟨h1,h2⟩:=zj nV
  have hf:=K.find a es.toList (m.map (·.1)) w h1
  have hg:=L0 m a fv es.toList h2
  refine ⟨_,hf,?_⟩
  cases hx:((iU a (m.map (·.1))).bind fun i=>(es.toList[i]?).map fun e=>(i,e.val)) with
  | none=>
   rw [hx] at hg
   left
   refine ⟨rfl,?_⟩
   cases h:dq m a <;> simp [h] at hg ⊢
  | some p=>
   obtain ⟨i,u⟩:=p
   rw [hx] at hg
   cases h:dq m a with
   | none=>simp [h] at hg
   | some b=>simp [h] at hg;exact .inr ⟨i,b,by rw [hg],rfl⟩
 rcases hm with ⟨rfl,hm⟩ | ⟨b,es,clock,rfl,hb,nV⟩
 ·obtain ⟨r,hf,hr⟩:=core #[] (by simpa using hm.symm)
  have hc:=K.check true a w
  rcases hr with ⟨rfl,hr⟩ | ⟨i,b,rfl,hr⟩
  ·simp [Instr.lookup,run_underlying ht,hc,hf,hzero,hr]
  ·simp [Instr.lookup,run_underlying ht,hc,hf,hr]
 ·obtain ⟨r,hf,hr⟩:=core es nV
  have qO:(getObj b).run P w = .ok (.map es clock) w:=by simp [getObj,Sem.run,hb]
  have hc:=K.check es.isEmpty a w
  rcases hr with ⟨rfl,hr⟩ | ⟨i,b,rfl,hr⟩
  ·simp [Instr.lookup,run_underlying ht,qO,hc,hf,hzero,hr]
  ·simp [Instr.lookup,run_underlying ht,qO,hc,hf,hr]
theorem Yl.Oo {x y:Operand} {t kt et:TypeId} {v z:Value} {sz ky:Nat} {fk:α→Value} {fv:β→Value} {m:List (α × β)} {a:α} (ht:C.P.underlying t=some (.map kt et)) (K:yA C.P kt fk) (hz:gX C.P et z sz ky) (hx:bO ⟨sl,own⟩ x=some v) (hy:bO ⟨sl,own⟩ y=some (fk a))
  (hm:oq C own v (kx fk fv m)):Yl C ⟨sl,own⟩ ⟨dst,.lookup t x y true,ty,pos,aft,g⟩ (.tuple #[((dq m a).map fv).getD z,.bool (dq m a).isSome]):=
 fun ac w hs=>by
  have:=yE ht K hz (hm w hs.world) a true
  simp only [execOp,aq hs hx,aq hs hy,Sem.run_bind,this,Result.andThen_ok,Sem.run_pure,if_true]
theorem Yl.k9 {x y:Operand} {t kt et:TypeId} {v:Value} {q:IntKind} {sz ky:Nat} {fk:α→Value} {m:List (α × Int)} {a:α} (ht:C.P.underlying t=some (.map kt et)) (K:yA C.P kt fk) (hz:gX C.P et (.int q 0) sz ky) (hx:bO ⟨sl,own⟩ x=some v) (hy:bO ⟨sl,own⟩ y=some (fk a))
  (hm:oq C own v (kx fk (Value.int q) m)):Yl C ⟨sl,own⟩ ⟨dst,.lookup t x y true,ty,pos,aft,g⟩ (.tuple #[.int q ((dq m a).getD 0),.bool (dq m a).isSome]):=by
 have:=Yl.Oo (dst:=dst) (ty:=ty) (pos:=pos) (aft:=aft) (g:=g) ht K hz hx hy hm
 cases h:dq m a <;> simpa [h] using this
omit [DecidableEq α] in
theorem Yl.M5 {x:Operand} {t kt et:TypeId} {v:Value} {fk:α→Value} {fv:β→Value} {m:List (α × β)} (ht:C.P.underlying t=some (.map kt et)) (hx:bO ⟨sl,own⟩ x=some v) (hm:oq C own v (kx fk fv m)) :
  Yl C ⟨sl,own⟩ ⟨dst,.call ⟨.builtin .len,#[x],#[t]⟩,ty,pos,aft,g⟩ (.int .i64 (m.length:Int)):=
 fun a w hs=>by
  rcases hm w hs.world with ⟨rfl,h⟩ | ⟨b,es,clock,rfl,hb,nV⟩
  ·have:m=[]:=by simpa [kx] using h
   subst this
   simp [execOp,resolve,invoke,builtin,aq hs hx,Builtin.len_,run_underlying ht,goInt]
  ·have qO:(getObj b).run C.P w = .ok (.map es clock) w:=by simp [getObj,Sem.run,hb]
   have hl:es.size=m.length:=by have:=congrArg List.length nV;simpa [kx] using this
   simp [execOp,resolve,invoke,builtin,aq hs hx,Builtin.len_,run_underlying ht,goInt,qO,hl]
end ops
section X6
variable {C : Cx} {sl : List (Nat × Value)} {own : List bk} {ops : Array Oper} {Q : Exit → Act → World → Prop} {ty : TypeId} {pos : String} {aft : Array Edge} {g : Option (Nat × Bool)} {rest : List Oper}
theorem AK.makeMap {d:Nat} {t:TypeId} (hg:nc ops sl g) (hd:Nat.blt d C.N=true)
  (h:∀ b,AK C ⟨(d,.map (some b)) :: sl,own++[mapA b []]⟩ (wpList C.P ops Q rest)):AK C ⟨sl,own⟩ (wpList C.P ops Q (⟨some d,.makeMap t none,ty,pos,aft,g⟩ :: rest)):=by
 intro a w hs
 refine wpList_step fun K hK=>?_
 rw [if_pos (bA hs hg)]
 have ie:(execOp a.eval ⟨some d,.makeMap t none,ty,pos,aft,g⟩).run C.P w = .ok (.value (.map (some w.heap.size))) (w.alloc (.map #[] 0)):=by
  simp only [execOp,Option.map_none,Sem.run_bind,run_makeMap,Result.andThen_ok,Sem.run_pure]
 simp only [Oper.wp,ie,Oper.upon]
 refine hK _ _ (h w.heap.size _ _ ?_)
 refine hs.put (hs.world.push (own2:=[mapA w.heap.size []]) (.lJ (World.grownBy_alloc w _ none) (by simp) (Nat.le_refl _)) (cj.one (F:=fun c=>c=w.heap.size) ⟨⟨#[],0,heap_alloc_new w _,rfl⟩,fun _=>Iff.rfl⟩) (fun j b hb=>by rw [hb.2];exact Nat.le_refl _)) (d:=some d) (fun i hi=>by cases hi;simpa [Nat.blt_eq] using hd) _
theorem ET {w:World} {b k:Nat} {o:Obj} (h:k ≠ b):({ w with heap:=w.heap.setIfInBounds b o }:World).heap[k]? = w.heap[k]?:=by
 simp [Array.getElem?_setIfInBounds,Ne.symm h]
theorem AK.qX (i:Nat) {t kt et:TypeId} {x y z:Operand} {b:Nat} {fk:α→Value} {fv:β→Value} {m:List (α × β)} {a:α} {v:β} (hi:own[i]? = some (mapA b (kx fk fv m))) (ht:C.P.underlying t=some (.map kt et)) (K:yA C.P kt fk) (hx:bO ⟨sl,own⟩ x=some (.map (some b))) (hy:bO ⟨sl,own⟩ y=some (fk a)) (hz:bO ⟨sl,own⟩ z=some (fv v)) (hg:nc ops sl g)
  (h:AK C ⟨sl,own.set i (mapA b (kx fk fv (jI m a v)))⟩ (wpList C.P ops Q rest)):AK C ⟨sl,own⟩ (wpList C.P ops Q (⟨none,.mapUpdate t x y z,ty,pos,aft,g⟩ :: rest)):=by
 intro ac w hs
 refine wpList_step fun K' hK=>?_
 rw [if_pos (bA hs hg)]
 obtain ⟨hf,Fs,hh,bc⟩:=hs.world
 have hA:=hh.at_ i _ hi
 obtain ⟨⟨es,clock,hb,nV⟩,hF⟩:=hA
 obtain ⟨h1,h2⟩:=zj nV
 have Vv:=K.find a es.toList (m.map (·.1)) w h1
 have qO:(getObj b).run C.P w = .ok (.map es clock) w:=by simp [getObj,Sem.run,hb]
 have wb:∀ o,(setObj b o).run C.P w = .ok () { w with heap:=w.heap.setIfInBounds b o }:=fun o=>by simp [setObj,Sem.run,hb]
 have Ze:b<w.heap.size:=(Array.getElem?_eq_some_iff.1 hb).1
 have key:∃ B6 wO,(Instr.mapUpdate t (.map (some b)) (fk a) (fv v)).run C.P w = .ok () { w with heap:=w.heap.setIfInBounds b (.map B6 wO) }∧B6.toList.map (fun e=>(e.key,e.val))=kx fk fv (jI m a v):=by
  simp only [Instr.mapUpdate,Sem.run_bind,run_underlying ht,Result.andThen_ok,qO,K.check,Vv]
  cases ox:iU a (m.map (·.1)) with
  | none=>
   refine ⟨es.push { key:=fk a,val:=fv v,born:=clock },clock+1,?_,?_⟩
   ·simp [wb]
   ·rw [zi m a v ((Iy m a).1 ox)]
    simp [kx] at nV ⊢
    exact nV
  | some j=>
   obtain ⟨e1,e2,e3⟩:=LZ m a v j ox
   have hlen:es.size=m.length:=by have:=congrArg List.length nV;simpa [kx] using this
   have hj:j<es.size:=by omega
   have Y6:es[j].key=fk a:=by
    have:=congrArg (fun l=>l[j]?) h1
    simp [List.getElem?_map,hj,e2] at this
    have e3':m[j].1=a:=by simpa [e2] using e3
    rw [this,e3']
   refine ⟨es.modify j fun e=>{ e with key:=fk a,val:=fv v },clock,?_,?_⟩
   ·simp [hj,Instr.keyThatStays,Y6,K.same,wb]
   ·rw [e1]
    apply List.ext_getElem?
    intro k
    have hk:=congrArg (fun l=>l[k]?) nV
    simp only [kx,List.getElem?_map,Array.getElem?_toList,Array.getElem?_modify,List.getElem?_set] at hk ⊢
    by_cases B5:j=k
    ·subst B5
     simp [hj,e2]
    ·simp only [B5,if_false];exact hk
 obtain ⟨B6,wO,ie,Y9⟩:=key
 have Vs:(execOp ac.eval ⟨none,.mapUpdate t x y z,ty,pos,aft,g⟩).run C.P w = .ok .skip { w with heap:=w.heap.setIfInBounds b (.map B6 wO) }:=by
  simp only [execOp,aq hs hx,aq hs hy,aq hs hz,Sem.run_bind,ie,Result.andThen_ok,Sem.run_pure]
 simp only [Oper.wp,Vs,Oper.upon]
 refine hK _ _ (h _ _ ?_)
 have bZ:i<own.length:=(List.getElem?_eq_some_iff.1 hi).1
 have qo:=HW.update (w':={ w with heap:=w.heap.setIfInBounds b (.map B6 wO) }) (own2:=[]) (A':=mapA b (kx fk fv (jI m a v))) hf hh bc bZ
  ⟨rfl,rfl,rfl,by simp,fun k _ hk=>ET (fun e=>hk (by rw [e];exact (hF b).2 rfl)),Nat.le_refl _⟩
  (cj.one (F:=fun c=>c=b) ⟨⟨B6,wO,by simp [Ze],Y9⟩,fun _=>Iff.rfl⟩) (fun k c hc=>.inl ((hF c).2 hc.2))
 rw [List.append_nil] at qo
 exact hs.put qo (d:=none) (fun i hi=>by cases hi) undef
end X6
theorem ny {P:Program} {kt:TypeId} {q:IntKind} (hk:P.underlying kt=some (.int q)):yA P kt (Value.int q) where
 find:=by
  intro a es ks w h
  have now:∀ (es:List MapEntry) (ks:List Int) (j:Nat),es.map (·.key)=ks.map (Value.int q)→Instr.findNow (.int q) (.int q a) es j=some ((iU a ks).bind fun i=>(es[i]?).map fun e=>(j+i,e.val)):=by
   intro es
   induction es with
   | nil=>intro ks j h;cases ks with
    | nil=>simp [Instr.findNow,iU]
    | cons k ks=>simp at h
   | cons e es ih=>
    intro ks j h
    cases ks with
    | nil=>simp at h
    | cons k ks=>
     simp at h
     simp only [Instr.findNow,h.1,Instr.sameNow,if_true,iU]
     by_cases MU:a=k
     ·simp [MU]
     ·have:(a == k)=false:=by simpa using MU
      simp only [this,MU,if_false]
      rw [ih ks (j+1) (by simpa using h.2)]
      cases iU a ks with
      | none=>simp
      | some i=>
       simp only [Option.map_some,Option.bind_some,List.getElem?_cons_succ]
       cases es[i]? with
       | none=>rfl
       | some e'=>simp;omega
  simp only [Instr.findKey,Sem.run_bind,run_underlying hk,Result.andThen_ok,now es ks 0 h]
  simp
 check:=by
  intro e a w
  have:∀ n,(Instr.checkKey e (n+1) kt (Value.int q a)).run P w = .ok () w:=fun n=>by simp [Instr.checkKey,run_underlying hk]
  exact this 9999
 same:=by
  intro a
  have:∀ n,Instr.sameBits n (Value.int q a) (Value.int q a)=true:=fun n=>by cases n <;> simp [Instr.sameBits]
  exact this 10000
end maps
end Go.Sx
namespace Go.Sx
open Go.RowKit
def box (b:Nat) (E:TypeId) (sz:Nat) (cs:List Value):bk where
 holds w F:=(w.heap[b]? = some (.cells cs.toArray E (0,0))∧cs.length=sz)∧∀ c,F c↔c=b
 loc:=by
  rintro w w' F ⟨⟨h1,h2⟩,hF⟩ hb
  exact ⟨⟨by rw [hb b ((hF b).2 rfl)];exact h1,h2⟩,hF⟩
 lt:=by
  rintro w F ⟨⟨h1,h2⟩,hF⟩ c hc
  rw [(hF c).1 hc]
  exact (Array.getElem?_eq_some_iff.1 h1).1
def iF (C:Cx) (own:List bk) (b:Nat) (cs:List Value):Prop:=∀ w,HW C own w→∃ E,w.heap[b]? = some (.cells cs.toArray E (0,0))
theorem iF.own {C:Cx} {own:List bk} {b:Nat} {E:TypeId} {sz:Nat} {cs:List Value} (i:Nat) (hi:own[i]? = some (box b E sz cs)):iF C own b cs:=fun w hw=>by
 obtain ⟨_,Fs,hh,_⟩:=hw
 exact ⟨E,(hh.at_ i _ hi).1.1⟩
section boxes
variable {C : Cx} {sl : List (Nat × Value)} {own : List bk} {dst : Option Nat} {ty : TypeId} {pos : String} {aft : Array Edge} {g : Option (Nat × Bool)}
def Ek (P:Program) (t e n sz:Nat):Prop:=P.underlying t=some (.array n e)∧(P.info? e).map (·.size)=some sz
theorem Yl.SH {x i:Operand} {t e n sz b off:Nat} (k:Nat) (ht:Ek C.P t e n sz) (hx:bO ⟨sl,own⟩ x=some (.pointer (some ⟨b,off,none⟩))) (hi:bO ⟨sl,own⟩ i=some (.int .i64 (k:Int))) (hk:k<n) :
  Yl C ⟨sl,own⟩ ⟨dst,.indexAddr t x i,ty,pos,aft,g⟩ (.pointer (some ⟨b,off+k * sz,none⟩)):=
 fun a w hs=>by
  have uG:=cI ht.2 w
  have h0:(0:Int)≤(k:Int)∧(k:Int)<(n:Int):=by omega
  simp only [execOp,aq hs hx,aq hs hi,Instr.indexAt,asIntOf,Sem.run_bind,Sem.run_pure,Result.andThen_ok,run_underlying ht.1,Instr.sureAddr]
  simp [h0.1,h0.2,uG,Addr.add_lit,run_underlying ht.1,hk]
theorem Yl.Oz {x i:Operand} {t e n sz b off:Nat} {k:Int} (ht:Ek C.P t e n sz) (hx:bO ⟨sl,own⟩ x=some (.pointer (some ⟨b,off,none⟩))) (hi:bO ⟨sl,own⟩ i=some (.int .i64 k)) (hk:0≤k∧k<n) :
  Yl C ⟨sl,own⟩ ⟨dst,.indexAddr t x i,ty,pos,aft,g⟩ (.pointer (some ⟨b,off+k.toNat * sz,none⟩)):=
 Yl.SH k.toNat ht hx (by rw [hi];congr 2;omega) (by omega)
theorem Yl.aa {x:Operand} {t b off:Nat} {cs:List Value} {u:Value} (ht:dF C.P t) (hx:bO ⟨sl,own⟩ x=some (.pointer (some ⟨b,off,none⟩))) (hb:iF C own b cs) (hu:cs[off]? = some u) :
  Yl C ⟨sl,own⟩ ⟨dst,.load t x,ty,pos,aft,g⟩ u:=
 fun a w hs=>by
  obtain ⟨E,hb⟩:=hb w hs.world
  have h1:w.cell? ⟨b,off,none⟩ = some u:=by rw [cell_of_row w b off _ E (0,0) hb];simpa using hu
  simp [execOp,aq hs hx,Instr.loadAt,Instr.sureAddr,iC ht h1]
theorem Yl.ak {x:Operand} {t b off sz:Nat} {cs us:List Value} (ht:nq C.P t sz) (hx:bO ⟨sl,own⟩ x=some (.pointer (some ⟨b,off,none⟩))) (hb:iF C own b cs) (hu:(cs.drop off).take sz=us) (hl:us.length=sz) :
  Yl C ⟨sl,own⟩ ⟨dst,.load t x,ty,pos,aft,g⟩ (.agg us.toArray):=
 fun a w hs=>by
  obtain ⟨E,hb⟩:=hb w hs.world
  have uI:=run_loadCells_list (P:=C.P) (w:=w) ⟨b,off,none⟩ us (fun i u hi=>by
   rw [Addr.add_lit,cell_of_row w b _ _ E (0,0) hb]
   rw [← hu,List.getElem?_take] at hi
   split at hi
   ·rw [List.getElem?_drop] at hi;simpa using hi
   ·cases hi)
  rw [hl] at uI
  simp only [execOp,aq hs hx]
  simp [Instr.loadAt,Instr.sureAddr,loadVar,iy ht,cI ht.2,uI]
def cz (P:Program) (s f off:Nat):Prop:=∃ fs fd,P.underlying s=some (.struct fs)∧fs[f]? = some fd∧fd.offset=off∧(P.info? fd.type).map (fun i=>decide (i.size=0))=some false
theorem Yl.fieldAddr {x:Operand} {s f b off fo:Nat} (ht:cz C.P s f fo) (hx:bO ⟨sl,own⟩ x=some (.pointer (some ⟨b,off,none⟩))) :
  Yl C ⟨sl,own⟩ ⟨dst,.fieldAddr s x f,ty,pos,aft,g⟩ (.pointer (some ⟨b,off+fo,none⟩)):=
 fun a w hs=>by
  obtain ⟨fs,fd,h1,h2,h3,h4⟩:=ht
  cases hi:C.P.info? fd.type with
  | none=>simp [hi] at h4
  | some i=>
   simp [hi] at h4
   have qI:(sizeOf fd.type).run C.P w = .ok i.size w:=by simp [sizeOf,typeInfo,hi]
   simp [execOp,aq hs hx,Instr.fieldAt,run_underlying h1,h2,Instr.sureAddr,fieldPlace,qI,h4,h3,Addr.add_lit]
theorem Yl.field {x:Operand} {s f:Nat} {cs:List Value} {fs:Array Field} {fd:Field} {u:Value} (h1:C.P.underlying s=some (.struct fs)) (h2:fs[f]? = some fd) (h3:dF C.P fd.type) (hx:bO ⟨sl,own⟩ x=some (.agg cs.toArray)) (hu:cs[fd.offset]? = some u) :
  Yl C ⟨sl,own⟩ ⟨dst,.field s x f,ty,pos,aft,g⟩ u:=
 fun a w hs=>by
  simp [execOp,aq hs hx,Instr.field,run_underlying h1,h2,asAgg,part,qE h3,hu]
theorem Yl.build {t:Nat} {parts:List (Nat × Operand)} {vs:List Value} {cs:Array Value} (hx:mj ⟨sl,own⟩ (parts.map (·.2))=some vs) (hb:C.P.built t ((parts.map (·.1)).zip vs)=some cs) :
  Yl C ⟨sl,own⟩ ⟨dst,.build t parts.toArray,ty,pos,aft,g⟩ (.agg cs):=
 fun a w hs=>by
  have he:=jK hs hx
  have hp:(parts.toArray.map fun x=>(x.1,a.eval x.2))=((parts.map (·.1)).zip vs).toArray:=by
   rw [← he];clear hx he hb
   simp
   induction parts with
   | nil=>rfl
   | cons p l ih=>simp [ih]
  have:=run_build (P:=C.P) w t ((parts.map (·.1)).zip vs).toArray cs (by simpa using hb)
  have O7:(parts.toArray.map fun x=>match x with | (i,x)=>(i,a.eval x))=((parts.map (·.1)).zip vs).toArray:=hp
  simp only [execOp,O7,Sem.run_bind,this,Result.andThen_ok,Sem.run_pure]
end boxes
section S6
variable {C : Cx} {sl : List (Nat × Value)} {own : List bk} {ops : Array Oper} {Q : Exit → Act → World → Prop} {ty : TypeId} {pos : String} {aft : Array Edge} {g : Option (Nat × Bool)} {rest : List Oper}
theorem AK.CT {d:Nat} {op:Op} {E sz:Nat} {cs:List Value} (ie:∀ a w,B8 C ⟨sl,own⟩ a w→(execOp a.eval ⟨some d,op,ty,pos,aft,g⟩).run C.P w = .ok (.value (.pointer (some ⟨w.heap.size,0,none⟩))) (w.alloc (.cells cs.toArray E))) (hl:cs.length=sz) (hg:nc ops sl g) (hd:Nat.blt d C.N=true)
  (h:∀ b,AK C ⟨(d,.pointer (some ⟨b,0,none⟩)) :: sl,own++[box b E sz cs]⟩ (wpList C.P ops Q rest)):AK C ⟨sl,own⟩ (wpList C.P ops Q (⟨some d,op,ty,pos,aft,g⟩ :: rest)):=by
 intro a w hs
 refine wpList_step fun K hK=>?_
 rw [if_pos (bA hs hg)]
 simp only [Oper.wp,ie a w hs,Oper.upon]
 refine hK _ _ (h w.heap.size _ _ ?_)
 refine hs.put (hs.world.push (own2:=[box w.heap.size E sz cs]) (.lJ (World.grownBy_alloc w _ none) (by simp) (Nat.le_refl _)) (cj.one (F:=fun c=>c=w.heap.size) ⟨⟨heap_alloc_new w _,hl⟩,fun _=>Iff.rfl⟩) (fun j b hb=>by rw [hb.2];exact Nat.le_refl _)) (d:=some d) (fun i hi=>by cases hi;simpa [Nat.blt_eq] using hd) _
theorem AK.alloc {d E sz ky:Nat} {z:Value} {cs:List Value} (hE:gX C.P E z sz ky) (hc:z.cells.toList=cs) (hl:cs.length=sz) (hg:nc ops sl g) (hd:Nat.blt d C.N=true)
  (h:∀ b,AK C ⟨(d,.pointer (some ⟨b,0,none⟩)) :: sl,own++[box b E sz cs]⟩ (wpList C.P ops Q rest)):AK C ⟨sl,own⟩ (wpList C.P ops Q (⟨some d,.alloc E,ty,pos,aft,g⟩ :: rest)):=by
 refine AK.CT (fun a w hs=>?_) hl hg hd h
 obtain ⟨inf,ta,yQ,_,_⟩:=hE.inf
 have hz:(zeroValue E).run C.P w = .ok z w:=by simp [zeroValue,typeInfo,ta,yQ]
 subst hc
 simp [execOp,Instr.alloc,hz,newVar,newRow]
theorem AK.cS {d E sz:Nat} {x:Operand} {v:Value} {cs:List Value} (hx:bO ⟨sl,own⟩ x=some v) (hc:v.cells.toList=cs) (hl:cs.length=sz) (hg:nc ops sl g) (hd:Nat.blt d C.N=true)
  (h:∀ b,AK C ⟨(d,.pointer (some ⟨b,0,none⟩)) :: sl,own++[box b E sz cs]⟩ (wpList C.P ops Q rest)):AK C ⟨sl,own⟩ (wpList C.P ops Q (⟨some d,.box E x,ty,pos,aft,g⟩ :: rest)):=by
 refine AK.CT (fun a w hs=>?_) hl hg hd h
 subst hc
 simp [execOp,aq hs hx,Instr.box,newVar,newRow]
theorem AK.ah (i:Nat) {t E sz b off m:Nat} {x y:Operand} {v:Value} {cs us cs':List Value} (hi:own[i]? = some (box b E sz cs)) (uG:(C.P.info? t).map (·.size)=some m) (hx:bO ⟨sl,own⟩ x=some (.pointer (some ⟨b,off,none⟩))) (hy:bO ⟨sl,own⟩ y=some v)
  (hu:v.cells.toList=us) (hm:us.length=m) (h1:qN us) (qP:off+us.length≤cs.length) (oB:cs.take off++us++cs.drop (off+us.length)=cs') (hg:nc ops sl g) (h:AK C ⟨sl,own.set i (box b E sz cs')⟩ (wpList C.P ops Q rest)) :
  AK C ⟨sl,own⟩ (wpList C.P ops Q (⟨none,.store t x y,ty,pos,aft,g⟩ :: rest)):=by
 intro a w hs
 refine wpList_step fun K hK=>?_
 rw [if_pos (bA hs hg)]
 obtain ⟨hf,Fs,hh,bc⟩:=hs.world
 have hA:=hh.at_ i _ hi
 obtain ⟨⟨hb,hl⟩,hF⟩:=hA
 have mg:(storeCells ⟨b,off,none⟩ us).run C.P w = .ok () (w.setRow b (cs.take off++us++cs.drop (off+us.length)).toArray):=run_storeCells_at C.P b off E us 0 cs.toArray w hb (by simpa using qP) h1
 have Xx:v.cells.size=m:=by rw [← hm,← hu];simp
 have ie:(execOp a.eval ⟨none,.store t x y,ty,pos,aft,g⟩).run C.P w = .ok .skip (w.setRow b cs'.toArray):=by
  simp only [execOp,aq hs hx,aq hs hy,Instr.storeAt,Instr.sureAddr,storeVar,Sem.run_bind,Sem.run_pure,Result.andThen_ok,cI uG,hu,Xx]
  simp only [ne_eq,not_true_eq_false,if_false,Sem.run_bind,Sem.run_pure,Result.andThen_ok,mg]
  rw [← oB]
 simp only [Oper.wp,ie,Oper.upon]
 refine hK _ _ (h _ _ ?_)
 have bZ:i<own.length:=(List.getElem?_eq_some_iff.1 hi).1
 have uI:cs'.length=sz:=by rw [← oB,← hl];simp;omega
 have qo:=HW.update (w':=w.setRow b cs'.toArray) (own2:=[]) (A':=box b E sz cs') hf hh bc bZ ⟨rfl,rfl,rfl,by simp,fun k _ hk=>setRow_other w b k _ (fun e=>hk (by rw [e];exact (hF b).2 rfl)),Nat.le_refl _⟩
  (cj.one (F:=fun c=>c=b) ⟨⟨setRow_heap w b _ _ E _ hb,uI⟩,fun _=>Iff.rfl⟩) (fun k c hc=>.inl ((hF c).2 hc.2))
 rw [List.append_nil] at qo
 exact hs.put qo (d:=none) (fun i hi=>by cases hi) undef
theorem KU {α:Type} (L us:List α) (a s N:Nat) (hu:us.length=s) (h1:a+s≤N) (h2:N≤L.length):(L.take a++us++L.drop (a+s)).take N=(L.take N).take a++us++(L.take N).drop (a+s):=by
 have e1:(L.take N).take a=L.take a:=by rw [List.take_take,Nat.min_eq_left (by omega)]
 have e3:(L.take a++us++L.drop (a+s)).take N=L.take a++us++(L.drop (a+s)).take (N - (a+s)):=by
  rw [List.take_append,List.take_of_length_le (by simp;omega)]
  congr 2
  simp;omega
 rw [e1,e3,List.drop_take]
theorem AK.fV (i:Nat) {t E sz:Nat} {x y:Operand} {v u:Value} {n j:Nat} {cs us cs':List Value} (hi:own[i]? = some (row v E sz n cs)) (uG:(C.P.info? t).map (·.size)=some sz) (hx:bO ⟨sl,own⟩ x=some (.pointer (some ((ko v).add (j * sz))))) (hy:bO ⟨sl,own⟩ y=some u)
  (hu:u.cells.toList=us) (hm:us.length=sz) (h1:qN us) (hj:j<n) (oB:cs.take (j * sz)++us++cs.drop (j * sz+sz)=cs') (hg:nc ops sl g) (h:AK C ⟨sl,own.set i (row v E sz n cs')⟩ (wpList C.P ops Q rest)) :
  AK C ⟨sl,own⟩ (wpList C.P ops Q (⟨none,.store t x y,ty,pos,aft,g⟩ :: rest)):=by
 intro a w hs
 refine wpList_step fun K hK=>?_
 rw [if_pos (bA hs hg)]
 obtain ⟨hf,Fs,hh,bc⟩:=hs.world
 have hA:=hh.at_ i _ hi
 obtain ⟨c4,hF⟩:=hA
 rcases c4.2 with ⟨rfl,rfl⟩ | ⟨gb,cap,cur,rfl,QG,hb,mc,vo,Ch,jF⟩
 ·omega
 have ha:((ko (.slice (some ⟨gb,0,none⟩) n cap)).add (j * sz))=⟨gb,j * sz,none⟩:=by simp [ko,Addr.add_lit]
 rw [ha] at hx
 have qP:j * sz+sz≤n * sz:=by rw [← Nat.succ_mul];exact Nat.mul_le_mul_right _ hj
 have aa2:n * sz≤cap * sz:=Nat.mul_le_mul_right _ mc
 have mg:=run_storeCells_at C.P gb (j * sz) E us 0 cur w hb (by rw [hm,Ch];omega) h1
 simp only [Nat.add_zero,hm] at mg
 have Xx:u.cells.size=sz:=by rw [← hm,← hu];simp
 have ie:(execOp a.eval ⟨none,.store t x y,ty,pos,aft,g⟩).run C.P w = .ok .skip (w.setRow gb (cur.toList.take (j * sz)++us++cur.toList.drop (j * sz+sz)).toArray):=by
  simp only [execOp,aq hs hx,aq hs hy,Instr.storeAt,Instr.sureAddr,storeVar,Sem.run_bind,Sem.run_pure,Result.andThen_ok,cI uG,hu,Xx]
  simp only [ne_eq,not_true_eq_false,if_false,Sem.run_bind,Sem.run_pure,Result.andThen_ok,mg]
 simp only [Oper.wp,ie,Oper.upon]
 refine hK _ _ (h _ _ ?_)
 have bZ:i<own.length:=(List.getElem?_eq_some_iff.1 hi).1
 have Vw:cur.toList.length=cap * sz:=by simpa using Ch
 have abd:cs.length=n * sz:=c4.1
 have YZ:(cur.toList.take (j * sz)++us++cur.toList.drop (j * sz+sz)).take (n * sz)=cs':=by
  rw [← oB,← jF]
  exact KU cur.toList us (j * sz) sz (n * sz) hm qP (by omega)
 have tz:(w.setRow gb (cur.toList.take (j * sz)++us++cur.toList.drop (j * sz+sz)).toArray).ownsRow 0 E sz (.slice (some ⟨gb,0,none⟩) n cap) n cs':=by
  refine ⟨by rw [← oB];simp;omega,.inr ⟨gb,cap,_,rfl,Nat.zero_le _,setRow_heap w gb cur _ E _ hb,mc,vo,?_,?_⟩⟩
  ·simp;omega
  ·simpa using YZ
 have qo:=HW.update (w':=w.setRow gb (cur.toList.take (j * sz)++us++cur.toList.drop (j * sz+sz)).toArray) (own2:=[]) (A':=row (.slice (some ⟨gb,0,none⟩) n cap) E sz n cs') hf hh bc bZ ⟨rfl,rfl,rfl,by simp,fun k _ hk=>setRow_other w gb k _ (fun e=>hk (by rw [e];exact (hF gb).2 rfl)),Nat.le_refl _⟩
  (cj.one (lU tz)) (fun k c hc=>.inl ((hF c).2 hc.2))
 rw [List.append_nil] at qo
 exact hs.put qo (d:=none) (fun i hi=>by cases hi) undef
end S6
def bh (l:List bk):bk where
 holds w F:=∃ Fs,cj l Fs w∧∀ b,F b↔W5 Fs b
 loc:=by
  rintro w w' F ⟨Fs,hh,hF⟩ hb
  exact ⟨Fs,⟨fun i A hi=>A.loc w w' _ (hh.at_ i A hi) (fun b h=>hb b ((hF b).2 ⟨i,h⟩)),hh.out,hh.apart⟩,hF⟩
 lt:=by
  rintro w F ⟨Fs,hh,hF⟩ b hb
  obtain ⟨i,hi⟩:=(hF b).1 hb
  exact hh.lt hi
def om:bk where
 holds _ F:=∀ b,¬ F b
 loc:=fun _ _ _ h _=>h
 lt:=fun _ _ h b hb=>(h b hb).elim
theorem HW.extract {C:Cx} {own l:List bk} {w:World} {X:bk} (j i:Nat) (hj:own[j]? = some (bh l)) (hi:l[i]? = some X) (h:HW C own w):HW C (own.set j (bh (l.set i om))++[X]) w:=by
 obtain ⟨hf,Fs,hh,bc⟩:=h
 obtain ⟨Gs,gh,gF⟩:=hh.at_ j _ hj
 have yP:j<own.length:=(List.getElem?_eq_some_iff.1 hj).1
 have oA:i<l.length:=(List.getElem?_eq_some_iff.1 hi).1
 refine HW.update (i:=j) hf hh bc yP (bj.refl _ w) (Fs':=fun k b=>if k=0 then Fs j b∧¬ Gs i b else if k=1 then Gs i b else False) ⟨?_,?_,?_⟩ ?_
 ·intro k A hk
  match k,hk with
  | 0,hk=>
   simp at hk;subst hk
   refine ⟨fun m b=>m ≠ i∧Gs m b,⟨?_,?_,?_⟩,?_⟩
   ·intro m B hm
    by_cases uH:m=i
    ·subst uH
     simp [oA] at hm
     subst hm
     intro b hb;exact hb.1 rfl
    ·rw [List.getElem?_set_ne (Ne.symm uH)] at hm
     have:=gh.at_ m B hm
     simpa [uH] using this
   ·rintro m hm b ⟨_,hb⟩;exact gh.out m (by simpa using hm) b hb
   ·rintro m m' b ⟨_,h1⟩ ⟨_,h2⟩;exact gh.apart m m' b h1 h2
   ·intro b
    simp only [if_true]
    constructor
    ·rintro ⟨h1,h2⟩
     obtain ⟨m,hm⟩:=(gF b).1 h1
     exact ⟨m,fun e=>h2 (e ▸ hm),hm⟩
    ·rintro ⟨m,j9,hm⟩
     exact ⟨(gF b).2 ⟨m,hm⟩,fun h=>j9 (gh.apart m i b hm h)⟩
  | 1,hk=>
   simp at hk;subst hk
   simpa using gh.at_ i X hi
  | k+2,hk=>simp at hk
 ·intro k hk b hb
  simp at hk
  simp [show k ≠ 0 by omega,show k ≠ 1 by omega] at hb
 ·intro k m b h1 h2
  by_cases vm:k=0 <;> by_cases MO:m=0
  ·omega
  ·simp only [vm,if_true] at h1
   simp only [MO,if_false] at h2
   split at h2
   ·exact (h1.2 h2).elim
   ·exact h2.elim
  ·simp only [MO,if_true] at h2
   simp only [vm,if_false] at h1
   split at h1
   ·exact (h2.2 h1).elim
   ·exact h1.elim
  ·simp only [vm,if_false] at h1
   simp only [MO,if_false] at h2
   split at h1 <;> split at h2
   ·omega
   all_goals first | exact h1.elim | exact h2.elim
 ·intro k b hb
  by_cases vm:k=0
  ·simp only [vm,if_true] at hb;exact .inl hb.1
  ·simp only [vm,if_false] at hb
   split at hb
   ·exact .inl ((gF b).2 ⟨i,hb⟩)
   ·exact hb.elim
theorem HW.GA {C:Cx} {own l:List bk} {w:World} {X:bk} (j i:Nat) (hj:j<own.length) (hi:i<l.length) (h:HW C (own.set j (bh (l.set i om))++[X]) w):HW C (own.set j (bh (l.set i X))) w:=by
 obtain ⟨hf,Fs,hh,bc⟩:=h
 have hX:=hh.at_ own.length X (by rw [List.getElem?_append_right (by simp)];simp)
 obtain ⟨Gs,gh,gF⟩:=hh.at_ j (bh (l.set i om)) (by rw [List.getElem?_append_left (by simpa using hj)];simp [hj])
 have Za:∀ b,¬ Gs i b:=gh.at_ i om (by simp [hi])
 refine ⟨hf,fun k b=>if k=j then Fs j b∨Fs own.length b else k<own.length∧Fs k b,⟨?_,?_,?_⟩,?_⟩
 ·intro k A hk
  by_cases B5:k=j
  ·subst B5
   simp [hj] at hk
   subst hk
   refine ⟨fun m b=>if m=i then Fs own.length b else Gs m b,⟨?_,?_,?_⟩,?_⟩
   ·intro m B hm
    by_cases uH:m=i
    ·subst uH
     simp [hi] at hm
     subst hm
     simpa using hX
    ·rw [List.getElem?_set_ne (Ne.symm uH)] at hm
     have:=gh.at_ m B (by rw [List.getElem?_set_ne (Ne.symm uH)];exact hm)
     simpa [uH] using this
   ·intro m hm b hb
    have uH:m ≠ i:=by simp at hm;omega
    simp only [uH,if_false] at hb
    exact gh.out m (by simpa using hm) b hb
   ·have qA:∀ m b,Gs m b→¬ Fs own.length b:=fun m b h1 h2=>by
     have:=hh.apart k own.length b ((gF b).2 ⟨m,h1⟩) h2;omega
    intro m m' b h1 h2
    by_cases hm:m=i <;> by_cases XJ:m'=i
    ·omega
    ·simp only [hm,if_true] at h1;simp only [XJ,if_false] at h2;exact (qA m' b h2 h1).elim
    ·simp only [XJ,if_true] at h2;simp only [hm,if_false] at h1;exact (qA m b h1 h2).elim
    ·simp only [hm,if_false] at h1;simp only [XJ,if_false] at h2;exact gh.apart m m' b h1 h2
   ·intro b
    simp only [if_true]
    constructor
    ·rintro (h | h)
     ·obtain ⟨m,hm⟩:=(gF b).1 h
      have uH:m ≠ i:=fun e=>Za b (e ▸ hm)
      exact ⟨m,by simp [uH,hm]⟩
     ·exact ⟨i,by simp [h]⟩
    ·rintro ⟨m,hm⟩
     by_cases uH:m=i
     ·simp only [uH,if_true] at hm;exact .inr hm
     ·simp only [uH,if_false] at hm;exact .inl ((gF b).2 ⟨m,hm⟩)
  ·have eo:k<own.length:=by have:=(List.getElem?_eq_some_iff.1 hk).1;simpa using this
   rw [List.getElem?_set_ne (Ne.symm B5)] at hk
   have:=hh.at_ k A (by rw [List.getElem?_append_left (by simpa using eo),List.getElem?_set_ne (Ne.symm B5)];exact hk)
   simpa [B5,eo] using this
 ·intro k hk b hb
  simp at hk
  simp only [show k ≠ j by omega,if_false] at hb
  omega
 ·intro k m b h1 h2
  by_cases hk:k=j <;> by_cases hm:m=j
  ·omega
  ·simp only [hk,if_true] at h1;simp only [hm,if_false] at h2
   rcases h1 with h1 | h1
   ·exact absurd (hh.apart j m b h1 h2.2) (Ne.symm hm)
   ·have:=hh.apart _ _ b h1 h2.2;omega
  ·simp only [hm,if_true] at h2;simp only [hk,if_false] at h1
   rcases h2 with h2 | h2
   ·exact absurd (hh.apart j k b h2 h1.2) (Ne.symm hk)
   ·have:=hh.apart _ _ b h2 h1.2;omega
  ·simp only [hk,if_false] at h1;simp only [hm,if_false] at h2;exact hh.apart k m b h1.2 h2.2
 ·intro k b hb
  by_cases hk:k=j
  ·simp only [hk,if_true] at hb
   rcases hb with hb | hb <;> exact bc _ b hb
  ·simp only [hk,if_false] at hb;exact bc _ b hb.2
theorem cR.QM {C:Cx} {own l:List bk} {v:Value} {E:TypeId} {sz n:Nat} {cs:List Value} (j i:Nat) (hj:own[j]? = some (bh l)) (hi:l[i]? = some (row v E sz n cs)):cR C own v sz n cs:=fun w hw=>by
 obtain ⟨_,Fs,hh,_⟩:=hw
 obtain ⟨Gs,gh,_⟩:=hh.at_ j _ hj
 exact (oT (gh.at_ i _ hi)).mono fun b _ _=>⟨trivial,rfl⟩
theorem HW.LV {C:Cx} {own:List bk} {w:World} (h:HW C own w) (l:List bk) (hl:∀ (i:Nat) (A:bk),l[i]? = some A→A.holds w (fun _=>False)):HW C (own++[bh l]) w:=
 h.push (bj.refl _ w) (cj.one (F:=fun _=>False) ⟨fun _ _=>False,⟨hl,fun _ _ _=>id,fun _ _ _ h=>h.elim⟩,fun b=>⟨fun h=>h.elim,fun ⟨_,h⟩=>h⟩⟩) (fun j b hb=>hb.2.elim)
end Go.Sx
namespace Go.Sx
open Go.RowKit
theorem E7 {α:Type} [DecidableEq α] {P:Program} {kt:TypeId} {fk:α→Value} {d:TypeDesc} (hd:P.underlying kt=some d) (YY:∀ a b,Instr.sameNow d (fk a) (fk b)=none)
  (heq:∀ (a b:α) (w:World),(Op.equal kt (fk a) (fk b)).run P w = .ok (decide (a=b)) w) (SL:∀ (e:Bool) (a:α) (w:World),(Instr.checkKey e 10000 kt (fk a)).run P w = .ok () w) (Vr:∀ a,Instr.sameBits 10000 (fk a) (fk a)=true):yA P kt fk where
 find:=by
  intro a es ks w h
  have ask:∀ (es:List MapEntry) (ks:List α) (j:Nat),es.map (·.key)=ks.map fk→(Instr.findAsking kt (fk a) es j).run P w = .ok ((iU a ks).bind fun i=>(es[i]?).map fun e=>(j+i,e.val)) w:=by
   intro es
   induction es with
   | nil=>intro ks j h;cases ks with
    | nil=>simp [Instr.findAsking,iU]
    | cons k ks=>simp at h
   | cons e es ih=>
    intro ks j h
    cases ks with
    | nil=>simp at h
    | cons k ks=>
     simp at h
     simp only [Instr.findAsking,h.1,Sem.run_bind,heq,Result.andThen_ok,iU]
     by_cases MU:a=k
     ·simp [MU]
     ·simp only [MU,decide_false,if_false,Bool.false_eq_true]
      rw [ih ks (j+1) (by simpa using h.2)]
      cases iU a ks with
      | none=>simp
      | some i=>
       simp only [Option.map_some,Option.bind_some,List.getElem?_cons_succ]
       cases es[i]? with
       | none=>rfl
       | some e'=>simp;omega
  simp only [Instr.findKey,Sem.run_bind,run_underlying hd,Result.andThen_ok]
  cases es with
  | nil=>cases ks with
   | nil=>simp [Instr.findNow,iU]
   | cons k ks=>simp at h
  | cons e es=>
   cases ks with
   | nil=>simp at h
   | cons k ks=>
    have h0:e.key=fk k:=by simp at h;exact h.1
    simp only [Instr.findNow,h0,YY]
    have:=ask (e :: es) (k :: ks) 0 h
    simpa using this
 check:=SL
 same:=Vr
def pv (p:Int × Int):Value:=.agg #[.int .i64 p.1,.int .i64 p.2]
def x7 (ps:List (Int × Int)):List Value:=ps.flatMap fun p=>[.int .i64 p.1,.int .i64 p.2]
theorem E4 (ps:List (Int × Int)):(x7 ps).length=ps.length * 2:=by
 induction ps with
 | nil=>rfl
 | cons p ps ih=>simp only [x7,List.flatMap_cons,List.length_append,List.length_cons,List.length_nil] at ih ⊢;omega
theorem rm (a b:List (Int × Int)):x7 (a++b)=x7 a++x7 b:=by simp [x7]
theorem Su (ps:List (Int × Int)) (j:Nat) (h:j<ps.length):((x7 ps).drop (j * 2)).take 2=[.int .i64 (ps.getD j (0,0)).1,.int .i64 (ps.getD j (0,0)).2]:=by
 have h1:ps=ps.take j++ps.getD j (0,0) :: ps.drop (j+1):=by
  rw [List.getD_eq_getElem?_getD,List.getElem?_eq_getElem h,Option.getD_some,List.getElem_cons_drop,List.take_append_drop]
 have h2:(x7 (ps.take j)).length=j * 2:=by rw [E4,List.length_take];omega
 conv=>lhs;rw [h1]
 rw [rm,← h2,List.drop_left]
 simp [x7]
theorem BX.Uk {C:Cx} {own:List bk} {v:Value} {E:TypeId} {n:Nat} {cs:List Value} {xs:List Int} {w:World} (i:Nat) (hw:HW C own w) (hi:own[i]? = some (row v E 1 n cs)) (hn:n=xs.length) (hc:cs=xs.map (Value.int .i64)):BX w v xs:=by
 subst hn;subst hc;exact BX.own i hw hi
theorem AK.Kr {C:Cx} {sl:List (Nat × Value)} {own:List bk} {ops:Array Oper} {Q:Exit→Act→World→Prop} {ty:TypeId} {pos:String} {aft:Array Edge} {g:Option (Nat × Bool)} {rest:List Oper} {d:Nat} {t E:TypeId} {l c:Operand} {s' ky:Nat} {z:Value} {n:Int} (ht:oC C.P t E 1) (hE:gX C.P E z s' ky) (hz:z.cells = #[z]) (hl:bO ⟨sl,own⟩ l=some (.int .i64 n)) (hc:bO ⟨sl,own⟩ c=some (.int .i64 n)) (h0:0≤n)
  (hb:ky * n.toNat≤281474976710656) (hm:n.toNat≤9223372036854775807) (hg:nc ops sl g) (hd:Nat.blt d C.N=true)
  (h:∀ v,AK C ⟨(d,v) :: sl,own++[row v E 1 n.toNat (List.replicate n.toNat z)]⟩ (wpList C.P ops Q rest)) :
  AK C ⟨sl,own⟩ (wpList C.P ops Q (⟨some d,.makeSlice t l c,ty,pos,aft,g⟩ :: rest)):=
 AK.kT ht hE hz (by rw [hl];congr 2;omega) (by rw [hc];congr 2;omega) hb hm hg hd h
theorem Rd.le {G:Nat→Prop} {w:World} {v:Value} {sz n:Nat} {cs:List Value} (h:Rd G w v sz n cs):n≤9223372036854775807:=by
 obtain ⟨_,_,_,h,_⟩:=h
 simpa [maxLen] using h
theorem ux {α:Type} (d:α) {xs ys:List α} (hl:xs.length=ys.length) (k:Nat) (hk:k<xs.length) (h:xs.take k=ys.take k):xs.take (k+1)=ys.take (k+1)↔xs.getD k d=ys.getD k d:=by
 rw [aO d xs k hk,aO d ys k (by omega),h]
 simp
end Go.Sx
namespace Go.Sx
theorem gB {b c:Bool} (h:b=c):some (Value.bool b)=some (Value.bool c):=congrArg (fun b=>some (Value.bool b)) h
theorem aT {n m:Nat} (h:Nat.ble n m=true):n≤m:=Nat.le_of_ble_eq_true h
theorem cE {α:Type}:(∀ (x a:α) (l:List α),(x :: l).set 0 a=a :: l)∧(∀ (x a:α) (n:Nat) (l:List α),(x :: l).set (n+1) a=x :: l.set n a)∧(∀ (x:α) (l k:List α),x :: l++k=x :: (l++k))∧∀ l:List α,[]++l=l:=⟨fun _ _ _=>rfl,fun _ _ _ _=>rfl,fun _ _ _=>rfl,fun _=>rfl⟩
end Go.Sx
