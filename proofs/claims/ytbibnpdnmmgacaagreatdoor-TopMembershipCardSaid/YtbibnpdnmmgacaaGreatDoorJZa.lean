import Derived.WalkKit
import Derived.Still
import Derived.Deep.Quiet
import Derived.Deep.LoopGhost
import Derived.StillTail
import Derived.Carry
import Derived.Laws.Tables
import Derived.ChangeKeysEq
import Derived.Laws.StructEq
set_option linter.unusedVariables false
set_option linter.unusedSimpArgs false
set_option maxRecDepth 100000
namespace Go.Sx
open Go.RowKit
structure Asn where
 holds:World→(Nat→Prop)→Prop
 loc:∀ w w' F,holds w F→(∀ b,F b→w'.heap[b]? = w.heap[b]?)→holds w' F
 lt:∀ w F,holds w F→∀ b,F b→b<w.heap.size
structure Cx where
 P:Program
 N:Nat
 W0:World
 S:Nat→Prop
theorem ask_drawn {α:Type}:∀ (q:Ask α) (w:World),w.drawn≤(w.ask q).2.drawn
 | .done a,w=>Nat.le_refl _
 | .ask what range k,w=>by
  simp only [World.ask]
  split
  ·exact ask_drawn (k 0) w
  ·exact Nat.le_trans (Nat.le_succ _) (ask_drawn (k _) { w with drawn:=w.drawn+1 })
theorem sys_drawn (w:World) (c:Sys):w.drawn≤(w.sys c).2.drawn:=by
 have h:=ask_drawn (Kernel.perform c w.os) w
 unfold World.sys
 split
 ·exact Nat.le_refl _
 ·rename_i r os w1 _ e
  rw [e] at h;exact h
theorem viewStore_drawn {p:Program} {w:World} {a k:Addr} {u:TypeId} {v:Value} {b:Bool} {r:World × List Addr} (h:w.viewStore p a u k v b = .ok r):r.1.drawn=w.drawn:=by
 unfold World.viewStore at h
 simp only [bind,Except.bind,pure,Except.pure,throwThe,MonadExcept.throw,MonadExceptOf.throw] at h
 repeat' (first | (cases h;done) | (cases h;rfl) | split at h)
theorem sem_drawn {P:Program} {α:Type}:∀ (s:Sem α) (w w':World) (a:α),s.run P w = .ok a w'→w.drawn≤w'.drawn:=by
 intro s
 induction s with
 | pure a=>intro w w' b h;cases h;exact Nat.le_refl _
 | load m a k ih=>
  intro w w' b h
  simp only [Sem.run] at h
  split at h
  ·exact ih _ w w' b h
  ·split at h
   ·exact ih _ w w' b h
   ·cases h
 | store m a v k ih=>
  intro w w' b h
  cases v <;> simp only [Sem.run] at h <;> first | (cases h;done) | skip
  all_goals
   split at h
   ·split at h
    ·cases h
    ·exact ih (w.setCell a _) w' b h
   ·split at h
    ·rename_i w1 es e
     refine Nat.le_trans (Nat.le_of_eq ?_) (ih _ w' b h)
     unfold World.farStore at e
     split at e
     ·split at e
      ·rename_i r e2
       cases e
       exact (viewStore_drawn e2).symm
      ·cases e
     ·cases e
    ·cases h
 | new o k ih=>intro w w' b h;exact ih _ { w with heap:=w.heap.push o } w' b h
 | shape r k ih=>intro w w' b h;exact ih _ w w' b h
 | freeze a n k ih=>
  intro w w' b h
  refine Nat.le_trans (Nat.le_of_eq ?_) (ih (w.freeze a n) w' b h)
  unfold World.freeze;split <;> rfl
 | frozen a k ih=>intro w w' b h;exact ih _ w w' b h
 | getObj r k ih=>
  intro w w' b h
  simp only [Sem.run] at h
  split at h
  ·cases h
  ·exact ih _ w w' b h
  ·cases h
 | setObj r o k ih=>
  intro w w' b h
  simp only [Sem.run] at h
  split at h
  ·cases h
  ·exact ih { w with heap:=w.heap.setIfInBounds r o } w' b h
  ·cases h
 | choose q k ih=>
  intro w w' b h
  simp only [Sem.run] at h
  split at h
  ·exact ih _ w w' b h
  ·exact Nat.le_trans (Nat.le_succ _) (ih _ { w with drawn:=w.drawn+1 } w' b h)
 | sys c k ih=>intro w w' b h;exact Nat.le_trans (sys_drawn w c) (ih _ _ w' b h)
 | program k ih=>intro w w' b h;exact ih _ w w' b h
 | mark m k ih=>intro w w' b h;exact ih w w' b h
 | halt h=>intro w w' b h;cases h
structure FrameX (F:Nat→Prop) (w w':World):Prop where
 os:w'.os=w.os
 tape:w'.tape=w.tape
 output:w'.output=w.output
 size:w.heap.size≤w'.heap.size
 block:∀ k,k<w.heap.size→¬ F k→w'.heap[k]? = w.heap[k]?
 drawn:w.drawn≤w'.drawn
theorem FrameX.refl (F:Nat→Prop) (w:World):FrameX F w w:=⟨rfl,rfl,rfl,Nat.le_refl _,fun _ _ _=>rfl,Nat.le_refl _⟩
theorem FrameX.toBelow {w w':World} (h:FrameX (fun _=>False) w w'):Below w.heap.size w w':=
 ⟨h.os,h.tape,h.output,h.size,fun k hk=>h.block k hk id⟩
theorem FrameX.step {S F:Nat→Prop} {w0 w w':World} (h:FrameX S w0 w) (k:FrameX F w w') (hF:∀ b,F b→b<w0.heap.size→S b):FrameX S w0 w':=
 ⟨k.os.trans h.os,k.tape.trans h.tape,k.output.trans h.output,Nat.le_trans h.size k.size,
  fun b hb hs=>(k.block b (Nat.lt_of_lt_of_le hb h.size) (fun hf=>hs (hF b hf hb))).trans (h.block b hb hs),Nat.le_trans h.drawn k.drawn⟩
theorem FrameX.mono {F G:Nat→Prop} {w w':World} (h:FrameX F w w') (hFG:∀ b,F b→b<w.heap.size→G b):FrameX G w w':=
 ⟨h.os,h.tape,h.output,h.size,fun k hk hg=>h.block k hk (fun hf=>hg (hFG k hf hk)),h.drawn⟩
structure HeapAt (own:List Asn) (Fs:Nat→Nat→Prop) (w:World):Prop where
 at_:∀ (i:Nat) (A:Asn),own[i]? = some A→A.holds w (Fs i)
 out:∀ i,own.length≤i→∀ b,¬ Fs i b
 apart:∀ i j b,Fs i b→Fs j b→i=j
def uni (Fs:Nat→Nat→Prop) (b:Nat):Prop:=∃ i,Fs i b
theorem HeapAt.lt {own:List Asn} {Fs:Nat→Nat→Prop} {w:World} (h:HeapAt own Fs w) {i b:Nat} (hb:Fs i b):b<w.heap.size:=by
 by_cases hi:i<own.length
 ·exact (own[i]).lt w _ (h.at_ i own[i] (by simp [hi])) b hb
 ·exact absurd hb (h.out i (by omega) b)
theorem HeapAt.nil (w:World):HeapAt [] (fun _ _=>False) w:=⟨by simp,fun _ _ _=>id,fun _ _ _ h=>h.elim⟩
structure HW (C:Cx) (own:List Asn) (w:World):Prop where
 frame:FrameX C.S C.W0 w
 heap:∃ Fs,HeapAt own Fs w∧∀ i b,Fs i b→C.W0.heap.size≤b∨C.S b
structure St where
 sl:List (Nat × Value)
 own:List Asn
def get:List (Nat × Value)→Nat→Option Value
 | [],_=>none
 | (i,v) :: l,k=>if i=k then some v else get l k
structure Sim (C:Cx) (st:St) (a:Act) (w:World):Prop where
 size:a.tmps.size=C.N
 defers:a.defers=[]
 slot:∀ i v,get st.sl i=some v→a.tmps.getD i undef=v
 world:HW C st.own w
def AK (C:Cx) (st:St) (K:Act→World→Prop):Prop:=∀ a w,Sim C st a w→K a w
def St.put (st:St) (d:Option Nat) (v:Value):St:=
 match d with
 | some d=>⟨(d,v) :: st.sl,st.own⟩
 | none=>st
def opv (st:St):Operand→Option Value
 | .tmp t=>get st.sl t
 | .const v=>some v
 | .global g=>some (.pointer (some ⟨g,0,none⟩))
 | .func f=>some (.func (.func f) #[] #[])
theorem opv_eval {C:Cx} {st:St} {a:Act} {w:World} (h:Sim C st a w) {x:Operand} {v:Value} (hx:opv st x=some v):a.eval x=v:=by
 cases x with
 | tmp t=>exact h.slot t v hx
 | const u=>simpa [opv,Act.eval] using hx
 | global g=>simpa [opv,Act.eval] using hx
 | func f=>simpa [opv,Act.eval] using hx
theorem Sim.put {C:Cx} {st:St} {a:Act} {w w':World} (h:Sim C st a w) {own':List Asn} (hw:HW C own' w') {d:Option Nat} (hd:∀ i,d=some i→i<C.N) (v:Value) :
  Sim C ⟨(st.put d v).sl,own'⟩ (a.put d v) w':=by
 cases d with
 | none=>exact ⟨h.size,h.defers,h.slot,hw⟩
 | some i=>
  refine ⟨by simp [Act.put,h.size],h.defers,fun j u hj=>?_,hw⟩
  simp only [St.put,get] at hj
  have hi:=hd i rfl
  rw [← h.size] at hi
  simp only [Act.put]
  split at hj
  ·rename_i e;subst e
   simp only [Option.some.injEq] at hj
   subst hj
   simp [hi]
  ·rename_i e
   have:=h.slot j u hj
   simp only [Array.getD_eq_getD_getElem?] at this ⊢
   rw [Array.getElem?_setIfInBounds,if_neg e]
   exact this
def Yl (C:Cx) (st:St) (o:Oper) (v:Value):Prop:=∀ a w,Sim C st a w→(execOp a.eval o).run C.P w = .ok (.value v) w
theorem AK.nil {C:Cx} {st:St} {ops:Array Oper} {Q:Exit→Act→World→Prop} (h:AK C st (Q .normal)):AK C st (wpList C.P ops Q []):=
 fun a w hs=>wpList_nil (h a w hs)
theorem AK.region {C:Cx} {st:St} {id:Nat} {l:List Oper} {Q:Exit→Act→World→Prop} (h:AK C st (wpList C.P l.toArray Q l)):AK C st ((Code.region id l.toArray false).wp C.P Q):=
 fun a w hs=>wp_region_lit (h a w hs)
theorem AK.seq {C:Cx} {st:St} {x y:Code} {Q:Exit→Act→World→Prop}
  (h:∀ K:Act→World→Prop,(∀ st',AK C st' (y.wp C.P Q)→AK C st' K)→AK C st (x.wp C.P (Exit.then K Q))):AK C st ((Code.seq x y).wp C.P Q):=
 fun a w hs=>wp_seq (h _ (fun _ h=>h) a w hs)
theorem AK.then_ {C:Cx} {st:St} {K:Act→World→Prop} {Q:Exit→Act→World→Prop} (h:AK C st K):AK C st (Exit.then K Q .normal):=h
theorem AK.block {C:Cx} {st:St} {id:Nat} {c:Code} {Q:Exit→Act→World→Prop} (h:AK C st (c.wp C.P (Exit.inBlock id Q))):AK C st ((Code.block id c).wp C.P Q):=
 fun a w hs=>wp_block (h a w hs)
theorem AK.skip {C:Cx} {st:St} {Q:Exit→Act→World→Prop} (h:AK C st (Q .normal)):AK C st (Code.skip.wp C.P Q):=fun a w hs=>wp_skip (h a w hs)
theorem AK.exit {C:Cx} {st:St} {id:Nat} {Q:Exit→Act→World→Prop} (h:AK C st (Q (.exit id))):AK C st ((Code.exit id).wp C.P Q):=fun a w hs=>wp_exit (h a w hs)
theorem AK.ret {C:Cx} {st:St} {Q:Exit→Act→World→Prop} (h:AK C st (Q .ret)):AK C st (Code.ret.wp C.P Q):=fun a w hs=>wp_ret (h a w hs)
theorem AK.cond {C:Cx} {st:St} {c:Operand} {x y:Code} {Q:Exit→Act→World→Prop} {t:Bool} (hc:opv st c=some (.bool t)) (hx:t=true→AK C st (x.wp C.P Q)) (hy:t=false→AK C st (y.wp C.P Q)) :
  AK C st ((Code.cond c x y).wp C.P Q):=
 fun a w hs=>wp_cond_split (opv_eval hs hc) (fun h=>hx h a w hs) (fun h=>hy h a w hs)
theorem AK.cond_t {C:Cx} {st:St} {c:Operand} {x y:Code} {Q:Exit→Act→World→Prop} {t:Bool} (hc:opv st c=some (.bool t)) (ht:t=true) (hx:AK C st (x.wp C.P Q)) :
 AK C st ((Code.cond c x y).wp C.P Q):=AK.cond hc (fun _=>hx) (fun h=>by rw [ht] at h;cases h)
theorem AK.cond_f {C:Cx} {st:St} {c:Operand} {x y:Code} {Q:Exit→Act→World→Prop} {t:Bool} (hc:opv st c=some (.bool t)) (ht:t=false) (hx:AK C st (y.wp C.P Q)) :
 AK C st ((Code.cond c x y).wp C.P Q):=AK.cond hc (fun h=>by rw [ht] at h;cases h) (fun _=>hx)
def Grd (ops:Array Oper) (sl:List (Nat × Value)):Option (Nat × Bool)→Prop
 | none=>True
 | some (j,want)=>∃ d,(ops[j]?).bind (·.dst)=some d∧get sl d=some (.bool want)
def NotB (v:Value) (want:Bool):Prop:=match v with | .bool b=>b = !want | _=>True
theorem wanted_of_Grd {C:Cx} {st:St} {a:Act} {w:World} (hs:Sim C st a w) {ops:Array Oper} {o:Oper} (hg:Grd ops st.sl o.guard):Region.wanted o (yielded ops a.tmps)=true:=by
 unfold Region.wanted
 split
 ·rfl
 ·rename_i j want h
  rw [h] at hg
  obtain ⟨d,h1,h2⟩:=hg
  have h3:=hs.slot d _ h2
  cases ho:ops[j]? with
  | none=>simp [ho] at h1
  | some o'=>
   simp only [ho,Option.bind_some] at h1
   simp [yielded,ho,h1]
   simp only [Array.getD_eq_getD_getElem?] at h3
   cases hq:a.tmps[d]? with
   | none=>simp [hq,undef] at h3
   | some u=>simp [hq] at h3;simp [h3]
theorem AK.val {C:Cx} {sl:List (Nat × Value)} {own:List Asn} {ops:Array Oper} {Q:Exit→Act→World→Prop} {d:Nat} {op:Op} {ty:TypeId} {pos:String} {aft:Array Edge} {g:Option (Nat × Bool)} {rest:List Oper} (v:Value)
  (hy:Yl C ⟨sl,own⟩ ⟨some d,op,ty,pos,aft,g⟩ v) (hg:Grd ops sl g) (hd:Nat.blt d C.N=true) (h:AK C ⟨(d,v) :: sl,own⟩ (wpList C.P ops Q rest)) :
  AK C ⟨sl,own⟩ (wpList C.P ops Q (⟨some d,op,ty,pos,aft,g⟩ :: rest)):=by
 intro a w hs
 refine wpList_step fun K hK=>?_
 rw [if_pos (wanted_of_Grd hs hg)]
 simp only [Oper.wp,hy a w hs,Oper.upon]
 refine hK _ _ (h _ _ ?_)
 exact hs.put hs.world (d:=some d) (fun i hi=>by cases hi;exact by simpa [Nat.blt_eq] using hd) v
theorem AK.pass {C:Cx} {sl:List (Nat × Value)} {own:List Asn} {ops:Array Oper} {Q:Exit→Act→World→Prop} {d:Nat} {op:Op} {ty:TypeId} {pos:String} {aft:Array Edge} {j:Nat} {want:Bool} {rest:List Oper} {gd:Nat} {gv:Value}
  (h1:(ops[j]?).bind (·.dst)=some gd) (h2:get sl gd=some gv) (h3:NotB gv want) (hd:Nat.blt d C.N=true) (h:AK C ⟨(d,undef) :: sl,own⟩ (wpList C.P ops Q rest)) :
  AK C ⟨sl,own⟩ (wpList C.P ops Q (⟨some d,op,ty,pos,aft,some (j,want)⟩ :: rest)):=by
 intro a w hs
 refine wpList_step fun K hK=>?_
 have hw:Region.wanted (⟨some d,op,ty,pos,aft,some (j,want)⟩:Oper) (yielded ops a.tmps)=false:=by
  have h4:=hs.slot gd _ h2
  cases ho:ops[j]? with
  | none=>simp [ho] at h1
  | some o'=>
   simp only [ho,Option.bind_some] at h1
   simp only [Array.getD_eq_getD_getElem?] at h4
   simp only [Region.wanted,yielded,ho,Option.bind_some,h1]
   cases hq:a.tmps[gd]? with
   | none=>simp [hq] at h4 ⊢
   | some u=>
    simp [hq] at h4
    subst h4
    cases u <;> simp [NotB] at h3 ⊢
    subst h3
    cases want <;> simp
 rw [hw]
 simp only [Bool.false_eq_true,if_false]
 refine hK _ _ (h _ _ ?_)
 exact hs.put hs.world (d:=some d) (fun i hi=>by cases hi;exact by simpa [Nat.blt_eq] using hd) undef
section ops
variable {C : Cx} {sl : List (Nat × Value)} {own : List Asn} {dst : Option Nat} {ty : TypeId} {pos : String} {aft : Array Edge} {g : Option (Nat × Bool)}
theorem Yl.move {x:Operand} {v:Value} (hx:opv ⟨sl,own⟩ x=some v):Yl C ⟨sl,own⟩ ⟨dst,.move x,ty,pos,aft,g⟩ v:=
 fun a w hs=>by simp [execOp,opv_eval hs hx]
theorem Yl.assign {x:Operand} {v:Value} (hx:opv ⟨sl,own⟩ x=some v):Yl C ⟨sl,own⟩ ⟨dst,.assign x,ty,pos,aft,g⟩ v:=
 fun a w hs=>by simp [execOp,opv_eval hs hx]
theorem Yl.pick {c x y:Operand} {b:Bool} {u:Value} (hc:opv ⟨sl,own⟩ c=some (.bool b)) (hx:opv ⟨sl,own⟩ (if b then x else y)=some u):Yl C ⟨sl,own⟩ ⟨dst,.pick c x y,ty,pos,aft,g⟩ u:=
 fun a w hs=>by
  have h:=opv_eval hs hx
  cases b <;> simp at h <;> simp [execOp,opv_eval hs hc,asBool,h]
theorem wrap_in {n:Int} (h1:-9223372036854775808≤n) (h2:n≤9223372036854775807):IntKind.i64.wrap n=n:=by
 rw [IntKind.wrap_i64];omega
theorem Yl.add {x y:Operand} {t t':TypeId} {m n:Int} (hx:opv ⟨sl,own⟩ x=some (.int .i64 m)) (hy:opv ⟨sl,own⟩ y=some (.int .i64 n)) (h1:-9223372036854775808≤m+n∧m+n≤9223372036854775807) :
  Yl C ⟨sl,own⟩ ⟨dst,.binOp .add t x y t',ty,pos,aft,g⟩ (.int .i64 (m+n)):=
 fun a w hs=>by (simp only [execOp,opv_eval hs hx,opv_eval hs hy];simp [go_sem,Op.intArith,wrap_in h1.1 h1.2])
theorem Yl.sub {x y:Operand} {t t':TypeId} {m n:Int} (hx:opv ⟨sl,own⟩ x=some (.int .i64 m)) (hy:opv ⟨sl,own⟩ y=some (.int .i64 n)) (h1:-9223372036854775808≤m - n∧m - n≤9223372036854775807) :
  Yl C ⟨sl,own⟩ ⟨dst,.binOp .sub t x y t',ty,pos,aft,g⟩ (.int .i64 (m - n)):=
 fun a w hs=>by (simp only [execOp,opv_eval hs hx,opv_eval hs hy];simp [go_sem,Op.intArith,wrap_in h1.1 h1.2])
theorem Yl.lss {x y:Operand} {t t':TypeId} {k:IntKind} {m n:Int} (hx:opv ⟨sl,own⟩ x=some (.int k m)) (hy:opv ⟨sl,own⟩ y=some (.int k n)):Yl C ⟨sl,own⟩ ⟨dst,.binOp .lss t x y t',ty,pos,aft,g⟩ (.bool (decide (m<n))):=
 fun a w hs=>by (simp only [execOp,opv_eval hs hx,opv_eval hs hy];simp [go_sem])
theorem Yl.leq {x y:Operand} {t t':TypeId} {k:IntKind} {m n:Int} (hx:opv ⟨sl,own⟩ x=some (.int k m)) (hy:opv ⟨sl,own⟩ y=some (.int k n)):Yl C ⟨sl,own⟩ ⟨dst,.binOp .leq t x y t',ty,pos,aft,g⟩ (.bool (decide (m≤n))):=
 fun a w hs=>by (simp only [execOp,opv_eval hs hx,opv_eval hs hy];simp [go_sem])
theorem Yl.gtr {x y:Operand} {t t':TypeId} {k:IntKind} {m n:Int} (hx:opv ⟨sl,own⟩ x=some (.int k m)) (hy:opv ⟨sl,own⟩ y=some (.int k n)):Yl C ⟨sl,own⟩ ⟨dst,.binOp .gtr t x y t',ty,pos,aft,g⟩ (.bool (decide (n<m))):=
 fun a w hs=>by (simp only [execOp,opv_eval hs hx,opv_eval hs hy];simp [go_sem])
theorem Yl.geq {x y:Operand} {t t':TypeId} {k:IntKind} {m n:Int} (hx:opv ⟨sl,own⟩ x=some (.int k m)) (hy:opv ⟨sl,own⟩ y=some (.int k n)):Yl C ⟨sl,own⟩ ⟨dst,.binOp .geq t x y t',ty,pos,aft,g⟩ (.bool (decide (n≤m))):=
 fun a w hs=>by (simp only [execOp,opv_eval hs hx,opv_eval hs hy];simp [go_sem])
theorem Yl.eql {x y:Operand} {t t':TypeId} {k:IntKind} {m n:Int} (hx:opv ⟨sl,own⟩ x=some (.int k m)) (hy:opv ⟨sl,own⟩ y=some (.int k n)):Yl C ⟨sl,own⟩ ⟨dst,.binOp .eql t x y t',ty,pos,aft,g⟩ (.bool (decide (m=n))):=
 fun a w hs=>by (simp only [execOp,opv_eval hs hx,opv_eval hs hy];simp [go_sem]);rfl
theorem Yl.neq {x y:Operand} {t t':TypeId} {k:IntKind} {m n:Int} (hx:opv ⟨sl,own⟩ x=some (.int k m)) (hy:opv ⟨sl,own⟩ y=some (.int k n)):Yl C ⟨sl,own⟩ ⟨dst,.binOp .neq t x y t',ty,pos,aft,g⟩ (.bool (decide (m ≠ n))):=
 fun a w hs=>by
  (simp only [execOp,opv_eval hs hx,opv_eval hs hy];simp [go_sem])
  rw [Bool.eq_iff_iff];simp
theorem Yl.eqlB {x y:Operand} {t t':TypeId} {m n:Bool} (ht:C.P.underlying t=some .bool) (hx:opv ⟨sl,own⟩ x=some (.bool m)) (hy:opv ⟨sl,own⟩ y=some (.bool n)):Yl C ⟨sl,own⟩ ⟨dst,.binOp .eql t x y t',ty,pos,aft,g⟩ (.bool (m == n)):=
 fun a w hs=>by (simp only [execOp,opv_eval hs hx,opv_eval hs hy];simp [go_sem,ht])
theorem Yl.neqB {x y:Operand} {t t':TypeId} {m n:Bool} (ht:C.P.underlying t=some .bool) (hx:opv ⟨sl,own⟩ x=some (.bool m)) (hy:opv ⟨sl,own⟩ y=some (.bool n)):Yl C ⟨sl,own⟩ ⟨dst,.binOp .neq t x y t',ty,pos,aft,g⟩ (.bool (m != n)):=
 fun a w hs=>by
  have h:=run_equal_bool (P:=C.P) w t m n ht
  (simp only [execOp,opv_eval hs hx,opv_eval hs hy];simp [go_sem,binOp,h])
  cases m <;> cases n <;> rfl
theorem Yl.not {x:Operand} {t:TypeId} {b:Bool} (hx:opv ⟨sl,own⟩ x=some (.bool b)):Yl C ⟨sl,own⟩ ⟨dst,.unOp .not t x,ty,pos,aft,g⟩ (.bool (!b)):=
 fun a w hs=>by simp [execOp,opv_eval hs hx,Op.unary]
def SlT (P:Program) (t e:TypeId) (sz:Nat):Prop:=P.underlying t=some (.slice e)∧(P.info? e).map (·.size)=some sz
theorem SlT.inf {P:Program} {t e:TypeId} {sz:Nat} (h:SlT P t e sz):∃ i,P.info? e=some i∧i.size=sz:=by
 have:=h.2
 cases hi:P.info? e with
 | none=>simp [hi] at this
 | some i=>exact ⟨i,rfl,by simpa [hi] using this⟩
def ElT (P:Program) (e:TypeId) (z:Value) (sz by_:Nat):Prop:=(P.info? e).map (fun i=>(i.zero,i.size,i.bytes))=some (some z,sz,by_)
theorem ElT.inf {P:Program} {e:TypeId} {z:Value} {sz by_:Nat} (h:ElT P e z sz by_):∃ i,P.info? e=some i∧i.zero=some z∧i.size=sz∧i.bytes=by_:=by
 unfold ElT at h
 cases hi:P.info? e with
 | none=>simp [hi] at h
 | some i=>exact ⟨i,rfl,by simpa [hi] using h⟩
theorem Yl.len {x:Operand} {t:TypeId} {e:TypeId} {sz:Nat} {ao:Option Addr} {n c:Nat} (ht:SlT C.P t e sz) (hx:opv ⟨sl,own⟩ x=some (.slice ao n c)) :
  Yl C ⟨sl,own⟩ ⟨dst,.call ⟨.builtin .len,#[x],#[t]⟩,ty,pos,aft,g⟩ (.int .i64 n):=
 fun a w hs=>by
  simp [execOp,resolve,invoke,builtin,opv_eval hs hx,Builtin.len_,run_underlying ht.1,goInt]
theorem Yl.max {x y:Operand} {t t':TypeId} {k:IntKind} {m n:Int} (hx:opv ⟨sl,own⟩ x=some (.int k m)) (hy:opv ⟨sl,own⟩ y=some (.int k n)) :
  Yl C ⟨sl,own⟩ ⟨dst,.call ⟨.builtin .max,#[x,y],#[t,t']⟩,ty,pos,aft,g⟩ (.int k (max m n)):=
 fun a w hs=>by
  simp [execOp,resolve,invoke,builtin,opv_eval hs hx,opv_eval hs hy,Builtin.max_,Builtin.max2]
  split <;> omega
theorem Yl.min {x y:Operand} {t t':TypeId} {k:IntKind} {m n:Int} (hx:opv ⟨sl,own⟩ x=some (.int k m)) (hy:opv ⟨sl,own⟩ y=some (.int k n)) :
  Yl C ⟨sl,own⟩ ⟨dst,.call ⟨.builtin .min,#[x,y],#[t,t']⟩,ty,pos,aft,g⟩ (.int k (min m n)):=
 fun a w hs=>by
  simp [execOp,resolve,invoke,builtin,opv_eval hs hx,opv_eval hs hy,Builtin.min_,Builtin.min2]
  split <;> omega
theorem Yl.extract {x:Operand} {i:Nat} {vs:Array Value} {v:Value} (hx:opv ⟨sl,own⟩ x=some (.tuple vs)) (hv:vs[i]? = some v):Yl C ⟨sl,own⟩ ⟨dst,.extract x i,ty,pos,aft,g⟩ v:=
 fun a w hs=>by simp [execOp,opv_eval hs hx,Instr.extract,hv]
def slA:Value→Addr
 | .slice (some a) _ _=>a
 | _=>default
def Rd (G:Nat→Prop) (w:World) (v:Value) (sz n:Nat) (cs:List Value):Prop:=
 ∃ oa cap,v = .slice oa n cap∧n≤maxLen∧cs.length=n * sz∧(0<n→0<sz→oa.isSome)∧(∀ a j u,oa=some a→cs[j]? = some u→G a.block∧w.cell? (a.add j)=some u)
def RdS (C:Cx) (own:List Asn) (v:Value) (sz n:Nat) (cs:List Value):Prop:=∀ w,HW C own w→Rd (fun _=>True) w v sz n cs
theorem Rd.mono {G G':Nat→Prop} {w w':World} {v:Value} {sz n:Nat} {cs:List Value} (h:Rd G w v sz n cs) (hG:∀ b,G b→b<w.heap.size→G' b∧w'.heap[b]? = w.heap[b]?):Rd G' w' v sz n cs:=by
 obtain ⟨oa,cap,h1,h2,h3,h4,h5⟩:=h
 refine ⟨oa,cap,h1,h2,h3,h4,fun a j u ha hj=>?_⟩
 obtain ⟨g1,g2⟩:=h5 a j u ha hj
 have hlt:=World.block_lt_of_cell? w _ g2
 have hb:(a.add j).block=a.block:=by unfold Addr.add;split <;> rfl
 rw [hb] at hlt
 obtain ⟨g3,g4⟩:=hG a.block g1 hlt
 exact ⟨g3,by rw [World.cell?_of_block (w:=w) (w':=w') (by rw [hb];exact g4)];exact g2⟩
theorem RdS.arg {v:Value} {sz n:Nat} {cs:List Value} (h:Rd (fun b=>¬ C.S b) C.W0 v sz n cs):RdS C own v sz n cs:=
 fun _ hw=>h.mono fun b hb hlt=>⟨trivial,hw.frame.block b hlt hb⟩
theorem Yl.idx {x i:Operand} {t e:TypeId} {sz:Nat} {v:Value} {n:Nat} {k:Int} {cs:List Value} (ht:SlT C.P t e sz) (hx:opv ⟨sl,own⟩ x=some v) (hi:opv ⟨sl,own⟩ i=some (.int .i64 k))
  (hr:RdS C own v sz n cs) (hz:0<sz) (h0:0≤k∧k<n):Yl C ⟨sl,own⟩ ⟨dst,.indexAddr t x i,ty,pos,aft,g⟩ (.pointer (some ((slA v).add (k.toNat * sz)))):=
 fun a w hs=>by
  obtain ⟨oa,cap,rfl,_,_,h4,_⟩:=hr w hs.world
  have:=h4 (by omega) hz
  obtain ⟨ad,rfl⟩:=Option.isSome_iff_exists.1 this
  have h1:=ht.1
  obtain ⟨inf,h2,h3⟩:=ht.inf
  simp [execOp,opv_eval hs hx,opv_eval hs hi,Instr.indexAt,asIntOf,run_underlying h1,h0.1,h0.2,sizeOf,typeInfo,h2,h3,slA]
theorem Yl.idxN {x i:Operand} {t e:TypeId} {sz:Nat} {v:Value} {n:Nat} {k:Nat} {cs:List Value} (ht:SlT C.P t e sz) (hx:opv ⟨sl,own⟩ x=some v) (hi:opv ⟨sl,own⟩ i=some (.int .i64 (k:Int)))
  (hr:RdS C own v sz n cs) (hz:0<sz) (h0:k<n):Yl C ⟨sl,own⟩ ⟨dst,.indexAddr t x i,ty,pos,aft,g⟩ (.pointer (some ((slA v).add (k * sz)))):=
 Yl.idx ht hx hi hr hz (by omega)
def oneD:TypeDesc→Bool
 | .struct _ | .array _ _=>false
 | _=>true
def OneT (P:Program) (t:TypeId):Prop:=(P.underlying t).map oneD=some true
def AggT (P:Program) (t:TypeId) (sz:Nat):Prop:=(P.underlying t).map oneD=some false∧(P.info? t).map (·.size)=some sz
theorem run_isAgg_one {P:Program} {t:TypeId} (ht:OneT P t) (w:World):(isAgg t).run P w = .ok false w:=by
 unfold OneT at ht
 cases hd:P.underlying t with
 | none=>simp [hd] at ht
 | some d=>
  simp only [isAgg,Sem.run_bind,run_underlying hd,Result.andThen_ok]
  cases d <;> simp [hd,oneD] at ht ⊢
theorem run_isAgg_agg {P:Program} {t:TypeId} {sz:Nat} (ht:AggT P t sz) (w:World):(isAgg t).run P w = .ok true w:=by
 obtain ⟨ht,_⟩:=ht
 cases hd:P.underlying t with
 | none=>simp [hd] at ht
 | some d=>
  simp only [isAgg,Sem.run_bind,run_underlying hd,Result.andThen_ok]
  cases d <;> simp [hd,oneD] at ht ⊢
theorem run_sizeOf_of {P:Program} {t:TypeId} {sz:Nat} (h:(P.info? t).map (·.size)=some sz) (w:World):(sizeOf t).run P w = .ok sz w:=by
 cases hi:P.info? t with
 | none=>simp [hi] at h
 | some i=>simp [hi] at h;simp [sizeOf,typeInfo,hi,h]
theorem run_loadVar_one {P:Program} {t:TypeId} (ht:OneT P t) {w:World} {a:Addr} {v:Value} (h:w.cell? a=some v):(loadVar t a).run P w = .ok v w:=by
 have:=run_isAgg_one ht w
 simp [loadVar,this,h]
theorem rd_cell {G:Nat→Prop} {w:World} {v:Value} {sz n:Nat} {cs:List Value} (h:Rd G w v sz n cs) {j:Nat} {u:Value} (hj:cs[j]? = some u):w.cell? ((slA v).add j)=some u∧G (slA v).block:=by
 obtain ⟨oa,cap,rfl,_,h3,h4,h5⟩:=h
 have hlt:j<cs.length:=by
  rcases Nat.lt_or_ge j cs.length with h | h
  ·exact h
  ·rw [List.getElem?_eq_none h] at hj;cases hj
 have hn:0<n:=Nat.pos_of_ne_zero (fun e=>by subst e;simp at h3;simp [h3] at hlt)
 have hz:0<sz:=Nat.pos_of_ne_zero (fun e=>by subst e;simp at h3;simp [h3] at hlt)
 obtain ⟨ad,rfl⟩:=Option.isSome_iff_exists.1 (h4 hn hz)
 exact ⟨(h5 ad j u rfl hj).2,(h5 ad j u rfl hj).1⟩
theorem Yl.load {x:Operand} {t:TypeId} {v:Value} {n j:Nat} {cs:List Value} {α:Type} {xs:List α} {f:α→Value} (ht:OneT C.P t) (hx:opv ⟨sl,own⟩ x=some (.pointer (some ((slA v).add (j * 1)))))
  (hr:RdS C own v 1 n cs) (hc:cs=xs.map f) (d:α) (hj:j<xs.length):Yl C ⟨sl,own⟩ ⟨dst,.load t x,ty,pos,aft,g⟩ (f (xs.getD j d)):=
 fun a w hs=>by
  have hu:cs[j]? = some (f (xs.getD j d)):=by
   subst hc
   simp [List.getElem?_map,List.getElem?_eq_getElem hj,List.getD_eq_getElem?_getD]
  have h1:=(rd_cell (hr w hs.world) hu).1
  simp only [Nat.mul_one] at hx
  simp [execOp,opv_eval hs hx,Instr.loadAt,Instr.sureAddr,run_loadVar_one ht h1]
theorem Yl.loadI {x:Operand} {t:TypeId} {v:Value} {n j:Nat} {xs:List Int} {k:IntKind} (ht:OneT C.P t) (hx:opv ⟨sl,own⟩ x=some (.pointer (some ((slA v).add (j * 1)))))
 (hr:RdS C own v 1 n (xs.map (Value.int k))) (hj:j<xs.length):Yl C ⟨sl,own⟩ ⟨dst,.load t x,ty,pos,aft,g⟩ (.int k (xs.getD j 0)):=Yl.load ht hx hr rfl 0 hj
theorem Yl.loadB {x:Operand} {t:TypeId} {v:Value} {n j:Nat} {xs:List Bool} (ht:OneT C.P t) (hx:opv ⟨sl,own⟩ x=some (.pointer (some ((slA v).add (j * 1)))))
 (hr:RdS C own v 1 n (xs.map Value.bool)) (hj:j<xs.length):Yl C ⟨sl,own⟩ ⟨dst,.load t x,ty,pos,aft,g⟩ (.bool (xs.getD j false)):=Yl.load ht hx hr rfl false hj
theorem Yl.loadV {x:Operand} {t:TypeId} {v:Value} {n j:Nat} {cs:List Value} (ht:OneT C.P t) (hx:opv ⟨sl,own⟩ x=some (.pointer (some ((slA v).add (j * 1)))))
 (hr:RdS C own v 1 n cs) (hj:j<cs.length):Yl C ⟨sl,own⟩ ⟨dst,.load t x,ty,pos,aft,g⟩ (cs.getD j undef):=Yl.load (f:=id) ht hx hr (by simp) undef hj
theorem Yl.loadG {x:Operand} {t:TypeId} {v:Value} {n j sz:Nat} {cs:List Value} (ht:AggT C.P t sz) (hx:opv ⟨sl,own⟩ x=some (.pointer (some ((slA v).add (j * sz)))))
  (hr:RdS C own v sz n cs) (hj:j<n):Yl C ⟨sl,own⟩ ⟨dst,.load t x,ty,pos,aft,g⟩ (.agg ((cs.drop (j * sz)).take sz).toArray):=
 fun a w hs=>by
  have hr:=hr w hs.world
  have hlen:cs.length=n * sz:=by obtain ⟨_,_,_,_,h,_⟩:=hr;exact h
  have hfit:j * sz+sz≤n * sz:=by rw [← Nat.succ_mul];exact Nat.mul_le_mul_right _ hj
  have hl:=run_loadCells_list (P:=C.P) (w:=w) ((slA v).add (j * sz)) ((cs.drop (j * sz)).take sz) (fun i u hi=>by
   rw [List.getElem?_take] at hi
   split at hi
   ·rw [List.getElem?_drop] at hi
    have:=(rd_cell hr hi).1
    rw [show ((slA v).add (j * sz)).add i=(slA v).add (j * sz+i) from ?_]
    ·exact this
    ·unfold Addr.add;repeat' split
     all_goals first | rfl | omega | (simp;omega) | (simp_all;done) | (congr 1;omega)
   ·cases hi)
  have hlen2:((cs.drop (j * sz)).take sz).length=sz:=by simp;omega
  rw [hlen2] at hl
  simp only [execOp,opv_eval hs hx]
  simp [Instr.loadAt,Instr.sureAddr,loadVar,run_isAgg_agg ht,run_sizeOf_of ht.2,hl]
end ops
theorem HW.update {C:Cx} {own:List Asn} {w w':World} {i:Nat} {A':Asn} {own2:List Asn} {Fs Fs':Nat→Nat→Prop} (hf:FrameX C.S C.W0 w) (hh:HeapAt own Fs w) (hal:∀ i b,Fs i b→C.W0.heap.size≤b∨C.S b)
  (hi:i<own.length) (hx:FrameX (Fs i) w w') (hh':HeapAt (A' :: own2) Fs' w') (hin:∀ j b,Fs' j b→Fs i b∨w.heap.size≤b):HW C (own.set i A'++own2) w':=by
 refine ⟨hf.step hx (fun b hb hlt=>(hal i b hb).resolve_left (by omega)),⟨fun k b=>if k=i then Fs' 0 b else if k<own.length then Fs k b else Fs' (k - own.length+1) b,⟨?_,?_,?_⟩,?_⟩⟩
 ·intro k A hk
  by_cases hki:k=i
  ·subst hki
   rw [List.getElem?_append_left (by simpa using hi)] at hk
   simp [hi] at hk
   subst hk
   simpa using hh'.at_ 0 A' (by simp)
  ·by_cases hkl:k<own.length
   ·rw [List.getElem?_append_left (by simpa using hkl),List.getElem?_set_ne (Ne.symm hki)] at hk
    simp only [hki,if_false,hkl,if_true]
    refine A.loc w w' (Fs k) (hh.at_ k A hk) fun b hb=>hx.block b (hh.lt hb) fun hb'=>hki (hh.apart k i b hb hb')
   ·rw [List.getElem?_append_right (by simp;omega)] at hk
    simp only [hki,if_false,hkl]
    exact hh'.at_ _ A (by simpa using hk)
 ·intro k hk b hb
  have hkl:¬ k<own.length:=by simp at hk;omega
  have hki:k ≠ i:=by omega
  simp only [hki,if_false,hkl] at hb
  exact hh'.out _ (by simp at hk ⊢;omega) b hb
 ·have cross:∀ k j b,k ≠ i→Fs k b→Fs' j b→False:=fun k j b hki h1 h2=>by
   rcases hin j b h2 with h | h
   ·exact hki (hh.apart k i b h1 h)
   ·have:=hh.lt h1;omega
  intro k j b hk hj
  by_cases hki:k=i <;> by_cases hji:j=i
  ·omega
  ·simp only [hki,if_true] at hk
   simp only [hji,if_false] at hj
   split at hj
   ·exact (cross j 0 b hji hj hk).elim
   ·have:=hh'.apart _ _ b hk hj;omega
  ·simp only [hji,if_true] at hj
   simp only [hki,if_false] at hk
   split at hk
   ·exact (cross k 0 b hki hk hj).elim
   ·have:=hh'.apart _ _ b hk hj;omega
  ·simp only [hki,if_false] at hk
   simp only [hji,if_false] at hj
   split at hk <;> split at hj
   ·exact hh.apart k j b hk hj
   ·exact (cross k _ b hki hk hj).elim
   ·exact (cross j _ b hji hj hk).elim
   ·have:=hh'.apart _ _ b hk hj;omega
 ·intro k b hb
  have hsz:=hf.size
  have one:∀ j,Fs' j b→C.W0.heap.size≤b∨C.S b:=fun j h=>by
   rcases hin j b h with h | h
   ·exact hal i b h
   ·exact .inl (by omega)
  split at hb
  ·exact one _ hb
  ·split at hb
   ·exact hal k b hb
   ·exact one _ hb
theorem HW.push {C:Cx} {own:List Asn} {w w':World} {own2:List Asn} {Fs':Nat→Nat→Prop} (hw:HW C own w)
  (hx:FrameX (fun _=>False) w w') (hh':HeapAt own2 Fs' w') (hin:∀ j b,Fs' j b→w.heap.size≤b):HW C (own++own2) w':=by
 obtain ⟨hf,Fs,hh,hal⟩:=hw
 refine ⟨hf.step hx (fun b hb _=>hb.elim),⟨fun k b=>if k<own.length then Fs k b else Fs' (k - own.length) b,⟨?_,?_,?_⟩,?_⟩⟩
 ·intro k A hk
  by_cases hkl:k<own.length
  ·rw [List.getElem?_append_left hkl] at hk
   simp only [hkl,if_true]
   exact A.loc w w' (Fs k) (hh.at_ k A hk) fun b hb=>hx.block b (hh.lt hb) id
  ·rw [List.getElem?_append_right (by omega)] at hk
   simp only [hkl,if_false]
   exact hh'.at_ _ A hk
 ·intro k hk b hb
  have hkl:¬ k<own.length:=by simp at hk;omega
  simp only [hkl,if_false] at hb
  exact hh'.out _ (by simp at hk ⊢;omega) b hb
 ·have cross:∀ k j b,Fs k b→Fs' j b→False:=fun k j b h1 h2=>by
   have:=hin j b h2;have:=hh.lt h1;omega
  intro k j b hk hj
  split at hk <;> split at hj
  ·exact hh.apart k j b hk hj
  ·exact (cross k _ b hk hj).elim
  ·exact (cross j _ b hj hk).elim
  ·have:=hh'.apart _ _ b hk hj;omega
 ·intro k b hb
  have hsz:=hf.size
  split at hb
  ·exact hal k b hb
  ·have:=hin _ b hb;exact .inl (by omega)
theorem HeapAt.one {A:Asn} {F:Nat→Prop} {w:World} (h:A.holds w F):HeapAt [A] (fun k b=>k=0∧F b) w:=by
 refine ⟨?_,?_,?_⟩
 ·intro i A' hi
  cases i with
  | zero=>simp at hi;subst hi;simpa using h
  | succ n=>simp at hi
 ·rintro i hi b ⟨rfl,_⟩;simp at hi
 ·rintro i j b ⟨rfl,_⟩ ⟨rfl,_⟩;rfl
theorem HW.pick {C:Cx} {own own':List Asn} {w:World} (hw:HW C own w) (σ:List Nat) (hn:σ.Nodup) (he:own' = σ.filterMap (own[·]?)) (hl:own'.length = σ.length):HW C own' w:=by
 obtain ⟨hf,Fs,hh,hal⟩:=hw
 have hat:∀ (k i:Nat) (A:Asn),own'[k]? = some A→σ[k]? = some i→own[i]? = some A:=by
  subst he
  clear hn hal hh
  induction σ with
  | nil=>intro k i A h;simp at h
  | cons s σ ih=>
   intro k i A h1 h2
   cases ho:own[s]? with
   | none=>
    simp [ho] at hl
    have:=List.length_filterMap_le (own[·]?) σ
    omega
   | some B=>
    simp only [List.filterMap_cons,ho] at h1 hl
    cases k with
    | zero=>simp at h1 h2;subst h1;subst h2;exact ho
    | succ k=>exact ih (by simpa using hl) k i A (by simpa using h1) (by simpa using h2)
 refine ⟨hf,fun k b=>∃ i,σ[k]? = some i∧Fs i b,⟨?_,?_,?_⟩,?_⟩
 ·intro k A hk
  have hkl:k < σ.length:=by
   have:=(List.getElem?_eq_some_iff.1 hk).1;omega
  have hs:σ[k]? = some σ[k]:=List.getElem?_eq_getElem hkl
  have h1:=hh.at_ _ A (hat k _ A hk hs)
  have:(fun b=>∃ i,σ[k]? = some i∧Fs i b)=Fs σ[k]:=by
   funext b;apply propext;rw [hs];constructor
   ·rintro ⟨i,hi,hb⟩;cases hi;exact hb
   ·intro hb;exact ⟨_,rfl,hb⟩
  rw [this];exact h1
 ·rintro k hk b ⟨i,hi,_⟩
  rw [List.getElem?_eq_none (by omega)] at hi;cases hi
 ·rintro k j b ⟨i,hi,hb⟩ ⟨i',hi',hb'⟩
  have:=hh.apart i i' b hb hb'
  subst this
  obtain ⟨h1,h2⟩:=List.getElem?_eq_some_iff.1 hi
  obtain ⟨h3,h4⟩:=List.getElem?_eq_some_iff.1 hi'
  rcases Nat.lt_trichotomy k j with hlt | heq | hlt
  ·exact absurd (h2.trans h4.symm) (List.pairwise_iff_getElem.1 hn k j h1 h3 hlt)
  ·exact heq
  ·exact absurd (h4.trans h2.symm) (List.pairwise_iff_getElem.1 hn j k h3 h1 hlt)
 ·rintro k b ⟨i,_,hb⟩;exact hal i b hb
def row (v:Value) (E:TypeId) (sz n:Nat) (cs:List Value):Asn where
 holds w F:=w.ownsRow 0 E sz v n cs∧∀ b,F b↔v.ownBlock=some b
 loc:=by
  rintro w w' F ⟨h,hF⟩ hb
  refine ⟨⟨h.1,?_⟩,hF⟩
  rcases h.2 with h2 | ⟨gb,cap,cur,hv,hg,hh,r⟩
  ·exact .inl h2
  ·exact .inr ⟨gb,cap,cur,hv,hg,by rw [hb gb ((hF gb).2 (by rw [hv];rfl))];exact hh,r⟩
 lt:=by
  rintro w F ⟨h,hF⟩ b hb
  exact (h.lt b ((hF b).1 hb)).2
theorem row_rd {w:World} {F:Nat→Prop} {v:Value} {E:TypeId} {sz n:Nat} {cs:List Value} (h:(row v E sz n cs).holds w F):Rd F w v sz n cs:=by
 obtain ⟨h,hF⟩:=h
 rcases h.2 with ⟨rfl,rfl⟩ | ⟨gb,cap,cur,rfl,hg,hh,hnc,hcm,r⟩
 ·exact ⟨none,0,rfl,by simp [maxLen],h.1,fun h=>by omega,fun a j u ha=>by cases ha⟩
 ·refine ⟨_,cap,rfl,Nat.le_trans hnc hcm,h.1,fun _ _=>rfl,fun a j u ha hj=>?_⟩
  cases ha
  refine ⟨(hF gb).2 rfl,?_⟩
  have hj':j<n * sz:=by rw [← h.1];exact (List.getElem?_eq_some_iff.1 hj).1
  have:=h.cellAt j hj'
  simpa [Addr.add_lit] using this.trans hj
theorem RdS.own {C:Cx} {own:List Asn} {v:Value} {E:TypeId} {sz n:Nat} {cs:List Value} (i:Nat) (hi:own[i]? = some (row v E sz n cs)):RdS C own v sz n cs:=fun w hw=>by
 obtain ⟨_,Fs,hh,_⟩:=hw
 have:=row_rd (hh.at_ i _ hi)
 exact this.mono fun b _ _=>⟨trivial,rfl⟩
theorem Yl.lenR {C:Cx} {sl:List (Nat × Value)} {own:List Asn} {dst:Option Nat} {ty:TypeId} {pos:String} {aft:Array Edge} {g:Option (Nat × Bool)} {x:Operand} {t:TypeId} {e:TypeId} {sz s1:Nat} {v:Value} {n:Nat} {cs:List Value} (ht:SlT C.P t e sz) (hx:opv ⟨sl,own⟩ x=some v)
  (hr:RdS C own v s1 n cs):Yl C ⟨sl,own⟩ ⟨dst,.call ⟨.builtin .len,#[x],#[t]⟩,ty,pos,aft,g⟩ (.int .i64 (n:Int)):=
 fun a w hs=>by
  obtain ⟨oa,cap,rfl,_⟩:=hr w hs.world
  exact Yl.len ht hx a w hs
def Ret (F:Nat→Prop) (w w':World) (own:List Asn):Prop:=FrameX F w w'∧∃ Fs,HeapAt own Fs w'∧∀ i b,Fs i b→F b∨w.heap.size≤b
def CallS (P:Program) (f:FuncId) (vs:List Value) (w:World) (φ:Value→List Asn→Prop):Prop:=
 Calls P f vs.toArray w fun e w'=>∃ v own',φ v own'∧e = .returned v∧Ret (fun _=>False) w w' own'
def CallM (P:Program) (f:FuncId) (vs:List Value) (w:World) (F:Nat→Prop) (φ:Value→Asn→List Asn→Prop):Prop:=
 Calls P f vs.toArray w fun e w'=>∃ v A' own',φ v A' own'∧e = .returned v∧Ret F w w' (A' :: own')
def CallOk (P:Program) (f:FuncId):Prop:=(P.funcs[f]?).map (fun fn=>(fn.name == "runtime.NumGoroutine",fn.body.isNone))=some (false,false)
theorem CallOk.fn {P:Program} {f:FuncId} (h:CallOk P f):∃ fn,P.funcs[f]? = some fn∧(fn.name == "runtime.NumGoroutine")=false∧fn.body.isNone=false:=by
 unfold CallOk at h
 cases hi:P.funcs[f]? with
 | none=>rw [hi] at h;cases h
 | some i=>rw [hi] at h;simp only [Option.map_some,Option.some.injEq,Prod.mk.injEq] at h;exact ⟨i,rfl,h⟩
def opvs (st:St):List Operand→Option (List Value)
 | []=>some []
 | x :: l=>match opv st x,opvs st l with
  | some v,some vs=>some (v :: vs)
  | _,_=>none
theorem opvs_eval {C:Cx} {st:St} {a:Act} {w:World} (h:Sim C st a w):∀ {xs:List Operand} {vs:List Value},opvs st xs=some vs→xs.map a.eval=vs
 | [],vs,hx=>by simp [opvs] at hx;simp [hx]
 | x :: l,vs,hx=>by
  simp only [opvs] at hx
  cases h1:opv st x with
  | none=>simp [h1] at hx
  | some v=>
   cases h2:opvs st l with
   | none=>simp [h1,h2] at hx
   | some us=>
    simp [h1,h2] at hx
    subst hx
    simp [opv_eval h h1,opvs_eval h h2]
theorem run_call {C:Cx} {sl:List (Nat × Value)} {own:List Asn} {a:Act} {w:World} (hs:Sim C ⟨sl,own⟩ a w) {f:FuncId} {xs:List Operand} {tys:Array TypeId} {vs:List Value} {dst:Option Nat} {ty:TypeId} {pos:String} {aft:Array Edge} {g:Option (Nat × Bool)}
  (hf:CallOk C.P f) (hx:opvs ⟨sl,own⟩ xs=some vs):(execOp a.eval ⟨dst,.call ⟨.value (.func f),xs.toArray,tys⟩,ty,pos,aft,g⟩).run C.P w = .ok (.enter f vs.toArray) w:=by
 obtain ⟨fn,h1,h2,h3⟩:=hf.fn
 have:=opvs_eval hs hx
 subst this
 have h2':¬ fn.name = "runtime.NumGoroutine":=by simpa using h2
 have h3':¬ fn.body=none:=by intro e;simp [e] at h3
 simp [execOp,resolve,Act.eval,Deferred.ofValue,invoke,callFunc,h1,h2',h3']
section calls
variable {C : Cx} {sl : List (Nat × Value)} {own : List Asn} {ops : Array Oper} {Q : Exit → Act → World → Prop} {d : Nat} {ty : TypeId} {pos : String} {aft : Array Edge} {g : Option (Nat × Bool)} {rest : List Oper}
theorem AK.call {f:FuncId} {xs:List Operand} {tys:Array TypeId} {vs:List Value} {φ:Value→List Asn→Prop} (hf:CallOk C.P f) (hx:opvs ⟨sl,own⟩ xs=some vs) (hspec:∀ w,HW C own w→CallS C.P f vs w φ) (hg:Grd ops sl g) (hd:Nat.blt d C.N=true)
  (h:∀ v own',φ v own'→AK C ⟨(d,v) :: sl,own++own'⟩ (wpList C.P ops Q rest)):AK C ⟨sl,own⟩ (wpList C.P ops Q (⟨some d,.call ⟨.value (.func f),xs.toArray,tys⟩,ty,pos,aft,g⟩ :: rest)):=by
 intro a w hs
 refine wpList_step fun K hK=>?_
 rw [if_pos (wanted_of_Grd hs hg)]
 simp only [Oper.wp,run_call hs hf hx,Oper.upon]
 refine (hspec w hs.world).mono ?_
 rintro e w' ⟨v,own',hφ,rfl,hx',Fs,hh,hin⟩
 refine hK _ _ (h v own' hφ _ _ ?_)
 exact hs.put (hs.world.push hx' hh (fun j b hb=>(hin j b hb).resolve_left id)) (d:=some d) (fun i hi=>by cases hi;simpa [Nat.blt_eq] using hd) v
theorem AK.callM (i:Nat) {A:Asn} {f:FuncId} {xs:List Operand} {tys:Array TypeId} {vs:List Value} {φ:Value→Asn→List Asn→Prop} (hi:own[i]? = some A) (hf:CallOk C.P f) (hx:opvs ⟨sl,own⟩ xs=some vs) (hspec:∀ w F,HW C own w→A.holds w F→CallM C.P f vs w F φ) (hg:Grd ops sl g) (hd:Nat.blt d C.N=true)
  (h:∀ v A' own',φ v A' own'→AK C ⟨(d,v) :: sl,own.set i A'++own'⟩ (wpList C.P ops Q rest)):AK C ⟨sl,own⟩ (wpList C.P ops Q (⟨some d,.call ⟨.value (.func f),xs.toArray,tys⟩,ty,pos,aft,g⟩ :: rest)):=by
 intro a w hs
 refine wpList_step fun K hK=>?_
 rw [if_pos (wanted_of_Grd hs hg)]
 simp only [Oper.wp,run_call hs hf hx,Oper.upon]
 obtain ⟨hf',Fs,hh,hal⟩:=hs.world
 refine (hspec w (Fs i) hs.world (hh.at_ i A hi)).mono ?_
 rintro e w' ⟨v,A',own',hφ,rfl,hx',Fs',hh',hin⟩
 refine hK _ _ (h v A' own' hφ _ _ ?_)
 exact hs.put (HW.update hf' hh hal (List.getElem?_eq_some_iff.1 hi).1 hx' hh' hin) (d:=some d) (fun i hi=>by cases hi;simpa [Nat.blt_eq] using hd) v
end calls
def argSl:Nat→List Value→List (Nat × Value)
 | _,[]=>[]
 | i,v :: l=>(i,v) :: argSl (i+1) l
theorem get_argSl:∀ (l:List Value) (i k:Nat) (v:Value),get (argSl i l) k=some v→i≤k∧l[k - i]? = some v
 | [],_,_,_,h=>by simp [argSl,get] at h
 | u :: l,i,k,v,h=>by
  simp only [argSl,get] at h
  split at h
  ·rename_i e;subst e;simp at h;simp [h]
  ·rename_i e
   obtain ⟨h1,h2⟩:=get_argSl l (i+1) k v h
   refine ⟨by omega,?_⟩
   have:k - i=(k - (i+1))+1:=by omega
   rw [this];simpa using h2
theorem spec_of {P:Program} {f:FuncId} {fn:Func} {c:Code} {vs:List Value} {w:World} {φ:Value→List Asn→Prop} (hf:P.funcs[f]? = some fn) (hb:fn.body=some c) (hN:vs.length≤fn.ntmps)
  (h:AK ⟨P,fn.ntmps,w,fun _=>False⟩ ⟨argSl 0 vs,[]⟩ (c.wp P (bodyPost P fn fun e w'=>∃ v own',φ v own'∧e = .returned v∧Ret (fun _=>False) w w' own'))):CallS P f vs w φ:=by
 refine calls_of_wp hf hb (h _ _ ⟨by simp;omega,rfl,?_,⟨FrameX.refl _ _,_,HeapAt.nil w,fun _ _ h=>h.elim⟩⟩)
 intro i v hv
 obtain ⟨_,h2⟩:=get_argSl vs 0 i v hv
 simp only [Nat.sub_zero] at h2
 have hlt:=(List.getElem?_eq_some_iff.1 h2).1
 simp only [Array.getD_eq_getD_getElem?]
 rw [Array.getElem?_append_left (by simpa using hlt)]
 simp [h2]
theorem specM_of {P:Program} {f:FuncId} {fn:Func} {c:Code} {vs:List Value} {w:World} {F:Nat→Prop} {A:Asn} {φ:Value→Asn→List Asn→Prop} (hf:P.funcs[f]? = some fn) (hb:fn.body=some c) (hN:vs.length≤fn.ntmps) (hA:A.holds w F)
  (h:AK ⟨P,fn.ntmps,w,F⟩ ⟨argSl 0 vs,[A]⟩ (c.wp P (bodyPost P fn fun e w'=>∃ v A' own',φ v A' own'∧e = .returned v∧Ret F w w' (A' :: own')))):CallM P f vs w F φ:=by
 refine calls_of_wp hf hb (h _ _ ⟨by simp;omega,rfl,?_,⟨FrameX.refl _ _,_,HeapAt.one hA,fun i b hb=>.inr hb.2⟩⟩)
 intro i v hv
 obtain ⟨_,h2⟩:=get_argSl vs 0 i v hv
 simp only [Nat.sub_zero] at h2
 have hlt:=(List.getElem?_eq_some_iff.1 h2).1
 simp only [Array.getD_eq_getD_getElem?]
 rw [Array.getElem?_append_left (by simpa using hlt)]
 simp [h2]
theorem Ret.of {C:Cx} {own:List Asn} {w:World} (h:HW C own w):Ret C.S C.W0 w own:=by
 obtain ⟨hf,Fs,hh,hal⟩:=h
 exact ⟨hf,Fs,hh,fun i b hb=>(hal i b hb).symm⟩
theorem AK.ret1 {C:Cx} {sl:List (Nat × Value)} {own:List Asn} {fn:Func} {R:Ending→World→Prop} {t:Nat} {v:Value} (hr:fn.results = #[.tmp t]) (hv:get sl t=some v) (h:∀ w,HW C own w→R (.returned v) w):AK C ⟨sl,own⟩ (bodyPost C.P fn R .ret):=by
 intro a w hs
 exact ⟨hs.defers,_,results_tmp hr _ _ _,by rw [hs.slot t v hv];exact h w hs.world⟩
theorem AK.ret2 {C:Cx} {sl:List (Nat × Value)} {own:List Asn} {fn:Func} {R:Ending→World→Prop} {t u:Nat} {v z:Value} (hr:fn.results = #[.tmp t,.tmp u]) (hv:get sl t=some v) (hz:get sl u=some z) (h:∀ w,HW C own w→R (.returned (.tuple #[v,z])) w):AK C ⟨sl,own⟩ (bodyPost C.P fn R .ret):=by
 intro a w hs
 exact ⟨hs.defers,_,results_tmp2 hr _ _ _,by rw [hs.slot t v hv,hs.slot u z hz];exact h w hs.world⟩
theorem AK.then_exit {C:Cx} {st:St} {K:Act→World→Prop} {Q:Exit→Act→World→Prop} {id:Nat} (h:AK C st (Q (.exit id))):AK C st (Exit.then K Q (.exit id)):=h
theorem AK.then_ret {C:Cx} {st:St} {K:Act→World→Prop} {Q:Exit→Act→World→Prop} (h:AK C st (Q .ret)):AK C st (Exit.then K Q .ret):=h
theorem AK.block_ret {C:Cx} {st:St} {Q:Exit→Act→World→Prop} {id:Nat} (h:AK C st (Q .ret)):AK C st (Exit.inBlock id Q .ret):=h
theorem AK.block_normal {C:Cx} {st:St} {Q:Exit→Act→World→Prop} {id:Nat} (h:AK C st (Q .normal)):AK C st (Exit.inBlock id Q .normal):=h
theorem AK.block_exit {C:Cx} {st:St} {Q:Exit→Act→World→Prop} {id:Nat} (h:AK C st (Q .normal)):AK C st (Exit.inBlock id Q (.exit id)):=fun a w hs=>by
 simp only [Exit.inBlock,if_true];exact h a w hs
def SlLe (sl:List (Nat × Value)):List (Nat × Value)→Prop
 | []=>True
 | (i,v) :: l=>get sl i=some v∧SlLe sl l
theorem SlLe.get {sl:List (Nat × Value)}:∀ {l:List (Nat × Value)},SlLe sl l→∀ i v,Sx.get l i=some v→Sx.get sl i=some v
 | [],_,i,v,h=>by simp [Sx.get] at h
 | (j,u) :: l,h,i,v,hv=>by
  simp only [Sx.get] at hv
  split at hv
  ·rename_i e;subst e;simp at hv;subst hv;exact h.1
  ·exact SlLe.get h.2 i v hv
theorem SlLe.append {sl l l':List (Nat × Value)} (h:SlLe sl l) (h':SlLe sl l'):SlLe sl (l++l'):=by
 induction l with
 | nil=>exact h'
 | cons p l ih=>exact ⟨h.1,ih h.2⟩
theorem AK.weakenS {C:Cx} {sl sl':List (Nat × Value)} {own own':List Asn} {K:Act→World→Prop} (h1:SlLe sl sl') (h2:∀ w,HW C own w→HW C own' w) (h:AK C ⟨sl',own'⟩ K):AK C ⟨sl,own⟩ K:=
 fun a w hs=>h a w ⟨hs.size,hs.defers,fun i v hv=>hs.slot i v (h1.get i v hv),h2 w hs.world⟩
end Go.Sx
namespace Go.Sx
open Go.RowKit
def one' (us:List Value):Prop:=∀ u∈us,u.oneCell'=true
section eff
variable {C : Cx} {sl : List (Nat × Value)} {own : List Asn} {ops : Array Oper} {Q : Exit → Act → World → Prop} {ty : TypeId} {pos : String} {aft : Array Edge} {g : Option (Nat × Bool)} {rest : List Oper}
theorem FrameX.ofGrown {w w':World} {r:Option Nat} {F:Nat→Prop} (h:w.grownBy w' r) (hF:∀ k,some k=r→F k) (hd:w.drawn≤w'.drawn):FrameX F w w':=
 ⟨h.os,h.tape,h.output,h.size,fun k hk hn=>h.block k hk (fun e=>hn (hF k e)),hd⟩
theorem row_of {w:World} {v:Value} {E:TypeId} {sz n:Nat} {cs:List Value} (h:w.ownsRow 0 E sz v n cs):(row v E sz n cs).holds w (fun b=>v.ownBlock=some b):=⟨h,fun _=>Iff.rfl⟩
theorem ownsRow_base {w:World} {B B':Nat} {E:TypeId} {sz n:Nat} {v:Value} {cs:List Value} (h:w.ownsRow B E sz v n cs) (hb:∀ b,v.ownBlock=some b→B'≤b):w.ownsRow B' E sz v n cs:=by
 refine ⟨h.1,?_⟩
 rcases h.2 with h2 | ⟨gb,cap,cur,hv,hg,hh,r⟩
 ·exact .inl h2
 ·exact .inr ⟨gb,cap,cur,hv,hb gb (by rw [hv];rfl),hh,r⟩
theorem HW.ghost {C:Cx} {own:List Asn} {w:World} (h:HW C own w) (E:TypeId) (sz:Nat):HW C (own++[row (.slice none 0 0) E sz 0 []]) w:=
 h.push (FrameX.refl _ w) (HeapAt.one (row_of (World.ownsRow_nil w 0 E sz))) (fun j b hb=>by simp [Value.ownBlock] at hb)
theorem AK.ghost {K:Act→World→Prop} (E:TypeId) (sz:Nat) (h:AK C ⟨sl,own++[row (.slice none 0 0) E sz 0 []]⟩ K):AK C ⟨sl,own⟩ K:=
 fun a w hs=>h a w ⟨hs.size,hs.defers,hs.slot,hs.world.ghost E sz⟩
theorem AK.make {d:Nat} {t E:TypeId} {l c:Operand} {sz s' by_:Nat} {z:Value} {n:Nat} (ht:SlT C.P t E sz) (hE:ElT C.P E z s' by_) (hl:opv ⟨sl,own⟩ l=some (.int .i64 (n:Int))) (hc:opv ⟨sl,own⟩ c=some (.int .i64 (n:Int)))
  (hb:by_ * n≤281474976710656) (hm:n≤9223372036854775807) (hg:Grd ops sl g) (hd:Nat.blt d C.N=true)
  (h:∀ v,AK C ⟨(d,v) :: sl,own++[row v E sz n (madeCells z.cells (n * sz)).toList]⟩ (wpList C.P ops Q rest)) :
  AK C ⟨sl,own⟩ (wpList C.P ops Q (⟨some d,.makeSlice t l c,ty,pos,aft,g⟩ :: rest)):=by
 intro a w hs
 refine wpList_step fun K hK=>?_
 rw [if_pos (wanted_of_Grd hs hg)]
 obtain ⟨i,hi1,hi2,hi3,hi4⟩:=hE.inf
 obtain ⟨i',hi',hsz⟩:=ht.inf
 rw [hi1] at hi';cases hi'
 subst hi4
 obtain ⟨w',hr,hown,hgr⟩:=run_make_full (P:=C.P) w w.heap.size t E i z sz ht.1 hi1 hi2 hsz .i64 .i64 n hb (by simpa [maxLen] using hm) (Nat.le_refl _)
 have hrun:(execOp a.eval ⟨some d,.makeSlice t l c,ty,pos,aft,g⟩).run C.P w = .ok (.value (.slice (some ⟨w.heap.size,0,none⟩) n n)) w':=by
  simp only [execOp,opv_eval hs hl,opv_eval hs hc,Sem.run_bind,hr,Result.andThen_ok,Sem.run_pure]
 simp only [Oper.wp,hrun,Oper.upon]
 refine hK _ _ (h (.slice (some ⟨w.heap.size,0,none⟩) n n) _ _ ?_)
 refine hs.put (hs.world.push (.ofGrown hgr (by simp) (sem_drawn _ _ _ _ hr)) (HeapAt.one (row_of (ownsRow_base hown (fun b _=>Nat.zero_le _)))) (fun j b hb=>?_)) (d:=some d) (fun i hi=>by cases hi;simpa [Nat.blt_eq] using hd) _
 obtain ⟨_,hb⟩:=hb
 simp [Value.ownBlock] at hb
 omega
theorem madeCells_rep {z:Value} {n:Nat} (hz:z.cells = #[z]):(madeCells z.cells (n * 1)).toList=List.replicate n z:=by
 rw [hz,Nat.mul_one];exact toList_madeCells_one z n
theorem AK.make1 {d:Nat} {t E:TypeId} {l c:Operand} {s' by_:Nat} {z:Value} {n:Nat} (ht:SlT C.P t E 1) (hE:ElT C.P E z s' by_) (hz:z.cells = #[z]) (hl:opv ⟨sl,own⟩ l=some (.int .i64 (n:Int))) (hc:opv ⟨sl,own⟩ c=some (.int .i64 (n:Int)))
  (hb:by_ * n≤281474976710656) (hm:n≤9223372036854775807) (hg:Grd ops sl g) (hd:Nat.blt d C.N=true)
  (h:∀ v,AK C ⟨(d,v) :: sl,own++[row v E 1 n (List.replicate n z)]⟩ (wpList C.P ops Q rest)) :
  AK C ⟨sl,own⟩ (wpList C.P ops Q (⟨some d,.makeSlice t l c,ty,pos,aft,g⟩ :: rest)):=
 AK.make ht hE hl hc hb hm hg hd (fun v=>by rw [madeCells_rep hz];exact h v)
theorem run_append_at {P:Program} (w:World) (t ty e:TypeId) (i:TypeInfo) (z:Value) (size bytes:Nat) (ht:P.underlying t=some (.slice e)) (hi:P.info? e=some i) (hz:i.zero=some z)
  (hsize:i.size=size) (hby:i.bytes=bytes) (hzs:z.cells.size=size) (hsz:0<size)
  (v:Value) (n:Nat) (xs:List Value) (hown:w.ownsRow 0 e size v n xs)
  (a:Addr) (m c:Nat) (news:List Value) (hl:news.length=m * size) (hnews:∀ j u,news[j]? = some u→w.cell? (a.add j)=some u) (h1:∀ u∈news,u.oneCell'=true)
  (h63:n+m≤maxLen) (hbytes:(n+m) * bytes≤140737488355328) :
  ∃ v' w',(Builtin.append_ #[t,t] ty #[v,.slice (some a) m c]).run P w = .ok v' w'∧w'.ownsRow 0 e size v' (n+m) (xs++news)∧w.grownBy w' v.ownBlock ∧
   (∀ b,v'.ownBlock=some b→v.ownBlock=some b∨w.heap.size≤b):=by
 by_cases hfit:(∃ gb cap,v = .slice (some ⟨gb,0,none⟩) n cap∧n+m≤cap)
 ·obtain ⟨gb,cap,rfl,hroom⟩:=hfit
  rcases hown.2 with ⟨h,_⟩ | ⟨g',cap',cur,h',_,hg,hnc,hcm,hcs,htake⟩
  ·simp at h
  ·simp only [Value.slice.injEq,Option.some.injEq,Addr.mk.injEq,and_true,true_and] at h'
   obtain ⟨rfl,rfl⟩:=h'
   subst hsize
   have hlen:(xs++news).length=(n+m) * i.size:=by rw [List.length_append,hown.1,hl,Nat.add_mul]
   have hfit:n * i.size+news.length≤cur.size:=by rw [hl,hcs,← Nat.add_mul];exact Nat.mul_le_mul_right _ hroom
   have hr:=run_append_room (P:=P) w t ty e i ht hi gb n cap cur hg a m c news hl hnews h1 hroom hfit
   refine ⟨_,_,hr,⟨hlen,.inr ⟨gb,cap,_,rfl,Nat.zero_le _,setRow_heap w gb cur _ e _ hg,hroom,hcm,?_,?_⟩⟩,⟨rfl,rfl,rfl,by simp,fun k _ hk=>setRow_other w gb k _ (fun e=>hk (by simp [Value.ownBlock,e]))⟩,fun b hb=>.inl hb⟩
   ·simp only [List.size_toArray,List.length_append,List.length_take,List.length_drop,Array.length_toList]
    omega
   ·rw [htake,← hlen]
    exact List.take_left
 ·rcases hown.2 with ⟨rfl,rfl⟩ | ⟨gb,cap,cur,rfl,_,hg,hnc,hcm,hcs,htake⟩
  ·obtain ⟨v',w',e1,e2,e3,_⟩:=run_append_own (P:=P) w w.heap.size t ty e i z size bytes ht hi hz hsize hby hzs hsz _ 0 xs (ownsRow_base hown (by simp [Value.ownBlock])) a m c news hl hnews h1 h63 hbytes (Nat.le_refl _)
   exact ⟨v',w',e1,ownsRow_base e2 (fun b _=>Nat.zero_le _),e3,fun b hb=>.inr (e2.lt b hb).1⟩
  ·subst hsize
   subst hby
   have hno:¬ n+m≤cap:=fun h=>hfit ⟨gb,cap,rfl,h⟩
   have hsmall:n+m≤9223372036854775807:=by simp only [maxLen] at h63;omega
   have holds:∀ j u,xs[j]? = some u→w.cell? ((⟨gb,0,none⟩:Addr).add j)=some u:=hown.cells (g:=gb) rfl
   have hr:=run_append_grow (P:=P) w t ty e i z ht hi hz ⟨gb,0,none⟩ n cap xs hown.1 holds a m c news hl hnews (by omega) (by omega) (growslice_fits (by omega) hbytes)
   have hlen:(xs++news).length=(n+m) * i.size:=by rw [List.length_append,hown.1,hl,Nat.add_mul]
   have hge:=grownCap_ge w (n+m) cap e
   have hcm':grownCap w (n+m) cap e≤maxLen:=grownCap_le_maxLen w (n+m) cap e h63
   refine ⟨_,_,hr,⟨hlen,.inr ⟨w.heap.size,_,_,rfl,Nat.zero_le _,heap_alloc_new w.drew _,hge,hcm',?_,?_⟩⟩,⟨rfl,rfl,rfl,by simp,fun k hk _=>Below.heap_alloc w.drew _ k hk⟩,fun b hb=>.inr (by simp [Value.ownBlock] at hb;omega)⟩
   ·simp only [Array.size_append,List.size_toArray,size_zeroCells,hzs,hown.1,hl,← Nat.add_mul]
    congr 1
    omega
   ·simp only [Array.toList_append,List.append_assoc]
    rw [← List.append_assoc,← hlen]
    exact List.take_left
theorem AK.appendS (i:Nat) {d:Nat} {s x:Operand} {t t' E:TypeId} {sz by_:Nat} {z v v2:Value} {n m:Nat} {cs cs2:List Value} (hi:own[i]? = some (row v E sz n cs)) (ht:SlT C.P t E sz) (hE:ElT C.P E z sz by_) (hz:z.cells.size=sz) (hsz:0<sz) (htt:t'=t)
  (hx:opv ⟨sl,own⟩ s=some v) (hy:opv ⟨sl,own⟩ x=some v2) (hr:RdS C own v2 sz m cs2) (h1:one' cs2) (hm:n+m≤9223372036854775807) (hb:(n+m) * by_≤140737488355328) (hg:Grd ops sl g) (hd:Nat.blt d C.N=true)
  (h:∀ v',AK C ⟨(d,v') :: sl,own.set i (row v' E sz (n+m) (cs++cs2))⟩ (wpList C.P ops Q rest)) :
  AK C ⟨sl,own⟩ (wpList C.P ops Q (⟨some d,.call ⟨.builtin .append,#[s,x],#[t,t']⟩,ty,pos,aft,g⟩ :: rest)):=by
 subst htt
 intro a w hs
 refine wpList_step fun K hK=>?_
 rw [if_pos (wanted_of_Grd hs hg)]
 obtain ⟨inf,hi1,hi2,hi3,hi4⟩:=hE.inf
 obtain ⟨hf,Fs,hh,hal⟩:=hs.world
 obtain ⟨hown,hFs⟩:=hh.at_ i _ hi
 have hrd:=hr w hs.world
 have key:∃ v' w',(Builtin.append_ #[t',t'] ty #[v,v2]).run C.P w = .ok v' w'∧w'.ownsRow 0 E sz v' (n+m) (cs++cs2)∧w.grownBy w' v.ownBlock∧(∀ b,v'.ownBlock=some b→v.ownBlock=some b∨w.heap.size≤b):=by
  obtain ⟨oa,cap,rfl,hmm,hl2,hnn,hc2⟩:=hrd
  cases oa with
  | some ad=>
   exact run_append_at (P:=C.P) w t' ty E inf z sz by_ ht.1 hi1 hi2 hi3 hi4 hz hsz v n cs hown ad m cap cs2 hl2 (fun j u hj=>(hc2 ad j u rfl hj).2) h1 (by simpa [maxLen] using hm) hb
  | none=>
   have hm0:m=0:=by
    rcases Nat.eq_zero_or_pos m with h | h
    ·exact h
    ·have:=hnn h hsz;simp at this
   subst hm0
   have hcs2:cs2=[]:=List.eq_nil_of_length_eq_zero (by simpa using hl2)
   subst hcs2
   have:n≤(match v with | .slice _ _ c=>c | _=>0)∧∃ ao c,v = .slice ao n c∧n≤c:=by
    rcases hown.2 with ⟨rfl,rfl⟩ | ⟨gb,cp,cur,rfl,_,_,hnc,_⟩
    ·exact ⟨Nat.le_refl _,none,0,rfl,Nat.le_refl _⟩
    ·exact ⟨hnc,_,cp,rfl,hnc⟩
   obtain ⟨_,ao,c,rfl,hnc⟩:=this
   refine ⟨.slice ao n c,w,?_,by simpa using hown,⟨rfl,rfl,rfl,Nat.le_refl _,fun _ _ _=>rfl⟩,fun b hb=>.inl hb⟩
   cases ao with
   | none=>simp [Builtin.append_,run_underlying ht.1,sizeOf,typeInfo,hi1,Builtin.lenOf,hnc,Builtin.firstCells]
   | some a0=>simp [Builtin.append_,run_underlying ht.1,sizeOf,typeInfo,hi1,Builtin.lenOf,hnc,Builtin.firstCells,storeCells]
 obtain ⟨v',w',e1,e2,e3,e4⟩:=key
 have hrun:(execOp a.eval ⟨some d,.call ⟨.builtin .append,#[s,x],#[t',t']⟩,ty,pos,aft,g⟩).run C.P w = .ok (.value v') w':=by
  simp [execOp,resolve,invoke,builtin,opv_eval hs hx,opv_eval hs hy,e1]
 simp only [Oper.wp,hrun,Oper.upon]
 refine hK _ _ (h v' _ _ ?_)
 have hlt:i<own.length:=(List.getElem?_eq_some_iff.1 hi).1
 have hup:=HW.update (own2:=[]) (A':=row v' E sz (n+m) (cs++cs2)) hf hh hal hlt (.ofGrown e3 (fun k hk=>(hFs k).2 hk.symm) (sem_drawn _ _ _ _ e1)) (HeapAt.one (row_of e2)) (fun j b hb=>by
  exact (e4 b hb.2).imp (hFs b).2 id)
 rw [List.append_nil] at hup
 exact hs.put hup (d:=some d) (fun i hi=>by cases hi;simpa [Nat.blt_eq] using hd) v'
theorem foldl_set:∀ (vs:List Value) (j off:Nat) (cells:Array Value),off+j+vs.length≤cells.size →
  (vs.zipIdx j).foldl (fun cs p=>cs.setIfInBounds (off+p.2) p.1) cells=(cells.toList.take (off+j)++vs++cells.toList.drop (off+j+vs.length)).toArray
 | [],j,off,cells,h=>by simp
 | v :: vs,j,off,cells,h=>by
  simp only [List.zipIdx_cons,List.foldl_cons]
  rw [foldl_set vs (j+1) off _ (by simp at h ⊢;omega)]
  congr 1
  simp only [Array.toList_setIfInBounds,List.length_cons] at h ⊢
  have hl:cells.toList.length=cells.size:=Array.length_toList
  generalize cells.toList=L at hl ⊢
  have hlt:off+j<L.length:=by omega
  have e1:(L.set (off+j) v).take (off+(j+1))=L.take (off+j)++[v]:=by
   rw [show off+(j+1)=(off+j)+1 from by omega,List.take_succ_eq_append_getElem (by simpa using hlt),List.take_set_of_le (Nat.le_refl _)]
   simp
  have e2:(L.set (off+j) v).drop (off+(j+1)+vs.length)=L.drop (off+j+(vs.length+1)):=by
   rw [List.drop_set_of_lt (by omega)]
   congr 1
   omega
  rw [e1,e2]
  simp
theorem fill_enum {sz:Nat}:∀ (us:List Value) (k:Nat) (cells:Array Value),(∀ u∈us,u.cells.size=sz)→k * sz+us.length * sz≤cells.size →
  Instr.fill (fun i=>some (i * sz,sz)) cells ((us.zipIdx k).map fun p=>(p.2,p.1))=some (cells.toList.take (k * sz)++us.flatMap (·.cells.toList)++cells.toList.drop (k * sz+us.length * sz)).toArray
 | [],k,cells,_,h=>by simp [Instr.fill]
 | u :: us,k,cells,hu,h=>by
  have hus:=hu u (by simp)
  have hfit:k * sz+sz≤cells.size:=by simp only [List.length_cons,Nat.succ_mul] at h;omega
  simp only [List.zipIdx_cons,List.map_cons,Instr.fill]
  rw [if_neg (by simp [hus];omega)]
  have hf:=foldl_set u.cells.toList 0 (k * sz) cells (by simp [hus];omega)
  have he:u.cells.zipIdx.foldl (fun cs x=>match x with | (c,j)=>cs.setIfInBounds (k * sz+j) c) cells=(u.cells.toList.zipIdx 0).foldl (fun cs p=>cs.setIfInBounds (k * sz+p.2) p.1) cells:=by
   rw [← Array.foldl_toList,Array.toList_zipIdx]
  rw [he,hf]
  have hul:u.cells.toList.length=sz:=by simp [hus]
  rw [fill_enum us (k+1) _ (fun x hx=>hu x (by simp [hx])) (by simp only [List.length_cons,Nat.succ_mul] at h ⊢;simp;omega)]
  congr 2
  simp only [List.flatMap_cons,Nat.add_zero,List.length_cons,Nat.succ_mul]
  have hl:cells.toList.length=cells.size:=Array.length_toList
  generalize cells.toList=L at hl ⊢
  generalize us.flatMap (·.cells.toList)=M
  generalize hU:u.cells.toList=U at hul ⊢
  have e1:(L.take (k * sz)++U++L.drop (k * sz+U.length)).take (k * sz+sz)=L.take (k * sz)++U:=by
   rw [List.take_append_of_le_length (by simp;omega),List.take_of_length_le (by simp;omega)]
  have e2:(L.take (k * sz)++U++L.drop (k * sz+U.length)).drop (k * sz+sz+us.length * sz)=L.drop (k * sz+(us.length * sz+sz)):=by
   rw [List.drop_append]
   rw [List.drop_eq_nil_of_le (by simp;omega),List.nil_append,List.drop_drop]
   congr 1
   simp
   omega
  rw [e1,e2]
  simp
def enumOps (xs:List Operand):List (Nat × Operand):=xs.zipIdx.map fun p=>(p.2,p.1)
theorem AK.lit {d:Nat} {t E:TypeId} {sz by_:Nat} {z:Value} {xs:List Operand} {us:List Value} {n:Nat} {parts:List (Nat × Operand)} (ht:SlT C.P t E sz) (hE:ElT C.P E z sz by_) (hp:parts=enumOps xs) (hn:n=xs.length) (hx:opvs ⟨sl,own⟩ xs=some us)
  (hu:∀ u∈us,u.cells.size=sz) (hb:n * sz≤16777216) (hbn:n≤16777216) (hg:Grd ops sl g) (hd:Nat.blt d C.N=true)
  (h:∀ v,AK C ⟨(d,v) :: sl,own++[row v E sz n (us.flatMap (·.cells.toList))]⟩ (wpList C.P ops Q rest)) :
  AK C ⟨sl,own⟩ (wpList C.P ops Q (⟨some d,.buildSlice t n parts.toArray,ty,pos,aft,g⟩ :: rest)):=by
 intro a w hs
 refine wpList_step fun K hK=>?_
 rw [if_pos (wanted_of_Grd hs hg)]
 obtain ⟨i,hi1,hi2,hi3,hi4⟩:=hE.inf
 have he:=opvs_eval hs hx
 have hlen:us.length=n:=by rw [← he,List.length_map,hn]
 have hparts:(parts.toArray.map fun x=>(x.1,a.eval x.2)).toList=(us.zipIdx 0).map fun p=>(p.2,p.1):=by
  subst hp;subst he
  simp [enumOps,List.zipIdx_map,Function.comp_def]
 have hcells:∀ c:Array Value,c.size=n * sz→Instr.fill (fun i=>some (i * sz,sz)) c ((us.zipIdx 0).map fun p=>(p.2,p.1))=some (us.flatMap (·.cells.toList)).toArray:=by
  intro c hc
  rw [fill_enum us 0 c hu (by simp [hlen,hc])]
  simp [hlen,hc]
 have hfl:(us.flatMap (·.cells.toList)).length=n * sz:=by
  rw [← hlen];clear hlen hx hcells hparts he h
  induction us with
  | nil=>simp
  | cons u us ih=>simp only [List.flatMap_cons,List.length_append,List.length_cons,Nat.succ_mul];rw [ih (fun x hx=>hu x (by simp [hx]))];have:=hu u (by simp);simp [this];omega
 have hrun:(execOp a.eval ⟨some d,.buildSlice t n parts.toArray,ty,pos,aft,g⟩).run C.P w = .ok (.value (.slice (some ⟨w.heap.size,0,none⟩) n n)) (w.alloc (.cells (us.flatMap (·.cells.toList)).toArray E)):=by
  have hparts':(parts.map fun x=>(x.1,a.eval x.2))=(us.zipIdx 0).map fun p=>(p.2,p.1):=by simpa using hparts
  simp only [execOp,Instr.buildSlice]
  have hsz:(sizeOf E).run C.P w = .ok sz w:=run_sizeOf_of ht.2 w
  by_cases h0:n * sz=0
  ·have:=hcells ((Array.range 0).map fun _=>default) (by simp [h0])
   simp only [Sem.run_bind,run_underlying ht.1,Result.andThen_ok,hsz]
   rw [if_neg (by omega)]
   simp only [Sem.run_bind,Sem.run_pure,Result.andThen_ok,h0,if_true]
   simp [hparts',this,newRow]
  ·have:=hcells ((Array.range (n * sz)).map (z.cells[· % z.cells.size]!)) (by simp)
   simp only [Sem.run_bind,run_underlying ht.1,Result.andThen_ok,hsz]
   rw [if_neg (by omega)]
   simp only [Sem.run_bind,Sem.run_pure,Result.andThen_ok,h0,if_false]
   simp [zeroValue,typeInfo,hi1,hi2,hparts',this,newRow]
 simp only [Oper.wp,hrun,Oper.upon]
 refine hK _ _ (h (.slice (some ⟨w.heap.size,0,none⟩) n n) _ _ ?_)
 have hown:=World.ownsRow_lit (base:=0) (e:=E) (size:=sz) w (us.flatMap (·.cells.toList)).toArray n (Nat.zero_le _) (by unfold maxLen;omega) (by simpa using hfl)
 refine hs.put (hs.world.push (.ofGrown (World.grownBy_alloc w _ none) (by simp) (Nat.le_refl _)) (HeapAt.one (row_of hown)) (fun j b hb=>?_)) (d:=some d) (fun i hi=>by cases hi;simpa [Nat.blt_eq] using hd) _
 obtain ⟨_,hb⟩:=hb
 simp [Value.ownBlock] at hb
 omega
end eff
section eff2
variable {C : Cx} {sl : List (Nat × Value)} {own : List Asn} {ops : Array Oper} {Q : Exit → Act → World → Prop} {ty : TypeId} {pos : String} {aft : Array Edge} {g : Option (Nat × Bool)} {rest : List Oper}
theorem HW.take {C:Cx} {own l:List Asn} {w:World} (h:HW C (own++l) w):HW C own w:=by
 obtain ⟨hf,Fs,hh,hal⟩:=h
 refine ⟨hf,fun k b=>k<own.length∧Fs k b,⟨?_,?_,?_⟩,fun k b hb=>hal k b hb.2⟩
 ·intro k A hk
  have hlt:=(List.getElem?_eq_some_iff.1 hk).1
  have:=hh.at_ k A (by rw [List.getElem?_append_left hlt];exact hk)
  simpa [hlt] using this
 ·rintro k hk b ⟨h,_⟩;omega
 ·rintro k j b ⟨_,h1⟩ ⟨_,h2⟩;exact hh.apart k j b h1 h2
def IsSl (v:Value):Prop:=∃ ao n c,v = .slice ao n c
theorem IsSl.cells {v:Value} (h:IsSl v):v.cells = #[v]:=by obtain ⟨_,_,_,rfl⟩:=h;rfl
theorem IsSl.one {v:Value} (h:IsSl v):v.oneCell'=true:=by obtain ⟨_,_,_,rfl⟩:=h;rfl
theorem row_sl {w:World} {F:Nat→Prop} {v:Value} {E:TypeId} {sz n:Nat} {cs:List Value} (h:(row v E sz n cs).holds w F):IsSl v:=by
 rcases h.1.2 with ⟨h2,_⟩ | ⟨gb,cap,cur,hv,_⟩
 ·exact ⟨_,_,_,h2⟩
 ·exact ⟨_,_,_,hv⟩
theorem AK.fact {C:Cx} {st:St} {K:Act→World→Prop} {p:Prop} (hp:∀ w,HW C st.own w→p) (h:p→AK C st K):AK C st K:=fun a w hs=>h (hp w hs.world) a w hs
theorem HW.shape {C:Cx} {own:List Asn} {v:Value} {E:TypeId} {sz n:Nat} {cs:List Value} {w:World} (i:Nat) (hw:HW C own w) (hi:own[i]? = some (row v E sz n cs)):IsSl v:=by
 obtain ⟨_,Fs,hh,_⟩:=hw
 exact row_sl (hh.at_ i _ hi)
theorem AK.append1 (i:Nat) {d1 d2:Nat} {s x:Operand} {t E:TypeId} {sz by_:Nat} {z v u:Value} {n:Nat} {cs:List Value} {ty2:TypeId} {pos2:String} {aft2:Array Edge} (hi:own[i]? = some (row v E sz n cs)) (ht:SlT C.P t E sz) (hE:ElT C.P E z sz by_) (hz:z.cells.size=sz) (hsz:0<sz)
  (hxs:opvs ⟨sl,own⟩ [s,x]=some [v,u]) (hne:∀ k,s = .tmp k→(d1 == k)=false) (hu:u.cells.size=sz) (h1:one' u.cells.toList) (hm:n+1≤9223372036854775807) (hb:(n+1) * by_≤140737488355328) (hb2:sz≤16777216) (hd1:Nat.blt d1 C.N=true) (hd:Nat.blt d2 C.N=true)
  (h:∀ v' t',IsSl v'→AK C ⟨(d2,v') :: (d1,t') :: sl,own.set i (row v' E sz (n+1) (cs++u.cells.toList))⟩ (wpList C.P ops Q rest)) :
  AK C ⟨sl,own⟩ (wpList C.P ops Q (⟨some d1,.buildSlice t 1 #[(0,x)],ty,pos,aft,none⟩ :: ⟨some d2,.call ⟨.builtin .append,#[s,.tmp d1],#[t,t]⟩,ty2,pos2,aft2,none⟩ :: rest)):=by
 have hs':opv ⟨sl,own⟩ s=some v∧opv ⟨sl,own⟩ x=some u:=by
  simp only [opvs] at hxs
  cases e1:opv ⟨sl,own⟩ s <;> cases e2:opv ⟨sl,own⟩ x <;> simp [e1,e2] at hxs
  exact ⟨by rw [hxs.1],by rw [hxs.2]⟩
 have hilt:=(List.getElem?_eq_some_iff.1 hi).1
 refine AK.lit (xs:=[x]) (us:=[u]) ht hE rfl rfl (by simp [opvs,hs'.2]) (by simpa using hu) (by omega) (by omega) trivial hd1 fun tv=>?_
 refine AK.appendS i (v:=v) (v2:=tv) (n:=n) (m:=1) (cs:=cs) (cs2:=u.cells.toList) (by rw [List.getElem?_append_left hilt];exact hi) ht hE hz hsz rfl ?_ (by simp [opv,get]) (RdS.own own.length (E:=E) (by simp)) h1 hm hb trivial hd fun v'=>?_
 ·cases s with
  | tmp k=>have:=hne k rfl;simp only [beq_eq_false_iff_ne,ne_eq] at this;simp only [opv,get,this,if_false];exact hs'.1
  | const c=>exact hs'.1
  | global c=>exact hs'.1
  | func c=>exact hs'.1
 ·intro a w hs
  have hw2:HW C (own.set i (row v' E sz (n+1) (cs++u.cells.toList))) w:=by
   have:=hs.world
   rw [List.set_append_left _ _ hilt] at this
   exact this.take
  exact h v' tv (hw2.shape (E:=E) (sz:=sz) (n:=n+1) (cs:=cs++u.cells.toList) i (by simp [hilt])) a w ⟨hs.size,hs.defers,hs.slot,hw2⟩
theorem row_grown {w:World} {v:Value} {E:TypeId} {sz n:Nat} {cs:List Value} {F:Nat→Prop} (h:(row v E sz n cs).holds w F) {j:Nat} (hj:j<n * sz) (u:Value) :
  (w.setCell ((slA v).add j) u).ownsRow 0 E sz v n (cs.set j u)∧FrameX F w (w.setCell ((slA v).add j) u)∧(w.cell? ((slA v).add j)).isSome∧w.frozen? ((slA v).add j)=false:=by
 obtain ⟨hown,hF⟩:=h
 rcases hown.2 with ⟨rfl,rfl⟩ | ⟨gb,cap,cur,rfl,hb,hg,hnc,hcm,hcs,htake⟩
 ·omega
 ·obtain ⟨h1,h2⟩:=hown.stored j u
  have ha:((slA (.slice (some ⟨gb,0,none⟩) n cap)).add j)=⟨gb,j,none⟩:=by simp [slA,Addr.add_lit]
  rw [ha]
  refine ⟨h1,.ofGrown h2 (fun k hk=>by cases hk;exact (hF gb).2 rfl) (Nat.le_refl _),?_,hown.frozenAt j⟩
  have hjl:j<cs.length:=by rw [hown.1];exact hj
  rw [hown.cellAt j hj,List.getElem?_eq_getElem hjl]
  rfl
theorem AK.store1 (i:Nat) {t E:TypeId} {x y:Operand} {v u:Value} {n j:Nat} {cs:List Value} (hi:own[i]? = some (row v E 1 n cs)) (hs1:(C.P.info? t).map (·.size)=some 1) (hx:opv ⟨sl,own⟩ x=some (.pointer (some ((slA v).add (j * 1))))) (hy:opv ⟨sl,own⟩ y=some u)
  (hu:u.cells = #[u]) (h1:u.oneCell'=true) (hj:j<n) (hg:Grd ops sl g) (h:AK C ⟨sl,own.set i (row v E 1 n (cs.set j u))⟩ (wpList C.P ops Q rest)) :
  AK C ⟨sl,own⟩ (wpList C.P ops Q (⟨none,.store t x y,ty,pos,aft,g⟩ :: rest)):=by
 intro a w hs
 refine wpList_step fun K hK=>?_
 rw [if_pos (wanted_of_Grd hs hg)]
 obtain ⟨hf,Fs,hh,hal⟩:=hs.world
 have hA:=hh.at_ i _ hi
 obtain ⟨e1,e2,e3,e4⟩:=row_grown hA (j:=j) (by omega) u
 rw [Nat.mul_one] at hx
 have hst:(store ((slA v).add j) u).run C.P w = .ok () (w.setCell ((slA v).add j) u):=by
  obtain ⟨u0,hu0⟩:=Option.isSome_iff_exists.1 e3
  rw [run_store _ _ _ _ _ h1,hu0,e4];rfl
 have hadd:∀ a:Addr,a.add 0=a:=fun a=>by simp [Addr.add]
 have hrun:(execOp a.eval ⟨none,.store t x y,ty,pos,aft,g⟩).run C.P w = .ok .skip (w.setCell ((slA v).add j) u):=by
  simp only [execOp,opv_eval hs hx,opv_eval hs hy,Instr.storeAt,Instr.sureAddr,storeVar,Sem.run_bind,Sem.run_pure,Result.andThen_ok,run_sizeOf_of hs1,hu]
  simp [storeCells,hst,hadd]
 simp only [Oper.wp,hrun,Oper.upon]
 refine hK _ _ (h _ _ ?_)
 have hlt:i<own.length:=(List.getElem?_eq_some_iff.1 hi).1
 have hup:=HW.update (own2:=[]) (A':=row v E 1 n (cs.set j u)) hf hh hal hlt e2 (HeapAt.one (row_of e1)) (fun k b hb=>.inl ((hA.2 b).2 hb.2))
 rw [List.append_nil] at hup
 exact hs.put hup (d:=none) (fun i hi=>by cases hi) undef
end eff2
structure SimF (C:Cx) (sl:List (Nat × Value)) (a:Act):Prop where
 size:a.tmps.size=C.N
 defers:a.defers=[]
 slot:∀ i v,get sl i=some v→a.tmps.getD i undef=v
theorem SimF.sim {C:Cx} {sl:List (Nat × Value)} {own:List Asn} {a:Act} {w:World} (h:SimF C sl a) (hw:HW C own w):Sim C ⟨sl,own⟩ a w:=⟨h.size,h.defers,h.slot,hw⟩
theorem Sim.simF {C:Cx} {sl:List (Nat × Value)} {own:List Asn} {a:Act} {w:World} (h:Sim C ⟨sl,own⟩ a w):SimF C sl a:=⟨h.size,h.defers,h.slot⟩
theorem SimF.put {C:Cx} {sl:List (Nat × Value)} {a:Act} (h:SimF C sl a) {d:Nat} (hd:Nat.blt d C.N=true) (v:Value):SimF C ((d,v) :: sl) (a.put (some d) v):=by
 refine ⟨by simp [Act.put,h.size],h.defers,fun j u hj=>?_⟩
 simp only [get] at hj
 have hi:d<a.tmps.size:=by rw [h.size];simpa [Nat.blt_eq] using hd
 simp only [Act.put]
 split at hj
 ·rename_i e;subst e
  simp only [Option.some.injEq] at hj
  subst hj
  simp [hi]
 ·rename_i e
  have:=h.slot j u hj
  simp only [Array.getD_eq_getD_getElem?] at this ⊢
  rw [Array.getElem?_setIfInBounds,if_neg e]
  exact this
theorem wanted_of_GrdF {C:Cx} {sl:List (Nat × Value)} {a:Act} (hs:SimF C sl a) {ops:Array Oper} {o:Oper} (hg:Grd ops sl o.guard):Region.wanted o (yielded ops a.tmps)=true:=
 wanted_of_Grd (C:=⟨C.P,C.N,default,fun _=>False⟩) (st:=⟨sl,[]⟩) (w:=default) ⟨hs.size,hs.defers,hs.slot,⟨FrameX.refl _ _,_,HeapAt.nil _,fun _ _ h=>h.elim⟩⟩ hg
theorem unwanted_of {C:Cx} {sl:List (Nat × Value)} {a:Act} (hs:SimF C sl a) {ops:Array Oper} {d:Nat} {op:Op} {ty:TypeId} {pos:String} {aft:Array Edge} {j:Nat} {want:Bool} {gd:Nat} {gv:Value}
  (h1:(ops[j]?).bind (·.dst)=some gd) (h2:get sl gd=some gv) (h3:NotB gv want):Region.wanted (⟨some d,op,ty,pos,aft,some (j,want)⟩:Oper) (yielded ops a.tmps)=false:=by
 have h4:=hs.slot gd _ h2
 cases ho:ops[j]? with
 | none=>simp [ho] at h1
 | some o'=>
  simp only [ho,Option.bind_some] at h1
  simp only [Array.getD_eq_getD_getElem?] at h4
  simp only [Region.wanted,yielded,ho,Option.bind_some,h1]
  cases hq:a.tmps[gd]? with
  | none=>simp [hq] at h4 ⊢
  | some u=>
   simp [hq] at h4
   subst h4
   cases u <;> simp [NotB] at h3 ⊢
   subst h3
   cases want <;> simp
def QK (C:Cx) (st:St) (K:Act→Prop):Prop:=∀ a,SimF C st.sl a→K a
section quiet
variable {C : Cx} {sl : List (Nat × Value)} {own : List Asn} {ops : Array Oper} {Qq : Act → Prop} {d : Nat} {op : Op} {ty : TypeId} {pos : String} {aft : Array Edge} {g : Option (Nat × Bool)} {rest : List Oper}
theorem QK.nil (h:QK C ⟨sl,own⟩ Qq):QK C ⟨sl,own⟩ (wpQuiet C.P ops (HW C own) Qq []):=fun a hs=>wpQuiet_nil (h a hs)
theorem QK.val (v:Value) (hy:Yl C ⟨sl,own⟩ ⟨some d,op,ty,pos,aft,g⟩ v) (hg:Grd ops sl g) (hd:Nat.blt d C.N=true) (h:QK C ⟨(d,v) :: sl,own⟩ (wpQuiet C.P ops (HW C own) Qq rest)) :
  QK C ⟨sl,own⟩ (wpQuiet C.P ops (HW C own) Qq (⟨some d,op,ty,pos,aft,g⟩ :: rest)):=by
 intro a hs
 refine wpQuiet_step fun K hK=>?_
 rw [if_pos (wanted_of_GrdF hs hg)]
 refine ⟨v,fun w hw=>?_,hK _ (h _ (hs.put hd v))⟩
 unfold Oper.quietAt
 rw [hy a w (hs.sim hw)]
 exact ⟨rfl,rfl⟩
theorem QK.pass {j:Nat} {want:Bool} {gd:Nat} {gv:Value} (h1:(ops[j]?).bind (·.dst)=some gd) (h2:get sl gd=some gv) (h3:NotB gv want) (hd:Nat.blt d C.N=true) (h:QK C ⟨(d,undef) :: sl,own⟩ (wpQuiet C.P ops (HW C own) Qq rest)) :
  QK C ⟨sl,own⟩ (wpQuiet C.P ops (HW C own) Qq (⟨some d,op,ty,pos,aft,some (j,want)⟩ :: rest)):=by
 intro a hs
 refine wpQuiet_step fun K hK=>?_
 rw [unwanted_of hs h1 h2 h3]
 simp only [Bool.false_eq_true,if_false]
 exact hK _ (h _ (hs.put hd undef))
theorem QK.call (v:Value) {f:FuncId} {xs:List Operand} {tys:Array TypeId} {vs:List Value} {φ:Value→List Asn→Prop} (hf:CallOk C.P f) (hx:opvs ⟨sl,own⟩ xs=some vs) (hspec:∀ w,HW C own w→CallS C.P f vs w φ) (hv:∀ u own',φ u own'→u=v) (hg:Grd ops sl g) (hd:Nat.blt d C.N=true)
  (h:QK C ⟨(d,v) :: sl,own⟩ (wpQuiet C.P ops (HW C own) Qq rest)):QK C ⟨sl,own⟩ (wpQuiet C.P ops (HW C own) Qq (⟨some d,.call ⟨.value (.func f),xs.toArray,tys⟩,ty,pos,aft,g⟩ :: rest)):=by
 intro a hs
 refine wpQuiet_step fun K hK=>?_
 rw [if_pos (wanted_of_GrdF hs hg)]
 refine ⟨v,fun w hw=>?_,hK _ (h _ (hs.put hd v))⟩
 unfold Oper.quietAt
 rw [run_call (hs.sim hw) hf hx]
 refine ⟨rfl,(hspec w hw).mono ?_⟩
 rintro e w' ⟨u,own',hφ,rfl,hx',Fs,hh,hin⟩
 rw [hv u own' hφ]
 exact ⟨rfl,(hw.push hx' hh (fun j b hb=>(hin j b hb).resolve_left id)).take⟩
theorem QK.splitB {g:Nat} {b:Bool} {K:Act→Prop} (hx:get sl g=some (.bool b)) (h1:b=true→QK C ⟨sl,own⟩ K) (h2:b=false→QK C ⟨sl,own⟩ K):QK C ⟨sl,own⟩ K:=by
 cases b
 ·exact h2 rfl
 ·exact h1 rfl
theorem AK.quiet {Q:Exit→Act→World→Prop} {id:Nat} {l:List Oper} (hm:C.P.follows .mixedOrders=true) (hB:Region.lexB .any l.toArray=true)
  (h:QK C ⟨sl,own⟩ (wpQuiet C.P l.toArray (HW C own) (fun a'=>∀ w',HW C own w'→Q .normal a' w') l)):AK C ⟨sl,own⟩ ((Code.region id l.toArray true).wp C.P Q):=by
 intro a w hs
 refine wp_region_quiet (C:=HW C own) hm hB ?_ (by simpa using h a hs.simF)
 have:=hs.world.push (w':={ w with drawn:=w.drawn+1 }) (own2:=[]) ⟨rfl,rfl,rfl,Nat.le_refl _,fun _ _ _=>rfl,Nat.le_succ _⟩ (HeapAt.nil _) (fun _ _ h=>h.elim)
 simpa using this
theorem QK.fin {K:Act→World→Prop} (h:AK C ⟨sl,own⟩ K):QK C ⟨sl,own⟩ (fun a'=>∀ w',HW C own w'→K a' w'):=fun a hs w' hw=>h a w' (hs.sim hw)
end quiet
theorem AK.splitB {C:Cx} {sl:List (Nat × Value)} {own:List Asn} {g:Nat} {b:Bool} {K:Act→World→Prop} (hx:get sl g=some (.bool b)) (h1:b=true→AK C ⟨sl,own⟩ K) (h2:b=false→AK C ⟨sl,own⟩ K):AK C ⟨sl,own⟩ K:=by
 cases b
 ·exact h2 rfl
 ·exact h1 rfl
def SK (C:Cx) (st:St) (K:Act→Prop):Prop:=∀ a,SimF C st.sl a→K a
section still
variable {C : Cx} {sl : List (Nat × Value)} {own : List Asn} {ops : Array Oper} {Qq : Act → Prop} {d : Nat} {op : Op} {ty : TypeId} {pos : String} {aft : Array Edge} {g : Option (Nat × Bool)} {rest : List Oper} {w : World}
theorem SK.nil (h:SK C ⟨sl,own⟩ Qq):SK C ⟨sl,own⟩ (wpStill C.P ops w Qq []):=fun a hs=>wpStill_nil (h a hs)
theorem SK.val (hw:HW C own w) (v:Value) (hy:Yl C ⟨sl,own⟩ ⟨some d,op,ty,pos,aft,g⟩ v) (hg:Grd ops sl g) (hd:Nat.blt d C.N=true) (h:SK C ⟨(d,v) :: sl,own⟩ (wpStill C.P ops w Qq rest)) :
  SK C ⟨sl,own⟩ (wpStill C.P ops w Qq (⟨some d,op,ty,pos,aft,g⟩ :: rest)):=by
 intro a hs
 refine wpStill_step fun K hK=>?_
 rw [if_pos (wanted_of_GrdF hs hg)]
 unfold Oper.still
 rw [hy a w (hs.sim hw)]
 exact ⟨rfl,hK _ (h _ (hs.put hd v))⟩
theorem AK.stillTail {Q:Exit→Act→World→Prop} {id:Nat} {l:List Oper} (n:Nat) (hm:C.P.follows .mixedOrders=true) (hB:Region.lexTailB .any l.toArray n=true)
  (h:∀ w,HW C own w→SK C ⟨sl,own⟩ (wpStill C.P l.toArray w (fun a'=>wpList C.P l.toArray Q (l.drop n) a' w) (l.take n))):AK C ⟨sl,own⟩ ((Code.region id l.toArray true).wp C.P Q):=by
 intro a w hs
 refine wp_region_still_tail n hm hB (h _ ?_ a hs.simF)
 have:=hs.world.push (w':={ w with drawn:=w.drawn+1 }) (own2:=[]) ⟨rfl,rfl,rfl,Nat.le_refl _,fun _ _ _=>rfl,Nat.le_succ _⟩ (HeapAt.nil _) (fun _ _ h=>h.elim)
 simpa using this
theorem SK.fin {K:Act→World→Prop} (hw:HW C own w) (h:AK C ⟨sl,own⟩ K):SK C ⟨sl,own⟩ (fun a'=>K a' w):=fun a hs=>h a w (hs.sim hw)
end still
section picks
variable {C : Cx} {sl : List (Nat × Value)} {own : List Asn} {dst : Option Nat} {ty : TypeId} {pos : String} {aft : Array Edge} {g : Option (Nat × Bool)}
theorem Yl.pickT {c x y:Operand} {b:Bool} {u:Value} (hc:opv ⟨sl,own⟩ c=some (.bool b)) (hb:b=true) (hx:opv ⟨sl,own⟩ x=some u):Yl C ⟨sl,own⟩ ⟨dst,.pick c x y,ty,pos,aft,g⟩ u:=
 Yl.pick hc (by subst hb;exact hx)
theorem Yl.pickF {c x y:Operand} {b:Bool} {u:Value} (hc:opv ⟨sl,own⟩ c=some (.bool b)) (hb:b=false) (hx:opv ⟨sl,own⟩ y=some u):Yl C ⟨sl,own⟩ ⟨dst,.pick c x y,ty,pos,aft,g⟩ u:=
 Yl.pick hc (by subst hb;exact hx)
end picks
def RdI (w:World) (v:Value) (xs:List Int):Prop:=Rd (fun _=>¬ False) w v 1 xs.length (xs.map (Value.int .i64))
theorem AK.condD {C:Cx} {st:St} {c:Operand} {x y:Code} {Q:Exit→Act→World→Prop} {p:Prop} [Decidable p] (hc:opv st c=some (.bool (decide p))) (hx:p→AK C st (x.wp C.P Q)) (hy:¬ p→AK C st (y.wp C.P Q)) :
 AK C st ((Code.cond c x y).wp C.P Q):=AK.cond hc (fun h=>hx (of_decide_eq_true h)) (fun h=>hy (of_decide_eq_false h))
theorem AK.condB {C:Cx} {st:St} {c:Operand} {x y:Code} {Q:Exit→Act→World→Prop} {b:Bool} (hc:opv st c=some (.bool (!b))) (hx:b=false→AK C st (x.wp C.P Q)) (hy:b=true→AK C st (y.wp C.P Q)) :
 AK C st ((Code.cond c x y).wp C.P Q):=AK.cond hc (fun h=>hx (by simpa using h)) (fun h=>hy (by simpa using h))
theorem SlLe.nil {sl:List (Nat × Value)}:SlLe sl []:=trivial
theorem SlLe.cons {sl l:List (Nat × Value)} {i:Nat} {v:Value} (h:Sx.get sl i=some v) (h':SlLe sl l):SlLe sl ((i,v) :: l):=⟨h,h'⟩
theorem slI {sl:List (Nat × Value)} {i:Nat} {k:IntKind} {a b:Int} (h:Sx.get sl i=some (.int k a)) (e:a=b):Sx.get sl i=some (.int k b):=by rw [← e];exact h
theorem slB {sl:List (Nat × Value)} {i:Nat} {a b:Bool} (h:Sx.get sl i=some (.bool a)) (e:a=b):Sx.get sl i=some (.bool b):=by rw [← e];exact h
theorem take_snocD {α:Type} (d:α) (xs:List α) (k:Nat) (h:k<xs.length):xs.take (k+1)=xs.take k++[xs.getD k d]:=by
 rw [List.getD_eq_getElem?_getD,List.getElem?_eq_getElem h,Option.getD_some,List.take_append_getElem]
theorem AK.condNe {C:Cx} {st:St} {c:Operand} {x y:Code} {Q:Exit→Act→World→Prop} {p:Prop} [Decidable p] (hc:opv st c=some (.bool (decide (¬ p)))) (hx:¬ p→AK C st (x.wp C.P Q)) (hy:p→AK C st (y.wp C.P Q)) :
 AK C st ((Code.cond c x y).wp C.P Q):=AK.condD hc hx (fun h=>hy (Decidable.not_not.1 h))
theorem AK.store1e {C:Cx} {sl:List (Nat × Value)} {own:List Asn} {ops:Array Oper} {Q:Exit→Act→World→Prop} {ty:TypeId} {pos:String} {aft:Array Edge} {g:Option (Nat × Bool)} {rest:List Oper} (i:Nat) {t E:TypeId} {x y:Operand} {v u:Value} {n j:Nat} {cs cs':List Value} (hi:own[i]? = some (row v E 1 n cs)) (hs1:(C.P.info? t).map (·.size)=some 1) (hx:opv ⟨sl,own⟩ x=some (.pointer (some ((slA v).add (j * 1))))) (hy:opv ⟨sl,own⟩ y=some u)
 (hu:u.cells = #[u]) (h1:u.oneCell'=true) (hj:j<n) (hcs:cs.set j u=cs') (hg:Grd ops sl g) (h:AK C ⟨sl,own.set i (row v E 1 n cs')⟩ (wpList C.P ops Q rest)) :
 AK C ⟨sl,own⟩ (wpList C.P ops Q (⟨none,.store t x y,ty,pos,aft,g⟩ :: rest)):=AK.store1 i hi hs1 hx hy hu h1 hj hg (by rw [hcs];exact h)
theorem fill_set {α:Type} (f:α→Value) (A:List α) (z c:α) (n k:Nat) (hA:A.length=k) (hk:k<n):((A++List.replicate (n - k) z).map f).set k (f c)=(((A++[c])++List.replicate (n - (k+1)) z)).map f:=by
 rw [← List.map_set,List.set_append_right _ _ (by omega),hA,Nat.sub_self]
 rw [show n - k=(n - (k+1))+1 from by omega,List.replicate_succ]
 simp
theorem RdI.own {C:Cx} {own:List Asn} {v:Value} {E:TypeId} {xs:List Int} {w:World} (i:Nat) (hw:HW C own w) (hi:own[i]? = some (row v E 1 xs.length (xs.map (Value.int .i64)))):RdI w v xs:=by
 have:=RdS.own (C:=C) i hi w hw
 exact this.mono fun b _ _=>⟨id,rfl⟩
theorem AK.knownT {C:Cx} {sl:List (Nat × Value)} {own:List Asn} {g:Nat} {b:Bool} {K:Act→World→Prop} (hx:get sl g=some (.bool b)) (hb:b=true) (h1:b=true→AK C ⟨sl,own⟩ K):AK C ⟨sl,own⟩ K:=h1 hb
theorem AK.knownF {C:Cx} {sl:List (Nat × Value)} {own:List Asn} {g:Nat} {b:Bool} {K:Act→World→Prop} (hx:get sl g=some (.bool b)) (hb:b=false) (h1:b=false→AK C ⟨sl,own⟩ K):AK C ⟨sl,own⟩ K:=h1 hb
end Go.Sx
namespace Go.Sx
open Go.RowKit
section maps
variable {α β : Type} [DecidableEq α]
def fidx (a:α):List α→Option Nat
 | []=>none
 | b :: l=>if a=b then some 0 else (fidx a l).map (· + 1)
def mget (m:List (α × β)) (a:α):Option β:=match m with
 | []=>none
 | (b,v) :: l=>if a=b then some v else mget l a
def mset (m:List (α × β)) (a:α) (v:β):List (α × β):=match m with
 | []=>[(a,v)]
 | (b,u) :: l=>if a=b then (a,v) :: l else (b,u) :: mset l a v
theorem mget_mset (m:List (α × β)) (a b:α) (v:β):mget (mset m a v) b=if b=a then some v else mget m b:=by
 induction m with
 | nil=>simp [mset,mget]
 | cons p m ih=>
  obtain ⟨c,u⟩:=p
  simp only [mset]
  by_cases h:a=c
  ·subst h
   simp only [if_true,mget]
   by_cases h2:b=a <;> simp [h2]
  ·simp only [h,if_false,mget]
   by_cases h2:b=c
   ·subst h2;simp [Ne.symm h]
   ·simp only [h2,if_false];exact ih
structure KeyL (P:Program) (kt:TypeId) (fk:α→Value):Prop where
 find:∀ (a:α) (es:List MapEntry) (ks:List α) (w:World),es.map (·.key)=ks.map fk→(Instr.findKey kt (fk a) es).run P w = .ok ((fidx a ks).bind fun i=>(es[i]?).map fun e=>(i,e.val)) w
 check:∀ (e:Bool) (a:α) (w:World),(Instr.checkKey e 10000 kt (fk a)).run P w = .ok () w
 same:∀ a:α,Instr.sameBits 10000 (fk a) (fk a)=true
def mapA (b:Nat) (kvs:List (Value × Value)):Asn where
 holds w F:=(∃ es clock,w.heap[b]? = some (.map es clock)∧es.toList.map (fun e=>(e.key,e.val))=kvs)∧∀ c,F c↔c=b
 loc:=by
  rintro w w' F ⟨⟨es,clock,h1,h2⟩,hF⟩ hb
  exact ⟨⟨es,clock,by rw [hb b ((hF b).2 rfl)];exact h1,h2⟩,hF⟩
 lt:=by
  rintro w F ⟨⟨es,clock,h1,h2⟩,hF⟩ c hc
  rw [(hF c).1 hc]
  exact (Array.getElem?_eq_some_iff.1 h1).1
def mkv (fk:α→Value) (fv:β→Value) (m:List (α × β)):List (Value × Value):=m.map fun p=>(fk p.1,fv p.2)
theorem fidx_get (m:List (α × β)) (a:α) (fv:β→Value) (es:List MapEntry) (hv:es.map (·.val)=m.map (fun p=>fv p.2)) :
  ((fidx a (m.map (·.1))).bind fun i=>(es[i]?).map fun e=>(i,e.val)).map (·.2)=(mget m a).map fv:=by
 induction m generalizing es with
 | nil=>simp [fidx,mget]
 | cons p m ih=>
  obtain ⟨c,u⟩:=p
  cases es with
  | nil=>simp at hv
  | cons e es=>
   simp at hv
   simp only [List.map_cons,fidx,mget]
   by_cases h:a=c
   ·simp [h,hv.1]
   ·simp only [h,if_false]
    rw [← ih es (by simpa using hv.2)]
    cases fidx a (m.map (·.1)) <;> simp [Function.comp_def]
theorem fidx_none (m:List (α × β)) (a:α):fidx a (m.map (·.1))=none↔mget m a=none:=by
 induction m with
 | nil=>simp [fidx,mget]
 | cons p m ih=>
  obtain ⟨c,u⟩:=p
  simp only [List.map_cons,fidx,mget]
  by_cases h:a=c
  ·simp [h]
  ·simp [h,ih]
theorem fidx_set (m:List (α × β)) (a:α) (v:β) (i:Nat) (h:fidx a (m.map (·.1))=some i):mset m a v=m.set i (a,v)∧i<m.length∧(m[i]?).map (·.1)=some a:=by
 induction m generalizing i with
 | nil=>simp [fidx] at h
 | cons p m ih=>
  obtain ⟨c,u⟩:=p
  simp only [List.map_cons,fidx] at h
  by_cases hc:a=c
  ·simp [hc] at h;subst h;simp [mset,hc]
  ·simp only [hc,if_false,Option.map_eq_some_iff] at h
   obtain ⟨j,hj,rfl⟩:=h
   obtain ⟨h1,h2,h3⟩:=ih j hj
   rw [List.getElem?_eq_getElem h2] at h3
   simp at h3
   simp [mset,hc,h1,h2,h3]
theorem mset_none (m:List (α × β)) (a:α) (v:β) (h:mget m a=none):mset m a v=m++[(a,v)]:=by
 induction m with
 | nil=>rfl
 | cons p m ih=>
  obtain ⟨c,u⟩:=p
  simp only [mget] at h
  by_cases hc:a=c
  ·simp [hc] at h
  ·simp only [hc,if_false] at h;simp [mset,hc,ih h]
def MapS (C:Cx) (own:List Asn) (v:Value) (kvs:List (Value × Value)):Prop:=
 ∀ w,HW C own w→(v = .map none∧kvs=[])∨∃ b es clock,v = .map (some b)∧w.heap[b]? = some (.map es clock)∧es.toList.map (fun e=>(e.key,e.val))=kvs
theorem MapS.own {C:Cx} {own:List Asn} {b:Nat} {kvs:List (Value × Value)} (i:Nat) (hi:own[i]? = some (mapA b kvs)):MapS C own (.map (some b)) kvs:=fun w hw=>by
 obtain ⟨_,Fs,hh,_⟩:=hw
 obtain ⟨⟨es,clock,h1,h2⟩,_⟩:=hh.at_ i _ hi
 exact .inr ⟨b,es,clock,rfl,h1,h2⟩
theorem MapS.nil {C:Cx} {own:List Asn}:MapS C own (.map none) []:=fun w hw=>.inl ⟨rfl,rfl⟩
section ops
variable {C : Cx} {sl : List (Nat × Value)} {own : List Asn} {dst : Option Nat} {ty : TypeId} {pos : String} {aft : Array Edge} {g : Option (Nat × Bool)}
omit [DecidableEq α] in
theorem mkv_split {fk:α→Value} {fv:β→Value} {m:List (α × β)} {es:List MapEntry} (h:es.map (fun e=>(e.key,e.val))=mkv fk fv m):es.map (·.key)=(m.map (·.1)).map fk∧es.map (·.val)=m.map (fun p=>fv p.2):=by
 have h1:=congrArg (List.map Prod.fst) h
 have h2:=congrArg (List.map Prod.snd) h
 simp [mkv,Function.comp_def] at h1 h2 ⊢
 exact ⟨h1,h2⟩
theorem run_lookup_kv {P:Program} {w:World} {t kt et:TypeId} {v:Value} {z:Value} {sz by_:Nat} {fk:α→Value} {fv:β→Value} {m:List (α × β)} (ht:P.underlying t=some (.map kt et)) (K:KeyL P kt fk) (hz:ElT P et z sz by_)
  (hm:(v = .map none∧mkv fk fv m=[])∨∃ b es clock,v = .map (some b)∧w.heap[b]? = some (.map es clock)∧es.toList.map (fun e=>(e.key,e.val))=mkv fk fv m) (a:α) (ok:Bool) :
  (Instr.lookup t v (fk a) ok).run P w = .ok (if ok then .tuple #[((mget m a).map fv).getD z,.bool (mget m a).isSome] else ((mget m a).map fv).getD z) w:=by
 obtain ⟨inf,hi1,hi2,_,_⟩:=hz.inf
 have hzero:(zeroValue et).run P w = .ok z w:=by simp [zeroValue,typeInfo,hi1,hi2]
 have core:∀ (es:Array MapEntry),es.toList.map (fun e=>(e.key,e.val))=mkv fk fv m →
   ∃ r,(Instr.findKey kt (fk a) es.toList).run P w = .ok r w∧((r=none∧mget m a=none)∨∃ i b,r=some (i,fv b)∧mget m a=some b):=by
  intro es hes
  obtain ⟨h1,h2⟩:=mkv_split hes
  have hf:=K.find a es.toList (m.map (·.1)) w h1
  have hg:=fidx_get m a fv es.toList h2
  refine ⟨_,hf,?_⟩
  cases hx:((fidx a (m.map (·.1))).bind fun i=>(es.toList[i]?).map fun e=>(i,e.val)) with
  | none=>
   rw [hx] at hg
   left
   refine ⟨rfl,?_⟩
   cases h:mget m a <;> simp [h] at hg ⊢
  | some p=>
   obtain ⟨i,u⟩:=p
   rw [hx] at hg
   cases h:mget m a with
   | none=>simp [h] at hg
   | some b=>simp [h] at hg;exact .inr ⟨i,b,by rw [hg],rfl⟩
 rcases hm with ⟨rfl,hm⟩ | ⟨b,es,clock,rfl,hb,hes⟩
 ·obtain ⟨r,hf,hr⟩:=core #[] (by simpa using hm.symm)
  have hc:=K.check true a w
  rcases hr with ⟨rfl,hr⟩ | ⟨i,b,rfl,hr⟩
  ·simp [Instr.lookup,run_underlying ht,hc,hf,hzero,hr]
  ·simp [Instr.lookup,run_underlying ht,hc,hf,hr]
 ·obtain ⟨r,hf,hr⟩:=core es hes
  have hget:(getObj b).run P w = .ok (.map es clock) w:=by simp [getObj,Sem.run,hb]
  have hc:=K.check es.isEmpty a w
  rcases hr with ⟨rfl,hr⟩ | ⟨i,b,rfl,hr⟩
  ·simp [Instr.lookup,run_underlying ht,hget,hc,hf,hzero,hr]
  ·simp [Instr.lookup,run_underlying ht,hget,hc,hf,hr]
theorem Yl.lookup2 {x y:Operand} {t kt et:TypeId} {v z:Value} {sz by_:Nat} {fk:α→Value} {fv:β→Value} {m:List (α × β)} {a:α} (ht:C.P.underlying t=some (.map kt et)) (K:KeyL C.P kt fk) (hz:ElT C.P et z sz by_) (hx:opv ⟨sl,own⟩ x=some v) (hy:opv ⟨sl,own⟩ y=some (fk a))
  (hm:MapS C own v (mkv fk fv m)):Yl C ⟨sl,own⟩ ⟨dst,.lookup t x y true,ty,pos,aft,g⟩ (.tuple #[((mget m a).map fv).getD z,.bool (mget m a).isSome]):=
 fun ac w hs=>by
  have:=run_lookup_kv ht K hz (hm w hs.world) a true
  simp only [execOp,opv_eval hs hx,opv_eval hs hy,Sem.run_bind,this,Result.andThen_ok,Sem.run_pure,if_true]
theorem Yl.lookup2I {x y:Operand} {t kt et:TypeId} {v:Value} {q:IntKind} {sz by_:Nat} {fk:α→Value} {m:List (α × Int)} {a:α} (ht:C.P.underlying t=some (.map kt et)) (K:KeyL C.P kt fk) (hz:ElT C.P et (.int q 0) sz by_) (hx:opv ⟨sl,own⟩ x=some v) (hy:opv ⟨sl,own⟩ y=some (fk a))
  (hm:MapS C own v (mkv fk (Value.int q) m)):Yl C ⟨sl,own⟩ ⟨dst,.lookup t x y true,ty,pos,aft,g⟩ (.tuple #[.int q ((mget m a).getD 0),.bool (mget m a).isSome]):=by
 have:=Yl.lookup2 (dst:=dst) (ty:=ty) (pos:=pos) (aft:=aft) (g:=g) ht K hz hx hy hm
 cases h:mget m a <;> simpa [h] using this
omit [DecidableEq α] in
theorem Yl.lenM {x:Operand} {t kt et:TypeId} {v:Value} {fk:α→Value} {fv:β→Value} {m:List (α × β)} (ht:C.P.underlying t=some (.map kt et)) (hx:opv ⟨sl,own⟩ x=some v) (hm:MapS C own v (mkv fk fv m)) :
  Yl C ⟨sl,own⟩ ⟨dst,.call ⟨.builtin .len,#[x],#[t]⟩,ty,pos,aft,g⟩ (.int .i64 (m.length:Int)):=
 fun a w hs=>by
  rcases hm w hs.world with ⟨rfl,h⟩ | ⟨b,es,clock,rfl,hb,hes⟩
  ·have:m=[]:=by simpa [mkv] using h
   subst this
   simp [execOp,resolve,invoke,builtin,opv_eval hs hx,Builtin.len_,run_underlying ht,goInt]
  ·have hget:(getObj b).run C.P w = .ok (.map es clock) w:=by simp [getObj,Sem.run,hb]
   have hl:es.size=m.length:=by have:=congrArg List.length hes;simpa [mkv] using this
   simp [execOp,resolve,invoke,builtin,opv_eval hs hx,Builtin.len_,run_underlying ht,goInt,hget,hl]
end ops
section eff
variable {C : Cx} {sl : List (Nat × Value)} {own : List Asn} {ops : Array Oper} {Q : Exit → Act → World → Prop} {ty : TypeId} {pos : String} {aft : Array Edge} {g : Option (Nat × Bool)} {rest : List Oper}
theorem AK.makeMap {d:Nat} {t:TypeId} (hg:Grd ops sl g) (hd:Nat.blt d C.N=true)
  (h:∀ b,AK C ⟨(d,.map (some b)) :: sl,own++[mapA b []]⟩ (wpList C.P ops Q rest)):AK C ⟨sl,own⟩ (wpList C.P ops Q (⟨some d,.makeMap t none,ty,pos,aft,g⟩ :: rest)):=by
 intro a w hs
 refine wpList_step fun K hK=>?_
 rw [if_pos (wanted_of_Grd hs hg)]
 have hrun:(execOp a.eval ⟨some d,.makeMap t none,ty,pos,aft,g⟩).run C.P w = .ok (.value (.map (some w.heap.size))) (w.alloc (.map #[] 0)):=by
  simp only [execOp,Option.map_none,Sem.run_bind,run_makeMap,Result.andThen_ok,Sem.run_pure]
 simp only [Oper.wp,hrun,Oper.upon]
 refine hK _ _ (h w.heap.size _ _ ?_)
 refine hs.put (hs.world.push (own2:=[mapA w.heap.size []]) (.ofGrown (World.grownBy_alloc w _ none) (by simp) (Nat.le_refl _)) (HeapAt.one (F:=fun c=>c=w.heap.size) ⟨⟨#[],0,heap_alloc_new w _,rfl⟩,fun _=>Iff.rfl⟩) (fun j b hb=>by rw [hb.2];exact Nat.le_refl _)) (d:=some d) (fun i hi=>by cases hi;simpa [Nat.blt_eq] using hd) _
theorem setObj_old {w:World} {b k:Nat} {o:Obj} (h:k ≠ b):({ w with heap:=w.heap.setIfInBounds b o }:World).heap[k]? = w.heap[k]?:=by
 simp [Array.getElem?_setIfInBounds,Ne.symm h]
theorem AK.mapSet (i:Nat) {t kt et:TypeId} {x y z:Operand} {b:Nat} {fk:α→Value} {fv:β→Value} {m:List (α × β)} {a:α} {v:β} (hi:own[i]? = some (mapA b (mkv fk fv m))) (ht:C.P.underlying t=some (.map kt et)) (K:KeyL C.P kt fk) (hx:opv ⟨sl,own⟩ x=some (.map (some b))) (hy:opv ⟨sl,own⟩ y=some (fk a)) (hz:opv ⟨sl,own⟩ z=some (fv v)) (hg:Grd ops sl g)
  (h:AK C ⟨sl,own.set i (mapA b (mkv fk fv (mset m a v)))⟩ (wpList C.P ops Q rest)):AK C ⟨sl,own⟩ (wpList C.P ops Q (⟨none,.mapUpdate t x y z,ty,pos,aft,g⟩ :: rest)):=by
 intro ac w hs
 refine wpList_step fun K' hK=>?_
 rw [if_pos (wanted_of_Grd hs hg)]
 obtain ⟨hf,Fs,hh,hal⟩:=hs.world
 have hA:=hh.at_ i _ hi
 obtain ⟨⟨es,clock,hb,hes⟩,hF⟩:=hA
 obtain ⟨h1,h2⟩:=mkv_split hes
 have hfind:=K.find a es.toList (m.map (·.1)) w h1
 have hget:(getObj b).run C.P w = .ok (.map es clock) w:=by simp [getObj,Sem.run,hb]
 have hset:∀ o,(setObj b o).run C.P w = .ok () { w with heap:=w.heap.setIfInBounds b o }:=fun o=>by simp [setObj,Sem.run,hb]
 have hblt:b<w.heap.size:=(Array.getElem?_eq_some_iff.1 hb).1
 have key:∃ es' clock',(Instr.mapUpdate t (.map (some b)) (fk a) (fv v)).run C.P w = .ok () { w with heap:=w.heap.setIfInBounds b (.map es' clock') }∧es'.toList.map (fun e=>(e.key,e.val))=mkv fk fv (mset m a v):=by
  simp only [Instr.mapUpdate,Sem.run_bind,run_underlying ht,Result.andThen_ok,hget,K.check,hfind]
  cases hi':fidx a (m.map (·.1)) with
  | none=>
   refine ⟨es.push { key:=fk a,val:=fv v,born:=clock },clock+1,?_,?_⟩
   ·simp [hset]
   ·rw [mset_none m a v ((fidx_none m a).1 hi')]
    simp [mkv] at hes ⊢
    exact hes
  | some j=>
   obtain ⟨e1,e2,e3⟩:=fidx_set m a v j hi'
   have hlen:es.size=m.length:=by have:=congrArg List.length hes;simpa [mkv] using this
   have hj:j<es.size:=by omega
   have hkey:es[j].key=fk a:=by
    have:=congrArg (fun l=>l[j]?) h1
    simp [List.getElem?_map,hj,e2] at this
    have e3':m[j].1=a:=by simpa [e2] using e3
    rw [this,e3']
   refine ⟨es.modify j fun e=>{ e with key:=fk a,val:=fv v },clock,?_,?_⟩
   ·simp [hj,Instr.keyThatStays,hkey,K.same,hset]
   ·rw [e1]
    apply List.ext_getElem?
    intro k
    have hk:=congrArg (fun l=>l[k]?) hes
    simp only [mkv,List.getElem?_map,Array.getElem?_toList,Array.getElem?_modify,List.getElem?_set] at hk ⊢
    by_cases hkj:j=k
    ·subst hkj
     simp [hj,e2]
    ·simp only [hkj,if_false];exact hk
 obtain ⟨es',clock',hrun,hes'⟩:=key
 have hrun':(execOp ac.eval ⟨none,.mapUpdate t x y z,ty,pos,aft,g⟩).run C.P w = .ok .skip { w with heap:=w.heap.setIfInBounds b (.map es' clock') }:=by
  simp only [execOp,opv_eval hs hx,opv_eval hs hy,opv_eval hs hz,Sem.run_bind,hrun,Result.andThen_ok,Sem.run_pure]
 simp only [Oper.wp,hrun',Oper.upon]
 refine hK _ _ (h _ _ ?_)
 have hlt:i<own.length:=(List.getElem?_eq_some_iff.1 hi).1
 have hup:=HW.update (w':={ w with heap:=w.heap.setIfInBounds b (.map es' clock') }) (own2:=[]) (A':=mapA b (mkv fk fv (mset m a v))) hf hh hal hlt
  ⟨rfl,rfl,rfl,by simp,fun k _ hk=>setObj_old (fun e=>hk (by rw [e];exact (hF b).2 rfl)),Nat.le_refl _⟩
  (HeapAt.one (F:=fun c=>c=b) ⟨⟨es',clock',by simp [hblt],hes'⟩,fun _=>Iff.rfl⟩) (fun k c hc=>.inl ((hF c).2 hc.2))
 rw [List.append_nil] at hup
 exact hs.put hup (d:=none) (fun i hi=>by cases hi) undef
end eff
theorem keyInt {P:Program} {kt:TypeId} {q:IntKind} (hk:P.underlying kt=some (.int q)):KeyL P kt (Value.int q) where
 find:=by
  intro a es ks w h
  have now:∀ (es:List MapEntry) (ks:List Int) (j:Nat),es.map (·.key)=ks.map (Value.int q)→Instr.findNow (.int q) (.int q a) es j=some ((fidx a ks).bind fun i=>(es[i]?).map fun e=>(j+i,e.val)):=by
   intro es
   induction es with
   | nil=>intro ks j h;cases ks with
    | nil=>simp [Instr.findNow,fidx]
    | cons k ks=>simp at h
   | cons e es ih=>
    intro ks j h
    cases ks with
    | nil=>simp at h
    | cons k ks=>
     simp at h
     simp only [Instr.findNow,h.1,Instr.sameNow,if_true,fidx]
     by_cases hak:a=k
     ·simp [hak]
     ·have:(a == k)=false:=by simpa using hak
      simp only [this,hak,if_false]
      rw [ih ks (j+1) (by simpa using h.2)]
      cases fidx a ks with
      | none=>simp
      | some i=>
       simp only [Option.map_some,Option.bind_some,List.getElem?_cons_succ]
       cases es[i]? with
       | none=>rfl
       | some e'=>simp;omega
  simp only [Instr.findKey,Sem.run_bind,run_underlying hk,Result.andThen_ok,now es ks 0 h]
  simp
 check:=by
  intro e a w
  have:∀ n,(Instr.checkKey e (n+1) kt (Value.int q a)).run P w = .ok () w:=fun n=>by simp [Instr.checkKey,run_underlying hk]
  exact this 9999
 same:=by
  intro a
  have:∀ n,Instr.sameBits n (Value.int q a) (Value.int q a)=true:=fun n=>by cases n <;> simp [Instr.sameBits]
  exact this 10000
end maps
end Go.Sx
namespace Go.Sx
open Go.RowKit
def box (b:Nat) (E:TypeId) (sz:Nat) (cs:List Value):Asn where
 holds w F:=(w.heap[b]? = some (.cells cs.toArray E (0,0))∧cs.length=sz)∧∀ c,F c↔c=b
 loc:=by
  rintro w w' F ⟨⟨h1,h2⟩,hF⟩ hb
  exact ⟨⟨by rw [hb b ((hF b).2 rfl)];exact h1,h2⟩,hF⟩
 lt:=by
  rintro w F ⟨⟨h1,h2⟩,hF⟩ c hc
  rw [(hF c).1 hc]
  exact (Array.getElem?_eq_some_iff.1 h1).1
def BoxS (C:Cx) (own:List Asn) (b:Nat) (cs:List Value):Prop:=∀ w,HW C own w→∃ E,w.heap[b]? = some (.cells cs.toArray E (0,0))
theorem BoxS.own {C:Cx} {own:List Asn} {b:Nat} {E:TypeId} {sz:Nat} {cs:List Value} (i:Nat) (hi:own[i]? = some (box b E sz cs)):BoxS C own b cs:=fun w hw=>by
 obtain ⟨_,Fs,hh,_⟩:=hw
 exact ⟨E,(hh.at_ i _ hi).1.1⟩
section boxes
variable {C : Cx} {sl : List (Nat × Value)} {own : List Asn} {dst : Option Nat} {ty : TypeId} {pos : String} {aft : Array Edge} {g : Option (Nat × Bool)}
def ArrT (P:Program) (t e n sz:Nat):Prop:=P.underlying t=some (.array n e)∧(P.info? e).map (·.size)=some sz
theorem Yl.idxArr {x i:Operand} {t e n sz b off:Nat} (k:Nat) (ht:ArrT C.P t e n sz) (hx:opv ⟨sl,own⟩ x=some (.pointer (some ⟨b,off,none⟩))) (hi:opv ⟨sl,own⟩ i=some (.int .i64 (k:Int))) (hk:k<n) :
  Yl C ⟨sl,own⟩ ⟨dst,.indexAddr t x i,ty,pos,aft,g⟩ (.pointer (some ⟨b,off+k * sz,none⟩)):=
 fun a w hs=>by
  have hs1:=run_sizeOf_of ht.2 w
  have h0:(0:Int)≤(k:Int)∧(k:Int)<(n:Int):=by omega
  simp only [execOp,opv_eval hs hx,opv_eval hs hi,Instr.indexAt,asIntOf,Sem.run_bind,Sem.run_pure,Result.andThen_ok,run_underlying ht.1,Instr.sureAddr]
  simp [h0.1,h0.2,hs1,Addr.add_lit,run_underlying ht.1,hk]
theorem Yl.idxArrZ {x i:Operand} {t e n sz b off:Nat} {k:Int} (ht:ArrT C.P t e n sz) (hx:opv ⟨sl,own⟩ x=some (.pointer (some ⟨b,off,none⟩))) (hi:opv ⟨sl,own⟩ i=some (.int .i64 k)) (hk:0≤k∧k<n) :
  Yl C ⟨sl,own⟩ ⟨dst,.indexAddr t x i,ty,pos,aft,g⟩ (.pointer (some ⟨b,off+k.toNat * sz,none⟩)):=
 Yl.idxArr k.toNat ht hx (by rw [hi];congr 2;omega) (by omega)
theorem Yl.loadBox {x:Operand} {t b off:Nat} {cs:List Value} {u:Value} (ht:OneT C.P t) (hx:opv ⟨sl,own⟩ x=some (.pointer (some ⟨b,off,none⟩))) (hb:BoxS C own b cs) (hu:cs[off]? = some u) :
  Yl C ⟨sl,own⟩ ⟨dst,.load t x,ty,pos,aft,g⟩ u:=
 fun a w hs=>by
  obtain ⟨E,hb⟩:=hb w hs.world
  have h1:w.cell? ⟨b,off,none⟩ = some u:=by rw [cell_of_row w b off _ E (0,0) hb];simpa using hu
  simp [execOp,opv_eval hs hx,Instr.loadAt,Instr.sureAddr,run_loadVar_one ht h1]
theorem Yl.loadBoxG {x:Operand} {t b off sz:Nat} {cs us:List Value} (ht:AggT C.P t sz) (hx:opv ⟨sl,own⟩ x=some (.pointer (some ⟨b,off,none⟩))) (hb:BoxS C own b cs) (hu:(cs.drop off).take sz=us) (hl:us.length=sz) :
  Yl C ⟨sl,own⟩ ⟨dst,.load t x,ty,pos,aft,g⟩ (.agg us.toArray):=
 fun a w hs=>by
  obtain ⟨E,hb⟩:=hb w hs.world
  have hl':=run_loadCells_list (P:=C.P) (w:=w) ⟨b,off,none⟩ us (fun i u hi=>by
   rw [Addr.add_lit,cell_of_row w b _ _ E (0,0) hb]
   rw [← hu,List.getElem?_take] at hi
   split at hi
   ·rw [List.getElem?_drop] at hi;simpa using hi
   ·cases hi)
  rw [hl] at hl'
  simp only [execOp,opv_eval hs hx]
  simp [Instr.loadAt,Instr.sureAddr,loadVar,run_isAgg_agg ht,run_sizeOf_of ht.2,hl']
def FldT (P:Program) (s f off:Nat):Prop:=∃ fs fd,P.underlying s=some (.struct fs)∧fs[f]? = some fd∧fd.offset=off∧(P.info? fd.type).map (fun i=>decide (i.size=0))=some false
theorem Yl.fieldAddr {x:Operand} {s f b off fo:Nat} (ht:FldT C.P s f fo) (hx:opv ⟨sl,own⟩ x=some (.pointer (some ⟨b,off,none⟩))) :
  Yl C ⟨sl,own⟩ ⟨dst,.fieldAddr s x f,ty,pos,aft,g⟩ (.pointer (some ⟨b,off+fo,none⟩)):=
 fun a w hs=>by
  obtain ⟨fs,fd,h1,h2,h3,h4⟩:=ht
  cases hi:C.P.info? fd.type with
  | none=>simp [hi] at h4
  | some i=>
   simp [hi] at h4
   have hsz:(sizeOf fd.type).run C.P w = .ok i.size w:=by simp [sizeOf,typeInfo,hi]
   simp [execOp,opv_eval hs hx,Instr.fieldAt,run_underlying h1,h2,Instr.sureAddr,fieldPlace,hsz,h4,h3,Addr.add_lit]
theorem Yl.field {x:Operand} {s f:Nat} {cs:List Value} {fs:Array Field} {fd:Field} {u:Value} (h1:C.P.underlying s=some (.struct fs)) (h2:fs[f]? = some fd) (h3:OneT C.P fd.type) (hx:opv ⟨sl,own⟩ x=some (.agg cs.toArray)) (hu:cs[fd.offset]? = some u) :
  Yl C ⟨sl,own⟩ ⟨dst,.field s x f,ty,pos,aft,g⟩ u:=
 fun a w hs=>by
  simp [execOp,opv_eval hs hx,Instr.field,run_underlying h1,h2,asAgg,part,run_isAgg_one h3,hu]
theorem Yl.build {t:Nat} {parts:List (Nat × Operand)} {vs:List Value} {cs:Array Value} (hx:opvs ⟨sl,own⟩ (parts.map (·.2))=some vs) (hb:C.P.built t ((parts.map (·.1)).zip vs)=some cs) :
  Yl C ⟨sl,own⟩ ⟨dst,.build t parts.toArray,ty,pos,aft,g⟩ (.agg cs):=
 fun a w hs=>by
  have he:=opvs_eval hs hx
  have hp:(parts.toArray.map fun x=>(x.1,a.eval x.2))=((parts.map (·.1)).zip vs).toArray:=by
   rw [← he];clear hx he hb
   simp
   induction parts with
   | nil=>rfl
   | cons p l ih=>simp [ih]
  have:=run_build (P:=C.P) w t ((parts.map (·.1)).zip vs).toArray cs (by simpa using hb)
  have hp':(parts.toArray.map fun x=>match x with | (i,x)=>(i,a.eval x))=((parts.map (·.1)).zip vs).toArray:=hp
  simp only [execOp,hp',Sem.run_bind,this,Result.andThen_ok,Sem.run_pure]
end boxes
section boxeff
variable {C : Cx} {sl : List (Nat × Value)} {own : List Asn} {ops : Array Oper} {Q : Exit → Act → World → Prop} {ty : TypeId} {pos : String} {aft : Array Edge} {g : Option (Nat × Bool)} {rest : List Oper}
theorem AK.newBlock {d:Nat} {op:Op} {E sz:Nat} {cs:List Value} (hrun:∀ a w,Sim C ⟨sl,own⟩ a w→(execOp a.eval ⟨some d,op,ty,pos,aft,g⟩).run C.P w = .ok (.value (.pointer (some ⟨w.heap.size,0,none⟩))) (w.alloc (.cells cs.toArray E))) (hl:cs.length=sz) (hg:Grd ops sl g) (hd:Nat.blt d C.N=true)
  (h:∀ b,AK C ⟨(d,.pointer (some ⟨b,0,none⟩)) :: sl,own++[box b E sz cs]⟩ (wpList C.P ops Q rest)):AK C ⟨sl,own⟩ (wpList C.P ops Q (⟨some d,op,ty,pos,aft,g⟩ :: rest)):=by
 intro a w hs
 refine wpList_step fun K hK=>?_
 rw [if_pos (wanted_of_Grd hs hg)]
 simp only [Oper.wp,hrun a w hs,Oper.upon]
 refine hK _ _ (h w.heap.size _ _ ?_)
 refine hs.put (hs.world.push (own2:=[box w.heap.size E sz cs]) (.ofGrown (World.grownBy_alloc w _ none) (by simp) (Nat.le_refl _)) (HeapAt.one (F:=fun c=>c=w.heap.size) ⟨⟨heap_alloc_new w _,hl⟩,fun _=>Iff.rfl⟩) (fun j b hb=>by rw [hb.2];exact Nat.le_refl _)) (d:=some d) (fun i hi=>by cases hi;simpa [Nat.blt_eq] using hd) _
theorem AK.alloc {d E sz by_:Nat} {z:Value} {cs:List Value} (hE:ElT C.P E z sz by_) (hc:z.cells.toList=cs) (hl:cs.length=sz) (hg:Grd ops sl g) (hd:Nat.blt d C.N=true)
  (h:∀ b,AK C ⟨(d,.pointer (some ⟨b,0,none⟩)) :: sl,own++[box b E sz cs]⟩ (wpList C.P ops Q rest)):AK C ⟨sl,own⟩ (wpList C.P ops Q (⟨some d,.alloc E,ty,pos,aft,g⟩ :: rest)):=by
 refine AK.newBlock (fun a w hs=>?_) hl hg hd h
 obtain ⟨inf,hi1,hi2,_,_⟩:=hE.inf
 have hz:(zeroValue E).run C.P w = .ok z w:=by simp [zeroValue,typeInfo,hi1,hi2]
 subst hc
 simp [execOp,Instr.alloc,hz,newVar,newRow]
theorem AK.box_ {d E sz:Nat} {x:Operand} {v:Value} {cs:List Value} (hx:opv ⟨sl,own⟩ x=some v) (hc:v.cells.toList=cs) (hl:cs.length=sz) (hg:Grd ops sl g) (hd:Nat.blt d C.N=true)
  (h:∀ b,AK C ⟨(d,.pointer (some ⟨b,0,none⟩)) :: sl,own++[box b E sz cs]⟩ (wpList C.P ops Q rest)):AK C ⟨sl,own⟩ (wpList C.P ops Q (⟨some d,.box E x,ty,pos,aft,g⟩ :: rest)):=by
 refine AK.newBlock (fun a w hs=>?_) hl hg hd h
 subst hc
 simp [execOp,opv_eval hs hx,Instr.box,newVar,newRow]
theorem AK.storeBox (i:Nat) {t E sz b off m:Nat} {x y:Operand} {v:Value} {cs us cs':List Value} (hi:own[i]? = some (box b E sz cs)) (hs1:(C.P.info? t).map (·.size)=some m) (hx:opv ⟨sl,own⟩ x=some (.pointer (some ⟨b,off,none⟩))) (hy:opv ⟨sl,own⟩ y=some v)
  (hu:v.cells.toList=us) (hm:us.length=m) (h1:one' us) (hfit:off+us.length≤cs.length) (hcs:cs.take off++us++cs.drop (off+us.length)=cs') (hg:Grd ops sl g) (h:AK C ⟨sl,own.set i (box b E sz cs')⟩ (wpList C.P ops Q rest)) :
  AK C ⟨sl,own⟩ (wpList C.P ops Q (⟨none,.store t x y,ty,pos,aft,g⟩ :: rest)):=by
 intro a w hs
 refine wpList_step fun K hK=>?_
 rw [if_pos (wanted_of_Grd hs hg)]
 obtain ⟨hf,Fs,hh,hal⟩:=hs.world
 have hA:=hh.at_ i _ hi
 obtain ⟨⟨hb,hl⟩,hF⟩:=hA
 have hst:(storeCells ⟨b,off,none⟩ us).run C.P w = .ok () (w.setRow b (cs.take off++us++cs.drop (off+us.length)).toArray):=run_storeCells_at C.P b off E us 0 cs.toArray w hb (by simpa using hfit) h1
 have hvs:v.cells.size=m:=by rw [← hm,← hu];simp
 have hrun:(execOp a.eval ⟨none,.store t x y,ty,pos,aft,g⟩).run C.P w = .ok .skip (w.setRow b cs'.toArray):=by
  simp only [execOp,opv_eval hs hx,opv_eval hs hy,Instr.storeAt,Instr.sureAddr,storeVar,Sem.run_bind,Sem.run_pure,Result.andThen_ok,run_sizeOf_of hs1,hu,hvs]
  simp only [ne_eq,not_true_eq_false,if_false,Sem.run_bind,Sem.run_pure,Result.andThen_ok,hst]
  rw [← hcs]
 simp only [Oper.wp,hrun,Oper.upon]
 refine hK _ _ (h _ _ ?_)
 have hlt:i<own.length:=(List.getElem?_eq_some_iff.1 hi).1
 have hl':cs'.length=sz:=by rw [← hcs,← hl];simp;omega
 have hup:=HW.update (w':=w.setRow b cs'.toArray) (own2:=[]) (A':=box b E sz cs') hf hh hal hlt ⟨rfl,rfl,rfl,by simp,fun k _ hk=>setRow_other w b k _ (fun e=>hk (by rw [e];exact (hF b).2 rfl)),Nat.le_refl _⟩
  (HeapAt.one (F:=fun c=>c=b) ⟨⟨setRow_heap w b _ _ E _ hb,hl'⟩,fun _=>Iff.rfl⟩) (fun k c hc=>.inl ((hF c).2 hc.2))
 rw [List.append_nil] at hup
 exact hs.put hup (d:=none) (fun i hi=>by cases hi) undef
theorem take_spl {α:Type} (L us:List α) (a s N:Nat) (hu:us.length=s) (h1:a+s≤N) (h2:N≤L.length):(L.take a++us++L.drop (a+s)).take N=(L.take N).take a++us++(L.take N).drop (a+s):=by
 have e1:(L.take N).take a=L.take a:=by rw [List.take_take,Nat.min_eq_left (by omega)]
 have e3:(L.take a++us++L.drop (a+s)).take N=L.take a++us++(L.drop (a+s)).take (N - (a+s)):=by
  rw [List.take_append,List.take_of_length_le (by simp;omega)]
  congr 2
  simp;omega
 rw [e1,e3,List.drop_take]
theorem AK.storeG (i:Nat) {t E sz:Nat} {x y:Operand} {v u:Value} {n j:Nat} {cs us cs':List Value} (hi:own[i]? = some (row v E sz n cs)) (hs1:(C.P.info? t).map (·.size)=some sz) (hx:opv ⟨sl,own⟩ x=some (.pointer (some ((slA v).add (j * sz))))) (hy:opv ⟨sl,own⟩ y=some u)
  (hu:u.cells.toList=us) (hm:us.length=sz) (h1:one' us) (hj:j<n) (hcs:cs.take (j * sz)++us++cs.drop (j * sz+sz)=cs') (hg:Grd ops sl g) (h:AK C ⟨sl,own.set i (row v E sz n cs')⟩ (wpList C.P ops Q rest)) :
  AK C ⟨sl,own⟩ (wpList C.P ops Q (⟨none,.store t x y,ty,pos,aft,g⟩ :: rest)):=by
 intro a w hs
 refine wpList_step fun K hK=>?_
 rw [if_pos (wanted_of_Grd hs hg)]
 obtain ⟨hf,Fs,hh,hal⟩:=hs.world
 have hA:=hh.at_ i _ hi
 obtain ⟨hown,hF⟩:=hA
 rcases hown.2 with ⟨rfl,rfl⟩ | ⟨gb,cap,cur,rfl,hb0,hb,hnc,hcm,hcsz,htake⟩
 ·omega
 have ha:((slA (.slice (some ⟨gb,0,none⟩) n cap)).add (j * sz))=⟨gb,j * sz,none⟩:=by simp [slA,Addr.add_lit]
 rw [ha] at hx
 have hfit:j * sz+sz≤n * sz:=by rw [← Nat.succ_mul];exact Nat.mul_le_mul_right _ hj
 have hnsz:n * sz≤cap * sz:=Nat.mul_le_mul_right _ hnc
 have hst:=run_storeCells_at C.P gb (j * sz) E us 0 cur w hb (by rw [hm,hcsz];omega) h1
 simp only [Nat.add_zero,hm] at hst
 have hvs:u.cells.size=sz:=by rw [← hm,← hu];simp
 have hrun:(execOp a.eval ⟨none,.store t x y,ty,pos,aft,g⟩).run C.P w = .ok .skip (w.setRow gb (cur.toList.take (j * sz)++us++cur.toList.drop (j * sz+sz)).toArray):=by
  simp only [execOp,opv_eval hs hx,opv_eval hs hy,Instr.storeAt,Instr.sureAddr,storeVar,Sem.run_bind,Sem.run_pure,Result.andThen_ok,run_sizeOf_of hs1,hu,hvs]
  simp only [ne_eq,not_true_eq_false,if_false,Sem.run_bind,Sem.run_pure,Result.andThen_ok,hst]
 simp only [Oper.wp,hrun,Oper.upon]
 refine hK _ _ (h _ _ ?_)
 have hlt:i<own.length:=(List.getElem?_eq_some_iff.1 hi).1
 have hcurl:cur.toList.length=cap * sz:=by simpa using hcsz
 have hcsl:cs.length=n * sz:=hown.1
 have hnew:(cur.toList.take (j * sz)++us++cur.toList.drop (j * sz+sz)).take (n * sz)=cs':=by
  rw [← hcs,← htake]
  exact take_spl cur.toList us (j * sz) sz (n * sz) hm hfit (by omega)
 have hrow:(w.setRow gb (cur.toList.take (j * sz)++us++cur.toList.drop (j * sz+sz)).toArray).ownsRow 0 E sz (.slice (some ⟨gb,0,none⟩) n cap) n cs':=by
  refine ⟨by rw [← hcs];simp;omega,.inr ⟨gb,cap,_,rfl,Nat.zero_le _,setRow_heap w gb cur _ E _ hb,hnc,hcm,?_,?_⟩⟩
  ·simp;omega
  ·simpa using hnew
 have hup:=HW.update (w':=w.setRow gb (cur.toList.take (j * sz)++us++cur.toList.drop (j * sz+sz)).toArray) (own2:=[]) (A':=row (.slice (some ⟨gb,0,none⟩) n cap) E sz n cs') hf hh hal hlt ⟨rfl,rfl,rfl,by simp,fun k _ hk=>setRow_other w gb k _ (fun e=>hk (by rw [e];exact (hF gb).2 rfl)),Nat.le_refl _⟩
  (HeapAt.one (row_of hrow)) (fun k c hc=>.inl ((hF c).2 hc.2))
 rw [List.append_nil] at hup
 exact hs.put hup (d:=none) (fun i hi=>by cases hi) undef
end boxeff
def bigA (l:List Asn):Asn where
 holds w F:=∃ Fs,HeapAt l Fs w∧∀ b,F b↔uni Fs b
 loc:=by
  rintro w w' F ⟨Fs,hh,hF⟩ hb
  exact ⟨Fs,⟨fun i A hi=>A.loc w w' _ (hh.at_ i A hi) (fun b h=>hb b ((hF b).2 ⟨i,h⟩)),hh.out,hh.apart⟩,hF⟩
 lt:=by
  rintro w F ⟨Fs,hh,hF⟩ b hb
  obtain ⟨i,hi⟩:=(hF b).1 hb
  exact hh.lt hi
def empA:Asn where
 holds _ F:=∀ b,¬ F b
 loc:=fun _ _ _ h _=>h
 lt:=fun _ _ h b hb=>(h b hb).elim
theorem HW.extract {C:Cx} {own l:List Asn} {w:World} {X:Asn} (j i:Nat) (hj:own[j]? = some (bigA l)) (hi:l[i]? = some X) (h:HW C own w):HW C (own.set j (bigA (l.set i empA))++[X]) w:=by
 obtain ⟨hf,Fs,hh,hal⟩:=h
 obtain ⟨Gs,gh,gF⟩:=hh.at_ j _ hj
 have hjl:j<own.length:=(List.getElem?_eq_some_iff.1 hj).1
 have hil:i<l.length:=(List.getElem?_eq_some_iff.1 hi).1
 refine HW.update (i:=j) hf hh hal hjl (FrameX.refl _ w) (Fs':=fun k b=>if k=0 then Fs j b∧¬ Gs i b else if k=1 then Gs i b else False) ⟨?_,?_,?_⟩ ?_
 ·intro k A hk
  match k,hk with
  | 0,hk=>
   simp at hk;subst hk
   refine ⟨fun m b=>m ≠ i∧Gs m b,⟨?_,?_,?_⟩,?_⟩
   ·intro m B hm
    by_cases hmi:m=i
    ·subst hmi
     simp [hil] at hm
     subst hm
     intro b hb;exact hb.1 rfl
    ·rw [List.getElem?_set_ne (Ne.symm hmi)] at hm
     have:=gh.at_ m B hm
     simpa [hmi] using this
   ·rintro m hm b ⟨_,hb⟩;exact gh.out m (by simpa using hm) b hb
   ·rintro m m' b ⟨_,h1⟩ ⟨_,h2⟩;exact gh.apart m m' b h1 h2
   ·intro b
    simp only [if_true]
    constructor
    ·rintro ⟨h1,h2⟩
     obtain ⟨m,hm⟩:=(gF b).1 h1
     exact ⟨m,fun e=>h2 (e ▸ hm),hm⟩
    ·rintro ⟨m,hne,hm⟩
     exact ⟨(gF b).2 ⟨m,hm⟩,fun h=>hne (gh.apart m i b hm h)⟩
  | 1,hk=>
   simp at hk;subst hk
   simpa using gh.at_ i X hi
  | k+2,hk=>simp at hk
 ·intro k hk b hb
  simp at hk
  simp [show k ≠ 0 by omega,show k ≠ 1 by omega] at hb
 ·intro k m b h1 h2
  by_cases hk0:k=0 <;> by_cases hm0:m=0
  ·omega
  ·simp only [hk0,if_true] at h1
   simp only [hm0,if_false] at h2
   split at h2
   ·exact (h1.2 h2).elim
   ·exact h2.elim
  ·simp only [hm0,if_true] at h2
   simp only [hk0,if_false] at h1
   split at h1
   ·exact (h2.2 h1).elim
   ·exact h1.elim
  ·simp only [hk0,if_false] at h1
   simp only [hm0,if_false] at h2
   split at h1 <;> split at h2
   ·omega
   all_goals first | exact h1.elim | exact h2.elim
 ·intro k b hb
  by_cases hk0:k=0
  ·simp only [hk0,if_true] at hb;exact .inl hb.1
  ·simp only [hk0,if_false] at hb
   split at hb
   ·exact .inl ((gF b).2 ⟨i,hb⟩)
   ·exact hb.elim
theorem HW.putback {C:Cx} {own l:List Asn} {w:World} {X:Asn} (j i:Nat) (hj:j<own.length) (hi:i<l.length) (h:HW C (own.set j (bigA (l.set i empA))++[X]) w):HW C (own.set j (bigA (l.set i X))) w:=by
 obtain ⟨hf,Fs,hh,hal⟩:=h
 have hX:=hh.at_ own.length X (by rw [List.getElem?_append_right (by simp)];simp)
 obtain ⟨Gs,gh,gF⟩:=hh.at_ j (bigA (l.set i empA)) (by rw [List.getElem?_append_left (by simpa using hj)];simp [hj])
 have hemp:∀ b,¬ Gs i b:=gh.at_ i empA (by simp [hi])
 refine ⟨hf,fun k b=>if k=j then Fs j b∨Fs own.length b else k<own.length∧Fs k b,⟨?_,?_,?_⟩,?_⟩
 ·intro k A hk
  by_cases hkj:k=j
  ·subst hkj
   simp [hj] at hk
   subst hk
   refine ⟨fun m b=>if m=i then Fs own.length b else Gs m b,⟨?_,?_,?_⟩,?_⟩
   ·intro m B hm
    by_cases hmi:m=i
    ·subst hmi
     simp [hi] at hm
     subst hm
     simpa using hX
    ·rw [List.getElem?_set_ne (Ne.symm hmi)] at hm
     have:=gh.at_ m B (by rw [List.getElem?_set_ne (Ne.symm hmi)];exact hm)
     simpa [hmi] using this
   ·intro m hm b hb
    have hmi:m ≠ i:=by simp at hm;omega
    simp only [hmi,if_false] at hb
    exact gh.out m (by simpa using hm) b hb
   ·have cross:∀ m b,Gs m b→¬ Fs own.length b:=fun m b h1 h2=>by
     have:=hh.apart k own.length b ((gF b).2 ⟨m,h1⟩) h2;omega
    intro m m' b h1 h2
    by_cases hm:m=i <;> by_cases hm':m'=i
    ·omega
    ·simp only [hm,if_true] at h1;simp only [hm',if_false] at h2;exact (cross m' b h2 h1).elim
    ·simp only [hm',if_true] at h2;simp only [hm,if_false] at h1;exact (cross m b h1 h2).elim
    ·simp only [hm,if_false] at h1;simp only [hm',if_false] at h2;exact gh.apart m m' b h1 h2
   ·intro b
    simp only [if_true]
    constructor
    ·rintro (h | h)
     ·obtain ⟨m,hm⟩:=(gF b).1 h
      have hmi:m ≠ i:=fun e=>hemp b (e ▸ hm)
      exact ⟨m,by simp [hmi,hm]⟩
     ·exact ⟨i,by simp [h]⟩
    ·rintro ⟨m,hm⟩
     by_cases hmi:m=i
     ·simp only [hmi,if_true] at hm;exact .inr hm
     ·simp only [hmi,if_false] at hm;exact .inl ((gF b).2 ⟨m,hm⟩)
  ·have hkl:k<own.length:=by have:=(List.getElem?_eq_some_iff.1 hk).1;simpa using this
   rw [List.getElem?_set_ne (Ne.symm hkj)] at hk
   have:=hh.at_ k A (by rw [List.getElem?_append_left (by simpa using hkl),List.getElem?_set_ne (Ne.symm hkj)];exact hk)
   simpa [hkj,hkl] using this
 ·intro k hk b hb
  simp at hk
  simp only [show k ≠ j by omega,if_false] at hb
  omega
 ·intro k m b h1 h2
  by_cases hk:k=j <;> by_cases hm:m=j
  ·omega
  ·simp only [hk,if_true] at h1;simp only [hm,if_false] at h2
   rcases h1 with h1 | h1
   ·exact absurd (hh.apart j m b h1 h2.2) (Ne.symm hm)
   ·have:=hh.apart _ _ b h1 h2.2;omega
  ·simp only [hm,if_true] at h2;simp only [hk,if_false] at h1
   rcases h2 with h2 | h2
   ·exact absurd (hh.apart j k b h2 h1.2) (Ne.symm hk)
   ·have:=hh.apart _ _ b h2 h1.2;omega
  ·simp only [hk,if_false] at h1;simp only [hm,if_false] at h2;exact hh.apart k m b h1.2 h2.2
 ·intro k b hb
  by_cases hk:k=j
  ·simp only [hk,if_true] at hb
   rcases hb with hb | hb <;> exact hal _ b hb
  ·simp only [hk,if_false] at hb;exact hal _ b hb.2
theorem RdS.big {C:Cx} {own l:List Asn} {v:Value} {E:TypeId} {sz n:Nat} {cs:List Value} (j i:Nat) (hj:own[j]? = some (bigA l)) (hi:l[i]? = some (row v E sz n cs)):RdS C own v sz n cs:=fun w hw=>by
 obtain ⟨_,Fs,hh,_⟩:=hw
 obtain ⟨Gs,gh,_⟩:=hh.at_ j _ hj
 exact (row_rd (gh.at_ i _ hi)).mono fun b _ _=>⟨trivial,rfl⟩
theorem HW.ghostBig {C:Cx} {own:List Asn} {w:World} (h:HW C own w) (l:List Asn) (hl:∀ (i:Nat) (A:Asn),l[i]? = some A→A.holds w (fun _=>False)):HW C (own++[bigA l]) w:=
 h.push (FrameX.refl _ w) (HeapAt.one (F:=fun _=>False) ⟨fun _ _=>False,⟨hl,fun _ _ _=>id,fun _ _ _ h=>h.elim⟩,fun b=>⟨fun h=>h.elim,fun ⟨_,h⟩=>h⟩⟩) (fun j b hb=>hb.2.elim)
end Go.Sx
namespace Go.Sx
open Go.RowKit
theorem keyOfEqual {α:Type} [DecidableEq α] {P:Program} {kt:TypeId} {fk:α→Value} {d:TypeDesc} (hd:P.underlying kt=some d) (hnow:∀ a b,Instr.sameNow d (fk a) (fk b)=none)
  (heq:∀ (a b:α) (w:World),(Op.equal kt (fk a) (fk b)).run P w = .ok (decide (a=b)) w) (hcheck:∀ (e:Bool) (a:α) (w:World),(Instr.checkKey e 10000 kt (fk a)).run P w = .ok () w) (hsame:∀ a,Instr.sameBits 10000 (fk a) (fk a)=true):KeyL P kt fk where
 find:=by
  intro a es ks w h
  have ask:∀ (es:List MapEntry) (ks:List α) (j:Nat),es.map (·.key)=ks.map fk→(Instr.findAsking kt (fk a) es j).run P w = .ok ((fidx a ks).bind fun i=>(es[i]?).map fun e=>(j+i,e.val)) w:=by
   intro es
   induction es with
   | nil=>intro ks j h;cases ks with
    | nil=>simp [Instr.findAsking,fidx]
    | cons k ks=>simp at h
   | cons e es ih=>
    intro ks j h
    cases ks with
    | nil=>simp at h
    | cons k ks=>
     simp at h
     simp only [Instr.findAsking,h.1,Sem.run_bind,heq,Result.andThen_ok,fidx]
     by_cases hak:a=k
     ·simp [hak]
     ·simp only [hak,decide_false,if_false,Bool.false_eq_true]
      rw [ih ks (j+1) (by simpa using h.2)]
      cases fidx a ks with
      | none=>simp
      | some i=>
       simp only [Option.map_some,Option.bind_some,List.getElem?_cons_succ]
       cases es[i]? with
       | none=>rfl
       | some e'=>simp;omega
  simp only [Instr.findKey,Sem.run_bind,run_underlying hd,Result.andThen_ok]
  cases es with
  | nil=>cases ks with
   | nil=>simp [Instr.findNow,fidx]
   | cons k ks=>simp at h
  | cons e es=>
   cases ks with
   | nil=>simp at h
   | cons k ks=>
    have h0:e.key=fk k:=by simp at h;exact h.1
    simp only [Instr.findNow,h0,hnow]
    have:=ask (e :: es) (k :: ks) 0 h
    simpa using this
 check:=hcheck
 same:=hsame
def pv (p:Int × Int):Value:=.agg #[.int .i64 p.1,.int .i64 p.2]
theorem AK.make1Z {C:Cx} {sl:List (Nat × Value)} {own:List Asn} {ops:Array Oper} {Q:Exit→Act→World→Prop} {ty:TypeId} {pos:String} {aft:Array Edge} {g:Option (Nat × Bool)} {rest:List Oper} {d:Nat} {t E:TypeId} {l c:Operand} {s' by_:Nat} {z:Value} {n:Int} (ht:SlT C.P t E 1) (hE:ElT C.P E z s' by_) (hz:z.cells = #[z]) (hl:opv ⟨sl,own⟩ l=some (.int .i64 n)) (hc:opv ⟨sl,own⟩ c=some (.int .i64 n)) (h0:0≤n)
  (hb:by_ * n.toNat≤281474976710656) (hm:n.toNat≤9223372036854775807) (hg:Grd ops sl g) (hd:Nat.blt d C.N=true)
  (h:∀ v,AK C ⟨(d,v) :: sl,own++[row v E 1 n.toNat (List.replicate n.toNat z)]⟩ (wpList C.P ops Q rest)) :
  AK C ⟨sl,own⟩ (wpList C.P ops Q (⟨some d,.makeSlice t l c,ty,pos,aft,g⟩ :: rest)):=
 AK.make1 ht hE hz (by rw [hl];congr 2;omega) (by rw [hc];congr 2;omega) hb hm hg hd h
theorem Rd.le {G:Nat→Prop} {w:World} {v:Value} {sz n:Nat} {cs:List Value} (h:Rd G w v sz n cs):n≤9223372036854775807:=by
 obtain ⟨_,_,_,h,_⟩:=h
 simpa [maxLen] using h
end Go.Sx
namespace Go.Sx
theorem gB {b c:Bool} (h:b=c):some (Value.bool b)=some (Value.bool c):=congrArg (fun b=>some (Value.bool b)) h
theorem leb {n m:Nat} (h:Nat.ble n m=true):n≤m:=Nat.le_of_ble_eq_true h
theorem nrm {α:Type}:(∀ (x a:α) (l:List α),(x :: l).set 0 a=a :: l)∧(∀ (x a:α) (n:Nat) (l:List α),(x :: l).set (n+1) a=x :: l.set n a)∧(∀ (x:α) (l k:List α),x :: l++k=x :: (l++k))∧∀ l:List α,[]++l=l:=⟨fun _ _ _=>rfl,fun _ _ _ _=>rfl,fun _ _ _=>rfl,fun _=>rfl⟩
end Go.Sx
