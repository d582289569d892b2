/- A region that draws its order, and ends in operations that wait for all others and for one another: what is held is asked only ahead of these. -/
import Derived.Test.YteaimnemobnknaaX0
import Derived.Test.YteaimnemobnknaaProg
import Derived.Test.YteaimnemobnknaaMS1
import Derived.OrdersHeld
import Derived.WalkKit
import Derived.Lib.Hide
import Derived.Below
import Derived.WalkLawsBesides
import Derived.WalkSpells
import Derived.BigQuiet
import Derived.Deep.QuietTactic
import Derived.Deep.CutRange
import Derived.Deep.RegionHeld3
import Derived.Deep.AppendLies
import Derived.Maps.AppendAt
import Derived.Handy
import Derived.Lib.Mul64
import Derived.Laws.Bits64b
set_option linter.unusedSimpArgs false
set_option linter.unusedVariables false
set_option maxRecDepth 100000
set_option maxHeartbeats 4000000
namespace Go.Proofs.Yteaimnemobnknaa
open Go Go.RowKit
theorem nrm{α:Type _}:(∀(l:List α) (i:Nat) (h:i<l.toArray.size),l.toArray[i]=l[i]'(by simpa using h))/\(∀(a:α) (l:List α) (h:0<(a::l).length),(a::l)[0]'h=a)/\(∀(a:α) (l:List α) (n:Nat) (h:n+1<(a::l).length),(a::l)[n+1]'h=l[n]'(Nat.lt_of_succ_lt_succ h))/\(∀(l:List α) (i:Nat) (a:α),l.toArray.setIfInBounds i a=(l.set i a).toArray)/\(∀(x a:α) (l:List α),(x::l).set 0 a=a::l)/\(∀(x a:α) (l:List α) (n:Nat),(x::l).set (n+1) a=x::l.set n a):=⟨λ_ _ _=>rfl,λ_ _ _=>rfl,λ_ _ _ _=>rfl,λ_ _ _=>by simp,λ_ _ _=>rfl,λ_ _ _ _=>rfl⟩
theorem nrd{α:Type _}:(∀l:List α,l.toArray.toList=l)/\(∀(a:α) (l:List α) (n:Nat),(a::l).drop (n+1)=l.drop n)/\(∀l:List α,l.drop 0=l):=⟨λ_=>rfl,λ_ _ _=>rfl,λ_=>rfl⟩
section
variable {P : Program} {md : Region.Mode} {ops : Array Oper} {Q : Exit -> Act -> World -> Prop} {S : World -> Prop} {t : Nat}
def wpAnyS(P:Program)(md:Region.Mode)(ops:Array Oper)(Q:Exit->Act->World->Prop)(S:World->Prop)(t:Nat):Nat->Array Bool->Act->World->Prop
 |0,listed,a,w=>Region.ready md ops listed=[]/\Q .normal a w
 |fuel+1,listed,a,w=>
   (Region.ready md ops listed=[]->Q .normal a w)/\
   ∀i∈Region.ready md ops listed,wpOp P ops Q i (λa' w'=>(i<t->S w')/\wpAnyS P md ops Q S t fuel (listed.setIfInBounds i true) a' w') a w
theorem wpAny_of_S:∀(fuel:Nat) (listed:Array Bool) (a:Act) (w:World),wpAnyS P md ops Q S t fuel listed a w->wpAny P md ops Q fuel listed a w
 |0,_,_,_,h=>h
 |fuel+1,_,_,_,h=>⟨h.1,λi hi=>wpOp_mono (λa' w' h'=>wpAny_of_S fuel _ a' w' h'.2) (h.2 i hi)⟩
theorem getD_set_ne'{l:Array Bool}{j k:Nat}(h:j≠k):(l.setIfInBounds j true).getD k true=l.getD k true:=by
 simp only[Array.getD_eq_getD_getElem?]
 rw[Array.getElem?_setIfInBounds_ne h]
inductive Blk (md:Region.Mode) (ops:Array Oper) (listed:Array Bool) (i:Nat):Nat->Prop
 |head {k:Nat} {o:Oper} {e:Edge} (ho:ops[k]?=some o) (hu:listed.getD k true=false) (he:e∈o.after) (hb:Region.binds md e=true) (h:e.on=i):Blk md ops listed i k
 |step {k:Nat} {o:Oper} {e:Edge} (ho:ops[k]?=some o) (hu:listed.getD k true=false) (he:e∈o.after) (hb:Region.binds md e=true) (h:Blk md ops listed i e.on):Blk md ops listed i k
theorem getD_off{listed:Array Bool}{k:Nat}(h:listed.getD k true=false):listed.getD k false=false:=by
 rcases Nat.lt_or_ge k listed.size with h'|h'
 ·simp[h'] at h|-;exact h
 ·simp[Array.getElem?_eq_none h'] at h
theorem Blk.off{listed:Array Bool}{i k:Nat}(h:Blk md ops listed i k):listed.getD k true=false:=by cases h<;>assumption
theorem Blk.not_ready{listed:Array Bool}{i k:Nat}(hi:listed.getD i true=false)(h:Blk md ops listed i k):k ∉ Region.ready md ops listed:=by
 intro hr
 obtain⟨_,o',ho',hall⟩:=mem_ready.1 hr
 cases h with
 |head ho hu he hb h=>
   obtain rfl:=Option.some.inj (ho.symm.trans ho')
   have:=hall _ he hb
   rw[h,getD_off hi] at this
   cases this
 |step ho hu he hb h=>
   obtain rfl:=Option.some.inj (ho.symm.trans ho')
   have:=hall _ he hb
   rw[getD_off h.off] at this
   cases this
theorem Blk.later{listed:Array Bool}{i j k:Nat}(hi:listed.getD i true=false)(hj:j∈Region.ready md ops listed)(h:Blk md ops listed i k):Blk md ops (listed.setIfInBounds j true) i k:=by
 induction h with
 |@head k o e ho hu he hb h=>
   have hk:j≠k:=by
    rintro rfl
    exact Blk.not_ready hi (.head ho hu he hb h) hj
   exact .head ho (by rw[getD_set_ne' hk];exact hu) he hb h
 |@step k o e ho hu he hb h ih=>
   have hk:j≠k:=by
    rintro rfl
    exact Blk.not_ready hi (.step ho hu he hb h) hj
   exact .step ho (by rw[getD_set_ne' hk];exact hu) he hb ih
theorem wpAnyS_first{i:Nat}{oi:Oper}{v:Value}(hi:ops[i]?=some oi)(hsel:∀(j:Nat) (o:Oper) cs b,ops[j]?=some o->o.op≠.select cs b)(hQ:∀c a w,Q (.panic c) (a.put oi.dst v) w->Q (.panic c) a w):∀(fuel:Nat) (listed:Array Bool) (a:Act) (w:World),
   (∀j oj,ops[j]?=some oj->j≠i->listed.getD j true=false->(∀e∈oj.after,Region.binds md e=true->e.on≠i)->oi.apart ops oj=true)->
   i∈Region.ready md ops listed->(∀m,t<=m->m<ops.size->Blk md ops listed i m)->YieldsIf P ops S oi v a->S w->
   wpAnyS P md ops Q S t fuel (listed.setIfInBounds i true) (a.put oi.dst v) w->wpAnyS P md ops Q S t (fuel+1) listed a w:=by
 intro fuel
 induction fuel with
 |zero=>
   intro listed a w _ hr hmw hy hS H
   refine⟨λh=>(by rw[h] at hr;cases hr),λj hj=>?_⟩
   by_cases hji:j=i
   ·subst hji;exact hy.wpOp hi hS ⟨λ_=>hS,H⟩
   ·have:=ready_mono hj hji
    rw[H.1] at this
    cases this
 |succ fuel ih=>
   intro listed a w hfree hr hmw hy hS H
   refine⟨λh=>(by rw[h] at hr;cases hr),λj hj=>?_⟩
   by_cases hji:j=i
   ·subst hji;exact hy.wpOp hi hS ⟨λ_=>hS,H⟩
   ·have h1:=H.2 j (ready_mono hj hji)
    obtain⟨hjun,oj,hoj,hall⟩:=mem_ready.1 hj
    have hnot:∀e∈oj.after,Region.binds md e=true->e.on≠i:=λe he hb heq=>by
     have h1:=hall e he hb
     have h0:=(mem_ready.1 hr).1
     rw[heq] at h1
     rcases Nat.lt_or_ge i listed.size with h'|h'
     ·simp[h'] at h0 h1;rw[h0] at h1;cases h1
     ·simp[Array.getElem?_eq_none h'] at h1
    have hjm:j<t:=by
     apply Decidable.byContradiction
     intro hc
     exact(hmw j (by omega) (Array.getElem?_eq_some_iff.1 hoj).1).not_ready (mem_ready.1 hr).1 (ready_mono hj hji |> λ_=>hj)
    have h2:=wpOp_putIf hoj (hfree j oj hoj hji hjun hnot) (λcs b=>hsel i oi cs b hi) (λcs b=>hsel j oj cs b hoj) hQ hy h1
    have hfree':∀k ok,ops[k]?=some ok->k≠i->(listed.setIfInBounds j true).getD k true=false->
      (∀e∈ok.after,Region.binds md e=true->e.on≠i)->oi.apart ops ok=true:=λk ok hk hki hun hno=>by
     refine hfree k ok hk hki ?_ hno
     by_cases hjk:j=k
     ·subst hjk;exact hjun
     ·rw[getD_set_ne true hjk] at hun;exact hun
    refine wpOp_mono (λa' w' h3=>⟨h3.2.1,ih (listed.setIfInBounds j true) a' w' hfree' (ready_mono hr (Ne.symm hji)) (λm h1 h2=>(hmw m h1 h2).later (mem_ready.1 hr).1 hj) h3.1 (h3.2.1 hjm) ?_⟩) h2
    rw[Array.setIfInBounds_comm _ _ hji]
    exact h3.2.2
def blkL(md:Region.Mode)(listed:Array Bool):List Oper->Nat->List Nat->List Nat
 |[],_,acc=>acc
 |o::l,k,acc=>blkL md listed l (k+1) (if !listed.getD k true&&o.after.any (λe=>Region.binds md e&&acc.contains e.on) then k::acc else acc)
theorem blkL_spec{listed:Array Bool}{i:Nat}:∀(l:List Oper) (k:Nat) (acc:List Nat),(∀j,l[j]?=ops[k+j]?)->(∀x∈acc,x=i\/Blk md ops listed i x)->∀x∈blkL md listed l k acc,x=i\/Blk md ops listed i x
 |[],k,acc,_,ha,x,hx=>ha x hx
 |o::l,k,acc,hl,ha,x,hx=>by
   have h0:ops[k]?=some o:=by have:=hl 0;simpa using this.symm
   refine blkL_spec l (k+1) _ (λj=>by have:=hl (j+1);rw[show k+1+j=k+(j+1) from by omega];simpa using this) ?_ x hx
   intro y hy
   split at hy
   ·rename_i hc
    rcases List.mem_cons.1 hy with rfl|hy
    ·simp only[Bool.and_eq_true,Bool.not_eq_true'] at hc
     obtain⟨hu,hany⟩:=hc
     rw[Array.any_eq_true'] at hany
     obtain⟨e,he,hb⟩:=hany
     simp only[Bool.and_eq_true,List.contains_iff_mem] at hb
     rcases ha _ hb.2 with h|h
     ·exact .inr (.head h0 hu he hb.1 h)
     ·exact .inr (.step h0 hu he hb.1 h)
    ·exact ha y hy
   ·exact ha y hy
def waitsFor(md:Region.Mode)(ops:Array Oper)(t:Nat)(listed:Array Bool)(i:Nat):Bool:=
 Nat.blt i t&&(List.range' t (ops.size-t)).all λm=>(blkL md listed ops.toList 0 [i]).contains m
theorem waits_spec{listed:Array Bool}{i:Nat}(h:waitsFor md ops t listed i=true):∀m,t<=m->m<ops.size->Blk md ops listed i m:=by
 intro m hm hs
 unfold waitsFor at h
 rw[Bool.and_eq_true,List.all_eq_true] at h
 have hlt:i<t:=by have:=h.1;simpa[Nat.blt_eq] using this
 have h2:=h.2 m (by rw[List.mem_range'_1];omega)
 rw[List.contains_iff_mem] at h2
 rcases blkL_spec (ops:=ops) ops.toList 0 [i] (λj=>by rw[Nat.zero_add,Array.getElem?_toList]) (λx hx=>.inl (by simpa using hx)) m h2 with h'|h'
 ·omega
 ·exact h'
def takeOk(md:Region.Mode)(ops:Array Oper)(t:Nat)(listed:Array Bool)(i:Nat):Bool:=
 Region.noSelect ops&&(Region.free md ops listed i&&((Region.ready md ops listed).contains i&&waitsFor md ops t listed i))
theorem wpAnyS_take{i:Nat}{oi:Oper}{v:Value}{fuel:Nat}{listed:Array Bool}{a:Act}{w:World}(hk:takeOk md ops t listed i=true)(hi:ops[i]?=some oi)(hQ:∀c a w,Q (.panic c) (a.put oi.dst v) w->Q (.panic c) a w)(hwn:oi.guard=none)(hS:S w)(hy:∀w,S w->(execOp a.eval oi).run P w=.ok (.value v) w)(h:wpAnyS P md ops Q S t fuel (listed.setIfInBounds i true) (a.put oi.dst v) w):wpAnyS P md ops Q S t (fuel+1) listed a w:=by
 unfold takeOk at hk
 simp only[Bool.and_eq_true] at hk
 obtain⟨hs,hf,hr,hw⟩:=hk
 exact wpAnyS_first hi (Region.noSelect_spec hs) hQ fuel listed a w (Region.free_spec hi hf) (by simpa using hr) (waits_spec hw) (.inl ⟨by unfold Region.wanted;rw[hwn],hy⟩) hS h
theorem wpAnyS_takeG{i:Nat}{oi:Oper}{v:Value}{fuel:Nat}{listed:Array Bool}{a:Act}{w:World}(hk:takeOk md ops t listed i=true)(hi:ops[i]?=some oi)(hQ:∀c a w,Q (.panic c) (a.put oi.dst v) w->Q (.panic c) a w)(hwn:Region.wanted oi (yielded ops a.tmps)=true)(hS:S w)(hy:∀w,S w->(execOp a.eval oi).run P w=.ok (.value v) w)(h:wpAnyS P md ops Q S t fuel (listed.setIfInBounds i true) (a.put oi.dst v) w):wpAnyS P md ops Q S t (fuel+1) listed a w:=by
 unfold takeOk at hk
 simp only[Bool.and_eq_true] at hk
 obtain⟨hs,hf,hr,hw⟩:=hk
 exact wpAnyS_first hi (Region.noSelect_spec hs) hQ fuel listed a w (Region.free_spec hi hf) (by simpa using hr) (waits_spec hw) (.inl ⟨hwn,hy⟩) hS h
theorem wpAnyS_skipG{i:Nat}{oi:Oper}{fuel:Nat}{listed:Array Bool}{a:Act}{w:World}(hk:takeOk md ops t listed i=true)(hi:ops[i]?=some oi)(hQ:∀c a w,Q (.panic c) (a.put oi.dst undef) w->Q (.panic c) a w)(hwn:Region.wanted oi (yielded ops a.tmps)=false)(hS:S w)(h:wpAnyS P md ops Q S t fuel (listed.setIfInBounds i true) (a.put oi.dst undef) w):wpAnyS P md ops Q S t (fuel+1) listed a w:=by
 unfold takeOk at hk
 simp only[Bool.and_eq_true] at hk
 obtain⟨hs,hf,hr,hw⟩:=hk
 exact wpAnyS_first hi (Region.noSelect_spec hs) hQ fuel listed a w (Region.free_spec hi hf) (by simpa using hr) (waits_spec hw) (.inr ⟨hwn,rfl⟩) hS h
def oneOk(md:Region.Mode)(ops:Array Oper)(listed:Array Bool)(i:Nat):Bool:=Region.ready md ops listed==[i]
theorem wpAnyS_one{i:Nat}{oi:Oper}{fuel:Nat}{listed:Array Bool}{a:Act}{w:World}(hr:oneOk md ops listed i=true)(hi:ops[i]?=some oi)(hwn:oi.guard=none)(h:∀K:Act->World->Prop,Hid (∀a' w',(i<t->S w')->wpAnyS P md ops Q S t fuel (listed.setIfInBounds i true) a' w'->K a' w')->Oper.wp P oi a w K Q):wpAnyS P md ops Q S t (fuel+1) listed a w:=by
 unfold oneOk at hr
 rw[beq_iff_eq] at hr
 refine⟨λh0=>(by rw[hr] at h0;cases h0),λj hj=>?_⟩
 rw[hr] at hj
 obtain rfl:=List.mem_singleton.1 hj
 unfold wpOp
 rw[hi]
 have hwt:Region.wanted oi (yielded ops a.tmps)=true:=by unfold Region.wanted;rw[hwn]
 simp only[hwt,if_true]
 exact .inl (h _ (aZ λa' w' h1 h2=>⟨h1,h2⟩))
def twoOk(md:Region.Mode)(ops:Array Oper)(listed:Array Bool)(i j:Nat):Bool:=
 Region.ready md ops listed==[i,j]&&(Region.ready md ops (listed.setIfInBounds i true)==[j]&&Region.ready md ops (listed.setIfInBounds j true)==[i])
theorem wpAnyS_two{i j:Nat}{oi oj:Oper}{di dj:Tmp}{fuel:Nat}{listed:Array Bool}{a:Act}{w:World}(R:Value->Value->World->Prop)(hr:twoOk md ops listed i j=true)(hi:ops[i]?=some oi)(hj:ops[j]?=some oj)(hij:i≠j)(hd:di≠dj)(gi:oi.guard=none)(gj:oj.guard=none)(h1:∀K:Act->World->Prop,Hid (∀vi w1,S w1->(∀K2:Act->World->Prop,Hid (∀vj w2,S w2->R vi vj w2->K2 ((a.put (some di) vi).put (some dj) vj) w2)->Oper.wp P oj (a.put (some di) vi) w1 K2 Q)->K (a.put (some di) vi) w1)->Oper.wp P oi a w K Q)(h2:∀K:Act->World->Prop,Hid (∀vj w1,S w1->(∀K2:Act->World->Prop,Hid (∀vi w2,S w2->R vi vj w2->K2 ((a.put (some dj) vj).put (some di) vi) w2)->Oper.wp P oi (a.put (some dj) vj) w1 K2 Q)->K (a.put (some dj) vj) w1)->Oper.wp P oj a w K Q)(h:∀vi vj w2,S w2->R vi vj w2->wpAnyS P md ops Q S t fuel ((listed.setIfInBounds i true).setIfInBounds j true) ((a.put (some di) vi).put (some dj) vj) w2):wpAnyS P md ops Q S t (fuel+2) listed a w:=by
 unfold twoOk at hr
 simp only[Bool.and_eq_true,beq_iff_eq] at hr
 obtain⟨r0,r1,r2⟩:=hr
 have hwi:∀b:Act,Region.wanted oi (yielded ops b.tmps)=true:=λb=>by unfold Region.wanted;rw[gi]
 have hwj:∀b:Act,Region.wanted oj (yielded ops b.tmps)=true:=λb=>by unfold Region.wanted;rw[gj]
 refine⟨λh0=>(by rw[r0] at h0;cases h0),λk hk=>?_⟩
 rw[r0] at hk
 rcases List.mem_cons.1 hk with rfl|hk
 ·unfold wpOp
  rw[hi]
  simp only[hwi,if_true]
  refine .inl (h1 _ (aZ λvi w1 hs hc=>⟨λ_=>hs,λh0=>(by rw[r1] at h0;cases h0),λk' hk'=>?_⟩))
  rw[r1] at hk'
  obtain rfl:=List.mem_singleton.1 hk'
  unfold wpOp
  rw[hj]
  simp only[hwj,if_true]
  exact .inl (hc _ (aZ λvj w2 hs2 hR=>⟨λ_=>hs2,h vi vj w2 hs2 hR⟩))
 ·obtain rfl:=List.mem_singleton.1 hk
  unfold wpOp
  rw[hj]
  simp only[hwj,if_true]
  refine .inl (h2 _ (aZ λvj w1 hs hc=>⟨λ_=>hs,λh0=>(by rw[r2] at h0;cases h0),λk' hk'=>?_⟩))
  rw[r2] at hk'
  obtain rfl:=List.mem_singleton.1 hk'
  unfold wpOp
  rw[hi]
  simp only[hwi,if_true]
  refine .inl (hc _ (aZ λvi w2 hs2 hR=>⟨λ_=>hs2,?_⟩))
  have:=h vi vj w2 hs2 hR
  rw[Array.setIfInBounds_comm _ _ hij] at this
  have e:(a.put (some di) vi).put (some dj) vj=(a.put (some dj) vj).put (some di) vi:=by
   simp only[Act.put]
   rw[Array.setIfInBounds_comm _ _ hd]
  rw[e] at this
  exact this
theorem wpAnyS_done{listed:Array Bool}{a:Act}{w:World}(hr:Region.ready md ops listed=[])(h:Q .normal a w):∀fuel,wpAnyS P md ops Q S t fuel listed a w
 |0=>⟨hr,h⟩
 |_+1=>⟨λ_=>h,by rw[hr];simp⟩
def tailOk(md:Region.Mode)(ops:Array Oper):Nat->Nat->Array Bool->Bool
 |0,_,listed=>Region.ready md ops listed==[]
 |n+1,k,listed=>Region.ready md ops listed==[k]&&tailOk md ops n (k+1) (listed.setIfInBounds k true)
theorem wpAnyS_tail:∀(n k:Nat) (listed:Array Bool) (l:List Oper) (a:Act) (w:World),tailOk md ops n k listed=true->t<=k->l.length=n->(∀j o,l[j]?=some o->ops[k+j]?=some o)->
  wpList P ops Q l a w->wpAnyS P md ops Q S t n listed a w
 |0,k,listed,l,a,w,hk,ht,hl,ho,h=>by
   obtain rfl:l=[]:=List.eq_nil_of_length_eq_zero hl
   unfold tailOk at hk
   rw[beq_iff_eq] at hk
   exact wpAnyS_done hk h 0
 |n+1,k,listed,l,a,w,hk,ht,hl,ho,h=>by
   rcases l with _|⟨o,l⟩
   ·simp at hl
   ·unfold tailOk at hk
    rw[Bool.and_eq_true,beq_iff_eq] at hk
    obtain⟨hr,hk⟩:=hk
    have h0:ops[k]?=some o:=ho 0 o rfl
    refine⟨λh0=>(by rw[hr] at h0;cases h0),λj hj=>?_⟩
    rw[hr] at hj
    obtain rfl:=List.mem_singleton.1 hj
    have key:∀a' w',wpList P ops Q l a' w'->(j<t->S w')/\wpAnyS P md ops Q S t n (listed.setIfInBounds j true) a' w':=λa' w' h'=>
     ⟨λhc=>absurd hc (by omega),wpAnyS_tail n (j+1) _ l a' w' hk (by omega) (by simpa using hl) (λi o' hi=>by have:=ho (i+1) o' (by simpa using hi);rw[show j+1+i=j+(i+1) from by omega];exact this) h'⟩
    unfold wpOp
    rw[h0]
    unfold wpList at h
    split at h
    ·rename_i hw
     simp only[hw,if_true]
     rcases h with h|h
     ·exact .inl (Oper.wp_mono key h)
     ·exact .inr h
    ·rename_i hw
     simp only[hw]
     exact key _ _ h
theorem wpAnyS_end(n k:Nat){listed:Array Bool}{a:Act}{w:World}(hk:tailOk md ops n k listed=true)(ht:t<=k)(hn:ops.size=k+n)(h:wpList P ops Q (ops.toList.drop k) a w):wpAnyS P md ops Q S t n listed a w:=
 wpAnyS_tail n k listed _ a w hk ht (by rw[List.length_drop,Array.length_toList];omega) (λj o hj=>by rw[List.getElem?_drop,Array.getElem?_toList] at hj;exact hj) h
theorem wp_region_S{id:Nat}{a:Act}{w:World}(S:World->Prop)(t:Nat)(hm:P.follows .mixedOrders=true)(h:wpAnyS P .any ops Q S t ops.size (Array.replicate ops.size false) a w.drew):(Code.region id ops true).wp P Q a w:=
 wp_region_any hm (wpAny_of_S _ _ _ _ h)
theorem wp_region_T{id:Nat}{a:Act}{w:World}(S:World->Prop)(t:Nat)(h0:S w.drew)(h:S w.drew->wpAnyS P .any ops Q S t ops.size (Array.replicate ops.size false) a w.drew)(hm:P.follows .mixedOrders=true:=by kernel_rfl):(Code.region id ops true).wp P Q a w:=
 wp_region_S S t hm (h h0)
theorem wpAnyS_1(i:Nat){oi:Oper}{fuel:Nat}{listed:Array Bool}{a:Act}{w:World}(h:∀K:Act->World->Prop,Hid (∀a' w',(i<t->S w')->wpAnyS P md ops Q S t fuel (listed.setIfInBounds i true) a' w'->K a' w')->Oper.wp P oi a w K Q)(hr:oneOk md ops listed i=true:=by kernel_rfl)(hi:ops[i]?=some oi:=by rfl)(hwn:oi.guard=none:=by rfl):wpAnyS P md ops Q S t (fuel+1) listed a w:=wpAnyS_one hr hi hwn h
theorem wpAnyS_fin(n k:Nat){listed:Array Bool}{a:Act}{w:World}(h:wpList P ops Q (ops.toList.drop k) a w)(hk:tailOk md ops n k listed=true:=by kernel_rfl)(ht:t<=k:=by decide)(hn:ops.size=k+n:=by rfl):wpAnyS P md ops Q S t n listed a w:=wpAnyS_end n k hk ht hn h
end
end Go.Proofs.Yteaimnemobnknaa
namespace Go.Proofs.Yteaimnemobnknaa
open Go.RowKit
theorem keep_cell{W w1:World}(hb:Below W.heap.size W w1){b o:Nat}{v:Value}(h:W.cell? ⟨b,o,none⟩=some v):w1.cell? ⟨b,o,none⟩=some v:=by
 rw[hb.cell (p:=⟨b,o,none⟩) (World.block_lt_of_cell? _ _ h)];exact h
theorem keep_free{W w1:World}(hb:Below W.heap.size W w1){b o:Nat}(hl:b<W.heap.size)(h:W.frozen? ⟨b,o,none⟩=false):w1.frozen? ⟨b,o,none⟩=false:=by
 rw[hb.frozen (p:=⟨b,o,none⟩) hl];exact h
def IntsAt(w:World)(A:Option Addr)(n:Nat)(f:Nat->Int):Prop:=∀i,i<n->∃b o,A=some ⟨b,o,none⟩/\w.cell? ⟨b,o+i,none⟩=some (.int .i64 (f i))
theorem IntsAt.keep{W w1:World}{A:Option Addr}{n:Nat}{f:Nat->Int}(hb:Below W.heap.size W w1)(h:IntsAt W A n f):IntsAt w1 A n f:=λi hi=>by
 obtain⟨b,o,e,hc⟩:=h i hi
 exact⟨b,o,e,keep_cell hb hc⟩
theorem IntsAt.drew{w:World}{A:Option Addr}{n:Nat}{f:Nat->Int}(h:IntsAt w A n f):IntsAt w.drew A n f:=λi hi=>h i hi
theorem IntsAt.alloc{w:World}{A:Option Addr}{n:Nat}{f:Nat->Int}(h:IntsAt w A n f)(o:Obj):IntsAt (w.alloc o) A n f:=h.keep ((Below.refl _ w).alloc (Nat.le_refl _) o)
theorem IntsAt.nil(w:World)(A:Option Addr)(f:Nat->Int):IntsAt w A 0 f:=λi hi=>by omega
structure OnlyB(b:Nat)(w w':World):Prop where
 os:w'.os=w.os
 tape:w'.tape=w.tape
 output:w'.output=w.output
 size:w.heap.size<=w'.heap.size
 block:∀k,k<w.heap.size->k≠b->w'.heap[k]?=w.heap[k]?
theorem OnlyB.refl(b:Nat)(w:World):OnlyB b w w:=⟨rfl,rfl,rfl,Nat.le_refl _,λ_ _ _=>rfl⟩
theorem OnlyB.trans{b:Nat}{x y z:World}(h:OnlyB b x y)(k:OnlyB b y z):OnlyB b x z:=
 ⟨k.os.trans h.os,k.tape.trans h.tape,k.output.trans h.output,Nat.le_trans h.size k.size,λi hi hb=>(k.block i (Nat.lt_of_lt_of_le hi h.size) hb).trans (h.block i hi hb)⟩
theorem OnlyB.drew{b:Nat}{x y:World}(h:OnlyB b x y):OnlyB b x y.drew:=⟨h.os,h.tape,h.output,h.size,h.block⟩
theorem OnlyB.setCell{b:Nat}{x y:World}(h:OnlyB b x y)(o:Nat)(s:Option Nat)(v:Value):OnlyB b x (y.setCell ⟨b,o,s⟩ v):=
 h.trans ⟨rfl,rfl,rfl,by simp[World.setCell],λk _ hk=>Below.heap_setCell _ _ _ _ hk⟩
theorem OnlyB.alloc{b:Nat}{x y:World}(h:OnlyB b x y)(o:Obj):OnlyB b x (y.alloc o):=
 h.trans ⟨rfl,rfl,rfl,by simp,λk hk _=>Below.heap_alloc _ _ _ hk⟩
theorem OnlyB.of_below{b:Nat}{x y:World}(h:Below x.heap.size x y):OnlyB b x y:=⟨h.os,h.tape,h.output,h.size,λk hk _=>h.block k hk⟩
theorem OnlyB.below{b c:Nat}{x y:World}(h:OnlyB b x y)(hb:c<=b)(hc:c<=x.heap.size):Below c x y:=
 ⟨h.os,h.tape,h.output,h.size,λk hk=>h.block k (by omega) (by omega)⟩
theorem OnlyB.cell{b:Nat}{x y:World}(h:OnlyB b x y){p:Addr}(hl:p.block<x.heap.size)(hp:p.block≠b):y.cell? p=x.cell? p:=World.cell?_of_block (w:=x) (h.block p.block hl hp)
theorem OnlyB.frozen{b:Nat}{x y:World}(h:OnlyB b x y){p:Addr}(hl:p.block<x.heap.size)(hp:p.block≠b):y.frozen? p=x.frozen? p:=World.frozen?_of_block (w:=x) (h.block p.block hl hp)
def Row(w:World)(b n:Nat)(f:Nat->Int):Prop:=∀i,i<n->w.cell? ⟨b,i,none⟩=some (.int .i64 (f i))/\w.frozen? ⟨b,i,none⟩=false
theorem Row.drew{w:World}{b n:Nat}{f:Nat->Int}(h:Row w b n f):Row w.drew b n f:=λi hi=>h i hi
theorem Row.keep{W w1:World}{b n:Nat}{f:Nat->Int}(hb:Below W.heap.size W w1)(h:Row W b n f):Row w1 b n f:=λi hi=>
 ⟨keep_cell hb (h i hi).1,keep_free hb (World.block_lt_of_cell? _ _ (h i hi).1) (h i hi).2⟩
theorem Row.alloc{w:World}{b n:Nat}{f:Nat->Int}(h:Row w b n f)(o:Obj):Row (w.alloc o) b n f:=h.keep ((Below.refl _ w).alloc (Nat.le_refl _) o)
theorem Row.only{W w1:World}{b c n:Nat}{f:Nat->Int}(ho:OnlyB c W w1)(hbc:b≠c)(h:Row W b n f):Row w1 b n f:=λi hi=>by
 have hl:=World.block_lt_of_cell? _ _ (h i hi).1
 exact⟨by rw[ho.cell (p:=⟨b,i,none⟩) hl hbc];exact(h i hi).1,by rw[ho.frozen (p:=⟨b,i,none⟩) hl hbc];exact(h i hi).2⟩
theorem IntsAt.only{W w1:World}{c n:Nat}{A:Option Addr}{f:Nat->Int}(ho:OnlyB c W w1)(hbc:∀b o,A=some ⟨b,o,none⟩->b≠c)(h:IntsAt W A n f):IntsAt w1 A n f:=λi hi=>by
 obtain⟨b,o,e,hc⟩:=h i hi
 exact⟨b,o,e,by rw[ho.cell (p:=⟨b,o+i,none⟩) (World.block_lt_of_cell? _ _ hc) (hbc b o e)];exact hc⟩
theorem Row.set{w:World}{b n:Nat}{f:Nat->Int}(h:Row w b n f){j:Nat}(hj:j<n)(v:Int):Row (w.setCell ⟨b,j,none⟩ (.int .i64 v)) b n (updT f j v):=by
 intro i hi
 refine⟨?_,by rw[World.frozen?_setCell];exact(h i hi).2⟩
 unfold updT
 by_cases e:i=j
 ·subst e;rw[if_pos rfl];exact World.cell?_setCell_same _ _ _ (h i hi).1
 ·rw[if_neg e,World.cell?_setCell_other]
  ·exact(h i hi).1
  ·exact λh=>e (congrArg Addr.off h).symm
theorem Row.congr{w:World}{b n:Nat}{f g:Nat->Int}(h:Row w b n f)(e:∀i,i<n->f i=g i):Row w b n g:=λi hi=>by rw[<-e i hi];exact h i hi
theorem IntsAt.congr{w:World}{A:Option Addr}{n:Nat}{f g:Nat->Int}(h:IntsAt w A n f)(e:∀i,i<n->f i=g i):IntsAt w A n g:=λi hi=>by rw[<-e i hi];exact h i hi
theorem Row.ints{w:World}{b n:Nat}{f:Nat->Int}(h:Row w b n f):IntsAt w (some ⟨b,0,none⟩) n f:=λi hi=>⟨b,0,rfl,by rw[Nat.zero_add];exact(h i hi).1⟩
theorem Row.keepAt{c:Nat}{W w1:World}{b n:Nat}{f:Nat->Int}(hb:Below c W w1)(hc:b<c)(h:Row W b n f):Row w1 b n f:=λi hi=>
 ⟨(hb.cell (p:=⟨b,i,none⟩) hc).trans (h i hi).1,(hb.frozen (p:=⟨b,i,none⟩) hc).trans (h i hi).2⟩
theorem IntsAt.keepAt{c:Nat}{W w1:World}{A:Option Addr}{n:Nat}{f:Nat->Int}(hb:Below c W w1)(hc:0<n->∀b o,A=some ⟨b,o,none⟩->b<c)(h:IntsAt W A n f):IntsAt w1 A n f:=λi hi=>by
 obtain⟨b,o,e,hcell⟩:=h i hi
 exact⟨b,o,e,(hb.cell (p:=⟨b,o+i,none⟩) (hc (by omega) b o e)).trans hcell⟩
theorem IntsAt.block{w:World}{A:Option Addr}{n:Nat}{f:Nat->Int}(h:IntsAt w A n f)(hn:0<n):∀b o,A=some ⟨b,o,none⟩->b<w.heap.size:=λb o e=>by
 obtain⟨b',o',e',hc⟩:=h 0 hn
 rw[e] at e'
 cases e'
 exact World.block_lt_of_cell? _ _ hc
def zs(n:Nat):Array Value:=madeCells #[.int .i64 0] n
theorem info_int64:(Try.prog.info? 2).map (λi=>(i.zero,i.size,i.bytes))=some (some (.int .i64 0),1,8):=by kernel_rfl
theorem info_int:(Try.prog.info? 3).map (λi=>(i.zero,i.size,i.bytes))=some (some (.int .i64 0),1,8):=by kernel_rfl
theorem mk_int64(n:Nat)(hn:n<=17592186044416)(w:World):(Instr.makeSlice 38 (.int .i64 n) (.int .i64 n)).run Try.prog w=.ok (.slice (some ⟨w.heap.size,0,none⟩) n n) (w.alloc (.cells (zs n) 2)):=by
 obtain⟨i0,hi,hz0,hz1,hz2⟩:=info_parts info_int64
 have h:=run_make (P:=Try.prog) w 38 2 i0 _ Try.underlying38 hi hz0 .i64 .i64 n n (by omega) (by omega) (by rw[hz2];omega) (by omega)
 rw[hz1] at h
 simpa[zs,Value.cells] using h
theorem mk_int(n:Nat)(hn:n<=17592186044416)(w:World):(Instr.makeSlice 43 (.int .i64 n) (.int .i64 n)).run Try.prog w=.ok (.slice (some ⟨w.heap.size,0,none⟩) n n) (w.alloc (.cells (zs n) 3)):=by
 obtain⟨i0,hi,hz0,hz1,hz2⟩:=info_parts info_int
 have h:=run_make (P:=Try.prog) w 43 3 i0 _ Try.underlying43 hi hz0 .i64 .i64 n n (by omega) (by omega) (by rw[hz2];omega) (by omega)
 rw[hz1] at h
 simpa[zs,Value.cells] using h
theorem zs_row(n:Nat)(w:World)(t:TypeId):Row (w.alloc (.cells (zs n) t)) w.heap.size n (λ_=>0):=by
 intro i hi
 refine⟨?_,World.frozen?_alloc_new _ _ _ _⟩
 rw[World.cell?_alloc_new,zs]
 simp[madeCells,hi,Nat.mod_one]
theorem wrap64_nat(d:Nat)(h:d<9223372036854775808):wrap64 (d:Int)=d:=by unfold wrap64;omega
theorem wrapI_nat(d:Nat)(h:d<9223372036854775808):IntKind.i64.wrap (d:Int)=d:=by rw[IntKind.wrap_i64];omega
theorem bcell{W w1:World}(hb:Below W.heap.size W w1):(∀b o,b<W.heap.size->w1.cell? ⟨b,o,none⟩=W.cell? ⟨b,o,none⟩)/\(∀b o,b<W.heap.size->w1.frozen? ⟨b,o,none⟩=W.frozen? ⟨b,o,none⟩):=
 ⟨λb o h=>hb.cell (p:=⟨b,o,none⟩) h,λb o h=>hb.frozen (p:=⟨b,o,none⟩) h⟩
theorem Row.drewN{w:World}{b n:Nat}{f:Nat->Int}(h:Row w b n f)(k:Nat):Row (w.drewN k) b n f:=λi hi=>h i hi
theorem IntsAt.drewN{w:World}{A:Option Addr}{n:Nat}{f:Nat->Int}(h:IntsAt w A n f)(k:Nat):IntsAt (w.drewN k) A n f:=λi hi=>h i hi
theorem below_drewN{c:Nat}{W w:World}(h:Below c W w)(n:Nat):Below c W (w.drewN n):=⟨h.os,h.tape,h.output,h.size,h.block⟩
end Go.Proofs.Yteaimnemobnknaa
namespace Go.Proofs.Yteaimnemobnknaa
open Go.RowKit Go.Lib
theorem maskN(a:Nat)(ha:a<18446744073709551616):bits .and .u64 (a:Int) 4294967295=((a%4294967296:Nat):Int):=by
 have h:=bits_and_u64_nat a 4294967295 ha (by omega)
 have e:a &&& 4294967295=a%4294967296:=Nat.and_two_pow_sub_one_eq_mod a 32
 rw[e] at h
 exact h
theorem divN(a:Nat):(a:Int)/4294967296=((a/4294967296:Nat):Int):=by omega
theorem mulN(a b:Nat):(a:Int)*(b:Int)=((a*b:Nat):Int):=(Int.natCast_mul a b).symm
theorem addN(a b:Nat):(a:Int)+(b:Int)=((a+b:Nat):Int):=(Int.natCast_add a b).symm
theorem wrapN(a:Nat)(ha:a<18446744073709551616):IntKind.u64.wrap (a:Int)=(a:Int):=by rw[IntKind.wrap_u64];omega
theorem wrapM(a:Nat):IntKind.u64.wrap (a:Int)=((a%18446744073709551616:Nat):Int):=by rw[IntKind.wrap_u64];omega
theorem mul64_any(x y:Nat)(hx:x<18446744073709551616)(hy:y<18446744073709551616)(w:World):
  Calls Try.prog 120 #[.int .u64 x,.int .u64 y] w λe w'=>e=.returned (.tuple #[.int .u64 ((x*y/18446744073709551616:Nat):Int),.int .u64 ((x*y%18446744073709551616:Nat):Int)])/\w=w':=by
 obtain⟨bd,bt,bw,hhi⟩:=Lib.mul64_hi x y hx hy
 have ba:=Lib.half_mul_le (a:=x/4294967296) (b:=y/4294967296) (by omega) (by omega)
 have bb:=Lib.half_mul_le (a:=x/4294967296) (b:=y%4294967296) (by omega) (by omega)
 have bc:=Lib.half_mul_le (a:=x%4294967296) (b:=y/4294967296) (by omega) (by omega)
 have ba':x/4294967296*(y/4294967296)<18446744073709551616:=by omega
 have bb':x/4294967296*(y%4294967296)<18446744073709551616:=by omega
 have bc':x%4294967296*(y/4294967296)<18446744073709551616:=by omega
 have bh1:x/4294967296*(y/4294967296)+(x/4294967296*(y%4294967296)+x%4294967296*(y%4294967296)/4294967296)/4294967296<18446744073709551616:=by omega
 have bh:x/4294967296*(y/4294967296)+(x/4294967296*(y%4294967296)+x%4294967296*(y%4294967296)/4294967296)/4294967296+((x/4294967296*(y%4294967296)+x%4294967296*(y%4294967296)/4294967296)%4294967296+x%4294967296*(y/4294967296))/4294967296<18446744073709551616:=by omega
 go_enter Try.func120,Try.ntmps120
 go_wp2
 simp only[maskN x hx,maskN y hy,divN,mulN,addN,wrapN _ bd,wrapN _ bb',wrapN _ bt,maskN _ bt,wrapN _ bc',wrapN _ bw,wrapN _ ba',wrapN _ bh1,wrapN _ bh,wrapM (x*y)]
 rw[hhi]
 go_ret2
 exact⟨rfl,rfl⟩
theorem unit_any(s:Int)(w:World):Calls Try.prog 113 #[.int .i64 s] w λe w'=>e=.returned (.int .i64 (unitI s))/\w=w':=by
 unfold unitI
 by_cases h:s<0
 ·rw[if_pos h]
  go_enter Try.func113,Try.ntmps113
  go_wp2
  go_ret
  exact⟨rfl,rfl⟩
 ·rw[if_neg h]
  go_enter Try.func113,Try.ntmps113
  go_wp2
  go_ret
  exact⟨rfl,rfl⟩
theorem rest_any(a m:Int)(w:World)(hm:1<=m)(hm2:m<=4611686018427387904)(ha:-9223372036854775808<=a)(ha2:a<=9223372036854775807):
  Calls Try.prog 101 #[.int .i64 a,.int .i64 m] w λe w'=>e=.returned (.int .u64 (a%m))/\w=w':=by
 have h0:=Int.emod_nonneg a (show m≠0 by omega)
 have h1:=Int.emod_lt_of_pos a (show 0<m by omega)
 by_cases h:0<=a
 ·obtain⟨r,hr⟩:∃r,a%m=r:=⟨_,rfl⟩
  rw[hr] at h0 h1|-
  have ht:a.tmod m=r:=by rw[Int.tmod_eq_emod_of_nonneg h];exact hr
  have hm0:¬m=0:=by omega
  have hn:¬r<0:=by omega
  clear hr
  go_enter Try.func101,Try.ntmps101
  go_wp2
  go_ret
  exact⟨rfl,rfl⟩
 ·obtain⟨r,hr⟩:∃r,a.tmod m=r:=⟨_,rfl⟩
  have hm0:¬m=0:=by omega
  have ht:=Int.tmod_eq_emod (a:=a) (b:=m)
  have h2:-m<r/\r<=0:=by
   have e1:(-a).tmod m=-r:=by rw[Int.neg_tmod,hr]
   have e2:=Int.tmod_nonneg m (show 0<=-a by omega)
   have e3:=Int.tmod_lt_of_pos (-a) (show 0<m by omega)
   omega
  obtain⟨h2a,h2b⟩:=h2
  by_cases hz:r=0
  ·subst hz
   have e:a%m=0:=by
    rw[hr] at ht
    have:=Int.emod_def a m
    have h4:m∣a:=Int.dvd_of_tmod_eq_zero hr
    exact Int.emod_eq_zero_of_dvd h4
   rw[e]
   clear ht e h0 h1
   go_enter Try.func101,Try.ntmps101
   go_wp2
   go_ret
   exact⟨rfl,rfl⟩
  ·have e:a%m=r+m:=by
     have q1:=Int.mul_tdiv_add_tmod a m
     rw[hr] at q1
     have e4:a%m=(r+m)%m:=by
      have:a=(r+m)+m*(a.tdiv m-1):=by rw[Int.mul_sub];omega
      rw[this,Int.add_mul_emod_self_left]
     rw[e4,Int.emod_eq_of_lt (by omega) (by omega)]
   have hn:r<0:=by omega
   rw[e]
   clear ht e h0 h1
   go_enter Try.func101,Try.ntmps101
   go_wp2
   go_ret
   exact⟨rfl,rfl⟩
abbrev Qt(w w':World):Prop:=∃n,w'=w.drewN n
theorem Qt.refl(w:World):Qt w w:=⟨0,rfl⟩
theorem Qt.trans{a b c:World}(h:Qt a b)(k:Qt b c):Qt a c:=by
 obtain⟨n,rfl⟩:=h
 obtain⟨m,rfl⟩:=k
 exact⟨n+m,by rw[World.drewN_drewN]⟩
theorem Qt.below{w w':World}(h:Qt w w'):Below w.heap.size w w':=by
 obtain⟨n,rfl⟩:=h
 exact below_drewN (Below.refl _ w) n
theorem div64_low(x y:Nat)(hx:x<18446744073709551616)(hy:y<18446744073709551616)(hy0:1<=y)(w:World):
  Calls Try.prog 121 #[.int .u64 0,.int .u64 x,.int .u64 y] w λe w'=>e=.returned (.tuple #[.int .u64 ((x/y:Nat):Int),.int .u64 ((x%y:Nat):Int)])/\Qt w w':=by
 have h0:((y:Int)==0)=false:=by rw[beq_eq_false_iff_ne];omega
 have h1:¬(y:Int)<=0:=by omega
 have hd:((x/y:Nat):Int)=(x:Int)/y:=Int.natCast_ediv x y
 have hm:((x%y:Nat):Int)=(x:Int)%y:=Int.natCast_emod x y
 have hle:(x:Int)/y<=x:=Int.ediv_le_self _ (by omega)
 have hge:0<=(x:Int)/y:=Int.ediv_nonneg (by omega) (by omega)
 have hw:IntKind.u64.wrap ((x:Int)/y)=((x/y:Nat):Int):=by rw[IntKind.wrap_u64,hd];exact Int.emod_eq_of_lt hge (by omega)
 have Hw:=aZ hw
 have Hm:=aZ hm
 clear hd hm hw hle hge
 have hy1:¬(y:Int)=0:=by omega
 go_enter Try.func121,Try.ntmps121
 go_wp2_with fail
 go_quiet (fail)
 go_wp2
 rw[Hw.out,<-Hm.out]
 go_ret2
 exact⟨rfl,nq,rfl⟩
theorem mul_any(a b m:Nat)(ha:a<m)(hb:b<m)(hm:m<=2147483648)(w:World):
  Calls Try.prog 100 #[.int .u64 a,.int .u64 b,.int .u64 m] w λe w'=>e=.returned (.int .u64 ((a*b%m:Nat):Int))/\Qt w w':=by
 have hab:a*b<=2147483648*2147483648:=Nat.mul_le_mul (by omega) (by omega)
 obtain⟨p,hp⟩:∃p,a*b=p:=⟨_,rfl⟩
 have H1:=aZ (λw=>mul64_any a b (by omega) (by omega) w)
 have H2:=aZ (λw=>div64_low p m (by omega) (by omega) (by omega) w)
 rw[hp] at H1
 rw[hp] at hab|-
 have e1:p/18446744073709551616=0:=by omega
 have e2:p%18446744073709551616=p:=by omega
 rw[e1,e2] at H1
 clear e1 e2
 go_enter Try.func100,Try.ntmps100
 go_wp2_with fail
 refine(H1.out _).mono ?_
 rintro e w' ⟨rfl,rfl⟩
 go_wp2_with fail
 refine(H2.out _).mono ?_
 rintro e w' ⟨rfl,n,rfl⟩
 go_wp2
 go_ret
 exact⟨rfl,n,rfl⟩
theorem modulus_any(m:Int)(hm:1<=m)(hm2:m<=4611686018427387904)(w:World):Calls Try.prog 99 #[.int .i64 m] w λe w'=>e=.returned (.bool true)/\w=w':=by
 go_enter Try.func99,Try.ntmps99
 go_wp2
 go_ret
 exact⟨rfl,rfl⟩
theorem Mul_any(a b:Int)(m:Nat)(m1:1<=m)(hm:m<=2147483648)(ha:-9223372036854775808<=a)(ha2:a<=9223372036854775807)(hb:-9223372036854775808<=b)(hb2:b<=9223372036854775807)(w:World):
  Calls Try.prog 70 #[.int .i64 a,.int .i64 b,.int .i64 m] w λe w'=>e=.returned (.int .i64 (a*b%m))/\Qt w w':=by
 have a0:=Int.emod_nonneg a (show(m:Int)≠0 by omega)
 have a1:=Int.emod_lt_of_pos a (show(0:Int)<m by omega)
 have b0:=Int.emod_nonneg b (show(m:Int)≠0 by omega)
 have b1:=Int.emod_lt_of_pos b (show(0:Int)<m by omega)
 have hab:((a%m)*(b%m))%m=a*b%m:=by rw[<-Int.mul_emod]
 have h1:=rest_any a m
 have h2:=rest_any b m
 obtain⟨x,hx⟩:=Int.eq_ofNat_of_zero_le a0
 obtain⟨y,hy⟩:=Int.eq_ofNat_of_zero_le b0
 rw[hx] at h1 a1 hab
 rw[hy] at h2 b1 hab
 have hab2:((x*y%m:Nat):Int)=a*b%m:=by rw[<-hab,Int.natCast_emod,Int.natCast_mul]
 obtain⟨p,hp⟩:∃p,x*y%m=p:=⟨_,rfl⟩
 have hpm:p<m:=by rw[<-hp];exact Nat.mod_lt _ (by omega)
 rw[hp] at hab2
 have h3:=λw=>mul_any x y m (by omega) (by omega) hm w
 rw[hp] at h3
 have H1:=aZ (λw=>h1 w (by omega) (by omega) ha ha2)
 have H2:=aZ (λw=>h2 w (by omega) (by omega) hb hb2)
 have H3:=aZ h3
 rw[<-hab2]
 clear hx hy hab hab2 h1 h2 h3 hp a0 b0
 have HM:=aZ (λw=>modulus_any m (by omega) (by omega) w)
 go_enter Try.func70,Try.ntmps70
 go_wp2_with fail
 refine(HM.out _).mono ?_
 rintro e w' ⟨rfl,rfl⟩
 go_wp2_with fail
 refine(H1.out _).mono ?_
 rintro e w' ⟨rfl,rfl⟩
 go_wp2_with fail
 refine(H2.out _).mono ?_
 rintro e w' ⟨rfl,rfl⟩
 go_wp2_with fail
 refine(H3.out _).mono ?_
 rintro e w' ⟨rfl,n,rfl⟩
 go_wp2
 go_ret
 exact⟨rfl,n,rfl⟩
theorem i64_and1(n:Int):bits .and .i64 n 1=n%2:=by
 have h127:(BitVec.ofInt 64 1).toNat=2^1-1:=by decide
 have key:(BitVec.ofInt 64 n &&& BitVec.ofInt 64 1).toNat=(n%((2^64:Nat):Int)).toNat%2^1:=by
  rw[BitVec.toNat_and,BitVec.toNat_ofInt,h127,Nat.and_two_pow_sub_one_eq_mod]
 show IntKind.i64.wrap ((BitVec.ofInt 64 n &&& BitVec.ofInt 64 1).toNat:Nat)=n%2
 rw[key,IntKind.wrap_i64]
 omega
theorem Pow_any(a:Int)(x e m:Nat)(hx:a%(m:Int)=x)(m1:1<=m)(hm:m<=2147483648)(ha:-9223372036854775808<=a)(ha2:a<=9223372036854775807)(he:e<=9223372036854775807)(w:World):
  Calls Try.prog 71 #[.int .i64 a,.int .i64 e,.int .i64 m] w λz w'=>z=.returned (.int .i64 (pmod x e m:Nat))/\Qt w w':=by
 have h1:=rest_any a m
 have h2:=rest_any 1 m
 have x1:=Int.emod_lt_of_pos a (show(0:Int)<m by omega)
 rw[hx] at h1 x1
 obtain⟨u,hu⟩:∃u:Nat,(1:Int)%m=u:=⟨1%m,by rw[Int.natCast_emod];rfl⟩
 have hum:(1:Int)%m<m:=Int.emod_lt_of_pos 1 (show(0:Int)<m by omega)
 rw[hu] at h2 hum
 have H0:PowS (pmod x e m) m e x u:=⟨by
  have:u=1%m:=by
   have:(u:Int)=((1%m:Nat):Int):=by rw[<-hu,Int.natCast_emod];rfl
   omega
  rw[this]
  unfold pmod
  rw[<-Nat.mul_mod_mod,Nat.mod_mul_mod,Nat.one_mul,Nat.mod_mod]⟩
 have H1:=aZ (λw=>h1 w (by omega) (by omega) ha ha2)
 have H2:=aZ (λw=>h2 w (by omega) (by omega) (by omega) (by omega))
 have HP:=aZ H0
 have HM:=aZ (λw=>modulus_any m (by omega) (by omega) w)
 have HX:=aZ (λa b (ha:a<m) (hb:b<m) w=>mul_any a b m ha hb hm w)
 clear h1 h2 hx hu H0
 generalize pmod x e m=T at*
 go_enter Try.func71,Try.ntmps71
 go_wp2_with fail
 refine(HM.out _).mono ?_
 rintro z w' ⟨rfl,rfl⟩
 go_wp2_with fail
 refine(H1.out _).mono ?_
 rintro z w' ⟨rfl,rfl⟩
 go_wp2_with fail
 refine(H2.out _).mono ?_
 rintro z w' ⟨rfl,rfl⟩
 go_wp2
 go_loopw [1,7,8] (λve vx vo wr=>∃e x o:Nat,ve=.int .i64 e/\vx=.int .u64 x/\vo=.int .u64 o/\e<=9223372036854775807/\x<m/\o<m/\Hid (PowS T m e x o)/\Hid (Qt w wr)) (λve _ _ _=>(intOf ve).toNat)
 case atStart=>exact⟨e,x,u,rfl,rfl,rfl,he,by omega,by omega,HP,aZ (Qt.refl _)⟩
 case round=>
  clear HP
  obtain⟨e,x,o,rfl,rfl,rfl,he,hx,ho,hp,hq⟩:=hrel
  by_cases h0:e=0
  ·subst h0
   have hr:=PowS.done hp.out ho
   subst hr
   go_wp2
   go_ret
   exact⟨rfl,hq.out⟩
  ·have hpos:(0:Int)<e:=by omega
   have hsh:((e/2:Nat):Int)=(e:Int)/2:=by omega
   rcases Nat.mod_two_eq_zero_or_one e with h2|h2
   ·have hb:bits .and .i64 (e:Int) 1=0:=by rw[i64_and1];omega
    have hn:=PowS.even (e:=e/2) (by rw[show 2*(e/2)=e from by omega];exact hp.out)
    have HN:=aZ hn
    have HB:=aZ hsh
    clear hn h2 hsh
    go_wp2_with fail
    refine(HX.out _ _ hx hx _).mono ?_
    rintro z w' ⟨rfl,hq2⟩
    have hxm:x*x%m<m:=Nat.mod_lt _ m1
    have HQ:=aZ (Qt.trans hq.out hq2)
    clear hq2
    go_wp2
    exact⟨⟨e/2,x*x%m,o,by rw[HB.out],rfl,rfl,by omega,hxm,ho,HN,HQ⟩,by simp[intOf];omega⟩
   ·have hb:bits .and .i64 (e:Int) 1=1:=by rw[i64_and1];omega
    have hn:=PowS.odd (e:=e/2) (by rw[show 2*(e/2)+1=e from by omega];exact hp.out)
    have HN:=aZ hn
    have HB:=aZ hsh
    clear hn h2 hsh
    go_wp2_with fail
    refine(HX.out _ _ ho hx _).mono ?_
    rintro z w' ⟨rfl,hq2⟩
    have HQ1:=aZ (Qt.trans hq.out hq2)
    clear hq2
    go_wp2_with fail
    refine(HX.out _ _ hx hx _).mono ?_
    rintro z w' ⟨rfl,hq2⟩
    have hxm:x*x%m<m:=Nat.mod_lt _ m1
    have hom:o*x%m<m:=Nat.mod_lt _ m1
    have HQ:=aZ (Qt.trans HQ1.out hq2)
    clear hq2
    go_wp2
    exact⟨⟨e/2,x*x%m,o*x%m,by rw[HB.out],rfl,rfl,by omega,hxm,hom,HN,HQ⟩,by simp[intOf];omega⟩
theorem oddL_step(f d:Nat):oddL (f+1) d=if d%2=0 then oddL f (d/2) else d:=by
 show(bif _ then _ else _)=_
 rw[bif_eq]
theorem strL_step(f d x n:Nat):strL (f+1) d x n=if n-1<=d then false else if x=n-1 then true else strL f (d*2) (x*x%n) n:=by
 show(bif _ then _ else _)=_
 rw[bif_le,bif_eq]
theorem oddL_bd(f:Nat):∀d,1<=d->1<=oddL f d/\oddL f d<=d:=by
 induction f with
 |zero=>intro d h;exact⟨h,Nat.le_refl _⟩
 |succ f ih=>
   intro d h
   rw[oddL_step]
   by_cases e:d%2=0
   ·rw[if_pos e]
    have:=ih (d/2) (by omega)
    omega
   ·rw[if_neg e];omega
theorem strong_any(n b:Nat)(hn:2<=n)(hn2:n<=2147483648)(hb:b<=2147483648)(w:World):
  Calls Try.prog 118 #[.int .i64 n,.int .i64 b] w λz w'=>z=.returned (.bool (strongB n b))/\Qt w w':=by
 have hD:=oddL_bd 64 (n-1) (by omega)
 obtain⟨D,hDe⟩:∃D,oddL 64 (n-1)=D:=⟨_,rfl⟩
 have hS:strongB n b=if pmod b D n=1 then true else strL 64 D (pmod b D n) n:=by
  unfold strongB
  rw[bif_eq,hDe,pmB_eq _ _ _ (by omega) (by omega)]
 have hp:pmod (b%n) D n=pmod b D n:=by unfold pmod;rw[<-Nat.pow_mod]
 have hP:=Pow_any (b:Int) (b%n) D n (by rw[Int.natCast_emod]) (by omega) hn2 (by omega) (by omega) (by omega)
 rw[hp] at hP
 have hX:=pmod_lt b D n (by omega)
 obtain⟨X,hXe⟩:∃X,pmod b D n=X:=⟨_,rfl⟩
 rw[hXe] at hS hP hX
 rw[hDe] at hD
 have HDe:=aZ hDe
 have HS:=aZ hS
 have HP:=aZ hP
 have HM:=aZ (λ(x:Nat) (hx:x<n) w=>Mul_any (x:Int) (x:Int) n (by omega) hn2 (by omega) (by omega) (by omega) (by omega) w)
 clear hDe hS hp hP hXe
 generalize strongB n b=S at*
 have hn1:((n:Int)-1)=((n-1:Nat):Int):=by omega
 have HN1:=aZ hn1
 clear hn1
 go_enter Try.func118,Try.ntmps118
 go_wp2
 go_loop [5] (λv=>∃f d:Nat,v=.int .i64 d/\1<=d/\d<2147483648/\d<2^f/\Hid (oddL f d=D)) (λv=>(intOf v).toNat)
 case atStart=>exact⟨64,n-1,by rw[<-HN1.out],by omega,by omega,by omega,HDe⟩
 case round=>
  clear HDe
  obtain⟨f,d,rfl,hd1,hd2,hdf,hod⟩:=hrel
  obtain⟨f,rfl⟩:∃f',f=f'+1:=⟨f-1,by
   have:f≠0:=by rintro rfl;omega
   omega⟩
  have ho:=hod.out
  rw[oddL_step] at ho
  rcases Nat.mod_two_eq_zero_or_one d with h2|h2
  ·rw[if_pos h2] at ho
   have HO:=aZ ho
   have hi:(d:Int)%2=0:=by omega
   have hh:(d:Int)/2=((d/2:Nat):Int):=by omega
   have HH:=aZ hh
   clear ho hh h2
   go_wp2
   exact⟨⟨f,d/2,by rw[HH.out],by omega,by omega,by rw[Nat.pow_succ] at hdf;omega,HO⟩,by simp[intOf];omega⟩
  ·rw[if_neg (by omega)] at ho
   subst ho
   have hi:((d:Int)%2==0)=false:=by rw[beq_eq_false_iff_ne];omega
   clear h2 hod
   go_wp2_with fail
   refine(HP.out _).mono ?_
   rintro z w' ⟨rfl,hq⟩
   have HQ:=aZ hq
   clear hq
   by_cases hX1:X=1
   ·have HR:Hid (S=true):=aZ (by rw[HS.out,if_pos hX1])
    subst hX1
    go_wp2
    go_ret
    exact⟨by rw[HR.out];rfl,HQ.out⟩
   ·have HR:Hid (strL 64 d X n=S):=aZ (by rw[HS.out,if_neg hX1])
    have hX1':((X:Int)==1)=false:=by rw[beq_eq_false_iff_ne];omega
    clear HP HS
    go_wp2
    go_loopw [5,6] (λv vx wr=>∃f d x:Nat,v=.int .i64 d/\vx=.int .i64 x/\1<=d/\d<4294967296/\x<n/\n-1<=d*2^f/\Hid (strL f d x n=S)/\Hid (Qt w wr)) (λv _ _=>n-(intOf v).toNat)
    case atStart=>exact⟨64,d,X,rfl,rfl,by omega,by omega,by omega,by omega,HR,HQ⟩
    case round=>
     clear HR HQ
     obtain⟨f,d',x,rfl,rfl,hd1',hd',hx,hdf,hst,hq⟩:=hrel
     by_cases hlt:d'<n-1
     ·obtain⟨f,rfl⟩:∃f',f=f'+1:=⟨f-1,by
        have:f≠0:=by rintro rfl;omega
        omega⟩
      have hs:=hst.out
      rw[strL_step,if_neg (by omega)] at hs
      have hlt':(d':Int)<(n:Int)-1:=by omega
      by_cases hxn:x=n-1
      ·rw[if_pos hxn] at hs
       have HE:=aZ hs
       have hxe:(x:Int)=(n:Int)-1:=by omega
       have hxb:((x:Int)==(n:Int)-1)=true:=by rw[beq_iff_eq];exact hxe
       clear hs hxe hxn
       go_wp2
       go_ret
       exact⟨by rw[HE.out];rfl,hq.out⟩
      ·rw[if_neg hxn] at hs
       have HE:=aZ hs
       have hxb:((x:Int)==(n:Int)-1)=false:=by rw[beq_eq_false_iff_ne];omega
       clear hs hxn
       go_wp2_with fail
       refine(HM.out x hx _).mono ?_
       rintro z w2 ⟨rfl,hq2⟩
       have HQ2:=aZ (Qt.trans hq.out hq2)
       have hxx:(x:Int)*x%n=((x*x%n:Nat):Int):=by rw[Int.natCast_emod,Int.natCast_mul]
       rw[hxx]
       have hxl:x*x%n<n:=Nat.mod_lt _ (by omega)
       generalize x*x%n=y at*
       clear hq2 hxx
       go_wp2
       exact⟨⟨f,d'*2,y,by go_num,rfl,by omega,by omega,hxl,by rw[Nat.pow_succ,Nat.mul_comm (2^f),<-Nat.mul_assoc] at hdf;omega,HE,HQ2⟩,by simp[intOf];omega⟩
     ·have hlt':¬(d':Int)<(n:Int)-1:=by omega
      have hs:S=false:=by
       rw[<-hst.out]
       rcases f with _|f
       ·rfl
       ·rw[strL_step,if_pos (by omega)]
      have HE:=aZ hs
      clear hs
      go_wp2
      go_ret
      exact⟨by rw[HE.out];rfl,hq.out⟩
theorem divL_step(n b:Nat)(l:List Nat):divL n (b::l)=if n%b=0 then some (Nat.beq n b) else divL n l:=by
 show(bif _ then _ else _)=_
 rw[bif_eq]
def divK(n k:Nat):Option Bool:=divL n (basesL.drop k)
theorem divK_12(n:Nat):divK n 12=none:=rfl
theorem divK_step(n k b:Nat)(hb:basesL[k]?=some b):divK n k=if n%b=0 then some (Nat.beq n b) else divK n (k+1):=by
 unfold divK
 have:basesL.drop k=b::basesL.drop (k+1):=by
  obtain⟨h,e⟩:=List.getElem?_eq_some_iff.1 hb
  rw[<-List.getElem_cons_drop h,e]
 rw[this,divL_step]
def allK(n k:Nat):Bool:=allS n (basesL.drop k)
theorem allK_12(n:Nat):allK n 12=true:=rfl
theorem allK_step(n k b:Nat)(hb:basesL[k]?=some b):allK n k=if strongB n b=true then allK n (k+1) else false:=by
 unfold allK
 have:basesL.drop k=b::basesL.drop (k+1):=by
  obtain⟨h,e⟩:=List.getElem?_eq_some_iff.1 hb
  rw[<-List.getElem_cons_drop h,e]
 rw[this]
 show(bif strongB n b then _ else _)=_
 cases strongB n b<;>rfl
theorem beq_nat(n b:Nat):((n:Int)==(b:Int))=Nat.beq n b:=by
 by_cases h:n=b
 ·subst h;rw[Nat.beq_refl];simp
 ·rw[show Nat.beq n b=false from Bool.eq_false_iff.2 (λe=>h (Nat.eq_of_beq_eq_true e)),beq_eq_false_iff_ne];omega
theorem cast_nat(b:Nat):((OfNat.ofNat b:Nat):Int)=(b:Int):=rfl
theorem twelve{k:Nat}(h:k<12):k=0\/k=1\/k=2\/k=3\/k=4\/k=5\/k=6\/k=7\/k=8\/k=9\/k=10\/k=11:=by omega
theorem base_at(k:Nat)(hk:k<12):∃b:Nat,basesL[k]?=some b/\2<=b/\b<=37/\∀w,(Instr.index 155 (.agg #[Value.int IntKind.i64 2,Value.int IntKind.i64 3,Value.int IntKind.i64 5,Value.int IntKind.i64 7,Value.int IntKind.i64 11,Value.int IntKind.i64 13,Value.int IntKind.i64 17,Value.int IntKind.i64 19,Value.int IntKind.i64 23,Value.int IntKind.i64 29,Value.int IntKind.i64 31,Value.int IntKind.i64 37]) (.int .i64 k)).run Try.prog w=.ok (.int .i64 b) w:=by
 rcases twelve hk with rfl|rfl|rfl|rfl|rfl|rfl|rfl|rfl|rfl|rfl|rfl|rfl
 all_goals exact⟨_,rfl,by omega,by omega,λw=>by kernel_rfl⟩
theorem is_any(n:Nat)(hn2:n<=2147483648)(w:World):
  Calls Try.prog 94 #[.int .i64 n] w λz w'=>z=.returned (.bool (isB n))/\Below w.heap.size w w':=by
 by_cases h2:n<2
 ·have HR:Hid (isB n=false):=aZ (by
    unfold isB
    rw[bif_le,if_pos (by omega)])
  have h2':(n:Int)<2:=by omega
  clear h2
  go_enter Try.func94,Try.ntmps94
  go_wp2
  go_ret
  exact⟨by rw[HR.out];rfl,((Below.refl _ _).alloc (Nat.le_refl _) _)⟩
 ·have HR:Hid (isB n=match divK n 0 with|some r=>r|none=>allK n 0):=aZ (by
    unfold isB
    rw[bif_le,if_neg (by omega)]
    rfl)
  have h2':¬(n:Int)<2:=by omega
  have HS:=aZ (λb (hb:b<=2147483648) w=>strong_any n b (by omega) hn2 hb w)
  clear h2
  generalize isB n=S at*
  go_enter Try.func94,Try.ntmps94
  go_wp2
  have HB0:Hid (Below w.heap.size w (w.alloc (Obj.cells #[Value.int IntKind.i64 2,Value.int IntKind.i64 3,Value.int IntKind.i64 5,Value.int IntKind.i64 7,Value.int IntKind.i64 11,Value.int IntKind.i64 13,Value.int IntKind.i64 17,Value.int IntKind.i64 19,Value.int IntKind.i64 23,Value.int IntKind.i64 29,Value.int IntKind.i64 31,Value.int IntKind.i64 37] 155))):=aZ ((Below.refl _ _).alloc (Nat.le_refl _) _)
  go_loop [16] (λi=>∃k:Nat,k<=12/\i=.int .i64 k/\Hid (S=match divK n k with|some r=>r|none=>allK n 0)) (λi=>12-(intOf i).toNat)
  case atStart=>exact⟨0,by omega,rfl,HR⟩
  case round=>
   clear HR
   obtain⟨k,hk,rfl,hd⟩:=hrel
   by_cases hlt:k<12
   ·obtain⟨b,hb,b2,b37,hix⟩:=base_at k hlt
    have hki:(k:Int)<12:=by omega
    have hdo:=hd.out
    rw[divK_step _ _ _ hb] at hdo
    have hb0:¬(b:Int)=0:=by omega
    clear hd hb
    by_cases hm:n%b=0
    ·rw[if_pos hm] at hdo
     have HE:Hid (S=((n:Int)==(b:Int))):=aZ (by rw[beq_nat n b];exact hdo)
     have hm':((n:Int)%b==0)=true:=by rw[beq_iff_eq,<-Int.natCast_emod,hm];rfl
     clear hm hdo
     go_wp2
     go_ret
     exact⟨by rw[HE.out];rfl,HB0.out⟩
    ·rw[if_neg hm] at hdo
     have HE:=aZ hdo
     have hm':((n:Int)%b==0)=false:=by rw[beq_eq_false_iff_ne,<-Int.natCast_emod];omega
     clear hm hdo
     go_wp2
     exact⟨⟨k+1,by omega,by go_num,HE⟩,by simp[intOf];omega⟩
   ·obtain rfl:k=12:=by omega
    have hdo:Hid (S=allK n 0):=aZ (by have:=hd.out;rw[divK_12] at this;exact this)
    clear hd hlt hk
    go_wp2
    go_loopw [28] (λi wr=>∃k:Nat,k<=12/\i=.int .i64 k/\Hid (S=allK n k)/\Hid (Below w.heap.size w wr)) (λi _=>12-(intOf i).toNat)
    case atStart=>exact⟨0,by omega,rfl,hdo,HB0⟩
    case round=>
     clear hdo HB0
     obtain⟨k,hk,rfl,hd,hbl⟩:=hrel
     by_cases hlt:k<12
     ·obtain⟨b,hb,b2,b37,hix⟩:=base_at k hlt
      have hki:(k:Int)<12:=by omega
      have hdo:=hd.out
      rw[allK_step _ _ _ hb] at hdo
      have HSb:=HS.out b (by omega)
      clear hd hb
      cases hs:strongB n b
      ·rw[hs] at hdo HSb
       have HE:Hid (S=false):=aZ (by rw[hdo];rfl)
       have HSB:=aZ HSb
       clear hs hdo HSb
       go_wp2_with fail
       refine(HSB.out _).mono ?_
       rintro z w' ⟨rfl,hq⟩
       have HB:=aZ (hbl.out.trans (hq.below.mono hbl.out.size))
       clear hq
       go_wp2
       go_ret
       exact⟨by rw[HE.out];rfl,HB.out⟩
      ·rw[hs] at hdo HSb
       have HE:Hid (S=allK n (k+1)):=aZ (by rw[hdo];rfl)
       have HSB:=aZ HSb
       clear hs hdo HSb
       go_wp2_with fail
       refine(HSB.out _).mono ?_
       rintro z w' ⟨rfl,hq⟩
       have HB:=aZ (hbl.out.trans (hq.below.mono hbl.out.size))
       clear hq
       go_wp2
       exact⟨⟨k+1,by omega,by go_num,HE,HB⟩,by simp[intOf];omega⟩
     ·obtain rfl:k=12:=by omega
      have HE:Hid (S=true):=aZ (by rw[hd.out,allK_12])
      clear hd hlt hk
      go_wp2
      go_ret
      exact⟨by rw[HE.out];rfl,hbl.out⟩
def CellsAt(w:World)(A:Option Addr)(xs:List Value):Prop:=∀i v,xs[i]?=some v->∃b o,A=some ⟨b,o,none⟩/\w.cell? ⟨b,o+i,none⟩=some v
theorem CellsAt.keep{W w1:World}{A:Option Addr}{xs:List Value}(hb:Below W.heap.size W w1)(h:CellsAt W A xs):CellsAt w1 A xs:=λi v hi=>by
 obtain⟨b,o,e,hc⟩:=h i v hi
 exact⟨b,o,e,keep_cell hb hc⟩
theorem owns_cells{w:World}{base n sz:Nat}{e:TypeId}{v:Value}{xs:List Value}(h0:w.ownsRow base e sz v n xs):∃A c,v=.slice A n c/\CellsAt w A xs/\n<=c/\c<=maxLen/\(∀b o,A=some ⟨b,o,none⟩->base<=b):=by
 rcases h0.2 with⟨rfl,rfl⟩|⟨b,cap,cur,rfl,hbb,_,h1,h2,_⟩
 ·refine⟨none,0,rfl,?_,by omega,by unfold maxLen;omega,λb o e=>by cases e⟩
  intro i v hi
  have:xs=[]:=List.eq_nil_of_length_eq_zero (by have:=h0.1;simpa using this)
  subst this
  simp at hi
 ·refine⟨_,cap,rfl,λi u hi=>⟨b,0,rfl,?_⟩,h1,h2,λb' o e=>by cases e;exact hbb⟩
  have:=h0.cells (g:=b) rfl i _ hi
  rw[Nat.zero_add]
  rw[Addr.add] at this
  split at this
  ·rename_i e
   subst e
   exact this
  ·simpa using this
theorem owns_grow{w0 w w':World}{base n sz:Nat}{e:TypeId}{v:Value}{xs:List Value}(h:w.ownsRow base e sz v n xs)(hb:Below base w0 w)(hg:w.grownBy w' v.ownBlock)(hs:base<=w.heap.size):Below base w0 w':=
 hb.grown hg hs (λk e=>(World.ownsRow.lt h k e).1)
theorem wpList_appG{ops:Array Oper}{rest:List Oper}{o:Oper}{a:Act}{w:World}{Q:Exit->Act->World->Prop}(hgd:o.guard=none)(s x:Operand)(t e:TypeId)(ho:o.op=.call {callee:=.builtin .append,args:=#[s,x],argTypes:=#[t,t]})(sz bytes:Nat)(z:Value)(hU:Try.prog.underlying t=some (.slice e))(hI:(Try.prog.info? e).map (λi=>(i.zero,i.size,i.bytes))=some (some z,sz,bytes))(hzs:z.cells.size=sz)(hsz:0<sz)(hby:bytes<=64)(base:Nat)(v:Value)(k:Nat)(xs:List Value)(hs:a.eval s=v)(hown:w.ownsRow base e sz v k xs)(b c:Nat)(news:List Value)(hl:news.length=sz)(hx:a.eval x=.slice (some ⟨b,0,none⟩) 1 c)(hn:∀j u,news[j]?=some u->w.cell? ⟨b,j,none⟩=some u)(h1:∀u∈news,u.oneCell'=true)(hk:k+1<=1099511627776)(hbase:base<=w.heap.size)(h:∀v' w',Hid (w'.ownsRow base e sz v' (k+1) (xs++news))->Hid (w.grownBy w' v.ownBlock)->wpList Try.prog ops Q rest (a.put o.dst v') w'):wpList Try.prog ops Q (o::rest) a w:=by
 obtain⟨i0,hi,hz0,hz1,hz2⟩:=info_parts hI
 refine wpList_append_own w hgd s x t ho base e i0 z sz bytes hU hi hz0 hz1 hz2 hzs hsz v k xs hs hown ⟨b,0,none⟩ 1 c news hx (by omega) ?_ h1 (by unfold maxLen;omega) ?_ hbase ?_
 ·intro j u hj
  have:=hn j u hj
  rw[Addr.add]
  split
  ·rename_i e;subst e;exact this
  ·simpa using this
 ·have:(k+1)*bytes<=1099511627776*64:=Nat.mul_le_mul hk hby
  omega
 ·intro v' w' h1 h2 _
  exact h v' w' (aZ h1) (aZ h2)
def pairsV(L:List (Nat×Nat)):List Value:=L.flatMap λp=>[.int .i64 p.1,.int .i64 p.2]
theorem pairsV_app(L:List (Nat×Nat))(p e:Nat):pairsV L++[.int .i64 p,.int .i64 e]=pairsV (L++[(p,e)]):=by
 unfold pairsV
 rw[List.flatMap_append]
 rfl
theorem pairsV_at(L:List (Nat×Nat)):∀(i p e:Nat),L[i]?=some (p,e)->(pairsV L)[2*i]?=some (.int .i64 p)/\(pairsV L)[2*i+1]?=some (.int .i64 e):=by
 induction L with
 |nil=>intro i p e h;simp at h
 |cons a L ih=>
   intro i p e h
   rcases i with _|i
   ·simp at h
    subst h
    exact⟨rfl,rfl⟩
   ·have:=ih i p e (by simpa using h)
    exact this
def PairsAt(w:World)(A:Option Addr)(L:List (Nat×Nat)):Prop:=∀(i p e:Nat),L[i]?=some (p,e)->∃b o,A=some ⟨b,o,none⟩/\w.cell? ⟨b,o+i*2,none⟩=some (.int .i64 p)/\w.cell? ⟨b,o+i*2+1,none⟩=some (.int .i64 e)
theorem CellsAt.pairs{w:World}{A:Option Addr}{L:List (Nat×Nat)}(h:CellsAt w A (pairsV L)):PairsAt w A L:=λi p e hi=>by
 obtain⟨h1,h2⟩:=pairsV_at L i p e hi
 obtain⟨b,o,e1,c1⟩:=h _ _ h1
 obtain⟨b',o',e2,c2⟩:=h _ _ h2
 rw[e1] at e2
 cases e2
 exact⟨b,o,e1,by rw[Nat.mul_comm i];exact c1,by rw[Nat.mul_comm i,Nat.add_assoc];exact c2⟩
theorem PairsAt.keep{W w1:World}{A:Option Addr}{L:List (Nat×Nat)}(hb:Below W.heap.size W w1)(h:PairsAt W A L):PairsAt w1 A L:=λi p e hi=>by
 obtain⟨b,o,e1,c1,c2⟩:=h i p e hi
 exact⟨b,o,e1,keep_cell hb c1,keep_cell hb c2⟩
end Go.Proofs.Yteaimnemobnknaa
