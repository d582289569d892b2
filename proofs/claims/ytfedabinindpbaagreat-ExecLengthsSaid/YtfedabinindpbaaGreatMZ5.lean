/- A region that draws: a group of operations in whatever order, each walked once, by what holds of those that are done. -/
import Derived.Test.YtfedabinindpbaaGreatX0
import Derived.Test.YtfedabinindpbaaGreatMW1
import Derived.Test.YtfedabinindpbaaGreatMC4
set_option linter.unusedSimpArgs false
set_option linter.unusedVariables false
namespace Go.Proofs.YtfedabinindpbaaGreat
open Go Go.RowKit
def updB(f:Nat->Bool)(p:Nat):Nat->Bool:=λi=>if i=p then true else f i
def updV(x:Nat->Value)(p:Nat)(v:Value):Nat->Value:=λi=>if i=p then v else x i
def setG(f:Nat->Bool):List Nat->Nat->Array Bool->Array Bool
 |[],_,l=>l
 |i::is,p,l=>setG f is (p+1) (if f p=true then l.setIfInBounds i true else l)
def putG(x:Nat->Value):List Tmp->Nat->Act->Act
 |[],_,a=>a
 |d::ds,p,a=>putG x ds (p+1) (a.put (some d) (x p))
theorem set_comm(l:Array Bool)(i j:Nat):(l.setIfInBounds i true).setIfInBounds j true=(l.setIfInBounds j true).setIfInBounds i true:=by
 by_cases h:i=j
 ·subst h;rfl
 ·exact Array.setIfInBounds_comm _ _ h
theorem setG_congr{f g:Nat->Bool}:∀(is:List Nat) (p:Nat) (l:Array Bool),(∀q,p<=q->q<p+is.length->f q=g q)->setG f is p l=setG g is p l
 |[],_,_,_=>rfl
 |i::is,p,l,h=>by
   unfold setG
   rw[h p (Nat.le_refl _) (by simp)]
   exact setG_congr is (p+1) _ (λq h1 h2=>h q (by omega) (by simp at h2|-;omega))
theorem setG_push(f:Nat->Bool)(j:Nat):∀(is:List Nat) (p:Nat) (l:Array Bool),setG f is p (l.setIfInBounds j true)=(setG f is p l).setIfInBounds j true
 |[],_,_=>rfl
 |i::is,p,l=>by
   unfold setG
   by_cases e:f p=true
   ·rw[if_pos e,if_pos e,set_comm,setG_push f j is (p+1)]
   ·rw[if_neg e,if_neg e,setG_push f j is (p+1)]
theorem setG_upd(f:Nat->Bool)(p:Nat):∀(is:List Nat) (p0:Nat) (l:Array Bool) (i:Nat),p0<=p->is[p-p0]?=some i->f p=false->setG (updB f p) is p0 l=(setG f is p0 l).setIfInBounds i true
 |[],p0,l,i,h0,hi,_=>by simp at hi
 |j::is,p0,l,i,h0,hi,hf=>by
   by_cases e:p=p0
   ·subst e
    rw[Nat.sub_self] at hi
    obtain rfl:j=i:=by simpa using hi
    unfold setG
    rw[if_pos (by unfold updB;rw[if_pos rfl]),if_neg (by rw[hf];decide),setG_push]
    rw[setG_congr (f:=updB f p) (g:=f) is (p+1) l (λq h1 _=>by unfold updB;rw[if_neg (by omega)])]
   ·have e2:p-p0=(p-(p0+1))+1:=by omega
    rw[e2] at hi
    unfold setG
    have h3:updB f p p0=f p0:=by unfold updB;rw[if_neg (λh=>e h.symm)]
    rw[h3]
    exact setG_upd f p is (p0+1) _ i (by omega) (by simpa using hi) hf
theorem putG_congr{x y:Nat->Value}:∀(ds:List Tmp) (p:Nat) (a:Act),(∀q,p<=q->q<p+ds.length->x q=y q)->putG x ds p a=putG y ds p a
 |[],_,_,_=>rfl
 |d::ds,p,a,h=>by
   unfold putG
   rw[h p (Nat.le_refl _) (by simp)]
   exact putG_congr ds (p+1) _ (λq h1 h2=>h q (by omega) (by simp at h2|-;omega))
theorem put_comm(a:Act)(d e:Tmp)(h:d≠e)(u v:Value):(a.put (some d) u).put (some e) v=(a.put (some e) v).put (some d) u:=by
 simp only[Act.put]
 rw[Array.setIfInBounds_comm _ _ h]
theorem put_put(a:Act)(d:Tmp)(u v:Value):(a.put (some d) u).put (some d) v=a.put (some d) v:=by
 simp only[Act.put]
 rw[Array.setIfInBounds_setIfInBounds]
theorem putG_push(x:Nat->Value)(d:Tmp)(v:Value):∀(ds:List Tmp) (p:Nat) (a:Act),d ∉ ds->(putG x ds p a).put (some d) v=putG x ds p (a.put (some d) v)
 |[],_,_,_=>rfl
 |e::ds,p,a,h=>by
   unfold putG
   rw[putG_push x d v ds (p+1) _ (λh1=>h (by simp[h1])),put_comm _ _ _ (λh1=>h (by simp[h1]))]
theorem putG_upd(x:Nat->Value)(p:Nat)(v:Value):∀(ds:List Tmp) (p0:Nat) (a:Act) (d:Tmp),ds.Nodup->p0<=p->ds[p-p0]?=some d->putG (updV x p v) ds p0 a=(putG x ds p0 a).put (some d) v
 |[],p0,a,d,_,h0,hi=>by simp at hi
 |e::ds,p0,a,d,hn,h0,hi=>by
   have hn2:=List.nodup_cons.1 hn
   by_cases ep:p=p0
   ·subst ep
    rw[Nat.sub_self] at hi
    obtain rfl:e=d:=by simpa using hi
    unfold putG
    rw[putG_push x e v ds (p+1) _ hn2.1,put_put]
    have h3:updV x p v p=v:=by unfold updV;rw[if_pos rfl]
    rw[h3]
    exact putG_congr ds (p+1) _ (λq h1 _=>by unfold updV;rw[if_neg (by omega)])
   ·have e2:p-p0=(p-(p0+1))+1:=by omega
    rw[e2] at hi
    unfold putG
    have h3:updV x p v p0=x p0:=by unfold updV;rw[if_neg (λh=>ep h.symm)]
    rw[h3]
    exact putG_upd x p v ds (p0+1) _ d hn2.2 (by omega) (by simpa using hi)
theorem put_self(a:Act)(d:Tmp)(h:d<a.tmps.size):a.put (some d) a.tmps[d]=a:=by
 rcases a with⟨l,ds⟩
 simp only[Act.put]
 dsimp only at h|-
 congr 1
 apply Array.ext
 ·simp
 ·intro i hi hi2
  rw[Array.getElem_setIfInBounds]
  split
  ·rename_i e;subst e;rfl
  ·rfl
theorem putG_self(a:Act):∀(ds:List Tmp) (p:Nat) (x:Nat->Value),(∀q d,ds[q]?=some d->∃h:d<a.tmps.size,x (p+q)=a.tmps[d])->putG x ds p a=a
 |[],_,_,_=>rfl
 |d::ds,p,x,h=>by
   unfold putG
   obtain⟨h1,h2⟩:=h 0 d rfl
   rw[Nat.add_zero] at h2
   rw[h2,put_self a d h1]
   exact putG_self a ds (p+1) x (λq e hq=>by
    have:=h (q+1) e (by simpa using hq)
    rwa [show p+(q+1)=p+1+q by omega] at this)
theorem eval_put_ne(a:Act)(d e:Tmp)(v:Value)(h:e≠d):(a.put (some e) v).eval (.tmp d)=a.eval (.tmp d):=by
 simp[Act.eval,Act.put,Array.getD_eq_getD_getElem?,Array.getElem?_setIfInBounds,h]
theorem eval_put_eq(a:Act)(d:Tmp)(v:Value)(h:d<a.tmps.size):(a.put (some d) v).eval (.tmp d)=v:=by
 simp[Act.eval,Act.put,Array.getD_eq_getD_getElem?,Array.getElem?_setIfInBounds,h]
theorem eval_putG_no(x:Nat->Value)(d:Tmp):∀(ds:List Tmp) (p:Nat) (a:Act),d ∉ ds->(putG x ds p a).eval (.tmp d)=a.eval (.tmp d)
 |[],_,_,_=>rfl
 |e::ds,p,a,h=>by
   unfold putG
   rw[eval_putG_no x d ds (p+1) _ (λh2=>h (List.mem_cons_of_mem _ h2)),eval_put_ne _ _ _ _ (λe2=>h (by rw[e2];exact List.mem_cons_self))]
theorem eval_putG_at(x:Nat->Value)(d:Tmp):∀(ds:List Tmp) (p:Nat) (a:Act) (i:Nat),ds.Nodup->ds[i]?=some d->d<a.tmps.size->(putG x ds p a).eval (.tmp d)=x (p+i)
 |[],_,_,_,_,h,_=>by simp at h
 |e::ds,p,a,0,hn,h,hs=>by
   unfold putG
   obtain rfl:e=d:=by simpa using h
   rw[eval_putG_no x e ds (p+1) _ (List.nodup_cons.1 hn).1,eval_put_eq _ _ _ hs]
   rfl
 |e::ds,p,a,i+1,hn,h,hs=>by
   unfold putG
   rw[eval_putG_at x d ds (p+1) _ i (List.nodup_cons.1 hn).2 (by simpa using h) (by simpa[Act.put] using hs),show p+1+i=p+(i+1) by omega]
def allF:Nat->(List Bool->Bool)->Bool
 |0,c=>c []
 |m+1,c=>allF m (λl=>c (true::l))&&allF m (λl=>c (false::l))
theorem allF_spec:∀(m:Nat) (c:List Bool->Bool),allF m c=true->∀l:List Bool,l.length=m->c l=true
 |0,c,h,l,hl=>by
   obtain rfl:=List.eq_nil_of_length_eq_zero hl
   exact h
 |m+1,c,h,l,hl=>by
   rcases l with _|⟨b,l⟩
   ·simp at hl
   ·unfold allF at h
    rw[Bool.and_eq_true] at h
    cases b
    ·exact allF_spec m _ h.2 l (by simpa using hl)
    ·exact allF_spec m _ h.1 l (by simpa using hl)
def undone(f:Nat->Bool)(m:Nat):Nat:=((List.range m).filter λp=>!f p).length
theorem undone_zero{f:Nat->Bool}{m:Nat}(h:undone f m=0):∀p,p<m->f p=true:=by
 intro p hp
 unfold undone at h
 have h1:=List.eq_nil_of_length_eq_zero h
 rw[List.filter_eq_nil_iff] at h1
 have:=h1 p (List.mem_range.2 hp)
 simpa using this
theorem undone_upd(f:Nat->Bool)(p:Nat)(hf:f p=false):∀m,p<m->undone (updB f p) m+1=undone f m
 |0,h=>absurd h (by omega)
 |m+1,h=>by
   unfold undone
   rw[List.range_succ,List.filter_append,List.filter_append,List.length_append,List.length_append]
   by_cases e:p=m
   ·subst e
    have e1:(List.range p).filter (λq=>!updB f p q)=(List.range p).filter (λq=>!f q):=by
     apply List.filter_congr
     intro q hq
     have:=List.mem_range.1 hq
     unfold updB
     rw[if_neg (by omega)]
    rw[e1]
    have e2:updB f p p=true:=by unfold updB;rw[if_pos rfl]
    simp[e2,hf]
   ·have ih:=undone_upd f p hf m (by omega)
    unfold undone at ih
    have e2:updB f p m=f m:=by unfold updB;rw[if_neg (by omega)]
    have e3:(([m]:List Nat).filter λq=>!updB f p q).length=(([m]:List Nat).filter λq=>!f q).length:=by simp[List.filter_cons,e2]
    omega
section
variable {P : Program} {md : Region.Mode} {ops : Array Oper} {Q : Exit -> Act -> World -> Prop} {S : World -> Prop} {t : Nat}
def chkG(md:Region.Mode)(ops:Array Oper)(is:List Nat)(need:List (List Nat))(listed:Array Bool)(n k:Nat)(l:List Bool):Bool:=
 if l.all (λb=>b) then tailOk md ops n k (setG (λp=>l.getD p false) is 0 listed)
 else if(!((List.range is.length).all λp=>!(l.getD p false)||(need.getD p []).all λr=>l.getD r false))=true then true
 else !(Region.ready md ops (setG (λp=>l.getD p false) is 0 listed)).isEmpty&&
  (Region.ready md ops (setG (λp=>l.getD p false) is 0 listed)).all λj=>(List.range is.length).any λp=>(is.getD p 0==j)&&(!(l.getD p true)&&(need.getD p []).all λr=>l.getD r false)
theorem wpG(is:List Nat)(ds:List Tmp)(need:List (List Nat))(F:(Nat->Bool)->(Nat->Value)->World->Prop)(n k:Nat){listed:Array Bool}{a:Act}{w:World}(hlen:ds.length=is.length)(hnd:ds.Nodup)(hc:allF is.length (chkG md ops is need listed n k)=true)(ht:t<=k)(hn:ops.size=k+n)(hsz:ds.all (λd=>decide (d<a.tmps.size))=true)(hS:S w)(hF:∀x,F (λ_=>false) x w)(hop:∀p,p<is.length->∃o d,ops[is.getD p 0]?=some o/\o.guard=none/\o.dst=some d/\ds[p]?=some d/\
   ∀f x w,S w->F f x w->f p=false->(∀r∈need.getD p [],f r=true)->∀K:Act->World->Prop,Hid (∀v w',S w'->F (updB f p) (updV x p v) w'->K ((putG x ds 0 a).put (some d) v) w')->Oper.wp P o (putG x ds 0 a) w K Q)(hend:∀f x w,S w->F f x w->(∀p,p<is.length->f p=true)->wpList P ops Q (ops.toList.drop k) (putG x ds 0 a) w):wpAnyS P md ops Q S t (n+is.length) listed a w:=by
 have main:∀(u:Nat) (f:Nat->Bool) (x:Nat->Value) (w:World),undone f is.length=u->(∀p,p<is.length->f p=true->∀r∈need.getD p [],r<is.length/\f r=true)->S w->F f x w->wpAnyS P md ops Q S t (n+u) (setG f is 0 listed) (putG x ds 0 a) w:=by
  intro u
  induction u with
  |zero=>
    intro f x w hu hcl hS hF
    have hall:=undone_zero hu
    have hchk:=allF_spec _ _ hc ((List.range is.length).map f) (by simp)
    have hl:((List.range is.length).map f).all (λb=>b)=true:=by
     rw[List.all_eq_true]
     intro b hb
     obtain⟨p,hp,rfl⟩:=List.mem_map.1 hb
     exact hall p (List.mem_range.1 hp)
    unfold chkG at hchk
    rw[if_pos hl] at hchk
    rw[setG_congr (g:=f) is 0 listed (λq _ hq=>by
     rw[Nat.zero_add] at hq
     show((List.range is.length).map f).getD q false=f q
     rw[List.getD_eq_getElem?_getD,List.getElem?_map,List.getElem?_range hq];rfl)] at hchk
    exact wpAnyS_end n k hchk ht hn (hend f x w hS hF hall)
  |succ u ih=>
    intro f x w hu hcl hS hF
    have hchk:=allF_spec _ _ hc ((List.range is.length).map f) (by simp)
    have hl:¬((List.range is.length).map f).all (λb=>b)=true:=by
     intro hl
     rw[List.all_eq_true] at hl
     have h0:undone f is.length=0:=by
      unfold undone
      rw[List.filter_eq_nil_iff.2 (λp hp=>by
       have:=hl (f p) (List.mem_map.2 ⟨p,hp,rfl⟩)
       simp[this])]
      rfl
     omega
    have hgd:∀q,q<is.length->∀z,((List.range is.length).map f).getD q z=f q:=λq hq z=>by
     rw[List.getD_eq_getElem?_getD,List.getElem?_map,List.getElem?_range hq];rfl
    have hclo:¬(!((List.range is.length).all λp=>!(((List.range is.length).map f).getD p false)||(need.getD p []).all λr=>((List.range is.length).map f).getD r false))=true:=by
     have:((List.range is.length).all λp=>!(((List.range is.length).map f).getD p false)||(need.getD p []).all λr=>((List.range is.length).map f).getD r false)=true:=by
      rw[List.all_eq_true]
      intro p hp
      have hp:=List.mem_range.1 hp
      rw[hgd p hp]
      cases hfp:f p
      ·rfl
      ·simp only[Bool.not_true,Bool.false_or]
       rw[List.all_eq_true]
       intro r hr
       obtain⟨r1,r2⟩:=hcl p hp hfp r hr
       rw[hgd r r1]
       exact r2
     rw[this]
     decide
    unfold chkG at hchk
    rw[if_neg hl,if_neg hclo] at hchk
    rw[setG_congr (g:=f) is 0 listed (λq _ hq=>hgd q (by omega) false)] at hchk
    rw[Bool.and_eq_true] at hchk
    obtain⟨hne,hall⟩:=hchk
    refine⟨λe=>?_,λj hj=>?_⟩
    ·rw[e] at hne;cases hne
    ·have h1:=List.all_eq_true.1 hall j hj
     obtain⟨p,hp,h2⟩:=List.any_eq_true.1 h1
     have hp:=List.mem_range.1 hp
     simp only[Bool.and_eq_true,beq_iff_eq] at h2
     obtain⟨rfl,h3,h4⟩:=h2
     rw[hgd p hp] at h3
     have hf:f p=false:=by simpa using h3
     have hneed2:∀r∈need.getD p [],r<is.length/\f r=true:=by
      intro r hr
      have h5:=List.all_eq_true.1 h4 r hr
      by_cases hrl:r<is.length
      ·rw[hgd r hrl] at h5;exact⟨hrl,h5⟩
      ·rw[List.getD_eq_getElem?_getD,List.getElem?_eq_none (by simp;omega)] at h5
       cases h5
     have hneed:∀r∈need.getD p [],f r=true:=λr hr=>(hneed2 r hr).2
     have hcl2:∀q,q<is.length->updB f p q=true->∀r∈need.getD q [],r<is.length/\updB f p r=true:=by
      intro q hq hfq r hr
      have hup:∀r,f r=true->updB f p r=true:=λr h=>by unfold updB;split;rfl;exact h
      by_cases e:q=p
      ·subst e
       exact⟨(hneed2 r hr).1,hup r (hneed2 r hr).2⟩
      ·have hfq2:f q=true:=by unfold updB at hfq;rwa [if_neg e] at hfq
       have:=hcl q hq hfq2 r hr
       exact⟨this.1,hup r this.2⟩
     obtain⟨o,d,ho,hg,hd,hds,hrun⟩:=hop p hp
     have hund:=undone_upd f p hf is.length hp
     unfold wpOp
     rw[ho]
     have hwt:Region.wanted o (yielded ops (putG x ds 0 a).tmps)=true:=by unfold Region.wanted;rw[hg]
     simp only[hwt,if_true]
     refine .inl (hrun f x w hS hF hf hneed _ (aZ λv w' hS' hF'=>⟨λ_=>hS',?_⟩))
     have hi:is[p]?=some (is.getD p 0):=by rw[List.getD_eq_getElem?_getD,List.getElem?_eq_getElem hp];rfl
     rw[<-setG_upd f p is 0 listed (is.getD p 0) (Nat.zero_le _) (by simpa using hi) hf,<-putG_upd x p v ds 0 a d hnd (Nat.zero_le _) (by simpa using hds)]
     exact ih (updB f p) (updV x p v) w' (by omega) hcl2 hS' hF'
 have hund:undone (λ_=>false) is.length=is.length:=by
  unfold undone
  have:((List.range is.length).filter λp=>!(λ_:Nat=>false) p)=List.range is.length:=List.filter_eq_self.2 (λp _=>rfl)
  rw[this,List.length_range]
 have hset:∀(is:List Nat) (p:Nat) (l:Array Bool),setG (λ_=>false) is p l=l:=by
  intro is
  induction is with
  |nil=>intro p l;rfl
  |cons i is ih=>intro p l;unfold setG;rw[if_neg (by decide)];exact ih _ _
 have hself:putG (λp=>a.tmps.getD (ds.getD p 0) undef) ds 0 a=a:=putG_self a ds 0 _ (λq d hq=>by
  have h1:d<a.tmps.size:=by
   have:=List.all_eq_true.1 hsz d (List.mem_of_getElem? hq)
   exact of_decide_eq_true this
  refine⟨h1,?_⟩
  rw[Nat.zero_add,List.getD_eq_getElem?_getD,hq]
  simp[h1])
 have:=main is.length (λ_=>false) (λp=>a.tmps.getD (ds.getD p 0) undef) w hund (λ_ _ h=>by cases h) hS (hF _)
 rw[hset,hself] at this
 exact this
end
end Go.Proofs.YtfedabinindpbaaGreat
namespace Go.Proofs.YtfedabinindpbaaGreat
open Go.RowKit Go.Lib
structure Thr where
 e:TypeId
 tt:TypeId
 sz:Nat
 bytes:Nat
 z:Value
 v:Value
 k:Nat
 xs:List Value
 news:List Value
 elem:Value
structure Thr.Ok(T:Thr):Prop where
 hU:Tryz.prog.underlying T.tt=some (.slice T.e)
 hI:(Tryz.prog.info? T.e).map (λi=>(i.zero,i.size,i.bytes))=some (some T.z,T.sz,T.bytes)
 hzs:T.z.cells.size=T.sz
 hsz:0<T.sz
 hby:T.bytes<=64
 hl:T.news.length=T.sz
 h1:∀u∈T.news,u.oneCell'=true
 hk:T.k+1<=1099511627776
 hb:∀w,(Instr.buildSlice T.tt 1 #[(0,T.elem)]).run Tryz.prog w=.ok (.slice (some ⟨w.heap.size,0,none⟩) 1 1) (w.alloc (.cells T.news.toArray T.e))
def cur(T:Thr)(b:Bool)(r:Value):Option Nat:=if b=true then r.ownBlock else T.v.ownBlock
structure Grow(base:Nat)(Ts:Nat->Thr)(m:Nat)(f:Nat->Bool)(x:Nat->Value)(w:World):Prop where
 sz:base<=w.heap.size
 row0:∀t,t<m->f (2*t+1)=false->w.ownsRow base (Ts t).e (Ts t).sz (Ts t).v (Ts t).k (Ts t).xs
 new:∀t,t<m->f (2*t)=true->f (2*t+1)=false->∃g,x (2*t)=.slice (some ⟨g,0,none⟩) 1 1/\g<w.heap.size/\∀(j:Nat) u,(Ts t).news[j]?=some u->w.cell? ⟨g,j,none⟩=some u
 row1:∀t,t<m->f (2*t+1)=true->∃g cap,x (2*t+1)=.slice (some ⟨g,0,none⟩) ((Ts t).k+1) cap/\w.ownsRow base (Ts t).e (Ts t).sz (x (2*t+1)) ((Ts t).k+1) ((Ts t).xs++(Ts t).news)
 ap:∀s t,s<m->t<m->s≠t->∀g,cur (Ts s) (f (2*s+1)) (x (2*s+1))=some g->cur (Ts t) (f (2*t+1)) (x (2*t+1))≠some g
 apn:∀s t,s<m->t<m->∀g,cur (Ts s) (f (2*s+1)) (x (2*s+1))=some g->f (2*t)=true->f (2*t+1)=false->x (2*t)≠.slice (some ⟨g,0,none⟩) 1 1
theorem Grow.curlt{base:Nat}{Ts:Nat->Thr}{m:Nat}{f:Nat->Bool}{x:Nat->Value}{w:World}(h:Grow base Ts m f x w){t:Nat}(ht:t<m){g:Nat}(e:cur (Ts t) (f (2*t+1)) (x (2*t+1))=some g):base<=g/\g<w.heap.size:=by
 unfold cur at e
 by_cases hf:f (2*t+1)=true
 ·rw[if_pos hf] at e
  obtain⟨g',cap,-,hr⟩:=h.row1 t ht hf
  exact World.ownsRow.lt hr g e
 ·rw[if_neg hf] at e
  exact World.ownsRow.lt (h.row0 t ht (by simpa using hf)) g e
theorem updB_ne{f:Nat->Bool}{p q:Nat}(h:q≠p):updB f p q=f q:=by unfold updB;rw[if_neg h]
theorem updB_eq(f:Nat->Bool)(p:Nat):updB f p p=true:=by unfold updB;rw[if_pos rfl]
theorem updV_ne{x:Nat->Value}{p q:Nat}{v:Value}(h:q≠p):updV x p v q=x q:=by unfold updV;rw[if_neg h]
theorem updV_eq(x:Nat->Value)(p:Nat)(v:Value):updV x p v p=v:=by unfold updV;rw[if_pos rfl]
theorem Grow.build{base:Nat}{Ts:Nat->Thr}{m:Nat}{f:Nat->Bool}{x:Nat->Value}{w:World}(h:Grow base Ts m f x w){t:Nat}(ht:t<m):
  Grow base Ts m (updB f (2*t)) (updV x (2*t) (.slice (some ⟨w.heap.size,0,none⟩) 1 1)) (w.alloc (.cells (Ts t).news.toArray (Ts t).e)):=by
 have hb:Below w.heap.size w (w.alloc (.cells (Ts t).news.toArray (Ts t).e)):=(Below.refl _ w).alloc (Nat.le_refl _) _
 have o1:∀s,updB f (2*t) (2*s+1)=f (2*s+1):=λs=>updB_ne (by omega)
 have o2:∀s (v:Value),updV x (2*t) v (2*s+1)=x (2*s+1):=λs v=>updV_ne (by omega)
 refine⟨Nat.le_trans h.sz hb.size,λs hs hf=>?_,λs hs hf1 hf2=>?_,λs hs hf=>?_,λs u hs hu hne g e=>?_,λs u hs hu g e hf1 hf2=>?_⟩
 ·rw[o1] at hf
  exact owns_below (h.row0 s hs hf) hb
 ·rw[o1] at hf2
  by_cases e:s=t
  ·subst e
   refine⟨_,updV_eq _ _ _,by simp,λj u hj=>?_⟩
   rw[World.cell?_alloc_new]
   simpa using hj
  ·rw[updB_ne (by omega)] at hf1
   obtain⟨g,e1,e2,e3⟩:=h.new s hs hf1 hf2
   exact⟨g,by rw[updV_ne (by omega)];exact e1,Nat.lt_of_lt_of_le e2 hb.size,λj u hj=>keep_cell hb (e3 j u hj)⟩
 ·rw[o1] at hf
  obtain⟨g,cap,e1,e2⟩:=h.row1 s hs hf
  exact⟨g,cap,by rw[o2];exact e1,by rw[o2];exact owns_below e2 hb⟩
 ·rw[o1,o2] at e|-
  exact h.ap s u hs hu hne g e
 ·rw[o1] at hf2
  rw[o1,o2] at e
  by_cases e2:u=t
  ·subst e2
   rw[updV_eq]
   intro e3
   injection e3 with e4
   have:=(h.curlt hs e).2
   simp at e4
   all_goals omega
  ·rw[updB_ne (by omega)] at hf1
   rw[updV_ne (by omega)]
   exact h.apn s u hs hu g e hf1 hf2
theorem Grow.append{base:Nat}{Ts:Nat->Thr}{m:Nat}{f:Nat->Bool}{x:Nat->Value}{w w':World}(h:Grow base Ts m f x w){t:Nat}(ht:t<m)(hf:f (2*t+1)=false){g cap:Nat}(hO:w'.ownsRow base (Ts t).e (Ts t).sz (.slice (some ⟨g,0,none⟩) ((Ts t).k+1) cap) ((Ts t).k+1) ((Ts t).xs++(Ts t).news))(hG:w.grownBy w' (Ts t).v.ownBlock)(hL:(Ts t).v.ownBlock=some g\/g=w.heap.size):
  Grow base Ts m (updB f (2*t+1)) (updV x (2*t+1) (.slice (some ⟨g,0,none⟩) ((Ts t).k+1) cap)) w':=by
 have hcur:cur (Ts t) (f (2*t+1)) (x (2*t+1))=(Ts t).v.ownBlock:=by unfold cur;rw[hf,if_neg (by decide)]
 have o1:∀s,updB f (2*t+1) (2*s)=f (2*s):=λs=>updB_ne (by omega)
 have o2:∀s (v:Value),updV x (2*t+1) v (2*s)=x (2*s):=λs v=>updV_ne (by omega)
 have p1:∀s,s≠t->updB f (2*t+1) (2*s+1)=f (2*s+1):=λs hs=>updB_ne (by omega)
 have p2:∀s (v:Value),s≠t->updV x (2*t+1) v (2*s+1)=x (2*s+1):=λs v hs=>updV_ne (by omega)
 have hne:∀s,s<m->s≠t->∀k,cur (Ts s) (f (2*s+1)) (x (2*s+1))=some k->(Ts t).v.ownBlock≠some k:=λs hs he k e=>by
  have:=h.ap s t hs ht he k e
  rwa [hcur] at this
 have hne2:∀s,s<m->s≠t->cur (Ts s) (f (2*s+1)) (x (2*s+1))=none\/cur (Ts s) (f (2*s+1)) (x (2*s+1))≠(Ts t).v.ownBlock:=λs hs he=>by
  cases e:cur (Ts s) (f (2*s+1)) (x (2*s+1)) with
  |none=>exact .inl rfl
  |some k=>exact .inr (λe2=>hne s hs he k e e2.symm)
 have cnew:cur (Ts t) (updB f (2*t+1) (2*t+1)) (updV x (2*t+1) (.slice (some ⟨g,0,none⟩) ((Ts t).k+1) cap) (2*t+1))=some g:=by
  unfold cur
  rw[updB_eq,if_pos rfl,updV_eq]
  rfl
 refine⟨Nat.le_trans h.sz hG.size,λs hs hf1=>?_,λs hs hf1 hf2=>?_,λs hs hf1=>?_,λs u hs hu hsu k e=>?_,λs u hs hu k e hf1 hf2=>?_⟩
 ·by_cases e:s=t
  ·subst e;rw[updB_eq] at hf1;cases hf1
  ·rw[p1 s e] at hf1
   have h2:=hne2 s hs e
   unfold cur at h2
   rw[hf1,if_neg (by decide)] at h2
   exact(h.row0 s hs hf1).kept hG h2
 ·by_cases e:s=t
  ·subst e;rw[updB_eq] at hf2;cases hf2
  ·rw[o1] at hf1
   rw[p1 s e] at hf2
   obtain⟨g',e1,e2,e3⟩:=h.new s hs hf1 hf2
   refine⟨g',by rw[o2];exact e1,Nat.lt_of_lt_of_le e2 hG.size,λj u hj=>grown_cell hG (e3 j u hj) (λe4=>?_)⟩
   exact h.apn t s ht hs g' (by rw[hcur];exact e4) hf1 hf2 e1
 ·by_cases e:s=t
  ·subst e
   exact⟨g,cap,updV_eq _ _ _,by rw[updV_eq];exact hO⟩
  ·rw[p1 s e] at hf1
   obtain⟨g',c',e1,e2⟩:=h.row1 s hs hf1
   have h2:=hne2 s hs e
   unfold cur at h2
   rw[if_pos hf1] at h2
   exact⟨g',c',by rw[p2 s _ e];exact e1,by rw[p2 s _ e];exact e2.kept hG h2⟩
 ·by_cases es:s=t
  ·subst es
   rw[cnew] at e
   obtain rfl:g=k:=by simpa using e
   rw[p1 u (Ne.symm hsu),p2 u _ (Ne.symm hsu)]
   intro e2
   rcases hL with hL|hL
   ·exact hne u hu (Ne.symm hsu) g e2 hL
   ·have:=(h.curlt hu e2).2;omega
  ·rw[p1 s es,p2 s _ es] at e
   by_cases eu:u=t
   ·subst eu
    rw[cnew]
    intro e2
    obtain rfl:g=k:=by simpa using e2
    rcases hL with hL|hL
    ·exact hne s hs es g e hL
    ·have:=(h.curlt hs e).2;omega
   ·rw[p1 u eu,p2 u _ eu]
    exact h.ap s u hs hu hsu k e
 ·by_cases eu:u=t
  ·subst eu;rw[updB_eq] at hf2;cases hf2
  ·rw[o1] at hf1
   rw[p1 u eu] at hf2
   rw[o2]
   obtain⟨g',e1,e2,-⟩:=h.new u hu hf1 hf2
   by_cases es:s=t
   ·subst es
    rw[cnew] at e
    obtain rfl:g=k:=by simpa using e
    rcases hL with hL|hL
    ·exact h.apn s u hs hu g (by rw[hcur];exact hL) hf1 hf2
    ·intro e3
     rw[e1] at e3
     simp at e3
     all_goals omega
   ·rw[p1 s es,p2 s _ es] at e
    exact h.apn s u hs hu k e hf1 hf2
structure Grown(base:Nat)(Ts:Nat->Thr)(m:Nat)(x:Nat->Value)(w:World):Prop where
 sz:base<=w.heap.size
 row:∀t,t<m->∃g cap,x (2*t+1)=.slice (some ⟨g,0,none⟩) ((Ts t).k+1) cap/\w.ownsRow base (Ts t).e (Ts t).sz (.slice (some ⟨g,0,none⟩) ((Ts t).k+1) cap) ((Ts t).k+1) ((Ts t).xs++(Ts t).news)
 ap:∀s t,s<m->t<m->s≠t->∀g,(x (2*s+1)).ownBlock=some g->(x (2*t+1)).ownBlock≠some g
section
variable {md : Region.Mode} {ops : Array Oper} {Q : Exit -> Act -> World -> Prop} {S : World -> Prop} {t : Nat}
theorem wpAppends(m:Nat)(base:Nat)(Ts:Nat->Thr)(is:List Nat)(need:List (List Nat))(ds:List Tmp)(n k:Nat){listed:Array Bool}{a:Act}{w:World}(hT:∀t,t<m->(Ts t).Ok)(hil:is.length=2*m)(hlen:ds.length=is.length)(hnd:ds.Nodup)(hnl:∀q,q<m->2*q∈need.getD (2*q+1) [])(hc:allF is.length (chkG md ops is need listed n k)=true)(ht:t<=k)(hn:ops.size=k+n)(hsz:ds.all (λd=>decide (d<a.tmps.size))=true)(hS:S w)(hS1:∀w o,S w->base<=w.heap.size->S (w.alloc o))(hS2:∀(w w':World) t,t<m->S w->base<=w.heap.size->w.grownBy w' (Ts t).v.ownBlock->S w')(hbase:base<=w.heap.size)(hrow:∀t,t<m->w.ownsRow base (Ts t).e (Ts t).sz (Ts t).v (Ts t).k (Ts t).xs)(hap:∀s t,s<m->t<m->s≠t->∀g,(Ts s).v.ownBlock=some g->(Ts t).v.ownBlock≠some g)(hob:∀t,t<m->∃o d xb,ops[is.getD (2*t) 0]?=some o/\o.guard=none/\o.dst=some d/\ds[2*t]?=some d/\o.op=.buildSlice (Ts t).tt 1 #[(0,xb)]/\∀x,(putG x ds 0 a).eval xb=(Ts t).elem)(hoa:∀t,t<m->∃o d s y,ops[is.getD (2*t+1) 0]?=some o/\o.guard=none/\o.dst=some d/\ds[2*t+1]?=some d/\o.op=.call {callee:=.builtin .append,args:=#[s,y],argTypes:=#[(Ts t).tt,(Ts t).tt]}/\(∀x,(putG x ds 0 a).eval s=(Ts t).v)/\∀x,(putG x ds 0 a).eval y=x (2*t))(hend:∀x w,S w->Grown base Ts m x w->wpList Tryz.prog ops Q (ops.toList.drop k) (putG x ds 0 a) w):wpAnyS Tryz.prog md ops Q S t (n+is.length) listed a w:=by
 refine wpG is ds need (Grow base Ts m) n k hlen hnd hc ht hn hsz hS (λx=>⟨hbase,λt ht _=>hrow t ht,λ_ _ h=>(by cases h),λ_ _ h=>(by cases h),λs t hs ht hne g e=>hap s t hs ht hne g e,λ_ _ _ _ _ _ h=>(by cases h)⟩) (λp hp=>?_) (λf x w hS hF hall=>?_)
 ·obtain⟨q,hq|hq⟩:∃q,p=2*q\/p=2*q+1:=⟨p/2,by omega⟩
  ·subst hq
   have hqm:q<m:=by omega
   obtain⟨o,d,xb,h1,h2,h3,h4,h5,h6⟩:=hob q hqm
   refine⟨o,d,h1,h2,h3,h4,λf x w hS hF hf hneed K hK=>?_⟩
   unfold Oper.wp execOp
   simp only[h5,Sem.run_bind,List.map_toArray,List.map_cons,List.map_nil,h6,(hT q hqm).hb,Sem.run_pure,Result.andThen_ok]
   rw[Oper.upon_value,h3]
   exact hK.out _ _ (hS1 _ _ hS hF.sz) (hF.build hqm)
  ·subst hq
   have hqm:q<m:=by omega
   obtain⟨o,d,s,y,h1,h2,h3,h4,h5,h6,h7⟩:=hoa q hqm
   refine⟨o,d,h1,h2,h3,h4,λf x w hS hF hf hneed K hK=>?_⟩
   have T:=hT q hqm
   have hf0:f (2*q)=true:=hneed _ (hnl q hqm)
   obtain⟨g0,e1,e2,e3⟩:=hF.new q hqm hf0 hf
   have hrow:=hF.row0 q hqm hf
   obtain⟨i0,hi,hz0,hz1,hz2⟩:=info_parts T.hI
   refine wp_append_lies w s y (Ts q).tt h5 base (Ts q).e i0 (Ts q).z (Ts q).sz (Ts q).bytes T.hU hi hz0 hz1 hz2 T.hzs T.hsz (Ts q).v (Ts q).k (Ts q).xs (h6 x) hrow ⟨g0,0,none⟩ 1 1 (Ts q).news (by rw[h7 x];exact e1) (by rw[T.hl];omega) (λj u hj=>?_) T.h1 (by omega) (by have:=T.hk;unfold maxLen;omega) (by
    have:((Ts q).k+1)*(Ts q).bytes<=1099511627776*64:=Nat.mul_le_mul T.hk T.hby
    omega) hF.sz w.heap.size rfl (λg cap w' hO hG hL _=>?_)
   ·have:=e3 j u hj
    rw[Addr.add]
    split
    ·rename_i e;subst e;exact this
    ·simpa using this
   ·rw[h3]
    exact hK.out _ _ (hS2 _ _ q hqm hS hF.sz hG) (hF.append hqm hf hO hG hL)
 ·refine hend x w hS ⟨hF.sz,λt ht=>?_,λs t hs ht hne g e=>?_⟩
  ·obtain⟨g,cap,e1,e2⟩:=hF.row1 t ht (hall _ (by omega))
   rw[e1] at e2
   exact⟨g,cap,e1,e2⟩
  ·have hs1:=hall (2*s+1) (by omega)
   have ht1:=hall (2*t+1) (by omega)
   have:=hF.ap s t hs ht hne g (by unfold cur;rw[if_pos hs1];exact e)
   unfold cur at this
   rwa [if_pos ht1] at this
end
end Go.Proofs.YtfedabinindpbaaGreat
