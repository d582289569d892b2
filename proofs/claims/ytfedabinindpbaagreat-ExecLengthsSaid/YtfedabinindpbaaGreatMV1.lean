/- Rows of plans that are built by append; planRef. -/
import Derived.Test.YtfedabinindpbaaGreatMC4
import Derived.Test.YtfedabinindpbaaGreatMW2
import Derived.Test.YtfedabinindpbaaGreatMW1
import Derived.Test.YtfedabinindpbaaGreatX0
set_option linter.unusedSimpArgs false
set_option linter.unusedVariables false
namespace Go.Proofs.YtfedabinindpbaaGreat
open Go.RowKit Go.Lib
def KY(base:Nat)(g:Option Nat)(w:World)(B:Option Addr)(q:Fo):Prop:=∀w':World,(∀k,base<=k->k<w.heap.size->g≠some k->w'.heap[k]?=w.heap[k]?)->Kids w' B 0 q
theorem KY.kids{base:Nat}{g:Option Nat}{w:World}{B:Option Addr}{q:Fo}(h:KY base g w B q):Kids w B 0 q:=h w λ_ _ _ _=>rfl
theorem KY.mono{base base':Nat}{g:Option Nat}{w:World}{B:Option Addr}{q:Fo}(h:KY base g w B q)(hb:base'<=base):KY base' g w B q:=λw' h'=>h w' λk h1 h2 h3=>h' k (by omega) h2 h3
theorem KY.all{base:Nat}{g:Option Nat}{w:World}{B:Option Addr}{q:Fo}(h:KY base g w B q):KY base none w B q:=λw' h'=>h w' λk h1 h2 h3=>h' k h1 h2 (by simp)
theorem KY.low{base:Nat}{g:Option Nat}{w:World}{B:Option Addr}{q:Fo}(h:KY base none w B q)(hg:∀k,g=some k->k<base):KY base g w B q:=λw' h'=>h w' λk h1 h2 h3=>h' k h1 h2 (λe=>by have:=hg k e;omega)
theorem KY.below{base:Nat}{g:Option Nat}{w w1:World}{B:Option Addr}{q:Fo}(h:KY base g w B q)(hb:Below w.heap.size w w1):KY base g w1 B q:=λw' h'=>h w' λk h1 h2 h3=>(h' k h1 (Nat.lt_of_lt_of_le h2 hb.size) h3).trans (hb.block k h2)
theorem KY.grown{base:Nat}{g g':Option Nat}{w w1:World}{B:Option Addr}{q:Fo}(h:KY base g w B q)(hg:w.grownBy w1 g)(h':g'=g\/∀k,g'=some k->w.heap.size<=k):KY base g' w1 B q:=λw' hw=>h w' λk h1 h2 h3=>by
 refine(hw k h1 (Nat.lt_of_lt_of_le h2 hg.size) ?_).trans (hg.block k h2 (Ne.symm h3))
 rcases h' with rfl|h'
 ·exact h3
 ·intro e;have:=h' k e;omega
theorem KY.set{base:Nat}{g:Option Nat}{w:World}{B:Option Addr}{q:Fo}(h:KY base g w B q){p:Addr}(v:Value)(hp:p.block<base):KY base g (w.setCell p v) B q:=λw' hw=>h w' λk h1 h2 h3=>by
 refine(hw k h1 (by simpa[World.setCell] using h2) h3).trans ?_
 exact Below.heap_setCell w p v k (by omega)
def RowK(base:Nat)(g:Option Nat)(w:World):Fo->List Value->Prop
 |.nil,xs=>xs=[]
 |.cons k n r q rest,xs=>∃(B:Option Addr) (c:Nat) (ys:List Value),xs=.int .i64 k::.int .i64 n::.int .i64 r::.slice B q.len c::ys/\KY base g w B q/\RowK base g w rest ys
theorem RowK.map{base base':Nat}{g g':Option Nat}{w w':World}(h:∀B q,KY base g w B q->KY base' g' w' B q):∀{fo:Fo} {xs:List Value},RowK base g w fo xs->RowK base' g' w' fo xs
 |.nil,_,e=>e
 |.cons _ _ _ _ _,_,⟨B,c,ys,e,hk,hr⟩=>⟨B,c,ys,e,h _ _ hk,RowK.map h hr⟩
def Fo.snoc:Fo->Int->Int->Int->Fo->Fo
 |.nil,k,n,r,q=>.cons k n r q .nil
 |.cons a b c d rest,k,n,r,q=>.cons a b c d (rest.snoc k n r q)
theorem snoc_len:∀(fo:Fo) (k n r:Int) (q:Fo),(fo.snoc k n r q).len=fo.len+1
 |.nil,_,_,_,_=>rfl
 |.cons _ _ _ _ rest,k,n,r,q=>by
   have:=snoc_len rest k n r q
   simp only[Fo.snoc,Fo.len,this]
theorem snoc_count:∀(fo:Fo) (k n r:Int) (q:Fo),(fo.snoc k n r q).count=fo.count+(1+q.count)
 |.nil,_,_,_,_=>by simp[Fo.snoc,Fo.count]
 |.cons _ _ _ _ rest,k,n,r,q=>by
   have:=snoc_count rest k n r q
   simp only[Fo.snoc,Fo.count,this]
   omega
theorem RowK.snoc{base:Nat}{g:Option Nat}{w:World}{k n r:Int}{q:Fo}{B:Option Addr}(c:Nat)(hq:KY base g w B q):∀{fo:Fo} {xs:List Value},RowK base g w fo xs->RowK base g w (fo.snoc k n r q) (xs++[.int .i64 k,.int .i64 n,.int .i64 r,.slice B q.len c])
 |.nil,xs,e=>by
   have e':xs=[]:=e
   subst e'
   exact⟨B,c,[],rfl,hq,rfl⟩
 |.cons _ _ _ _ rest,xs,⟨B',c',ys,e,hk,hr⟩=>⟨B',c',ys++[.int .i64 k,.int .i64 n,.int .i64 r,.slice B q.len c],by rw[e];rfl,hk,RowK.snoc c hq hr⟩
theorem RowK.length{base:Nat}{g:Option Nat}{w:World}:∀{fo:Fo} {xs:List Value},RowK base g w fo xs->xs.length=fo.len*4
 |.nil,xs,e=>by have e':xs=[]:=e;subst e';rfl
 |.cons _ _ _ _ rest,xs,⟨B',c',ys,e,hk,hr⟩=>by
   have:=RowK.length hr
   rw[e]
   simp only[List.length_cons,Fo.len,this]
   omega
theorem RowK.kids{base:Nat}{g:Option Nat}{w w':World}{b:Nat}(hw:∀B q,KY base g w B q->Kids w' B 0 q):∀{fo:Fo} {xs:List Value} (j:Nat),RowK base g w fo xs->(∀t v,xs[t]?=some v->w'.cell? ⟨b,j*4+t,none⟩=some v)->Kids w' (some ⟨b,0,none⟩) j fo
 |.nil,_,_,_,_=>trivial
 |.cons k n r q rest,xs,j,⟨B,c,ys,e,hk,hr⟩,hx=>by
   subst e
   refine⟨⟨b,0,B,c,rfl,?_,?_,?_,?_,hw _ _ hk⟩,RowK.kids hw (j+1) hr λt v ht=>?_⟩
   ·rw[Nat.zero_add];exact hx 0 _ rfl
   ·rw[Nat.zero_add];exact hx 1 _ rfl
   ·rw[Nat.zero_add];exact hx 2 _ rfl
   ·rw[Nat.zero_add];exact hx 3 _ rfl
   ·have:=hx (t+4) v (by simpa using ht)
    rw[show(j+1)*4+t=j*4+(t+4) by omega]
    exact this
def RowP(base:Nat)(e:TypeId)(w:World)(v:Value)(fo:Fo):Prop:=∃xs,w.ownsRow base e 4 v fo.len xs/\RowK base v.ownBlock w fo xs
theorem RowP.nil(base:Nat)(e:TypeId)(w:World):RowP base e w (.slice none 0 0) .nil:=⟨[],World.ownsRow_nil _ _ _ _,rfl⟩
theorem RowP.below{base:Nat}{e:TypeId}{w w':World}{v:Value}{fo:Fo}(h:RowP base e w v fo)(hb:Below w.heap.size w w'):RowP base e w' v fo:=by
 obtain⟨xs,h1,h2⟩:=h
 exact⟨xs,owns_below h1 hb,h2.map λ_ _ h=>h.below hb⟩
theorem RowP.lt{base:Nat}{e:TypeId}{w:World}{v:Value}{fo:Fo}(h:RowP base e w v fo):∀k,v.ownBlock=some k->base<=k/\k<w.heap.size:=by
 obtain⟨xs,h1,h2⟩:=h
 exact World.ownsRow.lt h1
theorem RowP.set{base:Nat}{e:TypeId}{w:World}{v:Value}{fo:Fo}(h:RowP base e w v fo){b o:Nat}(u:Value)(hb:b<base):RowP base e (w.setCell ⟨b,o,none⟩ u) v fo:=by
 obtain⟨xs,h1,h2⟩:=h
 exact⟨xs,ownsRow_setCell_below h1 (a:=⟨b,o,none⟩) hb u,h2.map λ_ _ h=>h.set u hb⟩
theorem RowP.form{base:Nat}{e:TypeId}{w:World}{v:Value}{fo:Fo}(h:RowP base e w v fo):∃A c,v=.slice A fo.len c/\KY base none w A fo:=by
 obtain⟨xs,h1,h2⟩:=h
 rcases h1.2 with⟨rfl,hl⟩|⟨g,cap,cur,rfl,hb,hg,-,-,-,ht⟩
 ·refine⟨none,0,by rw[hl],λw' _=>?_⟩
  rcases fo with _|⟨_,_,_,_,_⟩
  ·trivial
  ·simp[Fo.len] at hl
 ·refine⟨some ⟨g,0,none⟩,cap,rfl,λw' hw=>?_⟩
  have hlt:=(Array.getElem?_eq_some_iff.1 hg).1
  refine RowK.kids (λB q h=>h w' λk k1 k2 k3=>hw k k1 k2 (by simp)) 0 h2 λt v ht'=>?_
  rw[Nat.zero_mul,Nat.zero_add]
  have h3:w.cell? ⟨g,t,none⟩=some v:=by
   rw[World.ownsRow.cellAt h1 t (by
    have:=(List.getElem?_eq_some_iff.1 ht').1
    rw[h1.1] at this
    exact this)]
   exact ht'
  rw[World.cell?_of_block (w:=w) (a:=⟨g,t,none⟩) (hw g hb hlt (by simp)),h3]
theorem RowP.snoc{base:Nat}{e:TypeId}{w w':World}{v:Value}{fo:Fo}{xs:List Value}{k n r:Int}{q:Fo}{B:Option Addr}{c g cap:Nat}(h2:RowK base v.ownBlock w fo xs)(hq:KY base v.ownBlock w B q)(hO:w'.ownsRow base e 4 (.slice (some ⟨g,0,none⟩) (fo.len+1) cap) (fo.len+1) (xs++[.int .i64 k,.int .i64 n,.int .i64 r,.slice B q.len c]))(hG:w.grownBy w' v.ownBlock)(hL:v.ownBlock=some g\/g=w.heap.size):RowP base e w' (.slice (some ⟨g,0,none⟩) (fo.len+1) cap) (fo.snoc k n r q):=by
 have key:∀B q,KY base v.ownBlock w B q->KY base (some g) w' B q:=λB q h=>h.grown hG (hL.elim (λe=>.inl e.symm) (λe=>.inr λk' h=>by cases h;omega))
 exact⟨_,by rw[snoc_len];exact hO,RowK.snoc c (key _ _ hq) (h2.map key)⟩
def Fo.take:Nat->Fo->Fo
 |0,_=>.nil
 |_+1,.nil=>.nil
 |i+1,.cons a b c d rest=>.cons a b c d (rest.take i)
theorem take_succ:∀(i:Nat) (fo:Fo) {k n r:Int} {q rest:Fo},fo.drop i=.cons k n r q rest->fo.take (i+1)=(fo.take i).snoc k n r q
 |i,.nil,_,_,_,_,_,h=>by rw[drop_nil] at h;cases h
 |0,.cons k n r q rest,_,_,_,_,_,h=>by
   injection h with h1 h2 h3 h4 h5
   subst h1 h2 h3 h4
   rfl
 |i+1,.cons k n r q rest,_,_,_,_,_,h=>by
   have:=take_succ i rest h
   rw[Fo.take,this]
   rfl
theorem take_all:∀(i:Nat) (fo:Fo),fo.len<=i->fo.take i=fo
 |0,.nil,_=>rfl
 |_+1,.nil,_=>rfl
 |0,.cons _ _ _ _ _,h=>by simp[Fo.len] at h
 |i+1,.cons a b c d rest,h=>by rw[Fo.take,take_all i rest (by simp[Fo.len] at h;omega)]
theorem take_len:∀(i:Nat) (fo:Fo),i<=fo.len->(fo.take i).len=i
 |0,_,_=>rfl
 |_+1,.nil,h=>by simp[Fo.len] at h
 |i+1,.cons _ _ _ _ rest,h=>by rw[Fo.take,Fo.len,take_len i rest (by simp[Fo.len] at h;omega)]
theorem info_rplan:(Tryz.prog.info? 53).map (λi=>(i.zero,i.size,i.bytes))=some (some (.agg #[.int .i64 0,.int .i64 0,.int .i64 0,.slice none 0 0]),4,48):=by kernel_rfl
theorem info_plan:(Tryz.prog.info? 46).map (λi=>(i.zero,i.size,i.bytes))=some (some (.agg #[.int .i64 0,.int .i64 0,.int .i64 0,.slice none 0 0]),4,48):=by kernel_rfl
theorem bs_rplan(a b c d:Value)(w:World):(Instr.buildSlice 51 1 #[(0,.agg #[a,b,c,d])]).run Tryz.prog w=.ok (.slice (some ⟨w.heap.size,0,none⟩) 1 1) (w.alloc (.cells #[a,b,c,d] 53)):=by
 obtain⟨i0,hi,hz0,hz1,hz2⟩:=info_parts info_rplan
 refine run_buildSlice w 51 53 1 _ #[a,b,c,d] i0 _ Tryz.underlying51 hi hz0 (by rw[hz1];decide) (by rw[hz1];decide) ?_
 rw[hz1]
 have hr:Array.range 4=#[0,1,2,3]:=by decide
 simp[Instr.fill,Value.cells,hr]
theorem bs_plan(a b c d:Value)(w:World):(Instr.buildSlice 44 1 #[(0,.agg #[a,b,c,d])]).run Tryz.prog w=.ok (.slice (some ⟨w.heap.size,0,none⟩) 1 1) (w.alloc (.cells #[a,b,c,d] 46)):=by
 obtain⟨i0,hi,hz0,hz1,hz2⟩:=info_parts info_plan
 refine run_buildSlice w 44 46 1 _ #[a,b,c,d] i0 _ Tryz.underlying44 hi hz0 (by rw[hz1];decide) (by rw[hz1];decide) ?_
 rw[hz1]
 have hr:Array.range 4=#[0,1,2,3]:=by decide
 simp[Instr.fill,Value.cells,hr]
theorem cells_four(w:World)(a b c d:Value)(t:TypeId)(n:Nat)(hn:n=w.heap.size)(j:Nat)(u:Value)(h:[a,b,c,d][j]?=some u):(w.alloc (.cells #[a,b,c,d] t)).cell? ⟨n,j,none⟩=some u:=by
 subst hn
 match j,h with
 |0,h=>simp at h;subst h;simp[go_sem]
 |1,h=>simp at h;subst h;simp[go_sem]
 |2,h=>simp at h;subst h;simp[go_sem]
 |3,h=>simp at h;subst h;simp[go_sem]
 |j+4,h=>simp at h
theorem one_four(k n r:Int)(A:Option Addr)(l c:Nat)(u:Value)(h:u∈[Value.int .i64 k,.int .i64 n,.int .i64 r,.slice A l c]):u.oneCell'=true:=by
 simp only[List.mem_cons,List.not_mem_nil,or_false] at h
 rcases h with rfl|rfl|rfl|rfl<;>rfl
def PlFree(w:World)(b:Nat):Prop:=∀j,j<4->w.frozen? ⟨b,j,none⟩=false
theorem PlFree.keep{w w':World}{b:Nat}(h:PlFree w b)(hb:Below w.heap.size w w')(hl:b<w.heap.size):PlFree w' b:=λj hj=>keep_free hb hl (h j hj)
theorem PlFree.set{w:World}{b:Nat}(h:PlFree w b)(p:Addr)(v:Value):PlFree (w.setCell p v) b:=λj hj=>by rw[World.frozen?_setCell];exact h j hj
theorem PlFree.grown{w w':World}{b:Nat}{row:Option Nat}(h:PlFree w b)(hg:w.grownBy w' row)(hl:b<w.heap.size)(hne:row≠some b):PlFree w' b:=λj hj=>by
 rw[World.frozen?_of_block (w:=w) (a:=⟨b,j,none⟩) (hg.block b hl (Ne.symm hne))];exact h j hj
theorem PlFree.new(w:World)(a b c d:Value)(t:TypeId):PlFree (w.alloc (.cells #[a,b,c,d] t)) w.heap.size:=λj hj=>by simp[go_sem]
theorem PlBox.grown{w w':World}{b:Nat}{row:Option Nat}{kind n r:Int}{A:Option Addr}{l c:Nat}(h:PlBox w b kind n r A l c)(hg:w.grownBy w' row)(hne:row≠some b):PlBox w' b kind n r A l c:=
 ⟨grown_cell hg h.1 hne,grown_cell hg h.2.1 hne,grown_cell hg h.2.2.1 hne,grown_cell hg h.2.2.2 hne⟩
theorem PlBox.other{w:World}{b b' o:Nat}{kind n r:Int}{A:Option Addr}{l c:Nat}(h:PlBox w b kind n r A l c)(u:Value)(hne:b≠b'):PlBox (w.setCell ⟨b',o,none⟩ u) b kind n r A l c:=by
 have e:∀j,(w.setCell ⟨b',o,none⟩ u).cell? ⟨b,j,none⟩=w.cell? ⟨b,j,none⟩:=λj=>by
  rw[World.cell?_setCell_other]
  intro h;exact hne (congrArg Addr.block h).symm
 exact⟨by rw[e];exact h.1,by rw[e];exact h.2.1,by rw[e];exact h.2.2.1,by rw[e];exact h.2.2.2⟩
theorem PlBox.kid{w:World}{b:Nat}{kind n r:Int}{A:Option Addr}{l c:Nat}(h:PlBox w b kind n r A l c)(A':Option Addr)(l' c':Nat):PlBox (w.setCell ⟨b,3,none⟩ (.slice A' l' c')) b kind n r A' l' c':=by
 have e:∀j,j≠3->(w.setCell ⟨b,3,none⟩ (.slice A' l' c')).cell? ⟨b,j,none⟩=w.cell? ⟨b,j,none⟩:=λj hj=>by
  rw[World.cell?_setCell_other]
  intro h;exact hj (congrArg Addr.off h).symm
 exact⟨by rw[e _ (by omega)];exact h.1,by rw[e _ (by omega)];exact h.2.1,by rw[e _ (by omega)];exact h.2.2.1,World.cell?_setCell_same' _ _ _ (by rw[h.2.2.2];rfl)⟩
theorem PlBox.put{w:World}{b:Nat}{kind n r:Int}{A:Option Addr}{l c:Nat}(h:PlBox w b kind n r A l c)(k' n' r':Int)(A':Option Addr)(l' c':Nat):
  PlBox ((((w.setCell ⟨b,0,none⟩ (.int .i64 k')).setCell ⟨b,1,none⟩ (.int .i64 n')).setCell ⟨b,2,none⟩ (.int .i64 r')).setCell ⟨b,3,none⟩ (.slice A' l' c')) b k' n' r' A' l' c':=by
 obtain⟨h0,h1,h2,h3⟩:=h
 have e:∀(W:World) (i j:Nat) (u:Value),i≠j->(W.setCell ⟨b,i,none⟩ u).cell? ⟨b,j,none⟩=W.cell? ⟨b,j,none⟩:=λW i j u hij=>by
  rw[World.cell?_setCell_other]
  intro h;exact hij (congrArg Addr.off h)
 refine⟨?_,?_,?_,?_⟩
 ·rw[e _ _ _ _ (by omega),e _ _ _ _ (by omega),e _ _ _ _ (by omega)]
  exact World.cell?_setCell_same' _ _ _ (by rw[h0];rfl)
 ·rw[e _ _ _ _ (by omega),e _ _ _ _ (by omega)]
  exact World.cell?_setCell_same' _ _ _ (by rw[e _ _ _ _ (by omega),h1];rfl)
 ·rw[e _ _ _ _ (by omega)]
  exact World.cell?_setCell_same' _ _ _ (by rw[e _ _ _ _ (by omega),e _ _ _ _ (by omega),h2];rfl)
 ·exact World.cell?_setCell_same' _ _ _ (by rw[e _ _ _ _ (by omega),e _ _ _ _ (by omega),e _ _ _ _ (by omega),h3];rfl)
theorem below_four{w W:World}{b:Nat}(hB:Below w.heap.size w W)(hb:w.heap.size<=b)(x y z u:Value):Below w.heap.size w ((((W.setCell ⟨b,0,none⟩ x).setCell ⟨b,1,none⟩ y).setCell ⟨b,2,none⟩ z).setCell ⟨b,3,none⟩ u):=
 (((hB.setCell (p:=⟨b,0,none⟩) hb _).setCell (p:=⟨b,1,none⟩) hb _).setCell (p:=⟨b,2,none⟩) hb _).setCell (p:=⟨b,3,none⟩) hb _
theorem KY.set4{base:Nat}{g:Option Nat}{w:World}{B:Option Addr}{q:Fo}(h:KY base g w B q){b:Nat}(x y z u:Value)(hp:b<base):KY base g ((((w.setCell ⟨b,0,none⟩ x).setCell ⟨b,1,none⟩ y).setCell ⟨b,2,none⟩ z).setCell ⟨b,3,none⟩ u) B q:=
 (((h.set x (p:=⟨b,0,none⟩) hp).set y (p:=⟨b,1,none⟩) hp).set z (p:=⟨b,2,none⟩) hp).set u (p:=⟨b,3,none⟩) hp
structure Only2(a b:Nat)(w w':World):Prop where
 os:w'.os=w.os
 tape:w'.tape=w.tape
 output:w'.output=w.output
 size:w.heap.size<=w'.heap.size
 block:∀k,k<w.heap.size->k≠a->k≠b->w'.heap[k]?=w.heap[k]?
theorem Only2.refl(a b:Nat)(w:World):Only2 a b w w:=⟨rfl,rfl,rfl,Nat.le_refl _,λ_ _ _ _=>rfl⟩
theorem Only2.trans{a b:Nat}{x y z:World}(h:Only2 a b x y)(k:Only2 a b y z):Only2 a b x z:=
 ⟨k.os.trans h.os,k.tape.trans h.tape,k.output.trans h.output,Nat.le_trans h.size k.size,λi hi ha hb=>(k.block i (Nat.lt_of_lt_of_le hi h.size) ha hb).trans (h.block i hi ha hb)⟩
theorem Only2.of_below{a b:Nat}{x y:World}(h:Below x.heap.size x y):Only2 a b x y:=⟨h.os,h.tape,h.output,h.size,λi hi _ _=>h.block i hi⟩
theorem Only2.below{a b c:Nat}{x y:World}(h:Only2 a b x y)(ha:c<=a)(hb:c<=b)(hc:c<=x.heap.size):Below c x y:=⟨h.os,h.tape,h.output,h.size,λi hi=>h.block i (by omega) (by omega) (by omega)⟩
def IntBox(w:World)(b:Nat)(v:Int):Prop:=w.cell? ⟨b,0,none⟩=some (.int .i64 v)/\w.frozen? ⟨b,0,none⟩=false
theorem IntBox.drew{w:World}{b:Nat}{v:Int}(h:IntBox w b v):IntBox w.drew b v:=h
def AnyB(z:Ending):Prop:=∃b:Bool,z=.returned (.bool b)
theorem cell_lt{w:World}{b o:Nat}{v:Value}(h:w.cell? ⟨b,o,none⟩=some v):b<w.heap.size:=by
 apply Classical.byContradiction
 intro hn
 rw[World.cell?,Array.getElem?_eq_none (by show w.heap.size<=b;omega)] at h
 cases h
structure Keeps(base:Nat)(w w':World):Prop where
 size:w.heap.size<=w'.heap.size
 block:∀k,base<=k->k<w.heap.size->w'.heap[k]?=w.heap[k]?
theorem Only2.keeps{pa pl base:Nat}{w w':World}(h:Only2 pa pl w w')(ha:pa<base)(hl:pl<base):Keeps base w w':=⟨h.size,λk hk hs=>h.block k hs (by omega) (by omega)⟩
theorem PlBox.same{w w':World}{b:Nat}{kind n r:Int}{A:Option Addr}{l c:Nat}(h:PlBox w b kind n r A l c)(e:w'.heap[b]?=w.heap[b]?):PlBox w' b kind n r A l c:=
 ⟨(World.cell?_of_block (w:=w) (a:=⟨b,0,none⟩) e).trans h.1,(World.cell?_of_block (w:=w) (a:=⟨b,1,none⟩) e).trans h.2.1,(World.cell?_of_block (w:=w) (a:=⟨b,2,none⟩) e).trans h.2.2.1,(World.cell?_of_block (w:=w) (a:=⟨b,3,none⟩) e).trans h.2.2.2⟩
theorem PlFree.same{w w':World}{b:Nat}(h:PlFree w b)(e:w'.heap[b]?=w.heap[b]?):PlFree w' b:=λj hj=>(World.frozen?_of_block (w:=w) (a:=⟨b,j,none⟩) e).trans (h j hj)
theorem IntBox.same{w w':World}{b:Nat}{v:Int}(h:IntBox w b v)(e:w'.heap[b]?=w.heap[b]?):IntBox w' b v:=
 ⟨(World.cell?_of_block (w:=w) (a:=⟨b,0,none⟩) e).trans h.1,(World.frozen?_of_block (w:=w) (a:=⟨b,0,none⟩) e).trans h.2⟩
theorem cell_same{w w':World}{b o:Nat}{v:Value}(h:w.cell? ⟨b,o,none⟩=some v)(e:w'.heap[b]?=w.heap[b]?):w'.cell? ⟨b,o,none⟩=some v:=(World.cell?_of_block (w:=w) (a:=⟨b,o,none⟩) e).trans h
theorem KY.keeps{base:Nat}{g:Option Nat}{w w1:World}{B:Option Addr}{q:Fo}(h:KY base g w B q)(k:Keeps base w w1):KY base g w1 B q:=
 λw' hw=>h w' λi hi hs hg=>(hw i hi (Nat.lt_of_lt_of_le hs k.size) hg).trans (k.block i hi hs)
theorem owns_keeps{base n sz:Nat}{e:TypeId}{v:Value}{xs:List Value}{w w1:World}(h:w.ownsRow base e sz v n xs)(k:Keeps base w w1):w1.ownsRow base e sz v n xs:=by
 refine⟨h.1,?_⟩
 rcases h.2 with h0|⟨g,cap,cur,hv,hb,hg,h1,h2,h3,h4⟩
 ·exact .inl h0
 ·exact .inr ⟨g,cap,cur,hv,hb,(k.block g hb (Array.getElem?_eq_some_iff.1 hg).1).trans hg,h1,h2,h3,h4⟩
theorem RowP.keeps{base:Nat}{e:TypeId}{w w1:World}{v:Value}{fo:Fo}(h:RowP base e w v fo)(k:Keeps base w w1):RowP base e w1 v fo:=by
 obtain⟨xs,h1,h2⟩:=h
 exact⟨xs,owns_keeps h1 k,h2.map λ_ _ h=>h.keeps k⟩
theorem IntsAt.same{w w':World}{A:Option Addr}{n:Nat}{f:Nat->Int}(h:IntsAt w A n f)(e:0<n->∀b o,A=some ⟨b,o,none⟩->w'.heap[b]?=w.heap[b]?):IntsAt w' A n f:=λi hi=>by
 obtain⟨b,o,he,hc⟩:=h i hi
 exact⟨b,o,he,cell_same hc (e (by omega) b o he)⟩
theorem IntBox.lt{w:World}{b:Nat}{v:Int}(h:IntBox w b v):b<w.heap.size:=cell_lt h.1
theorem IntBox.set{w:World}{b:Nat}{v:Int}(h:IntBox w b v)(u:Int):IntBox (w.setCell ⟨b,0,none⟩ (.int .i64 u)) b u:=by
 refine⟨?_,?_⟩
 ·rw[World.cell?_setCell_same' _ _ _ (by rw[h.1];rfl)]
 ·rw[World.frozen?_setCell];exact h.2
theorem heap_set{w:World}{b o k:Nat}(u:Value)(h:k≠b):(w.setCell ⟨b,o,none⟩ u).heap[k]?=w.heap[k]?:=by
 have hs:(w.setCell ⟨b,o,none⟩ u).heap.size=w.heap.size:=by simp[World.setCell]
 have ho:=(OnlyB.refl b w).setCell o none u
 rcases Nat.lt_or_ge k w.heap.size with hl|hl
 ·exact ho.block k hl h
 ·rw[Array.getElem?_eq_none hl,Array.getElem?_eq_none (by omega)]
def Cand(n:Nat)(blue:Bool)(k r:Int):Prop:=
 (k=0/\r=0)\/(k=2/\r=0)\/(k=1/\∃p d:Nat,r=p/\2<=p/\2<=d/\p*d=n)\/(k=3/\r=0/\3<=n)\/(k=4/\r=0/\blue=false/\2<=n/\n<=16384)
def oneV(n:Nat)(c:Int×Int):List Value:=[.int .i64 c.1,.int .i64 n,.int .i64 c.2,.slice none 0 0]
def candV(n:Nat)(cs:List (Int×Int)):List Value:=cs.flatMap (oneV n)
def AllRow(base n:Nat)(blue:Bool)(w:World)(v:Value)(cs:List (Int×Int)):Prop:=
 w.ownsRow base 46 4 v cs.length (candV n cs)/\∀c∈cs,Cand n blue c.1 c.2
theorem candV_app(n:Nat)(a b:List (Int×Int)):candV n (a++b)=candV n a++candV n b:=by simp[candV]
theorem candV_len(n:Nat):∀cs:List (Int×Int),(candV n cs).length=cs.length*4
 |[]=>rfl
 |c::cs=>by
   have:=candV_len n cs
   unfold candV at this|-
   rw[List.flatMap_cons,List.length_append,this,List.length_cons]
   simp[oneV]
   omega
theorem candV_at(n:Nat):∀(cs:List (Int×Int)) (i:Nat) (c:Int×Int),cs[i]?=some c->∀j,j<4->(candV n cs)[i*4+j]?=(oneV n c)[j]?
 |[],_,_,h,_,_=>by simp at h
 |d::cs,0,c,h,j,hj=>by
   have h':d=c:=by simpa using h
   subst h'
   unfold candV
   rw[List.flatMap_cons,List.getElem?_append_left (by simp[oneV];omega),Nat.zero_mul,Nat.zero_add]
 |d::cs,i+1,c,h,j,hj=>by
   have ih:=candV_at n cs i c (by simpa using h) j hj
   unfold candV at ih|-
   rw[List.flatMap_cons,List.getElem?_append_right (by simp[oneV];omega),<-ih]
   congr 1
   simp[oneV]
   omega
theorem one_cand(n:Nat)(c:Int×Int)(u:Value)(h:u∈oneV n c):u.oneCell'=true:=by
 simp only[oneV,List.mem_cons,List.not_mem_nil,or_false] at h
 rcases h with rfl|rfl|rfl|rfl<;>rfl
theorem AllRow.keeps{base n:Nat}{blue:Bool}{w w1:World}{v:Value}{cs:List (Int×Int)}(h:AllRow base n blue w v cs)(k:Keeps base w w1):AllRow base n blue w1 v cs:=⟨owns_keeps h.1 k,h.2⟩
theorem bs_plans2(a b c d a' b' c' d':Value)(w:World):(Instr.buildSlice 44 2 #[(0,.agg #[a,b,c,d]),(1,.agg #[a',b',c',d'])]).run Tryz.prog w=.ok (.slice (some ⟨w.heap.size,0,none⟩) 2 2) (w.alloc (.cells #[a,b,c,d,a',b',c',d'] 46)):=by
 obtain⟨i0,hi,hz0,hz1,hz2⟩:=info_parts info_plan
 refine run_buildSlice w 44 46 2 _ #[a,b,c,d,a',b',c',d'] i0 _ Tryz.underlying44 hi hz0 (by rw[hz1];decide) (by rw[hz1];decide) ?_
 rw[hz1]
 have hr:Array.range 4=#[0,1,2,3]:=by decide
 have hr8:Array.range 8=#[0,1,2,3,4,5,6,7]:=by decide
 simp[Instr.fill,Value.cells,hr,hr8]
theorem wpList_appM{ops:Array Oper}{rest:List Oper}{o:Oper}{a:Act}{w:World}{Q:Exit->Act->World->Prop}(hgd:o.guard=none)(s x:Operand)(t e:TypeId)(ho:o.op=.call {callee:=.builtin .append,args:=#[s,x],argTypes:=#[t,t]})(sz bytes:Nat)(z:Value)(hU:Tryz.prog.underlying t=some (.slice e))(hI:(Tryz.prog.info? e).map (λi=>(i.zero,i.size,i.bytes))=some (some z,sz,bytes))(hzs:z.cells.size=sz)(hsz:0<sz)(hby:bytes<=64)(base:Nat)(v:Value)(k m:Nat)(hm:1<=m)(xs:List Value)(hs:a.eval s=v)(hown:w.ownsRow base e sz v k xs)(b c:Nat)(news:List Value)(hl:news.length=m*sz)(hx:a.eval x=.slice (some ⟨b,0,none⟩) m c)(hn:∀j u,news[j]?=some u->w.cell? ⟨b,j,none⟩=some u)(h1:∀u∈news,u.oneCell'=true)(hk:k+m<=1099511627776)(hbase:base<=w.heap.size)(h:∀g cap w',Hid (w'.ownsRow base e sz (.slice (some ⟨g,0,none⟩) (k+m) cap) (k+m) (xs++news))->Hid (w.grownBy w' v.ownBlock)->Hid (v.ownBlock=some g\/g=w.heap.size)->wpList Tryz.prog ops Q rest (a.put o.dst (.slice (some ⟨g,0,none⟩) (k+m) cap)) w'):wpList Tryz.prog ops Q (o::rest) a w:=by
 obtain⟨i0,hi,hz0,hz1,hz2⟩:=info_parts hI
 refine wpList_append_lies w hgd s x t ho base e i0 z sz bytes hU hi hz0 hz1 hz2 hzs hsz v k xs hs hown ⟨b,0,none⟩ m c news hx hl ?_ h1 (by omega) (by unfold maxLen;omega) ?_ hbase _ rfl ?_
 ·intro j u hj
  have:=hn j u hj
  rw[Addr.add]
  split
  ·rename_i e;subst e;exact this
  ·simpa using this
 ·have:(k+m)*bytes<=1099511627776*64:=Nat.mul_le_mul hk hby
  omega
 ·intro g cap w' h1 h2 h3 _
  exact h g cap w' (aZ h1) (aZ h2) (aZ h3)
theorem AllRow.new{base n:Nat}{blue:Bool}{w:World}:AllRow base n blue w (.slice none 0 0) []:=⟨⟨rfl,.inl ⟨rfl,rfl⟩⟩,λ_ h=>by cases h⟩
theorem AllRow.more{base n:Nat}{blue:Bool}{w w':World}{v:Value}{cs ds:List (Int×Int)}{g cap:Nat}(h:AllRow base n blue w v cs)(hO:w'.ownsRow base 46 4 (.slice (some ⟨g,0,none⟩) (cs.length+ds.length) cap) (cs.length+ds.length) (candV n cs++candV n ds))(hd:∀c∈ds,Cand n blue c.1 c.2):AllRow base n blue w' (.slice (some ⟨g,0,none⟩) (cs.length+ds.length) cap) (cs++ds):=by
 refine⟨?_,λc hc=>?_⟩
 ·rw[List.length_append,candV_app]
  exact hO
 ·rcases List.mem_append.1 hc with h1|h1
  ·exact h.2 c h1
  ·exact hd c h1
theorem AllRow.form{base n:Nat}{blue:Bool}{w:World}{v:Value}{cs:List (Int×Int)}(h:AllRow base n blue w v cs):∃A c,v=.slice A cs.length c:=by
 rcases h.1.2 with⟨rfl,hl⟩|⟨g,cap,cur,rfl,_⟩
 ·exact⟨none,0,by rw[hl]⟩
 ·exact⟨_,_,rfl⟩
theorem AllRow.at'{base n:Nat}{blue:Bool}{w:World}{A:Option Addr}{l c:Nat}{cs:List (Int×Int)}(h:AllRow base n blue w (.slice A l c) cs){i:Nat}(hi:i<cs.length):
  ∃g k r,A=some ⟨g,0,none⟩/\l=cs.length/\Cand n blue k r/\w.cell? ⟨g,i*4,none⟩=some (.int .i64 k)/\w.cell? ⟨g,i*4+1,none⟩=some (.int .i64 n)/\w.cell? ⟨g,i*4+2,none⟩=some (.int .i64 r)/\w.cell? ⟨g,i*4+3,none⟩=some (.slice none 0 0):=by
 rcases h.1.2 with⟨_,hl⟩|⟨g,cap,cur,hv,_⟩
 ·omega
 ·injection hv with h1 h2 h3
  subst h1 h2 h3
  have hat:=candV_at n cs i cs[i] (List.getElem?_eq_getElem hi)
  have hcell:∀j,j<4->w.cell? ⟨g,i*4+j,none⟩=(oneV n cs[i])[j]?:=λj hj=>by
   rw[<-hat j hj]
   exact World.ownsRow.cellAt h.1 (i*4+j) (by omega)
  exact⟨g,_,_,rfl,rfl,h.2 _ (List.getElem_mem hi),hcell 0 (by omega),hcell 1 (by omega),hcell 2 (by omega),hcell 3 (by omega)⟩
def capN(blue:Bool)(x:Int):Nat:=if blue then 2*x.toNat-1 else 16*x.toNat-4
def capL(blue:Bool):List Int->Nat
 |[]=>0
 |x::l=>capN blue x+capL blue l
theorem cand_cap{n:Nat}{blue:Bool}{k r:Int}(h:Cand n blue k r)(h1:1<=n):1+capL (blue||k==4) (wantsF k n r)<=capN blue n:=by
 rcases h with⟨rfl,rfl⟩|⟨rfl,rfl⟩|⟨rfl,p,d,rfl,hp,hd,hpd⟩|⟨rfl,rfl,h3⟩|⟨rfl,rfl,rfl,h2,h4⟩
 ·cases blue<;>simp[wantsF,capL,capN]<;>omega
 ·cases blue<;>simp[wantsF,capL,capN]<;>omega
 ·have e:wantsF 1 n p=[(p:Int),(d:Int)]:=by
    unfold wantsF
    rw[if_pos rfl,if_neg (by omega)]
    have:((n:Nat):Int)/(p:Int)=d:=by
     rw[<-hpd,Int.natCast_mul,Int.mul_ediv_cancel_left _ (by omega)]
    rw[this]
  rw[e]
  have h5:p+d<=n:=by
   obtain⟨p',rfl⟩:∃p',p=p'+2:=⟨p-2,by omega⟩
   obtain⟨d',rfl⟩:∃d',d=d'+2:=⟨d-2,by omega⟩
   have:(p'+2)*(d'+2)=p'*d'+2*p'+2*d'+4:=by grind
   omega
  cases blue<;>simp[capL,capN]<;>omega
 ·have e:wantsF 3 n 0=[(n:Int)-1]:=rfl
  rw[e]
  cases blue<;>simp[capL,capN]<;>omega
 ·have e:wantsF 4 n 0=[(padF n:Int)]:=rfl
  rw[e]
  have:=(padF_spec n (by omega) h4).2.1
  simp[capL,capN]
  omega
theorem cand_wants{n:Nat}{blue:Bool}{k r:Int}(h:Cand n blue k r)(h1:1<=n)(hn:n<=32768):∀x∈wantsF k n r,∃m:Nat,x=m/\1<=m/\m<=32768/\(k=4\/m<n):=by
 intro x hx
 rcases h with⟨rfl,rfl⟩|⟨rfl,rfl⟩|⟨rfl,p,d,rfl,hp,hd,hpd⟩|⟨rfl,rfl,h3⟩|⟨rfl,rfl,rfl,h2,h4⟩
 ·simp[wantsF] at hx
 ·simp[wantsF] at hx
 ·have e:wantsF 1 n p=[(p:Int),(d:Int)]:=by
    unfold wantsF
    rw[if_pos rfl,if_neg (by omega)]
    have:((n:Nat):Int)/(p:Int)=d:=by
     rw[<-hpd,Int.natCast_mul,Int.mul_ediv_cancel_left _ (by omega)]
    rw[this]
  rw[e] at hx
  have h5:p+d<=n:=by
   obtain⟨p',rfl⟩:∃p',p=p'+2:=⟨p-2,by omega⟩
   obtain⟨d',rfl⟩:∃d',d=d'+2:=⟨d-2,by omega⟩
   have:(p'+2)*(d'+2)=p'*d'+2*p'+2*d'+4:=by grind
   omega
  simp only[List.mem_cons,List.not_mem_nil,or_false] at hx
  rcases hx with rfl|rfl
  ·exact⟨p,rfl,by omega,by omega,.inr (by omega)⟩
  ·exact⟨d,rfl,by omega,by omega,.inr (by omega)⟩
 ·have e:wantsF 3 n 0=[(n:Int)-1]:=rfl
  rw[e] at hx
  simp only[List.mem_cons,List.not_mem_nil,or_false] at hx
  subst hx
  exact⟨n-1,by omega,by omega,by omega,.inr (by omega)⟩
 ·have e:wantsF 4 n 0=[(padF n:Int)]:=rfl
  rw[e] at hx
  have:=padF_spec n (by omega) h4
  simp only[List.mem_cons,List.not_mem_nil,or_false] at hx
  subst hx
  exact⟨padF n,rfl,by omega,by omega,.inl rfl⟩
theorem capL_drop(b:Bool)(ws:List Int)(i:Nat)(h:i<ws.length):capL b (ws.drop i)=capN b (ws.getD i 0)+capL b (ws.drop (i+1)):=by
 rw[List.drop_eq_getElem_cons h,capL,List.getD_eq_getElem?_getD,List.getElem?_eq_getElem h]
 rfl
end Go.Proofs.YtfedabinindpbaaGreat
