/- build: a plan and its twin out of a list of nodes. -/
import Derived.Test.YteaimnemobnknaaX0
import Derived.Test.YteaimnemobnknaaZ3
import Derived.Test.YteaimnemobnknaaD2
import Derived.Test.YteaimnemobnknaaZ2
set_option maxRecDepth 100000
set_option maxHeartbeats 16000000
set_option linter.unusedSimpArgs false
set_option linter.unusedVariables false
namespace Go.Proofs.Yteaimnemobnknaa
open Go.RowKit Go.Lib
def KG(base:Nat)(G:Nat->Prop)(w:World)(B:Option Addr)(q:Fo):Prop:=∀w':World,(∀k,base<=k->k<w.heap.size->¬G k->w'.heap[k]?=w.heap[k]?)->Kids w' B 0 q
theorem KG.step{base:Nat}{G G':Nat->Prop}{w w1:World}{B:Option Addr}{q:Fo}(h:KG base G w B q)(hs:w.heap.size<=w1.heap.size)(he:∀k,base<=k->k<w.heap.size->¬G k->w1.heap[k]?=w.heap[k]?)(hG:∀k,k<w.heap.size->G' k->G k):KG base G' w1 B q:=
 λw' hw=>h w' λk hb hs' hg=>(hw k hb (Nat.lt_of_lt_of_le hs' hs) (λg=>hg (hG k hs' g))).trans (he k hb hs' hg)
theorem KG.below{base:Nat}{G:Nat->Prop}{w w1:World}{B:Option Addr}{q:Fo}(h:KG base G w B q)(hb:Below w.heap.size w w1):KG base G w1 B q:=h.step hb.size (λk _ hs _=>hb.block k hs) (λ_ _ g=>g)
theorem KY.kg{base base':Nat}{G:Nat->Prop}{w:World}{B:Option Addr}{q:Fo}(h:KY base none w B q)(hG:∀k,G k->k<base)(hb:base'<=base):KG base' G w B q:=λw' hw=>h w' λk hk hs _=>hw k (by omega) hs (λg=>by have:=hG k g;omega)
theorem KG.ky{base:Nat}{G:Nat->Prop}{w:World}{B:Option Addr}{q:Fo}(h:KG base G w B q):KY base none w B q:=λw' hw=>h w' λk hk hs _=>hw k hk hs (by simp)
def RowG(base:Nat)(G:Nat->Prop)(w:World):Fo->List Value->Prop
 |.nil,xs=>xs=[]
 |.cons k n r q rest,xs=>∃(B:Option Addr) (c:Nat) (ys:List Value),xs=.int .i64 k::.int .i64 n::.int .i64 r::.slice B q.len c::ys/\KG base G w B q/\RowG base G w rest ys
theorem RowG.map{base base':Nat}{G G':Nat->Prop}{w w':World}(h:∀B q,KG base G w B q->KG base' G' w' B q):∀{fo:Fo} {xs:List Value},RowG base G w fo xs->RowG base' G' w' fo xs
 |.nil,_,e=>e
 |.cons _ _ _ _ _,_,⟨B,c,ys,e,hk,hr⟩=>⟨B,c,ys,e,h _ _ hk,RowG.map h hr⟩
theorem RowG.snoc{base:Nat}{G:Nat->Prop}{w:World}{k n r:Int}{q:Fo}{B:Option Addr}(c:Nat)(hq:KG base G w B q):∀{fo:Fo} {xs:List Value},RowG base G w fo xs->RowG base G w (fo.snoc k n r q) (xs++[.int .i64 k,.int .i64 n,.int .i64 r,.slice B q.len c])
 |.nil,xs,e=>by
   have e':xs=[]:=e
   subst e'
   exact⟨B,c,[],rfl,hq,rfl⟩
 |.cons _ _ _ _ _,_,⟨B',c',ys,e,hk,hr⟩=>by
   subst e
   exact⟨B',c',_,rfl,hk,RowG.snoc c hq hr⟩
theorem RowG.rowK{base:Nat}{G:Nat->Prop}{w:World}:∀{fo:Fo} {xs:List Value},RowG base G w fo xs->RowK base none w fo xs
 |.nil,_,e=>e
 |.cons _ _ _ _ _,_,⟨B,c,ys,e,hk,hr⟩=>⟨B,c,ys,e,hk.ky,hr.rowK⟩
def RwS(base:Nat)(e:TypeId)(G:Nat->Prop)(w:World)(v:Value)(fo:Fo):Prop:=∃xs,w.ownsRow base e 4 v fo.len xs/\RowG base G w fo xs
theorem RwS.nil(base:Nat)(e:TypeId)(G:Nat->Prop)(w:World):RwS base e G w (.slice none 0 0) .nil:=⟨[],⟨rfl,.inl ⟨rfl,rfl⟩⟩,rfl⟩
theorem owns_same{base n sz:Nat}{e:TypeId}{v:Value}{xs:List Value}{w w1:World}(h:w.ownsRow base e sz v n xs)(k:∀b,v.ownBlock=some b->w1.heap[b]?=w.heap[b]?):w1.ownsRow base e sz v n xs:=by
 refine⟨h.1,?_⟩
 rcases h.2 with h0|⟨g,cap,cur,hv,hb,hg,h1,h2,h3,h4⟩
 ·exact .inl h0
 ·exact .inr ⟨g,cap,cur,hv,hb,(k g (by rw[hv];rfl)).trans hg,h1,h2,h3,h4⟩
theorem RwS.step{base:Nat}{e:TypeId}{G G':Nat->Prop}{w w1:World}{v:Value}{fo:Fo}(h:RwS base e G w v fo)(hs:w.heap.size<=w1.heap.size)(he:∀k,base<=k->k<w.heap.size->¬G k->w1.heap[k]?=w.heap[k]?)(ho:∀b,v.ownBlock=some b->w1.heap[b]?=w.heap[b]?)(hG:∀k,k<w.heap.size->G' k->G k):RwS base e G' w1 v fo:=by
 obtain⟨xs,h1,h2⟩:=h
 exact⟨xs,owns_same h1 ho,h2.map λ_ _ h=>h.step hs he hG⟩
theorem RwS.lt{base:Nat}{e:TypeId}{G:Nat->Prop}{w:World}{v:Value}{fo:Fo}(h:RwS base e G w v fo):∀k,v.ownBlock=some k->base<=k/\k<w.heap.size:=by
 obtain⟨xs,h1,h2⟩:=h
 exact World.ownsRow.lt h1
theorem RwS.below{base:Nat}{e:TypeId}{G:Nat->Prop}{w w1:World}{v:Value}{fo:Fo}(h:RwS base e G w v fo)(hb:Below w.heap.size w w1):RwS base e G w1 v fo:=h.step hb.size (λk _ hs _=>hb.block k hs) (λb hv=>hb.block b (h.lt b hv).2) (λ_ _ g=>g)
theorem RwS.ne{base:Nat}{e e':TypeId}{G G':Nat->Prop}{w:World}{v v':Value}{fo fo':Fo}(h:RwS base e G w v fo)(h':RwS base e' G' w v' fo')(he:e≠e'):∀b,v.ownBlock=some b->v'.ownBlock≠some b:=by
 obtain⟨xs,h1,-⟩:=h
 obtain⟨ys,h2,-⟩:=h'
 intro b hb hb'
 rcases h1.2 with⟨rfl,_⟩|⟨g,cap,cur,hv,-,hg,-⟩
 ·cases hb
 rcases h2.2 with⟨rfl,_⟩|⟨g',cap',cur',hv',-,hg',-⟩
 ·cases hb'
 subst hv hv'
 injection hb with hb
 injection hb' with hb'
 have e1:g=b:=hb
 have e2:g'=b:=hb'
 subst e1 e2
 rw[hg] at hg'
 injection hg' with hg'
 injection hg' with _ h3
 exact he h3
def Gof(v1 v2:Value)(k:Nat):Prop:=v1.ownBlock=some k\/v2.ownBlock=some k
theorem RwS.snoc{base:Nat}{e:TypeId}{G G':Nat->Prop}{w w':World}{v:Value}{fo:Fo}{xs:List Value}{k n r:Int}{q:Fo}{B:Option Addr}{c g cap:Nat}(h2:RowG base G w fo xs)(hq:KG base G w B q)(hO:w'.ownsRow base e 4 (.slice (some ⟨g,0,none⟩) (fo.len+1) cap) (fo.len+1) (xs++[.int .i64 k,.int .i64 n,.int .i64 r,.slice B q.len c]))(hG:w.grownBy w' v.ownBlock)(hv:∀k,v.ownBlock=some k->G k)(hGG:∀k,k<w.heap.size->G' k->G k):
  RwS base e G' w' (.slice (some ⟨g,0,none⟩) (fo.len+1) cap) (fo.snoc k n r q):=by
 have key:∀B q,KG base G w B q->KG base G' w' B q:=λB q h=>h.step hG.size (λk _ hs hg=>hG.block k hs (λe=>hg (hv k e.symm))) hGG
 exact⟨_,by rw[snoc_len];exact hO,RowG.snoc c (key _ _ hq) (h2.map key)⟩
theorem gof_l{w:World}{v1 v2:Value}{n g cap:Nat}(hL:v1.ownBlock=some g\/g=w.heap.size):∀k,k<w.heap.size->Gof (.slice (some ⟨g,0,none⟩) n cap) v2 k->Gof v1 v2 k:=λk hk h=>by
 rcases h with h|h
 ·injection h with h
  have e:g=k:=h
  subst e
  rcases hL with h1|h1
  ·exact .inl h1
  ·omega
 ·exact .inr h
theorem gof_r{w:World}{v1 v2:Value}{n g cap:Nat}(hL:v2.ownBlock=some g\/g=w.heap.size):∀k,k<w.heap.size->Gof v1 (.slice (some ⟨g,0,none⟩) n cap) k->Gof v1 v2 k:=λk hk h=>by
 rcases h with h|h
 ·exact .inl h
 ·injection h with h
  have e:g=k:=h
  subst e
  rcases hL with h1|h1
  ·exact .inr h1
  ·omega
theorem RwS.form{base:Nat}{e:TypeId}{G:Nat->Prop}{w:World}{v:Value}{fo:Fo}(h:RwS base e G w v fo):∃A c,v=.slice A fo.len c/\KY base none w A fo:=by
 obtain⟨xs,h1,h2⟩:=h
 exact RowP.form (e:=e) ⟨xs,h1,h2.rowK.map λ_ _ h=>h.low (λk hk=>by cases hk)⟩
where
 RowP.form {base:Nat} {e:TypeId} {w:World} {v:Value} {fo:Fo} (h:∃xs,w.ownsRow base e 4 v fo.len xs/\RowK base none w fo xs):∃A c,v=.slice A fo.len c/\KY base none w A fo:=by
  obtain⟨xs,h1,h2⟩:=h
  rcases h1.2 with⟨rfl,hl⟩|⟨g,cap,cur,rfl,hb,hg,-,-,-,ht⟩
  ·refine⟨none,0,by rw[hl],λw' _=>?_⟩
   rcases fo with _|⟨_,_,_,_,_⟩
   ·trivial
   ·simp[Fo.len] at hl
  ·refine⟨some ⟨g,0,none⟩,cap,rfl,λw' hw=>?_⟩
   have hlt:=(Array.getElem?_eq_some_iff.1 hg).1
   refine RowK.kids (λB q h=>h w' λk k1 k2 k3=>hw k k1 k2 (by simp)) 0 h2 λt v ht'=>?_
   rw[Nat.zero_mul,Nat.zero_add]
   have h3:w.cell? ⟨g,t,none⟩=some v:=by
    rw[World.ownsRow.cellAt h1 t (by
     have:=(List.getElem?_eq_some_iff.1 ht').1
     rw[h1.1] at this
     exact this)]
    exact ht'
   rw[World.cell?_of_block (w:=w) (a:=⟨g,t,none⟩) (hw g hb hlt (by simp)),h3]
def NodesAt(w:World)(A:Option Addr)(n:Nat)(f:Nat->Nat->Int):Prop:=∀i,i<n->∃b o,A=some ⟨b,o,none⟩/\w.cell? ⟨b,o+i*4,none⟩=some (.int .i64 (f i 0))/\w.cell? ⟨b,o+i*4+1,none⟩=some (.int .i64 (f i 1))/\w.cell? ⟨b,o+i*4+2,none⟩=some (.int .i64 (f i 2))/\w.cell? ⟨b,o+i*4+3,none⟩=some (.int .i64 (f i 3))
theorem NodesAt.same{w w':World}{A:Option Addr}{n:Nat}{f:Nat->Nat->Int}(h:NodesAt w A n f)(e:0<n->∀b o,A=some ⟨b,o,none⟩->w'.heap[b]?=w.heap[b]?):NodesAt w' A n f:=λi hi=>by
 obtain⟨b,o,he,h0,h1,h2,h3⟩:=h i hi
 have:=e (by omega) b o he
 exact⟨b,o,he,cell_same h0 this,cell_same h1 this,cell_same h2 this,cell_same h3 this⟩
theorem NodesAt.block{w:World}{A:Option Addr}{n:Nat}{f:Nat->Nat->Int}(h:NodesAt w A n f)(hn:0<n):∀b o,A=some ⟨b,o,none⟩->b<w.heap.size:=λb o e=>by
 obtain⟨b',o',e',h0,-⟩:=h 0 hn
 rw[e] at e'
 injection e' with e'
 injection e' with e1 e2
 subst e1
 exact cell_lt h0
theorem NodesAt.keep{w w':World}{A:Option Addr}{n:Nat}{f:Nat->Nat->Int}(h:NodesAt w A n f)(hb:Below w.heap.size w w'):NodesAt w' A n f:=h.same λh0 b o e=>hb.block b (h.block h0 b o e)
structure BdH(w:World)(ba bl bn:Nat)(Al:Option Addr)(nl:Nat):Prop where
 lta:ba<w.heap.size
 ltl:bl<w.heap.size
 ltn:bn<w.heap.size
 nal:ba≠bl
 nn:ba≠bn
 al:0<nl->∀b o,Al=some ⟨b,o,none⟩->b<w.heap.size/\b≠ba
theorem BdH.mono{w w':World}{ba bl bn:Nat}{Al:Option Addr}{nl:Nat}(h:BdH w ba bl bn Al nl)(hs:w.heap.size<=w'.heap.size):BdH w' ba bl bn Al nl:=
 ⟨Nat.lt_of_lt_of_le h.lta hs,Nat.lt_of_lt_of_le h.ltl hs,Nat.lt_of_lt_of_le h.ltn hs,h.nal,h.nn,λh0 b o e=>⟨Nat.lt_of_lt_of_le (h.al h0 b o e).1 hs,(h.al h0 b o e).2⟩⟩
abbrev bdF(ba bl bn:Nat):Value:=.func (.func 62) #[] #[.pointer (some ⟨ba,0,none⟩),.pointer (some ⟨bl,0,none⟩),.pointer (some ⟨bn,0,none⟩)]
structure BdF(w W:World)(ba bl bn a:Nat)(Al:Option Addr)(nl cl:Nat)(f:Nat->Nat->Int)(k n r kk:Int)(B:Option Addr)(c:Nat)(B':Option Addr)(c' i:Nat):Prop where
 sz:w.heap.size+5<=W.heap.size
 o:OnlyB ba w W
 ia:IntBox W ba a
 cl:W.cell? ⟨bl,0,none⟩=some (.slice Al nl cl)
 cn:W.cell? ⟨bn,0,none⟩=some (bdF ba bl bn)
 nd:NodesAt W Al nl f
 r5:PlBox W w.heap.size 0 0 0 none 0 0/\PlFree W w.heap.size
 r6:PlBox W (w.heap.size+1) 0 0 0 none 0 0/\PlFree W (w.heap.size+1)
 bx:W.cell? ⟨w.heap.size+2,3,none⟩=some (.int .i64 kk)
 bp:PlBox W (w.heap.size+3) k n r B i c/\PlFree W (w.heap.size+3)
 bq:PlBox W (w.heap.size+4) k n r B' i c'/\PlFree W (w.heap.size+4)
theorem BdF.move{w W W':World}{ba bl bn a a':Nat}{Al:Option Addr}{nl cl:Nat}{f:Nat->Nat->Int}{k n r kk:Int}{B:Option Addr}{c:Nat}{B':Option Addr}{c' i:Nat}(H:BdH w ba bl bn Al nl)(h:BdF w W ba bl bn a Al nl cl f k n r kk B c B' c' i)(hs:W.heap.size<=W'.heap.size)(ho:W'.os=W.os)(ht:W'.tape=W.tape)(hu:W'.output=W.output)(he:∀j,j<w.heap.size+5->j≠ba->W'.heap[j]?=W.heap[j]?)(ha:IntBox W' ba a'):BdF w W' ba bl bn a' Al nl cl f k n r kk B c B' c' i:=by
 have h1:=H.lta
 have h2:=H.ltl
 have h3:=H.ltn
 have h4:=H.nal
 have h5:=H.nn
 have h6:=h.sz
 exact⟨by omega,⟨ho.trans h.o.os,ht.trans h.o.tape,hu.trans h.o.output,by have:=h.o.size;omega,λj hj hb=>(he j (by omega) hb).trans (h.o.block j hj hb)⟩,ha,cell_same h.cl (he _ (by omega) (by omega)),cell_same h.cn (he _ (by omega) (by omega)),
  h.nd.same λh0 b o e=>he b (by have:=(H.al h0 b o e).1;omega) (H.al h0 b o e).2,⟨h.r5.1.same (he _ (by omega) (by omega)),h.r5.2.same (he _ (by omega) (by omega))⟩,⟨h.r6.1.same (he _ (by omega) (by omega)),h.r6.2.same (he _ (by omega) (by omega))⟩,
  cell_same h.bx (he _ (by omega) (by omega)),⟨h.bp.1.same (he _ (by omega) (by omega)),h.bp.2.same (he _ (by omega) (by omega))⟩,⟨h.bq.1.same (he _ (by omega) (by omega)),h.bq.2.same (he _ (by omega) (by omega))⟩⟩
theorem BdF.only{w W W':World}{ba bl bn a a':Nat}{Al:Option Addr}{nl cl:Nat}{f:Nat->Nat->Int}{k n r kk:Int}{B:Option Addr}{c:Nat}{B':Option Addr}{c' i:Nat}(H:BdH w ba bl bn Al nl)(h:BdF w W ba bl bn a Al nl cl f k n r kk B c B' c' i)(ho:OnlyB ba W W')(ha:IntBox W' ba a'):BdF w W' ba bl bn a' Al nl cl f k n r kk B c B' c' i:=
 h.move H ho.size ho.os ho.tape ho.output (λj hj hb=>ho.block j (by have:=h.sz;omega) hb) ha
theorem BdF.below{w W W':World}{ba bl bn a:Nat}{Al:Option Addr}{nl cl:Nat}{f:Nat->Nat->Int}{k n r kk:Int}{B:Option Addr}{c:Nat}{B':Option Addr}{c' i:Nat}(H:BdH w ba bl bn Al nl)(h:BdF w W ba bl bn a Al nl cl f k n r kk B c B' c' i)(hb:Below W.heap.size W W'):BdF w W' ba bl bn a Al nl cl f k n r kk B c B' c' i:=
 h.move H hb.size hb.os hb.tape hb.output (λj hj _=>hb.block j (by have:=h.sz;omega)) (h.ia.same (hb.block _ h.ia.lt))
theorem BdF.grown{w W W':World}{ba bl bn a:Nat}{Al:Option Addr}{nl cl:Nat}{f:Nat->Nat->Int}{k n r kk:Int}{B:Option Addr}{c:Nat}{B':Option Addr}{c' i:Nat}{row:Option Nat}(H:BdH w ba bl bn Al nl)(h:BdF w W ba bl bn a Al nl cl f k n r kk B c B' c' i)(hg:W.grownBy W' row)(hr:∀j,row=some j->w.heap.size+5<=j):BdF w W' ba bl bn a Al nl cl f k n r kk B c B' c' i:=
 h.move H hg.size hg.os hg.tape hg.output (λj hj _=>hg.block j (by have:=h.sz;omega) (λe=>by have:=hr j e.symm;omega)) (h.ia.same (hg.block _ (by have:=h.sz;have:=H.lta;omega) (λe=>by have:=hr ba e.symm;have:=H.lta;omega)))
theorem BdF.put{w W:World}{ba bl bn a:Nat}{Al:Option Addr}{nl cl:Nat}{f:Nat->Nat->Int}{k n r kk:Int}{B:Option Addr}{c:Nat}{B':Option Addr}{c' i:Nat}(H:BdH w ba bl bn Al nl)(h:BdF w W ba bl bn a Al nl cl f k n r kk B c B' c' i)(A:Option Addr)(d:Nat)(A':Option Addr)(d' i':Nat):
  BdF w ((W.setCell ⟨w.heap.size+3,3,none⟩ (.slice A i' d)).setCell ⟨w.heap.size+4,3,none⟩ (.slice A' i' d')) ba bl bn a Al nl cl f k n r kk A d A' d' i':=by
 have h1:=H.lta
 have h2:=H.ltl
 have h3:=H.ltn
 have h6:=h.sz
 have e1:∀j,j≠w.heap.size+3->(W.setCell ⟨w.heap.size+3,3,none⟩ (.slice A i' d)).heap[j]?=W.heap[j]?:=λj hj=>heap_set _ hj
 have e2:∀j,j≠w.heap.size+4->((W.setCell ⟨w.heap.size+3,3,none⟩ (.slice A i' d)).setCell ⟨w.heap.size+4,3,none⟩ (.slice A' i' d')).heap[j]?=(W.setCell ⟨w.heap.size+3,3,none⟩ (.slice A i' d)).heap[j]?:=λj hj=>heap_set _ hj
 have he:∀j,j≠w.heap.size+3->j≠w.heap.size+4->((W.setCell ⟨w.heap.size+3,3,none⟩ (.slice A i' d)).setCell ⟨w.heap.size+4,3,none⟩ (.slice A' i' d')).heap[j]?=W.heap[j]?:=λj h3 h4=>(e2 j h4).trans (e1 j h3)
 have hz:((W.setCell ⟨w.heap.size+3,3,none⟩ (.slice A i' d)).setCell ⟨w.heap.size+4,3,none⟩ (.slice A' i' d')).heap.size=W.heap.size:=by simp[World.setCell]
 exact⟨by omega,⟨h.o.os,h.o.tape,h.o.output,by have:=h.o.size;omega,λj hj hb=>(he j (by omega) (by omega)).trans (h.o.block j hj hb)⟩,h.ia.same (he _ (by omega) (by omega)),cell_same h.cl (he _ (by omega) (by omega)),cell_same h.cn (he _ (by omega) (by omega)),
  h.nd.same λh0 b o e=>he b (by have:=(H.al h0 b o e).1;omega) (by have:=(H.al h0 b o e).1;omega),⟨h.r5.1.same (he _ (by omega) (by omega)),h.r5.2.same (he _ (by omega) (by omega))⟩,⟨h.r6.1.same (he _ (by omega) (by omega)),h.r6.2.same (he _ (by omega) (by omega))⟩,
  cell_same h.bx (he _ (by omega) (by omega)),⟨(PlBox.kid h.bp.1 _ _ _).same (e2 _ (by omega)),(h.bp.2.set _ _).same (e2 _ (by omega))⟩,⟨PlBox.kid (h.bq.1.same (e1 _ (by omega))) _ _ _,(h.bq.2.same (e1 _ (by omega))).set _ _⟩⟩
theorem BdF.fin{w W:World}{ba bl bn a:Nat}{Al:Option Addr}{nl cl:Nat}{f:Nat->Nat->Int}{k n r kk:Int}{B:Option Addr}{c:Nat}{B':Option Addr}{c' i:Nat}(H:BdH w ba bl bn Al nl)(h:BdF w W ba bl bn a Al nl cl f k n r kk B c B' c' i)(j:Nat)(hj:j=w.heap.size\/j=w.heap.size+1)(x y z:Value)(u:Value):
  OnlyB ba w ((((W.setCell ⟨j,0,none⟩ x).setCell ⟨j,1,none⟩ y).setCell ⟨j,2,none⟩ z).setCell ⟨j,3,none⟩ u)/\IntBox ((((W.setCell ⟨j,0,none⟩ x).setCell ⟨j,1,none⟩ y).setCell ⟨j,2,none⟩ z).setCell ⟨j,3,none⟩ u) ba a:=by
 have h1:=H.lta
 have e:∀i,i≠j->((((W.setCell ⟨j,0,none⟩ x).setCell ⟨j,1,none⟩ y).setCell ⟨j,2,none⟩ z).setCell ⟨j,3,none⟩ u).heap[i]?=W.heap[i]?:=λi hi=>(heap_set _ hi).trans ((heap_set _ hi).trans ((heap_set _ hi).trans (heap_set _ hi)))
 have hz:((((W.setCell ⟨j,0,none⟩ x).setCell ⟨j,1,none⟩ y).setCell ⟨j,2,none⟩ z).setCell ⟨j,3,none⟩ u).heap.size=W.heap.size:=by simp[World.setCell]
 exact⟨⟨h.o.os,h.o.tape,h.o.output,by have:=h.o.size;omega,λi hi hb=>(e i (by omega)).trans (h.o.block i hi hb)⟩,h.ia.same (e _ (by omega))⟩
def BldP(w:World)(ba d:Nat)(z:Ending)(w':World):Prop:=∃(k n r:Int) (q:Fo) (B:Option Addr) (c:Nat) (B':Option Addr) (c' a':Nat),z=.returned (.tuple #[plV k n r B q.len c,plV k n r B' q.len c'])/\1+q.count<=4^(17-d)/\
    KY w.heap.size none w' B q/\KY w.heap.size none w' B' q/\OnlyB ba w w'/\IntBox w' ba a'/\a'<=64
theorem BldP.intro{w:World}{ba d:Nat}{z:Ending}{w':World}(h:∃(k n r:Int) (q:Fo) (B:Option Addr) (c:Nat) (B':Option Addr) (c' a':Nat),z=.returned (.tuple #[plV k n r B q.len c,plV k n r B' q.len c'])/\1+q.count<=4^(17-d)/\
  KY w.heap.size none w' B q/\KY w.heap.size none w' B' q/\OnlyB ba w w'/\IntBox w' ba a'/\a'<=64):BldP w ba d z w':=h
def BuildC19(d:Nat):Prop:=∀(w:World) (Al:Option Addr) (nl cl:Nat) (f:Nat->Nat->Int) (ba bl bn a:Nat),NodesAt w Al nl f->nl<=1125899906842624->IntBox w ba a->a<=64->w.cell? ⟨bl,0,none⟩=some (.slice Al nl cl)->w.cell? ⟨bn,0,none⟩=some (bdF ba bl bn)->BdH w ba bl bn Al nl->
 Calls Try.prog 62 #[.int .i64 d,.pointer (some ⟨ba,0,none⟩),.pointer (some ⟨bl,0,none⟩),.pointer (some ⟨bn,0,none⟩)] w (BldP w ba d)
theorem wp_appL{o:Oper}{a:Act}{w:World}{K:Act->World->Prop}{Q:Exit->Act->World->Prop}(s x:Operand)(t e:TypeId)(ho:o.op=.call {callee:=.builtin .append,args:=#[s,x],argTypes:=#[t,t]})(sz bytes:Nat)(z:Value)(hU:Try.prog.underlying t=some (.slice e))(hI:(Try.prog.info? e).map (λi=>(i.zero,i.size,i.bytes))=some (some z,sz,bytes))(hzs:z.cells.size=sz)(hsz:0<sz)(hby:bytes<=64)(base:Nat)(v:Value)(k:Nat)(xs:List Value)(hs:a.eval s=v)(hown:w.ownsRow base e sz v k xs)(b c:Nat)(news:List Value)(hl:news.length=sz)(hx:a.eval x=.slice (some ⟨b,0,none⟩) 1 c)(hn:∀j u,news[j]?=some u->w.cell? ⟨b,j,none⟩=some u)(h1:∀u∈news,u.oneCell'=true)(hk:k+1<=1099511627776)(hbase:base<=w.heap.size)(h:∀g cap w',w'.ownsRow base e sz (.slice (some ⟨g,0,none⟩) (k+1) cap) (k+1) (xs++news)->w.grownBy w' v.ownBlock->(v.ownBlock=some g\/g=w.heap.size)->K (a.put o.dst (.slice (some ⟨g,0,none⟩) (k+1) cap)) w'):o.wp Try.prog a w K Q:=by
 obtain⟨i0,hi,hz0,hz1,hz2⟩:=info_parts hI
 refine wp_append_lies w s x t ho base e i0 z sz bytes hU hi hz0 hz1 hz2 hzs hsz v k xs hs hown ⟨b,0,none⟩ 1 c news hx (by omega) ?_ h1 (by omega) (by unfold maxLen;omega) ?_ hbase _ rfl ?_
 ·intro j u hj
  have:=hn j u hj
  rw[Addr.add]
  split
  ·rename_i e;subst e;exact this
  ·simpa using this
 ·have:(k+1)*bytes<=1099511627776*64:=Nat.mul_le_mul hk hby
  omega
 ·intro g cap w' h1 h2 h3 _
  exact h g cap w' h1 h2 h3
theorem RwS.set{base:Nat}{e:TypeId}{G:Nat->Prop}{w:World}{v:Value}{fo:Fo}(h:RwS base e G w v fo){b o:Nat}(u:Value)(hb:b<base):RwS base e G (w.setCell ⟨b,o,none⟩ u) v fo:=
 h.step (by simp[World.setCell]) (λk hk _ _=>heap_set _ (by omega)) (λk hk=>heap_set _ (by have:=(h.lt k hk).1;omega)) (λ_ _ g=>g)
theorem app1{T:Nat}{e1 e2:TypeId}(he:e1≠e2){w w':World}{v1 v2:Value}{fo:Fo}{xs:List Value}{k n r:Int}{q:Fo}{B Bb:Option Addr}{qb:Fo}{c g cap m:Nat}(hm:fo.len=m)(R2:RwS T e2 (Gof v1 v2) w v2 fo)(hO:w.ownsRow T e1 4 v1 m xs)(hR:RowG T (Gof v1 v2) w fo xs)(KA:KG T (Gof v1 v2) w B q)(KB:KG T (Gof v1 v2) w Bb qb)(hN:w'.ownsRow T e1 4 (.slice (some ⟨g,0,none⟩) (m+1) cap) (m+1) (xs++[.int .i64 k,.int .i64 n,.int .i64 r,.slice B q.len c]))(hG:w.grownBy w' v1.ownBlock)(hL:v1.ownBlock=some g\/g=w.heap.size):
  RwS T e1 (Gof (.slice (some ⟨g,0,none⟩) (m+1) cap) v2) w' (.slice (some ⟨g,0,none⟩) (m+1) cap) (fo.snoc k n r q)/\RwS T e2 (Gof (.slice (some ⟨g,0,none⟩) (m+1) cap) v2) w' v2 fo/\KG T (Gof (.slice (some ⟨g,0,none⟩) (m+1) cap) v2) w' Bb qb:=by
 subst hm
 have R1:RwS T e1 (Gof v1 v2) w v1 fo:=⟨xs,hO,hR⟩
 have he':∀j,T<=j->j<w.heap.size->¬Gof v1 v2 j->w'.heap[j]?=w.heap[j]?:=λj _ hs hg=>hG.block j hs (λe=>hg (.inl e.symm))
 exact⟨RwS.snoc hR KA hN hG (λ_ h=>.inl h) (gof_l hL),R2.step hG.size he' (λb hb=>hG.block b (R2.lt b hb).2 (λe=>R1.ne R2 he b e.symm hb)) (gof_l hL),KB.step hG.size he' (gof_l hL)⟩
theorem app2{T:Nat}{e1 e2:TypeId}(he:e1≠e2){w w':World}{v1 v2:Value}{fo f1:Fo}{xs:List Value}{k n r:Int}{q:Fo}{B:Option Addr}{c g cap m:Nat}(hm:fo.len=m)(R1:RwS T e1 (Gof v1 v2) w v1 f1)(hO:w.ownsRow T e2 4 v2 m xs)(hR:RowG T (Gof v1 v2) w fo xs)(KB:KG T (Gof v1 v2) w B q)(hN:w'.ownsRow T e2 4 (.slice (some ⟨g,0,none⟩) (m+1) cap) (m+1) (xs++[.int .i64 k,.int .i64 n,.int .i64 r,.slice B q.len c]))(hG:w.grownBy w' v2.ownBlock)(hL:v2.ownBlock=some g\/g=w.heap.size):
  RwS T e1 (Gof v1 (.slice (some ⟨g,0,none⟩) (m+1) cap)) w' v1 f1/\RwS T e2 (Gof v1 (.slice (some ⟨g,0,none⟩) (m+1) cap)) w' (.slice (some ⟨g,0,none⟩) (m+1) cap) (fo.snoc k n r q):=by
 subst hm
 have R2:RwS T e2 (Gof v1 v2) w v2 fo:=⟨xs,hO,hR⟩
 have he':∀j,T<=j->j<w.heap.size->¬Gof v1 v2 j->w'.heap[j]?=w.heap[j]?:=λj _ hs hg=>hG.block j hs (λe=>hg (.inr e.symm))
 exact⟨R1.step hG.size he' (λb hb=>hG.block b (R1.lt b hb).2 (λe=>R1.ne R2 he b hb e.symm)) (gof_r hL),RwS.snoc hR KB hN hG (λ_ h=>.inr h) (gof_r hL)⟩
theorem leaf_fin{w W0:World}{ba a:Nat}(hw:W0.heap.size=w.heap.size+2)(hb:Below w.heap.size w W0)(hl:ba<w.heap.size)(ha:IntBox W0 ba a)(h5:PlBox W0 w.heap.size 0 0 0 none 0 0)(h6:PlBox W0 (w.heap.size+1) 0 0 0 none 0 0)(W:World)(hW:W=(((((((W0.setCell ⟨w.heap.size,0,none⟩ (.int .i64 0)).setCell ⟨w.heap.size,1,none⟩ (.int .i64 1)).setCell ⟨w.heap.size,2,none⟩ (.int .i64 0)).setCell ⟨w.heap.size,3,none⟩ (.slice none 0 0)).setCell ⟨w.heap.size+1,0,none⟩ (.int .i64 0)).setCell ⟨w.heap.size+1,1,none⟩ (.int .i64 1)).setCell ⟨w.heap.size+1,2,none⟩ (.int .i64 0)).setCell ⟨w.heap.size+1,3,none⟩ (.slice none 0 0)):
  PlBox W w.heap.size 0 1 0 none 0 0/\PlBox W (w.heap.size+1) 0 1 0 none 0 0/\OnlyB ba w W/\IntBox W ba a:=by
 subst hW
 have h5':=h5.put 0 1 0 none 0 0
 have e5:∀j,j≠w.heap.size->((((W0.setCell ⟨w.heap.size,0,none⟩ (.int .i64 0)).setCell ⟨w.heap.size,1,none⟩ (.int .i64 1)).setCell ⟨w.heap.size,2,none⟩ (.int .i64 0)).setCell ⟨w.heap.size,3,none⟩ (.slice none 0 0)).heap[j]?=W0.heap[j]?:=λj hj=>(heap_set _ hj).trans ((heap_set _ hj).trans ((heap_set _ hj).trans (heap_set _ hj)))
 have hs5:((((W0.setCell ⟨w.heap.size,0,none⟩ (.int .i64 0)).setCell ⟨w.heap.size,1,none⟩ (.int .i64 1)).setCell ⟨w.heap.size,2,none⟩ (.int .i64 0)).setCell ⟨w.heap.size,3,none⟩ (.slice none 0 0)).heap.size=W0.heap.size:=by simp[World.setCell]
 have ho5:((((W0.setCell ⟨w.heap.size,0,none⟩ (.int .i64 0)).setCell ⟨w.heap.size,1,none⟩ (.int .i64 1)).setCell ⟨w.heap.size,2,none⟩ (.int .i64 0)).setCell ⟨w.heap.size,3,none⟩ (.slice none 0 0)).os=W0.os/\((((W0.setCell ⟨w.heap.size,0,none⟩ (.int .i64 0)).setCell ⟨w.heap.size,1,none⟩ (.int .i64 1)).setCell ⟨w.heap.size,2,none⟩ (.int .i64 0)).setCell ⟨w.heap.size,3,none⟩ (.slice none 0 0)).tape=W0.tape/\((((W0.setCell ⟨w.heap.size,0,none⟩ (.int .i64 0)).setCell ⟨w.heap.size,1,none⟩ (.int .i64 1)).setCell ⟨w.heap.size,2,none⟩ (.int .i64 0)).setCell ⟨w.heap.size,3,none⟩ (.slice none 0 0)).output=W0.output:=⟨rfl,rfl,rfl⟩
 generalize (((W0.setCell ⟨w.heap.size,0,none⟩ (.int .i64 0)).setCell ⟨w.heap.size,1,none⟩ (.int .i64 1)).setCell ⟨w.heap.size,2,none⟩ (.int .i64 0)).setCell ⟨w.heap.size,3,none⟩ (.slice none 0 0)=W5 at*
 have h6':=(h6.same (e5 _ (by omega))).put 0 1 0 none 0 0
 have e6:∀j,j≠w.heap.size+1->((((W5.setCell ⟨w.heap.size+1,0,none⟩ (.int .i64 0)).setCell ⟨w.heap.size+1,1,none⟩ (.int .i64 1)).setCell ⟨w.heap.size+1,2,none⟩ (.int .i64 0)).setCell ⟨w.heap.size+1,3,none⟩ (.slice none 0 0)).heap[j]?=W5.heap[j]?:=λj hj=>(heap_set _ hj).trans ((heap_set _ hj).trans ((heap_set _ hj).trans (heap_set _ hj)))
 have hs6:((((W5.setCell ⟨w.heap.size+1,0,none⟩ (.int .i64 0)).setCell ⟨w.heap.size+1,1,none⟩ (.int .i64 1)).setCell ⟨w.heap.size+1,2,none⟩ (.int .i64 0)).setCell ⟨w.heap.size+1,3,none⟩ (.slice none 0 0)).heap.size=W5.heap.size:=by simp[World.setCell]
 exact⟨h5'.same (e6 _ (by omega)),h6',⟨ho5.1.trans hb.os,ho5.2.1.trans hb.tape,ho5.2.2.trans hb.output,by omega,λj hj hba=>(e6 j (by omega)).trans ((e5 j (by omega)).trans (hb.block j hj))⟩,(ha.same (e5 _ (by omega))).same (e6 _ (by omega))⟩
theorem BdF.start{w W0:World}{ba bl bn a:Nat}{Al:Option Addr}{nl cl:Nat}{f:Nat->Nat->Int}(H:BdH w ba bl bn Al nl)(hw:W0.heap.size=w.heap.size+2)(hb:Below w.heap.size w W0)(ha:IntBox W0 ba a)(h5:PlBox W0 w.heap.size 0 0 0 none 0 0/\PlFree W0 w.heap.size)(h6:PlBox W0 (w.heap.size+1) 0 0 0 none 0 0/\PlFree W0 (w.heap.size+1))(hcl:w.cell? ⟨bl,0,none⟩=some (.slice Al nl cl))(hcn:w.cell? ⟨bn,0,none⟩=some (bdF ba bl bn))(hN:NodesAt w Al nl f)(k n r kk:Int)(t1 t2 t3:TypeId)(W:World)(hW:W=((((W0.alloc (.cells #[.int .i64 k,.int .i64 n,.int .i64 r,.int .i64 kk] t1)).setCell ⟨ba,0,none⟩ (.int .i64 ((a:Int)+1))).alloc (.cells #[.int .i64 k,.int .i64 n,.int .i64 r,.slice none 0 0] t2)).alloc (.cells #[.int .i64 k,.int .i64 n,.int .i64 r,.slice none 0 0] t3))):
  BdF w W ba bl bn (a+1) Al nl cl f k n r kk none 0 none 0 0:=by
 subst hW
 have h1:=H.lta
 have h2:=H.ltl
 have h3:=H.ltn
 have h4:=H.nal
 have h7:=H.nn
 obtain⟨Wa,hWa⟩:∃Wa,Wa=W0.alloc (.cells #[.int .i64 k,.int .i64 n,.int .i64 r,.int .i64 kk] t1):=⟨_,rfl⟩
 have hba:Below W0.heap.size W0 Wa:=by rw[hWa];exact(Below.refl _ W0).alloc (Nat.le_refl _) _
 have hsa:Wa.heap.size=w.heap.size+3:=by rw[hWa];simp;omega
 have hxa:Wa.cell? ⟨w.heap.size+2,3,none⟩=some (.int .i64 kk):=by rw[hWa,<-hw];go_simp
 rw[<-hWa]
 obtain⟨Wb,hWb⟩:∃Wb,Wb=Wa.setCell ⟨ba,0,none⟩ (.int .i64 ((a:Int)+1)):=⟨_,rfl⟩
 have hsb:Wb.heap.size=w.heap.size+3:=by rw[hWb];simp[World.setCell];exact hsa
 have heb:∀j,j≠ba->Wb.heap[j]?=Wa.heap[j]?:=λj hj=>by rw[hWb];exact heap_set _ hj
 have hib:IntBox Wb ba ((a+1:Nat):Int):=by rw[hWb,show((a+1:Nat):Int)=(a:Int)+1 from by omega];exact(ha.same (hba.block _ (by omega))).set _
 have hob:Wb.os=Wa.os/\Wb.tape=Wa.tape/\Wb.output=Wa.output:=by rw[hWb];exact⟨rfl,rfl,rfl⟩
 rw[<-hWb]
 obtain⟨Wc,hWc⟩:∃Wc,Wc=Wb.alloc (.cells #[.int .i64 k,.int .i64 n,.int .i64 r,.slice none 0 0] t2):=⟨_,rfl⟩
 have hbc:Below Wb.heap.size Wb Wc:=by rw[hWc];exact(Below.refl _ Wb).alloc (Nat.le_refl _) _
 have hsc:Wc.heap.size=w.heap.size+4:=by rw[hWc];simp;omega
 have hpc:PlBox Wc (w.heap.size+3) k n r none 0 0/\PlFree Wc (w.heap.size+3):=by
  rw[hWc,<-hsb]
  exact⟨PlBox.new _ _ _ _ _ _ _ _,PlFree.new _ _ _ _ _ _⟩
 rw[<-hWc]
 obtain⟨Wd,hWd⟩:∃Wd,Wd=Wc.alloc (.cells #[.int .i64 k,.int .i64 n,.int .i64 r,.slice none 0 0] t3):=⟨_,rfl⟩
 have hbd:Below Wc.heap.size Wc Wd:=by rw[hWd];exact(Below.refl _ Wc).alloc (Nat.le_refl _) _
 have hsd:Wd.heap.size=w.heap.size+5:=by rw[hWd];simp;omega
 have hpd:PlBox Wd (w.heap.size+4) k n r none 0 0/\PlFree Wd (w.heap.size+4):=by
  rw[hWd,<-hsc]
  exact⟨PlBox.new _ _ _ _ _ _ _ _,PlFree.new _ _ _ _ _ _⟩
 rw[<-hWd]
 have e:∀j,j<w.heap.size+3->j≠ba->Wd.heap[j]?=Wa.heap[j]?:=λj hj hne=>(hbd.block j (by omega)).trans ((hbc.block j (by omega)).trans (heb j hne))
 have e0:∀j,j<w.heap.size+2->j≠ba->Wd.heap[j]?=W0.heap[j]?:=λj hj hne=>(e j (by omega) hne).trans (hba.block j (by omega))
 have ew:∀j,j<w.heap.size->j≠ba->Wd.heap[j]?=w.heap[j]?:=λj hj hne=>(e0 j (by omega) hne).trans (hb.block j hj)
 have hos:Wd.os=w.os/\Wd.tape=w.tape/\Wd.output=w.output:=⟨hbd.os.trans (hbc.os.trans (hob.1.trans (hba.os.trans hb.os))),hbd.tape.trans (hbc.tape.trans (hob.2.1.trans (hba.tape.trans hb.tape))),hbd.output.trans (hbc.output.trans (hob.2.2.trans (hba.output.trans hb.output)))⟩
 exact⟨by omega,⟨hos.1,hos.2.1,hos.2.2,by omega,ew⟩,(hib.same (hbc.block _ (by omega))).same (hbd.block _ (by omega)),cell_same hcl (ew _ (by omega) (by omega)),cell_same hcn (ew _ (by omega) (by omega)),hN.same λh0 b o he=>ew b (H.al h0 b o he).1 (H.al h0 b o he).2,
  ⟨h5.1.same (e0 _ (by omega) (by omega)),h5.2.same (e0 _ (by omega) (by omega))⟩,⟨h6.1.same (e0 _ (by omega) (by omega)),h6.2.same (e0 _ (by omega) (by omega))⟩,cell_same hxa (e _ (by omega) (by omega)),⟨hpc.1.same (hbd.block _ (by omega)),hpc.2.same (hbd.block _ (by omega))⟩,hpd⟩
theorem build_step19(d:Nat)(hd:d<=16)(ih:d<16->BuildC19 (d+1)):BuildC19 d:=by
 intro w Al nl cl f ba bl bn a hN hnl ha ha64 hcl hcn hH
 obtain⟨W0,hW0⟩:∃W0,W0=(w.alloc (.cells #[.int .i64 0,.int .i64 0,.int .i64 0,.slice none 0 0] 26)).alloc (.cells #[.int .i64 0,.int .i64 0,.int .i64 0,.slice none 0 0] 29):=⟨_,rfl⟩
 have hb0:Below w.heap.size w W0:=by rw[hW0];exact((Below.refl _ w).alloc (Nat.le_refl _) _).alloc (by simp) _
 have hs0:W0.heap.size=w.heap.size+2:=by rw[hW0];simp
 have h5:PlBox W0 w.heap.size 0 0 0 none 0 0/\PlFree W0 w.heap.size:=by
  rw[hW0]
  have hb:Below (w.alloc (.cells #[.int .i64 0,.int .i64 0,.int .i64 0,.slice none 0 0] 26)).heap.size (w.alloc (.cells #[.int .i64 0,.int .i64 0,.int .i64 0,.slice none 0 0] 26)) ((w.alloc (.cells #[.int .i64 0,.int .i64 0,.int .i64 0,.slice none 0 0] 26)).alloc (.cells #[.int .i64 0,.int .i64 0,.int .i64 0,.slice none 0 0] 29)):=(Below.refl _ _).alloc (Nat.le_refl _) _
  exact⟨(PlBox.new w 0 0 0 none 0 0 _).below hb,(PlFree.new w _ _ _ _ _).keep hb (by simp)⟩
 have h6:PlBox W0 (w.heap.size+1) 0 0 0 none 0 0/\PlFree W0 (w.heap.size+1):=by
  rw[hW0]
  have e1:=PlBox.new (w.alloc (.cells #[.int .i64 0,.int .i64 0,.int .i64 0,.slice none 0 0] 26)) 0 0 0 none 0 0 29
  have e2:=PlFree.new (w.alloc (.cells #[.int .i64 0,.int .i64 0,.int .i64 0,.slice none 0 0] 26)) (.int .i64 0) (.int .i64 0) (.int .i64 0) (.slice none 0 0) 29
  simp only[World.size_alloc] at e1 e2
  exact⟨e1,e2⟩
 have ha0:IntBox W0 ba a:=ha.same (hb0.block _ hH.lta)
 have LF:=aZ (leaf_fin hs0 hb0 hH.lta ha0 h5.1 h6.1 _ rfl)
 have HST:=aZ (λk n r kk t1 t2 t3 W hW=>BdF.start (f:=f) hH hs0 hb0 ha0 h5 h6 hcl hcn hN k n r kk t1 t2 t3 W hW)
 have HH:=aZ hH
 have HIH:=aZ ih
 have hN0:NodesAt W0 Al nl f:=hN.keep hb0
 have HN:=aZ hN0
 have cl0:=keep_cell hb0 hcl
 obtain⟨at0,atf⟩:=ha0
 obtain⟨⟨p0,p1,p2,p3⟩,pf⟩:=h5
 obtain⟨⟨q0,q1,q2,q3⟩,qf⟩:=h6
 have pf0:=pf 0 (by omega)
 have pf1:=pf 1 (by omega)
 have pf2:=pf 2 (by omega)
 have pf3:=pf 3 (by omega)
 have qf0:=qf 0 (by omega)
 have qf1:=qf 1 (by omega)
 have qf2:=qf 2 (by omega)
 have qf3:=qf 3 (by omega)
 clear hN ha hcl hcn hH ih hN0 pf qf hb0
 go_enter Try.func62,Try.ntmps62
 go_upto_region 1 with(fail)
 rw[<-hW0]
 clear hW0
 by_cases hle:nl<=a
 ·have hlei:(nl:Int)<=(a:Int):=by omega
  go_wp2
  obtain⟨s0,s1,s2,s3⟩:=LF.out.1
  obtain⟨u0,u1,u2,u3⟩:=LF.out.2.1
  exact bodyPost_ret (v:=.tuple #[plV 0 1 0 none 0 0,plV 0 1 0 none 0 0]) (by simp[results,Try.results62,go_sem,s0,s1,s2,s3,u0,u1,u2,u3]) rfl (BldP.intro ⟨0,1,0,.nil,none,0,none,0,a,rfl,by show 1+0<=_;exact Nat.one_le_pow _ _ (by omega),λ_ _=>trivial,λ_ _=>trivial,LF.out.2.2.1,LF.out.2.2.2,ha64⟩)
 by_cases h64:64<=a
 ·have hlei:¬(nl:Int)<=(a:Int):=by omega
  have h64i:(64:Int)<=(a:Int):=by omega
  go_wp2
  obtain⟨s0,s1,s2,s3⟩:=LF.out.1
  obtain⟨u0,u1,u2,u3⟩:=LF.out.2.1
  exact bodyPost_ret (v:=.tuple #[plV 0 1 0 none 0 0,plV 0 1 0 none 0 0]) (by simp[results,Try.results62,go_sem,s0,s1,s2,s3,u0,u1,u2,u3]) rfl (BldP.intro ⟨0,1,0,.nil,none,0,none,0,a,rfl,by show 1+0<=_;exact Nat.one_le_pow _ _ (by omega),λ_ _=>trivial,λ_ _=>trivial,LF.out.2.2.1,LF.out.2.2.2,ha64⟩)
 have hlei:¬(nl:Int)<=(a:Int):=by omega
 have h64i:¬(64:Int)<=(a:Int):=by omega
 obtain⟨bN,oN,rfl,n0,n1,n2,n3⟩:=HN.out a (by omega)
 obtain⟨k,hk⟩:∃k,f a 0=k:=⟨_,rfl⟩
 obtain⟨n,hn⟩:∃n,f a 1=n:=⟨_,rfl⟩
 obtain⟨r,hr⟩:∃r,f a 2=r:=⟨_,rfl⟩
 obtain⟨kk,hkk⟩:∃kk,f a 3=kk:=⟨_,rfl⟩
 rw[hk] at n0
 rw[hn] at n1
 rw[hr] at n2
 rw[hkk] at n3
 have hai:(a:Int)<(nl:Int):=by omega
 have bs1:=bs_plan
 have bs2:=bs_rplan
 clear p0 p1 p2 p3 q0 q1 q2 q3 pf0 pf1 pf2 pf3 qf0 qf1 qf2 qf3 LF HN hk hn hr hkk
 go_upto_region 4 with(fail)
 obtain⟨Wx,hWx⟩:∃Wx,Wx=W0.alloc (.cells #[.int .i64 k,.int .i64 n,.int .i64 r,.int .i64 kk] 105):=⟨_,rfl⟩
 have hbx:Below W0.heap.size W0 Wx:=by rw[hWx];exact(Below.refl _ W0).alloc (Nat.le_refl _) _
 have atx:=keep_cell hbx at0
 have atfx:=keep_free hbx (cell_lt at0) atf
 have x0:Wx.cell? ⟨w.heap.size+2,0,none⟩=some (.int .i64 k):=by rw[hWx,<-hs0];go_simp
 have x1:Wx.cell? ⟨w.heap.size+2,1,none⟩=some (.int .i64 n):=by rw[hWx,<-hs0];go_simp
 have x2:Wx.cell? ⟨w.heap.size+2,2,none⟩=some (.int .i64 r):=by rw[hWx,<-hs0];go_simp
 have hsx:Wx.heap.size=w.heap.size+3:=by rw[hWx];simp[hs0]
 rw[<-hWx]
 have HWx:=aZ hWx
 clear at0 atf hbx hWx
 go_upto_region 5 with(fail)
 obtain⟨Wy,hWy⟩:∃Wy,Wy=Wx.setCell ⟨ba,0,none⟩ (.int .i64 ((a:Int)+1)):=⟨_,rfl⟩
 have hey:∀j,j≠ba->Wy.heap[j]?=Wx.heap[j]?:=λj hj=>by rw[hWy];exact heap_set _ hj
 have hlta:=HH.out.lta
 have y0:=cell_same x0 (hey _ (by omega))
 have y1:=cell_same x1 (hey _ (by omega))
 have y2:=cell_same x2 (hey _ (by omega))
 have hsy:Wy.heap.size=w.heap.size+3:=by rw[hWy];simp[World.setCell];exact hsx
 rw[<-hWy]
 have HWy:=aZ hWy
 clear x0 x1 x2 atx atfx hey hsx hWy
 go_upto_region 6 with(fail)
 obtain⟨Wz,hWz⟩:∃Wz,Wz=Wy.alloc (.cells #[.int .i64 k,.int .i64 n,.int .i64 r,.slice none 0 0] 26):=⟨_,rfl⟩
 have hbz:Below Wy.heap.size Wy Wz:=by rw[hWz];exact(Below.refl _ Wy).alloc (Nat.le_refl _) _
 have z0:=keep_cell hbz y0
 have z1:=keep_cell hbz y1
 have z2:=keep_cell hbz y2
 have hsz:Wz.heap.size=w.heap.size+4:=by rw[hWz];simp[hsy]
 rw[<-hWz]
 have HWz:=aZ hWz
 clear y0 y1 y2 hbz hsy hWz
 go_upto_region 7 with(fail)
 clear z0 z1 z2 hsz
 obtain⟨W1,hW1⟩:∃W1,W1=Wz.alloc (.cells #[.int .i64 k,.int .i64 n,.int .i64 r,.slice none 0 0] 29):=⟨_,rfl⟩
 have HF0:=aZ (HST.out k n r kk _ _ _ W1 (by rw[hW1,HWz.out,HWy.out,HWx.out]))
 rw[<-hW1]
 have hX1:1<=4^(16-d):=Nat.one_le_pow _ _ (by omega)
 have hX4:4^(17-d)=4^(16-d)*4:=by rw[<-Nat.pow_succ];congr 1;omega
 obtain⟨X,hX⟩:∃X,4^(16-d)=X:=⟨_,rfl⟩
 rw[hX] at hX1 hX4
 have hXd:d<16->4^(17-(d+1))=X:=λh=>by rw[<-hX];congr 1;omega
 have HX:=aZ (And.intro hX4 hXd)
 clear hW1 HWx HWy HWz hlta HST n0 n1 n2 n3 cl0 hX hX4 hXd hs0
 have hdi:(d:Int)<=16:=by omega
 go_wp2_with fail
 go_loopw [10,11,12] (λv10 v11 v12 wr=>∃(i:Nat) (fo:Fo) (B:Option Addr) (c:Nat) (B':Option Addr) (c' a':Nat),i<=3/\v10=.int .i64 i/\a'<=64/\Hid (BdF w wr ba bl bn a' (some ⟨bN,oN,none⟩) nl cl f k n r kk B c B' c' i)/\Hid (RwS (w.heap.size+5) 26 (Gof (.slice B i c) (.slice B' i c')) wr (.slice B i c) fo)/\Hid (RwS (w.heap.size+5) 29 (Gof (.slice B i c) (.slice B' i c')) wr (.slice B' i c') fo)/\fo.len=i/\fo.count<=i*X) (λv10 _ _ _=>3-(intOf v10).toNat)
 case atStart=>exact⟨0,.nil,none,0,none,0,a+1,by omega,rfl,by omega,HF0,aZ (RwS.nil _ _ _ _),aZ (RwS.nil _ _ _ _),rfl,by show 0<=0*X;omega⟩
 case round=>
  clear HF0
  obtain⟨i,fo,B,c,B',c',a',hi,rfl,ha',HF,HR1,HR2,hlen,hct⟩:=hrel
  have hiX:i*X<=3*X:=Nat.mul_le_mul_right X hi
  have HCN:Hid (1+fo.count<=4^(17-d)):=aZ (by rw[HX.out.1];omega)
  have xk:=HF.out.bx
  obtain⟨xa,xaf⟩:=HF.out.ia
  have xl:=HF.out.cl
  by_cases hx1:(i:Int)<kk
  case neg=>
   go_upto_region 12 with(fail)
   clear xk xa xaf xl
   refine wp_region_S (λw'=>w'.cell? ⟨w.heap.size+3,0,none⟩=some (.int .i64 k)/\w'.cell? ⟨w.heap.size+3,1,none⟩=some (.int .i64 n)/\w'.cell? ⟨w.heap.size+3,2,none⟩=some (.int .i64 r)/\w'.cell? ⟨w.heap.size+3,3,none⟩=some (.slice B i c)/\w'.cell? ⟨w.heap.size+4,0,none⟩=some (.int .i64 k)/\w'.cell? ⟨w.heap.size+4,1,none⟩=some (.int .i64 n)/\w'.cell? ⟨w.heap.size+4,2,none⟩=some (.int .i64 r)/\w'.cell? ⟨w.heap.size+4,3,none⟩=some (.slice B' i c')) 3 (by kernel_rfl) ?_
   have hb:=(Below.refl wr.heap.size wr).drew
   have Fd:=aZ (HF.out.below HH.out hb)
   have R1d:=aZ (HR1.out.below hb)
   have R2d:=aZ (HR2.out.below hb)
   clear hb
   generalize wr.drew=wd at*
   have hS0:=(⟨Fd.out.bp.1.1,Fd.out.bp.1.2.1,Fd.out.bp.1.2.2.1,Fd.out.bp.1.2.2.2,Fd.out.bq.1.1,Fd.out.bq.1.2.1,Fd.out.bq.1.2.2.1,Fd.out.bq.1.2.2.2⟩:(λw'=>w'.cell? ⟨w.heap.size+3,0,none⟩=some (.int .i64 k)/\w'.cell? ⟨w.heap.size+3,1,none⟩=some (.int .i64 n)/\w'.cell? ⟨w.heap.size+3,2,none⟩=some (.int .i64 r)/\w'.cell? ⟨w.heap.size+3,3,none⟩=some (.slice B i c)/\w'.cell? ⟨w.heap.size+4,0,none⟩=some (.int .i64 k)/\w'.cell? ⟨w.heap.size+4,1,none⟩=some (.int .i64 n)/\w'.cell? ⟨w.heap.size+4,2,none⟩=some (.int .i64 r)/\w'.cell? ⟨w.heap.size+4,3,none⟩=some (.slice B' i c')) wd)
   refine Takes.intro [0,1] ?_
   repeat(refine Takes.go (v:=?_) hS0 ?_;try simp only[nrm,Act.put])
   refine Takes.nil ?_
   obtain⟨⟨a0,a1,a2,a3⟩,af⟩:=Fd.out.r5
   have af0:=af 0 (by omega)
   have af1:=af 1 (by omega)
   have af2:=af 2 (by omega)
   have af3:=af 3 (by omega)
   refine wpAnyS_1 2 (λK hK=>?_)
   go_simp
   obtain⟨w5,hw5⟩:∃w5,w5=(((wd.setCell ⟨w.heap.size,0,none⟩ (.int .i64 k)).setCell ⟨w.heap.size,1,none⟩ (.int .i64 n)).setCell ⟨w.heap.size,2,none⟩ (.int .i64 r)).setCell ⟨w.heap.size,3,none⟩ (.slice B i c):=⟨_,rfl⟩
   have e5:∀j,j≠w.heap.size->w5.heap[j]?=wd.heap[j]?:=λj hj=>by rw[hw5];exact(heap_set _ hj).trans ((heap_set _ hj).trans ((heap_set _ hj).trans (heap_set _ hj)))
   have hP5:PlBox w5 w.heap.size k n r B i c:=by rw[hw5];exact Fd.out.r5.1.put k n r B i c
   obtain⟨o5,i5⟩:=Fd.out.fin HH.out w.heap.size (.inl rfl) (.int .i64 k) (.int .i64 n) (.int .i64 r) (.slice B i c)
   rw[<-hw5] at o5 i5|-
   obtain⟨A1,d1,hA1,hk1⟩:=R1d.out.form
   obtain⟨A2,d2,hA2,hk2⟩:=R2d.out.form
   have hA1e:B=A1/\c=d1:=by injection hA1 with h1 h2 h3;exact⟨h1,h3⟩
   have hA2e:B'=A2/\c'=d2:=by injection hA2 with h1 h2 h3;exact⟨h1,h3⟩
   obtain⟨rfl,rfl⟩:=hA1e
   obtain⟨rfl,rfl⟩:=hA2e
   have HK1:Hid (KY (w.heap.size+5) none w5 B fo):=aZ (by rw[hw5];exact hk1.set4 _ _ _ _ (by omega))
   have HK2:Hid (KY (w.heap.size+5) none w5 B' fo):=aZ (by rw[hw5];exact hk2.set4 _ _ _ _ (by omega))
   have hS1:=(⟨cell_same hS0.1 (e5 _ (by omega)),cell_same hS0.2.1 (e5 _ (by omega)),cell_same hS0.2.2.1 (e5 _ (by omega)),cell_same hS0.2.2.2.1 (e5 _ (by omega)),cell_same hS0.2.2.2.2.1 (e5 _ (by omega)),cell_same hS0.2.2.2.2.2.1 (e5 _ (by omega)),cell_same hS0.2.2.2.2.2.2.1 (e5 _ (by omega)),cell_same hS0.2.2.2.2.2.2.2 (e5 _ (by omega))⟩:(λw'=>w'.cell? ⟨w.heap.size+3,0,none⟩=some (.int .i64 k)/\w'.cell? ⟨w.heap.size+3,1,none⟩=some (.int .i64 n)/\w'.cell? ⟨w.heap.size+3,2,none⟩=some (.int .i64 r)/\w'.cell? ⟨w.heap.size+3,3,none⟩=some (.slice B i c)/\w'.cell? ⟨w.heap.size+4,0,none⟩=some (.int .i64 k)/\w'.cell? ⟨w.heap.size+4,1,none⟩=some (.int .i64 n)/\w'.cell? ⟨w.heap.size+4,2,none⟩=some (.int .i64 r)/\w'.cell? ⟨w.heap.size+4,3,none⟩=some (.slice B' i c')) w5)
   have R65:PlBox w5 (w.heap.size+1) 0 0 0 none 0 0/\PlFree w5 (w.heap.size+1):=⟨Fd.out.r6.1.same (e5 _ (by omega)),Fd.out.r6.2.same (e5 _ (by omega))⟩
   have HP5:=aZ hP5
   have HO5:=aZ o5
   have HI5:=aZ i5
   clear a0 a1 a2 a3 af af0 af1 af2 af3 hP5 o5 i5 hA1 hA2 hk1 hk2 e5 hw5
   refine hK.out _ _ (λ_=>hS1) ?_
   clear hK K
   try simp only[nrm,Act.put]
   refine wpAnyS_fin 1 3 ?_
   simp only[nrd]
   clear hS1 hS0
   have HPUT:=aZ (R65.1.put k n r B' i c')
   have HPL:=aZ ((((HP5.out.other (b':=w.heap.size+1) (o:=0) (.int .i64 k) (by omega)).other (b':=w.heap.size+1) (o:=1) (.int .i64 n) (by omega)).other (b':=w.heap.size+1) (o:=2) (.int .i64 r) (by omega)).other (b':=w.heap.size+1) (o:=3) (.slice B' i c') (by omega))
   obtain⟨⟨a0,a1,a2,a3⟩,af⟩:=R65
   have af0:=af 0 (by omega)
   have af1:=af 1 (by omega)
   have af2:=af 2 (by omega)
   have af3:=af 3 (by omega)
   clear af
   have hlta:=HH.out.lta
   have e6:∀j,j≠w.heap.size+1->((((w5.setCell ⟨w.heap.size+1,0,none⟩ (.int .i64 k)).setCell ⟨w.heap.size+1,1,none⟩ (.int .i64 n)).setCell ⟨w.heap.size+1,2,none⟩ (.int .i64 r)).setCell ⟨w.heap.size+1,3,none⟩ (.slice B' i c')).heap[j]?=w5.heap[j]?:=λj hj=>(heap_set _ hj).trans ((heap_set _ hj).trans ((heap_set _ hj).trans (heap_set _ hj)))
   have HE6:=aZ e6
   clear e6
   go_wp2
   obtain⟨s0,s1,s2,s3⟩:=HPL.out
   obtain⟨u0,u1,u2,u3⟩:=HPUT.out
   refine bodyPost_ret (v:=.tuple #[plV k n r B i c,plV k n r B' i c']) (by simp[results,Try.results62,go_sem,s0,s1,s2,s3,u0,u1,u2,u3]) rfl (BldP.intro ⟨k,n,r,fo,B,c,B',c',a',by rw[hlen],?_,?_,?_,?_,?_,ha'⟩)
   ·have:=HCN.out;omega
   ·exact(HK1.out.set4 _ _ _ _ (show w.heap.size+1<w.heap.size+5 by omega)).mono (by omega)
   ·exact(HK2.out.set4 _ _ _ _ (show w.heap.size+1<w.heap.size+5 by omega)).mono (by omega)
   ·exact⟨HO5.out.os,HO5.out.tape,HO5.out.output,by have:=HO5.out.size;simp[World.setCell];omega,λj hj hb=>(HE6.out j (by omega)).trans (HO5.out.block j hj hb)⟩
   ·exact HI5.out.same (HE6.out _ (by omega))
  by_cases hx2:i<3
  case neg=>
   have hx2i:¬(i:Int)<3:=by omega
   go_upto_region 12 with(fail)
   clear xk xa xaf xl
   refine wp_region_S (λw'=>w'.cell? ⟨w.heap.size+3,0,none⟩=some (.int .i64 k)/\w'.cell? ⟨w.heap.size+3,1,none⟩=some (.int .i64 n)/\w'.cell? ⟨w.heap.size+3,2,none⟩=some (.int .i64 r)/\w'.cell? ⟨w.heap.size+3,3,none⟩=some (.slice B i c)/\w'.cell? ⟨w.heap.size+4,0,none⟩=some (.int .i64 k)/\w'.cell? ⟨w.heap.size+4,1,none⟩=some (.int .i64 n)/\w'.cell? ⟨w.heap.size+4,2,none⟩=some (.int .i64 r)/\w'.cell? ⟨w.heap.size+4,3,none⟩=some (.slice B' i c')) 3 (by kernel_rfl) ?_
   have hb:=(Below.refl wr.heap.size wr).drew
   have Fd:=aZ (HF.out.below HH.out hb)
   have R1d:=aZ (HR1.out.below hb)
   have R2d:=aZ (HR2.out.below hb)
   clear hb
   generalize wr.drew=wd at*
   have hS0:=(⟨Fd.out.bp.1.1,Fd.out.bp.1.2.1,Fd.out.bp.1.2.2.1,Fd.out.bp.1.2.2.2,Fd.out.bq.1.1,Fd.out.bq.1.2.1,Fd.out.bq.1.2.2.1,Fd.out.bq.1.2.2.2⟩:(λw'=>w'.cell? ⟨w.heap.size+3,0,none⟩=some (.int .i64 k)/\w'.cell? ⟨w.heap.size+3,1,none⟩=some (.int .i64 n)/\w'.cell? ⟨w.heap.size+3,2,none⟩=some (.int .i64 r)/\w'.cell? ⟨w.heap.size+3,3,none⟩=some (.slice B i c)/\w'.cell? ⟨w.heap.size+4,0,none⟩=some (.int .i64 k)/\w'.cell? ⟨w.heap.size+4,1,none⟩=some (.int .i64 n)/\w'.cell? ⟨w.heap.size+4,2,none⟩=some (.int .i64 r)/\w'.cell? ⟨w.heap.size+4,3,none⟩=some (.slice B' i c')) wd)
   refine Takes.intro [0,1] ?_
   repeat(refine Takes.go (v:=?_) hS0 ?_;try simp only[nrm,Act.put])
   refine Takes.nil ?_
   obtain⟨⟨a0,a1,a2,a3⟩,af⟩:=Fd.out.r5
   have af0:=af 0 (by omega)
   have af1:=af 1 (by omega)
   have af2:=af 2 (by omega)
   have af3:=af 3 (by omega)
   refine wpAnyS_1 2 (λK hK=>?_)
   go_simp
   obtain⟨w5,hw5⟩:∃w5,w5=(((wd.setCell ⟨w.heap.size,0,none⟩ (.int .i64 k)).setCell ⟨w.heap.size,1,none⟩ (.int .i64 n)).setCell ⟨w.heap.size,2,none⟩ (.int .i64 r)).setCell ⟨w.heap.size,3,none⟩ (.slice B i c):=⟨_,rfl⟩
   have e5:∀j,j≠w.heap.size->w5.heap[j]?=wd.heap[j]?:=λj hj=>by rw[hw5];exact(heap_set _ hj).trans ((heap_set _ hj).trans ((heap_set _ hj).trans (heap_set _ hj)))
   have hP5:PlBox w5 w.heap.size k n r B i c:=by rw[hw5];exact Fd.out.r5.1.put k n r B i c
   obtain⟨o5,i5⟩:=Fd.out.fin HH.out w.heap.size (.inl rfl) (.int .i64 k) (.int .i64 n) (.int .i64 r) (.slice B i c)
   rw[<-hw5] at o5 i5|-
   obtain⟨A1,d1,hA1,hk1⟩:=R1d.out.form
   obtain⟨A2,d2,hA2,hk2⟩:=R2d.out.form
   have hA1e:B=A1/\c=d1:=by injection hA1 with h1 h2 h3;exact⟨h1,h3⟩
   have hA2e:B'=A2/\c'=d2:=by injection hA2 with h1 h2 h3;exact⟨h1,h3⟩
   obtain⟨rfl,rfl⟩:=hA1e
   obtain⟨rfl,rfl⟩:=hA2e
   have HK1:Hid (KY (w.heap.size+5) none w5 B fo):=aZ (by rw[hw5];exact hk1.set4 _ _ _ _ (by omega))
   have HK2:Hid (KY (w.heap.size+5) none w5 B' fo):=aZ (by rw[hw5];exact hk2.set4 _ _ _ _ (by omega))
   have hS1:=(⟨cell_same hS0.1 (e5 _ (by omega)),cell_same hS0.2.1 (e5 _ (by omega)),cell_same hS0.2.2.1 (e5 _ (by omega)),cell_same hS0.2.2.2.1 (e5 _ (by omega)),cell_same hS0.2.2.2.2.1 (e5 _ (by omega)),cell_same hS0.2.2.2.2.2.1 (e5 _ (by omega)),cell_same hS0.2.2.2.2.2.2.1 (e5 _ (by omega)),cell_same hS0.2.2.2.2.2.2.2 (e5 _ (by omega))⟩:(λw'=>w'.cell? ⟨w.heap.size+3,0,none⟩=some (.int .i64 k)/\w'.cell? ⟨w.heap.size+3,1,none⟩=some (.int .i64 n)/\w'.cell? ⟨w.heap.size+3,2,none⟩=some (.int .i64 r)/\w'.cell? ⟨w.heap.size+3,3,none⟩=some (.slice B i c)/\w'.cell? ⟨w.heap.size+4,0,none⟩=some (.int .i64 k)/\w'.cell? ⟨w.heap.size+4,1,none⟩=some (.int .i64 n)/\w'.cell? ⟨w.heap.size+4,2,none⟩=some (.int .i64 r)/\w'.cell? ⟨w.heap.size+4,3,none⟩=some (.slice B' i c')) w5)
   have R65:PlBox w5 (w.heap.size+1) 0 0 0 none 0 0/\PlFree w5 (w.heap.size+1):=⟨Fd.out.r6.1.same (e5 _ (by omega)),Fd.out.r6.2.same (e5 _ (by omega))⟩
   have HP5:=aZ hP5
   have HO5:=aZ o5
   have HI5:=aZ i5
   clear a0 a1 a2 a3 af af0 af1 af2 af3 hP5 o5 i5 hA1 hA2 hk1 hk2 e5 hw5
   refine hK.out _ _ (λ_=>hS1) ?_
   clear hK K
   try simp only[nrm,Act.put]
   refine wpAnyS_fin 1 3 ?_
   simp only[nrd]
   clear hS1 hS0
   have HPUT:=aZ (R65.1.put k n r B' i c')
   have HPL:=aZ ((((HP5.out.other (b':=w.heap.size+1) (o:=0) (.int .i64 k) (by omega)).other (b':=w.heap.size+1) (o:=1) (.int .i64 n) (by omega)).other (b':=w.heap.size+1) (o:=2) (.int .i64 r) (by omega)).other (b':=w.heap.size+1) (o:=3) (.slice B' i c') (by omega))
   obtain⟨⟨a0,a1,a2,a3⟩,af⟩:=R65
   have af0:=af 0 (by omega)
   have af1:=af 1 (by omega)
   have af2:=af 2 (by omega)
   have af3:=af 3 (by omega)
   clear af
   have hlta:=HH.out.lta
   have e6:∀j,j≠w.heap.size+1->((((w5.setCell ⟨w.heap.size+1,0,none⟩ (.int .i64 k)).setCell ⟨w.heap.size+1,1,none⟩ (.int .i64 n)).setCell ⟨w.heap.size+1,2,none⟩ (.int .i64 r)).setCell ⟨w.heap.size+1,3,none⟩ (.slice B' i c')).heap[j]?=w5.heap[j]?:=λj hj=>(heap_set _ hj).trans ((heap_set _ hj).trans ((heap_set _ hj).trans (heap_set _ hj)))
   have HE6:=aZ e6
   clear e6
   go_wp2
   obtain⟨s0,s1,s2,s3⟩:=HPL.out
   obtain⟨u0,u1,u2,u3⟩:=HPUT.out
   refine bodyPost_ret (v:=.tuple #[plV k n r B i c,plV k n r B' i c']) (by simp[results,Try.results62,go_sem,s0,s1,s2,s3,u0,u1,u2,u3]) rfl (BldP.intro ⟨k,n,r,fo,B,c,B',c',a',by rw[hlen],?_,?_,?_,?_,?_,ha'⟩)
   ·have:=HCN.out;omega
   ·exact(HK1.out.set4 _ _ _ _ (show w.heap.size+1<w.heap.size+5 by omega)).mono (by omega)
   ·exact(HK2.out.set4 _ _ _ _ (show w.heap.size+1<w.heap.size+5 by omega)).mono (by omega)
   ·exact⟨HO5.out.os,HO5.out.tape,HO5.out.output,by have:=HO5.out.size;simp[World.setCell];omega,λj hj hb=>(HE6.out j (by omega)).trans (HO5.out.block j hj hb)⟩
   ·exact HI5.out.same (HE6.out _ (by omega))
  have hx2i:(i:Int)<3:=by omega
  by_cases hx3:d<16
  case neg=>
   have hx3i:¬(d:Int)<16:=by omega
   go_upto_region 12 with(fail)
   clear xk xa xaf xl
   refine wp_region_S (λw'=>w'.cell? ⟨w.heap.size+3,0,none⟩=some (.int .i64 k)/\w'.cell? ⟨w.heap.size+3,1,none⟩=some (.int .i64 n)/\w'.cell? ⟨w.heap.size+3,2,none⟩=some (.int .i64 r)/\w'.cell? ⟨w.heap.size+3,3,none⟩=some (.slice B i c)/\w'.cell? ⟨w.heap.size+4,0,none⟩=some (.int .i64 k)/\w'.cell? ⟨w.heap.size+4,1,none⟩=some (.int .i64 n)/\w'.cell? ⟨w.heap.size+4,2,none⟩=some (.int .i64 r)/\w'.cell? ⟨w.heap.size+4,3,none⟩=some (.slice B' i c')) 3 (by kernel_rfl) ?_
   have hb:=(Below.refl wr.heap.size wr).drew
   have Fd:=aZ (HF.out.below HH.out hb)
   have R1d:=aZ (HR1.out.below hb)
   have R2d:=aZ (HR2.out.below hb)
   clear hb
   generalize wr.drew=wd at*
   have hS0:=(⟨Fd.out.bp.1.1,Fd.out.bp.1.2.1,Fd.out.bp.1.2.2.1,Fd.out.bp.1.2.2.2,Fd.out.bq.1.1,Fd.out.bq.1.2.1,Fd.out.bq.1.2.2.1,Fd.out.bq.1.2.2.2⟩:(λw'=>w'.cell? ⟨w.heap.size+3,0,none⟩=some (.int .i64 k)/\w'.cell? ⟨w.heap.size+3,1,none⟩=some (.int .i64 n)/\w'.cell? ⟨w.heap.size+3,2,none⟩=some (.int .i64 r)/\w'.cell? ⟨w.heap.size+3,3,none⟩=some (.slice B i c)/\w'.cell? ⟨w.heap.size+4,0,none⟩=some (.int .i64 k)/\w'.cell? ⟨w.heap.size+4,1,none⟩=some (.int .i64 n)/\w'.cell? ⟨w.heap.size+4,2,none⟩=some (.int .i64 r)/\w'.cell? ⟨w.heap.size+4,3,none⟩=some (.slice B' i c')) wd)
   refine Takes.intro [0,1] ?_
   repeat(refine Takes.go (v:=?_) hS0 ?_;try simp only[nrm,Act.put])
   refine Takes.nil ?_
   obtain⟨⟨a0,a1,a2,a3⟩,af⟩:=Fd.out.r5
   have af0:=af 0 (by omega)
   have af1:=af 1 (by omega)
   have af2:=af 2 (by omega)
   have af3:=af 3 (by omega)
   refine wpAnyS_1 2 (λK hK=>?_)
   go_simp
   obtain⟨w5,hw5⟩:∃w5,w5=(((wd.setCell ⟨w.heap.size,0,none⟩ (.int .i64 k)).setCell ⟨w.heap.size,1,none⟩ (.int .i64 n)).setCell ⟨w.heap.size,2,none⟩ (.int .i64 r)).setCell ⟨w.heap.size,3,none⟩ (.slice B i c):=⟨_,rfl⟩
   have e5:∀j,j≠w.heap.size->w5.heap[j]?=wd.heap[j]?:=λj hj=>by rw[hw5];exact(heap_set _ hj).trans ((heap_set _ hj).trans ((heap_set _ hj).trans (heap_set _ hj)))
   have hP5:PlBox w5 w.heap.size k n r B i c:=by rw[hw5];exact Fd.out.r5.1.put k n r B i c
   obtain⟨o5,i5⟩:=Fd.out.fin HH.out w.heap.size (.inl rfl) (.int .i64 k) (.int .i64 n) (.int .i64 r) (.slice B i c)
   rw[<-hw5] at o5 i5|-
   obtain⟨A1,d1,hA1,hk1⟩:=R1d.out.form
   obtain⟨A2,d2,hA2,hk2⟩:=R2d.out.form
   have hA1e:B=A1/\c=d1:=by injection hA1 with h1 h2 h3;exact⟨h1,h3⟩
   have hA2e:B'=A2/\c'=d2:=by injection hA2 with h1 h2 h3;exact⟨h1,h3⟩
   obtain⟨rfl,rfl⟩:=hA1e
   obtain⟨rfl,rfl⟩:=hA2e
   have HK1:Hid (KY (w.heap.size+5) none w5 B fo):=aZ (by rw[hw5];exact hk1.set4 _ _ _ _ (by omega))
   have HK2:Hid (KY (w.heap.size+5) none w5 B' fo):=aZ (by rw[hw5];exact hk2.set4 _ _ _ _ (by omega))
   have hS1:=(⟨cell_same hS0.1 (e5 _ (by omega)),cell_same hS0.2.1 (e5 _ (by omega)),cell_same hS0.2.2.1 (e5 _ (by omega)),cell_same hS0.2.2.2.1 (e5 _ (by omega)),cell_same hS0.2.2.2.2.1 (e5 _ (by omega)),cell_same hS0.2.2.2.2.2.1 (e5 _ (by omega)),cell_same hS0.2.2.2.2.2.2.1 (e5 _ (by omega)),cell_same hS0.2.2.2.2.2.2.2 (e5 _ (by omega))⟩:(λw'=>w'.cell? ⟨w.heap.size+3,0,none⟩=some (.int .i64 k)/\w'.cell? ⟨w.heap.size+3,1,none⟩=some (.int .i64 n)/\w'.cell? ⟨w.heap.size+3,2,none⟩=some (.int .i64 r)/\w'.cell? ⟨w.heap.size+3,3,none⟩=some (.slice B i c)/\w'.cell? ⟨w.heap.size+4,0,none⟩=some (.int .i64 k)/\w'.cell? ⟨w.heap.size+4,1,none⟩=some (.int .i64 n)/\w'.cell? ⟨w.heap.size+4,2,none⟩=some (.int .i64 r)/\w'.cell? ⟨w.heap.size+4,3,none⟩=some (.slice B' i c')) w5)
   have R65:PlBox w5 (w.heap.size+1) 0 0 0 none 0 0/\PlFree w5 (w.heap.size+1):=⟨Fd.out.r6.1.same (e5 _ (by omega)),Fd.out.r6.2.same (e5 _ (by omega))⟩
   have HP5:=aZ hP5
   have HO5:=aZ o5
   have HI5:=aZ i5
   clear a0 a1 a2 a3 af af0 af1 af2 af3 hP5 o5 i5 hA1 hA2 hk1 hk2 e5 hw5
   refine hK.out _ _ (λ_=>hS1) ?_
   clear hK K
   try simp only[nrm,Act.put]
   refine wpAnyS_fin 1 3 ?_
   simp only[nrd]
   clear hS1 hS0
   have HPUT:=aZ (R65.1.put k n r B' i c')
   have HPL:=aZ ((((HP5.out.other (b':=w.heap.size+1) (o:=0) (.int .i64 k) (by omega)).other (b':=w.heap.size+1) (o:=1) (.int .i64 n) (by omega)).other (b':=w.heap.size+1) (o:=2) (.int .i64 r) (by omega)).other (b':=w.heap.size+1) (o:=3) (.slice B' i c') (by omega))
   obtain⟨⟨a0,a1,a2,a3⟩,af⟩:=R65
   have af0:=af 0 (by omega)
   have af1:=af 1 (by omega)
   have af2:=af 2 (by omega)
   have af3:=af 3 (by omega)
   clear af
   have hlta:=HH.out.lta
   have e6:∀j,j≠w.heap.size+1->((((w5.setCell ⟨w.heap.size+1,0,none⟩ (.int .i64 k)).setCell ⟨w.heap.size+1,1,none⟩ (.int .i64 n)).setCell ⟨w.heap.size+1,2,none⟩ (.int .i64 r)).setCell ⟨w.heap.size+1,3,none⟩ (.slice B' i c')).heap[j]?=w5.heap[j]?:=λj hj=>(heap_set _ hj).trans ((heap_set _ hj).trans ((heap_set _ hj).trans (heap_set _ hj)))
   have HE6:=aZ e6
   clear e6
   go_wp2
   obtain⟨s0,s1,s2,s3⟩:=HPL.out
   obtain⟨u0,u1,u2,u3⟩:=HPUT.out
   refine bodyPost_ret (v:=.tuple #[plV k n r B i c,plV k n r B' i c']) (by simp[results,Try.results62,go_sem,s0,s1,s2,s3,u0,u1,u2,u3]) rfl (BldP.intro ⟨k,n,r,fo,B,c,B',c',a',by rw[hlen],?_,?_,?_,?_,?_,ha'⟩)
   ·have:=HCN.out;omega
   ·exact(HK1.out.set4 _ _ _ _ (show w.heap.size+1<w.heap.size+5 by omega)).mono (by omega)
   ·exact(HK2.out.set4 _ _ _ _ (show w.heap.size+1<w.heap.size+5 by omega)).mono (by omega)
   ·exact⟨HO5.out.os,HO5.out.tape,HO5.out.output,by have:=HO5.out.size;simp[World.setCell];omega,λj hj hb=>(HE6.out j (by omega)).trans (HO5.out.block j hj hb)⟩
   ·exact HI5.out.same (HE6.out _ (by omega))
  have hx3i:(d:Int)<16:=by omega
  by_cases hx4:a'<nl
  case neg=>
   have hx4i:¬(a':Int)<(nl:Int):=by omega
   go_upto_region 12 with(fail)
   clear xk xa xaf xl
   refine wp_region_S (λw'=>w'.cell? ⟨w.heap.size+3,0,none⟩=some (.int .i64 k)/\w'.cell? ⟨w.heap.size+3,1,none⟩=some (.int .i64 n)/\w'.cell? ⟨w.heap.size+3,2,none⟩=some (.int .i64 r)/\w'.cell? ⟨w.heap.size+3,3,none⟩=some (.slice B i c)/\w'.cell? ⟨w.heap.size+4,0,none⟩=some (.int .i64 k)/\w'.cell? ⟨w.heap.size+4,1,none⟩=some (.int .i64 n)/\w'.cell? ⟨w.heap.size+4,2,none⟩=some (.int .i64 r)/\w'.cell? ⟨w.heap.size+4,3,none⟩=some (.slice B' i c')) 3 (by kernel_rfl) ?_
   have hb:=(Below.refl wr.heap.size wr).drew
   have Fd:=aZ (HF.out.below HH.out hb)
   have R1d:=aZ (HR1.out.below hb)
   have R2d:=aZ (HR2.out.below hb)
   clear hb
   generalize wr.drew=wd at*
   have hS0:=(⟨Fd.out.bp.1.1,Fd.out.bp.1.2.1,Fd.out.bp.1.2.2.1,Fd.out.bp.1.2.2.2,Fd.out.bq.1.1,Fd.out.bq.1.2.1,Fd.out.bq.1.2.2.1,Fd.out.bq.1.2.2.2⟩:(λw'=>w'.cell? ⟨w.heap.size+3,0,none⟩=some (.int .i64 k)/\w'.cell? ⟨w.heap.size+3,1,none⟩=some (.int .i64 n)/\w'.cell? ⟨w.heap.size+3,2,none⟩=some (.int .i64 r)/\w'.cell? ⟨w.heap.size+3,3,none⟩=some (.slice B i c)/\w'.cell? ⟨w.heap.size+4,0,none⟩=some (.int .i64 k)/\w'.cell? ⟨w.heap.size+4,1,none⟩=some (.int .i64 n)/\w'.cell? ⟨w.heap.size+4,2,none⟩=some (.int .i64 r)/\w'.cell? ⟨w.heap.size+4,3,none⟩=some (.slice B' i c')) wd)
   refine Takes.intro [0,1] ?_
   repeat(refine Takes.go (v:=?_) hS0 ?_;try simp only[nrm,Act.put])
   refine Takes.nil ?_
   obtain⟨⟨a0,a1,a2,a3⟩,af⟩:=Fd.out.r5
   have af0:=af 0 (by omega)
   have af1:=af 1 (by omega)
   have af2:=af 2 (by omega)
   have af3:=af 3 (by omega)
   refine wpAnyS_1 2 (λK hK=>?_)
   go_simp
   obtain⟨w5,hw5⟩:∃w5,w5=(((wd.setCell ⟨w.heap.size,0,none⟩ (.int .i64 k)).setCell ⟨w.heap.size,1,none⟩ (.int .i64 n)).setCell ⟨w.heap.size,2,none⟩ (.int .i64 r)).setCell ⟨w.heap.size,3,none⟩ (.slice B i c):=⟨_,rfl⟩
   have e5:∀j,j≠w.heap.size->w5.heap[j]?=wd.heap[j]?:=λj hj=>by rw[hw5];exact(heap_set _ hj).trans ((heap_set _ hj).trans ((heap_set _ hj).trans (heap_set _ hj)))
   have hP5:PlBox w5 w.heap.size k n r B i c:=by rw[hw5];exact Fd.out.r5.1.put k n r B i c
   obtain⟨o5,i5⟩:=Fd.out.fin HH.out w.heap.size (.inl rfl) (.int .i64 k) (.int .i64 n) (.int .i64 r) (.slice B i c)
   rw[<-hw5] at o5 i5|-
   obtain⟨A1,d1,hA1,hk1⟩:=R1d.out.form
   obtain⟨A2,d2,hA2,hk2⟩:=R2d.out.form
   have hA1e:B=A1/\c=d1:=by injection hA1 with h1 h2 h3;exact⟨h1,h3⟩
   have hA2e:B'=A2/\c'=d2:=by injection hA2 with h1 h2 h3;exact⟨h1,h3⟩
   obtain⟨rfl,rfl⟩:=hA1e
   obtain⟨rfl,rfl⟩:=hA2e
   have HK1:Hid (KY (w.heap.size+5) none w5 B fo):=aZ (by rw[hw5];exact hk1.set4 _ _ _ _ (by omega))
   have HK2:Hid (KY (w.heap.size+5) none w5 B' fo):=aZ (by rw[hw5];exact hk2.set4 _ _ _ _ (by omega))
   have hS1:=(⟨cell_same hS0.1 (e5 _ (by omega)),cell_same hS0.2.1 (e5 _ (by omega)),cell_same hS0.2.2.1 (e5 _ (by omega)),cell_same hS0.2.2.2.1 (e5 _ (by omega)),cell_same hS0.2.2.2.2.1 (e5 _ (by omega)),cell_same hS0.2.2.2.2.2.1 (e5 _ (by omega)),cell_same hS0.2.2.2.2.2.2.1 (e5 _ (by omega)),cell_same hS0.2.2.2.2.2.2.2 (e5 _ (by omega))⟩:(λw'=>w'.cell? ⟨w.heap.size+3,0,none⟩=some (.int .i64 k)/\w'.cell? ⟨w.heap.size+3,1,none⟩=some (.int .i64 n)/\w'.cell? ⟨w.heap.size+3,2,none⟩=some (.int .i64 r)/\w'.cell? ⟨w.heap.size+3,3,none⟩=some (.slice B i c)/\w'.cell? ⟨w.heap.size+4,0,none⟩=some (.int .i64 k)/\w'.cell? ⟨w.heap.size+4,1,none⟩=some (.int .i64 n)/\w'.cell? ⟨w.heap.size+4,2,none⟩=some (.int .i64 r)/\w'.cell? ⟨w.heap.size+4,3,none⟩=some (.slice B' i c')) w5)
   have R65:PlBox w5 (w.heap.size+1) 0 0 0 none 0 0/\PlFree w5 (w.heap.size+1):=⟨Fd.out.r6.1.same (e5 _ (by omega)),Fd.out.r6.2.same (e5 _ (by omega))⟩
   have HP5:=aZ hP5
   have HO5:=aZ o5
   have HI5:=aZ i5
   clear a0 a1 a2 a3 af af0 af1 af2 af3 hP5 o5 i5 hA1 hA2 hk1 hk2 e5 hw5
   refine hK.out _ _ (λ_=>hS1) ?_
   clear hK K
   try simp only[nrm,Act.put]
   refine wpAnyS_fin 1 3 ?_
   simp only[nrd]
   clear hS1 hS0
   have HPUT:=aZ (R65.1.put k n r B' i c')
   have HPL:=aZ ((((HP5.out.other (b':=w.heap.size+1) (o:=0) (.int .i64 k) (by omega)).other (b':=w.heap.size+1) (o:=1) (.int .i64 n) (by omega)).other (b':=w.heap.size+1) (o:=2) (.int .i64 r) (by omega)).other (b':=w.heap.size+1) (o:=3) (.slice B' i c') (by omega))
   obtain⟨⟨a0,a1,a2,a3⟩,af⟩:=R65
   have af0:=af 0 (by omega)
   have af1:=af 1 (by omega)
   have af2:=af 2 (by omega)
   have af3:=af 3 (by omega)
   clear af
   have hlta:=HH.out.lta
   have e6:∀j,j≠w.heap.size+1->((((w5.setCell ⟨w.heap.size+1,0,none⟩ (.int .i64 k)).setCell ⟨w.heap.size+1,1,none⟩ (.int .i64 n)).setCell ⟨w.heap.size+1,2,none⟩ (.int .i64 r)).setCell ⟨w.heap.size+1,3,none⟩ (.slice B' i c')).heap[j]?=w5.heap[j]?:=λj hj=>(heap_set _ hj).trans ((heap_set _ hj).trans ((heap_set _ hj).trans (heap_set _ hj)))
   have HE6:=aZ e6
   clear e6
   go_wp2
   obtain⟨s0,s1,s2,s3⟩:=HPL.out
   obtain⟨u0,u1,u2,u3⟩:=HPUT.out
   refine bodyPost_ret (v:=.tuple #[plV k n r B i c,plV k n r B' i c']) (by simp[results,Try.results62,go_sem,s0,s1,s2,s3,u0,u1,u2,u3]) rfl (BldP.intro ⟨k,n,r,fo,B,c,B',c',a',by rw[hlen],?_,?_,?_,?_,?_,ha'⟩)
   ·have:=HCN.out;omega
   ·exact(HK1.out.set4 _ _ _ _ (show w.heap.size+1<w.heap.size+5 by omega)).mono (by omega)
   ·exact(HK2.out.set4 _ _ _ _ (show w.heap.size+1<w.heap.size+5 by omega)).mono (by omega)
   ·exact⟨HO5.out.os,HO5.out.tape,HO5.out.output,by have:=HO5.out.size;simp[World.setCell];omega,λj hj hb=>(HE6.out j (by omega)).trans (HO5.out.block j hj hb)⟩
   ·exact HI5.out.same (HE6.out _ (by omega))
  have hx4i:(a':Int)<(nl:Int):=by omega
  have xn:=HF.out.cn
  have HIC:=HIH.out hx3 wr (some ⟨bN,oN,none⟩) nl cl f ba bl bn a' HF.out.nd hnl HF.out.ia ha' HF.out.cl HF.out.cn (HH.out.mono HF.out.o.size)
  rw[show((d+1:Nat):Int)=(d:Int)+1 from by omega] at HIC
  have HIC:=aZ HIC
  go_wp2_with fail
  refine HIC.out.mono ?_
  rintro z w3 ⟨k3,n3,r3,q3,D,dA,D',dB,a3,rfl,hcq,hk1,hk2,ho,hia,ha3⟩
  rw[HX.out.2 hx3] at hcq
  have HCT:=aZ hcq
  have hsz:=HF.out.sz
  have hlta:=HH.out.lta
  have F3:=aZ (HF.out.only HH.out ho hia)
  have hstep:∀j,w.heap.size+5<=j->j<wr.heap.size->w3.heap[j]?=wr.heap[j]?:=λj h1 h2=>ho.block j h2 (by omega)
  have R13:=aZ (HR1.out.step ho.size (λj h1 h2 _=>hstep j h1 h2) (λj hj=>hstep j (HR1.out.lt j hj).1 (HR1.out.lt j hj).2) (λ_ _ g=>g))
  have R23:=aZ (HR2.out.step ho.size (λj h1 h2 _=>hstep j h1 h2) (λj hj=>hstep j (HR2.out.lt j hj).1 (HR2.out.lt j hj).2) (λ_ _ g=>g))
  have hgl:∀j,Gof (.slice B i c) (.slice B' i c') j->j<wr.heap.size:=λj hj=>hj.elim (λh=>(HR1.out.lt j h).2) (λh=>(HR2.out.lt j h).2)
  have KA3:=aZ (hk1.kg hgl hsz)
  have KB3:=aZ (hk2.kg hgl hsz)
  have HO1:Hid (∀j,(Value.slice B i c).ownBlock=some j->j<w3.heap.size):=aZ (λj h=>(R13.out.lt j h).2)
  have HO2:Hid (∀j,(Value.slice B' i c').ownBlock=some j->j<w3.heap.size):=aZ (λj h=>(R23.out.lt j h).2)
  clear hcq hk1 hk2 ho hia hsz hlta hstep hgl HIC HF HR1 HR2 xk xa xaf xl xn HCN
  go_upto_region 11 with(fail)
  obtain⟨wy,hwy⟩:∃wy,wy=(w3.alloc (.cells #[.int .i64 k3,.int .i64 n3,.int .i64 r3,.slice D q3.len dA] 26)).alloc (.cells #[.int .i64 k3,.int .i64 n3,.int .i64 r3,.slice D' q3.len dB] 29):=⟨_,rfl⟩
  have hb:Below w3.heap.size w3 wy:=by rw[hwy];exact((Below.refl _ w3).alloc (Nat.le_refl _) _).alloc (by simp) _
  have pa:PlBox wy w3.heap.size k3 n3 r3 D q3.len dA:=by
   rw[hwy]
   exact(PlBox.new w3 _ _ _ _ _ _ _).below ((Below.refl _ _).alloc (Nat.le_refl _) _)
  have pb:PlBox wy (w3.heap.size+1) k3 n3 r3 D' q3.len dB:=by
   rw[hwy]
   have:=PlBox.new (w3.alloc (.cells #[.int .i64 k3,.int .i64 n3,.int .i64 r3,.slice D q3.len dA] 26)) k3 n3 r3 D' q3.len dB 29
   simp only[World.size_alloc] at this
   exact this
  rw[<-hwy]
  obtain⟨M,hM⟩:∃M,w3.heap.size=M:=⟨_,rfl⟩
  have My:M<=wy.heap.size:=by rw[<-hM];exact hb.size
  have Fy:=aZ (F3.out.below HH.out hb)
  have R1y:=aZ (R13.out.below hb)
  have R2y:=aZ (R23.out.below hb)
  have KAy:=aZ (KA3.out.below hb)
  have KBy:=aZ (KB3.out.below hb)
  rw[hM] at pa pb HO1 HO2|-
  obtain⟨bA,hbA⟩:∃bA,M=bA:=⟨_,rfl⟩
  obtain⟨bB,hbB⟩:∃bB,M+1=bB:=⟨_,rfl⟩
  rw[hbA] at pa|-
  have hMA:M<=bA:=by omega
  have hMB:M<=bB:=by omega
  rw[hbB] at pb
  rw[show bA+1=bB from by omega]
  have PAy:=aZ pa
  have PBy:=aZ pb
  clear hwy hb pa pb hM F3 R13 R23 KA3 KB3 hbA hbB
  refine wp_region_S (λw'=>w'.cell? ⟨w.heap.size+3,3,none⟩=some (.slice B i c)/\w'.cell? ⟨w.heap.size+4,3,none⟩=some (.slice B' i c')/\w'.cell? ⟨bA,0,none⟩=some (.int .i64 k3)/\w'.cell? ⟨bA,1,none⟩=some (.int .i64 n3)/\w'.cell? ⟨bA,2,none⟩=some (.int .i64 r3)/\w'.cell? ⟨bA,3,none⟩=some (.slice D q3.len dA)/\w'.cell? ⟨bB,0,none⟩=some (.int .i64 k3)/\w'.cell? ⟨bB,1,none⟩=some (.int .i64 n3)/\w'.cell? ⟨bB,2,none⟩=some (.int .i64 r3)/\w'.cell? ⟨bB,3,none⟩=some (.slice D' q3.len dB)) 11 (by kernel_rfl) ?_
  have hb:=(Below.refl wy.heap.size wy).drew
  have Fd:=aZ (Fy.out.below HH.out hb)
  have R1d:=aZ (R1y.out.below hb)
  have R2d:=aZ (R2y.out.below hb)
  have KAd:=aZ (KAy.out.below hb)
  have KBd:=aZ (KBy.out.below hb)
  have PAd:=aZ (PAy.out.below hb)
  have PBd:=aZ (PBy.out.below hb)
  have Md:M<=wy.drew.heap.size:=Nat.le_trans My hb.size
  clear hb
  generalize wy.drew=wd at*
  have hS0:=(⟨Fd.out.bp.1.2.2.2,Fd.out.bq.1.2.2.2,PAd.out.1,PAd.out.2.1,PAd.out.2.2.1,PAd.out.2.2.2,PBd.out.1,PBd.out.2.1,PBd.out.2.2.1,PBd.out.2.2.2⟩:(λw'=>w'.cell? ⟨w.heap.size+3,3,none⟩=some (.slice B i c)/\w'.cell? ⟨w.heap.size+4,3,none⟩=some (.slice B' i c')/\w'.cell? ⟨bA,0,none⟩=some (.int .i64 k3)/\w'.cell? ⟨bA,1,none⟩=some (.int .i64 n3)/\w'.cell? ⟨bA,2,none⟩=some (.int .i64 r3)/\w'.cell? ⟨bA,3,none⟩=some (.slice D q3.len dA)/\w'.cell? ⟨bB,0,none⟩=some (.int .i64 k3)/\w'.cell? ⟨bB,1,none⟩=some (.int .i64 n3)/\w'.cell? ⟨bB,2,none⟩=some (.int .i64 r3)/\w'.cell? ⟨bB,3,none⟩=some (.slice D' q3.len dB)) wd)
  refine Takes.intro [0,1,2,5,6,7] ?_
  repeat(refine Takes.go (v:=?_) hS0 ?_;try simp only[nrm,Act.put])
  refine Takes.nil ?_
  refine wpAnyS_pair (i:=3) (j:=8) (by kernel_rfl) rfl rfl rfl rfl (λK hK=>?_) (λK hK=>?_)
  ·go_simp
   obtain⟨wx1,hW⟩:∃wx1,wx1=wd.alloc (.cells #[.int .i64 k3,.int .i64 n3,.int .i64 r3,.slice D q3.len dA] 26):=⟨_,rfl⟩
   have hb:Below wd.heap.size wd wx1:=by rw[hW];exact(Below.refl _ wd).alloc (Nat.le_refl _) _
   have hn:∀j u,[Value.int .i64 k3,.int .i64 n3,.int .i64 r3,.slice D q3.len dA][j]?=some u->wx1.cell? ⟨wd.heap.size,j,none⟩=some u:=by rw[hW];exact cells_four _ _ _ _ _ _ _ rfl
   rw[<-hW]
   obtain⟨g3,hg3⟩:∃g,wd.heap.size=g:=⟨_,rfl⟩
   have Fx1:=aZ (Fd.out.below HH.out hb)
   have R1x1:=aZ (R1d.out.below hb)
   have R2x1:=aZ (R2d.out.below hb)
   have KAx1:=aZ (KAd.out.below hb)
   have KBx1:=aZ (KBd.out.below hb)
   have PAx1:=aZ (PAd.out.below hb)
   have PBx1:=aZ (PBd.out.below hb)
   have Mx1:M<=wx1.heap.size:=Nat.le_trans Md hb.size
   have L3:M<=g3:=by rw[<-hg3];exact Md
   rw[hg3] at hn|-
   have N3x1:=aZ hn
   clear hW hb hn hg3
   have hSx1:=(⟨Fx1.out.bp.1.2.2.2,Fx1.out.bq.1.2.2.2,PAx1.out.1,PAx1.out.2.1,PAx1.out.2.2.1,PAx1.out.2.2.2,PBx1.out.1,PBx1.out.2.1,PBx1.out.2.2.1,PBx1.out.2.2.2⟩:(λw'=>w'.cell? ⟨w.heap.size+3,3,none⟩=some (.slice B i c)/\w'.cell? ⟨w.heap.size+4,3,none⟩=some (.slice B' i c')/\w'.cell? ⟨bA,0,none⟩=some (.int .i64 k3)/\w'.cell? ⟨bA,1,none⟩=some (.int .i64 n3)/\w'.cell? ⟨bA,2,none⟩=some (.int .i64 r3)/\w'.cell? ⟨bA,3,none⟩=some (.slice D q3.len dA)/\w'.cell? ⟨bB,0,none⟩=some (.int .i64 k3)/\w'.cell? ⟨bB,1,none⟩=some (.int .i64 n3)/\w'.cell? ⟨bB,2,none⟩=some (.int .i64 r3)/\w'.cell? ⟨bB,3,none⟩=some (.slice D' q3.len dB)) wx1)
   refine hK.out _ _ (λ_=>hSx1) ?_
   clear hK K
   try simp only[nrm,Act.put]
   refine wpAnyS_pair (i:=4) (j:=8) (by kernel_rfl) rfl rfl rfl rfl (λK hK=>?_) (λK hK=>?_)
   ·obtain⟨xs,hO,hRg⟩:=R1x1.out
    rw[hlen] at hO
    refine wp_appL _ _ 24 26 rfl 4 48 (.agg #[.int .i64 0,.int .i64 0,.int .i64 0,.slice none 0 0]) Try.underlying24 info_plan rfl (by omega) (by omega) (w.heap.size+5) (.slice B i c) i xs (by kernel_rfl) hO g3 1 [.int .i64 k3,.int .i64 n3,.int .i64 r3,.slice D q3.len dA] rfl (by kernel_rfl) N3x1.out (one_four _ _ _ _ _ _) (by omega) Fx1.out.sz ?_
    intro h4 cap4 wx2 hN hG hL
    obtain⟨r1',r2',kb'⟩:=app1 (by decide) hlen R2x1.out hO hRg KAx1.out KBx1.out hN hG hL
    have R1x2:=aZ r1'
    have R2x2:=aZ r2'
    have KBx2:=aZ kb'
    have Fx2:=aZ (Fx1.out.grown HH.out hG (λj e=>(R1x1.out.lt j e).1))
    have PAx2:=aZ (PAx1.out.grown hG (λe=>by have:=HO1.out _ e;omega))
    have PBx2:=aZ (PBx1.out.grown hG (λe=>by have:=HO1.out _ e;omega))
    have Mx2:M<=wx2.heap.size:=Nat.le_trans Mx1 hG.size
    clear r1' r2' kb' hN hG hL hO hRg
    have hSx2:=(⟨Fx2.out.bp.1.2.2.2,Fx2.out.bq.1.2.2.2,PAx2.out.1,PAx2.out.2.1,PAx2.out.2.2.1,PAx2.out.2.2.2,PBx2.out.1,PBx2.out.2.1,PBx2.out.2.2.1,PBx2.out.2.2.2⟩:(λw'=>w'.cell? ⟨w.heap.size+3,3,none⟩=some (.slice B i c)/\w'.cell? ⟨w.heap.size+4,3,none⟩=some (.slice B' i c')/\w'.cell? ⟨bA,0,none⟩=some (.int .i64 k3)/\w'.cell? ⟨bA,1,none⟩=some (.int .i64 n3)/\w'.cell? ⟨bA,2,none⟩=some (.int .i64 r3)/\w'.cell? ⟨bA,3,none⟩=some (.slice D q3.len dA)/\w'.cell? ⟨bB,0,none⟩=some (.int .i64 k3)/\w'.cell? ⟨bB,1,none⟩=some (.int .i64 n3)/\w'.cell? ⟨bB,2,none⟩=some (.int .i64 r3)/\w'.cell? ⟨bB,3,none⟩=some (.slice D' q3.len dB)) wx2)
    refine hK.out _ _ (λ_=>hSx2) ?_
    clear hK K
    try simp only[nrm,Act.put]
    refine Takes.intro [10] ?_
    repeat(refine Takes.go (v:=?_) hSx2 ?_;try simp only[nrm,Act.put])
    refine Takes.nil ?_
    refine wpAnyS_1 8 (λK hK=>?_)
    go_simp
    obtain⟨wx3,hW⟩:∃wx3,wx3=wx2.alloc (.cells #[.int .i64 k3,.int .i64 n3,.int .i64 r3,.slice D' q3.len dB] 29):=⟨_,rfl⟩
    have hb:Below wx2.heap.size wx2 wx3:=by rw[hW];exact(Below.refl _ wx2).alloc (Nat.le_refl _) _
    have hn:∀j u,[Value.int .i64 k3,.int .i64 n3,.int .i64 r3,.slice D' q3.len dB][j]?=some u->wx3.cell? ⟨wx2.heap.size,j,none⟩=some u:=by rw[hW];exact cells_four _ _ _ _ _ _ _ rfl
    rw[<-hW]
    obtain⟨g8,hg8⟩:∃g,wx2.heap.size=g:=⟨_,rfl⟩
    have Fx3:=aZ (Fx2.out.below HH.out hb)
    have R1x3:=aZ (R1x2.out.below hb)
    have R2x3:=aZ (R2x2.out.below hb)
    have KBx3:=aZ (KBx2.out.below hb)
    have PAx3:=aZ (PAx2.out.below hb)
    have PBx3:=aZ (PBx2.out.below hb)
    have Mx3:M<=wx3.heap.size:=Nat.le_trans Mx2 hb.size
    have L8:M<=g8:=by rw[<-hg8];exact Mx2
    rw[hg8] at hn|-
    have N8x3:=aZ hn
    clear hW hb hn hg8
    have hSx3:=(⟨Fx3.out.bp.1.2.2.2,Fx3.out.bq.1.2.2.2,PAx3.out.1,PAx3.out.2.1,PAx3.out.2.2.1,PAx3.out.2.2.2,PBx3.out.1,PBx3.out.2.1,PBx3.out.2.2.1,PBx3.out.2.2.2⟩:(λw'=>w'.cell? ⟨w.heap.size+3,3,none⟩=some (.slice B i c)/\w'.cell? ⟨w.heap.size+4,3,none⟩=some (.slice B' i c')/\w'.cell? ⟨bA,0,none⟩=some (.int .i64 k3)/\w'.cell? ⟨bA,1,none⟩=some (.int .i64 n3)/\w'.cell? ⟨bA,2,none⟩=some (.int .i64 r3)/\w'.cell? ⟨bA,3,none⟩=some (.slice D q3.len dA)/\w'.cell? ⟨bB,0,none⟩=some (.int .i64 k3)/\w'.cell? ⟨bB,1,none⟩=some (.int .i64 n3)/\w'.cell? ⟨bB,2,none⟩=some (.int .i64 r3)/\w'.cell? ⟨bB,3,none⟩=some (.slice D' q3.len dB)) wx3)
    refine hK.out _ _ (λ_=>hSx3) ?_
    clear hK K
    try simp only[nrm,Act.put]
    refine wpAnyS_1 9 (λK hK=>?_)
    obtain⟨xs,hO,hRg⟩:=R2x3.out
    rw[hlen] at hO
    refine wp_appL _ _ 27 29 rfl 4 48 (.agg #[.int .i64 0,.int .i64 0,.int .i64 0,.slice none 0 0]) Try.underlying27 info_rplan rfl (by omega) (by omega) (w.heap.size+5) (.slice B' i c') i xs (by kernel_rfl) hO g8 1 [.int .i64 k3,.int .i64 n3,.int .i64 r3,.slice D' q3.len dB] rfl (by kernel_rfl) N8x3.out (one_four _ _ _ _ _ _) (by omega) Fx3.out.sz ?_
    intro h9 cap9 wx4 hN hG hL
    obtain⟨r1',r2'⟩:=app2 (by decide) hlen R1x3.out hO hRg KBx3.out hN hG hL
    have R1x4:=aZ r1'
    have R2x4:=aZ r2'
    have Fx4:=aZ (Fx3.out.grown HH.out hG (λj e=>(R2x3.out.lt j e).1))
    have PAx4:=aZ (PAx3.out.grown hG (λe=>by have:=HO2.out _ e;omega))
    have PBx4:=aZ (PBx3.out.grown hG (λe=>by have:=HO2.out _ e;omega))
    clear r1' r2' hN hG hL hO hRg
    have hSx4:=(⟨Fx4.out.bp.1.2.2.2,Fx4.out.bq.1.2.2.2,PAx4.out.1,PAx4.out.2.1,PAx4.out.2.2.1,PAx4.out.2.2.2,PBx4.out.1,PBx4.out.2.1,PBx4.out.2.2.1,PBx4.out.2.2.2⟩:(λw'=>w'.cell? ⟨w.heap.size+3,3,none⟩=some (.slice B i c)/\w'.cell? ⟨w.heap.size+4,3,none⟩=some (.slice B' i c')/\w'.cell? ⟨bA,0,none⟩=some (.int .i64 k3)/\w'.cell? ⟨bA,1,none⟩=some (.int .i64 n3)/\w'.cell? ⟨bA,2,none⟩=some (.int .i64 r3)/\w'.cell? ⟨bA,3,none⟩=some (.slice D q3.len dA)/\w'.cell? ⟨bB,0,none⟩=some (.int .i64 k3)/\w'.cell? ⟨bB,1,none⟩=some (.int .i64 n3)/\w'.cell? ⟨bB,2,none⟩=some (.int .i64 r3)/\w'.cell? ⟨bB,3,none⟩=some (.slice D' q3.len dB)) wx4)
    refine hK.out _ _ (λ_=>hSx4) ?_
    clear hK K
    try simp only[nrm,Act.put]
    refine wpAnyS_fin 3 11 ?_
    simp only[nrd]
    obtain⟨⟨z0,z1,z2,z3⟩,zf⟩:=Fx4.out.bp
    obtain⟨⟨y0,y1,y2,y3⟩,yf⟩:=Fx4.out.bq
    have zf3:=zf 3 (by omega)
    have yf3:=yf 3 (by omega)
    have HFN:=aZ (Fx4.out.put HH.out (some ⟨h4,0,none⟩) cap4 (some ⟨h9,0,none⟩) cap9 (i+1))
    have HR1:=aZ ((R1x4.out.set (b:=w.heap.size+3) (o:=3) (.slice (some ⟨h4,0,none⟩) (i+1) cap4) (by omega)).set (b:=w.heap.size+4) (o:=3) (.slice (some ⟨h9,0,none⟩) (i+1) cap9) (by omega))
    have HR2:=aZ ((R2x4.out.set (b:=w.heap.size+3) (o:=3) (.slice (some ⟨h4,0,none⟩) (i+1) cap4) (by omega)).set (b:=w.heap.size+4) (o:=3) (.slice (some ⟨h9,0,none⟩) (i+1) cap9) (by omega))
    clear zf yf z0 z1 z2 y0 y1 y2
    go_wp2
    exact⟨⟨i+1,fo.snoc k3 n3 r3 q3,_,_,_,_,a3,by omega,by go_num,ha3,HFN,HR1,HR2,by rw[snoc_len,hlen],by rw[snoc_count];have:=HCT.out;rw[Nat.succ_mul];omega⟩,by simp[intOf];omega⟩
   ·go_simp
    obtain⟨wx5,hW⟩:∃wx5,wx5=wx1.alloc (.cells #[.int .i64 k3,.int .i64 n3,.int .i64 r3,.slice D' q3.len dB] 29):=⟨_,rfl⟩
    have hb:Below wx1.heap.size wx1 wx5:=by rw[hW];exact(Below.refl _ wx1).alloc (Nat.le_refl _) _
    have hn:∀j u,[Value.int .i64 k3,.int .i64 n3,.int .i64 r3,.slice D' q3.len dB][j]?=some u->wx5.cell? ⟨wx1.heap.size,j,none⟩=some u:=by rw[hW];exact cells_four _ _ _ _ _ _ _ rfl
    rw[<-hW]
    obtain⟨g8,hg8⟩:∃g,wx1.heap.size=g:=⟨_,rfl⟩
    have Fx5:=aZ (Fx1.out.below HH.out hb)
    have R1x5:=aZ (R1x1.out.below hb)
    have R2x5:=aZ (R2x1.out.below hb)
    have KAx5:=aZ (KAx1.out.below hb)
    have KBx5:=aZ (KBx1.out.below hb)
    have PAx5:=aZ (PAx1.out.below hb)
    have PBx5:=aZ (PBx1.out.below hb)
    have Mx5:M<=wx5.heap.size:=Nat.le_trans Mx1 hb.size
    have N3x5:=aZ (λj u h=>keep_cell hb (N3x1.out j u h))
    have L8:M<=g8:=by rw[<-hg8];exact Mx1
    rw[hg8] at hn|-
    have N8x5:=aZ hn
    clear hW hb hn hg8
    have hSx5:=(⟨Fx5.out.bp.1.2.2.2,Fx5.out.bq.1.2.2.2,PAx5.out.1,PAx5.out.2.1,PAx5.out.2.2.1,PAx5.out.2.2.2,PBx5.out.1,PBx5.out.2.1,PBx5.out.2.2.1,PBx5.out.2.2.2⟩:(λw'=>w'.cell? ⟨w.heap.size+3,3,none⟩=some (.slice B i c)/\w'.cell? ⟨w.heap.size+4,3,none⟩=some (.slice B' i c')/\w'.cell? ⟨bA,0,none⟩=some (.int .i64 k3)/\w'.cell? ⟨bA,1,none⟩=some (.int .i64 n3)/\w'.cell? ⟨bA,2,none⟩=some (.int .i64 r3)/\w'.cell? ⟨bA,3,none⟩=some (.slice D q3.len dA)/\w'.cell? ⟨bB,0,none⟩=some (.int .i64 k3)/\w'.cell? ⟨bB,1,none⟩=some (.int .i64 n3)/\w'.cell? ⟨bB,2,none⟩=some (.int .i64 r3)/\w'.cell? ⟨bB,3,none⟩=some (.slice D' q3.len dB)) wx5)
    refine hK.out _ _ (λ_=>hSx5) ?_
    clear hK K
    try simp only[nrm,Act.put]
    refine wpAnyS_1 4 (λK hK=>?_)
    obtain⟨xs,hO,hRg⟩:=R1x5.out
    rw[hlen] at hO
    refine wp_appL _ _ 24 26 rfl 4 48 (.agg #[.int .i64 0,.int .i64 0,.int .i64 0,.slice none 0 0]) Try.underlying24 info_plan rfl (by omega) (by omega) (w.heap.size+5) (.slice B i c) i xs (by kernel_rfl) hO g3 1 [.int .i64 k3,.int .i64 n3,.int .i64 r3,.slice D q3.len dA] rfl (by kernel_rfl) N3x5.out (one_four _ _ _ _ _ _) (by omega) Fx5.out.sz ?_
    intro h4 cap4 wx6 hN hG hL
    obtain⟨r1',r2',kb'⟩:=app1 (by decide) hlen R2x5.out hO hRg KAx5.out KBx5.out hN hG hL
    have R1x6:=aZ r1'
    have R2x6:=aZ r2'
    have KBx6:=aZ kb'
    have Fx6:=aZ (Fx5.out.grown HH.out hG (λj e=>(R1x5.out.lt j e).1))
    have PAx6:=aZ (PAx5.out.grown hG (λe=>by have:=HO1.out _ e;omega))
    have PBx6:=aZ (PBx5.out.grown hG (λe=>by have:=HO1.out _ e;omega))
    have Mx6:M<=wx6.heap.size:=Nat.le_trans Mx5 hG.size
    have N8x6:=aZ (λj u h=>grown_cell hG (N8x5.out j u h) (λe=>by have:=HO1.out _ e;omega))
    clear r1' r2' kb' hN hG hL hO hRg
    have hSx6:=(⟨Fx6.out.bp.1.2.2.2,Fx6.out.bq.1.2.2.2,PAx6.out.1,PAx6.out.2.1,PAx6.out.2.2.1,PAx6.out.2.2.2,PBx6.out.1,PBx6.out.2.1,PBx6.out.2.2.1,PBx6.out.2.2.2⟩:(λw'=>w'.cell? ⟨w.heap.size+3,3,none⟩=some (.slice B i c)/\w'.cell? ⟨w.heap.size+4,3,none⟩=some (.slice B' i c')/\w'.cell? ⟨bA,0,none⟩=some (.int .i64 k3)/\w'.cell? ⟨bA,1,none⟩=some (.int .i64 n3)/\w'.cell? ⟨bA,2,none⟩=some (.int .i64 r3)/\w'.cell? ⟨bA,3,none⟩=some (.slice D q3.len dA)/\w'.cell? ⟨bB,0,none⟩=some (.int .i64 k3)/\w'.cell? ⟨bB,1,none⟩=some (.int .i64 n3)/\w'.cell? ⟨bB,2,none⟩=some (.int .i64 r3)/\w'.cell? ⟨bB,3,none⟩=some (.slice D' q3.len dB)) wx6)
    refine hK.out _ _ (λ_=>hSx6) ?_
    clear hK K
    try simp only[nrm,Act.put]
    refine Takes.intro [10] ?_
    repeat(refine Takes.go (v:=?_) hSx6 ?_;try simp only[nrm,Act.put])
    refine Takes.nil ?_
    refine wpAnyS_1 9 (λK hK=>?_)
    obtain⟨xs,hO,hRg⟩:=R2x6.out
    rw[hlen] at hO
    refine wp_appL _ _ 27 29 rfl 4 48 (.agg #[.int .i64 0,.int .i64 0,.int .i64 0,.slice none 0 0]) Try.underlying27 info_rplan rfl (by omega) (by omega) (w.heap.size+5) (.slice B' i c') i xs (by kernel_rfl) hO g8 1 [.int .i64 k3,.int .i64 n3,.int .i64 r3,.slice D' q3.len dB] rfl (by kernel_rfl) N8x6.out (one_four _ _ _ _ _ _) (by omega) Fx6.out.sz ?_
    intro h9 cap9 wx7 hN hG hL
    obtain⟨r1',r2'⟩:=app2 (by decide) hlen R1x6.out hO hRg KBx6.out hN hG hL
    have R1x7:=aZ r1'
    have R2x7:=aZ r2'
    have Fx7:=aZ (Fx6.out.grown HH.out hG (λj e=>(R2x6.out.lt j e).1))
    have PAx7:=aZ (PAx6.out.grown hG (λe=>by have:=HO2.out _ e;omega))
    have PBx7:=aZ (PBx6.out.grown hG (λe=>by have:=HO2.out _ e;omega))
    clear r1' r2' hN hG hL hO hRg
    have hSx7:=(⟨Fx7.out.bp.1.2.2.2,Fx7.out.bq.1.2.2.2,PAx7.out.1,PAx7.out.2.1,PAx7.out.2.2.1,PAx7.out.2.2.2,PBx7.out.1,PBx7.out.2.1,PBx7.out.2.2.1,PBx7.out.2.2.2⟩:(λw'=>w'.cell? ⟨w.heap.size+3,3,none⟩=some (.slice B i c)/\w'.cell? ⟨w.heap.size+4,3,none⟩=some (.slice B' i c')/\w'.cell? ⟨bA,0,none⟩=some (.int .i64 k3)/\w'.cell? ⟨bA,1,none⟩=some (.int .i64 n3)/\w'.cell? ⟨bA,2,none⟩=some (.int .i64 r3)/\w'.cell? ⟨bA,3,none⟩=some (.slice D q3.len dA)/\w'.cell? ⟨bB,0,none⟩=some (.int .i64 k3)/\w'.cell? ⟨bB,1,none⟩=some (.int .i64 n3)/\w'.cell? ⟨bB,2,none⟩=some (.int .i64 r3)/\w'.cell? ⟨bB,3,none⟩=some (.slice D' q3.len dB)) wx7)
    refine hK.out _ _ (λ_=>hSx7) ?_
    clear hK K
    try simp only[nrm,Act.put]
    refine wpAnyS_fin 3 11 ?_
    simp only[nrd]
    obtain⟨⟨z0,z1,z2,z3⟩,zf⟩:=Fx7.out.bp
    obtain⟨⟨y0,y1,y2,y3⟩,yf⟩:=Fx7.out.bq
    have zf3:=zf 3 (by omega)
    have yf3:=yf 3 (by omega)
    have HFN:=aZ (Fx7.out.put HH.out (some ⟨h4,0,none⟩) cap4 (some ⟨h9,0,none⟩) cap9 (i+1))
    have HR1:=aZ ((R1x7.out.set (b:=w.heap.size+3) (o:=3) (.slice (some ⟨h4,0,none⟩) (i+1) cap4) (by omega)).set (b:=w.heap.size+4) (o:=3) (.slice (some ⟨h9,0,none⟩) (i+1) cap9) (by omega))
    have HR2:=aZ ((R2x7.out.set (b:=w.heap.size+3) (o:=3) (.slice (some ⟨h4,0,none⟩) (i+1) cap4) (by omega)).set (b:=w.heap.size+4) (o:=3) (.slice (some ⟨h9,0,none⟩) (i+1) cap9) (by omega))
    clear zf yf z0 z1 z2 y0 y1 y2
    go_wp2
    exact⟨⟨i+1,fo.snoc k3 n3 r3 q3,_,_,_,_,a3,by omega,by go_num,ha3,HFN,HR1,HR2,by rw[snoc_len,hlen],by rw[snoc_count];have:=HCT.out;rw[Nat.succ_mul];omega⟩,by simp[intOf];omega⟩
  ·go_simp
   obtain⟨wx8,hW⟩:∃wx8,wx8=wd.alloc (.cells #[.int .i64 k3,.int .i64 n3,.int .i64 r3,.slice D' q3.len dB] 29):=⟨_,rfl⟩
   have hb:Below wd.heap.size wd wx8:=by rw[hW];exact(Below.refl _ wd).alloc (Nat.le_refl _) _
   have hn:∀j u,[Value.int .i64 k3,.int .i64 n3,.int .i64 r3,.slice D' q3.len dB][j]?=some u->wx8.cell? ⟨wd.heap.size,j,none⟩=some u:=by rw[hW];exact cells_four _ _ _ _ _ _ _ rfl
   rw[<-hW]
   obtain⟨g8,hg8⟩:∃g,wd.heap.size=g:=⟨_,rfl⟩
   have Fx8:=aZ (Fd.out.below HH.out hb)
   have R1x8:=aZ (R1d.out.below hb)
   have R2x8:=aZ (R2d.out.below hb)
   have KAx8:=aZ (KAd.out.below hb)
   have KBx8:=aZ (KBd.out.below hb)
   have PAx8:=aZ (PAd.out.below hb)
   have PBx8:=aZ (PBd.out.below hb)
   have Mx8:M<=wx8.heap.size:=Nat.le_trans Md hb.size
   have L8:M<=g8:=by rw[<-hg8];exact Md
   rw[hg8] at hn|-
   have N8x8:=aZ hn
   clear hW hb hn hg8
   have hSx8:=(⟨Fx8.out.bp.1.2.2.2,Fx8.out.bq.1.2.2.2,PAx8.out.1,PAx8.out.2.1,PAx8.out.2.2.1,PAx8.out.2.2.2,PBx8.out.1,PBx8.out.2.1,PBx8.out.2.2.1,PBx8.out.2.2.2⟩:(λw'=>w'.cell? ⟨w.heap.size+3,3,none⟩=some (.slice B i c)/\w'.cell? ⟨w.heap.size+4,3,none⟩=some (.slice B' i c')/\w'.cell? ⟨bA,0,none⟩=some (.int .i64 k3)/\w'.cell? ⟨bA,1,none⟩=some (.int .i64 n3)/\w'.cell? ⟨bA,2,none⟩=some (.int .i64 r3)/\w'.cell? ⟨bA,3,none⟩=some (.slice D q3.len dA)/\w'.cell? ⟨bB,0,none⟩=some (.int .i64 k3)/\w'.cell? ⟨bB,1,none⟩=some (.int .i64 n3)/\w'.cell? ⟨bB,2,none⟩=some (.int .i64 r3)/\w'.cell? ⟨bB,3,none⟩=some (.slice D' q3.len dB)) wx8)
   refine hK.out _ _ (λ_=>hSx8) ?_
   clear hK K
   try simp only[nrm,Act.put]
   refine wpAnyS_1 3 (λK hK=>?_)
   go_simp
   obtain⟨wx9,hW⟩:∃wx9,wx9=wx8.alloc (.cells #[.int .i64 k3,.int .i64 n3,.int .i64 r3,.slice D q3.len dA] 26):=⟨_,rfl⟩
   have hb:Below wx8.heap.size wx8 wx9:=by rw[hW];exact(Below.refl _ wx8).alloc (Nat.le_refl _) _
   have hn:∀j u,[Value.int .i64 k3,.int .i64 n3,.int .i64 r3,.slice D q3.len dA][j]?=some u->wx9.cell? ⟨wx8.heap.size,j,none⟩=some u:=by rw[hW];exact cells_four _ _ _ _ _ _ _ rfl
   rw[<-hW]
   obtain⟨g3,hg3⟩:∃g,wx8.heap.size=g:=⟨_,rfl⟩
   have Fx9:=aZ (Fx8.out.below HH.out hb)
   have R1x9:=aZ (R1x8.out.below hb)
   have R2x9:=aZ (R2x8.out.below hb)
   have KAx9:=aZ (KAx8.out.below hb)
   have KBx9:=aZ (KBx8.out.below hb)
   have PAx9:=aZ (PAx8.out.below hb)
   have PBx9:=aZ (PBx8.out.below hb)
   have Mx9:M<=wx9.heap.size:=Nat.le_trans Mx8 hb.size
   have N8x9:=aZ (λj u h=>keep_cell hb (N8x8.out j u h))
   have L3:M<=g3:=by rw[<-hg3];exact Mx8
   rw[hg3] at hn|-
   have N3x9:=aZ hn
   clear hW hb hn hg3
   have hSx9:=(⟨Fx9.out.bp.1.2.2.2,Fx9.out.bq.1.2.2.2,PAx9.out.1,PAx9.out.2.1,PAx9.out.2.2.1,PAx9.out.2.2.2,PBx9.out.1,PBx9.out.2.1,PBx9.out.2.2.1,PBx9.out.2.2.2⟩:(λw'=>w'.cell? ⟨w.heap.size+3,3,none⟩=some (.slice B i c)/\w'.cell? ⟨w.heap.size+4,3,none⟩=some (.slice B' i c')/\w'.cell? ⟨bA,0,none⟩=some (.int .i64 k3)/\w'.cell? ⟨bA,1,none⟩=some (.int .i64 n3)/\w'.cell? ⟨bA,2,none⟩=some (.int .i64 r3)/\w'.cell? ⟨bA,3,none⟩=some (.slice D q3.len dA)/\w'.cell? ⟨bB,0,none⟩=some (.int .i64 k3)/\w'.cell? ⟨bB,1,none⟩=some (.int .i64 n3)/\w'.cell? ⟨bB,2,none⟩=some (.int .i64 r3)/\w'.cell? ⟨bB,3,none⟩=some (.slice D' q3.len dB)) wx9)
   refine hK.out _ _ (λ_=>hSx9) ?_
   clear hK K
   try simp only[nrm,Act.put]
   refine wpAnyS_1 4 (λK hK=>?_)
   obtain⟨xs,hO,hRg⟩:=R1x9.out
   rw[hlen] at hO
   refine wp_appL _ _ 24 26 rfl 4 48 (.agg #[.int .i64 0,.int .i64 0,.int .i64 0,.slice none 0 0]) Try.underlying24 info_plan rfl (by omega) (by omega) (w.heap.size+5) (.slice B i c) i xs (by kernel_rfl) hO g3 1 [.int .i64 k3,.int .i64 n3,.int .i64 r3,.slice D q3.len dA] rfl (by kernel_rfl) N3x9.out (one_four _ _ _ _ _ _) (by omega) Fx9.out.sz ?_
   intro h4 cap4 wx10 hN hG hL
   obtain⟨r1',r2',kb'⟩:=app1 (by decide) hlen R2x9.out hO hRg KAx9.out KBx9.out hN hG hL
   have R1x10:=aZ r1'
   have R2x10:=aZ r2'
   have KBx10:=aZ kb'
   have Fx10:=aZ (Fx9.out.grown HH.out hG (λj e=>(R1x9.out.lt j e).1))
   have PAx10:=aZ (PAx9.out.grown hG (λe=>by have:=HO1.out _ e;omega))
   have PBx10:=aZ (PBx9.out.grown hG (λe=>by have:=HO1.out _ e;omega))
   have Mx10:M<=wx10.heap.size:=Nat.le_trans Mx9 hG.size
   have N8x10:=aZ (λj u h=>grown_cell hG (N8x9.out j u h) (λe=>by have:=HO1.out _ e;omega))
   clear r1' r2' kb' hN hG hL hO hRg
   have hSx10:=(⟨Fx10.out.bp.1.2.2.2,Fx10.out.bq.1.2.2.2,PAx10.out.1,PAx10.out.2.1,PAx10.out.2.2.1,PAx10.out.2.2.2,PBx10.out.1,PBx10.out.2.1,PBx10.out.2.2.1,PBx10.out.2.2.2⟩:(λw'=>w'.cell? ⟨w.heap.size+3,3,none⟩=some (.slice B i c)/\w'.cell? ⟨w.heap.size+4,3,none⟩=some (.slice B' i c')/\w'.cell? ⟨bA,0,none⟩=some (.int .i64 k3)/\w'.cell? ⟨bA,1,none⟩=some (.int .i64 n3)/\w'.cell? ⟨bA,2,none⟩=some (.int .i64 r3)/\w'.cell? ⟨bA,3,none⟩=some (.slice D q3.len dA)/\w'.cell? ⟨bB,0,none⟩=some (.int .i64 k3)/\w'.cell? ⟨bB,1,none⟩=some (.int .i64 n3)/\w'.cell? ⟨bB,2,none⟩=some (.int .i64 r3)/\w'.cell? ⟨bB,3,none⟩=some (.slice D' q3.len dB)) wx10)
   refine hK.out _ _ (λ_=>hSx10) ?_
   clear hK K
   try simp only[nrm,Act.put]
   refine Takes.intro [10] ?_
   repeat(refine Takes.go (v:=?_) hSx10 ?_;try simp only[nrm,Act.put])
   refine Takes.nil ?_
   refine wpAnyS_1 9 (λK hK=>?_)
   obtain⟨xs,hO,hRg⟩:=R2x10.out
   rw[hlen] at hO
   refine wp_appL _ _ 27 29 rfl 4 48 (.agg #[.int .i64 0,.int .i64 0,.int .i64 0,.slice none 0 0]) Try.underlying27 info_rplan rfl (by omega) (by omega) (w.heap.size+5) (.slice B' i c') i xs (by kernel_rfl) hO g8 1 [.int .i64 k3,.int .i64 n3,.int .i64 r3,.slice D' q3.len dB] rfl (by kernel_rfl) N8x10.out (one_four _ _ _ _ _ _) (by omega) Fx10.out.sz ?_
   intro h9 cap9 wx11 hN hG hL
   obtain⟨r1',r2'⟩:=app2 (by decide) hlen R1x10.out hO hRg KBx10.out hN hG hL
   have R1x11:=aZ r1'
   have R2x11:=aZ r2'
   have Fx11:=aZ (Fx10.out.grown HH.out hG (λj e=>(R2x10.out.lt j e).1))
   have PAx11:=aZ (PAx10.out.grown hG (λe=>by have:=HO2.out _ e;omega))
   have PBx11:=aZ (PBx10.out.grown hG (λe=>by have:=HO2.out _ e;omega))
   clear r1' r2' hN hG hL hO hRg
   have hSx11:=(⟨Fx11.out.bp.1.2.2.2,Fx11.out.bq.1.2.2.2,PAx11.out.1,PAx11.out.2.1,PAx11.out.2.2.1,PAx11.out.2.2.2,PBx11.out.1,PBx11.out.2.1,PBx11.out.2.2.1,PBx11.out.2.2.2⟩:(λw'=>w'.cell? ⟨w.heap.size+3,3,none⟩=some (.slice B i c)/\w'.cell? ⟨w.heap.size+4,3,none⟩=some (.slice B' i c')/\w'.cell? ⟨bA,0,none⟩=some (.int .i64 k3)/\w'.cell? ⟨bA,1,none⟩=some (.int .i64 n3)/\w'.cell? ⟨bA,2,none⟩=some (.int .i64 r3)/\w'.cell? ⟨bA,3,none⟩=some (.slice D q3.len dA)/\w'.cell? ⟨bB,0,none⟩=some (.int .i64 k3)/\w'.cell? ⟨bB,1,none⟩=some (.int .i64 n3)/\w'.cell? ⟨bB,2,none⟩=some (.int .i64 r3)/\w'.cell? ⟨bB,3,none⟩=some (.slice D' q3.len dB)) wx11)
   refine hK.out _ _ (λ_=>hSx11) ?_
   clear hK K
   try simp only[nrm,Act.put]
   refine wpAnyS_fin 3 11 ?_
   simp only[nrd]
   obtain⟨⟨z0,z1,z2,z3⟩,zf⟩:=Fx11.out.bp
   obtain⟨⟨y0,y1,y2,y3⟩,yf⟩:=Fx11.out.bq
   have zf3:=zf 3 (by omega)
   have yf3:=yf 3 (by omega)
   have HFN:=aZ (Fx11.out.put HH.out (some ⟨h4,0,none⟩) cap4 (some ⟨h9,0,none⟩) cap9 (i+1))
   have HR1:=aZ ((R1x11.out.set (b:=w.heap.size+3) (o:=3) (.slice (some ⟨h4,0,none⟩) (i+1) cap4) (by omega)).set (b:=w.heap.size+4) (o:=3) (.slice (some ⟨h9,0,none⟩) (i+1) cap9) (by omega))
   have HR2:=aZ ((R2x11.out.set (b:=w.heap.size+3) (o:=3) (.slice (some ⟨h4,0,none⟩) (i+1) cap4) (by omega)).set (b:=w.heap.size+4) (o:=3) (.slice (some ⟨h9,0,none⟩) (i+1) cap9) (by omega))
   clear zf yf z0 z1 z2 y0 y1 y2
   go_wp2
   exact⟨⟨i+1,fo.snoc k3 n3 r3 q3,_,_,_,_,a3,by omega,by go_num,ha3,HFN,HR1,HR2,by rw[snoc_len,hlen],by rw[snoc_count];have:=HCT.out;rw[Nat.succ_mul];omega⟩,by simp[intOf];omega⟩
end Go.Proofs.Yteaimnemobnknaa
