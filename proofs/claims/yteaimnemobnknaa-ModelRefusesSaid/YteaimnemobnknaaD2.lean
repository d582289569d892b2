/- Words for pick: what is kept above a mark; rows of plans without kids. -/
import Derived.Test.YteaimnemobnknaaX0
import Derived.Test.YteaimnemobnknaaD1L18
import Derived.Test.YteaimnemobnknaaMC5
set_option linter.unusedSimpArgs false
set_option linter.unusedVariables false
namespace Go.Proofs.Yteaimnemobnknaa
open Go.RowKit Go.Lib
theorem cell_lt{w:World}{b o:Nat}{v:Value}(h:w.cell? ⟨b,o,none⟩=some v):b<w.heap.size:=by
 apply Classical.byContradiction
 intro hn
 rw[World.cell?,Array.getElem?_eq_none (by show w.heap.size<=b;omega)] at h
 cases h
structure Keeps(base:Nat)(w w':World):Prop where
 size:w.heap.size<=w'.heap.size
 block:∀k,base<=k->k<w.heap.size->w'.heap[k]?=w.heap[k]?
theorem Only2.keeps{pa pl base:Nat}{w w':World}(h:Only2 pa pl w w')(ha:pa<base)(hl:pl<base):Keeps base w w':=⟨h.size,λk hk hs=>h.block k hs (by omega) (by omega)⟩
theorem PlBox.same{w w':World}{b:Nat}{kind n r:Int}{A:Option Addr}{l c:Nat}(h:PlBox w b kind n r A l c)(e:w'.heap[b]?=w.heap[b]?):PlBox w' b kind n r A l c:=
 ⟨(World.cell?_of_block (w:=w) (a:=⟨b,0,none⟩) e).trans h.1,(World.cell?_of_block (w:=w) (a:=⟨b,1,none⟩) e).trans h.2.1,(World.cell?_of_block (w:=w) (a:=⟨b,2,none⟩) e).trans h.2.2.1,(World.cell?_of_block (w:=w) (a:=⟨b,3,none⟩) e).trans h.2.2.2⟩
theorem PlFree.same{w w':World}{b:Nat}(h:PlFree w b)(e:w'.heap[b]?=w.heap[b]?):PlFree w' b:=λj hj=>(World.frozen?_of_block (w:=w) (a:=⟨b,j,none⟩) e).trans (h j hj)
theorem IntBox.same{w w':World}{b:Nat}{v:Int}(h:IntBox w b v)(e:w'.heap[b]?=w.heap[b]?):IntBox w' b v:=
 ⟨(World.cell?_of_block (w:=w) (a:=⟨b,0,none⟩) e).trans h.1,(World.frozen?_of_block (w:=w) (a:=⟨b,0,none⟩) e).trans h.2⟩
theorem cell_same{w w':World}{b o:Nat}{v:Value}(h:w.cell? ⟨b,o,none⟩=some v)(e:w'.heap[b]?=w.heap[b]?):w'.cell? ⟨b,o,none⟩=some v:=(World.cell?_of_block (w:=w) (a:=⟨b,o,none⟩) e).trans h
theorem KY.keeps{base:Nat}{g:Option Nat}{w w1:World}{B:Option Addr}{q:Fo}(h:KY base g w B q)(k:Keeps base w w1):KY base g w1 B q:=
 λw' hw=>h w' λi hi hs hg=>(hw i hi (Nat.lt_of_lt_of_le hs k.size) hg).trans (k.block i hi hs)
theorem owns_keeps{base n sz:Nat}{e:TypeId}{v:Value}{xs:List Value}{w w1:World}(h:w.ownsRow base e sz v n xs)(k:Keeps base w w1):w1.ownsRow base e sz v n xs:=by
 refine⟨h.1,?_⟩
 rcases h.2 with h0|⟨g,cap,cur,hv,hb,hg,h1,h2,h3,h4⟩
 ·exact .inl h0
 ·exact .inr ⟨g,cap,cur,hv,hb,(k.block g hb (Array.getElem?_eq_some_iff.1 hg).1).trans hg,h1,h2,h3,h4⟩
theorem RowP.keeps{base:Nat}{e:TypeId}{w w1:World}{v:Value}{fo:Fo}(h:RowP base e w v fo)(k:Keeps base w w1):RowP base e w1 v fo:=by
 obtain⟨xs,h1,h2⟩:=h
 exact⟨xs,owns_keeps h1 k,h2.map λ_ _ h=>h.keeps k⟩
theorem IntsAt.same{w w':World}{A:Option Addr}{n:Nat}{f:Nat->Int}(h:IntsAt w A n f)(e:0<n->∀b o,A=some ⟨b,o,none⟩->w'.heap[b]?=w.heap[b]?):IntsAt w' A n f:=λi hi=>by
 obtain⟨b,o,he,hc⟩:=h i hi
 exact⟨b,o,he,cell_same hc (e (by omega) b o he)⟩
theorem IntBox.lt{w:World}{b:Nat}{v:Int}(h:IntBox w b v):b<w.heap.size:=cell_lt h.1
theorem IntBox.set{w:World}{b:Nat}{v:Int}(h:IntBox w b v)(u:Int):IntBox (w.setCell ⟨b,0,none⟩ (.int .i64 u)) b u:=by
 refine⟨?_,?_⟩
 ·rw[World.cell?_setCell_same' _ _ _ (by rw[h.1];rfl)]
 ·rw[World.frozen?_setCell];exact h.2
theorem heap_set{w:World}{b o k:Nat}(u:Value)(h:k≠b):(w.setCell ⟨b,o,none⟩ u).heap[k]?=w.heap[k]?:=by
 have hs:(w.setCell ⟨b,o,none⟩ u).heap.size=w.heap.size:=by simp[World.setCell]
 have ho:=(OnlyB.refl b w).setCell o none u
 rcases Nat.lt_or_ge k w.heap.size with hl|hl
 ·exact ho.block k hl h
 ·rw[Array.getElem?_eq_none hl,Array.getElem?_eq_none (by omega)]
def Cand(n:Nat)(blue:Bool)(k r:Int):Prop:=
 (k=0/\r=0)\/(k=2/\r=0)\/(k=1/\∃p d:Nat,r=p/\2<=p/\2<=d/\p*d=n)\/(k=3/\r=0/\3<=n)\/(k=4/\r=0/\blue=false/\2<=n/\n<=16384)
def oneV(n:Nat)(c:Int×Int):List Value:=[.int .i64 c.1,.int .i64 n,.int .i64 c.2,.slice none 0 0]
def candV(n:Nat)(cs:List (Int×Int)):List Value:=cs.flatMap (oneV n)
def AllRow(base n:Nat)(blue:Bool)(w:World)(v:Value)(cs:List (Int×Int)):Prop:=
 w.ownsRow base 26 4 v cs.length (candV n cs)/\∀c∈cs,Cand n blue c.1 c.2
theorem candV_app(n:Nat)(a b:List (Int×Int)):candV n (a++b)=candV n a++candV n b:=by simp[candV]
theorem candV_len(n:Nat):∀cs:List (Int×Int),(candV n cs).length=cs.length*4
 |[]=>rfl
 |c::cs=>by
   have:=candV_len n cs
   unfold candV at this|-
   rw[List.flatMap_cons,List.length_append,this,List.length_cons]
   simp[oneV]
   omega
theorem candV_at(n:Nat):∀(cs:List (Int×Int)) (i:Nat) (c:Int×Int),cs[i]?=some c->∀j,j<4->(candV n cs)[i*4+j]?=(oneV n c)[j]?
 |[],_,_,h,_,_=>by simp at h
 |d::cs,0,c,h,j,hj=>by
   have h':d=c:=by simpa using h
   subst h'
   unfold candV
   rw[List.flatMap_cons,List.getElem?_append_left (by simp[oneV];omega),Nat.zero_mul,Nat.zero_add]
 |d::cs,i+1,c,h,j,hj=>by
   have ih:=candV_at n cs i c (by simpa using h) j hj
   unfold candV at ih|-
   rw[List.flatMap_cons,List.getElem?_append_right (by simp[oneV];omega),<-ih]
   congr 1
   simp[oneV]
   omega
theorem one_cand(n:Nat)(c:Int×Int)(u:Value)(h:u∈oneV n c):u.oneCell'=true:=by
 simp only[oneV,List.mem_cons,List.not_mem_nil,or_false] at h
 rcases h with rfl|rfl|rfl|rfl<;>rfl
theorem AllRow.keeps{base n:Nat}{blue:Bool}{w w1:World}{v:Value}{cs:List (Int×Int)}(h:AllRow base n blue w v cs)(k:Keeps base w w1):AllRow base n blue w1 v cs:=⟨owns_keeps h.1 k,h.2⟩
theorem bs_plans2(a b c d a' b' c' d':Value)(w:World):(Instr.buildSlice 24 2 #[(0,.agg #[a,b,c,d]),(1,.agg #[a',b',c',d'])]).run Try.prog w=.ok (.slice (some ⟨w.heap.size,0,none⟩) 2 2) (w.alloc (.cells #[a,b,c,d,a',b',c',d'] 26)):=by
 obtain⟨i0,hi,hz0,hz1,hz2⟩:=info_parts info_plan
 refine run_buildSlice w 24 26 2 _ #[a,b,c,d,a',b',c',d'] i0 _ Try.underlying24 hi hz0 (by rw[hz1];decide) (by rw[hz1];decide) ?_
 rw[hz1]
 have hr:Array.range 4=#[0,1,2,3]:=by decide
 have hr8:Array.range 8=#[0,1,2,3,4,5,6,7]:=by decide
 simp[Instr.fill,Value.cells,hr,hr8]
theorem wpList_appM{ops:Array Oper}{rest:List Oper}{o:Oper}{a:Act}{w:World}{Q:Exit->Act->World->Prop}(hgd:o.guard=none)(s x:Operand)(t e:TypeId)(ho:o.op=.call {callee:=.builtin .append,args:=#[s,x],argTypes:=#[t,t]})(sz bytes:Nat)(z:Value)(hU:Try.prog.underlying t=some (.slice e))(hI:(Try.prog.info? e).map (λi=>(i.zero,i.size,i.bytes))=some (some z,sz,bytes))(hzs:z.cells.size=sz)(hsz:0<sz)(hby:bytes<=64)(base:Nat)(v:Value)(k m:Nat)(hm:1<=m)(xs:List Value)(hs:a.eval s=v)(hown:w.ownsRow base e sz v k xs)(b c:Nat)(news:List Value)(hl:news.length=m*sz)(hx:a.eval x=.slice (some ⟨b,0,none⟩) m c)(hn:∀j u,news[j]?=some u->w.cell? ⟨b,j,none⟩=some u)(h1:∀u∈news,u.oneCell'=true)(hk:k+m<=1099511627776)(hbase:base<=w.heap.size)(h:∀g cap w',Hid (w'.ownsRow base e sz (.slice (some ⟨g,0,none⟩) (k+m) cap) (k+m) (xs++news))->Hid (w.grownBy w' v.ownBlock)->Hid (v.ownBlock=some g\/g=w.heap.size)->wpList Try.prog ops Q rest (a.put o.dst (.slice (some ⟨g,0,none⟩) (k+m) cap)) w'):wpList Try.prog ops Q (o::rest) a w:=by
 obtain⟨i0,hi,hz0,hz1,hz2⟩:=info_parts hI
 refine wpList_append_lies w hgd s x t ho base e i0 z sz bytes hU hi hz0 hz1 hz2 hzs hsz v k xs hs hown ⟨b,0,none⟩ m c news hx hl ?_ h1 (by omega) (by unfold maxLen;omega) ?_ hbase _ rfl ?_
 ·intro j u hj
  have:=hn j u hj
  rw[Addr.add]
  split
  ·rename_i e;subst e;exact this
  ·simpa using this
 ·have:(k+m)*bytes<=1099511627776*64:=Nat.mul_le_mul hk hby
  omega
 ·intro g cap w' h1 h2 h3 _
  exact h g cap w' (aZ h1) (aZ h2) (aZ h3)
theorem AllRow.new{base n:Nat}{blue:Bool}{w:World}:AllRow base n blue w (.slice none 0 0) []:=⟨⟨rfl,.inl ⟨rfl,rfl⟩⟩,λ_ h=>by cases h⟩
theorem AllRow.more{base n:Nat}{blue:Bool}{w w':World}{v:Value}{cs ds:List (Int×Int)}{g cap:Nat}(h:AllRow base n blue w v cs)(hO:w'.ownsRow base 26 4 (.slice (some ⟨g,0,none⟩) (cs.length+ds.length) cap) (cs.length+ds.length) (candV n cs++candV n ds))(hd:∀c∈ds,Cand n blue c.1 c.2):AllRow base n blue w' (.slice (some ⟨g,0,none⟩) (cs.length+ds.length) cap) (cs++ds):=by
 refine⟨?_,λc hc=>?_⟩
 ·rw[List.length_append,candV_app]
  exact hO
 ·rcases List.mem_append.1 hc with h1|h1
  ·exact h.2 c h1
  ·exact hd c h1
theorem AllRow.form{base n:Nat}{blue:Bool}{w:World}{v:Value}{cs:List (Int×Int)}(h:AllRow base n blue w v cs):∃A c,v=.slice A cs.length c:=by
 rcases h.1.2 with⟨rfl,hl⟩|⟨g,cap,cur,rfl,_⟩
 ·exact⟨none,0,by rw[hl]⟩
 ·exact⟨_,_,rfl⟩
theorem AllRow.at'{base n:Nat}{blue:Bool}{w:World}{A:Option Addr}{l c:Nat}{cs:List (Int×Int)}(h:AllRow base n blue w (.slice A l c) cs){i:Nat}(hi:i<cs.length):
  ∃g k r,A=some ⟨g,0,none⟩/\l=cs.length/\Cand n blue k r/\w.cell? ⟨g,i*4,none⟩=some (.int .i64 k)/\w.cell? ⟨g,i*4+1,none⟩=some (.int .i64 n)/\w.cell? ⟨g,i*4+2,none⟩=some (.int .i64 r)/\w.cell? ⟨g,i*4+3,none⟩=some (.slice none 0 0):=by
 rcases h.1.2 with⟨_,hl⟩|⟨g,cap,cur,hv,_⟩
 ·omega
 ·injection hv with h1 h2 h3
  subst h1 h2 h3
  have hat:=candV_at n cs i cs[i] (List.getElem?_eq_getElem hi)
  have hcell:∀j,j<4->w.cell? ⟨g,i*4+j,none⟩=(oneV n cs[i])[j]?:=λj hj=>by
   rw[<-hat j hj]
   exact World.ownsRow.cellAt h.1 (i*4+j) (by omega)
  exact⟨g,_,_,rfl,rfl,h.2 _ (List.getElem_mem hi),hcell 0 (by omega),hcell 1 (by omega),hcell 2 (by omega),hcell 3 (by omega)⟩
def capN(blue:Bool)(x:Int):Nat:=if blue then 2*x.toNat-1 else 16*x.toNat-4
def capL(blue:Bool):List Int->Nat
 |[]=>0
 |x::l=>capN blue x+capL blue l
theorem cand_cap{n:Nat}{blue:Bool}{k r:Int}(h:Cand n blue k r)(h1:1<=n):1+capL (blue||k==4) (wantsF k n r)<=capN blue n:=by
 rcases h with⟨rfl,rfl⟩|⟨rfl,rfl⟩|⟨rfl,p,d,rfl,hp,hd,hpd⟩|⟨rfl,rfl,h3⟩|⟨rfl,rfl,rfl,h2,h4⟩
 ·cases blue<;>simp[wantsF,capL,capN]<;>omega
 ·cases blue<;>simp[wantsF,capL,capN]<;>omega
 ·have e:wantsF 1 n p=[(p:Int),(d:Int)]:=by
    unfold wantsF
    rw[if_pos rfl,if_neg (by omega)]
    have:((n:Nat):Int)/(p:Int)=d:=by
     rw[<-hpd,Int.natCast_mul,Int.mul_ediv_cancel_left _ (by omega)]
    rw[this]
  rw[e]
  have h5:p+d<=n:=by
   obtain⟨p',rfl⟩:∃p',p=p'+2:=⟨p-2,by omega⟩
   obtain⟨d',rfl⟩:∃d',d=d'+2:=⟨d-2,by omega⟩
   have:(p'+2)*(d'+2)=p'*d'+2*p'+2*d'+4:=by grind
   omega
  cases blue<;>simp[capL,capN]<;>omega
 ·have e:wantsF 3 n 0=[(n:Int)-1]:=rfl
  rw[e]
  cases blue<;>simp[capL,capN]<;>omega
 ·have e:wantsF 4 n 0=[(padF n:Int)]:=rfl
  rw[e]
  have:=(padF_spec n (by omega) h4).2.1
  simp[capL,capN]
  omega
theorem cand_wants{n:Nat}{blue:Bool}{k r:Int}(h:Cand n blue k r)(h1:1<=n)(hn:n<=32768):∀x∈wantsF k n r,∃m:Nat,x=m/\1<=m/\m<=32768/\(k=4\/m<n):=by
 intro x hx
 rcases h with⟨rfl,rfl⟩|⟨rfl,rfl⟩|⟨rfl,p,d,rfl,hp,hd,hpd⟩|⟨rfl,rfl,h3⟩|⟨rfl,rfl,rfl,h2,h4⟩
 ·simp[wantsF] at hx
 ·simp[wantsF] at hx
 ·have e:wantsF 1 n p=[(p:Int),(d:Int)]:=by
    unfold wantsF
    rw[if_pos rfl,if_neg (by omega)]
    have:((n:Nat):Int)/(p:Int)=d:=by
     rw[<-hpd,Int.natCast_mul,Int.mul_ediv_cancel_left _ (by omega)]
    rw[this]
  rw[e] at hx
  have h5:p+d<=n:=by
   obtain⟨p',rfl⟩:∃p',p=p'+2:=⟨p-2,by omega⟩
   obtain⟨d',rfl⟩:∃d',d=d'+2:=⟨d-2,by omega⟩
   have:(p'+2)*(d'+2)=p'*d'+2*p'+2*d'+4:=by grind
   omega
  simp only[List.mem_cons,List.not_mem_nil,or_false] at hx
  rcases hx with rfl|rfl
  ·exact⟨p,rfl,by omega,by omega,.inr (by omega)⟩
  ·exact⟨d,rfl,by omega,by omega,.inr (by omega)⟩
 ·have e:wantsF 3 n 0=[(n:Int)-1]:=rfl
  rw[e] at hx
  simp only[List.mem_cons,List.not_mem_nil,or_false] at hx
  subst hx
  exact⟨n-1,by omega,by omega,by omega,.inr (by omega)⟩
 ·have e:wantsF 4 n 0=[(padF n:Int)]:=rfl
  rw[e] at hx
  have:=padF_spec n (by omega) h4
  simp only[List.mem_cons,List.not_mem_nil,or_false] at hx
  subst hx
  exact⟨padF n,rfl,by omega,by omega,.inl rfl⟩
theorem capL_drop(b:Bool)(ws:List Int)(i:Nat)(h:i<ws.length):capL b (ws.drop i)=capN b (ws.getD i 0)+capL b (ws.drop (i+1)):=by
 rw[List.drop_eq_getElem_cons h,capL,List.getD_eq_getElem?_getD,List.getElem?_eq_getElem h]
 rfl
end Go.Proofs.Yteaimnemobnknaa
