/- The law's isPrime, next. -/
import Derived.Test.YteaimnemobnknaaX0
import Derived.Test.YteaimnemobnknaaZ3
import Derived.Test.YteaimnemobnknaaD1L18
import Derived.Test.YteaimnemobnknaaD2
import Derived.Test.YteaimnemobnknaaMC4
import Derived.Test.YteaimnemobnknaaMC6
set_option maxRecDepth 100000
set_option linter.unusedSimpArgs false
set_option linter.unusedVariables false
set_option maxHeartbeats 16000000
namespace Go.Proofs.Yteaimnemobnknaa
open Go.RowKit Go.Lib
theorem isPrime19(n:Nat)(hn:n<=1073741824)(w:World):Calls Try.prog 90 #[.int .i64 n] w λz w'=>AnyB z/\w=w':=by
 go_enter Try.func90,Try.ntmps90
 go_wp2
 go_loop [3] (λvd=>∃d:Nat,vd=.int .i64 d/\2<=d/\d<=n+2) (λvd=>n+3-(intOf vd).toNat)
 case atStart=>exact⟨2,rfl,by omega,by omega⟩
 case round=>
  obtain⟨d,rfl,hd2,hdm⟩:=hrel
  have hdd:d*d<=1073741826*1073741826:=Nat.mul_le_mul (by omega) (by omega)
  have hd0:((d:Int)==0)=false:=by rw[beq_eq_false_iff_ne];omega
  have hd1:¬(d:Int)=0:=by omega
  have hmul:(d:Int)*(d:Int)=((d*d:Nat):Int):=(Int.natCast_mul d d).symm
  have hge:d<=d*d:=Nat.le_mul_of_pos_left d (by omega)
  obtain⟨D,hD⟩:∃D,d*d=D:=⟨_,rfl⟩
  rw[hD] at hmul hdd hge
  clear hD
  by_cases hle:D<=n
  ·have hlei:(D:Int)<=(n:Int):=by omega
   have ht:(n:Int).tmod d=((n%d:Nat):Int):=by rw[Int.tmod_eq_emod_of_nonneg (by omega)];omega
   obtain⟨x,hx⟩:∃x,n%d=x:=⟨_,rfl⟩
   have hxl:x<d:=by rw[<-hx];exact Nat.mod_lt _ (by omega)
   rw[hx] at ht
   clear hx
   by_cases h0:x=0
   ·subst h0
    go_wp2
    go_ret
    exact⟨⟨_,rfl⟩,rfl⟩
   ·have h0':¬(x:Int)=0:=by omega
    have h0b:((x:Int)==0)=false:=by rw[beq_eq_false_iff_ne];omega
    go_wp2
    exact⟨⟨d+1,by go_num,by omega,by omega⟩,by simp[intOf];omega⟩
  ·have hlei:¬(D:Int)<=(n:Int):=by omega
   go_wp2
   go_ret
   exact⟨⟨_,rfl⟩,rfl⟩
theorem next19(k b1 b2 pa:Nat)(a:Int)(Ac:Option Addr)(nc cc:Nat)(f:Nat->Int)(w:World)(hk:1<=k)(hk2:k<=1073741824)(h1:w.cell? ⟨b1,0,none⟩=some (.pointer (some ⟨pa,0,none⟩)))(h2:w.cell? ⟨b2,0,none⟩=some (.slice Ac nc cc))(ha:IntBox w pa a)(a0:0<=a)(a1:a<=1073741824)(hI:IntsAt w Ac nc f)(n1:b1≠pa)(n2:b2≠pa)(n3:0<nc->∀b o,Ac=some ⟨b,o,none⟩->b≠pa)(hnc:nc<=1125899906842624):
  Calls Try.prog 89 #[.int .i64 k,.pointer (some ⟨b1,0,none⟩),.pointer (some ⟨b2,0,none⟩)] w λz w'=>(∃i:Nat,z=.returned (.int .i64 i)/\i<k)/\IntBox w' pa (a+1)/\OnlyB pa w w':=by
 obtain⟨ha1,ha2⟩:=ha
 obtain⟨W1,hW1⟩:∃W1,W1=w.setCell ⟨pa,0,none⟩ (.int .i64 (a+1)):=⟨_,rfl⟩
 have hF:IntBox W1 pa (a+1)/\OnlyB pa w W1:=by
  rw[hW1]
  exact⟨⟨by go_simp,by go_simp⟩,(OnlyB.refl pa w).setCell _ _ _⟩
 have FIN:=aZ hF
 have hI':Hid (IntsAt W1 Ac nc f):=aZ (λi hi=>by
  obtain⟨b,o,e,hc⟩:=hI i hi
  refine⟨b,o,e,?_⟩
  rw[hW1,World.cell?_setCell_other]
  ·exact hc
  ·intro h
   exact n3 (by omega) b o e (congrArg Addr.block h).symm)
 have c1:W1.cell? ⟨b1,0,none⟩=some (.pointer (some ⟨pa,0,none⟩)):=by
  rw[hW1,World.cell?_setCell_other _ _ _ _ (λh=>n1 (congrArg Addr.block h).symm)];exact h1
 have c2:W1.cell? ⟨b2,0,none⟩=some (.slice Ac nc cc):=by
  rw[hW1,World.cell?_setCell_other _ _ _ _ (λh=>n2 (congrArg Addr.block h).symm)];exact h2
 have c3:W1.cell? ⟨pa,0,none⟩=some (.int .i64 (a+1)):=hF.1.1
 have HW1:=aZ hW1
 clear hF hI n3 hW1
 go_enter Try.func89,Try.ntmps89
 go_wp2
 rw[<-HW1.out]
 clear h1 h2 ha1 ha2
 refine wp_region_T (λw'=>w'.cell? ⟨b1,0,none⟩=some (.pointer (some ⟨pa,0,none⟩))/\w'.cell? ⟨b2,0,none⟩=some (.slice Ac nc cc)/\w'.cell? ⟨pa,0,none⟩=some (.int .i64 (a+1))) 5 ⟨c1,c2,c3⟩ (λhS0=>?_)
 refine Takes.intro [0,1,2,3,4] ?_
 repeat(refine Takes.go (v:=?_) hS0 ?_;try simp only[nrm,Act.put])
 refine Takes.nil ?_
 refine wpAnyS_fin 5 5 ?_
 simp only[nrd]
 clear hS0
 by_cases hgt:(nc:Int)<a+1
 ·go_wp2
  go_ret
  exact⟨⟨0,rfl,by omega⟩,FIN.out.1.drew,FIN.out.2.drew⟩
 ·obtain⟨m,rfl⟩:∃m:Nat,a=m:=⟨a.toNat,by omega⟩
  obtain⟨bI,oI,rfl,c4⟩:=hI'.out m (by omega)
  have hkI:¬(k:Int)<1:=by omega
  have hk0:¬(k:Int)=0:=by omega
  have hmn:(m:Int)<(nc:Int):=by omega
  have hi0:=Int.emod_nonneg (f m) (show(k:Int)≠0 by omega)
  have hi1:=Int.emod_lt_of_pos (f m) (show 0<(k:Int) by omega)
  have hwm:IntKind.i64.wrap ((m:Int))=(m:Int):=wrapI_nat m (by omega)
  have hin:0<=(m:Int)/\(m:Int)<(nc:Int):=by omega
  go_wp2
  by_cases hneg:f m<=0
  ·skip
   refine wp_region_T (λw'=>w'.cell? ⟨b1,0,none⟩=some (.pointer (some ⟨pa,0,none⟩))/\w'.cell? ⟨b2,0,none⟩=some (.slice (some ⟨bI,oI,none⟩) nc cc)/\w'.cell? ⟨pa,0,none⟩=some (.int .i64 ((m:Int)+1))/\w'.cell? ⟨bI,oI+m,none⟩=some (.int .i64 (f m))) 9 ⟨c1,c2,c3,c4⟩ (λhS0=>?_)
   refine Takes.intro [0,1,2,3,4,5,6,7,8] ?_
   repeat(refine Takes.step (v:=?_) (by kernel_rfl) rfl (λ_ _ _ h=>h) rfl hS0 (λw hSw=>by(try dsimp only at hSw);go_simp;(try simp only[hwm,hin,and_self,if_true,Int.toNat_natCast]);try with_reducible rfl) ?_;try simp only[nrm,Act.put])
   refine Takes.nil ?_
   refine wpAnyS_fin 2 9 ?_
   simp only[nrd]
   clear hS0
   go_wp2
   go_ret
   exact⟨⟨0,rfl,by omega⟩,FIN.out.1.drew.drew,FIN.out.2.drew.drew⟩
  ·skip
   refine wp_region_T (λw'=>w'.cell? ⟨b1,0,none⟩=some (.pointer (some ⟨pa,0,none⟩))/\w'.cell? ⟨b2,0,none⟩=some (.slice (some ⟨bI,oI,none⟩) nc cc)/\w'.cell? ⟨pa,0,none⟩=some (.int .i64 ((m:Int)+1))/\w'.cell? ⟨bI,oI+m,none⟩=some (.int .i64 (f m))) 9 ⟨c1,c2,c3,c4⟩ (λhS0=>?_)
   refine Takes.intro [0,1,2,3,4,5,6,7,8] ?_
   repeat(refine Takes.step (v:=?_) (by kernel_rfl) rfl (λ_ _ _ h=>h) rfl hS0 (λw hSw=>by(try dsimp only at hSw);go_simp;(try simp only[hwm,hin,and_self,if_true,Int.toNat_natCast]);try with_reducible rfl) ?_;try simp only[nrm,Act.put])
   refine Takes.nil ?_
   refine wpAnyS_fin 2 9 ?_
   simp only[nrd]
   clear hS0
   go_wp2
   go_ret
   exact⟨⟨(f m%(k:Int)).toNat,by rw[Int.toNat_of_nonneg hi0];rfl,by omega⟩,FIN.out.1.drew.drew,FIN.out.2.drew.drew⟩
structure PkH(w:World)(pa pl:Nat)(Ac:Option Addr)(nc:Nat):Prop where
 lta:pa<w.heap.size
 ltl:pl<w.heap.size
 ne:pa≠pl
 ac:0<nc->∀b o,Ac=some ⟨b,o,none⟩->b<w.heap.size/\b≠pa/\b≠pl
theorem PkH.mono{w w':World}{pa pl:Nat}{Ac:Option Addr}{nc:Nat}(h:PkH w pa pl Ac nc)(hs:w.heap.size<=w'.heap.size):PkH w' pa pl Ac nc:=
 ⟨Nat.lt_of_lt_of_le h.lta hs,Nat.lt_of_lt_of_le h.ltl hs,h.ne,λh0 b o e=>⟨Nat.lt_of_lt_of_le (h.ac h0 b o e).1 hs,(h.ac h0 b o e).2⟩⟩
structure PkA(w W:World)(pa pl:Nat)(a l:Int)(Ac:Option Addr)(nc cc:Nat)(f:Nat->Int):Prop where
 sz:w.heap.size+3<=W.heap.size
 o2:Only2 pa pl w W
 c6:W.cell? ⟨w.heap.size,0,none⟩=some (.slice Ac nc cc)
 c7:W.cell? ⟨w.heap.size+1,0,none⟩=some (.pointer (some ⟨pa,0,none⟩))
 rb:PlBox W (w.heap.size+2) 0 0 0 none 0 0/\PlFree W (w.heap.size+2)
 ba:IntBox W pa a
 bl:IntBox W pl l
 ch:IntsAt W Ac nc f
theorem PkA.move{w W W':World}{pa pl:Nat}{a l a' l':Int}{Ac:Option Addr}{nc cc:Nat}{f:Nat->Int}(H:PkH w pa pl Ac nc)(h:PkA w W pa pl a l Ac nc cc f)(hs:W.heap.size<=W'.heap.size)(ho:W'.os=W.os)(ht:W'.tape=W.tape)(hu:W'.output=W.output)(hk:∀k,k<w.heap.size+3->k≠pa->k≠pl->W'.heap[k]?=W.heap[k]?)(ha:IntBox W' pa a')(hl:IntBox W' pl l'):PkA w W' pa pl a' l' Ac nc cc f:=by
 have h1:=H.lta
 have h2:=H.ltl
 have h3:=h.sz
 refine⟨by omega,⟨ho.trans h.o2.os,ht.trans h.o2.tape,hu.trans h.o2.output,by have:=h.o2.size;omega,λk hks ka kl=>(hk k (by omega) ka kl).trans (h.o2.block k hks ka kl)⟩,cell_same h.c6 (hk _ (by omega) (by omega) (by omega)),cell_same h.c7 (hk _ (by omega) (by omega) (by omega)),
  ⟨h.rb.1.same (hk _ (by omega) (by omega) (by omega)),h.rb.2.same (hk _ (by omega) (by omega) (by omega))⟩,ha,hl,h.ch.same λh0 b o e=>?_⟩
 have:=H.ac h0 b o e
 exact hk b (by omega) this.2.1 this.2.2
theorem PkA.below{w W W':World}{pa pl:Nat}{a l:Int}{Ac:Option Addr}{nc cc:Nat}{f:Nat->Int}(H:PkH w pa pl Ac nc)(h:PkA w W pa pl a l Ac nc cc f){c:Nat}(hb:Below c W W')(hc:w.heap.size+3<=c):PkA w W' pa pl a l Ac nc cc f:=
 h.move H hb.size hb.os hb.tape hb.output (λk hk _ _=>hb.block k (by omega)) (h.ba.same (hb.block _ (by have:=H.lta;omega))) (h.bl.same (hb.block _ (by have:=H.ltl;omega)))
theorem PkA.grown{w W W':World}{pa pl:Nat}{a l:Int}{Ac:Option Addr}{nc cc:Nat}{f:Nat->Int}{row:Option Nat}(H:PkH w pa pl Ac nc)(h:PkA w W pa pl a l Ac nc cc f)(hg:W.grownBy W' row)(hr:∀k,row=some k->w.heap.size+3<=k):PkA w W' pa pl a l Ac nc cc f:=
 h.below H (Below.grown (Below.refl _ W) hg h.sz hr) (Nat.le_refl _)
structure PkB(w W:World)(T bp pa pl:Nat)(a l:Int)(Ac:Option Addr)(nc cc:Nat)(f:Nat->Int)(Aw:Option Addr)(ws:List Int)(kind n r:Int)(Bk:Option Addr)(i cb:Nat)(fo:Fo):Prop where
 A:PkA w W pa pl a l Ac nc cc f
 sz:T<=W.heap.size
 wt:IntsAt W Aw ws.length (λi=>ws.getD i 0)
 pb:PlBox W bp kind n r Bk i cb/\PlFree W bp
 row:RowP T 26 W (.slice Bk i cb) fo
 len:fo.len=i
structure PkT(w:World)(T bp:Nat)(Aw:Option Addr)(m:Nat):Prop where
 lo:w.heap.size+3<=bp
 hi:bp<T
 wt:0<m->∀b o,Aw=some ⟨b,o,none⟩->w.heap.size+3<=b/\b<T/\b≠bp
theorem PkB.move{w W W':World}{T bp pa pl:Nat}{a l a' l':Int}{Ac:Option Addr}{nc cc:Nat}{f:Nat->Int}{Aw:Option Addr}{ws:List Int}{kind n r:Int}{Bk:Option Addr}{i cb:Nat}{fo:Fo}(H:PkH w pa pl Ac nc)(HT:PkT w T bp Aw ws.length)(h:PkB w W T bp pa pl a l Ac nc cc f Aw ws kind n r Bk i cb fo)(ho:Only2 pa pl W W')(ha:IntBox W' pa a')(hl:IntBox W' pl l'):PkB w W' T bp pa pl a' l' Ac nc cc f Aw ws kind n r Bk i cb fo:=by
 have h1:=H.lta
 have h2:=H.ltl
 have h3:=HT.lo
 have h4:=HT.hi
 have h5:=h.sz
 have hbl:∀k,k<W.heap.size->k≠pa->k≠pl->W'.heap[k]?=W.heap[k]?:=ho.block
 refine⟨h.A.move H ho.size ho.os ho.tape ho.output (λk hk ka kl=>hbl k (by omega) ka kl) ha hl,by have:=ho.size;omega,h.wt.same λh0 b o e=>?_,⟨h.pb.1.same (hbl _ (by omega) (by omega) (by omega)),h.pb.2.same (hbl _ (by omega) (by omega) (by omega))⟩,h.row.keeps (ho.keeps (by omega) (by omega)),h.len⟩
 have:=HT.wt h0 b o e
 exact hbl b (by omega) (by omega) (by omega)
theorem PkB.below{w W W':World}{T bp pa pl:Nat}{a l:Int}{Ac:Option Addr}{nc cc:Nat}{f:Nat->Int}{Aw:Option Addr}{ws:List Int}{kind n r:Int}{Bk:Option Addr}{i cb:Nat}{fo:Fo}(H:PkH w pa pl Ac nc)(HT:PkT w T bp Aw ws.length)(h:PkB w W T bp pa pl a l Ac nc cc f Aw ws kind n r Bk i cb fo)(hb:Below W.heap.size W W'):PkB w W' T bp pa pl a l Ac nc cc f Aw ws kind n r Bk i cb fo:=
 h.move H HT (Only2.of_below hb) (h.A.ba.same (hb.block _ h.A.ba.lt)) (h.A.bl.same (hb.block _ h.A.bl.lt))
theorem PkB.more{w W W':World}{T bp pa pl:Nat}{a l:Int}{Ac:Option Addr}{nc cc:Nat}{f:Nat->Int}{Aw:Option Addr}{ws:List Int}{kind n r:Int}{Bk:Option Addr}{i cb:Nat}{fo:Fo}(H:PkH w pa pl Ac nc)(HT:PkT w T bp Aw ws.length)(h:PkB w W T bp pa pl a l Ac nc cc f Aw ws kind n r Bk i cb fo){xs:List Value}{k' n' r':Int}{q':Fo}{B':Option Addr}{c' g cap:Nat}(hRK:RowK T (Value.slice Bk i cb).ownBlock W fo xs)(hq:KY T (Value.slice Bk i cb).ownBlock W B' q')(hO:W'.ownsRow T 26 4 (.slice (some ⟨g,0,none⟩) (i+1) cap) (i+1) (xs++[.int .i64 k',.int .i64 n',.int .i64 r',.slice B' q'.len c']))(hG:W.grownBy W' (Value.slice Bk i cb).ownBlock)(hL:(Value.slice Bk i cb).ownBlock=some g\/g=W.heap.size):
  PkB w (W'.setCell ⟨bp,3,none⟩ (.slice (some ⟨g,0,none⟩) (i+1) cap)) T bp pa pl a l Ac nc cc f Aw ws kind n r (some ⟨g,0,none⟩) (i+1) cap (fo.snoc k' n' r' q'):=by
 have h1:=H.lta
 have h2:=H.ltl
 have h3:=HT.lo
 have h4:=HT.hi
 have h5:=h.sz
 have hlt:=h.row.lt
 have hbl:∀k,k<T->W'.heap[k]?=W.heap[k]?:=λk hk=>hG.block k (by omega) (λe=>by have:=hlt k e.symm;omega)
 have hset:∀k,k≠bp->(W'.setCell ⟨bp,3,none⟩ (.slice (some ⟨g,0,none⟩) (i+1) cap)).heap[k]?=W'.heap[k]?:=λk hk=>heap_set _ hk
 have hsz:(W'.setCell ⟨bp,3,none⟩ (.slice (some ⟨g,0,none⟩) (i+1) cap)).heap.size=W'.heap.size:=by simp[World.setCell]
 have hgs:=hG.size
 obtain rfl:=h.len
 refine⟨h.A.move H (by omega) hG.os hG.tape hG.output (λk hk ka kl=>(hset k (by omega)).trans (hbl k (by omega))) ((h.A.ba.same (hbl _ (by omega))).same (hset _ (by omega))) ((h.A.bl.same (hbl _ (by omega))).same (hset _ (by omega))),by omega,(h.wt.same λh0 b o e=>hbl b (HT.wt h0 b o e).2.1).same λh0 b o e=>hset b (HT.wt h0 b o e).2.2,
  ⟨PlBox.kid (h.pb.1.same (hbl _ h4)) _ _ _,(h.pb.2.same (hbl _ h4)).set _ _⟩,?_,snoc_len _ _ _ _ _⟩
 exact(RowP.snoc hRK hq hO hG hL).set _ h4
def PickC19(n:Nat)(blue:Bool):Prop:=∀(w:World) (Ac:Option Addr) (nc cc:Nat) (f:Nat->Int) (pa pl:Nat) (a l:Int),IntsAt w Ac nc f->nc<=1125899906842624->IntBox w pa a->IntBox w pl l->PkH w pa pl Ac nc->
 0<=a->a+capN blue n<=536870912->-536870912<=l-capN blue n->l<=536870912->
 Calls Try.prog 56 #[.int .i64 n,.slice Ac nc cc,.pointer (some ⟨pa,0,none⟩),.bool blue,.pointer (some ⟨pl,0,none⟩)] w λz w'=>∃(kind r:Int) (q:Fo) (Bk:Option Addr) (ck:Nat) (a' l':Int),z=.returned (plV kind n r Bk q.len ck)/\1+q.count<=capN blue n/\
  KY w.heap.size none w' Bk q/\Only2 pa pl w w'/\IntBox w' pa a'/\IntBox w' pl l'/\a<=a'/\a'<=a+(1+q.count)/\l'<=l/\l-(1+q.count)<=l'
theorem PkA.start{w:World}{pa pl:Nat}{a l:Int}{Ac:Option Addr}{nc cc:Nat}{f:Nat->Int}(H:PkH w pa pl Ac nc)(hI:IntsAt w Ac nc f)(ha:IntBox w pa a)(hl:IntBox w pl l)(t1 t2 t3:TypeId):
  PkA w ((((w.alloc (.cells #[.slice Ac nc cc] t1)).alloc (.cells #[.pointer (some ⟨pa,0,none⟩)] t2)).alloc (.cells #[.int .i64 0,.int .i64 0,.int .i64 0,.slice none 0 0] t3)).setCell ⟨pl,0,none⟩ (.int .i64 (l-1))) pa pl a (l-1) Ac nc cc f:=by
 have h1:=H.lta
 have h2:=H.ltl
 have h3:=H.ne
 obtain⟨W,hW⟩:∃W,W=((w.alloc (.cells #[.slice Ac nc cc] t1)).alloc (.cells #[.pointer (some ⟨pa,0,none⟩)] t2)).alloc (.cells #[.int .i64 0,.int .i64 0,.int .i64 0,.slice none 0 0] t3):=⟨_,rfl⟩
 have hb:Below w.heap.size w W:=by rw[hW];exact(((Below.refl _ w).alloc (Nat.le_refl _) _).alloc (by simp) _).alloc (by simp;omega) _
 have hs:W.heap.size=w.heap.size+3:=by rw[hW];simp
 have c6:W.cell? ⟨w.heap.size,0,none⟩=some (.slice Ac nc cc):=by rw[hW];go_simp
 have c7:W.cell? ⟨w.heap.size+1,0,none⟩=some (.pointer (some ⟨pa,0,none⟩)):=by rw[hW];go_simp
 have rb:PlBox W (w.heap.size+2) 0 0 0 none 0 0/\PlFree W (w.heap.size+2):=by
  rw[hW]
  have e1:=PlBox.new ((w.alloc (.cells #[.slice Ac nc cc] t1)).alloc (.cells #[.pointer (some ⟨pa,0,none⟩)] t2)) 0 0 0 none 0 0 t3
  have e2:=PlFree.new ((w.alloc (.cells #[.slice Ac nc cc] t1)).alloc (.cells #[.pointer (some ⟨pa,0,none⟩)] t2)) (.int .i64 0) (.int .i64 0) (.int .i64 0) (.slice none 0 0) t3
  simp only[World.size_alloc] at e1 e2
  exact⟨e1,e2⟩
 rw[<-hW]
 clear hW
 have hset:∀k,k≠pl->(W.setCell ⟨pl,0,none⟩ (.int .i64 (l-1))).heap[k]?=W.heap[k]?:=λk hk=>heap_set _ hk
 have hsz:(W.setCell ⟨pl,0,none⟩ (.int .i64 (l-1))).heap.size=W.heap.size:=by simp[World.setCell]
 refine⟨by omega,⟨hb.os,hb.tape,hb.output,by omega,λk hk ka kl=>(hset k kl).trans (hb.block k hk)⟩,cell_same c6 (hset _ (by omega)),cell_same c7 (hset _ (by omega)),⟨rb.1.same (hset _ (by omega)),rb.2.same (hset _ (by omega))⟩,(ha.same (hb.block _ h1)).same (hset _ h3),(hl.same (hb.block _ h2)).set _,(hI.keep hb).same λh0 b o e=>hset b (H.ac h0 b o e).2.2⟩
theorem OnlyB.keeps{b base:Nat}{w w':World}(h:OnlyB b w w')(hb:b<base):Keeps base w w':=⟨h.size,λk hk hs=>h.block k hs (by omega)⟩
theorem PkA.only{w W W':World}{pa pl:Nat}{a l a':Int}{Ac:Option Addr}{nc cc:Nat}{f:Nat->Int}(H:PkH w pa pl Ac nc)(h:PkA w W pa pl a l Ac nc cc f)(ho:OnlyB pa W W')(ha:IntBox W' pa a'):PkA w W' pa pl a' l Ac nc cc f:=
 h.move H ho.size ho.os ho.tape ho.output (λk hk ka _=>ho.block k (by have:=h.sz;omega) ka) ha (h.bl.same (ho.block _ (by have:=h.bl.lt;omega) (λe=>H.ne e.symm)))
theorem PkA.app{w W W':World}{pa pl n:Nat}{blue:Bool}{a l:Int}{Ac:Option Addr}{nc cc:Nat}{f:Nat->Int}{v:Value}{cs:List (Int×Int)}{o:Obj}(H:PkH w pa pl Ac nc)(h:PkA w W pa pl a l Ac nc cc f)(hr:AllRow (w.heap.size+3) n blue W v cs)(hG:(W.alloc o).grownBy W' v.ownBlock):PkA w W' pa pl a l Ac nc cc f:=
 (h.below H ((Below.refl _ W).alloc (Nat.le_refl _) o) h.sz).grown H hG (λk e=>(World.ownsRow.lt hr.1 k e).1)
theorem PkA.fin{w W:World}{pa pl:Nat}{a l:Int}{Ac:Option Addr}{nc cc:Nat}{f:Nat->Int}(H:PkH w pa pl Ac nc)(h:PkA w W pa pl a l Ac nc cc f)(k n r:Int)(A:Option Addr)(m c:Nat):
  PlBox ((((W.setCell ⟨w.heap.size+2,0,none⟩ (.int .i64 k)).setCell ⟨w.heap.size+2,1,none⟩ (.int .i64 n)).setCell ⟨w.heap.size+2,2,none⟩ (.int .i64 r)).setCell ⟨w.heap.size+2,3,none⟩ (.slice A m c)) (w.heap.size+2) k n r A m c/\
  Only2 pa pl w ((((W.setCell ⟨w.heap.size+2,0,none⟩ (.int .i64 k)).setCell ⟨w.heap.size+2,1,none⟩ (.int .i64 n)).setCell ⟨w.heap.size+2,2,none⟩ (.int .i64 r)).setCell ⟨w.heap.size+2,3,none⟩ (.slice A m c))/\
  IntBox ((((W.setCell ⟨w.heap.size+2,0,none⟩ (.int .i64 k)).setCell ⟨w.heap.size+2,1,none⟩ (.int .i64 n)).setCell ⟨w.heap.size+2,2,none⟩ (.int .i64 r)).setCell ⟨w.heap.size+2,3,none⟩ (.slice A m c)) pa a/\
  IntBox ((((W.setCell ⟨w.heap.size+2,0,none⟩ (.int .i64 k)).setCell ⟨w.heap.size+2,1,none⟩ (.int .i64 n)).setCell ⟨w.heap.size+2,2,none⟩ (.int .i64 r)).setCell ⟨w.heap.size+2,3,none⟩ (.slice A m c)) pl l:=by
 have h1:=H.lta
 have h2:=H.ltl
 have e:∀k',k'≠w.heap.size+2->((((W.setCell ⟨w.heap.size+2,0,none⟩ (.int .i64 k)).setCell ⟨w.heap.size+2,1,none⟩ (.int .i64 n)).setCell ⟨w.heap.size+2,2,none⟩ (.int .i64 r)).setCell ⟨w.heap.size+2,3,none⟩ (.slice A m c)).heap[k']?=W.heap[k']?:=λk' hk=>
  (heap_set _ hk).trans ((heap_set _ hk).trans ((heap_set _ hk).trans (heap_set _ hk)))
 have hz:((((W.setCell ⟨w.heap.size+2,0,none⟩ (.int .i64 k)).setCell ⟨w.heap.size+2,1,none⟩ (.int .i64 n)).setCell ⟨w.heap.size+2,2,none⟩ (.int .i64 r)).setCell ⟨w.heap.size+2,3,none⟩ (.slice A m c)).heap.size=W.heap.size:=by simp[World.setCell]
 refine⟨h.rb.1.put k n r A m c,⟨h.o2.os,h.o2.tape,h.o2.output,by have:=h.o2.size;omega,λk' hk ka kl=>(e k' (by omega)).trans (h.o2.block k' hk ka kl)⟩,h.ba.same (e _ (by omega)),h.bl.same (e _ (by omega))⟩
theorem cells_eight(w:World)(a b c d a' b' c' d':Value)(t:TypeId)(n:Nat)(hn:n=w.heap.size)(j:Nat)(u:Value)(h:[a,b,c,d,a',b',c',d'][j]?=some u):(w.alloc (.cells #[a,b,c,d,a',b',c',d'] t)).cell? ⟨n,j,none⟩=some u:=by
 subst hn
 match j,h with
 |0,h=>injection h with h;subst h;go_simp
 |1,h=>injection h with h;subst h;go_simp
 |2,h=>injection h with h;subst h;go_simp
 |3,h=>injection h with h;subst h;go_simp
 |4,h=>injection h with h;subst h;go_simp
 |5,h=>injection h with h;subst h;go_simp
 |6,h=>injection h with h;subst h;go_simp
 |7,h=>injection h with h;subst h;go_simp
 |_+8,h=>simp at h
theorem one_eight(k n r k' n' r':Int)(u:Value)(h:u∈[Value.int .i64 k,.int .i64 n,.int .i64 r,.slice none 0 0,.int .i64 k',.int .i64 n',.int .i64 r',.slice none 0 0]):u.oneCell'=true:=by
 simp only[List.mem_cons,List.not_mem_nil,or_false] at h
 rcases h with rfl|rfl|rfl|rfl|rfl|rfl|rfl|rfl<;>rfl
theorem pick_step19(n:Nat)(blue:Bool)(h1:1<=n)(hn:n<=32768)(ih:∀k r,Cand n blue k r->∀x∈wantsF k n r,∃m:Nat,x=m/\1<=m/\PickC19 m (blue||k==4)):PickC19 n blue:=by
 intro w Ac nc cc f pa pl a l hI hnc ha hl hH a0 a1 l0 l1
 have HH:=aZ hH
 have hcap:1<=capN blue n/\capN blue n<=524288:=by unfold capN;cases blue<;>simp<;>omega
 obtain⟨W1,hW1⟩:∃W1,W1=(((w.alloc (.cells #[.slice Ac nc cc] 43)).alloc (.cells #[.pointer (some ⟨pa,0,none⟩)] 93)).alloc (.cells #[.int .i64 0,.int .i64 0,.int .i64 0,.slice none 0 0] 26)).setCell ⟨pl,0,none⟩ (.int .i64 (l-1)):=⟨_,rfl⟩
 have hP:=PkA.start (cc:=cc) hH hI ha hl 43 93 26
 rw[<-hW1] at hP
 have HP:=aZ hP
 have HIH:=aZ ih
 obtain⟨hpl,hplf⟩:=hl
 have hplt:=hH.ltl
 have hb3:Below w.heap.size w (((w.alloc (.cells #[.slice Ac nc cc] 43)).alloc (.cells #[.pointer (some ⟨pa,0,none⟩)] 93)).alloc (.cells #[.int .i64 0,.int .i64 0,.int .i64 0,.slice none 0 0] 26)):=(((Below.refl _ w).alloc (Nat.le_refl _) _).alloc (by simp) _).alloc (by simp;omega) _
 have hpl3:=keep_cell hb3 hpl
 have hplf3:=keep_free hb3 hplt hplf
 clear hI ha hH ih hP hb3 hpl hplf hplt
 go_enter Try.func56,Try.ntmps56
 go_upto_region 4 with fail
 rw[<-hW1]
 clear hW1 hpl3 hplf3
 have hcap2:=hcap
 have HBD:Hid (0<=a/\a+capN blue n<=536870912/\-536870912<=l-capN blue n/\l<=536870912):=aZ ⟨a0,a1,l0,l1⟩
 clear a0 a1 l0 l1 hcap2
 go_cut [24] from 24 to 24 (λs24 wx=>s24=.bool (decide ((n:Int)<=32))/\W1=wx)
 case first=>
  go_wp2_with fail
  go_meet
  exact⟨rfl,rfl⟩
 case rest=>
 obtain⟨rfl,rfl⟩:=hcut
 apply_assumption
 go_cut [12,24] from 25 to 29 (λs12 s24 wx=>∃cs,cs.length<=1/\Hid (AllRow (w.heap.size+3) n blue wx s12 cs)/\Hid (PkA w wx pa pl a (l-1) Ac nc cc f))
 case first=>
  have HR:Hid (AllRow (w.heap.size+3) n blue W1 (.slice none 0 0) []):=aZ AllRow.new
  by_cases h32:n<=32
  ·have h32i:(n:Int)<=32:=by omega
   have hsz0:=HP.out.sz
   have hle0:([]:List (Int×Int)).length+1<=1099511627776:=by(try simp only[List.length_nil]);omega
   have HOW:=aZ HR.out.1
   have bs:=bs_plan
   have bs2:=bs_plans2
   go_wp2_with (at_builtin;go_loud (refine wpList_appM rfl _ _ 24 26 rfl 4 48 (.agg #[.int .i64 0,.int .i64 0,.int .i64 0,.slice none 0 0]) Try.underlying24 info_plan rfl (by omega) (by omega) (w.heap.size+3) _ ([]:List (Int×Int)).length 1 (by omega) (candV n ([]:List (Int×Int))) rfl (World.ownsRow.alloc HOW.out _) _ _ [Value.int .i64 0,.int .i64 n,.int .i64 0,.slice none 0 0] rfl rfl (cells_four _ _ _ _ _ _ _ rfl) (one_four _ _ _ _ _ _) hle0 (by simp;omega) ?_);intro g2 cap2 w5 hO2 hG2 hL2)
   have HRN:=aZ (AllRow.more (ds:=[((0:Int),(0:Int))]) HR.out hO2.out (by
    intro c hc
    simp only[List.mem_cons,List.not_mem_nil,or_false] at hc
    subst hc;exact .inl ⟨rfl,rfl⟩))
   have HKN:=aZ (PkA.app HH.out HP.out HR.out hG2.out)
   clear hO2 hG2 hL2 HOW bs bs2
   go_meet
   exact⟨_,by simp,HRN,HKN⟩
  ·have h32i:¬(n:Int)<=32:=by omega
   go_wp2_with fail
   go_meet
   exact⟨[],by simp,HR,HP⟩
 case rest=>
 obtain⟨cs1,hl1,HR1,HP1⟩:=hcut
 obtain⟨A1,c1,rfl⟩:=HR1.out.form
 clear HP
 apply_assumption
 refine wp_seq_k ?_
 intro K1 hK1
 go_cut [12] from 30 to 43 (λs12 wx=>∃cs,cs.length<=2/\Hid (AllRow (w.heap.size+3) n blue wx s12 cs)/\Hid (PkA w wx pa pl a (l-1) Ac nc cc f))
 case first=>
  clear hK1 K1
  by_cases h4:n<4
  ·have h4i:¬(4:Int)<=(n:Int):=by omega
   go_wp2_with fail
   go_meet
   exact⟨cs1,by omega,HR1,HP1⟩
  ·have h4i:(4:Int)<=(n:Int):=by omega
   obtain⟨x,hx⟩:∃x,bits .and .i64 (n:Int) ((n:Int)-1)=x:=⟨_,rfl⟩
   by_cases hx0:x=0
   ·subst hx0
    have hsz0:=HP1.out.sz
    have hle0:cs1.length+1<=1099511627776:=by(try simp only[List.length_nil]);omega
    have HOW:=aZ HR1.out.1
    have bs:=bs_plan
    have bs2:=bs_plans2
    go_wp2_with (at_builtin;go_loud (refine wpList_appM rfl _ _ 24 26 rfl 4 48 (.agg #[.int .i64 0,.int .i64 0,.int .i64 0,.slice none 0 0]) Try.underlying24 info_plan rfl (by omega) (by omega) (w.heap.size+3) _ cs1.length 1 (by omega) (candV n cs1) rfl (World.ownsRow.alloc HOW.out _) _ _ [Value.int .i64 2,.int .i64 n,.int .i64 0,.slice none 0 0] rfl rfl (cells_four _ _ _ _ _ _ _ rfl) (one_four _ _ _ _ _ _) hle0 (by simp;omega) ?_);intro g2 cap2 w5 hO2 hG2 hL2)
    have HRN:=aZ (AllRow.more (ds:=[((2:Int),(0:Int))]) HR1.out hO2.out (by
     intro c hc
     simp only[List.mem_cons,List.not_mem_nil,or_false] at hc
     subst hc;exact .inr (.inl ⟨rfl,rfl⟩)))
    have HKN:=aZ (PkA.app HH.out HP1.out HR1.out hG2.out)
    clear hO2 hG2 hL2 HOW bs bs2
    go_meet
    exact⟨_,by simp;omega,HRN,HKN⟩
   ·have hxb:(x==0)=false:=by simpa using hx0
    go_wp2_with fail
    go_meet
    exact⟨cs1,by omega,HR1,HP1⟩
 case rest=>
 clear HP1 HR1
 obtain⟨cs2,hl2,HR2,HP2⟩:=hcut
 obtain⟨A2,c2,rfl⟩:=HR2.out.form
 apply hK1
 clear hK1 K1
 refine wp_seq_k ?_
 intro K2 hK2
 go_cut [12,13] from 44 to 80 (λs12 s13 wx=>∃cs,cs.length<=80000/\Hid (AllRow (w.heap.size+3) n blue wx s12 cs)/\Hid (PkA w wx pa pl a (l-1) Ac nc cc f))
 case first=>
  clear hK2 K2
  obtain⟨hpc,hpf⟩:=HP2.out.bl
  by_cases h8:l-1<=8
  ·have h8b:¬8<l-1:=by omega
   go_wp2_with fail
   go_meet
   exact⟨cs2,by omega,HR2,HP2⟩
  ·have h8b:8<l-1:=by omega
   go_wp2_with fail
   clear hpc hpf
   go_loopw [12,13] (λv12 v13 wr=>∃(r:Nat) (cs:List (Int×Int)),v13=.int .i64 r/\2<=r/\r<=n+2/\cs.length<=2+2*r/\Hid (AllRow (w.heap.size+3) n blue wr v12 cs)/\Hid (PkA w wr pa pl a (l-1) Ac nc cc f)) (λ_ v13 _=>n+3-(intOf v13).toNat)
   case atStart=>exact⟨2,cs2,rfl,by omega,by omega,by omega,HR2,HP2⟩
   case round=>
    clear HR2 HP2 hl2 hl1
    obtain⟨r,cs,rfl,hr2,hrn,hcl,HR,HP⟩:=hrel
    obtain⟨Ar,cr,rfl⟩:=HR.out.form
    have hmul:(r:Int)*(r:Int)=((r*r:Nat):Int):=(Int.natCast_mul r r).symm
    have hge:r<=r*r:=Nat.le_mul_of_pos_left r (by omega)
    have hdd:r*r<=32770*32770:=Nat.mul_le_mul (by omega) (by omega)
    have HDV:Hid (∀d,n/r=d->n%r=0->r*r<=n->2<=d/\r*d=n):=aZ (λd hd hm hle=>by
     have h1:=Nat.div_add_mod n r
     rw[hd,hm,Nat.add_zero] at h1
     refine⟨?_,h1⟩
     have h2:r<=n/r:=(Nat.le_div_iff_mul_le (by omega)).2 hle
     omega)
    have hr0:¬(r:Int)=0:=by omega
    have hr0b:((r:Int)==0)=false:=by rw[beq_eq_false_iff_ne];omega
    obtain⟨D,hD⟩:∃D,r*r=D:=⟨_,rfl⟩
    rw[hD] at hmul hge hdd HDV
    clear hD
    by_cases hle:D<=n
    ·have hlei:(D:Int)<=(n:Int):=by omega
     have ht:(n:Int).tmod r=((n%r:Nat):Int):=by rw[Int.tmod_eq_emod_of_nonneg (by omega)];omega
     have hq:(n:Int).tdiv r=((n/r:Nat):Int):=by rw[Int.tdiv_eq_ediv_of_nonneg (by omega)];omega
     have hdn:n/r<=n:=Nat.div_le_self _ _
     obtain⟨x,hx⟩:∃x,n%r=x:=⟨_,rfl⟩
     have hxl:x<r:=by rw[<-hx];exact Nat.mod_lt _ (by omega)
     obtain⟨d,hd⟩:∃d,n/r=d:=⟨_,rfl⟩
     have HC:=aZ (λh0:x=0=>HDV.out d hd (hx.trans h0) hle)
     rw[hx] at ht
     rw[hd] at hq hdn
     clear hx hd HDV
     by_cases h0:x=0
     ·subst h0
      have HC2:=aZ (HC.out rfl)
      clear HC
      have hsz0:=HP.out.sz
      have hle0:cs.length+2<=1099511627776:=by(try simp only[List.length_nil]);omega
      have HOW:=aZ HR.out.1
      have bs:=bs_plan
      have bs2:=bs_plans2
      go_wp2_with (at_builtin;go_loud (refine wpList_appM rfl _ _ 24 26 rfl 4 48 (.agg #[.int .i64 0,.int .i64 0,.int .i64 0,.slice none 0 0]) Try.underlying24 info_plan rfl (by omega) (by omega) (w.heap.size+3) _ cs.length 2 (by omega) (candV n cs) rfl (World.ownsRow.alloc HOW.out _) _ _ [Value.int .i64 1,.int .i64 n,.int .i64 r,.slice none 0 0,.int .i64 1,.int .i64 n,.int .i64 d,.slice none 0 0] rfl rfl (cells_eight _ _ _ _ _ _ _ _ _ _ _ rfl) (one_eight _ _ _ _ _ _) hle0 (by simp;omega) ?_);intro g2 cap2 w5 hO2 hG2 hL2)
      have HRN:=aZ (AllRow.more (ds:=[((1:Int),(r:Int)),((1:Int),(d:Int))]) HR.out hO2.out (by
       intro c hc
       simp only[List.mem_cons,List.not_mem_nil,or_false] at hc
       rcases hc with rfl|rfl
       ·exact .inr (.inr (.inl ⟨rfl,r,d,rfl,hr2,HC2.out.1,HC2.out.2⟩))
       ·exact .inr (.inr (.inl ⟨rfl,d,r,rfl,HC2.out.1,hr2,by rw[Nat.mul_comm];exact HC2.out.2⟩))))
      have HKN:=aZ (PkA.app HH.out HP.out HR.out hG2.out)
      clear hO2 hG2 hL2 HOW bs bs2
      exact⟨⟨r+1,_,by go_num,by omega,by omega,by simp;omega,HRN,HKN⟩,by simp[intOf];omega⟩
     ·have h0':¬(x:Int)=0:=by omega
      have h0b:((x:Int)==0)=false:=by rw[beq_eq_false_iff_ne];omega
      go_wp2_with fail
      exact⟨⟨r+1,cs,by go_num,by omega,by omega,by omega,HR,HP⟩,by simp[intOf];omega⟩
    ·have hlei:¬(D:Int)<=(n:Int):=by omega
     clear HDV
     have hpr:=isPrime19 n (by omega)
     by_cases h3:n<3
     ·have h3i:¬(3:Int)<=(n:Int):=by omega
      go_wp2_with fail
      go_meet
      exact⟨cs,by omega,HR,HP⟩
     ·have h3i:(3:Int)<=(n:Int):=by omega
      have HPR:=aZ hpr
      clear hpr
      go_wp2_with fail
      refine(HPR.out _).mono ?_
      rintro z w' ⟨⟨b,rfl⟩,rfl⟩
      clear HPR
      rcases b with _|_
      ·go_wp2_with fail
       go_meet
       exact⟨cs,by omega,HR,HP⟩
      ·skip
       have hsz0:=HP.out.sz
       have hle0:cs.length+1<=1099511627776:=by(try simp only[List.length_nil]);omega
       have HOW:=aZ HR.out.1
       have bs:=bs_plan
       have bs2:=bs_plans2
       go_wp2_with (at_builtin;go_loud (refine wpList_appM rfl _ _ 24 26 rfl 4 48 (.agg #[.int .i64 0,.int .i64 0,.int .i64 0,.slice none 0 0]) Try.underlying24 info_plan rfl (by omega) (by omega) (w.heap.size+3) _ cs.length 1 (by omega) (candV n cs) rfl (World.ownsRow.alloc HOW.out _) _ _ [Value.int .i64 3,.int .i64 n,.int .i64 0,.slice none 0 0] rfl rfl (cells_four _ _ _ _ _ _ _ rfl) (one_four _ _ _ _ _ _) hle0 (by simp;omega) ?_);intro g2 cap2 w5 hO2 hG2 hL2)
       have HRN:=aZ (AllRow.more (ds:=[((3:Int),(0:Int))]) HR.out hO2.out (by
        intro c hc
        simp only[List.mem_cons,List.not_mem_nil,or_false] at hc
        subst hc;exact .inr (.inr (.inr (.inl ⟨rfl,rfl,by omega⟩)))))
       have HKN:=aZ (PkA.app HH.out HP.out HR.out hG2.out)
       clear hO2 hG2 hL2 HOW bs bs2
       go_meet
       exact⟨_,by simp;omega,HRN,HKN⟩
 case rest=>
 clear HP2 HR2 hl2 hl1
 obtain⟨cs3,hl3,HR3,HP3⟩:=hcut
 obtain⟨A3,c3,rfl⟩:=HR3.out.form
 apply hK2
 clear hK2 K2
 refine wp_seq_k ?_
 intro K3 hK3
 go_cut [12] from 81 to 95 (λs12 wx=>∃cs,cs.length<=80001/\Hid (AllRow (w.heap.size+3) n blue wx s12 cs)/\Hid (PkA w wx pa pl a (l-1) Ac nc cc f))
 case first=>
  clear hK3 K3 HIH
  rcases blue with _|_
  ·by_cases h2:n<2
   ·have h2i:¬(2:Int)<=(n:Int):=by omega
    go_wp2_with fail
    go_meet
    exact⟨cs3,by omega,HR3,HP3⟩
   ·have h2i:(2:Int)<=(n:Int):=by omega
    by_cases h6:n<=16384
    ·have h6i:(n:Int)<=16384:=by omega
     have hsz0:=HP3.out.sz
     have hle0:cs3.length+1<=1099511627776:=by(try simp only[List.length_nil]);omega
     have HOW:=aZ HR3.out.1
     have bs:=bs_plan
     have bs2:=bs_plans2
     go_wp2_with (at_builtin;go_loud (refine wpList_appM rfl _ _ 24 26 rfl 4 48 (.agg #[.int .i64 0,.int .i64 0,.int .i64 0,.slice none 0 0]) Try.underlying24 info_plan rfl (by omega) (by omega) (w.heap.size+3) _ cs3.length 1 (by omega) (candV n cs3) rfl (World.ownsRow.alloc HOW.out _) _ _ [Value.int .i64 4,.int .i64 n,.int .i64 0,.slice none 0 0] rfl rfl (cells_four _ _ _ _ _ _ _ rfl) (one_four _ _ _ _ _ _) hle0 (by simp;omega) ?_);intro g2 cap2 w5 hO2 hG2 hL2)
     have HRN:=aZ (AllRow.more (ds:=[((4:Int),(0:Int))]) HR3.out hO2.out (by
      intro c hc
      simp only[List.mem_cons,List.not_mem_nil,or_false] at hc
      subst hc;exact .inr (.inr (.inr (.inr ⟨rfl,rfl,rfl,by omega,by omega⟩)))))
     have HKN:=aZ (PkA.app HH.out HP3.out HR3.out hG2.out)
     clear hO2 hG2 hL2 HOW bs bs2
     go_meet
     exact⟨_,by simp;omega,HRN,HKN⟩
    ·have h6i:¬(n:Int)<=16384:=by omega
     go_wp2_with fail
     go_meet
     exact⟨cs3,by omega,HR3,HP3⟩
  ·go_wp2_with fail
   go_meet
   exact⟨cs3,by omega,HR3,HP3⟩
 case rest=>
 clear HP3 HR3 hl3
 obtain⟨cs,hlc,HR,HP⟩:=hcut
 obtain⟨Ar,cr,rfl⟩:=HR.out.form
 apply hK3
 clear hK3 K3
 have HHC:=HH
 by_cases hcs:cs.length=0
 ·have hlz:((cs.length:Nat):Int)=0:=by omega
  rw[hcs]
  obtain⟨⟨q0,q1,q2,q3⟩,hfr⟩:=HP.out.rb
  have hf0:=hfr 0 (by omega)
  have hf1:=hfr 1 (by omega)
  have hf2:=hfr 2 (by omega)
  have hf3:=hfr 3 (by omega)
  have HF:=aZ (HP.out.fin HH.out 0 n 0 none 0 0)
  go_wp2
  obtain⟨⟨s0,s1,s2,s3⟩,hf⟩:=HF.out
  refine bodyPost_ret (v:=plV 0 n 0 none 0 0) (by simp[results,Try.results56,go_sem,s0,s1,s2,s3]) rfl ⟨0,0,.nil,none,0,a,l-1,rfl,by show 1+0<=_;omega,λ_ _=>trivial,hf.1,hf.2.1,hf.2.2,by omega,by show a<=a+(1+((0:Nat):Int));omega,by omega,by show l-(1+((0:Nat):Int))<=l-1;omega⟩
 ·have hlz:¬((cs.length:Nat):Int)=0:=by omega
  have hlzb:(((cs.length:Nat):Int)==0)=false:=by rw[beq_eq_false_iff_ne];omega
  have HNX:=aZ (next19 cs.length (w.heap.size+1) w.heap.size pa a Ac nc cc f wc (by omega) (by omega) HP.out.c7 HP.out.c6 HP.out.ba (by have:=HBD.out.1;omega) (by have:=HBD.out.2.1;omega) HP.out.ch (by have:=HH.out.lta;omega) (by have:=HH.out.lta;omega) (λh b o e=>(HH.out.ac h b o e).2.1) (by omega))
  go_wp2_with fail
  refine HNX.out.mono ?_
  rintro z w2 ⟨⟨i0,rfl,hi0⟩,hba2,hob⟩
  have HP2:=aZ (HP.out.only HH.out hob hba2)
  have HR2:=aZ (HR.out.keeps (hob.keeps (by have:=HH.out.lta;omega)))
  clear hob hba2 HNX HP HR
  obtain⟨g,k,r,rfl,-,hcand,c0,c1,c2,c3⟩:=HR2.out.at' hi0
  have hi0i:(i0:Int)<(cs.length:Int):=by omega
  have HCD:=aZ hcand
  clear hcand HR2
  go_upto_region 21 with fail
  obtain⟨W3,hW3⟩:∃W3,W3=w2.alloc (.cells #[.int .i64 k,.int .i64 n,.int .i64 r,.slice none 0 0] 26):=⟨_,rfl⟩
  have hb3:Below w2.heap.size w2 W3:=by rw[hW3];exact(Below.refl _ w2).alloc (Nat.le_refl _) _
  have hs3:W3.heap.size=w2.heap.size+1:=by rw[hW3];simp
  have hpb:=PlBox.new w2 k n r none 0 0 26
  have hpf:=PlFree.new w2 (.int .i64 k) (.int .i64 n) (.int .i64 r) (.slice none 0 0) 26
  rw[<-hW3] at hpb hpf|-
  have hbp0:=HP2.out.sz
  have HP3:=aZ (HP2.out.below HH.out hb3 (by omega))
  obtain⟨bp,hbp⟩:∃bp,w2.heap.size=bp:=⟨_,rfl⟩
  rw[hbp] at hpb hpf hs3 hbp0|-
  have HPB:=aZ (And.intro hpb hpf)
  obtain⟨p0,p1,p2,p3⟩:=hpb
  have HPR:=aZ (λw=>(planRef_all19 (.cons k n r .nil .nil)).1 (by show 0<=_;omega) w none 0 trivial)
  have HWN:=aZ (λB c w=>RWants_any k n r B 0 c w (by omega) (by omega) (λh4=>by
   rcases HCD.out with⟨h,_⟩|⟨h,_⟩|⟨h,_⟩|⟨h,_⟩|⟨_,_,_,_,h⟩<;>omega))
  clear hpf hW3 hb3 c0 c1 c2 c3 hi0i HP2
  go_wp2_with fail
  refine(HPR.out _).mono ?_
  rintro z w4 ⟨B4,c4,rfl,-,hb4⟩
  have HP4:=aZ (HP3.out.below HH.out hb4 (by omega))
  have HPB4:=aZ (And.intro (HPB.out.1.below hb4) (HPB.out.2.keep hb4 (by omega)))
  have hs4:bp+1<=w4.heap.size:=by have:=hb4.size;omega
  clear hb4 HPR p0 p1 p2 p3 HP3 HPB hs3
  go_wp2_with fail
  refine(HWN.out _ _ _).mono ?_
  rintro z w5 ⟨⟨Aw,rfl,hIw,hge⟩,hb5⟩
  have HP5:=aZ (HP4.out.below HH.out hb5 (by omega))
  have HPB5:=aZ (And.intro (HPB4.out.1.below hb5) (HPB4.out.2.keep hb5 (by omega)))
  have hs5:bp+1<=w5.heap.size:=by have:=hb5.size;omega
  have HWS:=aZ (HIH.out k r HCD.out)
  have hcp:=cand_cap HCD.out h1
  obtain⟨ws,hws⟩:∃ws,wantsF k n r=ws:=⟨_,rfl⟩
  rw[hws] at hIw HWS hcp|-
  have hwl:ws.length<=2:=by rw[<-hws];unfold wantsF;(repeat' split)<;>simp
  have HT:Hid (PkT w w5.heap.size bp Aw ws.length):=aZ ⟨by omega,by omega,λh0 b o e=>by
   have h6:=hge b o e
   have h7:=hIw.block h0 b o e
   omega⟩
  have HB0:Hid (PkB w w5 w5.heap.size bp pa pl (a+1) (l-1) Ac nc cc f Aw ws k n r none 0 0 .nil):=aZ ⟨HP5.out,Nat.le_refl _,hIw,HPB5.out,RowP.nil _ _ _,rfl⟩
  clear hb5 hIw hge HP4 HPB4 HP5 HPB5 HWN HIH hs4 hws HCD hi0
  obtain⟨T,hT⟩:∃T,w5.heap.size=T:=⟨_,rfl⟩
  rw[hT] at HT HB0
  have hT5:bp+1<=T:=by omega
  have bs:=bs_plan
  clear hT hs5
  go_wp2_with fail
  go_loopw [16,112] (λv16 v112 wr=>∃(i:Nat) (B':Option Addr) (cb:Nat) (fo:Fo) (a2 l2:Int),i<=ws.length/\v112=.int .i64 i/\Hid (PkB w wr T bp pa pl a2 l2 Ac nc cc f Aw ws k n r B' i cb fo)/\a+1<=a2/\a2<=a+(1+(fo.count:Int))/\l2<=l-1/\l-(1+(fo.count:Int))<=l2/\1+fo.count+capL (blue||k==4) (ws.drop i)<=capN blue n) (λ_ v112 _=>ws.length-(intOf v112).toNat)
  case atStart=>exact⟨0,none,0,.nil,a+1,l-1,Nat.zero_le _,rfl,HB0,by omega,by show a+1<=a+(1+((0:Nat):Int));omega,by omega,by show l-(1+((0:Nat):Int))<=l-1;omega,by show 1+0+capL _ ws<=_;omega⟩
  case round=>
   clear HB0 hcp
   obtain⟨i,B',cb,fo,a2,l2,hi,rfl,HPB,ha2,ha3,hl2,hl3,hcc⟩:=hrel
   obtain⟨b0,b1,b2,b3⟩:=HBD.out
   by_cases hlt:i<ws.length
   ·have hlti:(i:Int)<(ws.length:Int):=by omega
    obtain⟨x,hx,hx1,hpc⟩:=HWS.out (ws.getD i 0) (by rw[List.getD_eq_getElem?_getD,List.getElem?_eq_getElem hlt];exact List.getElem_mem hlt)
    have HPC:=aZ hpc
    rw[capL_drop _ _ _ hlt,hx] at hcc
    obtain⟨bW,oW,rfl,hcw0⟩:=HPB.out.wt i hlt
    have hcw:wr.cell? ⟨bW,oW+i,none⟩=some (.int .i64 (ws.getD i 0)):=hcw0
    rw[hx] at hcw
    clear hcw0
    have HPB1:=aZ (HPB.out.below HH.out HT.out ((Below.refl _ wr).drew))
    clear hpc hx
    go_upto_region 24 with fail
    clear hcw
    rcases blue with _|_
    ·refine wp_region_T (λw'=>w'.cell? ⟨bp,3,none⟩=some (.slice B' i cb)/\w'.cell? ⟨bp,0,none⟩=some (.int .i64 k)/\w'.cell? ⟨w.heap.size,0,none⟩=some (.slice Ac nc cc)/\w'.cell? ⟨w.heap.size+1,0,none⟩=some (.pointer (some ⟨pa,0,none⟩))) 14 ⟨HPB.out.pb.1.2.2.2,HPB.out.pb.1.1,HPB.out.A.c6,HPB.out.A.c7⟩ (λhS0=>?_)
     refine Takes.intro [0,1,2,3,4,5,6] ?_
     repeat(refine Takes.go (v:=?_) hS0 ?_;try simp only[nrm,Act.put])
     refine Takes.nil ?_
     refine wpAnyS_takeG (i:=7) (v:=?_) (by kernel_rfl) rfl (λ_ _ _ h=>h) rfl hS0 (λw hSw=>by(try dsimp only at hSw);go_simp;try with_reducible rfl) ?_
     try simp only[nrm,Act.put]
     refine wpAnyS_takeG (i:=8) (v:=?_) (by kernel_rfl) rfl (λ_ _ _ h=>h) rfl hS0 (λw hSw=>by(try dsimp only at hSw);go_simp;try with_reducible rfl) ?_
     try simp only[nrm,Act.put]
     refine wpAnyS_takeG (i:=9) (v:=?_) (by kernel_rfl) rfl (λ_ _ _ h=>h) rfl hS0 (λw hSw=>by(try dsimp only at hSw);go_simp;try with_reducible rfl) ?_
     try simp only[nrm,Act.put]
     refine Takes.intro [10,11] ?_
     repeat(refine Takes.go (v:=?_) hS0 ?_;try simp only[nrm,Act.put])
     refine Takes.nil ?_
     refine wpAnyS_1 12 (λK hK=>?_)
     go_simp
     refine(HPC.out _ Ac nc cc f pa pl a2 l2 HPB1.out.A.ch hnc HPB1.out.A.ba HPB1.out.A.bl (HH.out.mono HPB1.out.A.o2.size) (by omega) (by omega) (by omega) (by omega)).mono ?_
     rintro z w3 ⟨k3,r3,q3,Bk3,ck3,a3,l3,rfl,hq3,hky,ho3,hba,hbl,ha3,ha4,hl3,hl4⟩
     have HKY:=aZ hky
     have HP3:=aZ (HPB1.out.move HH.out HT.out ho3 hba hbl)
     have HO3:=aZ ho3
     have hS1:=(⟨HP3.out.pb.1.2.2.2,HP3.out.pb.1.1,HP3.out.A.c6,HP3.out.A.c7⟩:(λw'=>w'.cell? ⟨bp,3,none⟩=some (.slice B' i cb)/\w'.cell? ⟨bp,0,none⟩=some (.int .i64 k)/\w'.cell? ⟨w.heap.size,0,none⟩=some (.slice Ac nc cc)/\w'.cell? ⟨w.heap.size+1,0,none⟩=some (.pointer (some ⟨pa,0,none⟩))) w3)
     clear hky ho3 hba hbl
     refine hK.out _ _ (λ_=>hS1) ?_
     clear hK K
     try simp only[nrm,Act.put]
     refine wpAnyS_1 13 (λK hK=>?_)
     go_simp
     obtain⟨w4,hw4⟩:∃w4,w4=w3.alloc (.cells #[.int .i64 k3,.int .i64 x,.int .i64 r3,.slice Bk3 q3.len ck3] 26):=⟨_,rfl⟩
     have hbn:Below w3.heap.size w3 w4:=by rw[hw4];exact(Below.refl _ w3).alloc (Nat.le_refl _) _
     have HNEW:Hid (∀j u,[Value.int .i64 k3,.int .i64 x,.int .i64 r3,.slice Bk3 q3.len ck3][j]?=some u->w4.cell? ⟨w3.heap.size,j,none⟩=some u):=aZ (by rw[hw4];exact cells_four _ _ _ _ _ _ _ rfl)
     rw[<-hw4]
     have HKY4:=aZ (HKY.out.below hbn)
     have HP4:=aZ (HP3.out.below HH.out HT.out hbn)
     have hS2:=(⟨HP4.out.pb.1.2.2.2,HP4.out.pb.1.1,HP4.out.A.c6,HP4.out.A.c7⟩:(λw'=>w'.cell? ⟨bp,3,none⟩=some (.slice B' i cb)/\w'.cell? ⟨bp,0,none⟩=some (.int .i64 k)/\w'.cell? ⟨w.heap.size,0,none⟩=some (.slice Ac nc cc)/\w'.cell? ⟨w.heap.size+1,0,none⟩=some (.pointer (some ⟨pa,0,none⟩))) w4)
     have HBN:=aZ hbn
     clear hbn hw4
     refine hK.out _ _ (λ_=>hS2) ?_
     clear hK K
     try simp only[nrm,Act.put]
     refine wpAnyS_fin 3 14 ?_
     simp only[nrd]
     have hs4:T<=w4.heap.size:=HP4.out.sz
     obtain⟨xs,hO,hRK⟩:=HP4.out.row
     have HRK:=aZ hRK
     have HRO:=aZ hO
     have HOL:Hid (∀e,(Value.slice B' i cb).ownBlock=some e->T<=e/\e<wr.heap.size):=aZ HPB.out.row.lt
     have HKQ:Hid (KY T (Value.slice B' i cb).ownBlock w4 Bk3 q3):=aZ ((HKY4.out.low (λe he=>(HOL.out e he).2)).mono HPB.out.sz)
     obtain rfl:=HPB.out.len
     have hi40:fo.len+1<=1099511627776:=by omega
     have HPF4:=aZ HP4.out.pb
     have hbpT:=HT.out.hi
     clear hO hRK hS2 hS1 hS0 HKY4 HKY HP3 HPB1 HPC
     go_wp2_with (at_builtin;go_loud (refine wpList_appL rfl _ _ 24 26 rfl 4 48 (.agg #[.int .i64 0,.int .i64 0,.int .i64 0,.slice none 0 0]) Try.underlying24 info_plan rfl (by omega) (by omega) T (.slice B' fo.len cb) fo.len xs rfl HRO.out _ _ [.int .i64 k3,.int .i64 x,.int .i64 r3,.slice Bk3 q3.len ck3] rfl rfl HNEW.out (one_four _ _ _ _ _ _) hi40 hs4 ?_);intro g2 cap2 w6 hO2 hG2 hL2;obtain⟨d0,d1,d2,d3⟩:=HPF4.out.1.grown hG2.out (λe=>by have:=(HOL.out _ e).1;omega);have hf6:=(HPF4.out.2.grown hG2.out (cell_lt HPF4.out.1.1) (λe=>by have:=(HOL.out _ e).1;omega)) 3 (by omega))
     have HN:=aZ (HP4.out.more HH.out HT.out HRK.out HKQ.out hO2.out hG2.out hL2.out)
     have hsc:=snoc_count fo k3 x r3 q3
     clear hO2 hG2 hL2 d0 d1 d2 d3 hf6 HRK HRO HKQ HPF4
     exact⟨⟨fo.len+1,_,_,fo.snoc k3 x r3 q3,a3,l3,by omega,by first|rfl|go_num,HN,by omega,by omega,by omega,by omega,by omega⟩,by simp[intOf];omega⟩
    ·refine wp_region_T (λw'=>w'.cell? ⟨bp,3,none⟩=some (.slice B' i cb)/\w'.cell? ⟨bp,0,none⟩=some (.int .i64 k)/\w'.cell? ⟨w.heap.size,0,none⟩=some (.slice Ac nc cc)/\w'.cell? ⟨w.heap.size+1,0,none⟩=some (.pointer (some ⟨pa,0,none⟩))) 14 ⟨HPB.out.pb.1.2.2.2,HPB.out.pb.1.1,HPB.out.A.c6,HPB.out.A.c7⟩ (λhS0=>?_)
     refine Takes.intro [0,1,2,3,4,5,6] ?_
     repeat(refine Takes.go (v:=?_) hS0 ?_;try simp only[nrm,Act.put])
     refine Takes.nil ?_
     refine wpAnyS_skipG (i:=7) (by kernel_rfl) rfl (λ_ _ _ h=>h) rfl hS0 ?_
     try simp only[nrm,Act.put]
     refine wpAnyS_skipG (i:=8) (by kernel_rfl) rfl (λ_ _ _ h=>h) rfl hS0 ?_
     try simp only[nrm,Act.put]
     refine wpAnyS_skipG (i:=9) (by kernel_rfl) rfl (λ_ _ _ h=>h) rfl hS0 ?_
     try simp only[nrm,Act.put]
     refine Takes.intro [10,11] ?_
     repeat(refine Takes.go (v:=?_) hS0 ?_;try simp only[nrm,Act.put])
     refine Takes.nil ?_
     refine wpAnyS_1 12 (λK hK=>?_)
     go_simp
     refine(HPC.out _ Ac nc cc f pa pl a2 l2 HPB1.out.A.ch hnc HPB1.out.A.ba HPB1.out.A.bl (HH.out.mono HPB1.out.A.o2.size) (by omega) (by omega) (by omega) (by omega)).mono ?_
     rintro z w3 ⟨k3,r3,q3,Bk3,ck3,a3,l3,rfl,hq3,hky,ho3,hba,hbl,ha3,ha4,hl3,hl4⟩
     have HKY:=aZ hky
     have HP3:=aZ (HPB1.out.move HH.out HT.out ho3 hba hbl)
     have HO3:=aZ ho3
     have hS1:=(⟨HP3.out.pb.1.2.2.2,HP3.out.pb.1.1,HP3.out.A.c6,HP3.out.A.c7⟩:(λw'=>w'.cell? ⟨bp,3,none⟩=some (.slice B' i cb)/\w'.cell? ⟨bp,0,none⟩=some (.int .i64 k)/\w'.cell? ⟨w.heap.size,0,none⟩=some (.slice Ac nc cc)/\w'.cell? ⟨w.heap.size+1,0,none⟩=some (.pointer (some ⟨pa,0,none⟩))) w3)
     clear hky ho3 hba hbl
     refine hK.out _ _ (λ_=>hS1) ?_
     clear hK K
     try simp only[nrm,Act.put]
     refine wpAnyS_1 13 (λK hK=>?_)
     go_simp
     obtain⟨w4,hw4⟩:∃w4,w4=w3.alloc (.cells #[.int .i64 k3,.int .i64 x,.int .i64 r3,.slice Bk3 q3.len ck3] 26):=⟨_,rfl⟩
     have hbn:Below w3.heap.size w3 w4:=by rw[hw4];exact(Below.refl _ w3).alloc (Nat.le_refl _) _
     have HNEW:Hid (∀j u,[Value.int .i64 k3,.int .i64 x,.int .i64 r3,.slice Bk3 q3.len ck3][j]?=some u->w4.cell? ⟨w3.heap.size,j,none⟩=some u):=aZ (by rw[hw4];exact cells_four _ _ _ _ _ _ _ rfl)
     rw[<-hw4]
     have HKY4:=aZ (HKY.out.below hbn)
     have HP4:=aZ (HP3.out.below HH.out HT.out hbn)
     have hS2:=(⟨HP4.out.pb.1.2.2.2,HP4.out.pb.1.1,HP4.out.A.c6,HP4.out.A.c7⟩:(λw'=>w'.cell? ⟨bp,3,none⟩=some (.slice B' i cb)/\w'.cell? ⟨bp,0,none⟩=some (.int .i64 k)/\w'.cell? ⟨w.heap.size,0,none⟩=some (.slice Ac nc cc)/\w'.cell? ⟨w.heap.size+1,0,none⟩=some (.pointer (some ⟨pa,0,none⟩))) w4)
     have HBN:=aZ hbn
     clear hbn hw4
     refine hK.out _ _ (λ_=>hS2) ?_
     clear hK K
     try simp only[nrm,Act.put]
     refine wpAnyS_fin 3 14 ?_
     simp only[nrd]
     have hs4:T<=w4.heap.size:=HP4.out.sz
     obtain⟨xs,hO,hRK⟩:=HP4.out.row
     have HRK:=aZ hRK
     have HRO:=aZ hO
     have HOL:Hid (∀e,(Value.slice B' i cb).ownBlock=some e->T<=e/\e<wr.heap.size):=aZ HPB.out.row.lt
     have HKQ:Hid (KY T (Value.slice B' i cb).ownBlock w4 Bk3 q3):=aZ ((HKY4.out.low (λe he=>(HOL.out e he).2)).mono HPB.out.sz)
     obtain rfl:=HPB.out.len
     have hi40:fo.len+1<=1099511627776:=by omega
     have HPF4:=aZ HP4.out.pb
     have hbpT:=HT.out.hi
     clear hO hRK hS2 hS1 hS0 HKY4 HKY HP3 HPB1 HPC
     go_wp2_with (at_builtin;go_loud (refine wpList_appL rfl _ _ 24 26 rfl 4 48 (.agg #[.int .i64 0,.int .i64 0,.int .i64 0,.slice none 0 0]) Try.underlying24 info_plan rfl (by omega) (by omega) T (.slice B' fo.len cb) fo.len xs rfl HRO.out _ _ [.int .i64 k3,.int .i64 x,.int .i64 r3,.slice Bk3 q3.len ck3] rfl rfl HNEW.out (one_four _ _ _ _ _ _) hi40 hs4 ?_);intro g2 cap2 w6 hO2 hG2 hL2;obtain⟨d0,d1,d2,d3⟩:=HPF4.out.1.grown hG2.out (λe=>by have:=(HOL.out _ e).1;omega);have hf6:=(HPF4.out.2.grown hG2.out (cell_lt HPF4.out.1.1) (λe=>by have:=(HOL.out _ e).1;omega)) 3 (by omega))
     have HN:=aZ (HP4.out.more HH.out HT.out HRK.out HKQ.out hO2.out hG2.out hL2.out)
     have hsc:=snoc_count fo k3 x r3 q3
     clear hO2 hG2 hL2 d0 d1 d2 d3 hf6 HRK HRO HKQ HPF4
     exact⟨⟨fo.len+1,_,_,fo.snoc k3 x r3 q3,a3,l3,by omega,by first|rfl|go_num,HN,by omega,by omega,by omega,by omega,by omega⟩,by simp[intOf];omega⟩
   ·obtain rfl:i=ws.length:=by omega
    obtain⟨A2,c2,hA2,hKY⟩:=HPB.out.row.form
    have hlen:=HPB.out.len
    have hA3:B'=A2/\cb=c2:=by
     injection hA2 with h1 h2 h3
     exact⟨h1,h3⟩
    obtain⟨rfl,rfl⟩:=hA3
    obtain⟨⟨p0,p1,p2,p3⟩,-⟩:=HPB.out.pb
    obtain⟨⟨q0,q1,q2,q3⟩,hfr⟩:=HPB.out.A.rb
    have hf0:=hfr 0 (by omega)
    have hf1:=hfr 1 (by omega)
    have hf2:=hfr 2 (by omega)
    have hf3:=hfr 3 (by omega)
    have HF:=aZ (HPB.out.A.fin HH.out k n r B' ws.length cb)
    have HKY:=aZ hKY
    rw[List.drop_length] at hcc
    have hcn:1+fo.count<=capN blue n:=by have:capL (blue||k==4) []=0:=rfl;omega
    have HLO:=aZ HT.out.lo
    have hlo:=HT.out.lo
    have hhi:=HT.out.hi
    have HTT:Hid (w.heap.size+3<=T):=aZ (by omega)
    clear hKY hA2 hcc hlo hhi
    go_wp2
    obtain⟨⟨s0,s1,s2,s3⟩,hf⟩:=HF.out
    refine bodyPost_ret (v:=plV k n r B' ws.length cb) (by simp[results,Try.results56,go_sem,s0,s1,s2,s3]) rfl ⟨k,r,fo,B',cb,a2,l2,by rw[hlen],hcn,?_,hf.1,hf.2.1,hf.2.2,by omega,by omega,by omega,by omega⟩
    have hTT:=HTT.out
    exact(HKY.out.set4 _ _ _ _ (show w.heap.size+2<T by omega)).mono (by omega)
theorem cand_blue{n:Nat}{k r:Int}(h:Cand n true k r):k≠4:=by
 rcases h with⟨h,_⟩|⟨h,_⟩|⟨h,_⟩|⟨h,_⟩|⟨_,_,h,_⟩
 ·omega
 ·omega
 ·omega
 ·omega
 ·cases h
theorem pick_blue19:∀n:Nat,1<=n->n<=32768->PickC19 n true:=by
 intro n
 induction n using Nat.strongRecOn with
 |ind n ih=>
   intro h1 hn
   refine pick_step19 n true h1 hn λk r hc x hx=>?_
   obtain⟨m,rfl,hm1,hm2,hm⟩:=cand_wants hc h1 hn x hx
   refine⟨m,rfl,hm1,?_⟩
   rcases hm with h4|hlt
   ·exact absurd h4 (cand_blue hc)
   ·exact ih m hlt hm1 hm2
theorem pick_all19:∀n:Nat,1<=n->n<=32768->PickC19 n false:=by
 intro n
 induction n using Nat.strongRecOn with
 |ind n ih=>
   intro h1 hn
   refine pick_step19 n false h1 hn λk r hc x hx=>?_
   obtain⟨m,rfl,hm1,hm2,hm⟩:=cand_wants hc h1 hn x hx
   refine⟨m,rfl,hm1,?_⟩
   by_cases h4:k=4
   ·subst h4
    exact pick_blue19 m hm1 hm2
   ·have e:(false||k==4)=false:=by simpa using h4
    rw[e]
    exact ih m (hm.resolve_left h4) hm1 hm2
theorem planOf19(n:Nat)(h1:1<=n)(hn:n<=32768)(Ac:Option Addr)(nc cc:Nat)(f:Nat->Int)(w:World)(hI:IntsAt w Ac nc f)(hnc:nc<=1125899906842624):
  Calls Try.prog 28 #[.int .i64 n,.slice Ac nc cc] w λz w'=>∃(kind r:Int) (q:Fo) (Bk:Option Addr) (ck:Nat),z=.returned (.tuple #[plV kind n r Bk q.len ck,.bool (decide (checkE kind n r q n=0))])/\q.count<=524288/\Kids w' Bk 0 q/\Below w.heap.size w w':=by
 have hcap:capN false n<=524288:=by unfold capN;simp;omega
 obtain⟨W1,hW1⟩:∃W1,W1=((w.alloc (.cells #[.int .i64 0,.int .i64 0,.int .i64 0,.slice none 0 0] 26)).alloc (.cells #[.int .i64 0] 3)).alloc (.cells #[.int .i64 40] 3):=⟨_,rfl⟩
 have hb1:Below w.heap.size w W1:=by rw[hW1];exact(((Below.refl _ w).alloc (Nat.le_refl _) _).alloc (by simp) _).alloc (by simp;omega) _
 have hs1:W1.heap.size=w.heap.size+3:=by rw[hW1];simp
 have hx1:IntBox W1 (w.heap.size+1) 0:=by rw[hW1];exact⟨by go_simp,by go_simp⟩
 have hx2:IntBox W1 (w.heap.size+2) 40:=by rw[hW1];exact⟨by go_simp,by go_simp⟩
 have hx0:PlBox W1 w.heap.size 0 0 0 none 0 0/\PlFree W1 w.heap.size:=by
  rw[hW1]
  have hb:Below (w.alloc (.cells #[.int .i64 0,.int .i64 0,.int .i64 0,.slice none 0 0] 26)).heap.size (w.alloc (.cells #[.int .i64 0,.int .i64 0,.int .i64 0,.slice none 0 0] 26)) (((w.alloc (.cells #[.int .i64 0,.int .i64 0,.int .i64 0,.slice none 0 0] 26)).alloc (.cells #[.int .i64 0] 3)).alloc (.cells #[.int .i64 40] 3)):=((Below.refl _ _).alloc (Nat.le_refl _) _).alloc (by simp) _
  exact⟨(PlBox.new w 0 0 0 none 0 0 _).below hb,(PlFree.new w _ _ _ _ _).keep hb (by simp)⟩
 have HP:Hid (PkH W1 (w.heap.size+1) (w.heap.size+2) Ac nc):=aZ ⟨by omega,by omega,by omega,λh0 b o e=>by have:=hI.block h0 b o e;omega⟩
 have HC:=aZ (pick_all19 n h1 hn W1 Ac nc cc f (w.heap.size+1) (w.heap.size+2) 0 40 (hI.keep hb1) hnc hx1 hx2 HP.out (by omega) (by omega) (by omega) (by omega))
 have HX:=aZ hx0
 have HB1:=aZ hb1
 have HS1:=aZ hs1
 have HSZ:=aZ hs1
 clear hb1 hs1 hx1 hx2 hx0 HP hI
 go_enter Try.func28,Try.ntmps28
 go_wp2_with fail
 rw[<-hW1]
 refine HC.out.mono ?_
 rintro z w2 ⟨kind,r,q,Bk,ck,a',l',rfl,hq,hky,ho,ha,hl,-⟩
 have HKY:=aZ hky
 have hs2:w.heap.size+3<=w2.heap.size:=by have:=ho.size;rw[HS1.out] at this;exact this
 have HB2:Hid (Below w.heap.size w w2):=aZ (HB1.out.trans (ho.below (by omega) (by omega) (by rw[HS1.out];omega)))
 have HX2:Hid (PlBox w2 w.heap.size 0 0 0 none 0 0/\PlFree w2 w.heap.size):=aZ (by
  have e:=ho.block w.heap.size (by rw[HS1.out];omega) (by omega) (by omega)
  exact⟨HX.out.1.same e,HX.out.2.same e⟩)
 have hqc:q.count<=524288:=by omega
 clear hW1 hky ho ha hl HC HX HB1 HS1
 go_upto_region 3 with fail
 obtain⟨W3,hW3⟩:∃W3,W3=w2.alloc (.cells #[.int .i64 kind,.int .i64 n,.int .i64 r,.slice Bk q.len ck] 26):=⟨_,rfl⟩
 have hb3:Below w2.heap.size w2 W3:=by rw[hW3];exact(Below.refl _ w2).alloc (Nat.le_refl _) _
 have hp3:=PlBox.new w2 kind n r Bk q.len ck 26
 rw[<-hW3] at hp3|-
 have HP3:=aZ hp3
 have HKD:Hid (Kids W3 Bk 0 q):=aZ (HKY.out.kids.below hb3)
 have HB3:Hid (Below w.heap.size w W3):=aZ (HB2.out.trans (hb3.mono (by omega)))
 have HX3:Hid (PlBox W3 w.heap.size 0 0 0 none 0 0/\PlFree W3 w.heap.size):=aZ ⟨HX2.out.1.below hb3,HX2.out.2.keep hb3 (by omega)⟩
 have hs3:w.heap.size+3<=W3.heap.size:=by have:=hb3.size;omega
 obtain⟨bp,hbp⟩:∃bp,w2.heap.size=bp:=⟨_,rfl⟩
 rw[hbp] at hp3 HP3 hs2|-
 have HKY3:=aZ (HKY.out.below hb3)
 obtain⟨p0,p1,p2,p3⟩:=hp3
 have HPR:=aZ ((planRef_all19 (.cons kind n r q .nil)).1 (by omega) W3 Bk ck HKD.out)
 clear hW3 hb3 hbp HB2 HX2 HKY
 go_wp2_with fail
 refine HPR.out.mono ?_
 rintro z w4 ⟨B4,c4,rfl,hky4,hb4⟩
 have HC4:=aZ (RCheck_any kind n r q n (by omega) w4 B4 c4 hky4.kids)
 have HB4:Hid (Below w.heap.size w w4):=aZ (HB3.out.trans (hb4.mono (by omega)))
 have HP4:=aZ (HP3.out.below hb4)
 have HX4:Hid (PlBox w4 w.heap.size 0 0 0 none 0 0/\PlFree w4 w.heap.size):=aZ ⟨HX3.out.1.below hb4,HX3.out.2.keep hb4 (by omega)⟩
 have HK4:=aZ (HKD.out.below hb4)
 have hs4:w.heap.size+3<=w4.heap.size:=by have:=hb4.size;omega
 have HKY4:=aZ (HKY3.out.below hb4)
 clear hb4 hky4 p0 p1 p2 p3 HPR HB3 HP3 HX3 HKD hs3 HKY3
 go_wp2_with fail
 refine HC4.out.mono ?_
 rintro z w5 ⟨⟨at0,rfl⟩,hb5⟩
 have HB5:Hid (Below w.heap.size w w5):=aZ (HB4.out.trans (hb5.mono (by omega)))
 have hp5:=HP4.out.below hb5
 have HX5:Hid (PlBox w5 w.heap.size 0 0 0 none 0 0/\PlFree w5 w.heap.size):=aZ ⟨HX4.out.1.below hb5,HX4.out.2.keep hb5 (by omega)⟩
 have HKY5:=aZ (HKY4.out.below hb5)
 obtain⟨p0,p1,p2,p3⟩:=hp5
 obtain⟨⟨q0,q1,q2,q3⟩,hfr⟩:=HX5.out
 have hf0:=hfr 0 (by omega)
 have hf1:=hfr 1 (by omega)
 have hf2:=hfr 2 (by omega)
 have hf3:=hfr 3 (by omega)
 have HPUT:=aZ (HX5.out.1.put kind n r Bk q.len ck)
 have HBF:=aZ (below_four HB5.out (Nat.le_refl _) (.int .i64 kind) (.int .i64 n) (.int .i64 r) (.slice Bk q.len ck))
 have HKF:=aZ (HKY5.out.set4 (.int .i64 kind) (.int .i64 n) (.int .i64 r) (.slice Bk q.len ck) (show w.heap.size<_ by rw[show W1.heap.size=w.heap.size+3 from HSZ.out];omega))
 obtain⟨e,he⟩:∃e,checkE kind n r q n=e:=⟨_,rfl⟩
 have hdd:decide (e=0)=(e==0):=by cases h:(e==0)<;>simp_all
 have HE:=aZ he
 clear hfr
 rw[he]
 clear he
 go_wp2_with fail
 obtain⟨s0,s1,s2,s3⟩:=HPUT.out
 refine bodyPost_ret (v:=.tuple #[plV kind n r Bk q.len ck,.bool (e==0)]) (by simp[results,Try.results28,go_sem,s0,s1,s2,s3]) rfl ⟨kind,r,q,Bk,ck,by rw[HE.out,hdd],hqc,HKF.out.kids,HBF.out⟩
end Go.Proofs.Yteaimnemobnknaa
