/- tree.Each: the iterator over a plan and all within. -/
import Derived.Test.YteaimnemobnknaaX0
import Derived.Test.YteaimnemobnknaaMC1
import Derived.Test.YteaimnemobnknaaMC2
import Derived.RangeFuncNested
import Derived.RangeFuncBound
import Derived.RangeFuncCalls
import Derived.RangeFuncLeaves
import Derived.Shelf.Abstract
import Derived.Shelf.RegionOpen
import Derived.OwnWalkIn
import Derived.TacticsInMore
import Derived.LoopNIn
import Derived.LoopIn
set_option maxRecDepth 100000
set_option maxHeartbeats 4000000
set_option linter.unusedSimpArgs false
set_option linter.unusedVariables false
namespace Go.Proofs.Yteaimnemobnknaa
open Go.RowKit Go.Shelf
attribute [local go_sem] Oper.semAt_some
theorem room_none{F:Fence}(hd:F.depth=none)(k:Nat):F.room k:=λd h=>by rw[hd] at h;cases h
theorem round_any{F:Fence}(hd:F.depth=none){m m':Nat}{P:Program}{l:Nat}{f:FuncId}{tmps:Array Value}{assign body:Code}{w:World}{R:Ending->World->Prop}(h:RoundIn F m P l f tmps assign body w R):RoundIn F m' P l f tmps assign body w R:=⟨h.1,λc cs _=>h.2 c cs (room_none hd _)⟩
theorem yield_any{F:Fence}(hd:F.depth=none){m:Nat}(m':Nat){P:Program}{l:Nat}{args:Array Value}{W:World}{R:Ending->World->Prop}(h:YieldAt F m P l args W R):YieldAt F m' P l args W R:=by
 obtain⟨fn,tmps,assign,body,hy,hR⟩:=h
 exact⟨fn,tmps,assign,body,hy,round_any hd hR⟩
structure Kq(n₀ n₁:Nat)(w w':World):Prop where
 os:w'.os=w.os
 tape:w'.tape=w.tape
 output:w'.output=w.output
 size:w.heap.size<=w'.heap.size
 low:∀k,k<n₀->w'.heap[k]?=w.heap[k]?
 high:∀k (o:Obj),n₁<=k->w.heap[k]?=some o->o.isCells=true->w'.heap[k]?=some o
theorem Kq.refl(n₀ n₁:Nat)(w:World):Kq n₀ n₁ w w:=⟨rfl,rfl,rfl,Nat.le_refl _,λ_ _=>rfl,λ_ _ _ h _=>h⟩
theorem Kq.trans{n₀ n₁:Nat}{x y z:World}(h:Kq n₀ n₁ x y)(k:Kq n₀ n₁ y z):Kq n₀ n₁ x z:=
 ⟨k.os.trans h.os,k.tape.trans h.tape,k.output.trans h.output,Nat.le_trans h.size k.size,λi hi=>(k.low i hi).trans (h.low i hi),λi o hi h1 h2=>k.high i o hi (h.high i o hi h1 h2) h2⟩
theorem Kq.below{n₀ n₁:Nat}{x y:World}(h:Kq n₀ n₁ x y):Below n₀ x y:=⟨h.os,h.tape,h.output,h.size,h.low⟩
theorem Kq.of_below{n₀ n₁:Nat}{x y:World}(h:Below x.heap.size x y)(h0:n₀<=x.heap.size):Kq n₀ n₁ x y:=
 ⟨h.os,h.tape,h.output,h.size,λk hk=>h.block k (by omega),λk o _ ho _=>(h.block k (Array.getElem?_eq_some_iff.1 ho).1).trans ho⟩
theorem Kq.cell{n₀ n₁:Nat}{x y:World}(h:Kq n₀ n₁ x y){b o:Nat}{v:Value}(hb:n₁<=b)(hc:x.cell? ⟨b,o,none⟩=some v):y.cell? ⟨b,o,none⟩=some v:=by
 have hlt:=World.block_lt_of_cell? _ _ hc
 obtain⟨ob,hob⟩:∃ob,x.heap[b]?=some ob:=⟨_,Array.getElem?_eq_getElem hlt⟩
 have hcells:ob.isCells=true:=by
  cases ob<;>simp[World.cell?,hob] at hc|-<;>rfl
 rw[World.cell?_of_block (w:=x) (a:=⟨b,o,none⟩) ((h.high b ob hb hob hcells).trans hob.symm),hc]
theorem Kq.put{n₀ n₁:Nat}(W:World)(l:Nat)(o o':Obj)(h0:n₀<=n₁)(hl:n₁<=l)(h:W.heap[l]?=some o)(hc:o.isCells=false):Kq n₀ n₁ W (W.putObj l o'):=by
 have g:=grownBy_putObj' W l o'
 have hs:=(Array.getElem?_eq_some_iff.1 h).1
 refine⟨g.os,g.tape,g.output,g.size,λk hk=>g.block k (by omega) (λe=>by cases e;omega),λk ob hk hob hcb=>?_⟩
 have hne:k≠l:=by
  rintro rfl
  rw[h] at hob
  cases hob
  rw[hc] at hcb
  cases hcb
 exact(g.block k (Array.getElem?_eq_some_iff.1 hob).1 (λe=>by cases e;exact hne rfl)).trans hob
theorem Kq.set{n₀ n₁:Nat}(W:World)(b o:Nat)(s:Option Nat)(v:Value)(h0:n₀<=b)(h1:b<n₁):Kq n₀ n₁ W (W.setCell ⟨b,o,s⟩ v):=
 ⟨rfl,rfl,rfl,by simp[World.setCell],λk hk=>Below.heap_setCell W ⟨b,o,s⟩ v k (λe=>by have e':k=b:=e;omega),λk ob hk hob _=>(Below.heap_setCell W ⟨b,o,s⟩ v k (λe=>by have e':k=b:=e;omega)).trans hob⟩
structure PN where
 deep:Int
 kind:Int
 n:Int
 r:Int
 A:Option Addr
 l:Nat
 c:Nat
def PN.tri(x:PN):Int×Int×Int:=(x.kind,x.n,x.r)
def pnV(x:PN):Array Value:=#[.int .i64 x.deep,plV x.kind x.n x.r x.A x.l x.c]
theorem abides{β:Type}{B:Nat}{J:β->World->Prop}(hJ:AbidesFrom B J){s:β}{W W':World}(h:J s W)(hb:Below W.heap.size W W'):J s W':=
 hJ s W W' none h ⟨hb.os,hb.tape,hb.output,hb.size,λk hk _=>hb.block k hk⟩ (λr e=>by cases e)
def EachN(F:Fence)(l n₁ N:Nat)(w0:World)(J Jx:List PN->World->Prop)(kind n r:Int)(q:Fo):Prop:=
 ∀(m:Nat) (deep:Int) (A:Option Addr) (c:Nat) (pre:List PN) (W:World),Kids w0 A 0 q->Below w0.heap.size w0 W->n₁<=W.heap.size->J pre W->pre.length+(1+q.count)<=N->
  CallsIn F m Try.prog 116 #[plV kind n r A q.len c,.int .i64 deep,.func (.yield l) #[] #[]] W λe W'=>
   (e=.returned (.bool true)/\(∃ys:List PN,ys.map PN.tri=(kind,n,r)::q.flat/\J (pre++ys) W')/\Kq w0.heap.size n₁ W W')\/
   (e=.returned (.bool false)/\∃ys:List PN,ys.map PN.tri <+: ((kind,n,r)::q.flat)/\Jx (pre++ys) W')
theorem len_count:∀fo:Fo,fo.len<=fo.count
 |.nil=>Nat.le_refl _
 |.cons _ _ _ q rest=>by
   have:=len_count rest
   simp only[Fo.len,Fo.count]
   omega
theorem tri_len{ys:List PN}{t:List (Int×Int×Int)}(h:ys.map PN.tri=t):ys.length=t.length:=by rw[<-h,List.length_map]
theorem each_all(F:Fence)(hd:F.depth=none)(hfn:F.fn 116)(hro:F.round=none)(l n₁ N B:Nat)(w0:World)(h01:w0.heap.size<=n₁)(hNb:N<=1099511627776)(J Jx:List PN->World->Prop)(hJ:AbidesFrom B J)(hY:∀(m:Nat) (pre:List PN) (x:PN) (W:World),J pre W->pre.length<N->YieldAt F m Try.prog l (pnV x) W λe W'=>
   (e=.returned (.bool true)/\J (pre++[x]) W'/\Kq w0.heap.size n₁ W W')\/(e=.returned (.bool false)/\Jx (pre++[x]) W')):
  ∀fo:Fo,fo.all (EachN F l n₁ N w0 J Jx):=Fo.all_of λkind n r q ih=>by
 intro m deep A c pre W hk hbW hnW hJW hN
 have hdd:∀k:Nat,(F.depth.isSome=true->1<=k):=λk h=>by rw[hd] at h;cases h
 have hbox:Below W.heap.size W (W.alloc (.cells #[.int .i64 kind,.int .i64 n,.int .i64 r,.slice A q.len c] 26)):=(Below.refl _ W).alloc (Nat.le_refl _) _
 have hP0:=PlBox.new W kind n r A q.len c 26
 obtain⟨W1,hW1⟩:∃W1,W.alloc (.cells #[.int .i64 kind,.int .i64 n,.int .i64 r,.slice A q.len c] 26)=W1:=⟨_,rfl⟩
 have hs1:W1.heap.size=W.heap.size+1:=by rw[<-hW1];simp
 rw[hW1] at hbox hP0
 have hy:=YieldAt.mono (hY (m-1) pre ⟨deep,kind,n,r,A,q.len,c⟩ W1 (abides hJ hJW hbox) (by omega)) (R':=λe W2=>
   (e=.returned (.bool true)/\J (pre++[⟨deep,kind,n,r,A,q.len,c⟩]) W2/\Kq w0.heap.size n₁ W1 W2/\W2.cell? ⟨W.heap.size,3,none⟩=some (.slice A q.len c))\/(e=.returned (.bool false)/\Jx (pre++[⟨deep,kind,n,r,A,q.len,c⟩]) W2))
  (λe W2 h=>h.elim (λ⟨he,hj,hk2⟩=>.inl ⟨he,hj,hk2,hk2.cell hnW hP0.2.2.2⟩) .inr)
 obtain⟨fn,tmps,assign,body,hy,hR⟩:=hy
 have hql:q.len<=1099511627776:=by have:=len_count q;omega
 have HR:=aZ hR
 clear hR
 have HIH:=aZ ih
 have HK:=aZ hk
 have HBW:=aZ hbW
 have HBX:=aZ hbox
 have HY:=aZ hY
 have HJ:=aZ hJ
 have HN:=aZ hN
 have HH1:=aZ h01
 have HNW:=aZ hnW
 have HS1:=aZ hs1
 clear ih hk hbW hY hbox hJ hN hJW h01 hnW hs1
 obtain⟨p0,p1,p2,p3⟩:=hP0
 refine callsIn_of_wp Try.func116 rfl hfn ?_ hro
 simp only[Try.ntmps116,List.size_toArray,List.length_cons,List.length_nil,Nat.reduceAdd,Nat.reduceSub,Array.replicate_succ,Array.replicate_zero,List.push_toArray,List.append_toArray,List.nil_append,List.cons_append]
 unfold pnV at hy
 dsimp only at hy
 gi_wp2_with ((try refine⟨hdd _,?_⟩);refine HR.out.mono ?_;clear HR;rintro e W2 (⟨rfl,hJ2,hk2,c2⟩|⟨rfl,hx2⟩))
 ·obtain⟨x0,hx0⟩:∃x0:PN,x0=⟨deep,kind,n,r,A,q.len,c⟩:=⟨_,rfl⟩
  have htri:x0.tri=(kind,n,r):=by rw[hx0];rfl
  rw[<-hx0] at hJ2
  have HT:=aZ htri
  have HK2:=aZ ((Kq.of_below HBX.out (by have:=HNW.out;have:=HH1.out;omega)).trans hk2)
  have HJ2:=aZ hJ2
  clear hx0 htri hk2 hJ2 hy p0 p1 p2 p3 hW1
  gi_loopw [17] (λvi wr=>∃(i:Nat) (ys:List PN),i<=q.len/\vi=.int .i64 i/\Hid (ys.map PN.tri=q.upto i)/\Hid (J (pre++x0::ys) wr)/\Hid (Kq w0.heap.size n₁ W wr)) (λvi _=>q.len-(intOf vi).toNat)
  case atStart=>exact⟨0,[],Nat.zero_le _,rfl,aZ rfl,aZ (by simpa using HJ2.out),HK2⟩
  case round=>
   obtain⟨i,ys,hi,rfl,hys,hJs,hkq⟩:=hrel
   by_cases hlt:i<q.len
   ·have hlti:(i:Int)<(q.len:Int):=by omega
    obtain⟨k',n',r',q',rest,hd⟩:=drop_lt i q hlt
    obtain⟨bA,oA,B',c',rfl,k0,k1,k2,k3,k5⟩:=HK.out.at' hd
    have hwr:Below w0.heap.size w0 wr:=HBW.out.trans hkq.out.below
    have j0:=keep_cell hwr k0
    have j1:=keep_cell hwr k1
    have j2:=keep_cell hwr k2
    have j3:=keep_cell hwr k3
    clear k0 k1 k2 k3
    gi_wp2_with fail
    have hl2:pre.length+(1+(q.upto i).length)+(1+q'.count)<=N:=by
     have h1:=upto_succ i q hd
     have h2:=upto_all q (i+1)
     have h3:=congrArg List.length h1
     rw[List.length_append,List.length_cons,flat_len] at h3
     have:=HN.out
     omega
    have hbx:Below wr.heap.size wr (wr.alloc (.cells #[.int .i64 k',.int .i64 n',.int .i64 r',.slice B' q'.len c'] 26)):=(Below.refl _ wr).alloc (Nat.le_refl _) _
    have HE:=Fo.all_at HIH.out hd (m-1) (wrap64 (deep+1)) B' c' (pre++x0::ys) _ k5 (hwr.trans (hbx.mono hwr.size)) (by have:=HNW.out;have:=hkq.out.size;have:=hbx.size;omega) (abides HJ.out hJs.out hbx)
     (by have:=tri_len hys.out;simp only[List.length_append,List.length_cons];omega)
    have HKX:Hid (∀W4,Kq w0.heap.size n₁ (wr.alloc (.cells #[.int .i64 k',.int .i64 n',.int .i64 r',.slice B' q'.len c'] 26)) W4->Kq w0.heap.size n₁ W W4):=aZ (λW4 h=>(hkq.out.trans (Kq.of_below hbx hwr.size)).trans h)
    have HUP:=aZ (upto_succ i q hd)
    refine HE.mono ?_
    clear HE hbx hwr j0 j1 j2 j3 hl2 k5 hd hkq hJs
    rintro e W4 (⟨rfl,⟨zs,hzs,hJ4⟩,hk4⟩|⟨rfl,zs,hzs,hx4⟩)
    ·have HZ:Hid ((ys++zs).map PN.tri=q.upto (i+1)):=aZ (by rw[List.map_append,hys.out,hzs,HUP.out])
     have HJ4:Hid (J (pre++x0::(ys++zs)) W4):=aZ (by simpa[List.append_assoc] using hJ4)
     have HK4:=aZ (HKX.out W4 hk4)
     clear hzs hJ4 hk4 HKX HUP
     gi_wp2
     go_roundw
     case rel=>exact⟨i+1,ys++zs,by omega,by go_num,HZ,HJ4,HK4⟩
     case measure=>simp[intOf];omega
    ·have HZ:Hid (∃l:List PN,l.map PN.tri <+: (kind,n,r)::q.flat/\Jx (pre++l) W4):=aZ (by
       refine⟨x0::(ys++zs),?_,by simpa[List.append_assoc] using hx4⟩
       obtain⟨t,ht⟩:=hzs
       obtain⟨t2,ht2⟩:=upto_pre (i+1) q
       rw[List.map_cons,HT.out,List.map_append,hys.out]
       refine⟨t++t2,?_⟩
       rw[<-ht2,HUP.out,<-ht]
       simp[List.append_assoc])
     clear hzs hx4 HKX HUP
     gi_wp2
     go_ret
     exact .inr ⟨rfl,HZ.out⟩
   ·obtain rfl:i=q.len:=by omega
    have HZ:=aZ (hys.out.trans (upto_len q.len q (Nat.le_refl _)))
    gi_wp2
    go_ret
    exact .inl ⟨rfl,⟨x0::ys,by rw[List.map_cons,HT.out,HZ.out],hJs.out⟩,hkq.out⟩
 ·go_ret
  exact .inr ⟨rfl,_,by simp[PN.tri],hx2⟩
attribute [local go_sem] Oper.semAt_some
theorem each1_in(F:Fence)(hd:F.depth=none)(m:Nat)(h1:F.fn 115)(h2:F.fn 116)(hro:F.round=none)(l Bt n₁ B:Nat)(w0:World)(h01:w0.heap.size<=n₁)(kind n r:Int)(A:Option Addr)(q:Fo)(c:Nat)(hN:q.count<=549755813888)(J Jx:List PN->World->Prop)(hJ:AbidesFrom B J)(hY:∀(pre:List PN) (x:PN) (W:World),J pre W->pre.length<1+q.count->YieldAt F (m-1) Try.prog l (pnV x) W λe W'=>
   (e=.returned (.bool true)/\J (pre++[x]) W'/\Kq w0.heap.size n₁ W W')\/(e=.returned (.bool false)/\Jx (pre++[x]) W'))(W:World)(hP:PlBox W Bt kind n r A q.len c)(hk:Kids w0 A 0 q)(hbW:Below w0.heap.size w0 W)(hnW:n₁<=W.heap.size)(h0:J [] W):
  CallsIn F m Try.prog 115 #[.func (.yield l) #[] #[],.pointer (some ⟨Bt,0,none⟩)] W λe W'=>(∃v,e=.returned v)/\
   ((∃ys:List PN,ys.map PN.tri=(kind,n,r)::q.flat/\J ys W')\/(∃pre:List PN,pre.map PN.tri <+: ((kind,n,r)::q.flat)/\Jx pre W')):=by
 have hdd:∀k:Nat,(F.depth.isSome=true->1<=k):=λk h=>by rw[hd] at h;cases h
 have hp:=(each_all F hd h2 hro l n₁ (1+q.count) B w0 h01 (by omega) J Jx hJ (λm' pre x W hj hl=>yield_any hd m' (hY pre x W hj hl)) (.cons kind n r q .nil)).1 (m-1) 0 A c [] W hk hbW hnW h0 (by simp)
 obtain⟨p0,p1,p2,p3⟩:=hP
 clear hY
 refine callsIn_of_wp Try.func115 rfl h1 ?_ hro
 simp only[Try.ntmps115,List.size_toArray,List.length_cons,List.length_nil,Nat.reduceAdd,Nat.reduceSub,Array.replicate_succ,Array.replicate_zero,List.push_toArray,List.append_toArray,List.nil_append,List.cons_append]
 gi_wp2_with ((try refine⟨hdd _,?_⟩);gi_at_call 116;refine hp.mono ?_;clear hp;rintro e W1 (⟨rfl,⟨ys,hys,hJ1⟩,_⟩|⟨rfl,ys,hys,hx⟩))
 ·go_end0
  exact⟨⟨_,rfl⟩,.inl ⟨ys,hys,by simpa using hJ1⟩⟩
 ·go_end0
  exact⟨⟨_,rfl⟩,.inr ⟨ys,hys,by simpa using hx⟩⟩
theorem Each_in(F:Fence)(m:Nat)(h:F.fn 91)(hro:F.round=none)(kind n r:Int)(A:Option Addr)(l c:Nat)(w:World):
  CallsIn F m Try.prog 91 #[plV kind n r A l c] w λe w'=>e=.returned (.func (.func 115) #[] #[.pointer (some ⟨w.heap.size,0,none⟩)])/\w'=w.alloc (.cells #[.int .i64 kind,.int .i64 n,.int .i64 r,.slice A l c] 26):=by
 refine callsIn_of_wp Try.func91 rfl h ?_ hro
 simp only[Try.ntmps91,List.size_toArray,List.length_cons,List.length_nil,Nat.reduceAdd,Nat.reduceSub,Array.replicate_succ,Array.replicate_zero,List.push_toArray,List.append_toArray,List.nil_append,List.cons_append]
 gi_wp2
 go_ret
 exact⟨rfl,rfl⟩
theorem each_stops(F:Fence)(hd:F.depth=none)(m:Nat)(h1:F.fn 115)(h2:F.fn 116)(hro:F.round=none)(Bt n₁:Nat)(w0:World)(h01:w0.heap.size<=n₁)(kind n r:Int)(A:Option Addr)(q:Fo)(c:Nat)(hN:q.count<=549755813888)(w:World)(hP:PlBox w Bt kind n r A q.len c)(hk:Kids w0 A 0 q)(hb:Below w0.heap.size w0 w)(hn₁:n₁<=w.heap.size):
  SeqStopsK F m Try.prog 115 #[.pointer (some ⟨Bt,0,none⟩)] pnV (Kq w0.heap.size n₁) (λys=>ys.map PN.tri=(kind,n,r)::q.flat) (λpre=>pre.map PN.tri <+: ((kind,n,r)::q.flat)) (1+q.count) w:=λl J Jx W hW hJ _ hY h0=>
 each1_in F hd m h1 h2 hro l Bt n₁ W.heap.size w0 h01 kind n r A q c hN J Jx hJ hY W (hP.keep Mem.plain_ok ⟨trivial,hW⟩ trivial) hk (hb.trans (hW.mono hb.size)) (Nat.le_trans hn₁ hW.size) h0
theorem many_in(F:Fence)(hd:F.depth=none)(m:Nat)(hf0:F.fn 77)(hf1:F.fn 115)(hf2:F.fn 116)(hf3:F.fn 91)(hro:F.round=none)(hm:3<=m)(kind n r:Int)(A:Option Addr)(q:Fo)(c:Nat)(hN:q.count<=549755813888)(w:World)(hk:Kids w A 0 q):
  CallsIn F m Try.prog 77 #[plV kind n r A q.len c] w λe W'=>e=.returned (.bool (decide (64<1+q.count)))/\Below w.heap.size w W':=by
 have h1:1<=m:=by omega
 have HK:=aZ hk
 have HN:=aZ hN
 clear hk hN
 refine callsIn_of_wp_marks Try.func77 rfl hf0 ?_ hro
 simp only[Try.ntmps77,List.size_toArray,List.length_cons,List.length_nil,Nat.reduceAdd,Nat.reduceSub,Array.replicate_succ,Array.replicate_zero,List.push_toArray,List.append_toArray,List.nil_append,List.cons_append]
 gi_wp2_with (gi_at_call 91;refine(Each_in F (m-1) hf3 hro _ _ _ _ _ _ _).mono ?_;rintro e w' ⟨rfl,rfl⟩)
 obtain⟨WL,hWL⟩:∃WL,WL=(((w.alloc (.cells #[.int .i64 kind,.int .i64 n,.int .i64 r,.slice A q.len c] 26)).alloc (.cells #[.bool false] 4)).alloc (.cells #[.int .i64 0] 3)).alloc (.cells #[.int .i64 kind,.int .i64 n,.int .i64 r,.slice A q.len c] 26):=⟨_,rfl⟩
 rw[<-hWL]
 have hS:WL.heap.size=w.heap.size+4:=by rw[hWL];simp
 have hB:Below w.heap.size w WL:=by
  rw[hWL]
  exact((((Below.refl _ w).alloc (Nat.le_refl _) _).alloc (by simp) _).alloc (by simp;omega) _).alloc (by simp;omega) _
 have hP:PlBox WL (w.heap.size+1+1+1) kind n r A q.len c:=by
  have:=PlBox.new (((w.alloc (.cells #[.int .i64 kind,.int .i64 n,.int .i64 r,.slice A q.len c] 26)).alloc (.cells #[.bool false] 4)).alloc (.cells #[.int .i64 0] 3)) kind n r A q.len c 26
  simp only[World.size_alloc] at this
  rw[hWL]
  exact this
 have bR:Boxed WL (w.heap.size+1) 4 (.bool false):=by
  have:=((Boxed.new (w.alloc (.cells #[.int .i64 kind,.int .i64 n,.int .i64 r,.slice A q.len c] 26)) 4 (.bool false)).alloc (.cells #[.int .i64 0] 3)).alloc (.cells #[.int .i64 kind,.int .i64 n,.int .i64 r,.slice A q.len c] 26)
  simp only[World.size_alloc] at this
  rw[hWL]
  exact this
 have bN:Boxed WL (w.heap.size+1+1) 3 (.int .i64 0):=by
  have:=(Boxed.new ((w.alloc (.cells #[.int .i64 kind,.int .i64 n,.int .i64 r,.slice A q.len c] 26)).alloc (.cells #[.bool false] 4)) 3 (.int .i64 0)).alloc (.cells #[.int .i64 kind,.int .i64 n,.int .i64 r,.slice A q.len c] 26)
  simp only[World.size_alloc] at this
  rw[hWL]
  exact this
 clear hWL
 refine wpIn_rangeFunc_ownG hro h1 (gf:=115) (lb:=#[.pointer (some ⟨w.heap.size+1+1+1,0,none⟩)]) rfl hf1 (enters_of Try.func115 (by kernel_rfl) rfl)
  (each_stops F hd (m-1) hf1 hf2 hro (w.heap.size+1+1+1) WL.heap.size w (by omega) kind n r A q c HN.out WL hP HK.out hB (Nat.le_refl _))
  Kq.trans (λW l o o' hl h hc _=>Kq.put W l o o' (by omega) hl h hc) (Below.refl _ _) (λ_=>rfl)
  (λpre W=>(W.cell? ⟨w.heap.size+1+1,0,none⟩=some (.int .i64 (pre.length:Nat))/\W.frozen? ⟨w.heap.size+1+1,0,none⟩=false/\W.cell? ⟨w.heap.size+1,0,none⟩=some (.bool false)/\W.frozen? ⟨w.heap.size+1,0,none⟩=false/\pre.length<=64)/\Below w.heap.size w W)
  (λc' pre W=>(c'=.ret/\64<pre.length/\W.cell? ⟨w.heap.size+1,0,none⟩=some (.bool true))/\Below w.heap.size w W)
  (OwnFrom.and (Own.from (λs A B row hs hg hr=>⟨cell_kept hs.1 hg hr,(frozen_kept hs.1 hg hr).trans hs.2.1,cell_kept hs.2.2.1 hg hr,(frozen_kept hs.2.2.1 hg hr).trans hs.2.2.2.1,hs.2.2.2.2⟩) _) (ownFrom_below (Nat.le_refl _) (by omega)))
  (λc'=>OwnFrom.and (Own.from (λs A B row hs hg hr=>⟨hs.1,hs.2.1,cell_kept hs.2.2 hg hr⟩) _) (ownFrom_below (Nat.le_refl _) (by omega)))
  ⟨⟨bN.cell,bN.frozen,bR.cell,bR.frozen,by simp⟩,hB⟩
  (λx=>{tmps:=#[plV kind n r A q.len c,.pointer (some ⟨w.heap.size,0,none⟩),.pointer (some ⟨w.heap.size+1,0,none⟩),.pointer (some ⟨w.heap.size+1+1,0,none⟩),plV kind n r A q.len c,.func (.func 115) #[] #[.pointer (some ⟨w.heap.size+1+1+1,0,none⟩)],.int .i64 x.deep,plV x.kind x.n x.r x.A x.l x.c,undef,undef,undef,undef],defers:=[]}) ?assign ?body ?done ?stop
 case assign=>
  intro l x W K hK
  simp only[pnV]
  gi_wp2
  simpa using hK
 case body=>
  rintro l pre x W ⟨⟨hc,hf,hr,hrf,h64⟩,hBW⟩ _
  have hw:wrap64 ((pre.length:Int)+1)=((pre.length+1:Nat):Int):=by unfold wrap64;omega
  obtain⟨len,hlen⟩:∃len,pre.length=len:=⟨_,rfl⟩
  rw[hlen] at hc h64 hw
  have HL:=aZ hlen
  have HB:=aZ hBW
  clear hlen hBW
  have hB2:Below w.heap.size w (W.setCell ⟨w.heap.size+1+1,0,none⟩ (.int .i64 ((len:Int)+1))):=HB.out.setCell (p:=⟨w.heap.size+1+1,0,none⟩) (by show w.heap.size<=w.heap.size+1+1;omega) _
  have hK2:Kq w.heap.size WL.heap.size W (W.setCell ⟨w.heap.size+1+1,0,none⟩ (.int .i64 ((len:Int)+1))):=Kq.set _ _ _ _ _ (by omega) (by omega)
  have hc2:(W.setCell ⟨w.heap.size+1+1,0,none⟩ (.int .i64 ((len:Int)+1))).cell? ⟨w.heap.size+1+1,0,none⟩=some (.int .i64 ((len:Int)+1)):=World.cell?_setCell_same' _ _ _ (by rw[hc];rfl)
  have hr2:(W.setCell ⟨w.heap.size+1+1,0,none⟩ (.int .i64 ((len:Int)+1))).cell? ⟨w.heap.size+1,0,none⟩=some (.bool false):=by
   rw[World.cell?_setCell_other]
   ·exact hr
   ·intro e;have:=congrArg Addr.block e;simp at this
  have hB2':=aZ hB2
  have hK2':=aZ hK2
  have hc2':=aZ hc2
  have hr2':=aZ hr2
  clear hB2 hK2 hc2 hr2
  by_cases hl:len+1<=64
  ·have hli:¬64<(len:Int)+1:=by omega
   gi_wp2
   refine⟨(KeepsOthers.setCell _ _ _).from _,by have:=hK2'.out;rw[hS] at this;exact this,⟨?_,?_,hr2'.out,?_,?_⟩,hB2'.out⟩
   ·rw[List.length_append,HL.out];exact hc2'.out
   ·rw[World.frozen?_setCell];exact hf
   ·rw[World.frozen?_setCell];exact hrf
   ·rw[List.length_append,HL.out];exact hl
  ·have hli:64<(len:Int)+1:=by omega
   have hB3:Below w.heap.size w ((W.setCell ⟨w.heap.size+1+1,0,none⟩ (.int .i64 ((len:Int)+1))).setCell ⟨w.heap.size+1,0,none⟩ (.bool true)):=hB2'.out.setCell (p:=⟨w.heap.size+1,0,none⟩) (by show w.heap.size<=w.heap.size+1;omega) _
   have HB3:=aZ hB3
   clear hB3
   gi_wp2
   refine⟨((KeepsOthers.setCell _ _ _).trans (KeepsOthers.setCell _ _ _)).from _,⟨rfl,?_,World.cell?_setCell_same' _ _ _ (by rw[hr2'.out];rfl)⟩,HB3.out⟩
   rw[List.length_append,HL.out]
   show 64<len+1
   omega
 case done=>
  rintro D ys W hD hu ⟨⟨hc,hf,hr,hrf,h64⟩,hBW⟩ hK
  have hle:decide (64<1+q.count)=false:=by
   have:=congrArg List.length hu
   rw[List.length_map,List.length_cons,flat_len] at this
   exact decide_eq_false (by omega)
  have HB:=aZ hBW
  clear hBW
  gi_wp2
  have hK':=(KeepsOthers.setCell W ⟨w.heap.size+1,0,none⟩ (.bool false)).same D _ hK rfl
  refine⟨by simp,.inl ⟨_,_,rfl,run_takeDeferred hK',?_⟩⟩
  have hc5:=cell_kept (World.cell?_setCell_same' W ⟨w.heap.size+1,0,none⟩ (.bool false) (by rw[hr];rfl)) (grownBy_putObj' _ D (.deferred none)) (λr e=>by cases e;exact⟨_,hK',rfl⟩)
  refine⟨.bool false,?_,by rw[hle],(HB.out.setCell (p:=⟨w.heap.size+1,0,none⟩) (by show w.heap.size<=w.heap.size+1;omega) _).trans (belowK_b (w:=w) (Nat.le_refl _) _ D _ _ (by omega) hK' rfl rfl)⟩
  simp[results,Try.f77,go_sem,hc5]
 case stop=>
  rintro D c' pre W hD hpre ⟨⟨rfl,hin,hcr⟩,hBW⟩ hK
  have hle:decide (64<1+q.count)=true:=by
   obtain⟨t,ht⟩:=hpre
   have:=congrArg List.length ht
   rw[List.length_append,List.length_map,List.length_cons,flat_len] at this
   exact decide_eq_true (by omega)
  gi_wp2
  refine⟨by simp,.inl ⟨_,_,rfl,run_takeDeferred hK,?_⟩⟩
  have hc5:=cell_kept hcr (grownBy_putObj' _ D (.deferred none)) (λr e=>by cases e;exact⟨_,hK,rfl⟩)
  refine⟨.bool true,?_,by rw[hle],hBW.trans (belowK_b (w:=w) (Nat.le_refl _) W D _ _ (by omega) hK rfl rfl)⟩
  simp[results,Try.f77,go_sem,hc5]
theorem many_any(kind n r:Int)(A:Option Addr)(q:Fo)(c:Nat)(hN:q.count<=549755813888)(w:World)(hk:Kids w A 0 q):
  Calls Try.prog 77 #[plV kind n r A q.len c] w (Ret w (.bool (decide (64<1+q.count)))):=
 (callsIn_wide (n:=3)).1 (many_in Fence.wide rfl 3 trivial trivial trivial trivial rfl (by omega) kind n r A q c hN w hk)
theorem Check_any(kind n r:Int)(q:Fo)(want:Int)(hN:q.count<=549755813888):ChkC kind n r q want (checkE kind n r q want):=by
 intro w A c hk
 have FIN:Hid (∀t,Below w.heap.size w (w.alloc (.cells #[.int .i64 kind,.int .i64 n,.int .i64 r,.slice A q.len c] t))):=aZ (λt=>(Below.refl _ w).alloc (Nat.le_refl _) _)
 unfold checkE
 by_cases ha:want<1
 ·rw[if_pos (.inl ha)]
  go_enter Try.func47,Try.ntmps47
  go_wp2
  go_ret2
  exact⟨⟨_,rfl⟩,FIN.out _⟩
 by_cases hb:32768<want
 ·rw[if_pos (.inr hb)]
  go_enter Try.func47,Try.ntmps47
  go_wp2
  go_ret2
  exact⟨⟨_,rfl⟩,FIN.out _⟩
 rw[if_neg (by omega)]
 have HMN:=aZ (λw h=>many_any kind n r A q c hN w h)
 have HCK:=aZ (check_all (.cons kind n r q .nil)).1
 have HK:=aZ hk
 have HW:Hid (1<=want/\want<=32768):=aZ (by omega)
 clear hk hN
 by_cases hm:64<1+q.count
 ·rw[if_pos hm]
  have HD:decide (64<1+q.count)=true:=decide_eq_true hm
  rw[HD] at HMN
  clear hm HD HCK
  go_enter Try.func47,Try.ntmps47
  go_wp2_with fail
  refine(HMN.out _ (HK.out.below (FIN.out _))).mono ?_
  rintro z w1 ⟨rfl,hb1⟩
  have HB:=aZ ((FIN.out _).trans (hb1.mono (by simp)))
  clear hb1
  go_wp2
  go_ret2
  exact⟨⟨_,rfl⟩,HB.out⟩
 ·rw[if_neg hm]
  have HD:decide (64<1+q.count)=false:=decide_eq_false hm
  rw[HD] at HMN
  clear hm HD
  obtain⟨e,he⟩:∃e,(Fo.cons kind n r q .nil).bad [want] false=e:=⟨_,rfl⟩
  have HCC:Hid (∀(w:World),Kids w A 0 q->Calls Try.prog 78 #[plV kind n r A q.len c,.int .i64 want,.int .i64 0,.bool false] w λz w'=>(∃a:Int,z=.returned (.tuple #[.int .i64 a,.int .i64 e]))/\Below w.heap.size w w'):=aZ (λw h=>by
   rw[<-he]
   exact HCK.out w A c want 0 false h HW.out.1 HW.out.2)
  rw[he]
  clear HCK he
  go_enter Try.func47,Try.ntmps47
  go_wp2_with fail
  have hP:=PlBox.new w kind n r A q.len c 26
  refine(HMN.out _ (HK.out.below (FIN.out _))).mono ?_
  rintro z w1 ⟨rfl,hb1⟩
  obtain⟨p0,p1,p2,p3⟩:=hP.below hb1
  have HB:Hid (w.heap.size<w1.heap.size/\Below w.heap.size w w1):=aZ ⟨Nat.lt_of_lt_of_le (by simp) hb1.size,(FIN.out _).trans (hb1.mono (by simp))⟩
  clear hb1 hP
  go_wp2_with fail
  refine(HCC.out _ (HK.out.below HB.out.2)).mono ?_
  rintro z w2 ⟨⟨a,rfl⟩,hb2⟩
  have HB2:=aZ (HB.out.2.trans (hb2.mono (by have:=HB.out.1;omega)))
  clear hb2 p0 p1 p2 p3
  by_cases he:e=0
  ·subst he
   go_wp2
   go_ret2
   exact⟨⟨_,rfl⟩,HB2.out⟩
  ·have hei:(e != 0)=true:=by simpa using he
   clear he
   go_wp2
   go_ret2
   exact⟨⟨_,rfl⟩,HB2.out⟩
end Go.Proofs.Yteaimnemobnknaa
