/- The document's Gcd, Each. -/
import Derived.Test.YteaimnemobnknaaX0
import Derived.Test.YteaimnemobnknaaMC5
import Derived.Test.YteaimnemobnknaaMC3
import Derived.Test.YteaimnemobnknaaMC4
import Derived.Test.YteaimnemobnknaaMS1
import Derived.Test.YteaimnemobnknaaMS2
set_option maxRecDepth 100000
set_option maxHeartbeats 4000000
set_option linter.unusedSimpArgs false
set_option linter.unusedVariables false
namespace Go.Proofs.Yteaimnemobnknaa
open Go.RowKit Go.Lib
theorem Gcd_any(a b:Nat)(ha:a<=4611686018427387904)(hb:b<=4611686018427387904)(w:World):
  Calls Try.prog 65 #[.int .i64 a,.int .i64 b] w λz w'=>z=.returned (.int .i64 (Nat.gcd a b:Nat))/\w=w':=by
 obtain⟨G,hG⟩:∃G,Nat.gcd a b=G:=⟨_,rfl⟩
 have HG:=aZ hG
 rw[hG]
 have ha0:¬(a:Int)<0:=by omega
 have hb0:¬(b:Int)<0:=by omega
 clear hG
 go_enter Try.func65,Try.ntmps65
 go_wp2
 go_loop [0,1] (λva vb=>∃x y:Nat,va=.int .i64 x/\vb=.int .i64 y/\x<=4611686018427387904/\y<=4611686018427387904/\Hid (Nat.gcd x y=G)) (λva vb=>(intOf va).toNat+(intOf vb).toNat)
 case atStart=>exact⟨a,b,rfl,rfl,ha,hb,HG⟩
 case round=>
  clear HG
  obtain⟨x,y,rfl,rfl,hx,hy,hg⟩:=hrel
  by_cases hx0:x=0
  ·subst hx0
   have HE:Hid (y=G):=aZ (by rw[<-hg.out,Nat.gcd_zero_left])
   clear hg
   go_wp2
   go_ret
   exact⟨by rw[<-HE.out];simp,rfl⟩
  ·have hxi:0<(x:Int):=by omega
   by_cases hy0:y=0
   ·subst hy0
    have HE:Hid (x=G):=aZ (by rw[<-hg.out,Nat.gcd_zero_right])
    clear hg
    go_wp2
    go_ret
    exact⟨by rw[<-HE.out];simp,rfl⟩
   ·have hyi:0<(y:Int):=by omega
    by_cases hlt:x<y
    ·have hlti:(x:Int)<(y:Int):=by omega
     have ht:(y:Int).tmod x=((y%x:Nat):Int):=by rw[Int.tmod_eq_emod_of_nonneg (by omega)];omega
     have hm:y%x<x:=Nat.mod_lt _ (by omega)
     have HN:Hid (Nat.gcd x (y%x)=G):=aZ (by rw[<-hg.out,Nat.gcd_comm x (y%x),<-Nat.gcd_rec])
     obtain⟨m,hme⟩:∃m,y%x=m:=⟨_,rfl⟩
     rw[hme] at ht hm HN
     have hx1:¬(x:Int)=0:=by omega
     have hx2:((x:Int)==0)=false:=by rw[beq_eq_false_iff_ne];omega
     clear hg hme
     go_wp2
     exact⟨⟨x,m,rfl,rfl,hx,by omega,HN⟩,by simp[intOf];omega⟩
    ·have hlti:¬(x:Int)<(y:Int):=by omega
     have ht:(x:Int).tmod y=((x%y:Nat):Int):=by rw[Int.tmod_eq_emod_of_nonneg (by omega)];omega
     have hm:x%y<y:=Nat.mod_lt _ (by omega)
     have HN:Hid (Nat.gcd (x%y) y=G):=aZ (by rw[<-hg.out,Nat.gcd_comm x y,<-Nat.gcd_rec])
     obtain⟨m,hme⟩:∃m,x%y=m:=⟨_,rfl⟩
     rw[hme] at ht hm HN
     have hx1:¬(y:Int)=0:=by omega
     have hx2:((y:Int)==0)=false:=by rw[beq_eq_false_iff_ne];omega
     clear hg hme
     go_wp2
     exact⟨⟨m,y,rfl,rfl,by omega,hy,HN⟩,by simp[intOf];omega⟩
def PN.cells(x:PN):List Value:=[.int .i64 x.deep,.int .i64 x.kind,.int .i64 x.n,.int .i64 x.r,.slice x.A x.l x.c]
def stepsV(L:List PN):List Value:=L.flatMap PN.cells
theorem stepsV_app(L:List PN)(x:PN):stepsV (L++[x])=stepsV L++x.cells:=by simp[stepsV]
theorem stepsV_len:∀L:List PN,(stepsV L).length=L.length*5
 |[]=>rfl
 |x::L=>by
   have:=stepsV_len L
   show(x.cells++stepsV L).length=_
   rw[List.length_append,this,List.length_cons]
   show 5+_=_
   omega
theorem stepsV_at:∀(L:List PN) (i:Nat) (x:PN),L[i]?=some x->∀j,j<5->(stepsV L)[i*5+j]?=x.cells[j]?
 |[],_,_,h,_,_=>by simp at h
 |y::L,0,x,h,j,hj=>by
   have h':y=x:=by simpa using h
   subst h'
   show(y.cells++stepsV L)[0*5+j]?=_
   rw[Nat.zero_mul,Nat.zero_add,List.getElem?_append_left (by show j<5;exact hj)]
 |y::L,i+1,x,h,j,hj=>by
   have:=stepsV_at L i x (by simpa using h) j hj
   show(y.cells++stepsV L)[(i+1)*5+j]?=_
   rw[List.getElem?_append_right (by show 5<=_;omega),<-this]
   congr 1
   show(i+1)*5+j-5=_
   omega
theorem one_step(x:PN)(u:Value)(h:u∈x.cells):u.oneCell'=true:=by
 simp only[PN.cells,List.mem_cons,List.not_mem_nil,or_false] at h
 rcases h with rfl|rfl|rfl|rfl|rfl<;>rfl
theorem cells_five(w:World)(a b c d e:Value)(t:TypeId)(n:Nat)(hn:n=w.heap.size)(j:Nat)(u:Value)(h:[a,b,c,d,e][j]?=some u):(w.alloc (.cells #[a,b,c,d,e] t)).cell? ⟨n,j,none⟩=some u:=by
 subst hn
 match j,h with
 |0,h=>simp at h;subst h;simp[go_sem]
 |1,h=>simp at h;subst h;simp[go_sem]
 |2,h=>simp at h;subst h;simp[go_sem]
 |3,h=>simp at h;subst h;simp[go_sem]
 |4,h=>simp at h;subst h;simp[go_sem]
 |j+5,h=>simp at h
theorem info_step:(Try.prog.info? 110).map (λi=>(i.zero,i.size,i.bytes))=some (some (.agg #[.int .i64 0,.int .i64 0,.int .i64 0,.int .i64 0,.slice none 0 0]),5,56):=by kernel_rfl
theorem bs_step(a b c d e:Value)(w:World):(Instr.buildSlice 106 1 #[(0,.agg #[a,b,c,d,e])]).run Try.prog w=.ok (.slice (some ⟨w.heap.size,0,none⟩) 1 1) (w.alloc (.cells #[a,b,c,d,e] 110)):=by
 obtain⟨i0,hi,hz0,hz1,hz2⟩:=info_parts info_step
 refine run_buildSlice w 106 110 1 _ #[a,b,c,d,e] i0 _ Try.underlying106 hi hz0 (by rw[hz1];decide) (by rw[hz1];decide) ?_
 rw[hz1]
 have hr:Array.range 5=#[0,1,2,3,4]:=by decide
 simp[Instr.fill,Value.cells,hr]
theorem CellsAt.grown{w w':World}{A:Option Addr}{xs:List Value}{row:Option Nat}(h:CellsAt w A xs)(hg:w.grownBy w' row)(hne:∀b o,A=some ⟨b,o,none⟩->row≠some b):CellsAt w' A xs:=λi v hi=>by
 obtain⟨b,o,e,hc⟩:=h i v hi
 exact⟨b,o,e,grown_cell hg hc (hne b o e)⟩
theorem owns_capN{W:World}{base g cap k sz:Nat}{xs:List Value}{e:TypeId}(h:W.ownsRow base e sz (.slice (some ⟨g,0,none⟩) k cap) k xs):k<=cap/\cap<=maxLen/\base<=g/\g<W.heap.size:=by
 rcases h.2 with⟨h0,_⟩|⟨g',cap',cur,hv,hb,hg,h1,h2,_⟩
 ·cases h0
 ·cases hv
  exact⟨h1,h2,hb,(Array.getElem?_eq_some_iff.1 hg).1⟩
def EachR(kind n r:Int)(q:Fo):Prop:=q.count<=549755813888->∀(w:World) (A:Option Addr) (c:Nat) (deep:Int),Kids w A 0 q->
 Calls Try.prog 63 #[plV kind n r A q.len c,.int .i64 deep] w λz w'=>∃(B:Option Addr) (c':Nat) (L:List PN),z=.returned (.slice B L.length c')/\L.map PN.tri=(kind,n,r)::q.flat/\CellsAt w' B (stepsV L)/\(∀b o,B=some ⟨b,o,none⟩->w.heap.size<=b)/\Below w.heap.size w w'
theorem REach_all:∀fo:Fo,fo.all EachR:=Fo.all_of λkind n r q ih=>by
 intro hc w A c deep hk
 have HK:=aZ hk
 have HIH:=aZ ih
 have HC:=aZ hc
 have hql:q.len<=549755813888:=by have:=len_count' q;omega
 have bs:=bs_step
 clear hk ih hc
 go_enter Try.func63,Try.ntmps63
 go_wp2
 obtain⟨W1,hW1⟩:∃W1,W1=(w.alloc (.cells #[.int .i64 kind,.int .i64 n,.int .i64 r,.slice A q.len c] 29)).alloc (.cells #[.int .i64 deep,.int .i64 kind,.int .i64 n,.int .i64 r,.slice A q.len c] 110):=⟨_,rfl⟩
 have HP1:Hid (PlBox W1 w.heap.size kind n r A q.len c):=aZ (by rw[hW1];exact(PlBox.new w kind n r A q.len c 29).below ((Below.refl _ _).alloc (Nat.le_refl _) _))
 have HB1:Hid (w.heap.size+1<W1.heap.size/\Below w.heap.size w W1):=aZ (by rw[hW1];exact⟨by simp,((Below.refl _ w).alloc (Nat.le_refl _) _).alloc (by simp) _⟩)
 have HO1:Hid (W1.ownsRow (w.heap.size+1) 110 5 (.slice (some ⟨w.heap.size+1,0,none⟩) 1 1) 1 (stepsV [⟨deep,kind,n,r,A,q.len,c⟩])):=aZ (by
  have:=World.ownsRow_lit (base:=w.heap.size+1) (size:=5) (e:=110) (w.alloc (.cells #[.int .i64 kind,.int .i64 n,.int .i64 r,.slice A q.len c] 29)) #[.int .i64 deep,.int .i64 kind,.int .i64 n,.int .i64 r,.slice A q.len c] 1 (by simp) (by decide) rfl
  simp only[World.size_alloc] at this
  rw[hW1]
  exact this)
 rw[<-hW1]
 clear hW1
 go_loopw [5,6] (λvo vi wr=>∃(i g cap:Nat) (L:List PN),i<=q.len/\vi=.int .i64 i/\vo=.slice (some ⟨g,0,none⟩) L.length cap/\Hid (wr.ownsRow (w.heap.size+1) 110 5 (.slice (some ⟨g,0,none⟩) L.length cap) L.length (stepsV L))/\Hid (L.map PN.tri=(kind,n,r)::q.upto i)/\Hid (w.heap.size+1<=g/\g<wr.heap.size)/\Hid (PlBox wr w.heap.size kind n r A q.len c)/\Hid (w.heap.size+1<wr.heap.size/\Below w.heap.size w wr)) (λ_ vi _=>q.len-(intOf vi).toNat)
 case atStart=>exact⟨0,w.heap.size+1,1,[⟨deep,kind,n,r,A,q.len,c⟩],Nat.zero_le _,rfl,rfl,HO1,aZ rfl,aZ ⟨Nat.le_refl _,HB1.out.1⟩,HP1,HB1⟩
 case round=>
  obtain⟨i,g,cap,L,hi,rfl,rfl,hown,hL,hg,hp,hbw⟩:=hrel
  clear HP1 HB1 HO1
  obtain⟨p0,p1,p2,p3⟩:=hp.out
  by_cases hlt:i<q.len
  ·have hlti:(i:Int)<(q.len:Int):=by omega
   obtain⟨k',n',r',q',rest,hd⟩:=drop_lt i q hlt
   obtain⟨bA,oA,B',c',rfl,k0,k1,k2,k3,k5⟩:=HK.out.at' hd
   have j0:=keep_cell hbw.out.2 k0
   have j1:=keep_cell hbw.out.2 k1
   have j2:=keep_cell hbw.out.2 k2
   have j3:=keep_cell hbw.out.2 k3
   have hq'c:q'.count<=549755813888/\(q.upto (i+1)).length<=549755813888:=by
    have h1:=count_kid hd
    have h2:=upto_all q (i+1)
    have:=HC.out
    omega
   have HE:=aZ (λw' h=>Fo.all_at HIH.out hd hq'c.1 w' B' c' (wrap64 (deep+1)) h)
   have HKB:=aZ (k5.below hbw.out.2)
   have HUP:=aZ (upto_succ i q hd)
   have HUL:=aZ hq'c.2
   clear k0 k1 k2 k3 k5 hd hq'c
   go_wp2_with fail
   refine(HE.out _ HKB.out).mono ?_
   rintro z w2 ⟨B,cB,M,rfl,hM,hcM,hfr,hb2⟩
   have HM:=aZ hM
   have HCM:=aZ hcM
   have HFR:Hid (∀b o,B=some ⟨b,o,none⟩->g≠b):=aZ (λb o e=>by have:=hfr b o e;have:=hg.out.2;omega)
   have HO2:=aZ (owns_below hown.out hb2)
   have HP2:=aZ (hp.out.below hb2)
   have HB2:Hid (w.heap.size+1<w2.heap.size/\Below w.heap.size w w2):=aZ ⟨Nat.lt_of_lt_of_le hbw.out.1 hb2.size,hbw.out.2.trans (hb2.mono (by have:=hbw.out.1;omega))⟩
   have HG2:Hid (w.heap.size+1<=g/\g<w2.heap.size):=aZ ⟨hg.out.1,Nat.lt_of_lt_of_le hg.out.2 hb2.size⟩
   have hML:L.length+M.length<=549755813889:=by
    have h1:=congrArg List.length hL.out
    have h2:=congrArg List.length hM
    have h3:=congrArg List.length HUP.out
    have:=HUL.out
    simp only[List.length_map,List.length_cons,List.length_append] at h1 h2 h3
    omega
   clear hM hcM hfr hb2 j0 j1 j2 j3 p0 p1 p2 p3 hown hp hbw hg HE HKB
   go_wp2
   go_loopw [5,8] (λvo vk wi=>∃(k g cap:Nat),k<=M.length/\vk=.int .i64 k/\vo=.slice (some ⟨g,0,none⟩) (L.length+k) cap/\Hid (wi.ownsRow (w.heap.size+1) 110 5 (.slice (some ⟨g,0,none⟩) (L.length+k) cap) (L.length+k) (stepsV (L++M.take k)))/\Hid (w.heap.size+1<=g/\g<wi.heap.size/\∀b o,B=some ⟨b,o,none⟩->g≠b)/\Hid (CellsAt wi B (stepsV M))/\Hid (PlBox wi w.heap.size kind n r (some ⟨bA,oA,none⟩) q.len c)/\Hid (w.heap.size+1<wi.heap.size/\Below w.heap.size w wi)) (λ_ vk _=>M.length-(intOf vk).toNat)
   case atStart=>exact⟨0,g,cap,Nat.zero_le _,rfl,rfl,aZ (by rw[List.take_zero,List.append_nil];exact HO2.out),aZ ⟨HG2.out.1,HG2.out.2,HFR.out⟩,HCM,HP2,HB2⟩
   case round=>
    rename World=>wi
    obtain⟨k,g',cap',hk,rfl,rfl,hown,hg,hcm,hp,hbw⟩:=hrel
    clear HFR HO2 HP2 HB2 HG2 HCM
    by_cases hkt:k<M.length
    ·have hkti:(k:Int)<(M.length:Int):=by omega
     obtain⟨x,hx⟩:∃x,M[k]?=some x:=⟨M[k],List.getElem?_eq_getElem hkt⟩
     have hs:=stepsV_at M k x hx
     obtain⟨bB,oB,rfl,c0⟩:=hcm.out _ _ (by rw[hs 0 (by omega)];rfl)
     obtain⟨_,_,e1,c1⟩:=hcm.out _ _ (by rw[hs 1 (by omega)];rfl)
     obtain⟨_,_,e2,c2⟩:=hcm.out _ _ (by rw[hs 2 (by omega)];rfl)
     obtain⟨_,_,e3,c3⟩:=hcm.out _ _ (by rw[hs 3 (by omega)];rfl)
     obtain⟨_,_,e4,c4⟩:=hcm.out _ _ (by rw[hs 4 (by omega)];rfl)
     cases e1;cases e2;cases e3;cases e4
     obtain⟨xd,xk,xn,xr,xA,xl,xc⟩:=x
     simp only[Nat.add_zero] at c0
     rw[<-Nat.add_assoc] at c1 c2 c3 c4
     have hnx:M.take (k+1)=M.take k++[⟨xd,xk,xn,xr,xA,xl,xc⟩]:=by rw[List.take_add_one,hx];rfl
     have HNX:=aZ hnx
     have HBI:Hid (bB<wi.heap.size):=aZ (World.block_lt_of_cell? _ _ c0)
     have hk40:L.length+k+1<=1099511627776:=by omega
     have hsz:=hbw.out.1
     clear hs hx hnx
     go_wp2_with (at_builtin;refine wpList_appL rfl _ _ 106 110 rfl 5 56 (.agg #[.int .i64 0,.int .i64 0,.int .i64 0,.int .i64 0,.slice none 0 0]) Try.underlying106 info_step rfl (by omega) (by omega) (w.heap.size+1) (.slice (some ⟨g',0,none⟩) (L.length+k) cap') (L.length+k) (stepsV (L++M.take k)) rfl (World.ownsRow.alloc hown.out _) _ _ (PN.cells ⟨xd,xk,xn,xr,xA,xl,xc⟩) rfl rfl (cells_five _ _ _ _ _ _ _ _ rfl) (one_step _) hk40 (by simp;omega) ?_;intro g2 cap2 w4 hO hG hL2)
     rw[<-stepsV_app,List.append_assoc,<-HNX.out] at hO
     have hba:Below wi.heap.size wi (wi.alloc (.cells #[.int .i64 xd,.int .i64 xk,.int .i64 xn,.int .i64 xr,.slice xA xl xc] 110)):=(Below.refl _ wi).alloc (Nat.le_refl _) _
     have hga:(wi.alloc (.cells #[.int .i64 xd,.int .i64 xk,.int .i64 xn,.int .i64 xr,.slice xA xl xc] 110)).heap.size=wi.heap.size+1:=by simp
     have hG2:=hG.out
     have hne:∀b,b≠g'->(Value.slice (some ⟨g',0,none⟩) (L.length+k) cap').ownBlock≠some b:=λb h e=>h (by cases e;rfl)
     have HON:=aZ hO.out
     have HGN:Hid (w.heap.size+1<=g2/\g2<w4.heap.size/\∀b o,(some ⟨bB,oB,none⟩:Option Addr)=some ⟨b,o,none⟩->g2≠b):=aZ (by
      have hsz4:=hG2.size
      rcases hL2.out with h|h
      ·have h':g'=g2:=by simpa[Value.ownBlock] using h
       subst h'
       exact⟨hg.out.1,by have:=hg.out.2.1;omega,hg.out.2.2⟩
      ·have h4:=(owns_capN hO.out).2.2
       refine⟨h4.1,h4.2,λb o e=>?_⟩
       cases e
       have:=HBI.out
       omega)
     have HCN:Hid (CellsAt w4 (some ⟨bB,oB,none⟩) (stepsV M)):=aZ ((CellsAt.keep hba hcm.out).grown hG2 (λb o e=>hne b (Ne.symm (hg.out.2.2 b o e))))
     have HPN:Hid (PlBox w4 w.heap.size kind n r (some ⟨bA,oA,none⟩) q.len c):=aZ ((hp.out.below hba).grown hG2 (hne _ (by have:=hg.out.1;omega)))
     have HBN:Hid (w.heap.size+1<w4.heap.size/\Below w.heap.size w w4):=aZ ⟨by have:=hG2.size;omega,(hbw.out.2.trans (hba.mono (by omega))).grown hG2 (by omega) (λb e=>by cases e;show w.heap.size<=g';have:=hg.out.1;omega)⟩
     clear hba hga hG2 hG hL2 hO hne c0 c1 c2 c3 c4 hown hg hcm hp hbw
     go_wp2
     exact⟨⟨k+1,g2,cap2,by omega,by go_num,rfl,HON,HGN,HCN,HPN,HBN⟩,by simp[intOf];omega⟩
    ·obtain rfl:k=M.length:=by omega
     have HLN:Hid ((L++M).map PN.tri=(kind,n,r)::q.upto (i+1)):=aZ (by rw[List.map_append,hL.out,HM.out,HUP.out];rfl)
     have hlen:L.length+M.length=(L++M).length:=by rw[List.length_append]
     have hown':=hown.out
     rw[List.take_length,hlen] at hown'
     have HON:=aZ hown'
     have HGN:Hid (w.heap.size+1<=g'/\g'<wi.heap.size):=aZ ⟨hg.out.1,hg.out.2.1⟩
     have HLE:=aZ hlen
     clear hown' hown hlen hg hcm
     go_wp2
     exact⟨⟨i+1,g',cap',L++M,by omega,by go_num,by rw[<-HLE.out],HON,HLN,HGN,hp,hbw⟩,by simp[intOf];omega⟩
  ·obtain rfl:i=q.len:=by omega
   have HLN:Hid (L.map PN.tri=(kind,n,r)::q.flat):=aZ (by rw[hL.out,upto_len _ _ (Nat.le_refl _)])
   obtain⟨A',c',hA',hcA,-,-,hfr⟩:=owns_cells hown.out
   have hAA:A'=some ⟨g,0,none⟩:=by injection hA' with h1;exact h1.symm
   subst hAA
   have HCA:=aZ hcA
   have HFR:=aZ hg.out.1
   clear hA' hcA hfr hown
   go_wp2
   go_ret
   exact⟨some ⟨g,0,none⟩,cap,L,rfl,HLN.out,HCA.out,λb o e=>by cases e;have:=HFR.out;omega,hbw.out.2⟩
def rootN(k n:Int):Nat:=if k=4 then 2*n.toNat else n.toNat
def oroL:List (Int×Int×Int)->Nat->Option Nat
 |[],a=>some a
 |(k,n,_)::t,a=>if 1099511627776/(rootN k n/Nat.gcd a (rootN k n))<a then none else oroL t (a*(rootN k n/Nat.gcd a (rootN k n)))
def ordV:Option Nat->Nat×Int
 |none=>(0,28)
 |some o=>(o,0)
def ordR(kind n r:Int)(q:Fo):Nat×Int:=
 if checkE kind n r q n≠0 then(0,checkE kind n r q n) else ordV (oroL ((kind,n,r)::q.flat) 1)
def Vld(x:Int×Int×Int):Prop:=0<=x.1/\x.1<=4/\1<=x.2.1/\x.2.1<=32768
theorem bad_valid:∀(fo:Fo) (ws:List Int) (blue:Bool),fo.bad ws blue=0->fo.len=ws.length->(∀x∈ws,1<=x/\x<=32768)->∀x∈fo.flat,Vld x
 |.nil,_,_,_,_,_,x,hx=>by cases hx
 |.cons kind n r kids rest,ws,blue,h,hl,hw,x,hx=>by
   rcases ws with _|⟨w,ws⟩
   ·simp[Fo.len] at hl
   unfold Fo.bad at h
   by_cases h1:nodeE kind n r kids.len ((w::ws).headD 0) blue≠0
   ·rw[if_pos h1] at h;exact absurd h h1
   rw[if_neg h1] at h
   by_cases h2:kids.bad (wantsF kind n r) (blue||kind==4)≠0
   ·rw[if_pos h2] at h;exact absurd h h2
   rw[if_neg h2] at h
   have h1':nodeE kind n r kids.len w blue=0:=Decidable.not_not.1 h1
   have hw0:=hw w (List.mem_cons_self ..)
   obtain⟨k0,k4,_,e3,_,e5,_⟩:=nodeE_zero h1'
   have hq:=node_wants h1' hw0.1 hw0.2
   rw[Fo.flat,List.mem_cons,List.mem_append] at hx
   rcases hx with rfl|hx|hx
   ·exact⟨k0,k4,by rw[e3];exact hw0.1,by rw[e3];exact hw0.2⟩
   ·exact bad_valid kids _ _ (Decidable.not_not.1 h2) e5 hq x hx
   ·exact bad_valid rest ws blue h (by simpa[Fo.len] using hl) (λy hy=>hw y (List.mem_cons_of_mem _ hy)) x hx
theorem check_valid{kind n r:Int}{q:Fo}{want:Int}(h:checkE kind n r q want=0):(∀x∈(kind,n,r)::q.flat,Vld x)/\1+q.count<=64/\n=want:=by
 unfold checkE at h
 by_cases h1:want<1\/32768<want
 ·rw[if_pos h1] at h;omega
 rw[if_neg h1] at h
 by_cases h2:64<1+q.count
 ·rw[if_pos h2] at h;omega
 rw[if_neg h2] at h
 refine⟨λx hx=>bad_valid (.cons kind n r q .nil) [want] false h rfl ?_ x (by rw[Fo.flat];simpa[Fo.flat] using hx),by omega,?_⟩
 ·intro y hy
  simp only[List.mem_cons,List.not_mem_nil,or_false] at hy
  subst hy
  omega
 ·unfold Fo.bad at h
  by_cases h3:nodeE kind n r q.len ([want].headD 0) false≠0
  ·rw[if_pos h3] at h;exact absurd h h3
  ·exact(nodeE_zero (Decidable.not_not.1 h3)).2.2.2.1
theorem oroL_le:∀(l:List (Int×Int×Int)) (a o:Nat),a<=1099511627776->1<=a->(∀x∈l,Vld x)->oroL l a=some o->o<=1099511627776/\1<=o
 |[],a,o,h,h1,_,e=>by injection e with e;omega
 |(k,n,r)::t,a,o,h,h1,hv,e=>by
   rw[oroL] at e
   have hx:=hv (k,n,r) (List.mem_cons_self ..)
   have hm:1<=rootN k n:=by
    have h2:(1:Int)<=n:=hx.2.2.1
    unfold rootN
    split<;>omega
   have hg:1<=Nat.gcd a (rootN k n):=Nat.gcd_pos_of_pos_right _ hm
   have hk:1<=rootN k n/Nat.gcd a (rootN k n):=Nat.div_pos (Nat.gcd_le_right _ hm) hg
   generalize rootN k n/Nat.gcd a (rootN k n)=d at*
   split at e
   ·cases e
   ·rename_i hle
    have:a*d<=1099511627776:=(Nat.le_div_iff_mul_le hk).1 (by omega)
    exact oroL_le t _ o this (Nat.mul_pos h1 hk) (λy hy=>hv y (List.mem_cons_of_mem _ hy)) e
theorem Tri.other{w:World}{b b' o:Nat}{x y z:Int}(h:Tri w b x y z)(u:Value)(hne:b'≠b):Tri (w.setCell ⟨b',o,none⟩ u) b x y z:=by
 have e:∀j,(w.setCell ⟨b',o,none⟩ u).cell? ⟨b,j,none⟩=w.cell? ⟨b,j,none⟩:=λj=>by
  rw[World.cell?_setCell_other]
  intro h;exact hne (congrArg Addr.block h)
 exact⟨by rw[e];exact h.1,by rw[e];exact h.2.1,by rw[e];exact h.2.2⟩
theorem RRootN_any(kind n r:Int)(A:Option Addr)(l c:Nat)(w:World)(hv:Vld (kind,n,r)):
  Calls Try.prog 64 #[plV kind n r A l c] w (Ret w (.int .i64 (rootN kind n:Nat))):=by
 obtain⟨h1,h2,h3,h4⟩:=hv
 dsimp only at h1 h2 h3 h4
 obtain⟨m,rfl⟩:∃m:Nat,n=m:=⟨n.toNat,by omega⟩
 have FIN:Hid (∀t,Below w.heap.size w (w.alloc (.cells #[.int .i64 kind,.int .i64 m,.int .i64 r,.slice A l c] t))):=aZ (λt=>(Below.refl _ w).alloc (Nat.le_refl _) _)
 by_cases k4:kind=4
 ·subst k4
  have e:((rootN 4 m:Nat):Int)=2*(m:Int):=by unfold rootN;rw[if_pos rfl];show((2*m:Nat):Int)=_;omega
  rw[e]
  clear e
  go_enter Try.func64,Try.ntmps64
  go_wp2
  go_ret
  exact⟨rfl,FIN.out _⟩
 ·have e:((rootN kind m:Nat):Int)=(m:Int):=by unfold rootN;rw[if_neg k4];rfl
  rw[e]
  have k4i:(kind==4)=false:=by simpa using k4
  clear e
  go_enter Try.func64,Try.ntmps64
  go_wp2
  go_ret
  exact⟨rfl,FIN.out _⟩
theorem ROrder_any(kind n r:Int)(q:Fo)(hN:q.count<=549755813888)(w:World)(A:Option Addr)(c:Nat)(hk:Kids w A 0 q):
  Calls Try.prog 38 #[plV kind n r A q.len c] w (Ret w (.tuple #[.int .i64 ((ordR kind n r q).1:Nat),.int .i64 (ordR kind n r q).2])):=by
 have FIN:Hid (∀t,Below w.heap.size w (w.alloc (.cells #[.int .i64 kind,.int .i64 n,.int .i64 r,.slice A q.len c] t))):=aZ (λt=>(Below.refl _ w).alloc (Nat.le_refl _) _)
 have HC:=aZ (λw h=>RCheck_any kind n r q n (by omega) w A c h)
 have HEA:=aZ (λw h=>(REach_all (.cons kind n r q .nil)).1 hN w A c 0 h)
 have HK:=aZ hk
 unfold ordR
 clear hk hN
 by_cases he:checkE kind n r q n=0
 ·rw[if_neg (by simp[he])]
  obtain⟨hv,hc64,-⟩:=check_valid he
  rw[he] at HC
  have hl64:(((kind,n,r)::q.flat:List (Int×Int×Int))).length<=64:=by rw[List.length_cons,flat_len];omega
  obtain⟨R,hR⟩:∃R,oroL ((kind,n,r)::q.flat) 1=R:=⟨_,rfl⟩
  rw[hR]
  have HR:=aZ hR
  have HV:=aZ hv
  generalize (((kind,n,r)::q.flat:List (Int×Int×Int)))=F at*
  obtain⟨v,hv2⟩:∃v:Nat×Int,ordV R=v:=⟨_,rfl⟩
  rw[hv2]
  have HVV:=aZ hv2
  clear hR hv hv2 he hc64
  go_enter Try.func38,Try.ntmps38
  go_wp2_with fail
  have hP:=PlBox.new w kind n r A q.len c 29
  refine(HC.out _ (HK.out.below (FIN.out _))).mono ?_
  rintro z w1 ⟨⟨a,rfl⟩,hb1⟩
  obtain⟨p0,p1,p2,p3⟩:=hP.below hb1
  have HB:Hid (w.heap.size<w1.heap.size/\Below w.heap.size w w1):=aZ ⟨Nat.lt_of_lt_of_le (by simp) hb1.size,(FIN.out _).trans (hb1.mono (by simp))⟩
  clear hb1 hP
  go_wp2_with fail
  refine(HEA.out _ (HK.out.below HB.out.2)).mono ?_
  rintro z w2 ⟨B,c',L,rfl,hL,hcl,-,hb2⟩
  have HL:=aZ hL
  have HCL:=aZ hcl
  have HB2:Hid (w.heap.size<w2.heap.size/\Below w.heap.size w w2):=aZ ⟨Nat.lt_of_lt_of_le HB.out.1 hb2.size,HB.out.2.trans (hb2.mono (by have:=HB.out.1;omega))⟩
  have hll:L.length<=64:=by rw[<-hL,List.length_map] at hl64;exact hl64
  clear hb2 hL hcl p0 p1 p2 p3 HB HEA HC hl64
  go_wp2
  go_loopw [7,8] (λva vi wr=>∃(i a:Nat),i<=L.length/\vi=.int .i64 i/\va=.int .i64 a/\1<=a/\a<=1099511627776/\Hid (oroL (F.drop i) a=R)/\Hid (Below w2.heap.size w2 wr)) (λ_ vi _=>L.length-(intOf vi).toNat)
  case atStart=>exact⟨0,1,Nat.zero_le _,rfl,rfl,by omega,by omega,HR,aZ (Below.refl _ _)⟩
  case round=>
   obtain⟨i,a,hi,rfl,rfl,ha1,ha2,hr,hbw⟩:=hrel
   clear HR
   have hcl:=CellsAt.keep hbw.out HCL.out
   by_cases hlt:i<L.length
   ·have hlti:(i:Int)<(L.length:Int):=by omega
    obtain⟨x,hx⟩:∃x,L[i]?=some x:=⟨L[i],List.getElem?_eq_getElem hlt⟩
    have hs:=stepsV_at L i x hx
    obtain⟨bB,oB,rfl,c1⟩:=hcl _ _ (by rw[hs 1 (by omega)];rfl)
    obtain⟨_,_,e2,c2⟩:=hcl _ _ (by rw[hs 2 (by omega)];rfl)
    obtain⟨_,_,e3,c3⟩:=hcl _ _ (by rw[hs 3 (by omega)];rfl)
    obtain⟨_,_,e4,c4⟩:=hcl _ _ (by rw[hs 4 (by omega)];rfl)
    cases e2;cases e3;cases e4
    obtain⟨xd,xk,xn,xr,xA,xl,xc⟩:=x
    rw[<-Nat.add_assoc] at c1 c2 c3 c4
    have hFi:F[i]?=some (xk,xn,xr):=by rw[<-HL.out,List.getElem?_map,hx];rfl
    have hdr:F.drop i=(xk,xn,xr)::F.drop (i+1):=by
     rw[List.getElem?_eq_some_iff] at hFi
     obtain⟨hlt',he⟩:=hFi
     rw[List.drop_eq_getElem_cons hlt',he]
    have hvx:=HV.out _ (List.mem_of_getElem? hFi)
    have hro:=hr.out
    rw[hdr,oroL] at hro
    have HRO:=aZ (λw=>RRootN_any xk xn xr xA xl xc w hvx)
    have hm1:1<=rootN xk xn/\rootN xk xn<=65536:=by
     have h2:(1:Int)<=xn:=hvx.2.2.1
     have h3:xn<=32768:=hvx.2.2.2
     unfold rootN
     split<;>omega
    obtain⟨m,hm⟩:∃m,rootN xk xn=m:=⟨_,rfl⟩
    rw[hm] at hro HRO hm1
    have HG:=aZ (λw=>Gcd_any a m (by omega) (by omega) w)
    have hg1:1<=Nat.gcd a m:=Nat.gcd_pos_of_pos_right _ (by omega)
    have hg2:Nat.gcd a m<=m:=Nat.gcd_le_right _ (by omega)
    obtain⟨g,hg⟩:∃g,Nat.gcd a m=g:=⟨_,rfl⟩
    rw[hg] at hro HG hg1 hg2
    have hd1:1<=m/g:=Nat.div_pos hg2 hg1
    have hd2:m/g<=m:=Nat.div_le_self _ _
    have hdv:(m:Int).tdiv g=((m/g:Nat):Int):=by rw[Int.tdiv_eq_ediv_of_nonneg (by omega)];omega
    obtain⟨d,hd⟩:∃d,m/g=d:=⟨_,rfl⟩
    rw[hd] at hro hd1 hd2 hdv
    have hmx:(1099511627776:Int).tdiv d=((1099511627776/d:Nat):Int):=by rw[Int.tdiv_eq_ediv_of_nonneg (by omega),Int.natCast_ediv];rfl
    have hmd:1099511627776/d<=1099511627776:=Nat.div_le_self _ _
    have HMU:=aZ (Nat.le_div_iff_mul_le (k:=d) (x:=a) (y:=1099511627776) hd1)
    obtain⟨Q,hQ⟩:∃Q,1099511627776/d=Q:=⟨_,rfl⟩
    rw[hQ] at hro hmx hmd HMU
    have hg0:¬(g:Int)=0:=by omega
    have hg3:((g:Int)==0)=false:=by rw[beq_eq_false_iff_ne];omega
    have hd0:¬(d:Int)=0:=by omega
    have hd3:((d:Int)==0)=false:=by rw[beq_eq_false_iff_ne];omega
    by_cases hQa:Q<a
    ·rw[if_pos hQa] at hro
     have hQi:(Q:Int)<(a:Int):=by omega
     have hv0:v=(0,28):=by rw[<-HVV.out,<-hro];rfl
     subst hv0
     clear hs hx hFi hdr hvx hr hro hm hg hd hQ hcl
     go_wp2_with fail
     refine(HRO.out _).mono ?_
     rintro z w3 ⟨rfl,hb3⟩
     have HB3:=aZ (HB2.out.2.trans ((hbw.out.trans (hb3.mono hbw.out.size)).mono (by have:=HB2.out.1;omega)))
     clear hb3 c1 c2 c3 c4
     go_wp2_with fail
     refine(HG.out _).mono ?_
     rintro z w' ⟨rfl,rfl⟩
     go_wp2
     go_ret2
     exact⟨rfl,HB3.out⟩
    ·rw[if_neg hQa] at hro
     have hQi:¬(Q:Int)<(a:Int):=by omega
     have HRN:=aZ hro
     have hpr:a*d<=1099511627776:=HMU.out.1 (by omega)
     have hpi:(a:Int)*(d:Int)=((a*d:Nat):Int):=(Int.natCast_mul a d).symm
     have hp1:1<=a*d:=Nat.mul_pos ha1 hd1
     obtain⟨P,hP⟩:∃P,a*d=P:=⟨_,rfl⟩
     rw[hP] at HRN hpr hpi hp1
     clear hs hx hFi hdr hvx hr hro hm hg hd hQ hcl hP
     go_wp2_with fail
     refine(HRO.out _).mono ?_
     rintro z w3 ⟨rfl,hb3⟩
     have HB3:=aZ (hbw.out.trans (hb3.mono hbw.out.size))
     clear hb3 c1 c2 c3 c4
     go_wp2_with fail
     refine(HG.out _).mono ?_
     rintro z w' ⟨rfl,rfl⟩
     go_wp2
     exact⟨⟨i+1,P,by omega,by go_num,rfl,hp1,hpr,HRN,HB3⟩,by simp[intOf];omega⟩
   ·obtain rfl:i=L.length:=by omega
    have hv0:v=(a,0):=by
     have hl:F.length=L.length:=by rw[<-HL.out,List.length_map]
     have:=hr.out
     rw[<-hl,List.drop_length] at this
     rw[<-HVV.out,<-this]
     rfl
    subst hv0
    clear hr hcl
    go_wp2
    go_ret2
    exact⟨rfl,HB2.out.2.trans (hbw.out.mono (by have:=HB2.out.1;omega))⟩
 ·rw[if_pos he]
  have hei:(checkE kind n r q n != 0)=true:=by simpa using he
  generalize checkE kind n r q n=e at*
  clear he HEA
  go_enter Try.func38,Try.ntmps38
  go_wp2_with fail
  refine(HC.out _ (HK.out.below (FIN.out _))).mono ?_
  rintro z w1 ⟨⟨a,rfl⟩,hb1⟩
  have HB:=aZ ((FIN.out _).trans (hb1.mono (by simp)))
  clear hb1
  go_wp2
  go_ret2
  exact⟨rfl,HB.out⟩
section
variable {q : Nat} [NeZero q]
def hq(q:Nat)[NeZero q](a:Int):Fin q:=Fin.ofNat q (a%(q:Int)).toNat
theorem q_pos:(0:Int)<(q:Int):=by have:=NeZero.ne q;omega
theorem hq_val(a:Int):(((hq q a).val:Nat):Int)=a%q:=by
 have h0:(0:Int)<(q:Int):=q_pos
 have h1:=Int.emod_nonneg a (by omega:(q:Int)≠0)
 have h2:=Int.emod_lt_of_pos a h0
 show(((a%(q:Int)).toNat%q:Nat):Int)=a%q
 rw[Nat.mod_eq_of_lt (by omega)]
 omega
omit [NeZero q] in
theorem fin_int{a b:Fin q}(h:((a.val:Nat):Int)=((b.val:Nat):Int)):a=b:=Fin.ext (by omega)
theorem hq_nat(n:Nat):hq q (n:Int)=Fin.ofNat q n:=by
 apply fin_int
 rw[hq_val]
 show(n:Int)%q=((n%q:Nat):Int)
 rw[Int.natCast_emod]
theorem hq_mod(a:Int):hq q (a%q)=hq q a:=by
 apply fin_int
 rw[hq_val,hq_val,Int.emod_emod]
theorem hq_add(a b:Int):hq q (a+b)=hq q a+hq q b:=by
 apply fin_int
 rw[hq_val,Fin.val_add,Int.natCast_emod,Int.natCast_add,hq_val,hq_val,<-Int.add_emod]
theorem hq_mul(a b:Int):hq q (a*b)=hq q a*hq q b:=by
 apply fin_int
 rw[hq_val,Fin.val_mul,Int.natCast_emod,Int.natCast_mul,hq_val,hq_val,<-Int.mul_emod]
theorem hq_q:hq q (q:Int)=0:=by
 apply fin_int
 rw[hq_val,Int.emod_self]
 rfl
theorem hq_zero:hq q 0=0:=by
 apply fin_int
 rw[hq_val,Int.zero_emod]
 rfl
theorem hq_sub(a b:Int):hq q (a-b)=hq q a-hq q b:=by
 have h:hq q a=hq q (a-b)+hq q b:=by
  rw[<-hq_add]
  congr 1
  omega
 rw[h]
 grind
theorem hq_one:hq q 1=1:=by
 apply fin_int
 rw[hq_val]
 show(1:Int)%q=((1%q:Nat):Int)
 rw[Int.natCast_emod]
 rfl
theorem hq_inj{a b:Int}(a0:0<=a)(a1:a<q)(b0:0<=b)(b1:b<q)(h:hq q a=hq q b):a=b:=by
 have h1:=hq_val (q:=q) a
 have h2:=hq_val (q:=q) b
 rw[h,h2,Int.emod_eq_of_lt b0 b1,Int.emod_eq_of_lt a0 a1] at h1
 omega
theorem hq_many(n:Nat):hq q (n:Int)=sumF n λ_=>1:=by
 induction n with
 |zero=>rw[sumF_nil];exact hq_zero
 |succ n ih=>rw[sumF_succ,<-ih,Int.natCast_add,hq_add];congr 1;exact hq_one
omit [NeZero q] in
theorem rootR_pow{v o n:Nat}(n1:1<=n)(hn:n∣o)(o1:1<=o)(k:Int):rootR q v o k n=v^(o/n*(k%(n:Int)).toNat)%q:=by
 unfold rootR
 have hle:=Nat.le_of_dvd o1 hn
 rw[if_neg (by omega),if_neg (by
  rw[<-Int.natCast_emod,Nat.mod_eq_zero_of_dvd hn]
  decide)]
 unfold pmod
 rw[Int.toNat_natCast,<-Nat.pow_mod,<-Nat.pow_mul,Nat.pow_mod,Nat.mod_mod,<-Nat.pow_mod]
theorem hom_law{v o:Nat}(hp:Prm q)(O:Ord v o q)(hoq:o<q):Hom (lawRg q v o) o (rtF q v o) (hq q) where
 rts:=O.rts hp
 zero:=hq_zero
 one:=hq_one
 add a b:=by
  show hq q ((a+b)%q)=_
  rw[hq_mod,hq_add]
 sub a b:=by
  show hq q ((a-b+q)%q)=_
  rw[hq_mod,hq_add,hq_q,hq_sub]
  grind
 mul a b:=by
  show hq q (a*b%q)=_
  rw[hq_mod,hq_mul]
 over a n n1 hn:=by
  show hq q ((overN q a n:Nat):Int)*hq q n=hq q a
  have hle:=Nat.le_of_dvd O.o1 hn
  have hf:=fermat hp (a:=n) (λh=>by have:=Nat.le_of_dvd n1 h;omega)
  have h2:=hp.1
  have e:pw q n (q-1)=pw q n (q-2)*Fin.ofNat q n:=by
   rw[show q-1=q-2+1 from by omega,pw_add]
   unfold pw
   rw[Nat.pow_one]
  rw[hq_nat,hq_nat]
  unfold overN
  have e2:Fin.ofNat q ((a%(q:Int)).toNat*pmod (((n:Nat):Int)%(q:Int)).toNat (q-2) q%q)=hq q a*pw q n (q-2):=by
   rw[show ∀x:Nat,Fin.ofNat q (x%q)=Fin.ofNat q x from λx=>ofNat_congr (Nat.mod_mod _ _),ofNat_mul]
   congr 1
   unfold pw pmod
   apply ofNat_congr
   rw[Nat.mod_mod,<-Int.natCast_emod,Int.toNat_natCast,<-Nat.pow_mod]
  rw[e2]
  rw[e] at hf
  grind
 many n:=hq_many n
 root k n n1 hn:=by
  show hq q ((rootR q v o k n:Nat):Int)=rtF q v o k n
  rw[hq_nat,rootR_pow n1 hn O.o1]
  exact ofNat_congr (Nat.mod_mod _ _)
end
theorem ordL_fix(a n:Nat):∀(l:List Nat) (e:Nat),1<=e->(∀p∈l,2<=p)->ordL a n l e<=e/\(ordL a n l e=e->∀p∈l,e%p=0->pmB a (e/p) n≠pmB 1 1 n)
 |[],e,_,_=>⟨Nat.le_refl _,λ_ p hp=>by cases hp⟩
 |p::l,e,h1,h2=>by
   have hp:=h2 p (List.mem_cons_self ..)
   have hb:=ordD_bd 64 a n e p h1 hp
   have ih:=ordL_fix a n l (ordD 64 a n e p) hb.1 (λx hx=>h2 x (List.mem_cons_of_mem _ hx))
   rw[ordL]
   refine⟨by omega,λh=>?_⟩
   have h3:ordD 64 a n e p=e:=by omega
   rw[h3] at ih
   have ih2:=ih.2 (by rw[h3] at h;exact h)
   intro x hx hm
   rcases List.mem_cons.1 hx with rfl|hx
   ·intro he
    rw[show(64:Nat)=63+1 from rfl,ordD_step,if_pos hm,if_pos he] at h3
    have h4:e/x<e:=Nat.div_lt_self (by omega) (by omega)
    have h5:1<=e/x:=by
     apply Nat.one_le_iff_ne_zero.2
     intro h0
     have:=Nat.div_add_mod e x
     rw[h0,hm] at this
     omega
    have h6:=ordD_bd 63 a n (e/x) x h5 (by omega)
    omega
   ·exact ih2 x hx hm
theorem facL_dvd(f:Nat):∀n p,∀r∈facL f n p,r∣n:=by
 induction f with
 |zero=>intro n p r h;cases h
 |succ f ih=>
   intro n p r h
   rw[facL,bif_le] at h
   by_cases h1:n<=1
   ·rw[if_pos h1] at h;cases h
   rw[if_neg h1,bif_le] at h
   by_cases h2:p*p<=n
   ·rw[if_pos h2,bif_eq] at h
    by_cases h3:n%p=0
    ·rw[if_pos h3] at h
     rcases List.mem_cons.1 h with rfl|h
     ·exact Nat.dvd_of_mod_eq_zero h3
     ·exact Nat.dvd_trans (ih _ _ r h) (strip_of 64 n p)
    ·rw[if_neg h3] at h
     exact ih _ _ r h
   ·rw[if_neg h2] at h
    rcases List.mem_cons.1 h with rfl|h
    ·exact Nat.dvd_refl _
    ·cases h
theorem Rooted.gen{p:Nat}(R:Rooted p):Ord (rootB p) (p-1) p:=by
 have h3:=R.p3
 have hle:=R.le
 refine ord_of (by omega) (by omega) (by omega) R.one λr hr=>?_
 have hr2:=facL_ge (p-1) (p-1) 2 (by omega) r hr
 have hfix:=(ordL_fix (rootB p) p (facL (p-1) (p-1) 2) (p-1) (by omega) (λx hx=>(facL_ge _ _ 2 (by omega) x hx).1)).2 R.ord r hr (Nat.mod_eq_zero_of_dvd (facL_dvd _ _ _ r hr))
 have hdl:(p-1)/r<=p-1:=Nat.div_le_self _ _
 rw[pmB_eq _ _ _ (by omega) (by omega),pmB_eq _ _ _ (by omega) (by omega)] at hfix
 unfold pmod at hfix
 rw[Nat.one_pow,Nat.mod_eq_of_lt (by omega:1<p)] at hfix
 exact hfix
theorem ord_pow_ne{v o q:Nat}(O:Ord v o q)(k:Nat):v^k%q≠0:=by
 intro h
 have h1:v^(o*k)%q=1:=one_pow_mod O.q2 O.one k
 have h2:v^(o*k)%q=0:=by
  obtain⟨o',ho⟩:∃o',o=o'+1:=⟨o-1,by have:=O.o1;omega⟩
  rw[ho,Nat.add_mul,Nat.one_mul,Nat.pow_add,Nat.mul_mod,h,Nat.mul_zero,Nat.zero_mod]
 omega
theorem ord_inj{v o q:Nat}(O:Ord v o q){k l:Nat}(hk:k<o)(hl:l<o)(hkl:k<=l)(h:v^k%q=v^l%q):k=l:=by
 apply Classical.byContradiction
 intro hne
 have h1:v^(k+(o-l))%q=1:=by
  rw[Nat.pow_add,Nat.mul_mod,h,<-Nat.mul_mod,<-Nat.pow_add,Nat.add_sub_cancel' (by omega)]
  exact O.one
 have h2:=Nat.le_of_dvd (by omega) (O.least _ h1)
 omega
theorem Rooted.pws{p:Nat}(R:Rooted p):Pws p (pwF p) where
 pos k hk:=by
  have:=ord_pow_ne R.gen k
  unfold pwF pmod
  omega
 lt k hk:=by
  have:=R.p3
  exact Nat.mod_lt _ (by omega)
 inj k l hk hl h:=by
  rcases Nat.le_total k l with e|e
  ·exact ord_inj R.gen hk hl e h
  ·exact(ord_inj R.gen hl hk e h.symm).symm
 mul k l hk hl:=by
  unfold pwF pmod
  rw[Nat.mod_mod,<-Nat.mul_mod,<-Nat.pow_add]
  have h3:=R.p3
  have h:=Nat.mod_add_div (k+l) (p-1)
  have:rootB p^(k+l)=rootB p^((k+l)%(p-1)+(p-1)*((k+l)/(p-1))):=by rw[h]
  rw[this,Nat.pow_add,Nat.mul_mod,one_pow_mod (by omega) R.gen.one,Nat.mul_one,Nat.mod_mod]
section
variable {q : Nat} [NeZero q] {N : Nat} {rt : Int -> Nat -> Fin q} {R : Rg Int} {h : Int -> Fin q}
def Fo.AllD(R:Rg Int)(rt:Int->Nat->Fin q)(h:Int->Fin q):Fo->Prop
 |.nil=>True
 |.cons kind n r kids rest=>(∀s:Int,s=1\/s=-1->∀(x:Nat->Int) (j:Nat),j<n.toNat->h (nodeF R pwF kind n.toNat r.toNat kids.sizes (kids.runs R pwF) s x j)=dft rt n.toNat s (λk=>h (x k)) j)/\rest.AllD R rt h
theorem root_dvd{k n:Int}{N:Nat}(h:rootN k n∣N):n.toNat∣N:=by
 unfold rootN at h
 by_cases e:k=4
 ·rw[if_pos e] at h
  exact Nat.dvd_trans ⟨2,by rw[Nat.mul_comm]⟩ h
 ·rw[if_neg e] at h
  exact h
theorem runs_dft(H:Hom R N rt h):∀fo:Fo,fo.Fine->(∀x∈fo.flat,rootN x.1 x.2.1∣N)->fo.AllD R rt h
 |.nil,_,_=>trivial
 |.cons kind n r kids rest,⟨hf,hk,hr⟩,hd=>by
   have ihk:=runs_dft H kids hk (λx hx=>hd x (List.mem_cons_of_mem _ (List.mem_append_left _ hx)))
   have ihr:=runs_dft H rest hr (λx hx=>hd x (List.mem_cons_of_mem _ (List.mem_append_right _ hx)))
   have hown:=hd (kind,n,r) (List.mem_cons_self ..)
   refine⟨λs hs x j hj=>?_,ihr⟩
   have hnN:=root_dvd hown
   obtain⟨M,rfl,h1,h2,hc⟩:=hf
   have e:(M:Int).toNat=M:=Int.toNat_natCast M
   rw[e] at hj hnN|-
   rcases hc with⟨rfl,rfl,-⟩|⟨rfl,p,d,rfl,hp,hd1,hpd,hsz⟩|⟨rfl,rfl,-,ex,he⟩|⟨rfl,rfl,hR,hsz⟩|⟨rfl,rfl,hN,m,hm,hm2,hsz⟩
   ·exact direct_dft H h1 hnN hs x j
   ·obtain⟨a0,n0,r0,q0,a1,n1,r1,q1,rfl,e0,e1⟩:=sizes_two hsz
    obtain⟨c0,c1,-⟩:=ihk
    subst hpd
    show h (radixF R (p*d) p (nodeF R pwF a0 n0.toNat r0.toNat q0.sizes (q0.runs R pwF)) (nodeF R pwF a1 n1.toNat r1.toNat q1.sizes (q1.runs R pwF)) s x j)=_
    generalize nodeF R pwF a0 n0.toNat r0.toNat q0.sizes (q0.runs R pwF)=K0 at c0|-
    generalize nodeF R pwF a1 n1.toNat r1.toNat q1.sizes (q1.runs R pwF)=K1 at c1|-
    rw[e0] at c0
    rw[e1] at c1
    exact radix_dft H (by omega) hd1 hnN hs _ _ (λx j hj=>c0 s hs x j hj) (λx j hj=>c1 s hs x j hj) x j hj
   ·exact split_dft H hs M M ex he (by omega) hnN x j hj
   ·obtain⟨a0,n0,r0,q0,rfl,e0⟩:=sizes_one hsz
    obtain⟨c0,-⟩:=ihk
    have hkid:=root_dvd (hd (a0,n0,r0) (List.mem_cons_of_mem _ (List.mem_append_left _ (List.mem_cons_self ..))))
    show h (raderF R M (pwF M) (nodeF R pwF a0 n0.toNat r0.toNat q0.sizes (q0.runs R pwF)) s x j)=_
    generalize nodeF R pwF a0 n0.toNat r0.toNat q0.sizes (q0.runs R pwF)=K0 at c0|-
    rw[e0] at c0 hkid
    exact rader_dft H hR.p3 hnN hkid hs _ (λs hs x j hj=>c0 s hs x j hj) hR.pws x j hj
   ·obtain⟨a0,n0,r0,q0,rfl,e0⟩:=sizes_one hsz
    obtain⟨c0,-⟩:=ihk
    have hkid:=root_dvd (hd (a0,n0,r0) (List.mem_cons_of_mem _ (List.mem_append_left _ (List.mem_cons_self ..))))
    have hown2:2*M∣N:=hown
    have hK:(Fo.cons a0 n0 r0 q0 .nil).sizes.getD 0 0=m:=by rw[hsz];rfl
    show h (blueF R M ((Fo.cons a0 n0 r0 q0 .nil).sizes.getD 0 0) (nodeF R pwF a0 n0.toNat r0.toNat q0.sizes (q0.runs R pwF)) s x j)=_
    rw[hK]
    generalize nodeF R pwF a0 n0.toNat r0.toNat q0.sizes (q0.runs R pwF)=K0 at c0|-
    rw[e0] at c0 hkid
    exact blue_dft H h1 hown2 hkid hm hs _ (λs hs x j hj=>c0 s hs x j hj) x j hj
end
end Go.Proofs.Yteaimnemobnknaa
