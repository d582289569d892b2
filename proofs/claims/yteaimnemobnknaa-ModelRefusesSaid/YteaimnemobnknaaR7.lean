/- The split radix, over any ring. -/
import Derived.Test.YteaimnemobnknaaX0
import Derived.Test.YteaimnemobnknaaZ3
import Derived.Test.YteaimnemobnknaaMR1
import Derived.Great.BuildSlice
set_option maxRecDepth 100000
set_option maxHeartbeats 16000000
set_option linter.unusedSimpArgs false
set_option linter.unusedVariables false
namespace Go.Proofs.Yteaimnemobnknaa
open Go.RowKit Go.Lib
section
variable {M : Mem} {ρ : RingV}
theorem wp_cons{o:Oper}{a:Act}{w:World}{K:Act->World->Prop}{Q:Exit->Act->World->Prop}(s x:Operand)(ho:o.op=.call {callee:=.builtin .append,args:=#[s,x],argTypes:=#[38,38]})(g0 g1 m q:Nat)(v:Int)(f:Nat->Int)(hs:a.eval s=.slice (some ⟨g0,0,none⟩) 1 1)(hx:a.eval x=.slice (some ⟨g1,0,none⟩) m m)(h0:w.heap[g0]?=some (.cells #[.int .i64 v] 2 (0,0)))(h1:Row w g1 m f)(hm:m<=32768)(hmq:m+1=q)(h:∀A' c' w',Hid (IntsAt w' A' q (consT v f))->Hid (w.grownBy w' (some g0))->K (a.put o.dst (.slice A' q c')) w'):o.wp Try.prog a w K Q:=by
 obtain⟨i0,hi,hz0,hz1,hz2⟩:=info_parts info_int64
 have hown:w.ownsRow g0 2 1 (.slice (some ⟨g0,0,none⟩) 1 1) 1 [.int .i64 v]:=⟨rfl,.inr ⟨g0,1,_,rfl,Nat.le_refl _,h0,by omega,by decide,rfl,rfl⟩⟩
 have hlt:g0<w.heap.size:=by
  have:=(Array.getElem?_eq_some_iff.1 h0).1
  exact this
 refine wp_append_own w s x 38 ho g0 2 i0 (.int .i64 0) 1 8 Try.underlying38 hi hz0 hz1 hz2 rfl (by decide) _ 1 _ hs hown ⟨g1,0,none⟩ m m ((List.range m).map λi=>.int .i64 (f i)) hx (by simp) ?_ ?_ (by unfold maxLen;omega) (by omega) (by omega) ?_
 ·intro j u hj
  rw[List.getElem?_map] at hj
  by_cases hjm:j<m
  ·rw[List.getElem?_range hjm] at hj
   cases hj
   have:=(h1 j hjm).1
   rw[Addr.add]
   split
   ·rename_i e;subst e;exact this
   ·simpa using this
  ·rw[List.getElem?_eq_none (by simp;omega)] at hj
   cases hj
 ·intro u hu
  obtain⟨i,-,rfl⟩:=List.mem_map.1 hu
  rfl
 ·intro v' w' h2 h3 _
  obtain⟨A,c,rfl,hc,-,-,-⟩:=owns_cells h2
  rw[Nat.add_comm 1 m,hmq]
  refine h A c w' (aZ λi hi=>?_) (aZ h3)
  refine hc i _ ?_
  rcases i with _|i
  ·rfl
  ·show((List.range m).map λi=>Value.int .i64 (f i))[i]?=_
   rw[List.getElem?_map,List.getElem?_range (by omega)]
   rfl
theorem wp_one1{o:Oper}{a:Act}{w:World}{K:Act->World->Prop}{Q:Exit->Act->World->Prop}(x:Operand)(v:Int)(ho:o.op=.buildSlice 38 1 #[(0,x)])(hx:a.eval x=.int .i64 v)(h:K (a.put o.dst (.slice (some ⟨w.heap.size,0,none⟩) 1 1)) (w.alloc (.cells #[.int .i64 v] 2))):o.wp Try.prog a w K Q:=by
 obtain⟨i0,hi,hz0,hz1,hz2⟩:=info_parts info_int64
 refine wp_buildSlice _ _ 1 _ ho #[.int .i64 v] i0 (.int .i64 0) Try.underlying38 hi hz0 (by rw[hz1];decide) (by rw[hz1];decide) ?_ h
 rw[hz1]
 have hr:Array.range 1=#[0]:=by decide
 simp[hx,Instr.fill,Value.cells,hr]
def Two1(W:World)(v:Int)(m:Nat)(f:Nat->Int)(vi vj:Value)(w2:World):Prop:=
 ∃g0 g1,vi=.slice (some ⟨g0,0,none⟩) 1 1/\vj=.slice (some ⟨g1,0,none⟩) m m/\W.heap.size<=g0/\w2.heap[g0]?=some (.cells #[.int .i64 v] 2 (0,0))/\Row w2 g1 m f/\Below W.heap.size W w2
theorem two1_a{W w2:World}{v:Int}{m:Nat}{f:Nat->Int}(hr:Row w2 (W.drew.alloc (.cells #[.int .i64 v] 2)).heap.size m f)(hb:Below (W.drew.alloc (.cells #[.int .i64 v] 2)).heap.size (W.drew.alloc (.cells #[.int .i64 v] 2)) w2):
  Two1 W v m f (.slice (some ⟨W.heap.size,0,none⟩) 1 1) (.slice (some ⟨(W.drew.alloc (.cells #[.int .i64 v] 2)).heap.size,0,none⟩) m m) w2:=by
 refine⟨_,_,rfl,rfl,Nat.le_refl _,?_,hr,?_⟩
 ·rw[hb.block _ (by simp)]
  exact heap_alloc_new W.drew _
 ·exact((Below.refl W.heap.size W).drew.alloc (Nat.le_refl _) _).trans (hb.mono (by simp))
theorem two1_b{W w1:World}{v:Int}{m:Nat}{f:Nat->Int}(hz:W.drew.heap.size<w1.heap.size)(hr:Row w1 W.drew.heap.size m f)(hb:Below W.drew.heap.size W.drew w1):
  Two1 W v m f (.slice (some ⟨w1.heap.size,0,none⟩) 1 1) (.slice (some ⟨W.drew.heap.size,0,none⟩) m m) (w1.alloc (.cells #[.int .i64 v] 2)):=by
 have h0:Below W.heap.size W w1:=(Below.refl W.heap.size W).drew.trans hb
 refine⟨_,_,rfl,rfl,h0.size,heap_alloc_new w1 _,hr.alloc _,h0.alloc h0.size _⟩
theorem cons_in{f:Nat->Int}{v:Int}(hv:ρ.In v)(hf:AllIn ρ f):AllIn ρ (consT v f):=λi=>by
 unfold consT
 by_cases e:i=0
 ·rw[if_pos e];exact hv
 ·rw[if_neg e];exact hf _
theorem upd_in{f:Nat->Int}(hf:AllIn ρ f){v:Int}(hv:ρ.In v)(j:Nat):AllIn ρ (updT f j v):=λi=>by
 unfold updT
 by_cases e:i=j
 ·rw[if_pos e];exact hv
 ·rw[if_neg e];exact hf i
theorem split_in(H:ρ.Ok M){n:Nat}(h1:1<=n)(h2:n<=65536)(s:Int){e z y h:Nat->Int}(he:AllIn ρ e)(hz:AllIn ρ z)(hy:AllIn ρ y)(hh:AllIn ρ h)(k:Nat):AllIn ρ (splitR ρ.R n s e z y h k):=by
 have r1:=H.ir (s*(k:Int)) n h1 h2
 have r2:=H.ir (s*(-(k:Int))) n h1 h2
 have r3:=H.ir (s*((n/4:Nat):Int)) n h1 h2
 have u:=H.im _ _ r1 (hz k)
 have v:=H.im _ _ r2 (hy k)
 have a:=H.ia _ _ u v
 have d:=H.im _ _ r3 (H.is _ _ u v)
 exact upd_in (upd_in (upd_in (upd_in hh (H.ia _ _ (he _) a) _) (H.is _ _ (he _) a) _) (H.ia _ _ (he _) d) _) (H.is _ _ (he _) d) _
theorem splits_in(H:ρ.Ok M){n:Nat}(h1:1<=n)(h2:n<=65536)(s:Int){e z y:Nat->Int}(he:AllIn ρ e)(hz:AllIn ρ z)(hy:AllIn ρ y)(m:Nat):AllIn ρ (foldT m (splitR ρ.R n s e z y) (λ_=>ρ.R.zero)):=by
 induction m with
 |zero=>exact λ_=>H.iz
 |succ m ihm=>
   rw[foldT_succ]
   exact split_in H h1 h2 s he hz hy ihm m
theorem splitF_in(H:ρ.Ok M)(fu:Nat):∀(n:Nat) (s:Int) (x:Nat->Int),1<=n->n<=65536->AllIn ρ x->AllIn ρ (splitF ρ.R fu n s x):=by
 induction fu with
 |zero=>intro n s x h1 h2 hx;exact direct_in H h1 h2 s hx
 |succ fu ih=>
   intro n s x h1 h2 hx
   unfold splitF
   by_cases h4:n<4
   ·rw[if_pos h4];exact direct_in H h1 h2 s hx
   ·rw[if_neg h4]
    have he:=ih (n/2) s (gathT x 0 2) (by omega) (by omega) (gath_in hx _ _)
    have hz:=ih (n/4) s (gathT x 1 4) (by omega) (by omega) (gath_in hx _ _)
    have hy:=ih (n/4) s (consT (x (n-1)) (gathT x 3 4)) (by omega) (by omega) (λi=>cons_in (hx _) (gath_in hx _ _) i)
    exact splits_in H h1 h2 s he hz hy _
theorem Split_r(H:ρ.Ok M)(s:Int)(hs:s=1\/s=-1)(fu:Nat):∀(n ex:Nat),n=2^ex->n<=fu+1->n<=32768->∀(w:World) (X:Option Addr) (cx:Nat) (x:Nat->Int),IntsAt w X n x->AllIn ρ x->M.St w->
  Calls Try.prog 80 #[rnV ρ s,.slice X n cx] w λz w'=>∃g,z=.returned (.slice (some ⟨g,0,none⟩) n n)/\w.heap.size<=g/\Own M w' g n (splitF ρ.R fu n s x)/\M.On w w':=by
 have HH:=aZ H
 have HS:=aZ hs
 clear H hs
 induction fu with
 |zero=>
   intro n ex hn hf hN w X cx x hX hx hw
   have HX:=aZ hX
   have HI:=aZ hx
   have HW:=aZ hw
   obtain rfl:n=1:=by
    have:=Nat.one_le_two_pow (n:=ex)
    omega
   clear hX hx hw hn hf hN
   go_enter Try.func80,Try.ntmps80
   go_wp2_with fail
   have hb1:=(HH.out.mem.on_refl HW.out).below HH.out.mem ((Below.refl _ w).alloc (Nat.le_refl _) (.cells #[.iface ρ.t ρ.v,.int .i64 s] 89))
   refine(Direct_r HH.out X 1 cx s x _ (HX.out.keepM HH.out.mem hb1 HW.out) HI.out (by omega) hb1.st).mono ?_
   rintro z w1 ⟨g,rfl,hg,ho,hb2⟩
   have HB:=aZ (hb1.trans HH.out.mem hb2)
   have HO:=aZ ho
   have HG:Hid (w.heap.size<=g):=aZ (by have:=HH.out.mem.size hb1.fr;omega)
   clear hb1 hb2 ho hg
   go_wp2
   go_ret
   exact⟨g,rfl,HG.out,HO.out,HB.out⟩
 |succ fu ih=>
   intro n ex hn hf hN w X cx x hX hx hw
   have IH:=aZ ih
   have HX:=aZ hX
   have HI:=aZ hx
   have HW:=aZ hw
   clear hX hx hw ih
   by_cases h4:n<4
   ·have HD:Hid (splitF ρ.R (fu+1) n s x=directF ρ.R n s x):=aZ (by unfold splitF;rw[if_pos h4])
    have hn0:1<=n:=by rw[hn];exact Nat.one_le_two_pow
    have h4i:(n:Int)<4:=by omega
    clear hn
    go_enter Try.func80,Try.ntmps80
    go_wp2_with fail
    have hb1:=(HH.out.mem.on_refl HW.out).below HH.out.mem ((Below.refl _ w).alloc (Nat.le_refl _) (.cells #[.iface ρ.t ρ.v,.int .i64 s] 89))
    refine(Direct_r HH.out X n cx s x _ (HX.out.keepM HH.out.mem hb1 HW.out) HI.out hN hb1.st).mono ?_
    rintro z w1 ⟨g,rfl,hg,ho,hb2⟩
    have HB:=aZ (hb1.trans HH.out.mem hb2)
    have HO:Hid (Own M w1 g n (splitF ρ.R (fu+1) n s x)):=aZ (by rw[HD.out];exact ho)
    have HG:Hid (w.heap.size<=g):=aZ (by have:=HH.out.mem.size hb1.fr;omega)
    clear hb1 hb2 ho hg HD
    go_wp2
    go_ret
    exact⟨g,rfl,HG.out,HO.out,HB.out⟩
   ·obtain⟨q,hq,hq2,hq4,⟨ez,hz⟩⟩:∃q,n=4*q/\n/2=2*q/\n/4=q/\∃e,q=2^e:=by
      rcases ex with _|_|ex
      ·omega
      ·omega
      ·have e1:2^(ex+2)=4*2^ex:=by rw[Nat.pow_add];omega
       exact⟨2^ex,by omega,by omega,by omega,ex,rfl⟩
    have hq1:1<=q:=by omega
    obtain⟨p,hp⟩:∃p,2*q=p:=⟨_,rfl⟩
    rw[hp] at hq2
    have HQE:Hid (p=2^(ez+1)/\q=2^ez):=aZ ⟨by rw[Nat.pow_succ];omega,hz⟩
    have HSF:Hid (splitF ρ.R (fu+1) n s x=foldT q (splitR ρ.R n s (splitF ρ.R fu p s (gathT x 0 2)) (splitF ρ.R fu q s (gathT x 1 4)) (splitF ρ.R fu q s (consT (x (n-1)) (gathT x 3 4)))) (λ_=>ρ.R.zero)):=aZ (by
     rw[splitF]
     show(if n<4 then _ else _)=_
     rw[if_neg h4,hq2,hq4])
    have h4i:¬(n:Int)<4:=by omega
    have hd4:(n:Int)/4=q:=by omega
    have hd4':(n:Int).tdiv 4=q:=by rw[Int.tdiv_eq_ediv_of_nonneg (by omega)];omega
    have hd2:(n:Int)/2=(p:Int):=by omega
    have hpw:IntKind.i64.wrap (p:Int)=p:=wrapI_nat p (by omega)
    obtain⟨qm,hqm⟩:∃qm,q-1=qm:=⟨_,rfl⟩
    obtain⟨nm,hnm⟩:∃nm,n-1=nm:=⟨_,rfl⟩
    have hqw:IntKind.i64.wrap ((q:Int)-1)=(qm:Int):=by rw[IntKind.wrap_i64];omega
    have hnw:IntKind.i64.wrap ((n:Int)-1)=(nm:Int):=by rw[IntKind.wrap_i64];omega
    have hnm0:(0:Int)<=nm:=by omega
    have hnm1:(nm:Int)<n:=by omega
    have hnm2:nm<n:=by omega
    have HQM:Hid (qm+1=q/\qm<=32768):=aZ (by omega)
    have hd2':(n:Int).tdiv 2=(p:Int):=by rw[Int.tdiv_eq_ediv_of_nonneg (by omega)];omega
    have hqf:p<=fu+1:=by omega
    have hqN:p<=32768:=by omega
    have hmk:=mk_int64 n (by omega)
    have HB5:Hid (n<=17592186044416/\p<=17592186044416/\q<=17592186044416/\qm<=17592186044416/\q<=fu+1/\q<=32768/\n<=65536/\q<=65536/\1<=n):=aZ (by omega)
    have HF5:Hid (Fits n 0 2 p/\Fits n 1 4 q/\Fits n 3 4 qm):=aZ ⟨.inr (by omega),.inr (by omega),by unfold Fits;omega⟩
    have HP:Hid (2*q=p/\n=4*q/\n/4=q):=aZ ⟨hp,hq,hq4⟩
    rw[hnm] at HSF
    clear hn hz h4 hf hq2 hq4 hp hq hqm hnm
    go_enter Try.func80,Try.ntmps80
    go_upto_region 5 with(fail)
    obtain⟨W,hW⟩:∃W,W=w.alloc (.cells #[.iface ρ.t ρ.v,.int .i64 s] 89):=⟨_,rfl⟩
    obtain⟨bR,hbR⟩:∃bR,bR=w.heap.size:=⟨_,rfl⟩
    have HON:Hid (M.On w W):=aZ (by rw[hW];exact(HH.out.mem.on_refl HW.out).below HH.out.mem ((Below.refl _ w).alloc (Nat.le_refl _) _))
    have HBX:Hid (W.cell? ⟨bR,0,none⟩=some (.iface ρ.t ρ.v)/\W.cell? ⟨bR,1,none⟩=some (.int .i64 s)):=aZ (by subst hbR hW;exact⟨by simp[go_sem],by simp[go_sem]⟩)
    have HZ:Hid (w.heap.size<=W.heap.size):=aZ (by subst hW;simp)
    rw[<-hW]
    simp only[<-hbR]
    have HST:=aZ HON.out.st
    have HXW:=aZ (HX.out.keepM HH.out.mem HON.out HW.out)
    obtain⟨bX,oX,rfl,hcx⟩:=HXW.out nm hnm2
    have HCX:=aZ hcx
    have HSB:Hid (∀w',Hid (M.On W w')->(w'.cell? ⟨bR,0,none⟩=some (.iface ρ.t ρ.v)/\w'.cell? ⟨bR,1,none⟩=some (.int .i64 s)/\Hid (M.On W w'))):=aZ (λw' h=>⟨on_cell HH.out.mem HST.out h HBX.out.1,on_cell HH.out.mem HST.out h HBX.out.2,h⟩)
    have HSX:Hid (∀w',Hid (M.On W w')->(w'.cell? ⟨bX,oX+nm,none⟩=some (.int .i64 (x nm))/\(w'.cell? ⟨bR,0,none⟩=some (.iface ρ.t ρ.v)/\w'.cell? ⟨bR,1,none⟩=some (.int .i64 s)/\Hid (M.On W w')))):=aZ (λw' h=>⟨on_cell HH.out.mem HST.out h HCX.out,HSB.out w' h⟩)
    have HOR:=aZ (HH.out.mem.on_refl HST.out)
    clear HBX HX hW hbR hcx HCX
    refine wp_region_S (λw'=>(w'.cell? ⟨bR,0,none⟩=some (.iface ρ.t ρ.v)/\w'.cell? ⟨bR,1,none⟩=some (.int .i64 s)/\Hid (M.On W w'))) 5 (by kernel_rfl) ?_
    have hS0:=HSB.out _ (aZ (HOR.out.drew HH.out.mem))
    refine Takes.intro [0,1,2,3] ?_
    repeat(refine Takes.go (v:=?_) hS0 ?_;try simp only[nrm,Act.put])
    refine Takes.nil ?_
    refine wpAnyS_1 4 (λK hK=>?_)
    go_simp
    have HO0:=hS0.2.2
    refine(gather_r HH.out (some ⟨bX,oX,none⟩) n cx 0 2 p x _ (HXW.out.keepM HH.out.mem HO0.out HST.out) HB5.out.1 (by decide) (by decide) HB5.out.2.1 (by decide) HF5.out.1 HO0.out.st).mono ?_
    rintro z w1 ⟨rfl,ho1,hb1⟩
    have HO1:=aZ (HO0.out.trans HH.out.mem hb1)
    have hS1:=HSB.out _ HO1
    have HG1:=aZ ho1
    clear ho1 hb1 HO0
    refine hK.out _ _ (λ_=>hS1) ?_
    clear hK K
    try simp only[nrm,Act.put]
    refine wpAnyS_fin 2 5 ?_
    simp only[nrd]
    go_wp2_with fail
    refine(IH.out p (ez+1) HQE.out.1 hqf hqN _ _ _ _ HG1.out.ints (gath_in HI.out 0 2) HO1.out.st).mono ?_
    rintro z w5 ⟨ge,rfl,-,he,hbe⟩
    obtain⟨E,hE⟩:∃E,splitF ρ.R fu p s (gathT x 0 2)=E:=⟨_,rfl⟩
    have HEI:Hid (AllIn ρ E):=aZ (by rw[<-hE];exact splitF_in HH.out fu p s _ (by omega) (by omega) (gath_in HI.out _ _))
    rw[hE] at he HSF
    clear hE
    have HE:=aZ he
    have HO5:=aZ (HO1.out.trans HH.out.mem hbe)
    clear he hbe HG1 HO1 hS0 hS1
    go_upto_region 6 with(fail)
    refine wp_region_S (λw'=>(w'.cell? ⟨bR,0,none⟩=some (.iface ρ.t ρ.v)/\w'.cell? ⟨bR,1,none⟩=some (.int .i64 s)/\Hid (M.On W w'))) 4 (by kernel_rfl) ?_
    have hS0:=HSB.out _ (aZ (HO5.out.drew HH.out.mem))
    refine Takes.intro [0,1,2] ?_
    repeat(refine Takes.go (v:=?_) hS0 ?_;try simp only[nrm,Act.put])
    refine Takes.nil ?_
    refine wpAnyS_1 3 (λK hK=>?_)
    go_simp
    have HO0:=hS0.2.2
    refine(gather_r HH.out (some ⟨bX,oX,none⟩) n cx 1 4 q x _ (HXW.out.keepM HH.out.mem HO0.out HST.out) HB5.out.1 (by decide) (by decide) HB5.out.2.2.1 (by decide) HF5.out.2.1 HO0.out.st).mono ?_
    rintro z w1 ⟨rfl,ho1,hb1⟩
    have HO1:=aZ (HO0.out.trans HH.out.mem hb1)
    have hS1:=HSB.out _ HO1
    have HG1:=aZ ho1
    have HX5:Hid (M.On w5 w1):=aZ (((HH.out.mem.on_refl HO5.out.st).drew HH.out.mem).trans HH.out.mem hb1)
    clear ho1 hb1 HO0
    refine hK.out _ _ (λ_=>hS1) ?_
    clear hK K
    try simp only[nrm,Act.put]
    refine wpAnyS_fin 2 4 ?_
    simp only[nrd]
    go_wp2_with fail
    refine(IH.out q ez HQE.out.2 HB5.out.2.2.2.2.1 HB5.out.2.2.2.2.2.1 _ _ _ _ HG1.out.ints (gath_in HI.out 1 4) HO1.out.st).mono ?_
    rintro z w6 ⟨gz,rfl,-,hz,hbz⟩
    obtain⟨Z,hZ⟩:∃Z,splitF ρ.R fu q s (gathT x 1 4)=Z:=⟨_,rfl⟩
    have HZI:Hid (AllIn ρ Z):=aZ (by rw[<-hZ];exact splitF_in HH.out fu q s _ hq1 HB5.out.2.2.2.2.2.2.2.1 (gath_in HI.out _ _))
    rw[hZ] at hz HSF
    clear hZ
    have HZR:=aZ hz
    have HO6:=aZ (HO1.out.trans HH.out.mem hbz)
    have HE6:=aZ (HE.out.keep HH.out.mem (HX5.out.trans HH.out.mem hbz) HO5.out.st)
    clear hz hbz HG1 HO1 hS0 hS1 HE HX5
    go_upto_region 7 with(fail)
    refine wp_region_S (λw'=>(w'.cell? ⟨bX,oX+nm,none⟩=some (.int .i64 (x nm))/\(w'.cell? ⟨bR,0,none⟩=some (.iface ρ.t ρ.v)/\w'.cell? ⟨bR,1,none⟩=some (.int .i64 s)/\Hid (M.On W w')))) 12 (by kernel_rfl) ?_
    have hS0:=HSX.out _ (aZ (HO6.out.drew HH.out.mem))
    refine Takes.intro [0,1,2,3,4,5,7,8,9] ?_
    repeat(refine Takes.go (v:=?_) hS0 ?_;try simp only[nrm,Act.put])
    refine Takes.nil ?_
    refine wpAnyS_two (i:=6) (j:=10) (di:=46) (dj:=50) (Two1 w6 (x nm) qm (gathT x 3 4)) (by kernel_rfl) rfl rfl (by decide) (by decide) rfl rfl (λK hK=>?_) (λK hK=>?_) ?_
    ·try simp only[nrm,Act.put] at hK
     refine wp_one1 (.tmp 45) (x nm) rfl (by kernel_rfl) ?_
     have hT1:=HSX.out _ (aZ ((HO6.out.drew HH.out.mem).below HH.out.mem ((Below.refl _ w6.drew).alloc (Nat.le_refl _) (.cells #[.int .i64 (x nm)] 2))))
     refine hK.out _ _ hT1 (λK2 hK2=>?_)
     clear hK K
     try simp only[nrm,Act.put] at hK2|-
     go_simp
     have HOA:=hT1.2.2.2
     refine(gather_any (some ⟨bX,oX,none⟩) n cx 3 4 qm x _ (HXW.out.keepM HH.out.mem HOA.out HST.out) HB5.out.1 (by decide) (by decide) HB5.out.2.2.2.1 (by decide) HF5.out.2.2).mono ?_
     rintro z w1 ⟨rfl,hz,hr,hb⟩
     have hT2:=HSX.out _ (aZ (HOA.out.below HH.out.mem hb))
     have hR:=two1_a hr hb
     exact hK2.out _ _ hT2 hR
    ·try simp only[nrm,Act.put] at hK
     go_simp
     have HOA:=hS0.2.2.2
     refine(gather_any (some ⟨bX,oX,none⟩) n cx 3 4 qm x _ (HXW.out.keepM HH.out.mem HOA.out HST.out) HB5.out.1 (by decide) (by decide) HB5.out.2.2.2.1 (by decide) HF5.out.2.2).mono ?_
     rintro z w1 ⟨rfl,hz,hr,hb⟩
     have HOB:=aZ (HOA.out.below HH.out.mem hb)
     have hT1:=HSX.out _ HOB
     have HHZ:=aZ hz
     have HHR:=aZ hr
     have HHB:=aZ hb
     clear hz hr hb
     refine hK.out _ _ hT1 (λK2 hK2=>?_)
     clear hK K
     try simp only[nrm,Act.put] at hK2|-
     refine wp_one1 (.tmp 45) (x nm) rfl (by kernel_rfl) ?_
     have hT2:=HSX.out _ (aZ (HOB.out.below HH.out.mem ((Below.refl _ w1).alloc (Nat.le_refl _) (.cells #[.int .i64 (x nm)] 2))))
     have hR:=two1_b (v:=x nm) HHZ.out HHR.out HHB.out
     exact hK2.out _ _ hT2 hR
    rintro vi vj w1 hS1 ⟨g0,g1,rfl,rfl,hg0,hg1,hrow,hbl⟩
    have HG0:=aZ hg0
    have HG1:=aZ hg1
    have HRW:=aZ hrow
    have HBL:=aZ hbl
    clear hg0 hg1 hrow hbl hS0
    try simp only[nrm,Act.put]
    refine wpAnyS_1 11 (λK hK=>?_)
    refine wp_cons (.tmp 46) (.tmp 50) rfl g0 g1 qm q (x nm) (gathT x 3 4) (by kernel_rfl) (by kernel_rfl) HG1.out HRW.out HQM.out.2 HQM.out.1 ?_
    intro A' c' w2 hA hg
    have HAP:=hA
    have HBB:Hid (Below w6.heap.size w6 w2):=aZ (HBL.out.grown hg.out HBL.out.size (λk e=>by cases e;exact HG0.out))
    have HX6:=aZ ((HH.out.mem.on_refl HO6.out.st).below HH.out.mem HBB.out)
    have HO2:=aZ (HO6.out.trans HH.out.mem HX6.out)
    have hS2:=HSX.out _ HO2
    clear hA hg HBL HBB HRW HG1 HG0
    refine hK.out _ _ (λ_=>hS2) ?_
    clear hK K
    try simp only[nrm,Act.put]
    refine wpAnyS_fin 2 12 ?_
    simp only[nrd]
    go_wp2_with fail
    refine(IH.out q ez HQE.out.2 HB5.out.2.2.2.2.1 HB5.out.2.2.2.2.2.1 _ _ _ _ HAP.out (cons_in (HI.out _) (gath_in HI.out _ _)) HO2.out.st).mono ?_
    rintro z w7 ⟨gy,rfl,-,hy,hby⟩
    obtain⟨Y,hY⟩:∃Y,splitF ρ.R fu q s (consT (x nm) (gathT x 3 4))=Y:=⟨_,rfl⟩
    have HYI:Hid (AllIn ρ Y):=aZ (by rw[<-hY];exact splitF_in HH.out fu q s _ hq1 HB5.out.2.2.2.2.2.2.2.1 (cons_in (HI.out _) (gath_in HI.out _ _)))
    rw[hY] at hy HSF
    clear hY
    have HYR:=aZ hy
    have HO7:=aZ (HO2.out.trans HH.out.mem hby)
    have HX6:=aZ (HX6.out.trans HH.out.mem hby)
    have HE7:=aZ (HE6.out.keep HH.out.mem HX6.out HO6.out.st)
    have HZ7:=aZ (HZR.out.keep HH.out.mem HX6.out HO6.out.st)
    clear hy hby HAP HO2 hS1 hS2 HE6 HZR HX6
    clear HOR HXW HSX hnm0 hnm1 hnm2 hqw hnw hpw hd2 hd2' hd4 hd4' IH
    go_upto_region 9 with(fail)
    obtain⟨w8,hw8⟩:∃w8,w8=w7.alloc (.cells (zs n) 2):=⟨_,rfl⟩
    have HON7:=Own.make HH.out.mem (HH.out.mem.on_refl HO7.out.st) n 2
    rw[<-hw8] at HON7|-
    have HON8:=aZ HON7.1
    have HO8:=aZ HON7.2
    have HS8:=aZ (HSB.out _ (aZ (HO7.out.trans HH.out.mem HO8.out)))
    obtain⟨y1,y2,-⟩:=HS8.out
    clear hw8 HON7 HS8
    obtain⟨go,hgo⟩:∃go,go=w7.heap.size:=⟨_,rfl⟩
    have HGO:Hid (w7.heap.size<=go):=aZ (by omega)
    rw[<-hgo] at HON8|-
    clear hgo
    go_wp2_with fail
    refine(with_r HH.out s HS.out q n _ (by have:=HB5.out.2.2.2.2.2.1;omega) (by have:=HB5.out.2.2.2.2.2.1;omega) HB5.out.2.2.2.2.2.2.2.2 HB5.out.2.2.2.2.2.2.1 HO8.out.st).mono ?_
    rintro z w9 ⟨rfl,hb9⟩
    have HO9:=aZ (HO8.out.trans HH.out.mem hb9)
    have HON9:=aZ (HON8.out.keep HH.out.mem hb9 HO8.out.st)
    have HII:Hid (ρ.In (ρ.R.root (s*(q:Int)) n)):=aZ (HH.out.ir _ _ HB5.out.2.2.2.2.2.2.2.2 HB5.out.2.2.2.2.2.2.1)
    obtain⟨ii,hii⟩:∃ii,ρ.R.root (s*(q:Int)) n=ii:=⟨_,rfl⟩
    rw[hii] at HII|-
    have HIE:=aZ hii
    clear hb9 HON8 HO8 y1 y2 hii
    go_wp2
    go_loopw [60] (λvi wr=>∃k:Nat,k<=q/\vi=.int .i64 k/\Hid (Own M wr go n (foldT k (splitR ρ.R n s E Z Y) (λ_=>ρ.R.zero)))/\Hid (M.On w7 wr)) (λvi _=>q-(intOf vi).toNat)
    case atStart=>exact⟨0,by omega,rfl,aZ (by have:=HON9.out;simpa[foldT,HH.out.z0] using this),HO9⟩
    case round=>
     clear HON9 HO9
     obtain⟨k,hk,rfl,hr,hb⟩:=hrel
     by_cases hlt:k<q
     ·have hki:(k:Int)<q:=by omega
      obtain⟨kq,hkq⟩:∃kq,k+q=kq:=⟨_,rfl⟩
      obtain⟨k2,hk2⟩:∃k2,k+p=k2:=⟨_,rfl⟩
      obtain⟨q3,hq3⟩:∃q3,3*q=q3:=⟨_,rfl⟩
      obtain⟨k3,hk3⟩:∃k3,k+q3=k3:=⟨_,rfl⟩
      obtain⟨hp1,hp2,hp3⟩:=HP.out
      have HK:Hid (k<n/\k2<n/\kq<n/\k3<n/\k<p/\kq<p):=aZ (by omega)
      have HSR:Hid (∀h,splitR ρ.R n s E Z Y h k=updT (updT (updT (updT h k (ρ.R.add (E k) (ρ.R.add (ρ.R.mul (ρ.R.root (s*(k:Int)) n) (Z k)) (ρ.R.mul (ρ.R.root (s*(-(k:Int))) n) (Y k))))) k2 (ρ.R.sub (E k) (ρ.R.add (ρ.R.mul (ρ.R.root (s*(k:Int)) n) (Z k)) (ρ.R.mul (ρ.R.root (s*(-(k:Int))) n) (Y k))))) kq (ρ.R.add (E kq) (ρ.R.mul ii (ρ.R.sub (ρ.R.mul (ρ.R.root (s*(k:Int)) n) (Z k)) (ρ.R.mul (ρ.R.root (s*(-(k:Int))) n) (Y k)))))) k3 (ρ.R.sub (E kq) (ρ.R.mul ii (ρ.R.sub (ρ.R.mul (ρ.R.root (s*(k:Int)) n) (Z k)) (ρ.R.mul (ρ.R.root (s*(-(k:Int))) n) (Y k)))))):=
       aZ (λh=>by
        have e2:k+2*q=k2:=by omega
        have e3:k+3*q=k3:=by omega
        have ei:=HIE.out
        unfold splitR
        dsimp only
        rw[hp3,hkq,e2,e3,ei])
      have hkn:n<n+1:=by omega
      have hk0:(kq:Int)<p/\(k:Int)<p/\(k:Int)<n/\(k2:Int)<n/\(kq:Int)<n/\(k3:Int)<n:=by omega
      obtain⟨b1,b2,b3,b4,b5,b6⟩:=hk0
      have hkp:k<p:=by omega
      have hkqp:kq<p:=by omega
      have m1:IntKind.i64.wrap (-(k:Int))=-(k:Int):=by rw[IntKind.wrap_i64];omega
      have m2:IntKind.i64.wrap (2*(q:Int))=(p:Int):=by rw[IntKind.wrap_i64];omega
      have m3:IntKind.i64.wrap ((k:Int)+p)=(k2:Int):=by rw[IntKind.wrap_i64];omega
      have m4:IntKind.i64.wrap ((k:Int)+q)=(kq:Int):=by rw[IntKind.wrap_i64];omega
      have m5:IntKind.i64.wrap (3*(q:Int))=(q3:Int):=by rw[IntKind.wrap_i64];omega
      have m6:IntKind.i64.wrap ((k:Int)+q3)=(k3:Int):=by rw[IntKind.wrap_i64];omega
      have HKB:Hid (-65536<=(k:Int)/\(k:Int)<=65536/\-65536<=-(k:Int)/\-(k:Int)<=65536):=aZ (by omega)
      have HSA:Hid (∀w',Hid (M.On w7 w')->(w'.cell? ⟨gz,k,none⟩=some (.int .i64 (Z k))/\w'.cell? ⟨gy,k,none⟩=some (.int .i64 (Y k))/\w'.cell? ⟨ge,k,none⟩=some (.int .i64 (E k))/\w'.cell? ⟨ge,kq,none⟩=some (.int .i64 (E kq))/\w'.cell? ⟨bR,0,none⟩=some (.iface ρ.t ρ.v)/\w'.cell? ⟨bR,1,none⟩=some (.int .i64 s)/\Hid (M.On w7 w'))):=aZ (λw' h=>⟨on_cell HH.out.mem HO7.out.st h (HZ7.out.row k hlt).1,on_cell HH.out.mem HO7.out.st h (HYR.out.row k hlt).1,on_cell HH.out.mem HO7.out.st h (HE7.out.row k hkp).1,on_cell HH.out.mem HO7.out.st h (HE7.out.row kq hkqp).1,(HSB.out w' (aZ (HO7.out.trans HH.out.mem h.out))).1,(HSB.out w' (aZ (HO7.out.trans HH.out.mem h.out))).2.1,h⟩)
      clear hkq hk2 hq3 hk3 hp1 hp2 hp3 hkn hkp hkqp
      have e1:=HH.out.nm
      have e2:=HH.out.mm
      have e3:=HH.out.cm
      have e4:=HH.out.na
      have e5:=HH.out.ma
      have e6:=HH.out.ca
      have e7:=HH.out.ns
      have e8:=HH.out.ms
      have e9:=HH.out.cs
      go_upto_region 13 with(fail)
      refine wp_region_S (λw'=>(w'.cell? ⟨gz,k,none⟩=some (.int .i64 (Z k))/\w'.cell? ⟨gy,k,none⟩=some (.int .i64 (Y k))/\w'.cell? ⟨ge,k,none⟩=some (.int .i64 (E k))/\w'.cell? ⟨ge,kq,none⟩=some (.int .i64 (E kq))/\w'.cell? ⟨bR,0,none⟩=some (.iface ρ.t ρ.v)/\w'.cell? ⟨bR,1,none⟩=some (.int .i64 s)/\Hid (M.On w7 w'))) 26 (by kernel_rfl) ?_
      have hS0:=HSA.out _ (aZ (hb.out.drew HH.out.mem))
      refine Takes.intro [0,1,2,3,4,6,7,8,9,10,11,13,14,15,16,17,18,20,21,22,23,24,25] ?_
      repeat(refine Takes.go (v:=?_) hS0 ?_;try simp only[nrm,Act.put])
      refine Takes.nil ?_
      refine wpAnyS_1 5 (λK hK=>?_)
      go_simp
      have HO0:=aZ (hb.out.drew HH.out.mem)
      have HX0:=aZ ((HH.out.mem.on_refl hb.out.st).drew HH.out.mem)
      refine(with_r HH.out s HS.out k n _ HKB.out.1 HKB.out.2.1 HB5.out.2.2.2.2.2.2.2.2 HB5.out.2.2.2.2.2.2.1 HO0.out.st).mono ?_
      rintro z w1 ⟨rfl,hb2⟩
      have HO1:Hid (M.On w7 w1):=aZ (HO0.out.trans HH.out.mem hb2)
      have HX1:Hid (M.On wr w1):=aZ (HX0.out.trans HH.out.mem hb2)
      have hS1:=HSA.out _ HO1
      clear hb2
      have HC1:=aZ (HH.out.ir (s*(k:Int)) n HB5.out.2.2.2.2.2.2.2.2 HB5.out.2.2.2.2.2.2.1)
      obtain⟨c1,hc1⟩:∃c1,ρ.R.root (s*(k:Int)) n=c1:=⟨_,rfl⟩
      rw[hc1] at HSR HC1|-
      clear hc1
      refine hK.out _ _ (λ_=>hS1) ?_
      clear hK K
      try simp only[nrm,Act.put]
      refine wpAnyS_1 12 (λK hK=>?_)
      go_simp
      refine(HH.out.mul _ _ _ HC1.out (HZI.out k) HO1.out.st).mono ?_
      rintro z w2 ⟨rfl,hb2⟩
      have HO2:Hid (M.On w7 w2):=aZ (HO1.out.trans HH.out.mem hb2)
      have HX2:Hid (M.On wr w2):=aZ (HX1.out.trans HH.out.mem hb2)
      have hS2:=HSA.out _ HO2
      clear hb2
      have HU:=aZ (HH.out.im _ _ HC1.out (HZI.out k))
      obtain⟨u,hu⟩:∃u,ρ.R.mul c1 (Z k)=u:=⟨_,rfl⟩
      rw[hu] at HSR HU|-
      clear hu
      refine hK.out _ _ (λ_=>hS2) ?_
      clear hK K
      try simp only[nrm,Act.put]
      refine wpAnyS_1 19 (λK hK=>?_)
      go_simp
      refine(with_r HH.out s HS.out (-(k:Int)) n _ HKB.out.2.2.1 HKB.out.2.2.2 HB5.out.2.2.2.2.2.2.2.2 HB5.out.2.2.2.2.2.2.1 HO2.out.st).mono ?_
      rintro z w3 ⟨rfl,hb2⟩
      have HO3:Hid (M.On w7 w3):=aZ (HO2.out.trans HH.out.mem hb2)
      have HX3:Hid (M.On wr w3):=aZ (HX2.out.trans HH.out.mem hb2)
      have hS3:=HSA.out _ HO3
      clear hb2
      have HC2:=aZ (HH.out.ir (s*(-(k:Int))) n HB5.out.2.2.2.2.2.2.2.2 HB5.out.2.2.2.2.2.2.1)
      obtain⟨c2,hc2⟩:∃c2,ρ.R.root (s*(-(k:Int))) n=c2:=⟨_,rfl⟩
      rw[hc2] at HSR HC2|-
      clear hc2
      refine hK.out _ _ (λ_=>hS3) ?_
      clear hK K
      try simp only[nrm,Act.put]
      refine wpAnyS_fin 3 26 ?_
      simp only[nrd]
      go_wp2_with fail
      refine(HH.out.mul _ _ _ HC2.out (HYI.out k) HO3.out.st).mono ?_
      rintro z w4 ⟨rfl,hb4⟩
      have HV:=aZ (HH.out.im _ _ HC2.out (HYI.out k))
      obtain⟨v,hv⟩:∃v,ρ.R.mul c2 (Y k)=v:=⟨_,rfl⟩
      rw[hv] at HSR HV|-
      have HO4:=aZ (HO3.out.trans HH.out.mem hb4)
      have HX4:=aZ (HX3.out.trans HH.out.mem hb4)
      clear hb4 hv HO3 HO2 HO1 HX3 HX2 HX1 HX0 HO0 hS0 hS1 hS2 hS3
      go_upto_region 14 with(fail)
      refine wp_region_S (λw'=>(w'.cell? ⟨gz,k,none⟩=some (.int .i64 (Z k))/\w'.cell? ⟨gy,k,none⟩=some (.int .i64 (Y k))/\w'.cell? ⟨ge,k,none⟩=some (.int .i64 (E k))/\w'.cell? ⟨ge,kq,none⟩=some (.int .i64 (E kq))/\w'.cell? ⟨bR,0,none⟩=some (.iface ρ.t ρ.v)/\w'.cell? ⟨bR,1,none⟩=some (.int .i64 s)/\Hid (M.On w7 w'))) 15 (by kernel_rfl) ?_
      have hS0:=HSA.out _ (aZ (HO4.out.drew HH.out.mem))
      refine Takes.intro [0,1,2,3,5,6,7,8,9,10,11,13,14] ?_
      repeat(refine Takes.go (v:=?_) hS0 ?_;try simp only[nrm,Act.put])
      refine Takes.nil ?_
      refine wpAnyS_1 4 (λK hK=>?_)
      go_simp
      have HO0:=aZ (HO4.out.drew HH.out.mem)
      have HX0:=aZ (HX4.out.drew HH.out.mem)
      refine(HH.out.add _ _ _ HU.out HV.out HO0.out.st).mono ?_
      rintro z w1 ⟨rfl,hb2⟩
      have HO1:Hid (M.On w7 w1):=aZ (HO0.out.trans HH.out.mem hb2)
      have HX1:Hid (M.On wr w1):=aZ (HX0.out.trans HH.out.mem hb2)
      have hS1:=HSA.out _ HO1
      clear hb2
      have HAA:=aZ (HH.out.ia _ _ HU.out HV.out)
      obtain⟨a,ha⟩:∃a,ρ.R.add u v=a:=⟨_,rfl⟩
      rw[ha] at HSR HAA|-
      clear ha
      refine hK.out _ _ (λ_=>hS1) ?_
      clear hK K
      try simp only[nrm,Act.put]
      refine wpAnyS_1 12 (λK hK=>?_)
      go_simp
      refine(HH.out.sub _ _ _ HU.out HV.out HO1.out.st).mono ?_
      rintro z w2 ⟨rfl,hb2⟩
      have HO2:Hid (M.On w7 w2):=aZ (HO1.out.trans HH.out.mem hb2)
      have HX2:Hid (M.On wr w2):=aZ (HX1.out.trans HH.out.mem hb2)
      have hS2:=HSA.out _ HO2
      clear hb2
      have HD0:=aZ (HH.out.is _ _ HU.out HV.out)
      obtain⟨d0,hd0⟩:∃d0,ρ.R.sub u v=d0:=⟨_,rfl⟩
      rw[hd0] at HSR HD0|-
      clear hd0
      refine hK.out _ _ (λ_=>hS2) ?_
      clear hK K
      try simp only[nrm,Act.put]
      refine wpAnyS_fin 3 15 ?_
      simp only[nrd]
      go_wp2_with fail
      refine(HH.out.mul _ _ _ HII.out HD0.out HO2.out.st).mono ?_
      rintro z w5 ⟨rfl,hb5⟩
      have HDD:=aZ (HH.out.im _ _ HII.out HD0.out)
      obtain⟨dd,hdd⟩:∃dd,ρ.R.mul ii d0=dd:=⟨_,rfl⟩
      rw[hdd] at HSR HDD|-
      have HO5':=aZ (HO2.out.trans HH.out.mem hb5)
      have HX5':=aZ (HX2.out.trans HH.out.mem hb5)
      clear hb5 hdd HO2 HO1 HX2 HX1 HX0 HO0 hS0 hS1 hS2
      go_upto_region 15 with(fail)
      refine wp_region_S (λw'=>(w'.cell? ⟨gz,k,none⟩=some (.int .i64 (Z k))/\w'.cell? ⟨gy,k,none⟩=some (.int .i64 (Y k))/\w'.cell? ⟨ge,k,none⟩=some (.int .i64 (E k))/\w'.cell? ⟨ge,kq,none⟩=some (.int .i64 (E kq))/\w'.cell? ⟨bR,0,none⟩=some (.iface ρ.t ρ.v)/\w'.cell? ⟨bR,1,none⟩=some (.int .i64 s)/\Hid (M.On w7 w'))) 29 (by kernel_rfl) ?_
      have hS0:=HSA.out _ (aZ (HO5'.out.drew HH.out.mem))
      refine Takes.intro [0,1,2,3,4,5,6,7,8,9,10,11,12,13,14,15,17,18,19,20,21,22,23,24,25] ?_
      repeat(refine Takes.go (v:=?_) hS0 ?_;try simp only[nrm,Act.put])
      refine Takes.nil ?_
      refine wpAnyS_1 16 (λK hK=>?_)
      go_simp
      have HO0:=aZ (HO5'.out.drew HH.out.mem)
      have HX0:=aZ (HX5'.out.drew HH.out.mem)
      refine(HH.out.add _ _ _ (HEI.out k) HAA.out HO0.out.st).mono ?_
      rintro z w1 ⟨rfl,hb2⟩
      have HO1:Hid (M.On w7 w1):=aZ (HO0.out.trans HH.out.mem hb2)
      have HX1:Hid (M.On wr w1):=aZ (HX0.out.trans HH.out.mem hb2)
      have hS1:=HSA.out _ HO1
      clear hb2
      refine hK.out _ _ (λ_=>hS1) ?_
      clear hK K
      try simp only[nrm,Act.put]
      refine wpAnyS_1 26 (λK hK=>?_)
      go_simp
      refine(HH.out.sub _ _ _ (HEI.out k) HAA.out HO1.out.st).mono ?_
      rintro z w2 ⟨rfl,hb2⟩
      have HO2:Hid (M.On w7 w2):=aZ (HO1.out.trans HH.out.mem hb2)
      have HX2:Hid (M.On wr w2):=aZ (HX1.out.trans HH.out.mem hb2)
      have hS2:=HSA.out _ HO2
      clear hb2
      refine hK.out _ _ (λ_=>hS2) ?_
      clear hK K
      try simp only[nrm,Act.put]
      refine Takes.intro [27] ?_
      repeat(refine Takes.go (v:=?_) hS2 ?_;try simp only[nrm,Act.put])
      refine Takes.nil ?_
      have HN2:=aZ (hr.out.keep HH.out.mem HX2.out hb.out.st)
      obtain⟨r1,r2⟩:=HN2.out.row k HK.out.1
      refine wpAnyS_1 28 (λK hK=>?_)
      go_simp
      have HN3:=aZ (HN2.out.set HH.out.mem HO2.out HGO.out HK.out.1 (ρ.R.add (E k) a))
      have HO3:=aZ HN3.out.2
      have hS3:=HSA.out _ HO3
      clear r1 r2
      refine hK.out _ _ (λ_=>hS3) ?_
      clear hK K
      try simp only[nrm,Act.put]
      refine wpAnyS_fin 2 29 ?_
      simp only[nrd]
      obtain⟨r3,r4⟩:=HN3.out.1.row k2 HK.out.2.1
      have HN4:=aZ (HN3.out.1.set HH.out.mem HN3.out.2 HGO.out HK.out.2.1 (ρ.R.sub (E k) a))
      clear HO3 HO2 HO1 HX2 HX1 HX0 HO0 hS0 hS1 hS2 hS3 HN3
      go_upto_region 16 with(fail)
      obtain⟨wb,hwb⟩:∃wb,wb=(w2.setCell ⟨go,k,none⟩ (.int .i64 (ρ.R.add (E k) a))).setCell ⟨go,k2,none⟩ (.int .i64 (ρ.R.sub (E k) a)):=⟨_,rfl⟩
      rw[<-hwb] at HN4|-
      clear r3 r4 hwb
      have HO6':=aZ HN4.out.2
      refine wp_region_S (λw'=>(w'.cell? ⟨gz,k,none⟩=some (.int .i64 (Z k))/\w'.cell? ⟨gy,k,none⟩=some (.int .i64 (Y k))/\w'.cell? ⟨ge,k,none⟩=some (.int .i64 (E k))/\w'.cell? ⟨ge,kq,none⟩=some (.int .i64 (E kq))/\w'.cell? ⟨bR,0,none⟩=some (.iface ρ.t ρ.v)/\w'.cell? ⟨bR,1,none⟩=some (.int .i64 s)/\Hid (M.On w7 w'))) 35 (by kernel_rfl) ?_
      have hS0:=HSA.out _ (aZ (HO6'.out.drew HH.out.mem))
      refine Takes.intro [0,1,2,3,4,5,6,7,8,9,10,11,12,13,14,15,16,17,18,19,21,22,23,24,25,26,27,28,29,30,31] ?_
      repeat(refine Takes.go (v:=?_) hS0 ?_;try simp only[nrm,Act.put])
      refine Takes.nil ?_
      refine wpAnyS_1 20 (λK hK=>?_)
      go_simp
      have HO0:=aZ (HO6'.out.drew HH.out.mem)
      have HX0:=aZ ((HH.out.mem.on_refl HO6'.out.st).drew HH.out.mem)
      refine(HH.out.add _ _ _ (HEI.out kq) HDD.out HO0.out.st).mono ?_
      rintro z w1 ⟨rfl,hb2⟩
      have HO1:Hid (M.On w7 w1):=aZ (HO0.out.trans HH.out.mem hb2)
      have HX1:Hid (M.On wb w1):=aZ (HX0.out.trans HH.out.mem hb2)
      have hS1:=HSA.out _ HO1
      clear hb2
      refine hK.out _ _ (λ_=>hS1) ?_
      clear hK K
      try simp only[nrm,Act.put]
      refine wpAnyS_1 32 (λK hK=>?_)
      go_simp
      refine(HH.out.sub _ _ _ (HEI.out kq) HDD.out HO1.out.st).mono ?_
      rintro z w2 ⟨rfl,hb2⟩
      have HO2:Hid (M.On w7 w2):=aZ (HO1.out.trans HH.out.mem hb2)
      have HX2:Hid (M.On wb w2):=aZ (HX1.out.trans HH.out.mem hb2)
      have hS2:=HSA.out _ HO2
      clear hb2
      refine hK.out _ _ (λ_=>hS2) ?_
      clear hK K
      try simp only[nrm,Act.put]
      refine Takes.intro [33] ?_
      repeat(refine Takes.go (v:=?_) hS2 ?_;try simp only[nrm,Act.put])
      refine Takes.nil ?_
      have HN2:=aZ (HN4.out.1.keep HH.out.mem HX2.out HO6'.out.st)
      obtain⟨r1,r2⟩:=HN2.out.row kq HK.out.2.2.1
      refine wpAnyS_1 34 (λK hK=>?_)
      go_simp
      have HN3:=aZ (HN2.out.set HH.out.mem HO2.out HGO.out HK.out.2.2.1 (ρ.R.add (E kq) dd))
      have HO3:=aZ HN3.out.2
      have hS3:=HSA.out _ HO3
      clear r1 r2
      refine hK.out _ _ (λ_=>hS3) ?_
      clear hK K
      try simp only[nrm,Act.put]
      refine wpAnyS_fin 2 35 ?_
      simp only[nrd]
      obtain⟨r3,r4⟩:=HN3.out.1.row k3 HK.out.2.2.2.1
      have HN6:=aZ (HN3.out.1.set HH.out.mem HN3.out.2 HGO.out HK.out.2.2.2.1 (ρ.R.sub (E kq) dd))
      clear HO3 HO2 HO1 HX2 HX1 HX0 HO0 hS0 hS1 hS2 hS3 HN3 e1 e2 e3 e4 e5 e6 e7 e8 e9 m1 m2 m3 m4 m5 m6
      go_wp2
      exact⟨⟨k+1,by omega,by go_num,aZ (by rw[foldT_succ,HSR.out];exact HN6.out.1),aZ HN6.out.2⟩,by simp[intOf];omega⟩
     ·obtain rfl:k=q:=by omega
      go_wp2
      go_ret
      exact⟨_,rfl,by have:=HH.out.mem.size HO7.out.fr;have:=HZ.out;have:=HGO.out;omega,by rw[HSF.out];exact hr.out,(HON.out.trans HH.out.mem HO7.out).trans HH.out.mem hb.out⟩
end
end Go.Proofs.Yteaimnemobnknaa
