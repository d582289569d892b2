/- The split radix, over any ring of complex floats. -/
import Derived.Test.YtfedabinindpbaaGreatX0
import Derived.Test.YtfedabinindpbaaGreatZ3
import Derived.Test.YtfedabinindpbaaGreatMY1
import Derived.Great.BuildSlice
set_option maxRecDepth 100000
set_option maxHeartbeats 16000000
set_option linter.unusedSimpArgs false
set_option linter.unusedVariables false
namespace Go.Proofs.YtfedabinindpbaaGreat
open Go.RowKit Go.Lib
section
variable {M : Mem} {ρ : RingC}
theorem wp_consC{o:Oper}{a:Act}{w:World}{K:Act->World->Prop}{Q:Exit->Act->World->Prop}(s x:Operand)(ho:o.op=.call {callee:=.builtin .append,args:=#[s,x],argTypes:=#[23,23]})(g0 g1 m q:Nat)(v:Rx)(f:Nat->Cx)(hs:a.eval s=.slice (some ⟨g0,0,none⟩) 1 1)(hx:a.eval x=.slice (some ⟨g1,0,none⟩) m m)(h0:w.heap[g0]?=some (.cells #[.float .f64 v.1,.float .f64 v.2] 29 (0,0)))(h1:RowC w g1 m f)(hm:m<=32768)(hmq:m+1=q)(h:∀A' c' w',Hid (CsAt w' A' q (consT (nC v) f))->Hid (w.grownBy w' (some g0))->K (a.put o.dst (.slice A' q c')) w'):o.wp Tryz.prog a w K Q:=by
 obtain⟨i0,hi,hz0,hz1,hz2⟩:=info_parts info_C
 obtain⟨L,hl,hc,hf⟩:=RowC.list m h1
 have hown:w.ownsRow g0 29 2 (.slice (some ⟨g0,0,none⟩) 1 1) 1 [.float .f64 v.1,.float .f64 v.2]:=⟨rfl,.inr ⟨g0,1,_,rfl,Nat.le_refl _,h0,by omega,by decide,rfl,rfl⟩⟩
 have hlt:g0<w.heap.size:=(Array.getElem?_eq_some_iff.1 h0).1
 refine wp_append_own w s x 23 ho g0 29 i0 (.agg #[.float .f64 0,.float .f64 0]) 2 16 Tryz.underlying23 hi hz0 hz1 hz2 rfl (by decide) _ 1 _ hs hown ⟨g1,0,none⟩ m m (cxV L) hx (by rw[cxV_len,hl]) ?_ (cxV_one L) (by unfold maxLen;omega) (by omega) (by omega) ?_
 ·intro j u hj
  have:=hc j u hj
  rw[Addr.add]
  split
  ·rename_i e;subst e;exact this
  ·simpa using this
 ·intro v' w' h2 h3 _
  have h2':OwnX w' g0 v' (v::L):=by
   show w'.ownsRow g0 _ 2 v' (L.length+1) _
   rw[hl,Nat.add_comm]
   exact h2
  obtain⟨A,c,rfl,hcs,-⟩:=h2'.cs
  have e:(v::L).length=q:=by rw[List.length_cons,hl];exact hmq
  rw[e] at hcs|-
  refine h A c w' (aZ (hcs.congr λi hi=>?_)) (aZ h3)
  unfold consT
  rcases i with _|i
  ·rfl
  ·rw[if_neg (by omega),<-hf (i+1-1) (by omega)]
   rfl
theorem wp_one1C{o:Oper}{a:Act}{w:World}{K:Act->World->Prop}{Q:Exit->Act->World->Prop}(x:Operand)(v:Rx)(ho:o.op=.buildSlice 23 1 #[(0,x)])(hx:a.eval x=cV v)(h:K (a.put o.dst (.slice (some ⟨w.heap.size,0,none⟩) 1 1)) (w.alloc (.cells #[.float .f64 v.1,.float .f64 v.2] 29))):o.wp Tryz.prog a w K Q:=by
 obtain⟨i0,hi,hz0,hz1,hz2⟩:=info_parts info_C
 refine wp_buildSlice _ _ 1 _ ho #[.float .f64 v.1,.float .f64 v.2] i0 (.agg #[.float .f64 0,.float .f64 0]) Tryz.underlying23 hi hz0 (by rw[hz1];decide) (by rw[hz1];decide) ?_ h
 rw[hz1]
 have hr:Array.range 1=#[0]:=by decide
 have hr2:Array.range 2=#[0,1]:=by decide
 simp[hx,Instr.fill,Value.cells,hr,hr2]
def Two1C(W:World)(v:Rx)(m:Nat)(f:Nat->Cx)(vi vj:Value)(w2:World):Prop:=
 ∃g0 g1,vi=.slice (some ⟨g0,0,none⟩) 1 1/\vj=.slice (some ⟨g1,0,none⟩) m m/\W.heap.size<=g0/\w2.heap[g0]?=some (.cells #[.float .f64 v.1,.float .f64 v.2] 29 (0,0))/\RowC w2 g1 m f/\Below W.heap.size W w2
theorem two1C_a{W w2:World}{v:Rx}{m:Nat}{f:Nat->Cx}(hr:RowC w2 (W.drew.alloc (.cells #[.float .f64 v.1,.float .f64 v.2] 29)).heap.size m f)(hb:Below (W.drew.alloc (.cells #[.float .f64 v.1,.float .f64 v.2] 29)).heap.size (W.drew.alloc (.cells #[.float .f64 v.1,.float .f64 v.2] 29)) w2):
  Two1C W v m f (.slice (some ⟨W.heap.size,0,none⟩) 1 1) (.slice (some ⟨(W.drew.alloc (.cells #[.float .f64 v.1,.float .f64 v.2] 29)).heap.size,0,none⟩) m m) w2:=by
 refine⟨_,_,rfl,rfl,Nat.le_refl _,?_,hr,?_⟩
 ·rw[hb.block _ (by simp)]
  exact heap_alloc_new W.drew _
 ·exact((Below.refl W.heap.size W).drew.alloc (Nat.le_refl _) _).trans (hb.mono (by simp))
theorem two1C_b{W w1:World}{v:Rx}{m:Nat}{f:Nat->Cx}(hz:W.drew.heap.size<w1.heap.size)(hr:RowC w1 W.drew.heap.size m f)(hb:Below W.drew.heap.size W.drew w1):
  Two1C W v m f (.slice (some ⟨w1.heap.size,0,none⟩) 1 1) (.slice (some ⟨W.drew.heap.size,0,none⟩) m m) (w1.alloc (.cells #[.float .f64 v.1,.float .f64 v.2] 29)):=by
 have h0:Below W.heap.size W w1:=(Below.refl W.heap.size W).drew.trans hb
 refine⟨_,_,rfl,rfl,h0.size,heap_alloc_new w1 _,hr.keep ((Below.refl _ w1).alloc (Nat.le_refl _) _),h0.alloc h0.size _⟩
theorem SplitC_r(H:ρ.Ok M)(s:Int)(hs:s=1\/s=-1)(fu:Nat):∀(n ex:Nat),n=2^ex->n<=fu+1->n<=32768->∀(w:World) (X:Option Addr) (cx:Nat) (x:Nat->Cx),CsAt w X n x->M.St w->
  Calls Tryz.prog 112 #[rnC ρ s,.slice X n cx] w λz w'=>∃g,z=.returned (.slice (some ⟨g,0,none⟩) n n)/\w.heap.size<=g/\OwnC M w' g n (splitF ρ.R fu n s x)/\M.On w w':=by
 have HH:=aZ H
 have HS:=aZ hs
 clear H hs
 induction fu with
 |zero=>
   intro n ex hn hf hN w X cx x hX hw
   have HX:=aZ hX
   have HW:=aZ hw
   obtain rfl:n=1:=by
    have:=Nat.one_le_two_pow (n:=ex)
    omega
   clear hX hw hn hf hN
   go_enter Tryz.func112,Tryz.ntmps112
   go_wp2_with fail
   have hb1:=(HH.out.mem.on_refl HW.out).below HH.out.mem ((Below.refl _ w).alloc (Nat.le_refl _) (.cells #[.iface ρ.t ρ.v,.int .i64 s] 131))
   refine(DirectC_r HH.out X 1 cx s x _ (HX.out.keepM HH.out.mem hb1 HW.out) (by omega) hb1.st).mono ?_
   rintro z w1 ⟨g,rfl,hg,ho,hb2⟩
   have HB:=aZ (hb1.trans HH.out.mem hb2)
   have HO:=aZ ho
   have HG:Hid (w.heap.size<=g):=aZ (by have:=HH.out.mem.size hb1.fr;omega)
   clear hb1 hb2 ho hg
   go_wp2
   go_ret
   exact⟨g,rfl,HG.out,HO.out,HB.out⟩
 |succ fu ih=>
   intro n ex hn hf hN w X cx x hX hw
   have IH:=aZ ih
   have HX:=aZ hX
   have HW:=aZ hw
   clear hX hw ih
   by_cases h4:n<4
   ·have HD:Hid (splitF ρ.R (fu+1) n s x=directF ρ.R n s x):=aZ (by unfold splitF;rw[if_pos h4])
    have hn0:1<=n:=by rw[hn];exact Nat.one_le_two_pow
    have h4i:(n:Int)<4:=by omega
    clear hn
    go_enter Tryz.func112,Tryz.ntmps112
    go_wp2_with fail
    have hb1:=(HH.out.mem.on_refl HW.out).below HH.out.mem ((Below.refl _ w).alloc (Nat.le_refl _) (.cells #[.iface ρ.t ρ.v,.int .i64 s] 131))
    refine(DirectC_r HH.out X n cx s x _ (HX.out.keepM HH.out.mem hb1 HW.out) hN hb1.st).mono ?_
    rintro z w1 ⟨g,rfl,hg,ho,hb2⟩
    have HB:=aZ (hb1.trans HH.out.mem hb2)
    have HO:Hid (OwnC M w1 g n (splitF ρ.R (fu+1) n s x)):=aZ (by rw[HD.out];exact ho)
    have HG:Hid (w.heap.size<=g):=aZ (by have:=HH.out.mem.size hb1.fr;omega)
    clear hb1 hb2 ho hg HD
    go_wp2
    go_ret
    exact⟨g,rfl,HG.out,HO.out,HB.out⟩
   ·obtain⟨q,hq,hq2,hq4,⟨ez,hz⟩⟩:∃q,n=4*q/\n/2=2*q/\n/4=q/\∃e,q=2^e:=by
      rcases ex with _|_|ex
      ·omega
      ·omega
      ·have e1:2^(ex+2)=4*2^ex:=by rw[Nat.pow_add];omega
       exact⟨2^ex,by omega,by omega,by omega,ex,rfl⟩
    have hq1:1<=q:=by omega
    obtain⟨p,hp⟩:∃p,2*q=p:=⟨_,rfl⟩
    rw[hp] at hq2
    have HQE:Hid (p=2^(ez+1)/\q=2^ez):=aZ ⟨by rw[Nat.pow_succ];omega,hz⟩
    have HSF:Hid (splitF ρ.R (fu+1) n s x=foldT q (splitR ρ.R n s (splitF ρ.R fu p s (gathT x 0 2)) (splitF ρ.R fu q s (gathT x 1 4)) (splitF ρ.R fu q s (consT (x (n-1)) (gathT x 3 4)))) (λ_=>ρ.R.zero)):=aZ (by
     rw[splitF]
     show(if n<4 then _ else _)=_
     rw[if_neg h4,hq2,hq4])
    have h4i:¬(n:Int)<4:=by omega
    have hd4:(n:Int)/4=q:=by omega
    have hd4':(n:Int).tdiv 4=q:=by rw[Int.tdiv_eq_ediv_of_nonneg (by omega)];omega
    have hd2:(n:Int)/2=(p:Int):=by omega
    have hpw:IntKind.i64.wrap (p:Int)=p:=wrapI_nat p (by omega)
    obtain⟨qm,hqm⟩:∃qm,q-1=qm:=⟨_,rfl⟩
    obtain⟨nm,hnm⟩:∃nm,n-1=nm:=⟨_,rfl⟩
    have hqw:IntKind.i64.wrap ((q:Int)-1)=(qm:Int):=by rw[IntKind.wrap_i64];omega
    have hnw:IntKind.i64.wrap ((n:Int)-1)=(nm:Int):=by rw[IntKind.wrap_i64];omega
    have hnm0:(0:Int)<=nm:=by omega
    have hnm1:(nm:Int)<n:=by omega
    have hnm2:nm<n:=by omega
    have HQM:Hid (qm+1=q/\qm<=32768):=aZ (by omega)
    have hd2':(n:Int).tdiv 2=(p:Int):=by rw[Int.tdiv_eq_ediv_of_nonneg (by omega)];omega
    have hqf:p<=fu+1:=by omega
    have hqN:p<=32768:=by omega
    have hmk:=mk_C n (by omega)
    have HB5:Hid (n<=4398046511104/\p<=4398046511104/\q<=4398046511104/\qm<=4398046511104/\q<=fu+1/\q<=32768/\n<=65536/\q<=65536/\1<=n):=aZ (by omega)
    have HF5:Hid (Fits n 0 2 p/\Fits n 1 4 q/\Fits n 3 4 qm):=aZ ⟨.inr (by omega),.inr (by omega),by unfold Fits;omega⟩
    have HP:Hid (2*q=p/\n=4*q/\n/4=q):=aZ ⟨hp,hq,hq4⟩
    rw[hnm] at HSF
    clear hn hz h4 hf hq2 hq4 hp hq hqm hnm
    go_enter Tryz.func112,Tryz.ntmps112
    go_upto_region 5 with(fail)
    obtain⟨W,hW⟩:∃W,W=w.alloc (.cells #[.iface ρ.t ρ.v,.int .i64 s] 131):=⟨_,rfl⟩
    obtain⟨bR,hbR⟩:∃bR,bR=w.heap.size:=⟨_,rfl⟩
    have HON:Hid (M.On w W):=aZ (by rw[hW];exact(HH.out.mem.on_refl HW.out).below HH.out.mem ((Below.refl _ w).alloc (Nat.le_refl _) _))
    have HBX:Hid (W.cell? ⟨bR,0,none⟩=some (.iface ρ.t ρ.v)/\W.cell? ⟨bR,1,none⟩=some (.int .i64 s)):=aZ (by subst hbR hW;exact⟨by simp[go_sem],by simp[go_sem]⟩)
    have HZ:Hid (w.heap.size<=W.heap.size):=aZ (by subst hW;simp)
    rw[<-hW]
    simp only[<-hbR]
    have HST:=aZ HON.out.st
    have HXW:=aZ (HX.out.keepM HH.out.mem HON.out HW.out)
    obtain⟨bX,oX,ux,rfl,hcx,hcy,hux⟩:=HXW.out nm hnm2
    have HCX:=aZ (And.intro hcx hcy)
    have HUX:=aZ hux
    have HSB:Hid (∀w',Hid (M.On W w')->(w'.cell? ⟨bR,0,none⟩=some (.iface ρ.t ρ.v)/\w'.cell? ⟨bR,1,none⟩=some (.int .i64 s)/\Hid (M.On W w'))):=aZ (λw' h=>⟨on_cell HH.out.mem HST.out h HBX.out.1,on_cell HH.out.mem HST.out h HBX.out.2,h⟩)
    have HSX:Hid (∀w',Hid (M.On W w')->(w'.cell? ⟨bX,oX+nm*2,none⟩=some (.float .f64 ux.1)/\w'.cell? ⟨bX,oX+nm*2+1,none⟩=some (.float .f64 ux.2)/\(w'.cell? ⟨bR,0,none⟩=some (.iface ρ.t ρ.v)/\w'.cell? ⟨bR,1,none⟩=some (.int .i64 s)/\Hid (M.On W w')))):=aZ (λw' h=>⟨on_cell HH.out.mem HST.out h HCX.out.1,on_cell HH.out.mem HST.out h HCX.out.2,HSB.out w' h⟩)
    have HOR:=aZ (HH.out.mem.on_refl HST.out)
    clear HBX HX hW hbR hcx hcy hux HCX
    refine wp_region_S (λw'=>(w'.cell? ⟨bR,0,none⟩=some (.iface ρ.t ρ.v)/\w'.cell? ⟨bR,1,none⟩=some (.int .i64 s)/\Hid (M.On W w'))) 5 (by kernel_rfl) ?_
    have hS0:=HSB.out _ (aZ (HOR.out.drew HH.out.mem))
    refine Takes.intro [0,1,2,3] ?_
    repeat(refine Takes.go (v:=?_) hS0 ?_;try simp only[nrm,Act.put])
    refine Takes.nil ?_
    refine wpAnyS_1 4 (λK hK=>?_)
    go_simp
    have HO0:=hS0.2.2
    refine(gatherC_r HH.out (some ⟨bX,oX,none⟩) n cx 0 2 p x _ (HXW.out.keepM HH.out.mem HO0.out HST.out) HB5.out.1 (by decide) (by decide) HB5.out.2.1 (by decide) HF5.out.1 HO0.out.st).mono ?_
    rintro z w1 ⟨rfl,ho1,hb1⟩
    have HO1:=aZ (HO0.out.trans HH.out.mem hb1)
    have hS1:=HSB.out _ HO1
    have HG1:=aZ ho1
    clear ho1 hb1 HO0
    refine hK.out _ _ (λ_=>hS1) ?_
    clear hK K
    try simp only[nrm,Act.put]
    refine wpAnyS_fin 2 5 ?_
    simp only[nrd]
    go_wp2_with fail
    refine(IH.out p (ez+1) HQE.out.1 hqf hqN _ _ _ _ HG1.out.cs HO1.out.st).mono ?_
    rintro z w5 ⟨ge,rfl,-,he,hbe⟩
    obtain⟨E,hE⟩:∃E,splitF ρ.R fu p s (gathT x 0 2)=E:=⟨_,rfl⟩
    rw[hE] at he HSF
    clear hE
    have HE:=aZ he
    have HO5:=aZ (HO1.out.trans HH.out.mem hbe)
    clear he hbe HG1 HO1 hS0 hS1
    go_upto_region 6 with(fail)
    refine wp_region_S (λw'=>(w'.cell? ⟨bR,0,none⟩=some (.iface ρ.t ρ.v)/\w'.cell? ⟨bR,1,none⟩=some (.int .i64 s)/\Hid (M.On W w'))) 4 (by kernel_rfl) ?_
    have hS0:=HSB.out _ (aZ (HO5.out.drew HH.out.mem))
    refine Takes.intro [0,1,2] ?_
    repeat(refine Takes.go (v:=?_) hS0 ?_;try simp only[nrm,Act.put])
    refine Takes.nil ?_
    refine wpAnyS_1 3 (λK hK=>?_)
    go_simp
    have HO0:=hS0.2.2
    refine(gatherC_r HH.out (some ⟨bX,oX,none⟩) n cx 1 4 q x _ (HXW.out.keepM HH.out.mem HO0.out HST.out) HB5.out.1 (by decide) (by decide) HB5.out.2.2.1 (by decide) HF5.out.2.1 HO0.out.st).mono ?_
    rintro z w1 ⟨rfl,ho1,hb1⟩
    have HO1:=aZ (HO0.out.trans HH.out.mem hb1)
    have hS1:=HSB.out _ HO1
    have HG1:=aZ ho1
    have HX5:Hid (M.On w5 w1):=aZ (((HH.out.mem.on_refl HO5.out.st).drew HH.out.mem).trans HH.out.mem hb1)
    clear ho1 hb1 HO0
    refine hK.out _ _ (λ_=>hS1) ?_
    clear hK K
    try simp only[nrm,Act.put]
    refine wpAnyS_fin 2 4 ?_
    simp only[nrd]
    go_wp2_with fail
    refine(IH.out q ez HQE.out.2 HB5.out.2.2.2.2.1 HB5.out.2.2.2.2.2.1 _ _ _ _ HG1.out.cs HO1.out.st).mono ?_
    rintro z w6 ⟨gz,rfl,-,hz,hbz⟩
    obtain⟨Z,hZ⟩:∃Z,splitF ρ.R fu q s (gathT x 1 4)=Z:=⟨_,rfl⟩
    rw[hZ] at hz HSF
    clear hZ
    have HZR:=aZ hz
    have HO6:=aZ (HO1.out.trans HH.out.mem hbz)
    have HE6:=aZ (HE.out.keep HH.out.mem (HX5.out.trans HH.out.mem hbz) HO5.out.st)
    clear hz hbz HG1 HO1 hS0 hS1 HE HX5
    go_upto_region 7 with(fail)
    refine wp_region_S (λw'=>(w'.cell? ⟨bX,oX+nm*2,none⟩=some (.float .f64 ux.1)/\w'.cell? ⟨bX,oX+nm*2+1,none⟩=some (.float .f64 ux.2)/\(w'.cell? ⟨bR,0,none⟩=some (.iface ρ.t ρ.v)/\w'.cell? ⟨bR,1,none⟩=some (.int .i64 s)/\Hid (M.On W w')))) 12 (by kernel_rfl) ?_
    have hS0:=HSX.out _ (aZ (HO6.out.drew HH.out.mem))
    refine Takes.intro [0,1,2,3,4,5,7,8,9] ?_
    repeat(refine Takes.go (v:=?_) hS0 ?_;try simp only[nrm,Act.put])
    refine Takes.nil ?_
    refine wpAnyS_two (i:=6) (j:=10) (di:=46) (dj:=50) (Two1C w6 ux qm (gathT x 3 4)) (by kernel_rfl) rfl rfl (by decide) (by decide) rfl rfl (λK hK=>?_) (λK hK=>?_) ?_
    ·try simp only[nrm,Act.put] at hK
     refine wp_one1C (.tmp 45) ux rfl (by kernel_rfl) ?_
     have hT1:=HSX.out _ (aZ ((HO6.out.drew HH.out.mem).below HH.out.mem ((Below.refl _ w6.drew).alloc (Nat.le_refl _) (.cells #[.float .f64 ux.1,.float .f64 ux.2] 29))))
     refine hK.out _ _ hT1 (λK2 hK2=>?_)
     clear hK K
     try simp only[nrm,Act.put] at hK2|-
     go_simp
     have HOA:=hT1.2.2.2.2
     refine(gatherC_any (some ⟨bX,oX,none⟩) n cx 3 4 qm x _ (HXW.out.keepM HH.out.mem HOA.out HST.out) HB5.out.1 (by decide) (by decide) HB5.out.2.2.2.1 (by decide) HF5.out.2.2).mono ?_
     rintro z w1 ⟨rfl,hz,hr,hb⟩
     have hT2:=HSX.out _ (aZ (HOA.out.below HH.out.mem hb))
     have hR:=two1C_a hr hb
     exact hK2.out _ _ hT2 hR
    ·try simp only[nrm,Act.put] at hK
     go_simp
     have HOA:=hS0.2.2.2.2
     refine(gatherC_any (some ⟨bX,oX,none⟩) n cx 3 4 qm x _ (HXW.out.keepM HH.out.mem HOA.out HST.out) HB5.out.1 (by decide) (by decide) HB5.out.2.2.2.1 (by decide) HF5.out.2.2).mono ?_
     rintro z w1 ⟨rfl,hz,hr,hb⟩
     have HOB:=aZ (HOA.out.below HH.out.mem hb)
     have hT1:=HSX.out _ HOB
     have HHZ:=aZ hz
     have HHR:=aZ hr
     have HHB:=aZ hb
     clear hz hr hb
     refine hK.out _ _ hT1 (λK2 hK2=>?_)
     clear hK K
     try simp only[nrm,Act.put] at hK2|-
     refine wp_one1C (.tmp 45) ux rfl (by kernel_rfl) ?_
     have hT2:=HSX.out _ (aZ (HOB.out.below HH.out.mem ((Below.refl _ w1).alloc (Nat.le_refl _) (.cells #[.float .f64 ux.1,.float .f64 ux.2] 29))))
     have hR:=two1C_b (v:=ux) HHZ.out HHR.out HHB.out
     exact hK2.out _ _ hT2 hR
    rintro vi vj w1 hS1 ⟨g0,g1,rfl,rfl,hg0,hg1,hrow,hbl⟩
    have HG0:=aZ hg0
    have HG1:=aZ hg1
    have HRW:=aZ hrow
    have HBL:=aZ hbl
    clear hg0 hg1 hrow hbl hS0
    try simp only[nrm,Act.put]
    refine wpAnyS_1 11 (λK hK=>?_)
    refine wp_consC (.tmp 46) (.tmp 50) rfl g0 g1 qm q ux (gathT x 3 4) (by kernel_rfl) (by kernel_rfl) HG1.out HRW.out HQM.out.2 HQM.out.1 ?_
    intro A' c' w2 hA hg
    rw[HUX.out] at hA
    have HAP:=hA
    have HBB:Hid (Below w6.heap.size w6 w2):=aZ (HBL.out.grown hg.out HBL.out.size (λk e=>by cases e;exact HG0.out))
    have HX6:=aZ ((HH.out.mem.on_refl HO6.out.st).below HH.out.mem HBB.out)
    have HO2:=aZ (HO6.out.trans HH.out.mem HX6.out)
    have hS2:=HSX.out _ HO2
    clear hA hg HBL HBB HRW HG1 HG0
    refine hK.out _ _ (λ_=>hS2) ?_
    clear hK K
    try simp only[nrm,Act.put]
    refine wpAnyS_fin 2 12 ?_
    simp only[nrd]
    go_wp2_with fail
    refine(IH.out q ez HQE.out.2 HB5.out.2.2.2.2.1 HB5.out.2.2.2.2.2.1 _ _ _ _ HAP.out HO2.out.st).mono ?_
    rintro z w7 ⟨gy,rfl,-,hy,hby⟩
    obtain⟨Y,hY⟩:∃Y,splitF ρ.R fu q s (consT (x nm) (gathT x 3 4))=Y:=⟨_,rfl⟩
    rw[hY] at hy HSF
    clear hY
    have HYR:=aZ hy
    have HO7:=aZ (HO2.out.trans HH.out.mem hby)
    have HX6:=aZ (HX6.out.trans HH.out.mem hby)
    have HE7:=aZ (HE6.out.keep HH.out.mem HX6.out HO6.out.st)
    have HZ7:=aZ (HZR.out.keep HH.out.mem HX6.out HO6.out.st)
    clear hy hby HAP HO2 hS1 hS2 HE6 HZR HX6
    clear HOR HXW HSX hnm0 hnm1 hnm2 hqw hnw hpw hd2 hd2' hd4 hd4' IH
    go_upto_region 9 with(fail)
    obtain⟨w8,hw8⟩:∃w8,w8=w7.alloc (.cells (zsC n) 29):=⟨_,rfl⟩
    have HON7:=OwnC.make HH.out.mem (HH.out.mem.on_refl HO7.out.st) n 29
    rw[<-hw8] at HON7|-
    have HON8:=aZ HON7.1
    have HO8:=aZ HON7.2
    have HS8:=aZ (HSB.out _ (aZ (HO7.out.trans HH.out.mem HO8.out)))
    obtain⟨y1,y2,-⟩:=HS8.out
    clear hw8 HON7 HS8
    obtain⟨go,hgo⟩:∃go,go=w7.heap.size:=⟨_,rfl⟩
    have HGO:Hid (w7.heap.size<=go):=aZ (by omega)
    rw[<-hgo] at HON8|-
    clear hgo
    go_wp2_with fail
    refine(withC_r HH.out s HS.out q n _ (by have:=HB5.out.2.2.2.2.2.1;omega) (by have:=HB5.out.2.2.2.2.2.1;omega) HB5.out.2.2.2.2.2.2.2.2 HB5.out.2.2.2.2.2.2.1 HO8.out.st).mono ?_
    rintro z w9 ⟨⟨ri,rfl,hri⟩,hb9⟩
    have HO9:=aZ (HO8.out.trans HH.out.mem hb9)
    have HON9:=aZ (HON8.out.keep HH.out.mem hb9 HO8.out.st)
    have HRI:=aZ hri
    clear hb9 HON8 HO8 y1 y2 hri
    go_upto_region 10 with(fail)
    obtain⟨hbi,hoi⟩:=BoxC.new HH.out.mem HO9.out ri 29
    have honi:=HON9.out.keep HH.out.mem ((HH.out.mem.on_refl HO9.out.st).below HH.out.mem ((Below.refl _ w9).alloc (Nat.le_refl _) (.cells #[.float .f64 ri.1,.float .f64 ri.2] 29))) HO9.out.st
    obtain⟨wI,hwI⟩:∃wI,wI=w9.alloc (.cells #[.float .f64 ri.1,.float .f64 ri.2] 29):=⟨_,rfl⟩
    obtain⟨bi,hbie⟩:∃bi,bi=w9.heap.size:=⟨_,rfl⟩
    have HGI:Hid (w7.heap.size<=bi/\bi≠go):=aZ (by have:=HON9.out.lt;have:=HH.out.mem.size HO9.out.fr;omega)
    rw[<-hwI] at hbi hoi honi|-
    rw[<-hbie] at hbi|-
    have HBI:=aZ hbi
    have HOI:=aZ hoi
    have HONI:=aZ honi
    clear hbi hoi honi hwI hbie HON9 HO9
    go_wp2
    go_loopw [60] (λvi wr=>∃k:Nat,k<=q/\vi=.int .i64 k/\Hid (OwnC M wr go n (foldT k (splitR ρ.R n s E Z Y) (λ_=>ρ.R.zero)))/\Hid (BoxC M wr bi ri)/\Hid (M.On w7 wr)) (λvi _=>q-(intOf vi).toNat)
    case atStart=>exact⟨0,by omega,rfl,aZ (by have:=HONI.out;simpa[foldT,HH.out.z0] using this),HBI,HOI⟩
    case round=>
     clear HONI HOI HBI
     obtain⟨k,hk,rfl,hr,hbx,hb⟩:=hrel
     by_cases hlt:k<q
     ·have hki:(k:Int)<q:=by omega
      obtain⟨kq,hkq⟩:∃kq,k+q=kq:=⟨_,rfl⟩
      obtain⟨k2,hk2⟩:∃k2,k+p=k2:=⟨_,rfl⟩
      obtain⟨q3,hq3⟩:∃q3,3*q=q3:=⟨_,rfl⟩
      obtain⟨k3,hk3⟩:∃k3,k+q3=k3:=⟨_,rfl⟩
      obtain⟨hp1,hp2,hp3⟩:=HP.out
      have HK:Hid (k<n/\k2<n/\kq<n/\k3<n/\k<p/\kq<p):=aZ (by omega)
      have HSR:Hid (∀h,splitR ρ.R n s E Z Y h k=updT (updT (updT (updT h k (ρ.R.add (E k) (ρ.R.add (ρ.R.mul (ρ.R.root (s*(k:Int)) n) (Z k)) (ρ.R.mul (ρ.R.root (s*(-(k:Int))) n) (Y k))))) k2 (ρ.R.sub (E k) (ρ.R.add (ρ.R.mul (ρ.R.root (s*(k:Int)) n) (Z k)) (ρ.R.mul (ρ.R.root (s*(-(k:Int))) n) (Y k))))) kq (ρ.R.add (E kq) (ρ.R.mul (ρ.R.root (s*(q:Int)) n) (ρ.R.sub (ρ.R.mul (ρ.R.root (s*(k:Int)) n) (Z k)) (ρ.R.mul (ρ.R.root (s*(-(k:Int))) n) (Y k)))))) k3 (ρ.R.sub (E kq) (ρ.R.mul (ρ.R.root (s*(q:Int)) n) (ρ.R.sub (ρ.R.mul (ρ.R.root (s*(k:Int)) n) (Z k)) (ρ.R.mul (ρ.R.root (s*(-(k:Int))) n) (Y k)))))):=
       aZ (λh=>by
        have e2:k+2*q=k2:=by omega
        have e3:k+3*q=k3:=by omega
        unfold splitR
        dsimp only
        rw[hp3,hkq,e2,e3])
      have hkn:n<n+1:=by omega
      have hk0:(kq:Int)<p/\(k:Int)<p/\(k:Int)<n/\(k2:Int)<n/\(kq:Int)<n/\(k3:Int)<n:=by omega
      obtain⟨b1,b2,b3,b4,b5,b6⟩:=hk0
      have hkp:k<p:=by omega
      have hkqp:kq<p:=by omega
      have m1:IntKind.i64.wrap (-(k:Int))=-(k:Int):=by rw[IntKind.wrap_i64];omega
      have m2:IntKind.i64.wrap (2*(q:Int))=(p:Int):=by rw[IntKind.wrap_i64];omega
      have m3:IntKind.i64.wrap ((k:Int)+p)=(k2:Int):=by rw[IntKind.wrap_i64];omega
      have m4:IntKind.i64.wrap ((k:Int)+q)=(kq:Int):=by rw[IntKind.wrap_i64];omega
      have m5:IntKind.i64.wrap (3*(q:Int))=(q3:Int):=by rw[IntKind.wrap_i64];omega
      have m6:IntKind.i64.wrap ((k:Int)+q3)=(k3:Int):=by rw[IntKind.wrap_i64];omega
      have HKB:Hid (-65536<=(k:Int)/\(k:Int)<=65536/\-65536<=-(k:Int)/\-(k:Int)<=65536):=aZ (by omega)
      obtain⟨zu,z1,z2,-,-,hzu⟩:=HZ7.out.row k hlt
      obtain⟨yu,yy1,yy2,-,-,hyu⟩:=HYR.out.row k hlt
      obtain⟨eu,ee1,ee2,-,-,heu⟩:=HE7.out.row k hkp
      obtain⟨fv,ff1,ff2,-,-,hfv⟩:=HE7.out.row kq hkqp
      have HVAL:Hid (nC zu=Z k/\nC yu=Y k/\nC eu=E k/\nC fv=E kq):=aZ ⟨hzu,hyu,heu,hfv⟩
      have HC7:Hid ((w7.cell? ⟨gz,k*2,none⟩=some (.float .f64 zu.1)/\w7.cell? ⟨gz,k*2+1,none⟩=some (.float .f64 zu.2))/\(w7.cell? ⟨gy,k*2,none⟩=some (.float .f64 yu.1)/\w7.cell? ⟨gy,k*2+1,none⟩=some (.float .f64 yu.2))/\(w7.cell? ⟨ge,k*2,none⟩=some (.float .f64 eu.1)/\w7.cell? ⟨ge,k*2+1,none⟩=some (.float .f64 eu.2))/\(w7.cell? ⟨ge,kq*2,none⟩=some (.float .f64 fv.1)/\w7.cell? ⟨ge,kq*2+1,none⟩=some (.float .f64 fv.2))):=aZ ⟨⟨z1,z2⟩,⟨yy1,yy2⟩,⟨ee1,ee2⟩,ff1,ff2⟩
      clear hkq hk2 hq3 hk3 hp1 hp2 hp3 hkn hkp hkqp z1 z2 yy1 yy2 ee1 ee2 ff1 ff2 hzu hyu heu hfv
      have e1:=HH.out.nm
      have e2:=HH.out.mm
      have e3:=HH.out.cm
      have e4:=HH.out.na
      have e5:=HH.out.ma
      have e6:=HH.out.ca
      have e7:=HH.out.ns
      have e8:=HH.out.ms
      have e9:=HH.out.cs
      have HST_r:=aZ hb.out.st
      have HS13:Hid (∀w',Hid (M.On wr w')->(w'.cell? ⟨gz,k*2,none⟩=some (.float .f64 zu.1)/\w'.cell? ⟨gz,k*2+1,none⟩=some (.float .f64 zu.2)/\w'.cell? ⟨gy,k*2,none⟩=some (.float .f64 yu.1)/\w'.cell? ⟨gy,k*2+1,none⟩=some (.float .f64 yu.2)/\w'.cell? ⟨bR,0,none⟩=some (.iface ρ.t ρ.v)/\w'.cell? ⟨bR,1,none⟩=some (.int .i64 s)/\Hid (M.On wr w'))):=aZ (λw' h=>by
       have h7:Hid (M.On w7 w'):=aZ (hb.out.trans HH.out.mem h.out)
       have hR:=HSB.out w' (aZ (HO7.out.trans HH.out.mem h7.out))
       exact⟨on_cell HH.out.mem HO7.out.st h7 HC7.out.1.1,on_cell HH.out.mem HO7.out.st h7 HC7.out.1.2,on_cell HH.out.mem HO7.out.st h7 HC7.out.2.1.1,on_cell HH.out.mem HO7.out.st h7 HC7.out.2.1.2,hR.1,hR.2.1,h⟩)
      have Hwr:=aZ hb.out.st
      go_upto_region 13 with(fail)
      refine wp_region_S (λw'=>(w'.cell? ⟨gz,k*2,none⟩=some (.float .f64 zu.1)/\w'.cell? ⟨gz,k*2+1,none⟩=some (.float .f64 zu.2)/\w'.cell? ⟨gy,k*2,none⟩=some (.float .f64 yu.1)/\w'.cell? ⟨gy,k*2+1,none⟩=some (.float .f64 yu.2)/\w'.cell? ⟨bR,0,none⟩=some (.iface ρ.t ρ.v)/\w'.cell? ⟨bR,1,none⟩=some (.int .i64 s)/\Hid (M.On wr w'))) 29 (by kernel_rfl) ?_
      have hS0:=HS13.out _ (aZ ((HH.out.mem.on_refl Hwr.out).drew HH.out.mem))
      refine Takes.intro [0,1,2,3,4,6,7,8,9,10,11,13,14,15,16,17,18,20,21,22,23,24,25] ?_
      repeat(refine Takes.go (v:=?_) hS0 ?_;try simp only[nrm,Act.put])
      refine Takes.nil ?_
      refine wpFl_begin 27 28 13 14 (FlC M wr.heap.size) (by simp) (by simp) hS0 (λx1 x2=>FlC.start _ _ _ _) ?_
      clear hS0
      refine wpFl_one 5 68 (floatsC HH.out.mem (D:=wr) (λw h=>h.2.2.2.2.2.2.out) (λw h=>HS13.out w (aZ h)) (by decide) (by decide) ⟨_,rfl,rfl,rfl,rfl⟩ ⟨_,rfl,rfl,rfl,rfl⟩) (by kernel_rfl) rfl rfl rfl (by decide) (by decide) (by decide) (by decide) ?_
      intro g1 x1 g2 x2 wa hSa hFa K hK
      try simp only[ptA,List.getElem_toArray,List.getElem_cons_zero,List.getElem_cons_succ,Act.put,List.setIfInBounds_toArray,List.set_cons_zero,List.set_cons_succ] at hK|-
      go_simp
      refine(withC_r HH.out s HS.out k n _ HKB.out.1 HKB.out.2.1 HB5.out.2.2.2.2.2.2.2.2 HB5.out.2.2.2.2.2.2.1 hSa.2.2.2.2.2.2.out.st).mono ?_
      rintro z wz ⟨⟨c1,rfl,hq⟩,hb2⟩
      have HC1:=aZ hq
      refine hK.out _ _ (HS13.out _ (aZ (hSa.2.2.2.2.2.2.out.trans HH.out.mem hb2))) (FlC.keep HH.out.mem hFa hb2 hSa.2.2.2.2.2.2.out.st) ?_
      clear hK K hb2 hq hFa hSa
      try simp only[ptA,List.getElem_toArray,List.getElem_cons_zero,List.getElem_cons_succ,Act.put,List.setIfInBounds_toArray,List.set_cons_zero,List.set_cons_succ]
      refine wpFl_one 12 75 (floatsC HH.out.mem (D:=wr) (λw h=>h.2.2.2.2.2.2.out) (λw h=>HS13.out w (aZ h)) (by decide) (by decide) ⟨_,rfl,rfl,rfl,rfl⟩ ⟨_,rfl,rfl,rfl,rfl⟩) (by kernel_rfl) rfl rfl rfl (by decide) (by decide) (by decide) (by decide) ?_
      intro g1 x1 g2 x2 wa hSa hFa K hK
      try simp only[ptA,List.getElem_toArray,List.getElem_cons_zero,List.getElem_cons_succ,Act.put,List.setIfInBounds_toArray,List.set_cons_zero,List.set_cons_succ] at hK|-
      go_simp
      refine(HH.out.mul _ _ _ hSa.2.2.2.2.2.2.out.st).mono ?_
      rintro z wz ⟨⟨ru,rfl,hq⟩,hb2⟩
      have HRU:Hid (nC ru=ρ.R.mul (ρ.R.root (s*(k:Int)) n) (Z k)):=aZ (by rw[hq,HC1.out,HVAL.out.1])
      clear HC1
      refine hK.out _ _ (HS13.out _ (aZ (hSa.2.2.2.2.2.2.out.trans HH.out.mem hb2))) (FlC.keep HH.out.mem hFa hb2 hSa.2.2.2.2.2.2.out.st) ?_
      clear hK K hb2 hq hFa hSa
      try simp only[ptA,List.getElem_toArray,List.getElem_cons_zero,List.getElem_cons_succ,Act.put,List.setIfInBounds_toArray,List.set_cons_zero,List.set_cons_succ]
      refine wpFl_one 19 82 (floatsC HH.out.mem (D:=wr) (λw h=>h.2.2.2.2.2.2.out) (λw h=>HS13.out w (aZ h)) (by decide) (by decide) ⟨_,rfl,rfl,rfl,rfl⟩ ⟨_,rfl,rfl,rfl,rfl⟩) (by kernel_rfl) rfl rfl rfl (by decide) (by decide) (by decide) (by decide) ?_
      intro g1 x1 g2 x2 wa hSa hFa K hK
      try simp only[ptA,List.getElem_toArray,List.getElem_cons_zero,List.getElem_cons_succ,Act.put,List.setIfInBounds_toArray,List.set_cons_zero,List.set_cons_succ] at hK|-
      go_simp
      refine(withC_r HH.out s HS.out (-(k:Int)) n _ HKB.out.2.2.1 HKB.out.2.2.2 HB5.out.2.2.2.2.2.2.2.2 HB5.out.2.2.2.2.2.2.1 hSa.2.2.2.2.2.2.out.st).mono ?_
      rintro z wz ⟨⟨c2,rfl,hq⟩,hb2⟩
      have HC2:=aZ hq
      refine hK.out _ _ (HS13.out _ (aZ (hSa.2.2.2.2.2.2.out.trans HH.out.mem hb2))) (FlC.keep HH.out.mem hFa hb2 hSa.2.2.2.2.2.2.out.st) ?_
      clear hK K hb2 hq hFa hSa
      try simp only[ptA,List.getElem_toArray,List.getElem_cons_zero,List.getElem_cons_succ,Act.put,List.setIfInBounds_toArray,List.set_cons_zero,List.set_cons_succ]
      refine wpFl_one 26 89 (floatsC HH.out.mem (D:=wr) (λw h=>h.2.2.2.2.2.2.out) (λw h=>HS13.out w (aZ h)) (by decide) (by decide) ⟨_,rfl,rfl,rfl,rfl⟩ ⟨_,rfl,rfl,rfl,rfl⟩) (by kernel_rfl) rfl rfl rfl (by decide) (by decide) (by decide) (by decide) ?_
      intro g1 x1 g2 x2 wa hSa hFa K hK
      try simp only[ptA,List.getElem_toArray,List.getElem_cons_zero,List.getElem_cons_succ,Act.put,List.setIfInBounds_toArray,List.set_cons_zero,List.set_cons_succ] at hK|-
      go_simp
      refine(HH.out.mul _ _ _ hSa.2.2.2.2.2.2.out.st).mono ?_
      rintro z wz ⟨⟨rv,rfl,hq⟩,hb2⟩
      have HRV:Hid (nC rv=ρ.R.mul (ρ.R.root (s*(-(k:Int))) n) (Y k)):=aZ (by rw[hq,HC2.out,HVAL.out.2.1])
      clear HC2
      refine hK.out _ _ (HS13.out _ (aZ (hSa.2.2.2.2.2.2.out.trans HH.out.mem hb2))) (FlC.keep HH.out.mem hFa hb2 hSa.2.2.2.2.2.2.out.st) ?_
      clear hK K hb2 hq hFa hSa
      try simp only[ptA,List.getElem_toArray,List.getElem_cons_zero,List.getElem_cons_succ,Act.put,List.setIfInBounds_toArray,List.set_cons_zero,List.set_cons_succ]
      refine wpFl_end 2 29 (floatsC HH.out.mem (D:=wr) (λw h=>h.2.2.2.2.2.2.out) (λw h=>HS13.out w (aZ h)) (by decide) (by decide) ⟨_,rfl,rfl,rfl,rfl⟩ ⟨_,rfl,rfl,rfl,rfl⟩) (by kernel_rfl) (by decide) rfl ?_
      intro x1 x2 wa hSa hFa
      obtain⟨p1,p2,rfl,rfl,hpp,lp1,lp2,bp1,bp2⟩:=hFa.done
      simp only[nrd]
      try simp only[ptA,List.getElem_toArray,List.getElem_cons_zero,List.getElem_cons_succ,Act.put,List.setIfInBounds_toArray,List.set_cons_zero,List.set_cons_succ]
      obtain⟨k0,k1,k2',k3',k4,k5⟩:=box2 HH.out.mem hSa.2.2.2.2.2.2.out Hwr.out lp1 lp2 hpp bp1 bp2 ru rv
      unfold setB at k0 k1 k2' k3' k4 k5
      obtain⟨i0,i1,i2,i3,-,-⟩:=bp1
      obtain⟨j0,j1,j2,j3,-,-⟩:=k0
      go_upto_region 14 with(fail)
      obtain⟨wA,hW⟩:∃wA,wA=(((wa.setCell ⟨p1,0,none⟩ (.float .f64 ru.1)).setCell ⟨p1,1,none⟩ (.float .f64 ru.2)).setCell ⟨p2,0,none⟩ (.float .f64 rv.1)).setCell ⟨p2,1,none⟩ (.float .f64 rv.2):=⟨_,rfl⟩
      rw[<-hW] at k1 k2' k3' k4 k5|-
      obtain⟨gu,hp1⟩:∃gu,gu=p1:=⟨_,rfl⟩
      obtain⟨gv,hp2⟩:∃gv,gv=p2:=⟨_,rfl⟩
      rw[<-hp1] at k1 lp1|-
      rw[<-hp2] at k2' lp2|-
      have HU_wA:=aZ k1
      have HV_wA:=aZ k2'
      have HD_wA:=aZ k3'
      have HwA:=aZ k3'.st
      have HG_wA:=aZ (k5 _ _ _ hr.out)
      have HX_wA:=aZ (k4 _ _ hbx.out)
      have HO_wA:=aZ (hb.out.trans HH.out.mem k3')
      have HN_wA:Hid (go<wA.heap.size):=aZ HG_wA.out.lt
      clear i0 i1 i2 i3 j0 j1 j2 j3 k1 k2' k3' k4 k5 hW hp1 hp2 lp1 lp2 hpp hSa hFa hr hbx hb HS13 HST_r Hwr
      have HS14:Hid (∀w',Hid (M.On wA w')->(w'.cell? ⟨gu,0,none⟩=some (.float .f64 ru.1)/\w'.cell? ⟨gu,1,none⟩=some (.float .f64 ru.2)/\w'.cell? ⟨gv,0,none⟩=some (.float .f64 rv.1)/\w'.cell? ⟨gv,1,none⟩=some (.float .f64 rv.2)/\w'.cell? ⟨bi,0,none⟩=some (.float .f64 ri.1)/\w'.cell? ⟨bi,1,none⟩=some (.float .f64 ri.2)/\w'.cell? ⟨bR,0,none⟩=some (.iface ρ.t ρ.v)/\Hid (M.On wA w'))):=aZ (λw' h=>by
       have h7:Hid (M.On w7 w'):=aZ (HO_wA.out.trans HH.out.mem h.out)
       have hR:=HSB.out w' (aZ (HO7.out.trans HH.out.mem h7.out))
       exact⟨on_cell HH.out.mem HwA.out h HU_wA.out.c0,on_cell HH.out.mem HwA.out h HU_wA.out.c1,on_cell HH.out.mem HwA.out h HV_wA.out.c0,on_cell HH.out.mem HwA.out h HV_wA.out.c1,on_cell HH.out.mem HwA.out h HX_wA.out.c0,on_cell HH.out.mem HwA.out h HX_wA.out.c1,hR.1,h⟩)
      go_upto_region 14 with(fail)
      refine wp_region_S (λw'=>(w'.cell? ⟨gu,0,none⟩=some (.float .f64 ru.1)/\w'.cell? ⟨gu,1,none⟩=some (.float .f64 ru.2)/\w'.cell? ⟨gv,0,none⟩=some (.float .f64 rv.1)/\w'.cell? ⟨gv,1,none⟩=some (.float .f64 rv.2)/\w'.cell? ⟨bi,0,none⟩=some (.float .f64 ri.1)/\w'.cell? ⟨bi,1,none⟩=some (.float .f64 ri.2)/\w'.cell? ⟨bR,0,none⟩=some (.iface ρ.t ρ.v)/\Hid (M.On wA w'))) 18 (by kernel_rfl) ?_
      have hS0:=HS14.out _ (aZ ((HH.out.mem.on_refl HwA.out).drew HH.out.mem))
      refine Takes.intro [0,1,2,3,5,6,7,8,9,10,11,13,14] ?_
      repeat(refine Takes.go (v:=?_) hS0 ?_;try simp only[nrm,Act.put])
      refine Takes.nil ?_
      refine wpFl_begin 16 17 15 16 (FlC M wA.heap.size) (by simp) (by simp) hS0 (λx1 x2=>FlC.start _ _ _ _) ?_
      clear hS0
      refine wpFl_one 4 94 (floatsC HH.out.mem (D:=wA) (λw h=>h.2.2.2.2.2.2.2.out) (λw h=>HS14.out w (aZ h)) (by decide) (by decide) ⟨_,rfl,rfl,rfl,rfl⟩ ⟨_,rfl,rfl,rfl,rfl⟩) (by kernel_rfl) rfl rfl rfl (by decide) (by decide) (by decide) (by decide) ?_
      intro g1 x1 g2 x2 wa hSa hFa K hK
      try simp only[ptA,List.getElem_toArray,List.getElem_cons_zero,List.getElem_cons_succ,Act.put,List.setIfInBounds_toArray,List.set_cons_zero,List.set_cons_succ] at hK|-
      go_simp
      refine(HH.out.add _ _ _ hSa.2.2.2.2.2.2.2.out.st).mono ?_
      rintro z wz ⟨⟨rs,rfl,hq⟩,hb2⟩
      have HRS:Hid (nC rs=ρ.R.add (nC ru) (nC rv)):=aZ hq
      refine hK.out _ _ (HS14.out _ (aZ (hSa.2.2.2.2.2.2.2.out.trans HH.out.mem hb2))) (FlC.keep HH.out.mem hFa hb2 hSa.2.2.2.2.2.2.2.out.st) ?_
      clear hK K hb2 hq hFa hSa
      try simp only[ptA,List.getElem_toArray,List.getElem_cons_zero,List.getElem_cons_succ,Act.put,List.setIfInBounds_toArray,List.set_cons_zero,List.set_cons_succ]
      refine wpFl_one 12 102 (floatsC HH.out.mem (D:=wA) (λw h=>h.2.2.2.2.2.2.2.out) (λw h=>HS14.out w (aZ h)) (by decide) (by decide) ⟨_,rfl,rfl,rfl,rfl⟩ ⟨_,rfl,rfl,rfl,rfl⟩) (by kernel_rfl) rfl rfl rfl (by decide) (by decide) (by decide) (by decide) ?_
      intro g1 x1 g2 x2 wa hSa hFa K hK
      try simp only[ptA,List.getElem_toArray,List.getElem_cons_zero,List.getElem_cons_succ,Act.put,List.setIfInBounds_toArray,List.set_cons_zero,List.set_cons_succ] at hK|-
      go_simp
      refine(HH.out.sub _ _ _ hSa.2.2.2.2.2.2.2.out.st).mono ?_
      rintro z wz ⟨⟨rt,rfl,hq⟩,hb2⟩
      have HRT:Hid (nC rt=ρ.R.sub (nC ru) (nC rv)):=aZ hq
      refine hK.out _ _ (HS14.out _ (aZ (hSa.2.2.2.2.2.2.2.out.trans HH.out.mem hb2))) (FlC.keep HH.out.mem hFa hb2 hSa.2.2.2.2.2.2.2.out.st) ?_
      clear hK K hb2 hq hFa hSa
      try simp only[ptA,List.getElem_toArray,List.getElem_cons_zero,List.getElem_cons_succ,Act.put,List.setIfInBounds_toArray,List.set_cons_zero,List.set_cons_succ]
      refine wpFl_one 15 105 (floatsC HH.out.mem (D:=wA) (λw h=>h.2.2.2.2.2.2.2.out) (λw h=>HS14.out w (aZ h)) (by decide) (by decide) ⟨_,rfl,rfl,rfl,rfl⟩ ⟨_,rfl,rfl,rfl,rfl⟩) (by kernel_rfl) rfl rfl rfl (by decide) (by decide) (by decide) (by decide) ?_
      intro g1 x1 g2 x2 wa hSa hFa K hK
      try simp only[ptA,List.getElem_toArray,List.getElem_cons_zero,List.getElem_cons_succ,Act.put,List.setIfInBounds_toArray,List.set_cons_zero,List.set_cons_succ] at hK|-
      go_simp
      refine(HH.out.mul _ _ _ hSa.2.2.2.2.2.2.2.out.st).mono ?_
      rintro z wz ⟨⟨rd,rfl,hq⟩,hb2⟩
      have HRD:Hid (nC rd=ρ.R.mul (ρ.R.root (s*(q:Int)) n) (ρ.R.sub (nC ru) (nC rv))):=aZ (by rw[hq,HRI.out,HRT.out])
      clear HRT
      refine hK.out _ _ (HS14.out _ (aZ (hSa.2.2.2.2.2.2.2.out.trans HH.out.mem hb2))) (FlC.keep HH.out.mem hFa hb2 hSa.2.2.2.2.2.2.2.out.st) ?_
      clear hK K hb2 hq hFa hSa
      try simp only[ptA,List.getElem_toArray,List.getElem_cons_zero,List.getElem_cons_succ,Act.put,List.setIfInBounds_toArray,List.set_cons_zero,List.set_cons_succ]
      refine wpFl_end 2 18 (floatsC HH.out.mem (D:=wA) (λw h=>h.2.2.2.2.2.2.2.out) (λw h=>HS14.out w (aZ h)) (by decide) (by decide) ⟨_,rfl,rfl,rfl,rfl⟩ ⟨_,rfl,rfl,rfl,rfl⟩) (by kernel_rfl) (by decide) rfl ?_
      intro x1 x2 wa hSa hFa
      obtain⟨p1,p2,rfl,rfl,hpp,lp1,lp2,bp1,bp2⟩:=hFa.done
      simp only[nrd]
      try simp only[ptA,List.getElem_toArray,List.getElem_cons_zero,List.getElem_cons_succ,Act.put,List.setIfInBounds_toArray,List.set_cons_zero,List.set_cons_succ]
      obtain⟨k0,k1,k2',k3',k4,k5⟩:=box2 HH.out.mem hSa.2.2.2.2.2.2.2.out HwA.out lp1 lp2 hpp bp1 bp2 rs rd
      unfold setB at k0 k1 k2' k3' k4 k5
      obtain⟨i0,i1,i2,i3,-,-⟩:=bp1
      obtain⟨j0,j1,j2,j3,-,-⟩:=k0
      go_upto_region 15 with(fail)
      obtain⟨wB,hW⟩:∃wB,wB=(((wa.setCell ⟨p1,0,none⟩ (.float .f64 rs.1)).setCell ⟨p1,1,none⟩ (.float .f64 rs.2)).setCell ⟨p2,0,none⟩ (.float .f64 rd.1)).setCell ⟨p2,1,none⟩ (.float .f64 rd.2):=⟨_,rfl⟩
      rw[<-hW] at k1 k2' k3' k4 k5|-
      obtain⟨gs,hp1⟩:∃gs,gs=p1:=⟨_,rfl⟩
      obtain⟨gd,hp2⟩:∃gd,gd=p2:=⟨_,rfl⟩
      rw[<-hp1] at k1 lp1|-
      rw[<-hp2] at k2' lp2|-
      have HU_wB:=aZ k1
      have HV_wB:=aZ k2'
      have HD_wB:=aZ k3'
      have HwB:=aZ k3'.st
      have HG_wB:=aZ (k5 _ _ _ HG_wA.out)
      have HX_wB:=aZ (k4 _ _ HX_wA.out)
      have HO_wB:=aZ (HO_wA.out.trans HH.out.mem k3')
      have HNE:Hid (gs≠go/\gd≠go):=aZ (by have:=HN_wA.out;omega)
      clear i0 i1 i2 i3 j0 j1 j2 j3 k1 k2' k3' k4 k5 hW hp1 hp2 lp1 lp2 hpp hSa hFa HG_wA HX_wA HS14 HN_wA HU_wA HV_wA HD_wA HD_wB
      have HS15:Hid (∀w',Hid (M.On w7 w')->BoxC M w' gs rs->(w'.cell? ⟨ge,k*2,none⟩=some (.float .f64 eu.1)/\w'.cell? ⟨ge,k*2+1,none⟩=some (.float .f64 eu.2)/\w'.cell? ⟨gs,0,none⟩=some (.float .f64 rs.1)/\w'.cell? ⟨gs,1,none⟩=some (.float .f64 rs.2)/\w'.cell? ⟨bR,0,none⟩=some (.iface ρ.t ρ.v)/\Hid (M.On w7 w'))):=aZ (λw' h7 hx=>by
       have hR:=HSB.out w' (aZ (HO7.out.trans HH.out.mem h7.out))
       exact⟨on_cell HH.out.mem HO7.out.st h7 HC7.out.2.2.1.1,on_cell HH.out.mem HO7.out.st h7 HC7.out.2.2.1.2,hx.c0,hx.c1,hR.1,h7⟩)
      refine wp_region_S (λw'=>(w'.cell? ⟨ge,k*2,none⟩=some (.float .f64 eu.1)/\w'.cell? ⟨ge,k*2+1,none⟩=some (.float .f64 eu.2)/\w'.cell? ⟨gs,0,none⟩=some (.float .f64 rs.1)/\w'.cell? ⟨gs,1,none⟩=some (.float .f64 rs.2)/\w'.cell? ⟨bR,0,none⟩=some (.iface ρ.t ρ.v)/\Hid (M.On w7 w'))) 29 (by kernel_rfl) ?_
      have hS0:=HS15.out _ (aZ (HO_wB.out.drew HH.out.mem)) (HU_wB.out.keep HH.out.mem ((HH.out.mem.on_refl HwB.out).drew HH.out.mem) HwB.out)
      refine Takes.intro [0,1,2,3,4,5,6,7,8,9,10,11,12,13,14,15,17,18,19,20,21,22,23,24,25] ?_
      repeat(refine Takes.go (v:=?_) hS0 ?_;try simp only[nrm,Act.put])
      refine Takes.nil ?_
      refine wpAnyS_1 16 (λK hK=>?_)
      go_simp
      refine(HH.out.add _ _ _ hS0.2.2.2.2.2.out.st).mono ?_
      rintro z wz ⟨⟨q1,rfl,hq1⟩,hb2⟩
      have HX1:Hid (M.On wB wz):=aZ (((HH.out.mem.on_refl HwB.out).drew HH.out.mem).trans HH.out.mem hb2)
      have HO1:Hid (M.On w7 wz):=aZ (HO_wB.out.trans HH.out.mem HX1.out)
      have hS1:=HS15.out _ HO1 (HU_wB.out.keep HH.out.mem HX1.out HwB.out)
      clear hb2
      refine hK.out _ _ (λ_=>hS1) ?_
      clear hK K
      try simp only[nrm,Act.put]
      refine wpAnyS_1 26 (λK hK=>?_)
      go_simp
      refine(HH.out.sub _ _ _ hS1.2.2.2.2.2.out.st).mono ?_
      rintro z wy ⟨⟨q2,rfl,hq2⟩,hb2⟩
      have HX2:Hid (M.On wB wy):=aZ (HX1.out.trans HH.out.mem hb2)
      have HO2:Hid (M.On w7 wy):=aZ (HO_wB.out.trans HH.out.mem HX2.out)
      have HB2:=aZ (HU_wB.out.keep HH.out.mem HX2.out HwB.out)
      have hS2:=HS15.out _ HO2 HB2.out
      have HN2:=aZ (HG_wB.out.keep HH.out.mem HX2.out HwB.out)
      obtain⟨u0,r1,r2,r3,r4,-⟩:=HN2.out.row k HK.out.1
      clear hb2
      refine hK.out _ _ (λ_=>hS2) ?_
      clear hK K
      try simp only[nrm,Act.put]
      refine Takes.intro [27] ?_
      repeat(refine Takes.go (v:=?_) hS2 ?_;try simp only[nrm,Act.put])
      refine Takes.nil ?_
      refine wpAnyS_1 28 (λK hK=>?_)
      go_simp
      have HP2:=aZ (own_put HH.out.mem HN2.out HO2.out HGO.out HK.out.1 q1)
      have hS3:=HS15.out _ (aZ HP2.out.2.1) (HP2.out.2.2 _ _ HNE.out.1 HB2.out)
      unfold putC at HP2 hS3
      clear r1 r2 r3 r4
      refine hK.out _ _ (λ_=>hS3) ?_
      clear hK K
      try simp only[nrm,Act.put]
      refine wpAnyS_fin 2 29 ?_
      simp only[nrd]
      have HQ1:Hid (nC q1=ρ.R.add (E k) (nC rs)/\nC q2=ρ.R.sub (E k) (nC rs)):=aZ ⟨by rw[hq1,HVAL.out.2.2.1],by rw[hq2,HVAL.out.2.2.1]⟩
      obtain⟨u0,r1,r2,r3,r4,-⟩:=HP2.out.1.row k2 HK.out.2.1
      have HP3:=aZ (own_put HH.out.mem HP2.out.1 HP2.out.2.1 HGO.out HK.out.2.1 q2)
      have HBD:=aZ (HP3.out.2.2 _ _ HNE.out.2 (HP2.out.2.2 _ _ HNE.out.2 (HV_wB.out.keep HH.out.mem HX2.out HwB.out)))
      have HBI:=aZ (HP3.out.2.2 _ _ HGI.out.2 (HP2.out.2.2 _ _ HGI.out.2 (HX_wB.out.keep HH.out.mem HX2.out HwB.out)))
      unfold putC at HP3 HBD HBI
      clear hS0 hS1 hS2 hS3 HX1 HO1 HX2 HO2 HB2 HN2 HP2 hq1 hq2 HS15 HU_wB HV_wB HX_wB HG_wB
      go_upto_region 16 with(fail)
      obtain⟨wC,hwC⟩:∃wC,wC=(((wy.setCell ⟨go,k*2,none⟩ (.float .f64 q1.1)).setCell ⟨go,k*2+1,none⟩ (.float .f64 q1.2)).setCell ⟨go,k2*2,none⟩ (.float .f64 q2.1)).setCell ⟨go,k2*2+1,none⟩ (.float .f64 q2.2):=⟨_,rfl⟩
      rw[<-hwC] at HP3 HBD HBI|-
      have HG_wC:=aZ HP3.out.1
      have HO_wC:=aZ HP3.out.2.1
      have HwC:=aZ HP3.out.2.1.st
      clear r1 r2 r3 r4 hwC HP3
      have HS16:Hid (∀w',Hid (M.On w7 w')->BoxC M w' gd rd->(w'.cell? ⟨ge,kq*2,none⟩=some (.float .f64 fv.1)/\w'.cell? ⟨ge,kq*2+1,none⟩=some (.float .f64 fv.2)/\w'.cell? ⟨gd,0,none⟩=some (.float .f64 rd.1)/\w'.cell? ⟨gd,1,none⟩=some (.float .f64 rd.2)/\w'.cell? ⟨bR,0,none⟩=some (.iface ρ.t ρ.v)/\Hid (M.On w7 w'))):=aZ (λw' h7 hx=>by
       have hR:=HSB.out w' (aZ (HO7.out.trans HH.out.mem h7.out))
       exact⟨on_cell HH.out.mem HO7.out.st h7 HC7.out.2.2.2.1,on_cell HH.out.mem HO7.out.st h7 HC7.out.2.2.2.2,hx.c0,hx.c1,hR.1,h7⟩)
      refine wp_region_S (λw'=>(w'.cell? ⟨ge,kq*2,none⟩=some (.float .f64 fv.1)/\w'.cell? ⟨ge,kq*2+1,none⟩=some (.float .f64 fv.2)/\w'.cell? ⟨gd,0,none⟩=some (.float .f64 rd.1)/\w'.cell? ⟨gd,1,none⟩=some (.float .f64 rd.2)/\w'.cell? ⟨bR,0,none⟩=some (.iface ρ.t ρ.v)/\Hid (M.On w7 w'))) 35 (by kernel_rfl) ?_
      have hS0:=HS16.out _ (aZ (HO_wC.out.drew HH.out.mem)) (HBD.out.keep HH.out.mem ((HH.out.mem.on_refl HwC.out).drew HH.out.mem) HwC.out)
      refine Takes.intro [0,1,2,3,4,5,6,7,8,9,10,11,12,13,14,15,16,17,18,19,21,22,23,24,25,26,27,28,29,30,31] ?_
      repeat(refine Takes.go (v:=?_) hS0 ?_;try simp only[nrm,Act.put])
      refine Takes.nil ?_
      refine wpAnyS_1 20 (λK hK=>?_)
      go_simp
      refine(HH.out.add _ _ _ hS0.2.2.2.2.2.out.st).mono ?_
      rintro z wz ⟨⟨q3',rfl,hq1⟩,hb2⟩
      have HX1:Hid (M.On wC wz):=aZ (((HH.out.mem.on_refl HwC.out).drew HH.out.mem).trans HH.out.mem hb2)
      have HO1:Hid (M.On w7 wz):=aZ (HO_wC.out.trans HH.out.mem HX1.out)
      have hS1:=HS16.out _ HO1 (HBD.out.keep HH.out.mem HX1.out HwC.out)
      clear hb2
      refine hK.out _ _ (λ_=>hS1) ?_
      clear hK K
      try simp only[nrm,Act.put]
      refine wpAnyS_1 32 (λK hK=>?_)
      go_simp
      refine(HH.out.sub _ _ _ hS1.2.2.2.2.2.out.st).mono ?_
      rintro z wy ⟨⟨q4',rfl,hq2⟩,hb2⟩
      have HX2:Hid (M.On wC wy):=aZ (HX1.out.trans HH.out.mem hb2)
      have HO2:Hid (M.On w7 wy):=aZ (HO_wC.out.trans HH.out.mem HX2.out)
      have HB2:=aZ (HBD.out.keep HH.out.mem HX2.out HwC.out)
      have hS2:=HS16.out _ HO2 HB2.out
      have HN2:=aZ (HG_wC.out.keep HH.out.mem HX2.out HwC.out)
      obtain⟨u0,r1,r2,r3,r4,-⟩:=HN2.out.row kq HK.out.2.2.1
      clear hb2
      refine hK.out _ _ (λ_=>hS2) ?_
      clear hK K
      try simp only[nrm,Act.put]
      refine Takes.intro [33] ?_
      repeat(refine Takes.go (v:=?_) hS2 ?_;try simp only[nrm,Act.put])
      refine Takes.nil ?_
      refine wpAnyS_1 34 (λK hK=>?_)
      go_simp
      have HP2:=aZ (own_put HH.out.mem HN2.out HO2.out HGO.out HK.out.2.2.1 q3')
      have hS3:=HS16.out _ (aZ HP2.out.2.1) (HP2.out.2.2 _ _ HNE.out.2 HB2.out)
      unfold putC at HP2 hS3
      clear r1 r2 r3 r4
      refine hK.out _ _ (λ_=>hS3) ?_
      clear hK K
      try simp only[nrm,Act.put]
      refine wpAnyS_fin 2 35 ?_
      simp only[nrd]
      have HQ3:Hid (nC q3'=ρ.R.add (E kq) (nC rd)/\nC q4'=ρ.R.sub (E kq) (nC rd)):=aZ ⟨by rw[hq1,HVAL.out.2.2.2],by rw[hq2,HVAL.out.2.2.2]⟩
      obtain⟨u0,r1,r2,r3,r4,-⟩:=HP2.out.1.row k3 HK.out.2.2.2.1
      have HP3:=aZ (own_put HH.out.mem HP2.out.1 HP2.out.2.1 HGO.out HK.out.2.2.2.1 q4')
      have HBF:=aZ (HP3.out.2.2 _ _ HGI.out.2 (HP2.out.2.2 _ _ HGI.out.2 (HBI.out.keep HH.out.mem HX2.out HwC.out)))
      clear hS0 hS1 hS2 hS3 HX1 HO1 HX2 HO2 HB2 HN2 HP2 hq1 hq2 HS16 HBD HBI HG_wC e1 e2 e3 e4 e5 e6 e7 e8 e9 m1 m2 m3 m4 m5 m6
      go_wp2
      exact⟨⟨k+1,by omega,by go_num,aZ (by rw[foldT_succ,HSR.out,<-HRU.out,<-HRV.out,<-HRS.out,<-HRD.out,<-HQ1.out.1,<-HQ1.out.2,<-HQ3.out.1,<-HQ3.out.2];exact HP3.out.1),HBF,aZ HP3.out.2.1⟩,by simp[intOf];omega⟩
     ·obtain rfl:k=q:=by omega
      go_wp2
      go_ret
      exact⟨_,rfl,by have:=HH.out.mem.size HO7.out.fr;have:=HZ.out;have:=HGO.out;omega,by rw[HSF.out];exact hr.out,(HON.out.trans HH.out.mem HO7.out).trans HH.out.mem hb.out⟩
end
end Go.Proofs.YtfedabinindpbaaGreat
