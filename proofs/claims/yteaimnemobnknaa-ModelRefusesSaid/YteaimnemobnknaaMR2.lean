/- The circular convolution by a plan, over any ring. -/
import Derived.Test.YteaimnemobnknaaX0
import Derived.Test.YteaimnemobnknaaZ3
import Derived.Test.YteaimnemobnknaaR7
set_option maxRecDepth 100000
set_option maxHeartbeats 8000000
set_option linter.unusedSimpArgs false
set_option linter.unusedVariables false
namespace Go.Proofs.Yteaimnemobnknaa
open Go.RowKit Go.Lib
section
variable {M : Mem} {ρ : RingV}
theorem conv_in(H:ρ.Ok M){N:Nat}(h1:1<=N)(h2:N<=32768){K:Tr Int}(hK:∀s x,AllIn ρ x->AllIn ρ (K s x)){a b:Nat->Int}(ha:AllIn ρ a)(hb:AllIn ρ b):AllIn ρ (convF ρ.R N K a b):=
 over_in H (hK _ _ (times_in H (hK _ _ ha) (hK _ _ hb))) N h1 h2
theorem Conv_r(H:ρ.Ok M)(s kind r:Int)(kids:Fo)(N:Nat)(K:Tr Int)(P:PlanC M ρ kind N r kids N K)(h1:1<=N)(h2:N<=32768)(w:World)(A:Option Addr)(c:Nat)(X Y:Option Addr)(cx cy:Nat)(x y:Nat->Int)(hk:Kids w A 0 kids)(hX:IntsAt w X N x)(hx:AllIn ρ x)(hY:IntsAt w Y N y)(hy:AllIn ρ y)(hw:M.St w):
  Calls Try.prog 111 #[rnV ρ s,plV kind N r A kids.len c,.slice X N cx,.slice Y N cy] w λz w'=>∃g,z=.returned (.slice (some ⟨g,0,none⟩) N N)/\w.heap.size<=g/\Own M w' g N (convF ρ.R N K x y)/\M.On w w':=by
 have HH:=aZ H
 have HP:=aZ P
 have HX:=aZ hX
 have HY:=aZ hY
 have HI:=aZ hx
 have HJ:=aZ hy
 have HW:=aZ hw
 have HKI:=aZ hk
 clear H P hX hY hx hy hw hk
 go_enter Try.func111,Try.ntmps111
 go_upto_region 1 with(fail)
 obtain⟨W,hW⟩:∃W,W=(w.alloc (.cells #[.iface ρ.t ρ.v,.int .i64 s] 89)).alloc (.cells #[.int .i64 kind,.int .i64 N,.int .i64 r,.slice A kids.len c] 26):=⟨_,rfl⟩
 obtain⟨bR,hbR⟩:∃bR,bR=w.heap.size:=⟨_,rfl⟩
 obtain⟨bP,hbP⟩:∃bP,bP=bR+1:=⟨_,rfl⟩
 have HON:Hid (M.On w W):=aZ (by rw[hW];exact(HH.out.mem.on_refl HW.out).below HH.out.mem (((Below.refl _ w).alloc (Nat.le_refl _) _).alloc (by simp) _))
 have HBX:Hid ((W.cell? ⟨bR,0,none⟩=some (.iface ρ.t ρ.v)/\W.cell? ⟨bR,1,none⟩=some (.int .i64 s))/\(W.cell? ⟨bP,0,none⟩=some (.int .i64 kind)/\W.cell? ⟨bP,1,none⟩=some (.int .i64 N)/\W.cell? ⟨bP,2,none⟩=some (.int .i64 r)/\W.cell? ⟨bP,3,none⟩=some (.slice A kids.len c))):=
  aZ (by subst hbP hbR hW;exact⟨⟨by simp[go_sem],by simp[go_sem]⟩,by simp[go_sem],by simp[go_sem],by simp[go_sem],by simp[go_sem]⟩)
 have HZ:Hid (w.heap.size<=W.heap.size):=aZ (by subst hW;simp;omega)
 rw[<-hW]
 simp only[<-hbR]
 simp only[<-hbP]
 have HST:=aZ HON.out.st
 have HXW:=aZ (HX.out.keepM HH.out.mem HON.out HW.out)
 have HYW:=aZ (HY.out.keepM HH.out.mem HON.out HW.out)
 have HKW:=aZ (Kids.keep HH.out.mem HON.out HW.out HKI.out)
 have HSB:Hid (∀w',Hid (M.On W w')->(w'.cell? ⟨bR,0,none⟩=some (.iface ρ.t ρ.v)/\w'.cell? ⟨bR,1,none⟩=some (.int .i64 s)/\w'.cell? ⟨bP,0,none⟩=some (.int .i64 kind)/\w'.cell? ⟨bP,1,none⟩=some (.int .i64 N)/\w'.cell? ⟨bP,2,none⟩=some (.int .i64 r)/\w'.cell? ⟨bP,3,none⟩=some (.slice A kids.len c)/\Hid (M.On W w'))):=aZ (λw' h=>⟨on_cell HH.out.mem HST.out h HBX.out.1.1,on_cell HH.out.mem HST.out h HBX.out.1.2,on_cell HH.out.mem HST.out h HBX.out.2.1,on_cell HH.out.mem HST.out h HBX.out.2.2.1,on_cell HH.out.mem HST.out h HBX.out.2.2.2.1,on_cell HH.out.mem HST.out h HBX.out.2.2.2.2,h⟩)
 have HOR:=aZ (HH.out.mem.on_refl HST.out)
 obtain⟨⟨x1,x2⟩,-⟩:=HBX.out
 clear HX HY HKI hW hbP hbR
 go_wp2_with fail
 refine(turned_r HH.out s 1 _ HST.out).mono ?_
 rintro z w1 ⟨rfl,hb1⟩
 have HO1:=aZ hb1
 clear hb1 x1 x2 HBX
 go_upto_region 2 with(fail)
 obtain⟨W2,hW2⟩:∃W2,W2=w1.alloc (.cells #[.iface ρ.t ρ.v,.int .i64 1] 89):=⟨_,rfl⟩
 obtain⟨bT,hbT⟩:∃bT,bT=w1.heap.size:=⟨_,rfl⟩
 have HO2:Hid (M.On W W2):=aZ (by rw[hW2];exact HO1.out.below HH.out.mem ((Below.refl _ w1).alloc (Nat.le_refl _) _))
 have HBT:Hid (W2.cell? ⟨bT,0,none⟩=some (.iface ρ.t ρ.v)/\W2.cell? ⟨bT,1,none⟩=some (.int .i64 1)):=aZ (by subst hbT hW2;exact⟨by simp[go_sem],by simp[go_sem]⟩)
 rw[<-hW2]
 simp only[<-hbT]
 have HST2:=aZ HO2.out.st
 have HSC:Hid (∀w',Hid (M.On W2 w')->(w'.cell? ⟨bT,0,none⟩=some (.iface ρ.t ρ.v)/\w'.cell? ⟨bT,1,none⟩=some (.int .i64 1)/\w'.cell? ⟨bR,0,none⟩=some (.iface ρ.t ρ.v)/\w'.cell? ⟨bR,1,none⟩=some (.int .i64 s)/\w'.cell? ⟨bP,0,none⟩=some (.int .i64 kind)/\w'.cell? ⟨bP,1,none⟩=some (.int .i64 N)/\w'.cell? ⟨bP,2,none⟩=some (.int .i64 r)/\w'.cell? ⟨bP,3,none⟩=some (.slice A kids.len c)/\Hid (M.On W2 w'))):=aZ (λw' h=>⟨on_cell HH.out.mem HST2.out h HBT.out.1,on_cell HH.out.mem HST2.out h HBT.out.2,(HSB.out w' (aZ (HO2.out.trans HH.out.mem h.out))).1,(HSB.out w' (aZ (HO2.out.trans HH.out.mem h.out))).2.1,(HSB.out w' (aZ (HO2.out.trans HH.out.mem h.out))).2.2.1,(HSB.out w' (aZ (HO2.out.trans HH.out.mem h.out))).2.2.2.1,(HSB.out w' (aZ (HO2.out.trans HH.out.mem h.out))).2.2.2.2.1,(HSB.out w' (aZ (HO2.out.trans HH.out.mem h.out))).2.2.2.2.2.1,h⟩)
 have HOT:=aZ (HH.out.mem.on_refl HST2.out)
 have HZ2:Hid (W.heap.size<=W2.heap.size):=aZ (HH.out.mem.size HO2.out.fr)
 clear HBT hbT hW2 HO1
 refine wp_region_S (λw'=>(w'.cell? ⟨bT,0,none⟩=some (.iface ρ.t ρ.v)/\w'.cell? ⟨bT,1,none⟩=some (.int .i64 1)/\w'.cell? ⟨bR,0,none⟩=some (.iface ρ.t ρ.v)/\w'.cell? ⟨bR,1,none⟩=some (.int .i64 s)/\w'.cell? ⟨bP,0,none⟩=some (.int .i64 kind)/\w'.cell? ⟨bP,1,none⟩=some (.int .i64 N)/\w'.cell? ⟨bP,2,none⟩=some (.int .i64 r)/\w'.cell? ⟨bP,3,none⟩=some (.slice A kids.len c)/\Hid (M.On W2 w'))) 10 (by kernel_rfl) ?_
 have hS0:=HSC.out _ (aZ (HOT.out.drew HH.out.mem))
 refine Takes.intro [0,1,2,3,4,6,7,8] ?_
 repeat(refine Takes.go (v:=?_) hS0 ?_;try simp only[nrm,Act.put])
 refine Takes.nil ?_
 refine wpAnyS_1 5 (λK hK=>?_)
 go_simp
 have HU0:=aZ (HOT.out.drew HH.out.mem)
 refine(HP.out.run 1 (.inl rfl) _ _ _ _ _ _ (HKW.out.keep' HH.out.mem (HO2.out.trans HH.out.mem HU0.out) HST.out) (HXW.out.keepM HH.out.mem (HO2.out.trans HH.out.mem HU0.out) HST.out) HI.out HU0.out.st).mono ?_
 rintro z w1' ⟨g1,rfl,-,ho,hb⟩
 have HU1:Hid (M.On W2 w1'):=aZ (HU0.out.trans HH.out.mem hb)
 have HX1:=aZ hb
 have HA1:=aZ ho
 have hS1:=HSC.out _ HU1
 clear ho hb
 refine hK.out _ _ (λ_=>hS1) ?_
 clear hK K
 try simp only[nrm,Act.put]
 refine wpAnyS_1 9 (λK hK=>?_)
 go_simp
 refine(HP.out.run 1 (.inl rfl) _ _ _ _ _ _ (HKW.out.keep' HH.out.mem (HO2.out.trans HH.out.mem HU1.out) HST.out) (HYW.out.keepM HH.out.mem (HO2.out.trans HH.out.mem HU1.out) HST.out) HJ.out HU1.out.st).mono ?_
 rintro z w2 ⟨g2,rfl,-,ho,hb⟩
 have HU2:Hid (M.On W2 w2):=aZ (HU1.out.trans HH.out.mem hb)
 have HX2:=aZ hb
 have HA2:=aZ ho
 have hS2:=HSC.out _ HU2
 clear ho hb
 refine hK.out _ _ (λ_=>hS2) ?_
 clear hK K
 try simp only[nrm,Act.put]
 refine wpAnyS_fin 2 10 ?_
 simp only[nrd]
 go_wp2_with fail
 refine(Times_r HH.out (some ⟨g1,0,none⟩) (some ⟨g2,0,none⟩) N N N _ _ _ (HA1.out.keep HH.out.mem HX2.out HU1.out.st).ints HA2.out.ints (HP.out.cl _ _ HI.out) (HP.out.cl _ _ HJ.out) (by omega) HU2.out.st).mono ?_
 rintro z w3 ⟨rfl,ho3,hb3⟩
 have HT:=aZ ho3
 have HU3:=aZ (HU2.out.trans HH.out.mem hb3)
 obtain⟨gt,hgt⟩:∃gt,gt=w2.heap.size:=⟨_,rfl⟩
 rw[<-hgt] at HT|-
 have HTI:=aZ (times_in HH.out (HP.out.cl 1 _ HI.out) (HP.out.cl 1 _ HJ.out))
 clear ho3 hb3 HA1 HA2 HX2 HU1 HU2 HU0 hS0 hS1 hS2 hgt
 go_upto_region 3 with(fail)
 refine wp_region_S (λw'=>(w'.cell? ⟨bT,0,none⟩=some (.iface ρ.t ρ.v)/\w'.cell? ⟨bT,1,none⟩=some (.int .i64 1)/\w'.cell? ⟨bR,0,none⟩=some (.iface ρ.t ρ.v)/\w'.cell? ⟨bR,1,none⟩=some (.int .i64 s)/\w'.cell? ⟨bP,0,none⟩=some (.int .i64 kind)/\w'.cell? ⟨bP,1,none⟩=some (.int .i64 N)/\w'.cell? ⟨bP,2,none⟩=some (.int .i64 r)/\w'.cell? ⟨bP,3,none⟩=some (.slice A kids.len c)/\Hid (M.On W2 w'))) 9 (by kernel_rfl) ?_
 have hS0:=HSC.out _ (aZ (HU3.out.drew HH.out.mem))
 refine Takes.intro [0,1,2,4,5,7,8] ?_
 repeat(refine Takes.go (v:=?_) hS0 ?_;try simp only[nrm,Act.put])
 refine Takes.nil ?_
 refine wpAnyS_1 3 (λK hK=>?_)
 go_simp
 have HU0:=aZ (HU3.out.drew HH.out.mem)
 refine(turned_r HH.out s (-1) _ HU0.out.st).mono ?_
 rintro z w4 ⟨rfl,hb⟩
 have HU1:Hid (M.On W2 w4):=aZ (HU0.out.trans HH.out.mem hb)
 have HX1:Hid (M.On w3 w4):=aZ (((HH.out.mem.on_refl HU3.out.st).drew HH.out.mem).trans HH.out.mem hb)
 have hS1:=HSC.out _ HU1
 clear hb
 refine hK.out _ _ (λ_=>hS1) ?_
 clear hK K
 try simp only[nrm,Act.put]
 refine wpAnyS_1 6 (λK hK=>?_)
 go_simp
 refine(HP.out.run (-1) (.inr rfl) _ _ _ _ _ _ (HKW.out.keep' HH.out.mem (HO2.out.trans HH.out.mem HU1.out) HST.out) (HT.out.keep HH.out.mem HX1.out HU3.out.st).ints HTI.out HU1.out.st).mono ?_
 rintro z w5 ⟨g2,rfl,-,ho,hb⟩
 have HU2:Hid (M.On W2 w5):=aZ (HU1.out.trans HH.out.mem hb)
 have HX2:=aZ hb
 have HA2:=aZ ho
 have hS2:=HSC.out _ HU2
 clear ho hb
 refine hK.out _ _ (λ_=>hS2) ?_
 clear hK K
 try simp only[nrm,Act.put]
 refine wpAnyS_fin 2 9 ?_
 simp only[nrd]
 go_wp2_with fail
 refine(Over_r HH.out (some ⟨g2,0,none⟩) N N N _ _ HA2.out.ints (HP.out.cl _ _ HTI.out) (by omega) h1 h2 HU2.out.st).mono ?_
 rintro z w6 ⟨rfl,ho6,hb6⟩
 have HF:=aZ ho6
 have HU6:=aZ (HU2.out.trans HH.out.mem hb6)
 have HG:Hid (w.heap.size<=w5.heap.size):=aZ (by have:=HH.out.mem.size HU2.out.fr;have:=HZ.out;have:=HZ2.out;omega)
 clear ho6 hb6 HA2 HU2 HU1 HU0 hS0 hS1 hS2
 go_wp2
 go_ret
 exact⟨_,rfl,HG.out,HF.out,(HON.out.trans HH.out.mem HO2.out).trans HH.out.mem HU6.out⟩
end
section
variable {M : Mem} {ρ : RingV}
def Two2(M:Mem)(W:World)(l:Nat)(vi vj:Value)(w2:World):Prop:=
 ∃g0 g1,vi=.slice (some ⟨g0,0,none⟩) l l/\vj=.slice (some ⟨g1,0,none⟩) l l/\g0≠g1/\W.heap.size<=g0/\W.heap.size<=g1/\Own M w2 g0 l (λ_=>0)/\Own M w2 g1 l (λ_=>0)/\M.On W w2
theorem two2_a(H:M.Ok){W:World}(hs:M.St W)(l:Nat):Two2 M W l (.slice (some ⟨W.heap.size,0,none⟩) l l) (.slice (some ⟨W.heap.size+1,0,none⟩) l l) ((W.drew.alloc (.cells (zs l) 2)).alloc (.cells (zs l) 2)):=by
 obtain⟨h1,h2⟩:=Own.make H ((H.on_refl hs).drew H) l 2
 obtain⟨h3,h4⟩:=Own.make H (H.on_refl h2.st) l 2
 have e:(W.drew.alloc (.cells (zs l) 2)).heap.size=W.heap.size+1:=by simp
 rw[e] at h3
 exact⟨_,_,rfl,rfl,by omega,Nat.le_refl _,by omega,h1.keep H h4 h2.st,h3,h2.trans H h4⟩
theorem two2_b(H:M.Ok){W:World}(hs:M.St W)(l:Nat):Two2 M W l (.slice (some ⟨W.heap.size+1,0,none⟩) l l) (.slice (some ⟨W.heap.size,0,none⟩) l l) ((W.drew.alloc (.cells (zs l) 2)).alloc (.cells (zs l) 2)):=by
 obtain⟨g0,g1,e0,e1,hne,h0,h1,o0,o1,on⟩:=two2_a H hs l
 cases e0;cases e1
 exact⟨_,_,rfl,rfl,Ne.symm hne,h1,h0,o1,o0,on⟩
theorem raderA_in{x:Nat->Int}(hx:AllIn ρ x)(pw:Nat->Nat):AllIn ρ (raderA pw x):=λ_=>hx _
theorem raderB_in(H:ρ.Ok M){n:Nat}(h1:1<=n)(h2:n<=65536)(s:Int)(pw:Nat->Nat):AllIn ρ (raderB ρ.R n s pw):=λ_=>H.ir _ _ h1 h2
theorem raderO_in(H:ρ.Ok M){n:Nat}(pw:Nat->Nat){x c:Nat->Int}(hx:AllIn ρ x)(hc:AllIn ρ c)(m:Nat):AllIn ρ (raderO ρ.R n pw x c m):=by
 unfold raderO
 induction m with
 |zero=>exact upd_in (λ_=>H.iz) (fold_in H x hx n) 0
 |succ m ih=>rw[foldT_succ];exact upd_in ih (H.ia _ _ (hx 0) (hc m)) _
theorem Rader_r(H:ρ.Ok M)(s:Int)(hs:s=1\/s=-1)(n l:Nat)(hl:l+1=n)(hR:Rooted n)(hn:n<=32768)(a0 r0:Int)(q0:Fo)(K:Tr Int)(P0:PlanC M ρ a0 l r0 q0 l K)(w:World)(A:Option Addr)(c:Nat)(X:Option Addr)(cx:Nat)(x:Nat->Int)(hk:Kids w A 0 (.cons a0 l r0 q0 .nil))(hX:IntsAt w X n x)(hx:AllIn ρ x)(hw:M.St w):
  Calls Try.prog 81 #[rnV ρ s,plV 3 n 0 A 1 c,.slice X n cx] w λz w'=>∃g,z=.returned (.slice (some ⟨g,0,none⟩) n n)/\w.heap.size<=g/\Own M w' g n (raderF ρ.R n (pwF n) K s x)/\M.On w w':=by
 obtain⟨⟨bA,oA,B0,c0,rfl,k1,k2,k3,k4,k5⟩,-⟩:=hk
 obtain⟨bX,oX,rfl,-⟩:=hX 0 (by omega)
 have hn3:=hR.p3
 have hpl:∀k,pwF n k<n:=λk=>pmod_lt _ _ _ (by omega)
 have HPL:=aZ hpl
 have HH:=aZ H
 have HS:=aZ hs
 have HP0:=aZ P0
 have HX:=aZ hX
 have HI:=aZ hx
 have HW:=aZ hw
 have HPW:=aZ (λw=>Powers_any n hR hn w)
 have e1:n-1=l:=by omega
 rw[e1] at HPW
 have HKC:Hid (w.cell? ⟨bA,oA,none⟩=some (.int .i64 a0)/\w.cell? ⟨bA,oA+1,none⟩=some (.int .i64 l)/\w.cell? ⟨bA,oA+2,none⟩=some (.int .i64 r0)/\w.cell? ⟨bA,oA+3,none⟩=some (.slice B0 q0.len c0)):=
  aZ ⟨by simpa using k1,by simpa using k2,by simpa using k3,by simpa using k4⟩
 have HKS:=aZ k5
 have HRF:Hid (raderF ρ.R n (pwF n) K s x=raderO ρ.R n (pwF n) x (convF ρ.R l K (raderA (pwF n) x) (raderB ρ.R n s (pwF n))) l):=aZ (by unfold raderF;rw[e1])
 have hmk:=mk_int64 l (by omega)
 have hmn:=mk_int64 n (by omega)
 have hl1:1<=l:=by omega
 have HLN:Hid (l+1=n/\1<=n/\n<=65536/\l<=32768/\n<=17592186044416):=aZ (by omega)
 clear H hs P0 hX hx hw k1 k2 k3 k4 k5 hR e1 hpl
 go_enter Try.func81,Try.ntmps81
 go_upto_region 1 with(fail)
 obtain⟨W,hW⟩:∃W,W=(w.alloc (.cells #[.iface ρ.t ρ.v,.int .i64 s] 89)).alloc (.cells #[.int .i64 3,.int .i64 n,.int .i64 0,.slice (some ⟨bA,oA,none⟩) 1 c] 26):=⟨_,rfl⟩
 obtain⟨bR,hbR⟩:∃bR,bR=w.heap.size:=⟨_,rfl⟩
 obtain⟨bP,hbP⟩:∃bP,bP=bR+1:=⟨_,rfl⟩
 have HON:Hid (M.On w W):=aZ (by rw[hW];exact(HH.out.mem.on_refl HW.out).below HH.out.mem (((Below.refl _ w).alloc (Nat.le_refl _) _).alloc (by simp) _))
 have HBX:Hid ((W.cell? ⟨bR,0,none⟩=some (.iface ρ.t ρ.v)/\W.cell? ⟨bR,1,none⟩=some (.int .i64 s))/\(W.cell? ⟨bP,0,none⟩=some (.int .i64 3)/\W.cell? ⟨bP,1,none⟩=some (.int .i64 n)/\W.cell? ⟨bP,2,none⟩=some (.int .i64 0)/\W.cell? ⟨bP,3,none⟩=some (.slice (some ⟨bA,oA,none⟩) 1 c))):=
  aZ (by subst hbP hbR hW;exact⟨⟨by simp[go_sem],by simp[go_sem]⟩,by simp[go_sem],by simp[go_sem],by simp[go_sem],by simp[go_sem]⟩)
 have HZ:Hid (w.heap.size<=W.heap.size):=aZ (by subst hW;simp;omega)
 rw[<-hW]
 simp only[<-hbR]
 simp only[<-hbP]
 have HST:=aZ HON.out.st
 have HXW:=aZ (HX.out.keepM HH.out.mem HON.out HW.out)
 have HKW:=aZ (Kids.keep HH.out.mem HON.out HW.out HKS.out)
 have HSB:Hid (∀w',Hid (M.On W w')->(w'.cell? ⟨bR,0,none⟩=some (.iface ρ.t ρ.v)/\w'.cell? ⟨bR,1,none⟩=some (.int .i64 s)/\w'.cell? ⟨bP,0,none⟩=some (.int .i64 3)/\w'.cell? ⟨bP,1,none⟩=some (.int .i64 n)/\w'.cell? ⟨bP,2,none⟩=some (.int .i64 0)/\w'.cell? ⟨bP,3,none⟩=some (.slice (some ⟨bA,oA,none⟩) 1 c)/\w'.cell? ⟨bA,oA,none⟩=some (.int .i64 a0)/\w'.cell? ⟨bA,oA+1,none⟩=some (.int .i64 l)/\w'.cell? ⟨bA,oA+2,none⟩=some (.int .i64 r0)/\w'.cell? ⟨bA,oA+3,none⟩=some (.slice B0 q0.len c0)/\Hid (M.On W w'))):=aZ (λw' h=>⟨on_cell HH.out.mem HST.out h HBX.out.1.1,on_cell HH.out.mem HST.out h HBX.out.1.2,on_cell HH.out.mem HST.out h HBX.out.2.1,on_cell HH.out.mem HST.out h HBX.out.2.2.1,on_cell HH.out.mem HST.out h HBX.out.2.2.2.1,on_cell HH.out.mem HST.out h HBX.out.2.2.2.2,on_cell HH.out.mem HW.out (aZ (HON.out.trans HH.out.mem h.out)) HKC.out.1,on_cell HH.out.mem HW.out (aZ (HON.out.trans HH.out.mem h.out)) HKC.out.2.1,on_cell HH.out.mem HW.out (aZ (HON.out.trans HH.out.mem h.out)) HKC.out.2.2.1,on_cell HH.out.mem HW.out (aZ (HON.out.trans HH.out.mem h.out)) HKC.out.2.2.2,h⟩)
 obtain⟨-,x2,-⟩:=HBX.out.2
 clear HX HKS HKC hW hbP hbR
 go_wp2_with fail
 refine(HPW.out _).mono ?_
 rintro z W1 ⟨bw,rfl,hbw,hrw,hbb⟩
 have HO1:=aZ ((HH.out.mem.on_refl HST.out).below HH.out.mem hbb)
 have HPR:=aZ hrw
 have HST1:=aZ HO1.out.st
 clear hbw hrw hbb x2 HBX HPW
 go_upto_region 3 with(fail)
 go_cut [10,11] from 25 to 28 (λs10 s11 wx=>Two2 M W1 l s10 s11 wx)
 case first=>
  go_region
  all_goals(go_wp2_with fail;go_meet)
  all_goals first
   |exact two2_a HH.out.mem HST1.out l
   |exact two2_b HH.out.mem HST1.out l
 case rest=>
 obtain⟨ga,gb,rfl,rfl,hab,hga,hgb,oa,ob,on⟩:=hcut
 have HOA:=aZ oa
 have HOB:=aZ ob
 have HO2:=aZ on
 have HGE:Hid (W1.heap.size<=ga/\W1.heap.size<=gb/\ga≠gb):=aZ ⟨hga,hgb,hab⟩
 clear hab hga hgb oa ob on
 go_wp2
 go_loopw [31] (λvi wr=>∃k:Nat,k<=l/\vi=.int .i64 k/\Hid (Own M wr ga l (upTo k (raderA (pwF n) x)))/\Hid (Own M wr gb l (upTo k (raderB ρ.R n s (pwF n))))/\Hid (M.On W1 wr)) (λvi _=>l-(intOf vi).toNat)
 case atStart=>exact⟨0,by omega,rfl,aZ HOA.out.empty,aZ HOB.out.empty,HO2⟩
 case round=>
  clear HOA HOB HO2
  obtain⟨k,hk,rfl,hra,hrb,hb⟩:=hrel
  by_cases hlt:k<l
  ·have hki:(k:Int)<l:=by omega
   have hg:=HPL.out k
   obtain⟨gk,hgk⟩:∃gk,pwF n k=gk:=⟨_,rfl⟩
   obtain⟨lk,hlk⟩:∃lk,l-k=lk:=⟨_,rfl⟩
   obtain⟨j,hj⟩:∃j,lk%l=j:=⟨_,rfl⟩
   have hjl:j<l:=by rw[<-hj];exact Nat.mod_lt _ (by omega)
   have hgj:=HPL.out j
   obtain⟨gj,hgj'⟩:∃gj,pwF n j=gj:=⟨_,rfl⟩
   have c1:W1.cell? ⟨bw,k,none⟩=some (.int .i64 (gk:Int)):=by rw[<-hgk];exact(HPR.out k hlt).1
   have c2:W1.cell? ⟨bw,j,none⟩=some (.int .i64 (gj:Int)):=by rw[<-hgj'];exact(HPR.out j hjl).1
   have HRA:Hid (raderA (pwF n) x k=x gk):=aZ (by unfold raderA;rw[hgk])
   have HRB:Hid (raderB ρ.R n s (pwF n) k=ρ.R.root (s*((gj:Nat):Int)) n):=aZ (by
    have e1:n-1=l:=by have:=HLN.out.1;omega
    unfold raderB;rw[e1,hlk,hj,hgj'])
   rw[hgk] at hg
   rw[hgj'] at hgj
   have HC1:=aZ c1
   have HC2:=aZ c2
   have c1:=on_cell HH.out.mem HST1.out hb c1
   obtain⟨_,_,e,cX⟩:=HXW.out.keepM HH.out.mem (HO1.out.trans HH.out.mem hb.out) HST.out gk hg
   cases e
   obtain⟨r1,r2⟩:=hra.out.row k hlt
   have hgi:(gk:Int)<n:=by omega
   have hl0:¬(l:Int)=0:=by omega
   have hl0n:¬l=0:=by omega
   have hji:(j:Int)<l:=by omega
   have hrt:(lk:Int).tmod l=(j:Int):=by rw[Int.tmod_eq_emod_of_nonneg (by omega),<-Int.natCast_emod,hj]
   have hre:(lk:Int)%l=(j:Int):=by rw[<-Int.natCast_emod,hj]
   have hlw:IntKind.i64.wrap ((l:Int)-k)=(lk:Int):=by rw[IntKind.wrap_i64];omega
   have HGJ:Hid (-65536<=(gj:Int)/\(gj:Int)<=65536):=aZ (by omega)
   have HNA:=aZ (hra.out.set HH.out.mem hb.out HGE.out.1 hlt (x gk))
   have HNB:=aZ (hrb.out.other HH.out.mem hb.out.st hra.out.pv ((OnlyB.refl ga wr).setCell k none (.int .i64 (x gk))) (Ne.symm HGE.out.2.2))
   clear hlk hj hjl hgj hgk hgj' c2 hra hrb
   go_upto_region 8 with(fail)
   obtain⟨wv,hwv⟩:∃wv,wv=wr.setCell ⟨ga,k,none⟩ (.int .i64 (x gk)):=⟨_,rfl⟩
   rw[<-hwv] at HNA HNB|-
   have HOV:=aZ HNA.out.2
   clear r1 r2 c1 cX hwv
   have HSD:Hid (∀w',Hid (M.On W1 w')->(w'.cell? ⟨bw,j,none⟩=some (.int .i64 (gj:Int))/\w'.cell? ⟨bR,0,none⟩=some (.iface ρ.t ρ.v)/\w'.cell? ⟨bR,1,none⟩=some (.int .i64 s)/\w'.cell? ⟨bP,0,none⟩=some (.int .i64 3)/\w'.cell? ⟨bP,1,none⟩=some (.int .i64 n)/\w'.cell? ⟨bP,2,none⟩=some (.int .i64 0)/\w'.cell? ⟨bP,3,none⟩=some (.slice (some ⟨bA,oA,none⟩) 1 c)/\w'.cell? ⟨bA,oA,none⟩=some (.int .i64 a0)/\w'.cell? ⟨bA,oA+1,none⟩=some (.int .i64 l)/\w'.cell? ⟨bA,oA+2,none⟩=some (.int .i64 r0)/\w'.cell? ⟨bA,oA+3,none⟩=some (.slice B0 q0.len c0)/\Hid (M.On W w'))):=aZ (λw' h=>⟨on_cell HH.out.mem HST1.out h HC2.out,HSB.out w' (aZ (HO1.out.trans HH.out.mem h.out))⟩)
   refine wp_region_S (λw'=>(w'.cell? ⟨bw,j,none⟩=some (.int .i64 (gj:Int))/\w'.cell? ⟨bR,0,none⟩=some (.iface ρ.t ρ.v)/\w'.cell? ⟨bR,1,none⟩=some (.int .i64 s)/\w'.cell? ⟨bP,0,none⟩=some (.int .i64 3)/\w'.cell? ⟨bP,1,none⟩=some (.int .i64 n)/\w'.cell? ⟨bP,2,none⟩=some (.int .i64 0)/\w'.cell? ⟨bP,3,none⟩=some (.slice (some ⟨bA,oA,none⟩) 1 c)/\w'.cell? ⟨bA,oA,none⟩=some (.int .i64 a0)/\w'.cell? ⟨bA,oA+1,none⟩=some (.int .i64 l)/\w'.cell? ⟨bA,oA+2,none⟩=some (.int .i64 r0)/\w'.cell? ⟨bA,oA+3,none⟩=some (.slice B0 q0.len c0)/\Hid (M.On W w'))) 14 (by kernel_rfl) ?_
   have hS0:=HSD.out _ (aZ (HOV.out.drew HH.out.mem))
   refine Takes.intro [0,1,2,3,4,5,6,7,8,9,10,11,12] ?_
   repeat(refine Takes.go (v:=?_) hS0 ?_;try simp only[nrm,Act.put])
   refine Takes.nil ?_
   refine wpAnyS_1 13 (λK hK=>?_)
   go_simp
   have HU0:=aZ (HOV.out.drew HH.out.mem)
   refine(with_r HH.out s HS.out gj n _ HGJ.out.1 HGJ.out.2 HLN.out.2.1 HLN.out.2.2.1 HU0.out.st).mono ?_
   rintro z w2 ⟨rfl,hb2⟩
   have HU1:Hid (M.On W1 w2):=aZ (HU0.out.trans HH.out.mem hb2)
   have HX1:Hid (M.On wv w2):=aZ (((HH.out.mem.on_refl HOV.out.st).drew HH.out.mem).trans HH.out.mem hb2)
   have hS1:=HSD.out _ HU1
   clear hb2
   refine hK.out _ _ (λ_=>hS1) ?_
   clear hK K
   try simp only[nrm,Act.put]
   refine wpAnyS_fin 2 14 ?_
   simp only[nrd]
   have HK2:=aZ (HNB.out.keep HH.out.mem HX1.out HOV.out.st)
   obtain⟨r1,r2⟩:=HK2.out.row k hlt
   have HNB2:=aZ (HK2.out.set HH.out.mem HU1.out HGE.out.2.1 hlt (ρ.R.root (s*(gj:Int)) n))
   have HNA2:=aZ ((HNA.out.1.keep HH.out.mem HX1.out HOV.out.st).other HH.out.mem HU1.out.st HK2.out.pv ((OnlyB.refl gb w2).setCell k none (.int .i64 (ρ.R.root (s*(gj:Int)) n))) HGE.out.2.2)
   clear hS0 hS1 HU0 HU1 HX1 HK2 HNA HNB hrt hre hlw
   go_wp2
   exact⟨⟨k+1,by omega,by go_num,aZ (by refine Own.next (G:=raderA (pwF n) x) ?_;rw[HRA.out];exact HNA2.out),aZ (by refine Own.next (G:=raderB ρ.R n s (pwF n)) ?_;rw[HRB.out];exact HNB2.out.1),aZ HNB2.out.2⟩,by simp[intOf];omega⟩
  ·obtain rfl:k=l:=by omega
   have HA:=aZ hra.out.full
   have HB:=aZ hrb.out.full
   clear hra hrb
   go_upto_region 10 with(fail)
   refine wp_region_S (λw'=>(w'.cell? ⟨bR,0,none⟩=some (.iface ρ.t ρ.v)/\w'.cell? ⟨bR,1,none⟩=some (.int .i64 s)/\w'.cell? ⟨bP,0,none⟩=some (.int .i64 3)/\w'.cell? ⟨bP,1,none⟩=some (.int .i64 n)/\w'.cell? ⟨bP,2,none⟩=some (.int .i64 0)/\w'.cell? ⟨bP,3,none⟩=some (.slice (some ⟨bA,oA,none⟩) 1 c)/\w'.cell? ⟨bA,oA,none⟩=some (.int .i64 a0)/\w'.cell? ⟨bA,oA+1,none⟩=some (.int .i64 k)/\w'.cell? ⟨bA,oA+2,none⟩=some (.int .i64 r0)/\w'.cell? ⟨bA,oA+3,none⟩=some (.slice B0 q0.len c0)/\Hid (M.On W w'))) 7 (by kernel_rfl) ?_
   have hS0:=HSB.out _ (aZ (HO1.out.trans HH.out.mem (hb.out.drew HH.out.mem)))
   refine Takes.intro [0,1,2,3,4,5,6] ?_
   repeat(refine Takes.go (v:=?_) hS0 ?_;try simp only[nrm,Act.put])
   refine Takes.nil ?_
   refine wpAnyS_fin 2 7 ?_
   simp only[nrd]
   have HU0:=aZ (hb.out.drew HH.out.mem)
   have HX0:=aZ ((HH.out.mem.on_refl hb.out.st).drew HH.out.mem)
   go_wp2_with fail
   refine(Conv_r HH.out s a0 r0 q0 k K HP0.out hl1 HLN.out.2.2.2.1 _ _ _ _ _ _ _ _ _ (HKW.out.keep' HH.out.mem (HO1.out.trans HH.out.mem HU0.out) HST.out) (HA.out.keep HH.out.mem HX0.out hb.out.st).ints (raderA_in HI.out _) (HB.out.keep HH.out.mem HX0.out hb.out.st).ints (raderB_in HH.out HLN.out.2.1 HLN.out.2.2.1 _ _) HU0.out.st).mono ?_
   rintro z w3 ⟨gc,rfl,-,hc,hb3⟩
   have HCI:=aZ (conv_in HH.out hl1 HLN.out.2.2.2.1 HP0.out.cl (raderA_in HI.out (pwF n)) (raderB_in HH.out HLN.out.2.1 HLN.out.2.2.1 s (pwF n)))
   obtain⟨C,hC⟩:∃C,convF ρ.R k K (raderA (pwF n) x) (raderB ρ.R n s (pwF n))=C:=⟨_,rfl⟩
   rw[hC] at HRF HCI hc
   have HC:=aZ hc
   have HU3:=aZ (HU0.out.trans HH.out.mem hb3)
   clear hb3 hc hC HU0 HX0 hS0 HA HB hb
   have HO3:=aZ (HO1.out.trans HH.out.mem HU3.out)
   have HS3:=aZ HU3.out.st
   obtain⟨-,-,-,y4,-⟩:=HSB.out w3 HO3
   go_upto_region 12 with(fail)
   clear y4
   have HX3:=aZ (HXW.out.keepM HH.out.mem HO3.out HST.out)
   obtain⟨w4,hw4⟩:∃w4,w4=w3.alloc (.cells (zs n) 2):=⟨_,rfl⟩
   have HON4:=Own.make HH.out.mem (HH.out.mem.on_refl HS3.out) n 2
   rw[<-hw4] at HON4|-
   have HOW4:=aZ HON4.1
   have HU4:=aZ HON4.2
   obtain⟨y1,y2,-⟩:=HSB.out w4 (aZ (HO3.out.trans HH.out.mem HU4.out))
   obtain⟨go,hgo⟩:∃go,go=w3.heap.size:=⟨_,rfl⟩
   have HGO:Hid (w3.heap.size<=go):=aZ (by omega)
   rw[<-hgo] at HOW4|-
   clear hgo hw4 HON4
   go_wp2_with fail
   refine(Sum_r HH.out (some ⟨bX,oX,none⟩) n cx x _ (HX3.out.keepM HH.out.mem HU4.out HS3.out) HI.out HLN.out.2.2.2.2 HU4.out.st).mono ?_
   rintro z w5 ⟨rfl,hb5⟩
   have HOW5:=aZ (HOW4.out.keep HH.out.mem hb5 HU4.out.st)
   have HU5:=aZ (HU4.out.trans HH.out.mem hb5)
   obtain⟨r1,r2⟩:=HOW5.out.row 0 HLN.out.2.1
   have HOW6:=aZ (HOW5.out.set HH.out.mem HU5.out HGO.out HLN.out.2.1 (sumT ρ.R n x))
   have hn0:(0:Int)<n:=by omega
   clear hb5 y1 y2 HOW4 HU4
   go_wp2
   go_loopw [78] (λvi wr=>∃t:Nat,t<=k/\vi=.int .i64 t/\Hid (Own M wr go n (raderO ρ.R n (pwF n) x C t))/\Hid (M.On w3 wr)) (λvi _=>k-(intOf vi).toNat)
   case atStart=>exact⟨0,by omega,rfl,aZ (by have:=HOW6.out.1;simpa[raderO,foldT,HH.out.z0] using this),aZ HOW6.out.2⟩
   case round=>
    clear HOW6 HOW5 HU5 r1 r2
    rename World=>wq
    obtain⟨t,ht,rfl,hr,hb⟩:=hrel
    by_cases hlt:t<k
    ·have hki:(t:Int)<k:=by omega
     obtain⟨lk,hlk⟩:∃lk,k-t=lk:=⟨_,rfl⟩
     obtain⟨j,hj⟩:∃j,lk%k=j:=⟨_,rfl⟩
     have hjl:j<k:=by rw[<-hj];exact Nat.mod_lt _ (by omega)
     have hgj:=HPL.out j
     obtain⟨gj,hgj'⟩:∃gj,pwF n j=gj:=⟨_,rfl⟩
     have c2:W1.cell? ⟨bw,j,none⟩=some (.int .i64 (gj:Int)):=by rw[<-hgj'];exact(HPR.out j hjl).1
     have HRO:Hid (raderO ρ.R n (pwF n) x C (t+1)=updT (raderO ρ.R n (pwF n) x C t) gj (ρ.R.add (x 0) (C t))):=aZ (by
      have e1:n-1=k:=by have:=HLN.out.1;omega
      show updT (raderO ρ.R n (pwF n) x C t) (pwF n ((n-1-t)%(n-1))) (ρ.R.add (x 0) (C t))=_
      rw[e1,hlk,hj,hgj'])
     rw[hgj'] at hgj
     have HGJ:=aZ hgj
     have HC2:=aZ c2
     obtain⟨_,_,e,cX⟩:=HX3.out 0 HLN.out.2.1
     cases e
     have HCX:Hid (w3.cell? ⟨bX,oX,none⟩=some (.int .i64 (x 0))):=aZ (by simpa using cX)
     have hn0n:0<n:=HLN.out.2.1
     have HCC:=aZ (HC.out.row t hlt).1
     have hgi:(gj:Int)<n:=by omega
     have hl0:¬(k:Int)=0:=by omega
     have hl0n:¬k=0:=by omega
     have hji:(j:Int)<k:=by omega
     have hrt:(lk:Int).tmod k=(j:Int):=by rw[Int.tmod_eq_emod_of_nonneg (by omega),<-Int.natCast_emod,hj]
     have hre:(lk:Int)%k=(j:Int):=by rw[<-Int.natCast_emod,hj]
     have hlw:IntKind.i64.wrap ((k:Int)-t)=(lk:Int):=by rw[IntKind.wrap_i64];omega
     have HSE:Hid (∀w',Hid (M.On w3 w')->(w'.cell? ⟨bw,j,none⟩=some (.int .i64 (gj:Int))/\w'.cell? ⟨bX,oX,none⟩=some (.int .i64 (x 0))/\w'.cell? ⟨gc,t,none⟩=some (.int .i64 (C t))/\w'.cell? ⟨bR,0,none⟩=some (.iface ρ.t ρ.v)/\Hid (M.On w3 w'))):=aZ (λw' h=>⟨on_cell HH.out.mem HST1.out (aZ (HU3.out.trans HH.out.mem h.out)) HC2.out,on_cell HH.out.mem HS3.out h HCX.out,on_cell HH.out.mem HS3.out h HCC.out,(HSB.out w' (aZ (HO3.out.trans HH.out.mem h.out))).1,h⟩)
     have e1:=HH.out.na
     have e2:=HH.out.ma
     have e3:=HH.out.ca
     clear hlk hj hjl hgj' c2 cX
     go_upto_region 16 with(fail)
     refine wp_region_S (λw'=>(w'.cell? ⟨bw,j,none⟩=some (.int .i64 (gj:Int))/\w'.cell? ⟨bX,oX,none⟩=some (.int .i64 (x 0))/\w'.cell? ⟨gc,t,none⟩=some (.int .i64 (C t))/\w'.cell? ⟨bR,0,none⟩=some (.iface ρ.t ρ.v)/\Hid (M.On w3 w'))) 21 (by kernel_rfl) ?_
     have hS0:=HSE.out _ (aZ (hb.out.drew HH.out.mem))
     refine Takes.intro [0,1,2,3,4,5,6,7,8,9,10,11,12,13,14,15,16,17,18,19] ?_
     repeat(refine Takes.go (v:=?_) hS0 ?_;try simp only[nrm,Act.put])
     refine Takes.nil ?_
     refine wpAnyS_1 20 (λK hK=>?_)
     go_simp
     have HU0:=aZ (hb.out.drew HH.out.mem)
     refine(HH.out.add _ _ _ (HI.out 0) (HCI.out t) HU0.out.st).mono ?_
     rintro z w2 ⟨rfl,hb2⟩
     have HU1:Hid (M.On w3 w2):=aZ (HU0.out.trans HH.out.mem hb2)
     have HX1:Hid (M.On wq w2):=aZ (((HH.out.mem.on_refl hb.out.st).drew HH.out.mem).trans HH.out.mem hb2)
     have hS1:=HSE.out _ HU1
     clear hb2
     refine hK.out _ _ (λ_=>hS1) ?_
     clear hK K
     try simp only[nrm,Act.put]
     refine wpAnyS_fin 2 21 ?_
     simp only[nrd]
     have HK2:=aZ (hr.out.keep HH.out.mem HX1.out hb.out.st)
     obtain⟨r1,r2⟩:=HK2.out.row gj HGJ.out
     have HN2:=aZ (HK2.out.set HH.out.mem HU1.out HGO.out HGJ.out (ρ.R.add (x 0) (C t)))
     clear hS0 hS1 HU0 HU1 HX1 HK2 hrt hre hlw e1 e2 e3
     go_wp2
     exact⟨⟨t+1,by omega,by go_num,aZ (by rw[HRO.out];exact HN2.out.1),aZ HN2.out.2⟩,by simp[intOf];omega⟩
    ·obtain rfl:t=k:=by omega
     go_wp2
     go_ret
     exact⟨_,rfl,by have:=HH.out.mem.size HO3.out.fr;have:=HZ.out;have:=HGO.out;omega,by rw[HRF.out];exact hr.out,(HON.out.trans HH.out.mem HO3.out).trans HH.out.mem hb.out⟩
end
section
variable {M : Mem} {ρ : RingV}
theorem rows3(H:M.Ok){D w w2:World}{g n g1 n1 g2 n2 j:Nat}{f f1 f2:Nat->Int}(hg:Own M w g n f)(h1:Own M w g1 n1 f1)(h2:Own M w g2 n2 f2)(on:M.On D w)(on2:M.On w w2)(hD:D.heap.size<=g)(hj:j<n)(v:Int)(e1:g1≠g)(e2:g2≠g):
  Own M (w2.setCell ⟨g,j,none⟩ (.int .i64 v)) g n (updT f j v)/\Own M (w2.setCell ⟨g,j,none⟩ (.int .i64 v)) g1 n1 f1/\Own M (w2.setCell ⟨g,j,none⟩ (.int .i64 v)) g2 n2 f2/\M.On D (w2.setCell ⟨g,j,none⟩ (.int .i64 v)):=by
 have kg:=hg.keep H on2 on.st
 have hs:=kg.set H (on.trans H on2) hD hj v
 exact⟨hs.1,(h1.keep H on2 on.st).other H on2.st kg.pv ((OnlyB.refl g w2).setCell _ _ _) e1,(h2.keep H on2 on.st).other H on2.st kg.pv ((OnlyB.refl g w2).setCell _ _ _) e2,hs.2⟩
theorem blueA_next(R:Rg Int)(n:Nat)(s:Int)(x:Nat->Int)(k i:Nat):updT (blueA R n s x k) k (R.mul (x k) (blueC R n s k)) i=blueA R n s x (k+1) i:=by
 unfold updT blueA
 by_cases e:i=k
 ·rw[if_pos e,if_pos (by omega),e]
 ·rw[if_neg e]
  by_cases e2:i<k
  ·rw[if_pos e2,if_pos (by omega)]
  ·rw[if_neg e2,if_neg (by omega)]
theorem blueC_in(H:ρ.Ok M){n:Nat}(h1:1<=2*n)(h2:2*n<=65536)(s:Int):AllIn ρ (blueC ρ.R n s):=λ_=>H.ir _ _ h1 h2
theorem blueA_in(H:ρ.Ok M){n:Nat}(h1:1<=2*n)(h2:2*n<=65536)(s:Int){x:Nat->Int}(hx:AllIn ρ x)(j:Nat):AllIn ρ (blueA ρ.R n s x j):=λi=>by
 unfold blueA
 by_cases e:i<j
 ·rw[if_pos e];exact H.im _ _ (hx i) (H.ir _ _ h1 h2)
 ·rw[if_neg e];exact H.iz
theorem blueB_in(H:ρ.Ok M){n:Nat}(h1:1<=2*n)(h2:2*n<=65536)(m:Nat)(s:Int)(j:Nat):AllIn ρ (blueB ρ.R n m s j):=by
 unfold blueB
 induction j with
 |zero=>exact λ_=>H.iz
 |succ j ih=>rw[foldT_succ];exact upd_in (upd_in ih (H.ir _ _ h1 h2) _) (H.ir _ _ h1 h2) _
theorem Blue_r(H:ρ.Ok M)(s:Int)(hs:s=1\/s=-1)(n m:Nat)(hn1:1<=n)(hn:n<=16384)(hnm:2*n-1<=m)(hm:m<=32768)(a0 r0:Int)(q0:Fo)(Kf:Tr Int)(P0:PlanC M ρ a0 m r0 q0 m Kf)(w:World)(A:Option Addr)(c:Nat)(X:Option Addr)(cx:Nat)(x:Nat->Int)(hk:Kids w A 0 (.cons a0 m r0 q0 .nil))(hX:IntsAt w X n x)(hx:AllIn ρ x)(hw:M.St w):
  Calls Try.prog 82 #[rnV ρ s,plV 4 n 0 A 1 c,.slice X n cx] w λz w'=>∃g,z=.returned (.slice (some ⟨g,0,none⟩) n n)/\w.heap.size<=g/\Own M w' g n (blueF ρ.R n m Kf s x)/\M.On w w':=by
 obtain⟨⟨bA,oA,B0,c0,rfl,k1,k2,k3,k4,k5⟩,-⟩:=hk
 obtain⟨bX,oX,rfl,-⟩:=hX 0 (by omega)
 have HH:=aZ H
 have HS:=aZ hs
 have HP0:=aZ P0
 have HX:=aZ hX
 have HI:=aZ hx
 have HW:=aZ hw
 have HSQ:=aZ (λw=>Squares_any n hn1 (by omega) w)
 have HKC:Hid (w.cell? ⟨bA,oA,none⟩=some (.int .i64 a0)/\w.cell? ⟨bA,oA+1,none⟩=some (.int .i64 m)/\w.cell? ⟨bA,oA+2,none⟩=some (.int .i64 r0)/\w.cell? ⟨bA,oA+3,none⟩=some (.slice B0 q0.len c0)):=
  aZ ⟨by simpa using k1,by simpa using k2,by simpa using k3,by simpa using k4⟩
 have HKS:=aZ k5
 have hmk:=mk_int64 m (by omega)
 have hmn:=mk_int64 n (by omega)
 obtain⟨n2,hn2⟩:∃n2,2*n=n2:=⟨_,rfl⟩
 have HN2:Hid (2*n=n2/\1<=n2/\n2<=65536/\1<=m/\m<=32768/\n<=m/\n<=17592186044416):=aZ (by omega)
 have h2n:2*(n:Int)=(n2:Int):=by omega
 clear H hs P0 hX hx hw k1 k2 k3 k4 k5 hn2
 go_enter Try.func82,Try.ntmps82
 go_upto_region 1 with(fail)
 obtain⟨W,hW⟩:∃W,W=(w.alloc (.cells #[.iface ρ.t ρ.v,.int .i64 s] 89)).alloc (.cells #[.int .i64 4,.int .i64 n,.int .i64 0,.slice (some ⟨bA,oA,none⟩) 1 c] 26):=⟨_,rfl⟩
 obtain⟨bR,hbR⟩:∃bR,bR=w.heap.size:=⟨_,rfl⟩
 obtain⟨bP,hbP⟩:∃bP,bP=bR+1:=⟨_,rfl⟩
 have HON:Hid (M.On w W):=aZ (by rw[hW];exact(HH.out.mem.on_refl HW.out).below HH.out.mem (((Below.refl _ w).alloc (Nat.le_refl _) _).alloc (by simp) _))
 have HBX:Hid ((W.cell? ⟨bR,0,none⟩=some (.iface ρ.t ρ.v)/\W.cell? ⟨bR,1,none⟩=some (.int .i64 s))/\(W.cell? ⟨bP,0,none⟩=some (.int .i64 4)/\W.cell? ⟨bP,1,none⟩=some (.int .i64 n)/\W.cell? ⟨bP,2,none⟩=some (.int .i64 0)/\W.cell? ⟨bP,3,none⟩=some (.slice (some ⟨bA,oA,none⟩) 1 c))):=
  aZ (by subst hbP hbR hW;exact⟨⟨by simp[go_sem],by simp[go_sem]⟩,by simp[go_sem],by simp[go_sem],by simp[go_sem],by simp[go_sem]⟩)
 have HZ:Hid (w.heap.size<=W.heap.size):=aZ (by subst hW;simp;omega)
 rw[<-hW]
 simp only[<-hbR]
 simp only[<-hbP]
 have HST:=aZ HON.out.st
 have HXW:=aZ (HX.out.keepM HH.out.mem HON.out HW.out)
 have HKW:=aZ (Kids.keep HH.out.mem HON.out HW.out HKS.out)
 have HSB:Hid (∀w',Hid (M.On W w')->(w'.cell? ⟨bR,0,none⟩=some (.iface ρ.t ρ.v)/\w'.cell? ⟨bR,1,none⟩=some (.int .i64 s)/\w'.cell? ⟨bP,0,none⟩=some (.int .i64 4)/\w'.cell? ⟨bP,1,none⟩=some (.int .i64 n)/\w'.cell? ⟨bP,2,none⟩=some (.int .i64 0)/\w'.cell? ⟨bP,3,none⟩=some (.slice (some ⟨bA,oA,none⟩) 1 c)/\w'.cell? ⟨bA,oA,none⟩=some (.int .i64 a0)/\w'.cell? ⟨bA,oA+1,none⟩=some (.int .i64 m)/\w'.cell? ⟨bA,oA+2,none⟩=some (.int .i64 r0)/\w'.cell? ⟨bA,oA+3,none⟩=some (.slice B0 q0.len c0)/\Hid (M.On W w'))):=aZ (λw' h=>⟨on_cell HH.out.mem HST.out h HBX.out.1.1,on_cell HH.out.mem HST.out h HBX.out.1.2,on_cell HH.out.mem HST.out h HBX.out.2.1,on_cell HH.out.mem HST.out h HBX.out.2.2.1,on_cell HH.out.mem HST.out h HBX.out.2.2.2.1,on_cell HH.out.mem HST.out h HBX.out.2.2.2.2,on_cell HH.out.mem HW.out (aZ (HON.out.trans HH.out.mem h.out)) HKC.out.1,on_cell HH.out.mem HW.out (aZ (HON.out.trans HH.out.mem h.out)) HKC.out.2.1,on_cell HH.out.mem HW.out (aZ (HON.out.trans HH.out.mem h.out)) HKC.out.2.2.1,on_cell HH.out.mem HW.out (aZ (HON.out.trans HH.out.mem h.out)) HKC.out.2.2.2,h⟩)
 obtain⟨-,x2,-⟩:=HBX.out.2
 clear HX HKS HKC hW hbP hbR
 go_wp2_with fail
 refine(HSQ.out _).mono ?_
 rintro z W1 ⟨rfl,hrw,hbb⟩
 have HO1:=aZ ((HH.out.mem.on_refl HST.out).below HH.out.mem hbb)
 have HPR:=aZ hrw
 have HST1:=aZ HO1.out.st
 obtain⟨bw,hbw⟩:∃bw,bw=W.heap.size:=⟨_,rfl⟩
 rw[<-hbw] at HPR|-
 have HBW:Hid (W.heap.size<=bw):=aZ (by omega)
 clear hrw hbb x2 HBX HSQ hbw
 obtain⟨-,-,-,-,-,x3,-,x4,-⟩:=HSB.out W1 HO1
 go_upto_region 3 with(fail)
 clear x3 x4
 go_cut [10,11] from 27 to 30 (λs10 s11 wx=>Two2 M W1 m s10 s11 wx)
 case first=>
  go_region
  all_goals(go_wp2_with fail;go_meet)
  all_goals first
   |exact two2_a HH.out.mem HST1.out m
   |exact two2_b HH.out.mem HST1.out m
 case rest=>
 obtain⟨ga,gb,rfl,rfl,hab,hga,hgb,oa,ob,on⟩:=hcut
 have HOA:=aZ oa
 have HOB:=aZ ob
 have HO2:=aZ on
 have HGE:Hid (W1.heap.size<=ga/\W1.heap.size<=gb/\ga≠gb):=aZ ⟨hga,hgb,hab⟩
 have HSD:Hid (∀w',Hid (M.On W1 w')->(w'.cell? ⟨bR,0,none⟩=some (.iface ρ.t ρ.v)/\w'.cell? ⟨bR,1,none⟩=some (.int .i64 s)/\w'.cell? ⟨bP,1,none⟩=some (.int .i64 n)/\Hid (M.On W1 w'))):=aZ (λw' h=>⟨(HSB.out w' (aZ (HO1.out.trans HH.out.mem h.out))).1,(HSB.out w' (aZ (HO1.out.trans HH.out.mem h.out))).2.1,(HSB.out w' (aZ (HO1.out.trans HH.out.mem h.out))).2.2.2.1,h⟩)
 clear hab hga hgb oa ob on
 go_wp2
 go_loopw [32] (λvi wr=>∃k:Nat,k<=m/\vi=.int .i64 k/\Hid (Own M wr ga m (λ_=>0))/\Hid (Own M wr gb m (λ_=>0))/\Hid (M.On W1 wr)) (λvi _=>m-(intOf vi).toNat)
 case atStart=>exact⟨0,by omega,rfl,HOA,HOB,HO2⟩
 case round=>
  clear HOA HOB HO2
  obtain⟨k,hk,rfl,hra,hrb,hb⟩:=hrel
  by_cases hlt:k<m
  ·have hki:(k:Int)<m:=by omega
   have e1:=HH.out.nz
   have e2:=HH.out.mz
   have e3:=HH.out.cz
   go_upto_region 7 with(fail)
   refine wp_region_S (λw'=>(w'.cell? ⟨bR,0,none⟩=some (.iface ρ.t ρ.v)/\w'.cell? ⟨bR,1,none⟩=some (.int .i64 s)/\w'.cell? ⟨bP,1,none⟩=some (.int .i64 n)/\Hid (M.On W1 w'))) 12 (by kernel_rfl) ?_
   have hS0:=HSD.out _ (aZ (hb.out.drew HH.out.mem))
   refine Takes.intro [0,1,2,3,4,5,7,8] ?_
   repeat(refine Takes.go (v:=?_) hS0 ?_;try simp only[nrm,Act.put])
   refine Takes.nil ?_
   refine wpAnyS_1 6 (λK hK=>?_)
   go_simp
   have HU0:=aZ (hb.out.drew HH.out.mem)
   have HX0:=aZ ((HH.out.mem.on_refl hb.out.st).drew HH.out.mem)
   refine(HH.out.zero _ HU0.out.st).mono ?_
   rintro z w1 ⟨rfl,hb2⟩
   have HU1:Hid (M.On W1 w1):=aZ (HU0.out.trans HH.out.mem hb2)
   have HX1:Hid (M.On wr w1):=aZ (HX0.out.trans HH.out.mem hb2)
   have hS1:=HSD.out _ HU1
   clear hb2
   refine hK.out _ _ (λ_=>hS1) ?_
   clear hK K
   try simp only[nrm,Act.put]
   refine wpAnyS_1 9 (λK hK=>?_)
   go_simp
   refine(HH.out.zero _ HU1.out.st).mono ?_
   rintro z w2 ⟨rfl,hb2⟩
   have HU2:Hid (M.On W1 w2):=aZ (HU1.out.trans HH.out.mem hb2)
   have HX2:Hid (M.On wr w2):=aZ (HX1.out.trans HH.out.mem hb2)
   have hS2:=HSD.out _ HU2
   clear hb2
   refine hK.out _ _ (λ_=>hS2) ?_
   clear hK K
   try simp only[nrm,Act.put]
   refine Takes.intro [10] ?_
   repeat(refine Takes.go (v:=?_) hS2 ?_;try simp only[nrm,Act.put])
   refine Takes.nil ?_
   have HKA:=aZ (hra.out.keep HH.out.mem HX2.out hb.out.st)
   obtain⟨r1,r2⟩:=HKA.out.row k hlt
   refine wpAnyS_1 11 (λK hK=>?_)
   go_simp
   have HNA:=aZ (HKA.out.set HH.out.mem HU2.out HGE.out.1 hlt ρ.R.zero)
   have HNB:=aZ ((hrb.out.keep HH.out.mem HX2.out hb.out.st).other HH.out.mem HU2.out.st HKA.out.pv ((OnlyB.refl ga w2).setCell k none (.int .i64 ρ.R.zero)) (Ne.symm HGE.out.2.2))
   have HU3:=aZ HNA.out.2
   have hS3:=HSD.out _ HU3
   clear r1 r2 HKA
   refine hK.out _ _ (λ_=>hS3) ?_
   clear hK K
   try simp only[nrm,Act.put]
   refine wpAnyS_fin 2 12 ?_
   simp only[nrd]
   obtain⟨r1,r2⟩:=HNB.out.row k hlt
   have HNB2:=aZ (HNB.out.set HH.out.mem HU3.out HGE.out.2.1 hlt ρ.R.zero)
   have HNA2:=aZ (HNA.out.1.other HH.out.mem HU3.out.st HNB.out.pv ((OnlyB.refl gb _).setCell k none (.int .i64 ρ.R.zero)) HGE.out.2.2)
   have HE:Hid (∀i,updT (λ_=>0) k ρ.R.zero i=0):=aZ (λi=>by unfold updT;rw[HH.out.z0];split<;>rfl)
   clear hS0 hS1 hS2 hS3 HU0 HU1 HU2 HU3 HX0 HX1 HX2 HNA HNB e1 e2 e3
   go_wp2
   exact⟨⟨k+1,by omega,by go_num,aZ (HNA2.out.congr λi _=>HE.out i),aZ (HNB2.out.1.congr λi _=>HE.out i),aZ HNB2.out.2⟩,by simp[intOf];omega⟩
  ·obtain rfl:k=m:=by omega
   have HO4:=aZ (HO1.out.trans HH.out.mem hb.out)
   obtain⟨-,-,-,x3,-⟩:=HSB.out wr HO4
   have hmk2:=Own.make HH.out.mem (HH.out.mem.on_refl hb.out.st) n 2
   have HA0:=aZ (hra.out.keep HH.out.mem hmk2.2 hb.out.st)
   have HB0:=aZ (hrb.out.keep HH.out.mem hmk2.2 hb.out.st)
   have HH0:=aZ hmk2.1
   have HO0:=aZ (hb.out.trans HH.out.mem hmk2.2)
   have HGH:Hid (W1.heap.size<=wr.heap.size/\ga≠wr.heap.size/\gb≠wr.heap.size):=aZ (by have:=HH.out.mem.size hb.out.fr;have:=hra.out.lt;have:=hrb.out.lt;omega)
   obtain⟨gh,hgh⟩:∃gh,gh=wr.heap.size:=⟨_,rfl⟩
   clear hmk2 hra hrb
   go_upto_region 10 with(fail)
   obtain⟨wg,hwg⟩:∃wg,wg=wr.alloc (.cells (zs n) 2):=⟨_,rfl⟩
   rw[<-hwg] at HA0 HB0 HH0 HO0|-
   rw[<-hgh] at HH0 HGH
   rw[<-hgh]
   clear x3 hwg hgh
   go_wp2
   go_loopw [53] (λvi wq=>∃t:Nat,t<=n/\vi=.int .i64 t/\Hid (Own M wq gh n (upTo t (blueC ρ.R n s)))/\Hid (Own M wq ga k (blueA ρ.R n s x t))/\Hid (Own M wq gb k (blueB ρ.R n k s t))/\Hid (M.On W1 wq)/\True) (λvi _=>n-(intOf vi).toNat)
   case atStart=>exact⟨0,by omega,rfl,aZ HH0.out.empty,aZ (HA0.out.congr λi _=>by unfold blueA;rw[if_neg (by omega),HH.out.z0]),aZ (HB0.out.congr λi _=>by unfold blueB foldT;rw[HH.out.z0]),HO0,trivial⟩
   case round=>
    clear HA0 HB0 HH0 HO0
    rename World=>wq
    obtain⟨t,ht,rfl,hrh,hra,hrb,hb,-⟩:=hrel
    by_cases hlt:t<n
    ·have hki:(t:Int)<n:=by omega
     have htk:t<k:=by have:=HN2.out.2.2.2.2.2.1;omega
     have htki:(t:Int)<k:=by omega
     have hsq:sqr n t<n2:=by rw[<-HN2.out.1];exact Nat.mod_lt _ (by omega)
     have hsq2:sqr n t<=65536:=by have:=HN2.out.2.2.1;omega
     have HBC:Hid (blueC ρ.R n s t=ρ.R.root (s*((sqr n t:Nat):Int)) n2):=aZ (by unfold blueC;rw[HN2.out.1])
     have HBD:Hid (blueB ρ.R n k s (t+1)=updT (updT (blueB ρ.R n k s t) t (ρ.R.root (s*(-((sqr n t:Nat):Int))) n2)) ((k-t)%k) (ρ.R.root (s*(-((sqr n t:Nat):Int))) n2)):=aZ (by
      show updT (updT (blueB ρ.R n k s t) t (blueD ρ.R n s t)) ((k-t)%k) (blueD ρ.R n s t)=_
      unfold blueD;rw[HN2.out.1])
     have HAN:Hid (∀i,updT (blueA ρ.R n s x t) t (ρ.R.mul (x t) (blueC ρ.R n s t)) i=blueA ρ.R n s x (t+1) i):=aZ (blueA_next ρ.R n s x t)
     have c1:=(HPR.out t hlt).1
     dsimp only at c1
     obtain⟨sq,hsqe⟩:∃sq,sqr n t=sq:=⟨_,rfl⟩
     rw[hsqe] at hsq hsq2 HBC HBD c1
     obtain⟨Cv,hCv⟩:∃Cv,ρ.R.root (s*(sq:Int)) n2=Cv:=⟨_,rfl⟩
     obtain⟨Dv,hDv⟩:∃Dv,ρ.R.root (s*(-(sq:Int))) n2=Dv:=⟨_,rfl⟩
     have HCI:Hid (ρ.In Cv):=aZ (by rw[<-hCv];exact HH.out.ir _ _ HN2.out.2.1 HN2.out.2.2.1)
     rw[hCv] at HBC
     rw[HBC.out] at HAN
     rw[hDv] at HBD
     obtain⟨lk,hlk⟩:∃lk,k-t=lk:=⟨_,rfl⟩
     obtain⟨j,hj⟩:∃j,lk%k=j:=⟨_,rfl⟩
     rw[hlk,hj] at HBD
     have hjl:j<k:=by rw[<-hj];exact Nat.mod_lt _ (by omega)
     have HJL:=aZ hjl
     have HTK:=aZ htk
     have hl0:¬(k:Int)=0:=by omega
     have hl0n:¬k=0:=by omega
     have hji:(j:Int)<k:=by omega
     have hrt:(lk:Int).tmod k=(j:Int):=by rw[Int.tmod_eq_emod_of_nonneg (by omega),<-Int.natCast_emod,hj]
     have hre:(lk:Int)%k=(j:Int):=by rw[<-Int.natCast_emod,hj]
     have hlw:IntKind.i64.wrap ((k:Int)-t)=(lk:Int):=by rw[IntKind.wrap_i64];omega
     have HWF:Hid ((lk:Int).tmod k=(j:Int)/\(lk:Int)%k=(j:Int)/\IntKind.i64.wrap ((k:Int)-t)=(lk:Int)):=aZ ⟨hrt,hre,hlw⟩
     have hsqi:(sq:Int)<=65536:=by omega
     have HSI:Hid (-65536<=(sq:Int)/\(sq:Int)<=65536/\-65536<=-(sq:Int)/\-(sq:Int)<=65536):=aZ (by omega)
     have HXC:Hid (W.cell? ⟨bX,oX+t,none⟩=some (.int .i64 (x t))):=aZ (by obtain⟨_,_,e,cX⟩:=HXW.out t hlt;cases e;exact cX)
     have HC1:=aZ c1
     have c1:=on_cell HH.out.mem HST1.out hb HC1.out
     obtain⟨y1,y2,y3,-⟩:=HSD.out wq hb
     clear hsq hsq2 hsqe hlk hj hjl htk hrt hre hlw
     have hww:wrap64 (-(sq:Int))=-(sq:Int):=by unfold wrap64;omega
     go_wp2_with fail
     refine(with_r HH.out s HS.out sq n2 _ HSI.out.1 HSI.out.2.1 HN2.out.2.1 HN2.out.2.2.1 hb.out.st).mono ?_
     rintro z w2 ⟨rfl,hb2⟩
     rw[hCv]
     obtain⟨r1,r2⟩:=(hrh.out.keep HH.out.mem hb2 hb.out.st).row t hlt
     have H3:=aZ (rows3 HH.out.mem hrh.out hra.out hrb.out hb.out hb2 HGH.out.1 hlt Cv HGH.out.2.1 HGH.out.2.2)
     clear hb2 y1 y2 y3 c1 hrh hra hrb
     go_upto_region 14 with(fail)
     obtain⟨wA,hwA⟩:∃wA,wA=w2.setCell ⟨gh,t,none⟩ (.int .i64 Cv):=⟨_,rfl⟩
     rw[<-hwA] at H3|-
     have HUA:=aZ H3.out.2.2.2
     have HCH:Hid (wA.cell? ⟨gh,t,none⟩=some (.int .i64 Cv)):=aZ (by have:=(H3.out.1.row t hlt).1;simpa[updT] using this)
     clear hwA r1 r2
     have HSF:Hid (∀w',Hid (M.On wA w')->(w'.cell? ⟨bX,oX+t,none⟩=some (.int .i64 (x t))/\w'.cell? ⟨gh,t,none⟩=some (.int .i64 Cv)/\w'.cell? ⟨bR,0,none⟩=some (.iface ρ.t ρ.v)/\Hid (M.On wA w'))):=aZ (λw' h=>by
      exact⟨on_cell HH.out.mem HST.out (aZ ((HO1.out.trans HH.out.mem HUA.out).trans HH.out.mem h.out)) HXC.out,on_cell HH.out.mem HUA.out.st h HCH.out,(HSD.out w' (aZ (HUA.out.trans HH.out.mem h.out))).1,h⟩)
     have e1:=HH.out.nm
     have e2:=HH.out.mm
     have e3:=HH.out.cm
     refine wp_region_S (λw'=>(w'.cell? ⟨bX,oX+t,none⟩=some (.int .i64 (x t))/\w'.cell? ⟨gh,t,none⟩=some (.int .i64 Cv)/\w'.cell? ⟨bR,0,none⟩=some (.iface ρ.t ρ.v)/\Hid (M.On wA w'))) 15 (by kernel_rfl) ?_
     have hS0:=HSF.out _ (aZ ((HH.out.mem.on_refl HUA.out.st).drew HH.out.mem))
     refine Takes.intro [0,1,2,3,4,5,6,7,8,9,10,11,12,13] ?_
     repeat(refine Takes.go (v:=?_) hS0 ?_;try simp only[nrm,Act.put])
     refine Takes.nil ?_
     refine wpAnyS_1 14 (λK hK=>?_)
     go_simp
     have HV0:=aZ ((HH.out.mem.on_refl HUA.out.st).drew HH.out.mem)
     refine(HH.out.mul _ _ _ (HI.out t) HCI.out HV0.out.st).mono ?_
     rintro z w3 ⟨rfl,hb2⟩
     have HV1:Hid (M.On wA w3):=aZ (HV0.out.trans HH.out.mem hb2)
     have hS1:=HSF.out _ HV1
     clear hb2
     refine hK.out _ _ (λ_=>hS1) ?_
     clear hK K
     try simp only[nrm,Act.put]
     refine wpAnyS_fin 2 15 ?_
     simp only[nrd]
     obtain⟨r1,r2⟩:=(H3.out.2.1.keep HH.out.mem HV1.out HUA.out.st).row t HTK.out
     have H4:=aZ (rows3 HH.out.mem H3.out.2.1 H3.out.1 H3.out.2.2.1 HUA.out HV1.out HGE.out.1 HTK.out (ρ.R.mul (x t) Cv) (Ne.symm HGH.out.2.1) (Ne.symm HGE.out.2.2))
     clear hS0 hS1 HV0 H3 HCH HSF e1 e2 e3
     go_upto_region 15 with(fail)
     obtain⟨wB,hwB⟩:∃wB,wB=w3.setCell ⟨ga,t,none⟩ (.int .i64 (ρ.R.mul (x t) Cv)):=⟨_,rfl⟩
     rw[<-hwB] at H4|-
     have HUB:=aZ H4.out.2.2.2
     clear hwB r1 r2 HV1 HUA
     obtain⟨y1,y2,y3,-⟩:=HSD.out wB HUB
     go_wp2_with fail
     refine(with_r HH.out s HS.out (-(sq:Int)) n2 _ HSI.out.2.2.1 HSI.out.2.2.2 HN2.out.2.1 HN2.out.2.2.1 HUB.out.st).mono ?_
     rintro z w4 ⟨rfl,hb4⟩
     rw[hDv]
     obtain⟨r1,r2⟩:=(H4.out.2.2.1.keep HH.out.mem hb4 HUB.out.st).row t HTK.out
     have H5:=aZ (rows3 HH.out.mem H4.out.2.2.1 H4.out.2.1 H4.out.1 HUB.out hb4 HGE.out.2.1 HTK.out Dv (Ne.symm HGH.out.2.2) HGE.out.2.2)
     clear hb4 y1 y2 y3 H4 HUB hww
     go_upto_region 16 with(fail)
     obtain⟨wC,hwC⟩:∃wC,wC=w4.setCell ⟨gb,t,none⟩ (.int .i64 Dv):=⟨_,rfl⟩
     rw[<-hwC] at H5|-
     have HUC:=aZ H5.out.2.2.2
     have HCB:Hid (wC.cell? ⟨gb,t,none⟩=some (.int .i64 Dv)):=aZ (by have:=(H5.out.1.row t HTK.out).1;simpa[updT] using this)
     clear hwC r1 r2
     obtain⟨hrt,hre,hlw⟩:=HWF.out
     refine wp_region_T (λw'=>w'.cell? ⟨gb,t,none⟩=some (.int .i64 Dv)/\Hid (M.On wC w')) 10 ⟨by simpa using HCB.out,aZ ((HH.out.mem.on_refl HUC.out.st).drew HH.out.mem)⟩ (λhS0=>?_)
     refine Takes.intro [0,1,2,3,4,5,6,7,8,9] ?_
     repeat(refine Takes.go (v:=?_) hS0 ?_;try simp only[nrm,Act.put])
     refine Takes.nil ?_
     refine wpAnyS_fin 2 10 ?_
     simp only[nrd]
     have HD:=aZ ((HH.out.mem.on_refl HUC.out.st).drew HH.out.mem)
     obtain⟨r1,r2⟩:=(H5.out.1.keep HH.out.mem HD.out HUC.out.st).row j HJL.out
     have H6:=aZ (rows3 HH.out.mem H5.out.1 H5.out.2.1 H5.out.2.2.1 HUC.out HD.out HGE.out.2.1 HJL.out Dv (Ne.symm HGH.out.2.2) HGE.out.2.2)
     clear hS0 HD H5 HUC HCB hrt hre hlw
     go_wp2
     exact⟨⟨t+1,by omega,by go_num,aZ (by refine Own.next (G:=blueC ρ.R n s) ?_;rw[HBC.out];exact H6.out.2.1),aZ (H6.out.2.2.1.congr λi _=>HAN.out i),aZ (by rw[HBD.out];exact H6.out.1),aZ H6.out.2.2.2,trivial⟩,by simp[intOf];omega⟩
    ·obtain rfl:t=n:=by omega
     have HCV:=aZ hrh.out.full
     have HT2:Hid (1<=2*t/\2*t<=65536):=aZ (by have:=HN2.out;omega)
     have htk:t<=k:=HN2.out.2.2.2.2.2.1
     have HOQ:=aZ (HO1.out.trans HH.out.mem hb.out)
     clear hrh
     go_upto_region 18 with(fail)
     refine wp_region_S (λw'=>(w'.cell? ⟨bR,0,none⟩=some (.iface ρ.t ρ.v)/\w'.cell? ⟨bR,1,none⟩=some (.int .i64 s)/\w'.cell? ⟨bP,0,none⟩=some (.int .i64 4)/\w'.cell? ⟨bP,1,none⟩=some (.int .i64 t)/\w'.cell? ⟨bP,2,none⟩=some (.int .i64 0)/\w'.cell? ⟨bP,3,none⟩=some (.slice (some ⟨bA,oA,none⟩) 1 c)/\w'.cell? ⟨bA,oA,none⟩=some (.int .i64 a0)/\w'.cell? ⟨bA,oA+1,none⟩=some (.int .i64 k)/\w'.cell? ⟨bA,oA+2,none⟩=some (.int .i64 r0)/\w'.cell? ⟨bA,oA+3,none⟩=some (.slice B0 q0.len c0)/\Hid (M.On W w'))) 14 (by kernel_rfl) ?_
     have hS0:=HSB.out _ (aZ (HO1.out.trans HH.out.mem (hb.out.drew HH.out.mem)))
     refine Takes.intro [0,1,2,3,4,5,6,7,8,10,11,13] ?_
     repeat(refine Takes.go (v:=?_) hS0 ?_;try simp only[nrm,Act.put])
     refine Takes.nil ?_
     refine wpAnyS_1 9 (λK hK=>?_)
     go_simp
     have HU0:=aZ (hb.out.drew HH.out.mem)
     have HX0:=aZ ((HH.out.mem.on_refl hb.out.st).drew HH.out.mem)
     refine(Conv_r HH.out s a0 r0 q0 k Kf HP0.out HN2.out.2.2.2.1 HN2.out.2.2.2.2.1 _ _ _ _ _ _ _ _ _ (HKW.out.keep' HH.out.mem (HO1.out.trans HH.out.mem HU0.out) HST.out) (hra.out.keep HH.out.mem HX0.out hb.out.st).ints (blueA_in HH.out HT2.out.1 HT2.out.2 s HI.out t) (hrb.out.keep HH.out.mem HX0.out hb.out.st).ints (blueB_in HH.out HT2.out.1 HT2.out.2 k s t) HU0.out.st).mono ?_
     rintro z w5 ⟨gc,rfl,-,hc,hb3⟩
     have HC:=aZ hc
     have HCI:Hid (AllIn ρ (gathT (convF ρ.R k Kf (blueA ρ.R t s x t) (blueB ρ.R t k s t)) 0 1)):=aZ (gath_in (conv_in HH.out HN2.out.2.2.2.1 HN2.out.2.2.2.2.1 HP0.out.cl (blueA_in HH.out HT2.out.1 HT2.out.2 s HI.out t) (blueB_in HH.out HT2.out.1 HT2.out.2 k s t)) 0 1)
     have HU1:=aZ (HU0.out.trans HH.out.mem hb3)
     have HX1:=aZ (HX0.out.trans HH.out.mem hb3)
     have hS1:=HSB.out _ (aZ (HO1.out.trans HH.out.mem HU1.out))
     clear hb3 hc
     refine hK.out _ _ (λ_=>hS1) ?_
     clear hK K
     try simp only[nrm,Act.put]
     refine Takes.intro [12] ?_
     repeat(refine Takes.go (v:=?_) hS1 ?_;try simp only[nrm,Act.put])
     refine Takes.nil ?_
     refine wpAnyS_fin 2 14 ?_
     simp only[nrd]
     go_wp2_with fail
     refine(Times_r HH.out (some ⟨gc,0,none⟩) (some ⟨gh,0,none⟩) t k t _ _ _ (ints_part0 HC.out.ints 0 t (by have:=HN2.out.2.2.2.2.2.1;omega)) (HCV.out.keep HH.out.mem HX1.out hb.out.st).ints HCI.out (blueC_in HH.out HT2.out.1 HT2.out.2 s) HN2.out.2.2.2.2.2.2 HU1.out.st).mono ?_
     rintro z w6 ⟨rfl,ho6,hb6⟩
     have HF:Hid (Own M w6 w5.heap.size t (blueF ρ.R t k Kf s x)):=aZ (ho6.congr λi _=>by unfold blueF timesF gathT;rw[Nat.zero_add,Nat.mul_one])
     have HU6:=aZ (HU1.out.trans HH.out.mem hb6)
     have HG:Hid (w.heap.size<=w5.heap.size):=aZ (by have:=HH.out.mem.size HU1.out.fr;have:=HH.out.mem.size HO1.out.fr;have:=HZ.out;omega)
     clear ho6 hb6 hS0 hS1 HU0 HX0 HU1 HX1 HC
     go_wp2
     go_ret
     exact⟨_,rfl,HG.out,HF.out,(HON.out.trans HH.out.mem HO1.out).trans HH.out.mem HU6.out⟩
end
section
variable {M : Mem} {ρ : RingV}
def nodeR(ρ:RingV)(kind n r:Int)(kids:Fo):Tr Int:=nodeF ρ.R pwF kind n.toNat r.toNat kids.sizes (kids.runs ρ.R pwF)
def Fo.AllC(M:Mem)(ρ:RingV):Fo->Prop
 |.nil=>True
 |.cons kind n r kids rest=>PlanC M ρ kind n r kids n.toNat (nodeR ρ kind n r kids)/\rest.AllC M ρ
theorem plan_leaf(H:ρ.Ok M)(N:Nat)(h1:1<=N)(h2:N<=32768)(kids:Fo):PlanC M ρ 0 N 0 kids N (directF ρ.R N):=by
 refine⟨λs hs w A c X cx x hk hX hx hw=>?_,λs x hx=>direct_in H h1 (by omega) s hx⟩
 have HH:=aZ H
 have HX:=aZ hX
 have HI:=aZ hx
 have HW:=aZ hw
 clear H hk hX hx hw hs
 go_enter Try.func48,Try.ntmps48
 go_wp2_with fail
 have hb1:=boxes_on HH.out.mem HW.out (.cells #[.iface ρ.t ρ.v,.int .i64 s] 89) (.cells #[.int .i64 0,.int .i64 N,.int .i64 0,.slice A kids.len c] 26)
 refine(Direct_r HH.out X N cx s x _ (HX.out.keepM HH.out.mem hb1 HW.out) HI.out h2 hb1.st).mono ?_
 rintro z w1 ⟨g,rfl,hg,ho,hb2⟩
 have HB:=aZ (hb1.trans HH.out.mem hb2)
 have HO:=aZ ho
 have HG:Hid (w.heap.size<=g):=aZ (by have:=HH.out.mem.size hb1.fr;omega)
 clear hb1 hb2 ho hg
 go_wp2
 go_ret
 exact⟨g,rfl,HG.out,HO.out,HB.out⟩
theorem plan_radix(H:ρ.Ok M)(N p d:Nat)(hp:2<=p)(hd:1<=d)(hpd:p*d=N)(h2:N<=32768)(a0 n0 r0 a1 n1 r1:Int)(q0 q1:Fo)(F0 F1:Tr Int)(P0:PlanC M ρ a0 n0 r0 q0 p F0)(P1:PlanC M ρ a1 n1 r1 q1 d F1):
  PlanC M ρ 1 N p (.cons a0 n0 r0 q0 (.cons a1 n1 r1 q1 .nil)) N (radixF ρ.R N p F0 F1):=by
 have hdd:N/p=d:=by rw[<-hpd];exact Nat.mul_div_cancel_left _ (by omega)
 have hN1:1<=N:=by rw[<-hpd];exact Nat.mul_pos (by omega) hd
 refine⟨λs hs w A c X cx x hk hX hx hw=>?_,λs x hx=>out_in (P0.cl s) (P1.cl s) H hx (by rw[hdd,hpd];omega) (by rw[hdd,hpd];omega) p⟩
 have HH:=aZ H
 have HS:=aZ hs
 have HX:=aZ hX
 have HI:=aZ hx
 have HW:=aZ hw
 have HK:=aZ hk
 have HP:=aZ hpd
 have HP0:=aZ P0
 have HP1:=aZ P1
 clear H hk hX hx hw hs hpd hdd P0 P1
 go_enter Try.func48,Try.ntmps48
 go_wp2_with fail
 have hb1:=boxes_on HH.out.mem HW.out (.cells #[.iface ρ.t ρ.v,.int .i64 s] 89) (.cells #[.int .i64 1,.int .i64 N,.int .i64 p,.slice A 2 c] 26)
 refine(Radix_r HH.out s HS.out N p d hp hd HP.out h2 a0 n0 r0 a1 n1 r1 q0 q1 F0 F1 HP0.out HP1.out _ A c X cx x (Kids.keep HH.out.mem hb1 HW.out HK.out) (HX.out.keepM HH.out.mem hb1 HW.out) HI.out hb1.st).mono ?_
 rintro z w1 ⟨g,rfl,hg,ho,hb2⟩
 have HB:=aZ (hb1.trans HH.out.mem hb2)
 have HO:=aZ ho
 have HG:Hid (w.heap.size<=g):=aZ (by have:=HH.out.mem.size hb1.fr;omega)
 clear hb1 hb2 ho hg
 go_wp2
 go_ret
 exact⟨g,rfl,HG.out,HO.out,HB.out⟩
theorem plan_split(H:ρ.Ok M)(N e:Nat)(he:N=2^e)(h1:1<=N)(h2:N<=32768)(kids:Fo):PlanC M ρ 2 N 0 kids N (splitF ρ.R N N):=by
 refine⟨λs hs w A c X cx x hk hX hx hw=>?_,λs x hx=>splitF_in H N N s x h1 (by omega) hx⟩
 have HH:=aZ H
 have HS:=aZ hs
 have HX:=aZ hX
 have HI:=aZ hx
 have HW:=aZ hw
 have HE:=aZ he
 clear H hk hX hx hw hs he
 go_enter Try.func48,Try.ntmps48
 go_wp2_with fail
 have hb1:=boxes_on HH.out.mem HW.out (.cells #[.iface ρ.t ρ.v,.int .i64 s] 89) (.cells #[.int .i64 2,.int .i64 N,.int .i64 0,.slice A kids.len c] 26)
 refine(Split_r HH.out s HS.out N N e HE.out (by omega) h2 _ X cx x (HX.out.keepM HH.out.mem hb1 HW.out) HI.out hb1.st).mono ?_
 rintro z w1 ⟨g,rfl,hg,ho,hb2⟩
 have HB:=aZ (hb1.trans HH.out.mem hb2)
 have HO:=aZ ho
 have HG:Hid (w.heap.size<=g):=aZ (by have:=HH.out.mem.size hb1.fr;omega)
 clear hb1 hb2 ho hg
 go_wp2
 go_ret
 exact⟨g,rfl,HG.out,HO.out,HB.out⟩
theorem plan_rader(H:ρ.Ok M)(N l:Nat)(hl:l+1=N)(hR:Rooted N)(h2:N<=32768)(a0 r0:Int)(q0:Fo)(K:Tr Int)(P0:PlanC M ρ a0 l r0 q0 l K):PlanC M ρ 3 N 0 (.cons a0 l r0 q0 .nil) N (raderF ρ.R N (pwF N) K):=by
 have hn3:=hR.p3
 refine⟨λs hs w A c X cx x hk hX hx hw=>?_,λs x hx=>raderO_in H _ hx (conv_in H (by omega) (by omega) (λs x h=>P0.cl s x h) (raderA_in hx _) (raderB_in H (by omega) (by omega) s _)) _⟩
 have HH:=aZ H
 have HS:=aZ hs
 have HX:=aZ hX
 have HI:=aZ hx
 have HW:=aZ hw
 have HK:=aZ hk
 have HR:=aZ hR
 have HP0:=aZ P0
 clear H hk hX hx hw hs hR P0
 go_enter Try.func48,Try.ntmps48
 go_wp2_with fail
 have hb1:=boxes_on HH.out.mem HW.out (.cells #[.iface ρ.t ρ.v,.int .i64 s] 89) (.cells #[.int .i64 3,.int .i64 N,.int .i64 0,.slice A 1 c] 26)
 refine(Rader_r HH.out s HS.out N l hl HR.out h2 a0 r0 q0 K HP0.out _ A c X cx x (Kids.keep HH.out.mem hb1 HW.out HK.out) (HX.out.keepM HH.out.mem hb1 HW.out) HI.out hb1.st).mono ?_
 rintro z w1 ⟨g,rfl,hg,ho,hb2⟩
 have HB:=aZ (hb1.trans HH.out.mem hb2)
 have HO:=aZ ho
 have HG:Hid (w.heap.size<=g):=aZ (by have:=HH.out.mem.size hb1.fr;omega)
 clear hb1 hb2 ho hg
 go_wp2
 go_ret
 exact⟨g,rfl,HG.out,HO.out,HB.out⟩
theorem plan_blue(H:ρ.Ok M)(N m:Nat)(h1:1<=N)(h2:N<=16384)(hm:2*N-1<=m)(hm2:m<=32768)(a0 r0:Int)(q0:Fo)(K:Tr Int)(P0:PlanC M ρ a0 m r0 q0 m K):PlanC M ρ 4 N 0 (.cons a0 m r0 q0 .nil) N (blueF ρ.R N m K):=by
 refine⟨λs hs w A c X cx x hk hX hx hw=>?_,λs x hx=>times_in H (conv_in H (by omega) hm2 (λs x h=>P0.cl s x h) (blueA_in H (by omega) (by omega) s hx _) (blueB_in H (by omega) (by omega) m s _)) (blueC_in H (by omega) (by omega) s)⟩
 have HH:=aZ H
 have HS:=aZ hs
 have HX:=aZ hX
 have HI:=aZ hx
 have HW:=aZ hw
 have HK:=aZ hk
 have HP0:=aZ P0
 clear H hk hX hx hw hs P0
 go_enter Try.func48,Try.ntmps48
 go_wp2_with fail
 have hb1:=boxes_on HH.out.mem HW.out (.cells #[.iface ρ.t ρ.v,.int .i64 s] 89) (.cells #[.int .i64 4,.int .i64 N,.int .i64 0,.slice A 1 c] 26)
 refine(Blue_r HH.out s HS.out N m h1 h2 hm hm2 a0 r0 q0 K HP0.out _ A c X cx x (Kids.keep HH.out.mem hb1 HW.out HK.out) (HX.out.keepM HH.out.mem hb1 HW.out) HI.out hb1.st).mono ?_
 rintro z w1 ⟨g,rfl,hg,ho,hb2⟩
 have HB:=aZ (hb1.trans HH.out.mem hb2)
 have HO:=aZ ho
 have HG:Hid (w.heap.size<=g):=aZ (by have:=HH.out.mem.size hb1.fr;omega)
 clear hb1 hb2 ho hg
 go_wp2
 go_ret
 exact⟨g,rfl,HG.out,HO.out,HB.out⟩
theorem node_all(H:ρ.Ok M)(kind n r:Int)(kids:Fo)(hf:FineN kind n r kids.sizes)(hk:kids.Fine)(ih:kids.AllC M ρ):PlanC M ρ kind n r kids n.toNat (nodeR ρ kind n r kids):=by
 obtain⟨N,rfl,h1,h2,h⟩:=hf
 have e:(N:Int).toNat=N:=by omega
 unfold nodeR
 rw[e]
 rcases h with⟨rfl,rfl,-⟩|⟨rfl,p,d,rfl,hp,hd,hpd,hs⟩|⟨rfl,rfl,-,ex,he⟩|⟨rfl,rfl,hR,hs⟩|⟨rfl,rfl,hN,m,hm,hm2,hs⟩
 ·exact plan_leaf H N h1 h2 kids
 ·obtain⟨a0,n0,r0,q0,a1,n1,r1,q1,rfl,e0,e1⟩:=sizes_two hs
  obtain⟨c0,c1,-⟩:=ih
  rw[e0] at c0
  rw[e1] at c1
  exact plan_radix H N p d hp hd hpd h2 _ _ _ _ _ _ _ _ _ _ c0 c1
 ·exact plan_split H N ex he h1 h2 kids
 ·obtain⟨a0,n0,r0,q0,rfl,e0⟩:=sizes_one hs
  obtain⟨c0,-⟩:=ih
  have hn0:n0=((N-1:Nat):Int):=by have:=hR.p3;omega
  subst hn0
  rw[e0] at c0
  exact plan_rader H N (N-1) (by omega) hR h2 a0 r0 q0 _ c0
 ·obtain⟨a0,n0,r0,q0,rfl,e0⟩:=sizes_one hs
  obtain⟨c0,-⟩:=ih
  have hn0:n0=(m:Int):=by omega
  subst hn0
  rw[e0] at c0
  have:=plan_blue H N m h1 hN hm hm2 a0 r0 q0 _ c0
  exact this
theorem plans_all(H:ρ.Ok M):∀fo:Fo,fo.Fine->fo.AllC M ρ
 |.nil,_=>trivial
 |.cons kind n r kids rest,⟨h,hk,hr⟩=>⟨node_all H kind n r kids h hk (plans_all H kids hk),plans_all H rest hr⟩
end
section
variable {M : Mem} {ρ : RingV}
theorem Run_r(H:ρ.Ok M)(kind r:Int)(kids:Fo)(N:Nat)(F:Tr Int)(P:PlanC M ρ kind N r kids N F)(C:ChkC kind N r kids N 0)(s:Int)(hs:s=1\/s=-1)(w:World)(A:Option Addr)(c:Nat)(X:Option Addr)(cx:Nat)(x:Nat->Int)(hk:Kids w A 0 kids)(hX:IntsAt w X N x)(hx:AllIn ρ x)(hw:M.St w):
  Calls Try.prog 16 #[.iface ρ.t ρ.v,plV kind N r A kids.len c,.slice X N cx,.int .i64 s] w λz w'=>∃g,z=.returned (.tuple #[.slice (some ⟨g,0,none⟩) N N,.int .i64 0])/\w.heap.size<=g/\Own M w' g N (F s x)/\M.On w w':=by
 have HH:=aZ H
 have HP:=aZ P
 have HC:=aZ C
 have HX:=aZ hX
 have HI:=aZ hx
 have HW:=aZ hw
 have HK:=aZ hk
 have HS:=aZ hs
 clear H P C hX hx hw hk
 have key:∀s:Int,s=1\/s=-1->Calls Try.prog 16 #[.iface ρ.t ρ.v,plV kind N r A kids.len c,.slice X N cx,.int .i64 s] w λz w'=>∃g,z=.returned (.tuple #[.slice (some ⟨g,0,none⟩) N N,.int .i64 0])/\w.heap.size<=g/\Own M w' g N (F s x)/\M.On w w':=by
  intro s hs
  rcases hs with rfl|rfl
  all_goals
   go_enter Try.func16,Try.ntmps16
   go_wp2_with fail
   have hb1:=box_on HH.out.mem HW.out (.cells #[.int .i64 kind,.int .i64 N,.int .i64 r,.slice A kids.len c] 26)
   refine(HC.out _ A c (Kids.keep HH.out.mem hb1 HW.out HK.out)).mono ?_
   rintro z w1 ⟨⟨a,rfl⟩,hb⟩
   have HB1:=aZ (hb1.below HH.out.mem hb)
   have p0:=keep_cell hb (show(w.alloc (.cells #[.int .i64 kind,.int .i64 N,.int .i64 r,.slice A kids.len c] 26)).cell? ⟨w.heap.size,0,none⟩=some (.int .i64 kind) by simp[go_sem])
   have p1:=keep_cell hb (show(w.alloc (.cells #[.int .i64 kind,.int .i64 N,.int .i64 r,.slice A kids.len c] 26)).cell? ⟨w.heap.size,1,none⟩=some (.int .i64 N) by simp[go_sem])
   have p2:=keep_cell hb (show(w.alloc (.cells #[.int .i64 kind,.int .i64 N,.int .i64 r,.slice A kids.len c] 26)).cell? ⟨w.heap.size,2,none⟩=some (.int .i64 r) by simp[go_sem])
   have p3:=keep_cell hb (show(w.alloc (.cells #[.int .i64 kind,.int .i64 N,.int .i64 r,.slice A kids.len c] 26)).cell? ⟨w.heap.size,3,none⟩=some (.slice A kids.len c) by simp[go_sem])
   clear hb hb1
   go_wp2_with fail
   refine(HP.out.run _ (by first|exact .inl rfl|exact .inr rfl) _ A c X cx x (Kids.keep HH.out.mem HB1.out HW.out HK.out) (HX.out.keepM HH.out.mem HB1.out HW.out) HI.out HB1.out.st).mono ?_
   rintro z w2 ⟨g,rfl,hg,ho,hb2⟩
   have HO:=aZ ho
   have HB:=aZ (HB1.out.trans HH.out.mem hb2)
   have HG:Hid (w.heap.size<=g):=aZ (by have:=HH.out.mem.size HB1.out.fr;omega)
   clear ho hb2 hg p0 p1 p2 p3
   go_wp2
   go_ret2
   exact⟨g,rfl,HG.out,HO.out,HB.out⟩
 exact key s HS.out
theorem Run_chk(v:Value)(kind n r:Int)(kids:Fo)(e:Int)(he:e≠0)(C:ChkC kind n r kids n e)(s:Int)(l:Nat)(w:World)(A:Option Addr)(c:Nat)(X:Option Addr)(cx:Nat)(hk:Kids w A 0 kids)(hkk:∀w',Below w.heap.size w w'->Kids w' A 0 kids):
  Calls Try.prog 16 #[v,plV kind n r A kids.len c,.slice X l cx,.int .i64 s] w λz w'=>z=.returned (.tuple #[.slice none 0 0,.int .i64 e])/\Below w.heap.size w w':=by
 have HC:=aZ C
 have HK:=aZ hkk
 have he2:(e==0)=false:=by simpa using he
 have he3:(e != 0)=true:=by simpa using he
 clear C hk hkk
 go_enter Try.func16,Try.ntmps16
 go_wp2_with fail
 have hb1:Below w.heap.size w (w.alloc (.cells #[.int .i64 kind,.int .i64 n,.int .i64 r,.slice A kids.len c] 26)):=(Below.refl _ w).alloc (Nat.le_refl _) _
 refine(HC.out _ A c (HK.out _ hb1)).mono ?_
 rintro z w1 ⟨⟨a,rfl⟩,hb⟩
 have HB1:=aZ (hb1.trans (hb.mono (by simp)))
 clear hb hb1
 go_wp2
 go_ret2
 exact⟨rfl,HB1.out⟩
end
end Go.Proofs.Yteaimnemobnknaa
