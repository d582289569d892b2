/- The circular convolution by a plan, over any ring. -/
import Derived.Test.YtfedabinindpbaaGreatX0
import Derived.Test.YtfedabinindpbaaGreatMY1
set_option maxRecDepth 100000
set_option maxHeartbeats 8000000
set_option linter.unusedSimpArgs false
set_option linter.unusedVariables false
namespace Go.Proofs.YtfedabinindpbaaGreat
open Go.RowKit Go.Lib
section
variable {M : Mem} {ρ : RingC}
theorem ConvC_r(H:ρ.Ok M)(s kind r:Int)(kids:Fo)(N:Nat)(K:Tr Cx)(P:PlanX M ρ kind N r kids N K)(h1:1<=N)(h2:N<=32768)(w:World)(A:Option Addr)(c:Nat)(X Y:Option Addr)(cx cy:Nat)(x y:Nat->Cx)(hk:Kids w A 0 kids)(hX:CsAt w X N x)(hY:CsAt w Y N y)(hw:M.St w):
  Calls Tryz.prog 135 #[rnC ρ s,plV kind N r A kids.len c,.slice X N cx,.slice Y N cy] w λz w'=>∃g,z=.returned (.slice (some ⟨g,0,none⟩) N N)/\w.heap.size<=g/\OwnC M w' g N (convF ρ.R N K x y)/\M.On w w':=by
 have HH:=aZ H
 have HP:=aZ P
 have HX:=aZ hX
 have HY:=aZ hY
 have HW:=aZ hw
 have HKI:=aZ hk
 clear H P hX hY hw hk
 go_enter Tryz.func135,Tryz.ntmps135
 go_upto_region 1 with(fail)
 obtain⟨W,hW⟩:∃W,W=(w.alloc (.cells #[.iface ρ.t ρ.v,.int .i64 s] 131)).alloc (.cells #[.int .i64 kind,.int .i64 N,.int .i64 r,.slice A kids.len c] 46):=⟨_,rfl⟩
 obtain⟨bR,hbR⟩:∃bR,bR=w.heap.size:=⟨_,rfl⟩
 obtain⟨bP,hbP⟩:∃bP,bP=bR+1:=⟨_,rfl⟩
 have HON:Hid (M.On w W):=aZ (by rw[hW];exact(HH.out.mem.on_refl HW.out).below HH.out.mem (((Below.refl _ w).alloc (Nat.le_refl _) _).alloc (by simp) _))
 have HBX:Hid ((W.cell? ⟨bR,0,none⟩=some (.iface ρ.t ρ.v)/\W.cell? ⟨bR,1,none⟩=some (.int .i64 s))/\(W.cell? ⟨bP,0,none⟩=some (.int .i64 kind)/\W.cell? ⟨bP,1,none⟩=some (.int .i64 N)/\W.cell? ⟨bP,2,none⟩=some (.int .i64 r)/\W.cell? ⟨bP,3,none⟩=some (.slice A kids.len c))):=
  aZ (by subst hbP hbR hW;exact⟨⟨by simp[go_sem],by simp[go_sem]⟩,by simp[go_sem],by simp[go_sem],by simp[go_sem],by simp[go_sem]⟩)
 have HZ:Hid (w.heap.size<=W.heap.size):=aZ (by subst hW;simp;omega)
 rw[<-hW]
 simp only[<-hbR]
 simp only[<-hbP]
 have HST:=aZ HON.out.st
 have HXW:=aZ (HX.out.keepM HH.out.mem HON.out HW.out)
 have HYW:=aZ (HY.out.keepM HH.out.mem HON.out HW.out)
 have HKW:=aZ (Kids.keep HH.out.mem HON.out HW.out HKI.out)
 have HSB:Hid (∀w',Hid (M.On W w')->(w'.cell? ⟨bR,0,none⟩=some (.iface ρ.t ρ.v)/\w'.cell? ⟨bR,1,none⟩=some (.int .i64 s)/\w'.cell? ⟨bP,0,none⟩=some (.int .i64 kind)/\w'.cell? ⟨bP,1,none⟩=some (.int .i64 N)/\w'.cell? ⟨bP,2,none⟩=some (.int .i64 r)/\w'.cell? ⟨bP,3,none⟩=some (.slice A kids.len c)/\Hid (M.On W w'))):=aZ (λw' h=>⟨on_cell HH.out.mem HST.out h HBX.out.1.1,on_cell HH.out.mem HST.out h HBX.out.1.2,on_cell HH.out.mem HST.out h HBX.out.2.1,on_cell HH.out.mem HST.out h HBX.out.2.2.1,on_cell HH.out.mem HST.out h HBX.out.2.2.2.1,on_cell HH.out.mem HST.out h HBX.out.2.2.2.2,h⟩)
 have HOR:=aZ (HH.out.mem.on_refl HST.out)
 obtain⟨⟨x1,x2⟩,-⟩:=HBX.out
 clear HX HY HKI hW hbP hbR
 go_wp2_with fail
 refine(turnedC_r HH.out s 1 _ HST.out).mono ?_
 rintro z w1 ⟨rfl,hb1⟩
 have HO1:=aZ hb1
 clear hb1 x1 x2 HBX
 go_upto_region 2 with(fail)
 obtain⟨W2,hW2⟩:∃W2,W2=w1.alloc (.cells #[.iface ρ.t ρ.v,.int .i64 1] 131):=⟨_,rfl⟩
 obtain⟨bT,hbT⟩:∃bT,bT=w1.heap.size:=⟨_,rfl⟩
 have HO2:Hid (M.On W W2):=aZ (by rw[hW2];exact HO1.out.below HH.out.mem ((Below.refl _ w1).alloc (Nat.le_refl _) _))
 have HBT:Hid (W2.cell? ⟨bT,0,none⟩=some (.iface ρ.t ρ.v)/\W2.cell? ⟨bT,1,none⟩=some (.int .i64 1)):=aZ (by subst hbT hW2;exact⟨by simp[go_sem],by simp[go_sem]⟩)
 rw[<-hW2]
 simp only[<-hbT]
 have HST2:=aZ HO2.out.st
 have HSC:Hid (∀w',Hid (M.On W2 w')->(w'.cell? ⟨bT,0,none⟩=some (.iface ρ.t ρ.v)/\w'.cell? ⟨bT,1,none⟩=some (.int .i64 1)/\w'.cell? ⟨bR,0,none⟩=some (.iface ρ.t ρ.v)/\w'.cell? ⟨bR,1,none⟩=some (.int .i64 s)/\w'.cell? ⟨bP,0,none⟩=some (.int .i64 kind)/\w'.cell? ⟨bP,1,none⟩=some (.int .i64 N)/\w'.cell? ⟨bP,2,none⟩=some (.int .i64 r)/\w'.cell? ⟨bP,3,none⟩=some (.slice A kids.len c)/\Hid (M.On W2 w'))):=aZ (λw' h=>⟨on_cell HH.out.mem HST2.out h HBT.out.1,on_cell HH.out.mem HST2.out h HBT.out.2,(HSB.out w' (aZ (HO2.out.trans HH.out.mem h.out))).1,(HSB.out w' (aZ (HO2.out.trans HH.out.mem h.out))).2.1,(HSB.out w' (aZ (HO2.out.trans HH.out.mem h.out))).2.2.1,(HSB.out w' (aZ (HO2.out.trans HH.out.mem h.out))).2.2.2.1,(HSB.out w' (aZ (HO2.out.trans HH.out.mem h.out))).2.2.2.2.1,(HSB.out w' (aZ (HO2.out.trans HH.out.mem h.out))).2.2.2.2.2.1,h⟩)
 have HOT:=aZ (HH.out.mem.on_refl HST2.out)
 have HZ2:Hid (W.heap.size<=W2.heap.size):=aZ (HH.out.mem.size HO2.out.fr)
 clear HBT hbT hW2 HO1
 refine wp_region_S (λw'=>(w'.cell? ⟨bT,0,none⟩=some (.iface ρ.t ρ.v)/\w'.cell? ⟨bT,1,none⟩=some (.int .i64 1)/\w'.cell? ⟨bR,0,none⟩=some (.iface ρ.t ρ.v)/\w'.cell? ⟨bR,1,none⟩=some (.int .i64 s)/\w'.cell? ⟨bP,0,none⟩=some (.int .i64 kind)/\w'.cell? ⟨bP,1,none⟩=some (.int .i64 N)/\w'.cell? ⟨bP,2,none⟩=some (.int .i64 r)/\w'.cell? ⟨bP,3,none⟩=some (.slice A kids.len c)/\Hid (M.On W2 w'))) 10 (by kernel_rfl) ?_
 have hS0:=HSC.out _ (aZ (HOT.out.drew HH.out.mem))
 refine Takes.intro [0,1,2,3,4,6,7,8] ?_
 repeat(refine Takes.go (v:=?_) hS0 ?_;try simp only[nrm,Act.put])
 refine Takes.nil ?_
 refine wpAnyS_1 5 (λK hK=>?_)
 go_simp
 have HU0:=aZ (HOT.out.drew HH.out.mem)
 refine(HP.out.run 1 (.inl rfl) _ _ _ _ _ _ (HKW.out.keep' HH.out.mem (HO2.out.trans HH.out.mem HU0.out) HST.out) (HXW.out.keepM HH.out.mem (HO2.out.trans HH.out.mem HU0.out) HST.out) HU0.out.st).mono ?_
 rintro z w1' ⟨g1,rfl,-,ho,hb⟩
 have HU1:Hid (M.On W2 w1'):=aZ (HU0.out.trans HH.out.mem hb)
 have HX1:=aZ hb
 have HA1:=aZ ho
 have hS1:=HSC.out _ HU1
 clear ho hb
 refine hK.out _ _ (λ_=>hS1) ?_
 clear hK K
 try simp only[nrm,Act.put]
 refine wpAnyS_1 9 (λK hK=>?_)
 go_simp
 refine(HP.out.run 1 (.inl rfl) _ _ _ _ _ _ (HKW.out.keep' HH.out.mem (HO2.out.trans HH.out.mem HU1.out) HST.out) (HYW.out.keepM HH.out.mem (HO2.out.trans HH.out.mem HU1.out) HST.out) HU1.out.st).mono ?_
 rintro z w2 ⟨g2,rfl,-,ho,hb⟩
 have HU2:Hid (M.On W2 w2):=aZ (HU1.out.trans HH.out.mem hb)
 have HX2:=aZ hb
 have HA2:=aZ ho
 have hS2:=HSC.out _ HU2
 clear ho hb
 refine hK.out _ _ (λ_=>hS2) ?_
 clear hK K
 try simp only[nrm,Act.put]
 refine wpAnyS_fin 2 10 ?_
 simp only[nrd]
 go_wp2_with fail
 refine(TimesC_r HH.out (some ⟨g1,0,none⟩) (some ⟨g2,0,none⟩) N N N _ _ _ (HA1.out.keep HH.out.mem HX2.out HU1.out.st).cs HA2.out.cs (by omega) HU2.out.st).mono ?_
 rintro z w3 ⟨rfl,ho3,hb3⟩
 have HT:=aZ ho3
 have HU3:=aZ (HU2.out.trans HH.out.mem hb3)
 obtain⟨gt,hgt⟩:∃gt,gt=w2.heap.size:=⟨_,rfl⟩
 rw[<-hgt] at HT|-
 clear ho3 hb3 HA1 HA2 HX2 HU1 HU2 HU0 hS0 hS1 hS2 hgt
 go_upto_region 3 with(fail)
 refine wp_region_S (λw'=>(w'.cell? ⟨bT,0,none⟩=some (.iface ρ.t ρ.v)/\w'.cell? ⟨bT,1,none⟩=some (.int .i64 1)/\w'.cell? ⟨bR,0,none⟩=some (.iface ρ.t ρ.v)/\w'.cell? ⟨bR,1,none⟩=some (.int .i64 s)/\w'.cell? ⟨bP,0,none⟩=some (.int .i64 kind)/\w'.cell? ⟨bP,1,none⟩=some (.int .i64 N)/\w'.cell? ⟨bP,2,none⟩=some (.int .i64 r)/\w'.cell? ⟨bP,3,none⟩=some (.slice A kids.len c)/\Hid (M.On W2 w'))) 9 (by kernel_rfl) ?_
 have hS0:=HSC.out _ (aZ (HU3.out.drew HH.out.mem))
 refine Takes.intro [0,1,2,4,5,7,8] ?_
 repeat(refine Takes.go (v:=?_) hS0 ?_;try simp only[nrm,Act.put])
 refine Takes.nil ?_
 refine wpAnyS_1 3 (λK hK=>?_)
 go_simp
 have HU0:=aZ (HU3.out.drew HH.out.mem)
 refine(turnedC_r HH.out s (-1) _ HU0.out.st).mono ?_
 rintro z w4 ⟨rfl,hb⟩
 have HU1:Hid (M.On W2 w4):=aZ (HU0.out.trans HH.out.mem hb)
 have HX1:Hid (M.On w3 w4):=aZ (((HH.out.mem.on_refl HU3.out.st).drew HH.out.mem).trans HH.out.mem hb)
 have hS1:=HSC.out _ HU1
 clear hb
 refine hK.out _ _ (λ_=>hS1) ?_
 clear hK K
 try simp only[nrm,Act.put]
 refine wpAnyS_1 6 (λK hK=>?_)
 go_simp
 refine(HP.out.run (-1) (.inr rfl) _ _ _ _ _ _ (HKW.out.keep' HH.out.mem (HO2.out.trans HH.out.mem HU1.out) HST.out) (HT.out.keep HH.out.mem HX1.out HU3.out.st).cs HU1.out.st).mono ?_
 rintro z w5 ⟨g2,rfl,-,ho,hb⟩
 have HU2:Hid (M.On W2 w5):=aZ (HU1.out.trans HH.out.mem hb)
 have HX2:=aZ hb
 have HA2:=aZ ho
 have hS2:=HSC.out _ HU2
 clear ho hb
 refine hK.out _ _ (λ_=>hS2) ?_
 clear hK K
 try simp only[nrm,Act.put]
 refine wpAnyS_fin 2 9 ?_
 simp only[nrd]
 go_wp2_with fail
 refine(OverC_r HH.out (some ⟨g2,0,none⟩) N N N _ _ HA2.out.cs (by omega) h1 h2 HU2.out.st).mono ?_
 rintro z w6 ⟨rfl,ho6,hb6⟩
 have HF:=aZ ho6
 have HU6:=aZ (HU2.out.trans HH.out.mem hb6)
 have HG:Hid (w.heap.size<=w5.heap.size):=aZ (by have:=HH.out.mem.size HU2.out.fr;have:=HZ.out;have:=HZ2.out;omega)
 clear ho6 hb6 HA2 HU2 HU1 HU0 hS0 hS1 hS2
 go_wp2
 go_ret
 exact⟨_,rfl,HG.out,HF.out,(HON.out.trans HH.out.mem HO2.out).trans HH.out.mem HU6.out⟩
end
section
variable {M : Mem} {ρ : RingC}
def Two2(M:Mem)(W:World)(l:Nat)(vi vj:Value)(w2:World):Prop:=
 ∃g0 g1,vi=.slice (some ⟨g0,0,none⟩) l l/\vj=.slice (some ⟨g1,0,none⟩) l l/\g0≠g1/\W.heap.size<=g0/\W.heap.size<=g1/\OwnC M w2 g0 l (λ_=>(0,0))/\OwnC M w2 g1 l (λ_=>(0,0))/\M.On W w2
theorem two2_a(H:M.Ok){W:World}(hs:M.St W)(l:Nat):Two2 M W l (.slice (some ⟨W.heap.size,0,none⟩) l l) (.slice (some ⟨W.heap.size+1,0,none⟩) l l) ((W.drew.alloc (.cells (zsC l) 29)).alloc (.cells (zsC l) 29)):=by
 obtain⟨h1,h2⟩:=OwnC.make H ((H.on_refl hs).drew H) l 29
 obtain⟨h3,h4⟩:=OwnC.make H (H.on_refl h2.st) l 29
 have e:(W.drew.alloc (.cells (zsC l) 29)).heap.size=W.heap.size+1:=by simp
 rw[e] at h3
 exact⟨_,_,rfl,rfl,by omega,Nat.le_refl _,by omega,h1.keep H h4 h2.st,h3,h2.trans H h4⟩
theorem two2_b(H:M.Ok){W:World}(hs:M.St W)(l:Nat):Two2 M W l (.slice (some ⟨W.heap.size+1,0,none⟩) l l) (.slice (some ⟨W.heap.size,0,none⟩) l l) ((W.drew.alloc (.cells (zsC l) 29)).alloc (.cells (zsC l) 29)):=by
 obtain⟨g0,g1,e0,e1,hne,h0,h1,o0,o1,on⟩:=two2_a H hs l
 cases e0;cases e1
 exact⟨_,_,rfl,rfl,Ne.symm hne,h1,h0,o1,o0,on⟩
theorem RaderC_r(H:ρ.Ok M)(s:Int)(hs:s=1\/s=-1)(n l:Nat)(hl:l+1=n)(hR:Rooted n)(hn:n<=32768)(a0 r0:Int)(q0:Fo)(K:Tr Cx)(P0:PlanX M ρ a0 l r0 q0 l K)(w:World)(A:Option Addr)(c:Nat)(X:Option Addr)(cx:Nat)(x:Nat->Cx)(hk:Kids w A 0 (.cons a0 l r0 q0 .nil))(hX:CsAt w X n x)(hw:M.St w):
  Calls Tryz.prog 113 #[rnC ρ s,plV 3 n 0 A 1 c,.slice X n cx] w λz w'=>∃g,z=.returned (.slice (some ⟨g,0,none⟩) n n)/\w.heap.size<=g/\OwnC M w' g n (raderF ρ.R n (pwF n) K s x)/\M.On w w':=by
 obtain⟨⟨bA,oA,B0,c0,rfl,k1,k2,k3,k4,k5⟩,-⟩:=hk
 obtain⟨bX,oX,ux,rfl,-⟩:=hX 0 (by omega)
 have hn3:=hR.p3
 have hpl:∀k,pwF n k<n:=λk=>pmod_lt _ _ _ (by omega)
 have HPL:=aZ hpl
 have HH:=aZ H
 have HS:=aZ hs
 have HP0:=aZ P0
 have HX:=aZ hX
 have HW:=aZ hw
 have HPW:=aZ (λw=>Powers_any n hR hn w)
 have e1:n-1=l:=by omega
 rw[e1] at HPW
 have HKC:Hid (w.cell? ⟨bA,oA,none⟩=some (.int .i64 a0)/\w.cell? ⟨bA,oA+1,none⟩=some (.int .i64 l)/\w.cell? ⟨bA,oA+2,none⟩=some (.int .i64 r0)/\w.cell? ⟨bA,oA+3,none⟩=some (.slice B0 q0.len c0)):=
  aZ ⟨by simpa using k1,by simpa using k2,by simpa using k3,by simpa using k4⟩
 have HKS:=aZ k5
 have HRF:Hid (raderF ρ.R n (pwF n) K s x=raderO ρ.R n (pwF n) x (convF ρ.R l K (raderA (pwF n) x) (raderB ρ.R n s (pwF n))) l):=aZ (by unfold raderF;rw[e1])
 have hmk:=mk_C l (by omega)
 have hmn:=mk_C n (by omega)
 have hl1:1<=l:=by omega
 have HLN:Hid (l+1=n/\1<=n/\n<=65536/\l<=32768/\n<=4398046511104):=aZ (by omega)
 clear H hs P0 hX hw k1 k2 k3 k4 k5 hR e1 hpl
 go_enter Tryz.func113,Tryz.ntmps113
 go_upto_region 1 with(fail)
 obtain⟨W,hW⟩:∃W,W=(w.alloc (.cells #[.iface ρ.t ρ.v,.int .i64 s] 131)).alloc (.cells #[.int .i64 3,.int .i64 n,.int .i64 0,.slice (some ⟨bA,oA,none⟩) 1 c] 46):=⟨_,rfl⟩
 obtain⟨bR,hbR⟩:∃bR,bR=w.heap.size:=⟨_,rfl⟩
 obtain⟨bP,hbP⟩:∃bP,bP=bR+1:=⟨_,rfl⟩
 have HON:Hid (M.On w W):=aZ (by rw[hW];exact(HH.out.mem.on_refl HW.out).below HH.out.mem (((Below.refl _ w).alloc (Nat.le_refl _) _).alloc (by simp) _))
 have HBX:Hid ((W.cell? ⟨bR,0,none⟩=some (.iface ρ.t ρ.v)/\W.cell? ⟨bR,1,none⟩=some (.int .i64 s))/\(W.cell? ⟨bP,0,none⟩=some (.int .i64 3)/\W.cell? ⟨bP,1,none⟩=some (.int .i64 n)/\W.cell? ⟨bP,2,none⟩=some (.int .i64 0)/\W.cell? ⟨bP,3,none⟩=some (.slice (some ⟨bA,oA,none⟩) 1 c))):=
  aZ (by subst hbP hbR hW;exact⟨⟨by simp[go_sem],by simp[go_sem]⟩,by simp[go_sem],by simp[go_sem],by simp[go_sem],by simp[go_sem]⟩)
 have HZ:Hid (w.heap.size<=W.heap.size):=aZ (by subst hW;simp;omega)
 rw[<-hW]
 simp only[<-hbR]
 simp only[<-hbP]
 have HST:=aZ HON.out.st
 have HXW:=aZ (HX.out.keepM HH.out.mem HON.out HW.out)
 have HKW:=aZ (Kids.keep HH.out.mem HON.out HW.out HKS.out)
 have HSB:Hid (∀w',Hid (M.On W w')->(w'.cell? ⟨bR,0,none⟩=some (.iface ρ.t ρ.v)/\w'.cell? ⟨bR,1,none⟩=some (.int .i64 s)/\w'.cell? ⟨bP,0,none⟩=some (.int .i64 3)/\w'.cell? ⟨bP,1,none⟩=some (.int .i64 n)/\w'.cell? ⟨bP,2,none⟩=some (.int .i64 0)/\w'.cell? ⟨bP,3,none⟩=some (.slice (some ⟨bA,oA,none⟩) 1 c)/\w'.cell? ⟨bA,oA,none⟩=some (.int .i64 a0)/\w'.cell? ⟨bA,oA+1,none⟩=some (.int .i64 l)/\w'.cell? ⟨bA,oA+2,none⟩=some (.int .i64 r0)/\w'.cell? ⟨bA,oA+3,none⟩=some (.slice B0 q0.len c0)/\Hid (M.On W w'))):=aZ (λw' h=>⟨on_cell HH.out.mem HST.out h HBX.out.1.1,on_cell HH.out.mem HST.out h HBX.out.1.2,on_cell HH.out.mem HST.out h HBX.out.2.1,on_cell HH.out.mem HST.out h HBX.out.2.2.1,on_cell HH.out.mem HST.out h HBX.out.2.2.2.1,on_cell HH.out.mem HST.out h HBX.out.2.2.2.2,on_cell HH.out.mem HW.out (aZ (HON.out.trans HH.out.mem h.out)) HKC.out.1,on_cell HH.out.mem HW.out (aZ (HON.out.trans HH.out.mem h.out)) HKC.out.2.1,on_cell HH.out.mem HW.out (aZ (HON.out.trans HH.out.mem h.out)) HKC.out.2.2.1,on_cell HH.out.mem HW.out (aZ (HON.out.trans HH.out.mem h.out)) HKC.out.2.2.2,h⟩)
 obtain⟨-,x2,-⟩:=HBX.out.2
 clear HX HKS HKC hW hbP hbR
 go_wp2_with fail
 refine(HPW.out _).mono ?_
 rintro z W1 ⟨bw,rfl,hbw,hrw,hbb⟩
 have HO1:=aZ ((HH.out.mem.on_refl HST.out).below HH.out.mem hbb)
 have HPR:=aZ hrw
 have HST1:=aZ HO1.out.st
 clear hbw hrw hbb x2 HBX HPW
 go_upto_region 3 with(fail)
 go_cut [10,11] from 25 to 28 (λs10 s11 wx=>Two2 M W1 l s10 s11 wx)
 case first=>
  go_region
  all_goals(go_wp2_with fail;go_meet)
  all_goals first
   |exact two2_a HH.out.mem HST1.out l
   |exact two2_b HH.out.mem HST1.out l
 case rest=>
 obtain⟨ga,gb,rfl,rfl,hab,hga,hgb,oa,ob,on⟩:=hcut
 have HOA:=aZ oa
 have HOB:=aZ ob
 have HO2:=aZ on
 have HGE:Hid (W1.heap.size<=ga/\W1.heap.size<=gb/\ga≠gb):=aZ ⟨hga,hgb,hab⟩
 clear hab hga hgb oa ob on
 go_wp2
 go_loopw [31] (λvi wr=>∃k:Nat,k<=l/\vi=.int .i64 k/\Hid (OwnC M wr ga l (upToC k (raderA (pwF n) x)))/\Hid (OwnC M wr gb l (upToC k (raderB ρ.R n s (pwF n))))/\Hid (M.On W1 wr)) (λvi _=>l-(intOf vi).toNat)
 case atStart=>exact⟨0,by omega,rfl,aZ HOA.out.empty,aZ HOB.out.empty,HO2⟩
 case round=>
  clear HOA HOB HO2
  obtain⟨k,hk,rfl,hra,hrb,hb⟩:=hrel
  by_cases hlt:k<l
  ·have hki:(k:Int)<l:=by omega
   have hg:=HPL.out k
   obtain⟨gk,hgk⟩:∃gk,pwF n k=gk:=⟨_,rfl⟩
   obtain⟨lk,hlk⟩:∃lk,l-k=lk:=⟨_,rfl⟩
   obtain⟨j,hj⟩:∃j,lk%l=j:=⟨_,rfl⟩
   have hjl:j<l:=by rw[<-hj];exact Nat.mod_lt _ (by omega)
   have hgj:=HPL.out j
   obtain⟨gj,hgj'⟩:∃gj,pwF n j=gj:=⟨_,rfl⟩
   have c1:W1.cell? ⟨bw,k,none⟩=some (.int .i64 (gk:Int)):=by rw[<-hgk];exact(HPR.out k hlt).1
   have c2:W1.cell? ⟨bw,j,none⟩=some (.int .i64 (gj:Int)):=by rw[<-hgj'];exact(HPR.out j hjl).1
   have HRA:Hid (raderA (pwF n) x k=x gk):=aZ (by unfold raderA;rw[hgk])
   have HRB:Hid (raderB ρ.R n s (pwF n) k=ρ.R.root (s*((gj:Nat):Int)) n):=aZ (by
    have e1:n-1=l:=by have:=HLN.out.1;omega
    unfold raderB;rw[e1,hlk,hj,hgj'])
   rw[hgk] at hg
   rw[hgj'] at hgj
   have HC1:=aZ c1
   have HC2:=aZ c2
   have c1:=on_cell HH.out.mem HST1.out hb c1
   obtain⟨_,_,u,e,cX,cY,hu⟩:=HXW.out.keepM HH.out.mem (HO1.out.trans HH.out.mem hb.out) HST.out gk hg
   cases e
   have HU:=aZ hu
   clear hu
   obtain⟨u0,r1,r2,r3,r4,-⟩:=hra.out.row k hlt
   have hgi:(gk:Int)<n:=by omega
   have hl0:¬(l:Int)=0:=by omega
   have hl0n:¬l=0:=by omega
   have hji:(j:Int)<l:=by omega
   have hrt:(lk:Int).tmod l=(j:Int):=by rw[Int.tmod_eq_emod_of_nonneg (by omega),<-Int.natCast_emod,hj]
   have hre:(lk:Int)%l=(j:Int):=by rw[<-Int.natCast_emod,hj]
   have hlw:IntKind.i64.wrap ((l:Int)-k)=(lk:Int):=by rw[IntKind.wrap_i64];omega
   have HGJ:Hid (-65536<=(gj:Int)/\(gj:Int)<=65536):=aZ (by omega)
   have HNA:=aZ (hra.out.set HH.out.mem hb.out HGE.out.1 hlt u)
   have HNB:=aZ (hrb.out.other HH.out.mem hb.out.st hra.out.pv ((OnlyB.refl ga wr).putC k u) (Ne.symm HGE.out.2.2))
   clear hlk hj hjl hgj hgk hgj' c2 hra hrb
   unfold putC at HNA HNB
   go_upto_region 8 with(fail)
   obtain⟨wv,hwv⟩:∃wv,wv=(wr.setCell ⟨ga,k*2,none⟩ (.float .f64 u.1)).setCell ⟨ga,k*2+1,none⟩ (.float .f64 u.2):=⟨_,rfl⟩
   rw[<-hwv] at HNA HNB|-
   have HOV:=aZ HNA.out.2
   clear r1 r2 r3 r4 c1 cX cY hwv
   have HSD:Hid (∀w',Hid (M.On W1 w')->(w'.cell? ⟨bw,j,none⟩=some (.int .i64 (gj:Int))/\w'.cell? ⟨bR,0,none⟩=some (.iface ρ.t ρ.v)/\w'.cell? ⟨bR,1,none⟩=some (.int .i64 s)/\w'.cell? ⟨bP,0,none⟩=some (.int .i64 3)/\w'.cell? ⟨bP,1,none⟩=some (.int .i64 n)/\w'.cell? ⟨bP,2,none⟩=some (.int .i64 0)/\w'.cell? ⟨bP,3,none⟩=some (.slice (some ⟨bA,oA,none⟩) 1 c)/\w'.cell? ⟨bA,oA,none⟩=some (.int .i64 a0)/\w'.cell? ⟨bA,oA+1,none⟩=some (.int .i64 l)/\w'.cell? ⟨bA,oA+2,none⟩=some (.int .i64 r0)/\w'.cell? ⟨bA,oA+3,none⟩=some (.slice B0 q0.len c0)/\Hid (M.On W w'))):=aZ (λw' h=>⟨on_cell HH.out.mem HST1.out h HC2.out,HSB.out w' (aZ (HO1.out.trans HH.out.mem h.out))⟩)
   refine wp_region_S (λw'=>(w'.cell? ⟨bw,j,none⟩=some (.int .i64 (gj:Int))/\w'.cell? ⟨bR,0,none⟩=some (.iface ρ.t ρ.v)/\w'.cell? ⟨bR,1,none⟩=some (.int .i64 s)/\w'.cell? ⟨bP,0,none⟩=some (.int .i64 3)/\w'.cell? ⟨bP,1,none⟩=some (.int .i64 n)/\w'.cell? ⟨bP,2,none⟩=some (.int .i64 0)/\w'.cell? ⟨bP,3,none⟩=some (.slice (some ⟨bA,oA,none⟩) 1 c)/\w'.cell? ⟨bA,oA,none⟩=some (.int .i64 a0)/\w'.cell? ⟨bA,oA+1,none⟩=some (.int .i64 l)/\w'.cell? ⟨bA,oA+2,none⟩=some (.int .i64 r0)/\w'.cell? ⟨bA,oA+3,none⟩=some (.slice B0 q0.len c0)/\Hid (M.On W w'))) 14 (by kernel_rfl) ?_
   have hS0:=HSD.out _ (aZ (HOV.out.drew HH.out.mem))
   refine Takes.intro [0,1,2,3,4,5,6,7,8,9,10,11,12] ?_
   repeat(refine Takes.go (v:=?_) hS0 ?_;try simp only[nrm,Act.put])
   refine Takes.nil ?_
   refine wpAnyS_1 13 (λK hK=>?_)
   go_simp
   have HU0:=aZ (HOV.out.drew HH.out.mem)
   refine(withC_r HH.out s HS.out gj n _ HGJ.out.1 HGJ.out.2 HLN.out.2.1 HLN.out.2.2.1 HU0.out.st).mono ?_
   rintro z w2 ⟨⟨q,rfl,hq⟩,hb2⟩
   have HU1:Hid (M.On W1 w2):=aZ (HU0.out.trans HH.out.mem hb2)
   have HX1:Hid (M.On wv w2):=aZ (((HH.out.mem.on_refl HOV.out.st).drew HH.out.mem).trans HH.out.mem hb2)
   have hS1:=HSD.out _ HU1
   clear hb2
   refine hK.out _ _ (λ_=>hS1) ?_
   clear hK K
   try simp only[nrm,Act.put]
   refine wpAnyS_fin 2 14 ?_
   simp only[nrd]
   have HK2:=aZ (HNB.out.keep HH.out.mem HX1.out HOV.out.st)
   obtain⟨u0,r1,r2,r3,r4,-⟩:=HK2.out.row k hlt
   have HNB2:=aZ (HK2.out.set HH.out.mem HU1.out HGE.out.2.1 hlt q)
   have HNA2:=aZ ((HNA.out.1.keep HH.out.mem HX1.out HOV.out.st).other HH.out.mem HU1.out.st HK2.out.pv ((OnlyB.refl gb w2).putC k q) HGE.out.2.2)
   have HQ:=aZ hq
   clear hS0 hS1 HU0 HU1 HX1 HK2 HNA HNB hrt hre hlw hq
   go_wp2
   exact⟨⟨k+1,by omega,by go_num,aZ (HNA2.out.nextC (HU.out.trans HRA.out.symm)),aZ (HNB2.out.1.nextC (HQ.out.trans HRB.out.symm)),aZ HNB2.out.2⟩,by simp[intOf];omega⟩
  ·obtain rfl:k=l:=by omega
   have HA:=aZ hra.out.full
   have HB:=aZ hrb.out.full
   clear hra hrb
   go_upto_region 10 with(fail)
   refine wp_region_S (λw'=>(w'.cell? ⟨bR,0,none⟩=some (.iface ρ.t ρ.v)/\w'.cell? ⟨bR,1,none⟩=some (.int .i64 s)/\w'.cell? ⟨bP,0,none⟩=some (.int .i64 3)/\w'.cell? ⟨bP,1,none⟩=some (.int .i64 n)/\w'.cell? ⟨bP,2,none⟩=some (.int .i64 0)/\w'.cell? ⟨bP,3,none⟩=some (.slice (some ⟨bA,oA,none⟩) 1 c)/\w'.cell? ⟨bA,oA,none⟩=some (.int .i64 a0)/\w'.cell? ⟨bA,oA+1,none⟩=some (.int .i64 k)/\w'.cell? ⟨bA,oA+2,none⟩=some (.int .i64 r0)/\w'.cell? ⟨bA,oA+3,none⟩=some (.slice B0 q0.len c0)/\Hid (M.On W w'))) 7 (by kernel_rfl) ?_
   have hS0:=HSB.out _ (aZ (HO1.out.trans HH.out.mem (hb.out.drew HH.out.mem)))
   refine Takes.intro [0,1,2,3,4,5,6] ?_
   repeat(refine Takes.go (v:=?_) hS0 ?_;try simp only[nrm,Act.put])
   refine Takes.nil ?_
   refine wpAnyS_fin 2 7 ?_
   simp only[nrd]
   have HU0:=aZ (hb.out.drew HH.out.mem)
   have HX0:=aZ ((HH.out.mem.on_refl hb.out.st).drew HH.out.mem)
   go_wp2_with fail
   refine(ConvC_r HH.out s a0 r0 q0 k K HP0.out hl1 HLN.out.2.2.2.1 _ _ _ _ _ _ _ _ _ (HKW.out.keep' HH.out.mem (HO1.out.trans HH.out.mem HU0.out) HST.out) (HA.out.keep HH.out.mem HX0.out hb.out.st).cs (HB.out.keep HH.out.mem HX0.out hb.out.st).cs HU0.out.st).mono ?_
   rintro z w3 ⟨gc,rfl,-,hc,hb3⟩
   obtain⟨C,hC⟩:∃C,convF ρ.R k K (raderA (pwF n) x) (raderB ρ.R n s (pwF n))=C:=⟨_,rfl⟩
   rw[hC] at HRF hc
   have HC:=aZ hc
   have HU3:=aZ (HU0.out.trans HH.out.mem hb3)
   clear hb3 hc hC HU0 HX0 hS0 HA HB hb
   have HO3:=aZ (HO1.out.trans HH.out.mem HU3.out)
   have HS3:=aZ HU3.out.st
   obtain⟨-,-,-,y4,-⟩:=HSB.out w3 HO3
   go_upto_region 12 with(fail)
   clear y4
   have HX3:=aZ (HXW.out.keepM HH.out.mem HO3.out HST.out)
   obtain⟨w4,hw4⟩:∃w4,w4=w3.alloc (.cells (zsC n) 29):=⟨_,rfl⟩
   have HON4:=OwnC.make HH.out.mem (HH.out.mem.on_refl HS3.out) n 29
   rw[<-hw4] at HON4|-
   have HOW4:=aZ HON4.1
   have HU4:=aZ HON4.2
   obtain⟨y1,y2,-⟩:=HSB.out w4 (aZ (HO3.out.trans HH.out.mem HU4.out))
   obtain⟨go,hgo⟩:∃go,go=w3.heap.size:=⟨_,rfl⟩
   have HGO:Hid (w3.heap.size<=go):=aZ (by omega)
   rw[<-hgo] at HOW4|-
   clear hgo hw4 HON4
   go_wp2_with fail
   refine(SumC_r HH.out (some ⟨bX,oX,none⟩) n cx x _ (HX3.out.keepM HH.out.mem HU4.out HS3.out) HLN.out.2.2.2.2 HU4.out.st).mono ?_
   rintro z w5 ⟨sr,rfl,hsr,hb5⟩
   have HSR:=aZ hsr
   have HOW5:=aZ (HOW4.out.keep HH.out.mem hb5 HU4.out.st)
   have HU5:=aZ (HU4.out.trans HH.out.mem hb5)
   obtain⟨u0,r1,r2,r3,r4,-⟩:=HOW5.out.row 0 HLN.out.2.1
   have HOW6:=aZ (HOW5.out.set HH.out.mem HU5.out HGO.out HLN.out.2.1 sr)
   have hn0:(0:Int)<n:=by omega
   clear hb5 y1 y2 HOW4 HU4 hsr
   go_wp2
   go_loopw [78] (λvi wr=>∃t:Nat,t<=k/\vi=.int .i64 t/\Hid (OwnC M wr go n (raderO ρ.R n (pwF n) x C t))/\Hid (M.On w3 wr)) (λvi _=>k-(intOf vi).toNat)
   case atStart=>exact⟨0,by omega,rfl,aZ (by have h6:=HOW6.out.1;rw[HSR.out] at h6;simpa[raderO,foldT,HH.out.z0,putC] using h6),aZ HOW6.out.2⟩
   case round=>
    clear HOW6 HOW5 HU5 r1 r2 r3 r4 HSR
    rename World=>wq
    obtain⟨t,ht,rfl,hr,hb⟩:=hrel
    by_cases hlt:t<k
    ·have hki:(t:Int)<k:=by omega
     obtain⟨lk,hlk⟩:∃lk,k-t=lk:=⟨_,rfl⟩
     obtain⟨j,hj⟩:∃j,lk%k=j:=⟨_,rfl⟩
     have hjl:j<k:=by rw[<-hj];exact Nat.mod_lt _ (by omega)
     have hgj:=HPL.out j
     obtain⟨gj,hgj'⟩:∃gj,pwF n j=gj:=⟨_,rfl⟩
     have c2:W1.cell? ⟨bw,j,none⟩=some (.int .i64 (gj:Int)):=by rw[<-hgj'];exact(HPR.out j hjl).1
     have HRO:Hid (raderO ρ.R n (pwF n) x C (t+1)=updT (raderO ρ.R n (pwF n) x C t) gj (ρ.R.add (x 0) (C t))):=aZ (by
      have e1:n-1=k:=by have:=HLN.out.1;omega
      show updT (raderO ρ.R n (pwF n) x C t) (pwF n ((n-1-t)%(n-1))) (ρ.R.add (x 0) (C t))=_
      rw[e1,hlk,hj,hgj'])
     rw[hgj'] at hgj
     have HGJ:=aZ hgj
     have HC2:=aZ c2
     obtain⟨_,_,u,e,cX,cY,hu⟩:=HX3.out 0 HLN.out.2.1
     cases e
     have HU:=aZ hu
     have HCX:Hid (w3.cell? ⟨bX,oX,none⟩=some (.float .f64 u.1)/\w3.cell? ⟨bX,oX+1,none⟩=some (.float .f64 u.2)):=aZ ⟨by simpa using cX,by simpa using cY⟩
     have hn0n:0<n:=HLN.out.2.1
     obtain⟨v,cc1,cc2,-,-,hv⟩:=HC.out.row t hlt
     have HV:=aZ hv
     have HCC:=aZ (And.intro cc1 cc2)
     clear cc1 cc2 hv hu
     have hgi:(gj:Int)<n:=by omega
     have hl0:¬(k:Int)=0:=by omega
     have hl0n:¬k=0:=by omega
     have hji:(j:Int)<k:=by omega
     have hrt:(lk:Int).tmod k=(j:Int):=by rw[Int.tmod_eq_emod_of_nonneg (by omega),<-Int.natCast_emod,hj]
     have hre:(lk:Int)%k=(j:Int):=by rw[<-Int.natCast_emod,hj]
     have hlw:IntKind.i64.wrap ((k:Int)-t)=(lk:Int):=by rw[IntKind.wrap_i64];omega
     have HSE:Hid (∀w',Hid (M.On w3 w')->(w'.cell? ⟨bw,j,none⟩=some (.int .i64 (gj:Int))/\w'.cell? ⟨bX,oX,none⟩=some (.float .f64 u.1)/\w'.cell? ⟨bX,oX+1,none⟩=some (.float .f64 u.2)/\w'.cell? ⟨gc,t*2,none⟩=some (.float .f64 v.1)/\w'.cell? ⟨gc,t*2+1,none⟩=some (.float .f64 v.2)/\w'.cell? ⟨bR,0,none⟩=some (.iface ρ.t ρ.v)/\Hid (M.On w3 w'))):=aZ (λw' h=>⟨on_cell HH.out.mem HST1.out (aZ (HU3.out.trans HH.out.mem h.out)) HC2.out,on_cell HH.out.mem HS3.out h HCX.out.1,on_cell HH.out.mem HS3.out h HCX.out.2,on_cell HH.out.mem HS3.out h HCC.out.1,on_cell HH.out.mem HS3.out h HCC.out.2,(HSB.out w' (aZ (HO3.out.trans HH.out.mem h.out))).1,h⟩)
     have e1:=HH.out.na
     have e2:=HH.out.ma
     have e3:=HH.out.ca
     clear hlk hj hjl hgj' c2 cX cY
     go_upto_region 16 with(fail)
     refine wp_region_S (λw'=>(w'.cell? ⟨bw,j,none⟩=some (.int .i64 (gj:Int))/\w'.cell? ⟨bX,oX,none⟩=some (.float .f64 u.1)/\w'.cell? ⟨bX,oX+1,none⟩=some (.float .f64 u.2)/\w'.cell? ⟨gc,t*2,none⟩=some (.float .f64 v.1)/\w'.cell? ⟨gc,t*2+1,none⟩=some (.float .f64 v.2)/\w'.cell? ⟨bR,0,none⟩=some (.iface ρ.t ρ.v)/\Hid (M.On w3 w'))) 21 (by kernel_rfl) ?_
     have hS0:=HSE.out _ (aZ (hb.out.drew HH.out.mem))
     refine Takes.intro [0,1,2,3,4,5,6,7,8,9,10,11,12,13,14,15,16,17,18,19] ?_
     repeat(refine Takes.go (v:=?_) hS0 ?_;try simp only[nrm,Act.put])
     refine Takes.nil ?_
     refine wpAnyS_1 20 (λK hK=>?_)
     go_simp
     have HU0:=aZ (hb.out.drew HH.out.mem)
     refine(HH.out.add _ _ _ HU0.out.st).mono ?_
     rintro z w2 ⟨⟨q,rfl,hq⟩,hb2⟩
     have HU1:Hid (M.On w3 w2):=aZ (HU0.out.trans HH.out.mem hb2)
     have HX1:Hid (M.On wq w2):=aZ (((HH.out.mem.on_refl hb.out.st).drew HH.out.mem).trans HH.out.mem hb2)
     have hS1:=HSE.out _ HU1
     clear hb2
     refine hK.out _ _ (λ_=>hS1) ?_
     clear hK K
     try simp only[nrm,Act.put]
     refine wpAnyS_fin 2 21 ?_
     simp only[nrd]
     have HK2:=aZ (hr.out.keep HH.out.mem HX1.out hb.out.st)
     obtain⟨u0,r1,r2,r3,r4,-⟩:=HK2.out.row gj HGJ.out
     have HN2:=aZ (HK2.out.set HH.out.mem HU1.out HGO.out HGJ.out q)
     have HQ:Hid (nC q=ρ.R.add (x 0) (C t)):=aZ (by rw[hq,HU.out,HV.out])
     clear hS0 hS1 HU0 HU1 HX1 HK2 hrt hre hlw e1 e2 e3 hq
     go_wp2
     exact⟨⟨t+1,by omega,by go_num,aZ (by rw[HRO.out,<-HQ.out];exact HN2.out.1),aZ HN2.out.2⟩,by simp[intOf];omega⟩
    ·obtain rfl:t=k:=by omega
     go_wp2
     go_ret
     exact⟨_,rfl,by have:=HH.out.mem.size HO3.out.fr;have:=HZ.out;have:=HGO.out;omega,by rw[HRF.out];exact hr.out,(HON.out.trans HH.out.mem HO3.out).trans HH.out.mem hb.out⟩
end
section
variable {M : Mem} {ρ : RingC}
theorem rows3(H:M.Ok){D w w2:World}{g n g1 n1 g2 n2 j:Nat}{f f1 f2:Nat->Cx}(hg:OwnC M w g n f)(h1:OwnC M w g1 n1 f1)(h2:OwnC M w g2 n2 f2)(on:M.On D w)(on2:M.On w w2)(hD:D.heap.size<=g)(hj:j<n)(v:Rx)(e1:g1≠g)(e2:g2≠g):
  OwnC M (putC w2 g j v) g n (updT f j (nC v))/\OwnC M (putC w2 g j v) g1 n1 f1/\OwnC M (putC w2 g j v) g2 n2 f2/\M.On D (putC w2 g j v):=by
 have kg:=hg.keep H on2 on.st
 have hs:=kg.set H (on.trans H on2) hD hj v
 exact⟨hs.1,(h1.keep H on2 on.st).other H on2.st kg.pv ((OnlyB.refl g w2).putC _ _) e1,(h2.keep H on2 on.st).other H on2.st kg.pv ((OnlyB.refl g w2).putC _ _) e2,hs.2⟩
theorem blueA_next(R:Rg Cx)(n:Nat)(s:Int)(x:Nat->Cx)(k i:Nat):updT (blueA R n s x k) k (R.mul (x k) (blueC R n s k)) i=blueA R n s x (k+1) i:=by
 unfold updT blueA
 by_cases e:i=k
 ·rw[if_pos e,if_pos (by omega),e]
 ·rw[if_neg e]
  by_cases e2:i<k
  ·rw[if_pos e2,if_pos (by omega)]
  ·rw[if_neg e2,if_neg (by omega)]
theorem BlueC_r(H:ρ.Ok M)(s:Int)(hs:s=1\/s=-1)(n m:Nat)(hn1:1<=n)(hn:n<=16384)(hnm:2*n-1<=m)(hm:m<=32768)(a0 r0:Int)(q0:Fo)(Kf:Tr Cx)(P0:PlanX M ρ a0 m r0 q0 m Kf)(w:World)(A:Option Addr)(c:Nat)(X:Option Addr)(cx:Nat)(x:Nat->Cx)(hk:Kids w A 0 (.cons a0 m r0 q0 .nil))(hX:CsAt w X n x)(hw:M.St w):
  Calls Tryz.prog 114 #[rnC ρ s,plV 4 n 0 A 1 c,.slice X n cx] w λz w'=>∃g,z=.returned (.slice (some ⟨g,0,none⟩) n n)/\w.heap.size<=g/\OwnC M w' g n (blueF ρ.R n m Kf s x)/\M.On w w':=by
 obtain⟨⟨bA,oA,B0,c0,rfl,k1,k2,k3,k4,k5⟩,-⟩:=hk
 obtain⟨bX,oX,ux,rfl,-⟩:=hX 0 (by omega)
 have HH:=aZ H
 have HS:=aZ hs
 have HP0:=aZ P0
 have HX:=aZ hX
 have HW:=aZ hw
 have HSQ:=aZ (λw=>Squares_any n hn1 (by omega) w)
 have HKC:Hid (w.cell? ⟨bA,oA,none⟩=some (.int .i64 a0)/\w.cell? ⟨bA,oA+1,none⟩=some (.int .i64 m)/\w.cell? ⟨bA,oA+2,none⟩=some (.int .i64 r0)/\w.cell? ⟨bA,oA+3,none⟩=some (.slice B0 q0.len c0)):=
  aZ ⟨by simpa using k1,by simpa using k2,by simpa using k3,by simpa using k4⟩
 have HKS:=aZ k5
 have hmk:=mk_C m (by omega)
 have hmn:=mk_C n (by omega)
 obtain⟨n2,hn2⟩:∃n2,2*n=n2:=⟨_,rfl⟩
 have HN2:Hid (2*n=n2/\1<=n2/\n2<=65536/\1<=m/\m<=32768/\n<=m/\n<=4398046511104):=aZ (by omega)
 have h2n:2*(n:Int)=(n2:Int):=by omega
 clear H hs P0 hX hw k1 k2 k3 k4 k5 hn2
 go_enter Tryz.func114,Tryz.ntmps114
 go_upto_region 1 with(fail)
 obtain⟨W,hW⟩:∃W,W=(w.alloc (.cells #[.iface ρ.t ρ.v,.int .i64 s] 131)).alloc (.cells #[.int .i64 4,.int .i64 n,.int .i64 0,.slice (some ⟨bA,oA,none⟩) 1 c] 46):=⟨_,rfl⟩
 obtain⟨bR,hbR⟩:∃bR,bR=w.heap.size:=⟨_,rfl⟩
 obtain⟨bP,hbP⟩:∃bP,bP=bR+1:=⟨_,rfl⟩
 have HON:Hid (M.On w W):=aZ (by rw[hW];exact(HH.out.mem.on_refl HW.out).below HH.out.mem (((Below.refl _ w).alloc (Nat.le_refl _) _).alloc (by simp) _))
 have HBX:Hid ((W.cell? ⟨bR,0,none⟩=some (.iface ρ.t ρ.v)/\W.cell? ⟨bR,1,none⟩=some (.int .i64 s))/\(W.cell? ⟨bP,0,none⟩=some (.int .i64 4)/\W.cell? ⟨bP,1,none⟩=some (.int .i64 n)/\W.cell? ⟨bP,2,none⟩=some (.int .i64 0)/\W.cell? ⟨bP,3,none⟩=some (.slice (some ⟨bA,oA,none⟩) 1 c))):=
  aZ (by subst hbP hbR hW;exact⟨⟨by simp[go_sem],by simp[go_sem]⟩,by simp[go_sem],by simp[go_sem],by simp[go_sem],by simp[go_sem]⟩)
 have HZ:Hid (w.heap.size<=W.heap.size):=aZ (by subst hW;simp;omega)
 rw[<-hW]
 simp only[<-hbR]
 simp only[<-hbP]
 have HST:=aZ HON.out.st
 have HXW:=aZ (HX.out.keepM HH.out.mem HON.out HW.out)
 have HKW:=aZ (Kids.keep HH.out.mem HON.out HW.out HKS.out)
 have HSB:Hid (∀w',Hid (M.On W w')->(w'.cell? ⟨bR,0,none⟩=some (.iface ρ.t ρ.v)/\w'.cell? ⟨bR,1,none⟩=some (.int .i64 s)/\w'.cell? ⟨bP,0,none⟩=some (.int .i64 4)/\w'.cell? ⟨bP,1,none⟩=some (.int .i64 n)/\w'.cell? ⟨bP,2,none⟩=some (.int .i64 0)/\w'.cell? ⟨bP,3,none⟩=some (.slice (some ⟨bA,oA,none⟩) 1 c)/\w'.cell? ⟨bA,oA,none⟩=some (.int .i64 a0)/\w'.cell? ⟨bA,oA+1,none⟩=some (.int .i64 m)/\w'.cell? ⟨bA,oA+2,none⟩=some (.int .i64 r0)/\w'.cell? ⟨bA,oA+3,none⟩=some (.slice B0 q0.len c0)/\Hid (M.On W w'))):=aZ (λw' h=>⟨on_cell HH.out.mem HST.out h HBX.out.1.1,on_cell HH.out.mem HST.out h HBX.out.1.2,on_cell HH.out.mem HST.out h HBX.out.2.1,on_cell HH.out.mem HST.out h HBX.out.2.2.1,on_cell HH.out.mem HST.out h HBX.out.2.2.2.1,on_cell HH.out.mem HST.out h HBX.out.2.2.2.2,on_cell HH.out.mem HW.out (aZ (HON.out.trans HH.out.mem h.out)) HKC.out.1,on_cell HH.out.mem HW.out (aZ (HON.out.trans HH.out.mem h.out)) HKC.out.2.1,on_cell HH.out.mem HW.out (aZ (HON.out.trans HH.out.mem h.out)) HKC.out.2.2.1,on_cell HH.out.mem HW.out (aZ (HON.out.trans HH.out.mem h.out)) HKC.out.2.2.2,h⟩)
 obtain⟨-,x2,-⟩:=HBX.out.2
 clear HX HKS HKC hW hbP hbR
 go_wp2_with fail
 refine(HSQ.out _).mono ?_
 rintro z W1 ⟨rfl,hrw,hbb⟩
 have HO1:=aZ ((HH.out.mem.on_refl HST.out).below HH.out.mem hbb)
 have HPR:=aZ hrw
 have HST1:=aZ HO1.out.st
 obtain⟨bw,hbw⟩:∃bw,bw=W.heap.size:=⟨_,rfl⟩
 rw[<-hbw] at HPR|-
 have HBW:Hid (W.heap.size<=bw):=aZ (by omega)
 clear hrw hbb x2 HBX HSQ hbw
 obtain⟨-,-,-,-,-,x3,-,x4,-⟩:=HSB.out W1 HO1
 go_upto_region 3 with(fail)
 clear x3 x4
 go_cut [10,11] from 27 to 30 (λs10 s11 wx=>Two2 M W1 m s10 s11 wx)
 case first=>
  go_region
  all_goals(go_wp2_with fail;go_meet)
  all_goals first
   |exact two2_a HH.out.mem HST1.out m
   |exact two2_b HH.out.mem HST1.out m
 case rest=>
 obtain⟨ga,gb,rfl,rfl,hab,hga,hgb,oa,ob,on⟩:=hcut
 have HOA:=aZ oa
 have HOB:=aZ ob
 have HO2:=aZ on
 have HGE:Hid (W1.heap.size<=ga/\W1.heap.size<=gb/\ga≠gb):=aZ ⟨hga,hgb,hab⟩
 have HSD:Hid (∀w',Hid (M.On W1 w')->(w'.cell? ⟨bR,0,none⟩=some (.iface ρ.t ρ.v)/\w'.cell? ⟨bR,1,none⟩=some (.int .i64 s)/\w'.cell? ⟨bP,1,none⟩=some (.int .i64 n)/\Hid (M.On W1 w'))):=aZ (λw' h=>⟨(HSB.out w' (aZ (HO1.out.trans HH.out.mem h.out))).1,(HSB.out w' (aZ (HO1.out.trans HH.out.mem h.out))).2.1,(HSB.out w' (aZ (HO1.out.trans HH.out.mem h.out))).2.2.2.1,h⟩)
 clear hab hga hgb oa ob on
 go_wp2
 go_loopw [32] (λvi wr=>∃k:Nat,k<=m/\vi=.int .i64 k/\Hid (OwnC M wr ga m (λ_=>(0,0)))/\Hid (OwnC M wr gb m (λ_=>(0,0)))/\Hid (M.On W1 wr)) (λvi _=>m-(intOf vi).toNat)
 case atStart=>exact⟨0,by omega,rfl,HOA,HOB,HO2⟩
 case round=>
  clear HOA HOB HO2
  obtain⟨k,hk,rfl,hra,hrb,hb⟩:=hrel
  by_cases hlt:k<m
  ·have hki:(k:Int)<m:=by omega
   have e1:=HH.out.nz
   have e2:=HH.out.mz
   have e3:=HH.out.cz
   go_upto_region 7 with(fail)
   refine wp_region_S (λw'=>(w'.cell? ⟨bR,0,none⟩=some (.iface ρ.t ρ.v)/\w'.cell? ⟨bR,1,none⟩=some (.int .i64 s)/\w'.cell? ⟨bP,1,none⟩=some (.int .i64 n)/\Hid (M.On W1 w'))) 12 (by kernel_rfl) ?_
   have hS0:=HSD.out _ (aZ (hb.out.drew HH.out.mem))
   refine Takes.intro [0,1,2,3,4,5,7,8] ?_
   repeat(refine Takes.go (v:=?_) hS0 ?_;try simp only[nrm,Act.put])
   refine Takes.nil ?_
   refine wpAnyS_1 6 (λK hK=>?_)
   go_simp
   have HU0:=aZ (hb.out.drew HH.out.mem)
   have HX0:=aZ ((HH.out.mem.on_refl hb.out.st).drew HH.out.mem)
   refine(HH.out.zero _ HU0.out.st).mono ?_
   rintro z w1 ⟨⟨qa,rfl,hqa⟩,hb2⟩
   have HU1:Hid (M.On W1 w1):=aZ (HU0.out.trans HH.out.mem hb2)
   have HX1:Hid (M.On wr w1):=aZ (HX0.out.trans HH.out.mem hb2)
   have hS1:=HSD.out _ HU1
   clear hb2
   refine hK.out _ _ (λ_=>hS1) ?_
   clear hK K
   try simp only[nrm,Act.put]
   refine wpAnyS_1 9 (λK hK=>?_)
   go_simp
   refine(HH.out.zero _ HU1.out.st).mono ?_
   rintro z w2 ⟨⟨qb,rfl,hqb⟩,hb2⟩
   have HU2:Hid (M.On W1 w2):=aZ (HU1.out.trans HH.out.mem hb2)
   have HX2:Hid (M.On wr w2):=aZ (HX1.out.trans HH.out.mem hb2)
   have hS2:=HSD.out _ HU2
   clear hb2
   have HKA:=aZ (hra.out.keep HH.out.mem HX2.out hb.out.st)
   obtain⟨u0,r1,r2,r3,r4,-⟩:=HKA.out.row k hlt
   refine hK.out _ _ (λ_=>hS2) ?_
   clear hK K
   try simp only[nrm,Act.put]
   refine Takes.intro [10] ?_
   repeat(refine Takes.go (v:=?_) hS2 ?_;try simp only[nrm,Act.put])
   refine Takes.nil ?_
   refine wpAnyS_1 11 (λK hK=>?_)
   go_simp
   have HNA:=aZ (HKA.out.set HH.out.mem HU2.out HGE.out.1 hlt qa)
   have HNB:=aZ ((hrb.out.keep HH.out.mem HX2.out hb.out.st).other HH.out.mem HU2.out.st HKA.out.pv ((OnlyB.refl ga w2).putC k qa) (Ne.symm HGE.out.2.2))
   have HU3:=aZ HNA.out.2
   have hS3:=HSD.out _ HU3
   clear r1 r2 r3 r4 HKA
   unfold putC at HNA HNB HU3 hS3
   refine hK.out _ _ (λ_=>hS3) ?_
   clear hK K
   try simp only[nrm,Act.put]
   refine wpAnyS_fin 2 12 ?_
   simp only[nrd]
   obtain⟨u0,r1,r2,r3,r4,-⟩:=HNB.out.row k hlt
   have HNB2:=aZ (HNB.out.set HH.out.mem HU3.out HGE.out.2.1 hlt qb)
   have HNA2:=aZ (HNA.out.1.other HH.out.mem HU3.out.st HNB.out.pv ((OnlyB.refl gb _).putC k qb) HGE.out.2.2)
   have HE:Hid (∀i,updT (λ_=>((0,0):Cx)) k ρ.R.zero i=(0,0)):=aZ (λi=>by unfold updT;rw[HH.out.z0];split<;>rfl)
   have HQ:Hid (nC qa=ρ.R.zero/\nC qb=ρ.R.zero):=aZ ⟨hqa,hqb⟩
   clear hS0 hS1 hS2 hS3 HU0 HU1 HU2 HU3 HX0 HX1 HX2 HNA HNB e1 e2 e3 hqa hqb
   go_wp2
   exact⟨⟨k+1,by omega,by go_num,aZ (HNA2.out.congr λi _=>by rw[HQ.out.1];exact HE.out i),aZ (HNB2.out.1.congr λi _=>by rw[HQ.out.2];exact HE.out i),aZ HNB2.out.2⟩,by simp[intOf];omega⟩
  ·obtain rfl:k=m:=by omega
   have HO4:=aZ (HO1.out.trans HH.out.mem hb.out)
   obtain⟨-,-,-,x3,-⟩:=HSB.out wr HO4
   have hmk2:=OwnC.make HH.out.mem (HH.out.mem.on_refl hb.out.st) n 29
   have HA0:=aZ (hra.out.keep HH.out.mem hmk2.2 hb.out.st)
   have HB0:=aZ (hrb.out.keep HH.out.mem hmk2.2 hb.out.st)
   have HH0:=aZ hmk2.1
   have HO0:=aZ (hb.out.trans HH.out.mem hmk2.2)
   have HGH:Hid (W1.heap.size<=wr.heap.size/\ga≠wr.heap.size/\gb≠wr.heap.size):=aZ (by have:=HH.out.mem.size hb.out.fr;have:=hra.out.lt;have:=hrb.out.lt;omega)
   obtain⟨gh,hgh⟩:∃gh,gh=wr.heap.size:=⟨_,rfl⟩
   clear hmk2 hra hrb
   go_upto_region 10 with(fail)
   obtain⟨wg,hwg⟩:∃wg,wg=wr.alloc (.cells (zsC n) 29):=⟨_,rfl⟩
   rw[<-hwg] at HA0 HB0 HH0 HO0|-
   rw[<-hgh] at HH0 HGH
   rw[<-hgh]
   clear x3 hwg hgh
   go_wp2
   go_loopw [53] (λvi wq=>∃t:Nat,t<=n/\vi=.int .i64 t/\Hid (OwnC M wq gh n (upToC t (blueC ρ.R n s)))/\Hid (OwnC M wq ga k (blueA ρ.R n s x t))/\Hid (OwnC M wq gb k (blueB ρ.R n k s t))/\Hid (M.On W1 wq)/\True) (λvi _=>n-(intOf vi).toNat)
   case atStart=>exact⟨0,by omega,rfl,aZ HH0.out.empty,aZ (HA0.out.congr λi _=>by unfold blueA;rw[if_neg (by omega),HH.out.z0]),aZ (HB0.out.congr λi _=>by unfold blueB foldT;rw[HH.out.z0]),HO0,trivial⟩
   case round=>
    clear HA0 HB0 HH0 HO0
    rename World=>wq
    obtain⟨t,ht,rfl,hrh,hra,hrb,hb,-⟩:=hrel
    by_cases hlt:t<n
    ·have hki:(t:Int)<n:=by omega
     have htk:t<k:=by have:=HN2.out.2.2.2.2.2.1;omega
     have htki:(t:Int)<k:=by omega
     have hsq:sqr n t<n2:=by rw[<-HN2.out.1];exact Nat.mod_lt _ (by omega)
     have hsq2:sqr n t<=65536:=by have:=HN2.out.2.2.1;omega
     have HBC:Hid (blueC ρ.R n s t=ρ.R.root (s*((sqr n t:Nat):Int)) n2):=aZ (by unfold blueC;rw[HN2.out.1])
     have HBD:Hid (blueB ρ.R n k s (t+1)=updT (updT (blueB ρ.R n k s t) t (ρ.R.root (s*(-((sqr n t:Nat):Int))) n2)) ((k-t)%k) (ρ.R.root (s*(-((sqr n t:Nat):Int))) n2)):=aZ (by
      show updT (updT (blueB ρ.R n k s t) t (blueD ρ.R n s t)) ((k-t)%k) (blueD ρ.R n s t)=_
      unfold blueD;rw[HN2.out.1])
     have HAN:Hid (∀i,updT (blueA ρ.R n s x t) t (ρ.R.mul (x t) (blueC ρ.R n s t)) i=blueA ρ.R n s x (t+1) i):=aZ (blueA_next ρ.R n s x t)
     have c1:=(HPR.out t hlt).1
     dsimp only at c1
     obtain⟨sq,hsqe⟩:∃sq,sqr n t=sq:=⟨_,rfl⟩
     rw[hsqe] at hsq hsq2 HBC HBD c1
     obtain⟨Cv,hCv⟩:∃Cv,ρ.R.root (s*(sq:Int)) n2=Cv:=⟨_,rfl⟩
     obtain⟨Dv,hDv⟩:∃Dv,ρ.R.root (s*(-(sq:Int))) n2=Dv:=⟨_,rfl⟩
     rw[hCv] at HBC
     rw[HBC.out] at HAN
     rw[hDv] at HBD
     obtain⟨lk,hlk⟩:∃lk,k-t=lk:=⟨_,rfl⟩
     obtain⟨j,hj⟩:∃j,lk%k=j:=⟨_,rfl⟩
     rw[hlk,hj] at HBD
     have hjl:j<k:=by rw[<-hj];exact Nat.mod_lt _ (by omega)
     have HJL:=aZ hjl
     have HTK:=aZ htk
     have hl0:¬(k:Int)=0:=by omega
     have hl0n:¬k=0:=by omega
     have hji:(j:Int)<k:=by omega
     have hrt:(lk:Int).tmod k=(j:Int):=by rw[Int.tmod_eq_emod_of_nonneg (by omega),<-Int.natCast_emod,hj]
     have hre:(lk:Int)%k=(j:Int):=by rw[<-Int.natCast_emod,hj]
     have hlw:IntKind.i64.wrap ((k:Int)-t)=(lk:Int):=by rw[IntKind.wrap_i64];omega
     have HWF:Hid ((lk:Int).tmod k=(j:Int)/\(lk:Int)%k=(j:Int)/\IntKind.i64.wrap ((k:Int)-t)=(lk:Int)):=aZ ⟨hrt,hre,hlw⟩
     have hsqi:(sq:Int)<=65536:=by omega
     have HSI:Hid (-65536<=(sq:Int)/\(sq:Int)<=65536/\-65536<=-(sq:Int)/\-(sq:Int)<=65536):=aZ (by omega)
     obtain⟨_,_,u,e,cX,cY,hu⟩:=HXW.out t hlt
     cases e
     have HXC:=aZ (And.intro cX cY)
     have HXU:=aZ hu
     clear cX cY hu
     have HC1:=aZ c1
     have c1:=on_cell HH.out.mem HST1.out hb HC1.out
     obtain⟨y1,y2,y3,-⟩:=HSD.out wq hb
     clear hsq hsq2 hsqe hlk hj hjl htk hrt hre hlw
     have hww:wrap64 (-(sq:Int))=-(sq:Int):=by unfold wrap64;omega
     go_wp2_with fail
     refine(withC_r HH.out s HS.out sq n2 _ HSI.out.1 HSI.out.2.1 HN2.out.2.1 HN2.out.2.2.1 hb.out.st).mono ?_
     rintro z w2 ⟨⟨qc,rfl,hqc⟩,hb2⟩
     rw[hCv] at hqc
     have HQC:=aZ hqc
     obtain⟨u0,r1,r2,r3,r4,-⟩:=(hrh.out.keep HH.out.mem hb2 hb.out.st).row t hlt
     have H3:=aZ (rows3 HH.out.mem hrh.out hra.out hrb.out hb.out hb2 HGH.out.1 hlt qc HGH.out.2.1 HGH.out.2.2)
     unfold putC at H3
     clear hb2 y1 y2 y3 c1 hrh hra hrb hqc
     go_upto_region 14 with(fail)
     obtain⟨wA,hwA⟩:∃wA,wA=(w2.setCell ⟨gh,t*2,none⟩ (.float .f64 qc.1)).setCell ⟨gh,t*2+1,none⟩ (.float .f64 qc.2):=⟨_,rfl⟩
     rw[<-hwA] at H3|-
     have HUA:=aZ H3.out.2.2.2
     have HCH:Hid (wA.cell? ⟨gh,t*2,none⟩=some (.float .f64 qc.1)/\wA.cell? ⟨gh,t*2+1,none⟩=some (.float .f64 qc.2)):=aZ (by
      have e1:=World.cell?_setCell_same (w2.setCell ⟨gh,t*2,none⟩ (.float .f64 qc.1)) ⟨gh,t*2+1,none⟩ (.float .f64 qc.2) (u:=.float .f64 u0.2) (by rw[World.cell?_setCell_other _ _ _ _ (λe=>by have:=congrArg Addr.off e;simp at this)];exact r2)
      have e2:=World.cell?_setCell_same w2 ⟨gh,t*2,none⟩ (.float .f64 qc.1) r1
      rw[hwA]
      exact⟨by rw[World.cell?_setCell_other _ _ _ _ (λe=>by have:=congrArg Addr.off e;simp at this)];exact e2,e1⟩)
     clear hwA r1 r2 r3 r4
     have HSF:Hid (∀w',Hid (M.On wA w')->(w'.cell? ⟨bX,oX+t*2,none⟩=some (.float .f64 u.1)/\w'.cell? ⟨bX,oX+t*2+1,none⟩=some (.float .f64 u.2)/\w'.cell? ⟨gh,t*2,none⟩=some (.float .f64 qc.1)/\w'.cell? ⟨gh,t*2+1,none⟩=some (.float .f64 qc.2)/\w'.cell? ⟨bR,0,none⟩=some (.iface ρ.t ρ.v)/\Hid (M.On wA w'))):=aZ (λw' h=>by
      exact⟨on_cell HH.out.mem HST.out (aZ ((HO1.out.trans HH.out.mem HUA.out).trans HH.out.mem h.out)) HXC.out.1,on_cell HH.out.mem HST.out (aZ ((HO1.out.trans HH.out.mem HUA.out).trans HH.out.mem h.out)) HXC.out.2,on_cell HH.out.mem HUA.out.st h HCH.out.1,on_cell HH.out.mem HUA.out.st h HCH.out.2,(HSD.out w' (aZ (HUA.out.trans HH.out.mem h.out))).1,h⟩)
     have e1:=HH.out.nm
     have e2:=HH.out.mm
     have e3:=HH.out.cm
     refine wp_region_S (λw'=>(w'.cell? ⟨bX,oX+t*2,none⟩=some (.float .f64 u.1)/\w'.cell? ⟨bX,oX+t*2+1,none⟩=some (.float .f64 u.2)/\w'.cell? ⟨gh,t*2,none⟩=some (.float .f64 qc.1)/\w'.cell? ⟨gh,t*2+1,none⟩=some (.float .f64 qc.2)/\w'.cell? ⟨bR,0,none⟩=some (.iface ρ.t ρ.v)/\Hid (M.On wA w'))) 15 (by kernel_rfl) ?_
     have hS0:=HSF.out _ (aZ ((HH.out.mem.on_refl HUA.out.st).drew HH.out.mem))
     refine Takes.intro [0,1,2,3,4,5,6,7,8,9,10,11,12,13] ?_
     repeat(refine Takes.go (v:=?_) hS0 ?_;try simp only[nrm,Act.put])
     refine Takes.nil ?_
     refine wpAnyS_1 14 (λK hK=>?_)
     go_simp
     have HV0:=aZ ((HH.out.mem.on_refl HUA.out.st).drew HH.out.mem)
     refine(HH.out.mul _ _ _ HV0.out.st).mono ?_
     rintro z w3 ⟨⟨qa,rfl,hqa⟩,hb2⟩
     have HV1:Hid (M.On wA w3):=aZ (HV0.out.trans HH.out.mem hb2)
     have hS1:=HSF.out _ HV1
     clear hb2
     refine hK.out _ _ (λ_=>hS1) ?_
     clear hK K
     try simp only[nrm,Act.put]
     refine wpAnyS_fin 2 15 ?_
     simp only[nrd]
     have HQA:Hid (nC qa=ρ.R.mul (x t) Cv):=aZ (by rw[hqa,HXU.out,HQC.out])
     obtain⟨u0,r1,r2,r3,r4,-⟩:=(H3.out.2.1.keep HH.out.mem HV1.out HUA.out.st).row t HTK.out
     have H4:=aZ (rows3 HH.out.mem H3.out.2.1 H3.out.1 H3.out.2.2.1 HUA.out HV1.out HGE.out.1 HTK.out qa (Ne.symm HGH.out.2.1) (Ne.symm HGE.out.2.2))
     unfold putC at H4
     clear hS0 hS1 HV0 H3 HCH HSF e1 e2 e3 hqa
     go_upto_region 15 with(fail)
     obtain⟨wB,hwB⟩:∃wB,wB=(w3.setCell ⟨ga,t*2,none⟩ (.float .f64 qa.1)).setCell ⟨ga,t*2+1,none⟩ (.float .f64 qa.2):=⟨_,rfl⟩
     rw[<-hwB] at H4|-
     have HUB:=aZ H4.out.2.2.2
     clear hwB r1 r2 r3 r4 HV1 HUA
     obtain⟨y1,y2,y3,-⟩:=HSD.out wB HUB
     go_wp2_with fail
     refine(withC_r HH.out s HS.out (-(sq:Int)) n2 _ HSI.out.2.2.1 HSI.out.2.2.2 HN2.out.2.1 HN2.out.2.2.1 HUB.out.st).mono ?_
     rintro z w4 ⟨⟨qd,rfl,hqd⟩,hb4⟩
     rw[hDv] at hqd
     have HQD:=aZ hqd
     obtain⟨u0,r1,r2,r3,r4,-⟩:=(H4.out.2.2.1.keep HH.out.mem hb4 HUB.out.st).row t HTK.out
     have H5:=aZ (rows3 HH.out.mem H4.out.2.2.1 H4.out.2.1 H4.out.1 HUB.out hb4 HGE.out.2.1 HTK.out qd (Ne.symm HGH.out.2.2) HGE.out.2.2)
     unfold putC at H5
     clear hb4 y1 y2 y3 H4 HUB hww hqd
     go_upto_region 16 with(fail)
     obtain⟨wC,hwC⟩:∃wC,wC=(w4.setCell ⟨gb,t*2,none⟩ (.float .f64 qd.1)).setCell ⟨gb,t*2+1,none⟩ (.float .f64 qd.2):=⟨_,rfl⟩
     rw[<-hwC] at H5|-
     have HUC:=aZ H5.out.2.2.2
     have HCB:Hid (wC.cell? ⟨gb,t*2,none⟩=some (.float .f64 qd.1)/\wC.cell? ⟨gb,t*2+1,none⟩=some (.float .f64 qd.2)):=aZ (by
      have e1:=World.cell?_setCell_same (w4.setCell ⟨gb,t*2,none⟩ (.float .f64 qd.1)) ⟨gb,t*2+1,none⟩ (.float .f64 qd.2) (u:=.float .f64 u0.2) (by rw[World.cell?_setCell_other _ _ _ _ (λe=>by have:=congrArg Addr.off e;simp at this)];exact r2)
      have e2:=World.cell?_setCell_same w4 ⟨gb,t*2,none⟩ (.float .f64 qd.1) r1
      rw[hwC]
      exact⟨by rw[World.cell?_setCell_other _ _ _ _ (λe=>by have:=congrArg Addr.off e;simp at this)];exact e2,e1⟩)
     clear hwC r1 r2 r3 r4
     obtain⟨hrt,hre,hlw⟩:=HWF.out
     refine wp_region_T (λw'=>w'.cell? ⟨gb,t*2,none⟩=some (.float .f64 qd.1)/\w'.cell? ⟨gb,t*2+1,none⟩=some (.float .f64 qd.2)/\Hid (M.On wC w')) 10 ⟨by simpa using HCB.out.1,by simpa using HCB.out.2,aZ ((HH.out.mem.on_refl HUC.out.st).drew HH.out.mem)⟩ (λhS0=>?_)
     refine Takes.intro [0,1,2,3,4,5,6,7,8,9] ?_
     repeat(refine Takes.go (v:=?_) hS0 ?_;try simp only[nrm,Act.put])
     refine Takes.nil ?_
     refine wpAnyS_fin 2 10 ?_
     simp only[nrd]
     have HD:=aZ ((HH.out.mem.on_refl HUC.out.st).drew HH.out.mem)
     obtain⟨u0,r1,r2,r3,r4,-⟩:=(H5.out.1.keep HH.out.mem HD.out HUC.out.st).row j HJL.out
     have q1:wC.cell? ⟨gb,j*2,none⟩=some (.float .f64 u0.1):=r1
     have q2:wC.cell? ⟨gb,j*2+1,none⟩=some (.float .f64 u0.2):=r2
     have q3:wC.frozen? ⟨gb,j*2,none⟩=false:=r3
     have q4:wC.frozen? ⟨gb,j*2+1,none⟩=false:=r4
     have H6:=aZ (rows3 HH.out.mem H5.out.1 H5.out.2.1 H5.out.2.2.1 HUC.out HD.out HGE.out.2.1 HJL.out qd (Ne.symm HGH.out.2.2) HGE.out.2.2)
     clear hS0 HD H5 HUC HCB hrt hre hlw
     go_wp2
     exact⟨⟨t+1,by omega,by go_num,aZ (H6.out.2.1.nextC (HQC.out.trans HBC.out.symm)),aZ (H6.out.2.2.1.congr λi _=>by rw[HQA.out];exact HAN.out i),aZ (by rw[HBD.out,<-HQD.out];exact H6.out.1),aZ H6.out.2.2.2,trivial⟩,by simp[intOf];omega⟩
    ·obtain rfl:t=n:=by omega
     have HCV:=aZ hrh.out.full
     have HT2:Hid (1<=2*t/\2*t<=65536):=aZ (by have:=HN2.out;omega)
     have htk:t<=k:=HN2.out.2.2.2.2.2.1
     have HOQ:=aZ (HO1.out.trans HH.out.mem hb.out)
     clear hrh
     go_upto_region 18 with(fail)
     refine wp_region_S (λw'=>(w'.cell? ⟨bR,0,none⟩=some (.iface ρ.t ρ.v)/\w'.cell? ⟨bR,1,none⟩=some (.int .i64 s)/\w'.cell? ⟨bP,0,none⟩=some (.int .i64 4)/\w'.cell? ⟨bP,1,none⟩=some (.int .i64 t)/\w'.cell? ⟨bP,2,none⟩=some (.int .i64 0)/\w'.cell? ⟨bP,3,none⟩=some (.slice (some ⟨bA,oA,none⟩) 1 c)/\w'.cell? ⟨bA,oA,none⟩=some (.int .i64 a0)/\w'.cell? ⟨bA,oA+1,none⟩=some (.int .i64 k)/\w'.cell? ⟨bA,oA+2,none⟩=some (.int .i64 r0)/\w'.cell? ⟨bA,oA+3,none⟩=some (.slice B0 q0.len c0)/\Hid (M.On W w'))) 14 (by kernel_rfl) ?_
     have hS0:=HSB.out _ (aZ (HO1.out.trans HH.out.mem (hb.out.drew HH.out.mem)))
     refine Takes.intro [0,1,2,3,4,5,6,7,8,10,11,13] ?_
     repeat(refine Takes.go (v:=?_) hS0 ?_;try simp only[nrm,Act.put])
     refine Takes.nil ?_
     refine wpAnyS_1 9 (λK hK=>?_)
     go_simp
     have HU0:=aZ (hb.out.drew HH.out.mem)
     have HX0:=aZ ((HH.out.mem.on_refl hb.out.st).drew HH.out.mem)
     refine(ConvC_r HH.out s a0 r0 q0 k Kf HP0.out HN2.out.2.2.2.1 HN2.out.2.2.2.2.1 _ _ _ _ _ _ _ _ _ (HKW.out.keep' HH.out.mem (HO1.out.trans HH.out.mem HU0.out) HST.out) (hra.out.keep HH.out.mem HX0.out hb.out.st).cs (hrb.out.keep HH.out.mem HX0.out hb.out.st).cs HU0.out.st).mono ?_
     rintro z w5 ⟨gc,rfl,-,hc,hb3⟩
     have HC:=aZ hc
     have HU1:=aZ (HU0.out.trans HH.out.mem hb3)
     have HX1:=aZ (HX0.out.trans HH.out.mem hb3)
     have hS1:=HSB.out _ (aZ (HO1.out.trans HH.out.mem HU1.out))
     clear hb3 hc
     refine hK.out _ _ (λ_=>hS1) ?_
     clear hK K
     try simp only[nrm,Act.put]
     refine Takes.intro [12] ?_
     repeat(refine Takes.go (v:=?_) hS1 ?_;try simp only[nrm,Act.put])
     refine Takes.nil ?_
     refine wpAnyS_fin 2 14 ?_
     simp only[nrd]
     go_wp2_with fail
     refine(TimesC_r HH.out (some ⟨gc,0,none⟩) (some ⟨gh,0,none⟩) t k t _ _ _ (cs_part0 HC.out.cs 0 t (by have:=HN2.out.2.2.2.2.2.1;omega)) (HCV.out.keep HH.out.mem HX1.out hb.out.st).cs HN2.out.2.2.2.2.2.2 HU1.out.st).mono ?_
     rintro z w6 ⟨rfl,ho6,hb6⟩
     have HF:Hid (OwnC M w6 w5.heap.size t (blueF ρ.R t k Kf s x)):=aZ (ho6.congr λi _=>by unfold blueF timesF gathT;rw[Nat.zero_add,Nat.mul_one])
     have HU6:=aZ (HU1.out.trans HH.out.mem hb6)
     have HG:Hid (w.heap.size<=w5.heap.size):=aZ (by have:=HH.out.mem.size HU1.out.fr;have:=HH.out.mem.size HO1.out.fr;have:=HZ.out;omega)
     clear ho6 hb6 hS0 hS1 HU0 HX0 HU1 HX1 HC
     go_wp2
     go_ret
     exact⟨_,rfl,HG.out,HF.out,(HON.out.trans HH.out.mem HO1.out).trans HH.out.mem HU6.out⟩
end
end Go.Proofs.YtfedabinindpbaaGreat
