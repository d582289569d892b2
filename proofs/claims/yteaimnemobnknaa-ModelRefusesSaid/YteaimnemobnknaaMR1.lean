/- Rings as values behind the interface: any ring of integers whose methods keep memory in good order; words for memory beside such a ring. -/
import Derived.Test.YteaimnemobnknaaMW2
import Derived.Test.YteaimnemobnknaaRM
import Derived.Test.YteaimnemobnknaaX0
import Derived.Test.YteaimnemobnknaaZ3
import Derived.Test.YteaimnemobnknaaRK
set_option linter.unusedSimpArgs false
set_option linter.unusedVariables false
set_option maxRecDepth 100000
set_option maxHeartbeats 4000000
namespace Go.Proofs.Yteaimnemobnknaa
open Go.RowKit Go.Lib
section
variable {M : Mem}
structure Own(M:Mem)(w:World)(b n:Nat)(f:Nat->Int):Prop where
 row:Row w b n f
 lt:b<w.heap.size
 pv:¬M.Pv w b
theorem Own.keep(H:M.Ok){w w':World}{b n:Nat}{f:Nat->Int}(h:Own M w b n f)(k:M.On w w')(hs:M.St w):Own M w' b n f:=
 ⟨λi hi=>⟨H.cell hs k.fr (h.row i hi).1,by rw[H.free hs k.fr (h.row i hi).1];exact(h.row i hi).2⟩,Nat.lt_of_lt_of_le h.lt (H.size k.fr),H.pv hs k.fr h.lt h.pv⟩
theorem IntsAt.keepM(H:M.Ok){w w':World}{A:Option Addr}{n:Nat}{f:Nat->Int}(h:IntsAt w A n f)(k:M.On w w')(hs:M.St w):IntsAt w' A n f:=λi hi=>by
 obtain⟨b,o,e,hc⟩:=h i hi
 exact⟨b,o,e,H.cell hs k.fr hc⟩
theorem Own.write(H:M.Ok){D w w':World}{b n:Nat}{f g:Nat->Int}(h:Own M w b n f)(k:M.On D w)(hD:D.heap.size<=b)(ho:OnlyB b w w')(hr:Row w' b n g):Own M w' b n g/\M.On D w':=by
 have h1:=H.only k.st k.fr hD h.pv ho
 exact⟨⟨hr,Nat.lt_of_lt_of_le h.lt ho.size,H.onlypv k.st h.pv ho h.lt h.pv⟩,⟨h1.1,h1.2⟩⟩
theorem Own.set(H:M.Ok){D w:World}{b n:Nat}{f:Nat->Int}(h:Own M w b n f)(k:M.On D w)(hD:D.heap.size<=b){j:Nat}(hj:j<n)(v:Int):
  Own M (w.setCell ⟨b,j,none⟩ (.int .i64 v)) b n (updT f j v)/\M.On D (w.setCell ⟨b,j,none⟩ (.int .i64 v)):=h.write H k hD ((OnlyB.refl b w).setCell _ _ _) (h.row.set hj v)
theorem Own.make(H:M.Ok){D w:World}(k:M.On D w)(n:Nat)(t:TypeId):Own M (w.alloc (.cells (zs n) t)) w.heap.size n (λ_=>0)/\M.On D (w.alloc (.cells (zs n) t)):=
 ⟨⟨zs_row n w t,by simp,H.new k.st ((Below.refl _ w).alloc (Nat.le_refl _) _) (Nat.le_refl _)⟩,k.below H ((Below.refl _ w).alloc (Nat.le_refl _) _)⟩
theorem Own.congr{w:World}{b n:Nat}{f g:Nat->Int}(h:Own M w b n f)(e:∀i,i<n->f i=g i):Own M w b n g:=⟨h.row.congr e,h.lt,h.pv⟩
theorem Own.ints{w:World}{b n:Nat}{f:Nat->Int}(h:Own M w b n f):IntsAt w (some ⟨b,0,none⟩) n f:=h.row.ints
theorem Own.other(H:M.Ok){w w':World}{b n g:Nat}{f:Nat->Int}(h:Own M w b n f)(hs:M.St w)(hg:¬M.Pv w g)(ho:OnlyB g w w')(hne:b≠g):Own M w' b n f:=
 ⟨h.row.only ho hne,Nat.lt_of_lt_of_le h.lt ho.size,H.onlypv hs hg ho h.lt h.pv⟩
theorem IntsAt.other{w:World}{g j n:Nat}{A:Option Addr}{f:Nat->Int}{v:Value}(h:IntsAt w A n f)(hne:∀b o,A=some ⟨b,o,none⟩->b≠g):IntsAt (w.setCell ⟨g,j,none⟩ v) A n f:=
 h.only ((OnlyB.refl g w).setCell _ _ _) hne
def upTo(k:Nat)(G:Nat->Int):Nat->Int:=λx=>if x<k then G x else 0
theorem Own.next{w:World}{b n k:Nat}{G:Nat->Int}(h:Own M w b n (updT (upTo k G) k (G k))):Own M w b n (upTo (k+1) G):=h.congr λi _=>by
 unfold updT upTo
 by_cases e:i=k
 ·rw[if_pos e,if_pos (by omega),e]
 ·rw[if_neg e]
  by_cases e2:i<k
  ·simp[e2,show i<k+1 from by omega]
  ·simp[e2,show ¬i<k+1 from by omega]
theorem Own.full{w:World}{b n:Nat}{G:Nat->Int}(h:Own M w b n (upTo n G)):Own M w b n G:=h.congr λi hi=>by unfold upTo;rw[if_pos hi]
theorem Own.empty{w:World}{b n:Nat}{G:Nat->Int}(h:Own M w b n (λ_=>0)):Own M w b n (upTo 0 G):=h.congr λi hi=>by unfold upTo;rw[if_neg (by omega)]
end
structure RingV where
 t:TypeId
 v:Value
 fz:FuncId
 fa:FuncId
 fs:FuncId
 fm:FuncId
 fo:FuncId
 fr:FuncId
 R:Rg Int
 In:Int->Prop
def RingV.val(ρ:RingV):Value:=.iface ρ.t ρ.v
structure RingV.Ok(M:Mem)(ρ:RingV):Prop where
 mem:M.Ok
 nz:∀w,(nilAhead 292 ρ.t ρ.v "Zero").run Try.prog w=.ok (some false) w
 mz:∀w,(method 292 ρ.t ρ.v "Zero").run Try.prog w=.ok (ρ.fz,ρ.v) w
 na:∀w,(nilAhead 292 ρ.t ρ.v "Add").run Try.prog w=.ok (some false) w
 ma:∀w,(method 292 ρ.t ρ.v "Add").run Try.prog w=.ok (ρ.fa,ρ.v) w
 ns:∀w,(nilAhead 292 ρ.t ρ.v "Sub").run Try.prog w=.ok (some false) w
 ms:∀w,(method 292 ρ.t ρ.v "Sub").run Try.prog w=.ok (ρ.fs,ρ.v) w
 nm:∀w,(nilAhead 292 ρ.t ρ.v "Mul").run Try.prog w=.ok (some false) w
 mm:∀w,(method 292 ρ.t ρ.v "Mul").run Try.prog w=.ok (ρ.fm,ρ.v) w
 no:∀w,(nilAhead 292 ρ.t ρ.v "Over").run Try.prog w=.ok (some false) w
 mo:∀w,(method 292 ρ.t ρ.v "Over").run Try.prog w=.ok (ρ.fo,ρ.v) w
 nr:∀w,(nilAhead 292 ρ.t ρ.v "Root").run Try.prog w=.ok (some false) w
 mr:∀w,(method 292 ρ.t ρ.v "Root").run Try.prog w=.ok (ρ.fr,ρ.v) w
 cz:∀(args:Array Value) w,(callFunc ρ.fz args).run Try.prog w=.ok (.enter ρ.fz args) w
 ca:∀(args:Array Value) w,(callFunc ρ.fa args).run Try.prog w=.ok (.enter ρ.fa args) w
 cs:∀(args:Array Value) w,(callFunc ρ.fs args).run Try.prog w=.ok (.enter ρ.fs args) w
 cm:∀(args:Array Value) w,(callFunc ρ.fm args).run Try.prog w=.ok (.enter ρ.fm args) w
 co:∀(args:Array Value) w,(callFunc ρ.fo args).run Try.prog w=.ok (.enter ρ.fo args) w
 cr:∀(args:Array Value) w,(callFunc ρ.fr args).run Try.prog w=.ok (.enter ρ.fr args) w
 zero:∀w,M.St w->Calls Try.prog ρ.fz #[ρ.v] w λz w'=>z=.returned (.int .i64 ρ.R.zero)/\M.On w w'
 add:∀a b w,ρ.In a->ρ.In b->M.St w->Calls Try.prog ρ.fa #[ρ.v,.int .i64 a,.int .i64 b] w λz w'=>z=.returned (.int .i64 (ρ.R.add a b))/\M.On w w'
 sub:∀a b w,ρ.In a->ρ.In b->M.St w->Calls Try.prog ρ.fs #[ρ.v,.int .i64 a,.int .i64 b] w λz w'=>z=.returned (.int .i64 (ρ.R.sub a b))/\M.On w w'
 mul:∀a b w,ρ.In a->ρ.In b->M.St w->Calls Try.prog ρ.fm #[ρ.v,.int .i64 a,.int .i64 b] w λz w'=>z=.returned (.int .i64 (ρ.R.mul a b))/\M.On w w'
 over:∀a (n:Nat) w,ρ.In a->1<=n->n<=32768->M.St w->Calls Try.prog ρ.fo #[ρ.v,.int .i64 a,.int .i64 n] w λz w'=>z=.returned (.int .i64 (ρ.R.over a n))/\M.On w w'
 root:∀(k:Int) (n:Nat) w,-4294967296<=k->k<=4294967296->1<=n->n<=65536->M.St w->Calls Try.prog ρ.fr #[ρ.v,.int .i64 k,.int .i64 n] w λz w'=>z=.returned (.int .i64 (ρ.R.root k n))/\M.On w w'
 z0:ρ.R.zero=0
 iz:ρ.In ρ.R.zero
 ia:∀a b,ρ.In a->ρ.In b->ρ.In (ρ.R.add a b)
 is:∀a b,ρ.In a->ρ.In b->ρ.In (ρ.R.sub a b)
 im:∀a b,ρ.In a->ρ.In b->ρ.In (ρ.R.mul a b)
 io:∀a (n:Nat),ρ.In a->1<=n->n<=32768->ρ.In (ρ.R.over a n)
 ir:∀(k:Int) (n:Nat),1<=n->n<=65536->ρ.In (ρ.R.root k n)
def AllIn(ρ:RingV)(f:Nat->Int):Prop:=∀i,ρ.In (f i)
section
variable {M : Mem} {ρ : RingV}
theorem fold_in(H:ρ.Ok M)(f:Nat->Int)(hf:AllIn ρ f)(n:Nat):ρ.In (sumT ρ.R n f):=by
 unfold sumT
 induction n with
 |zero=>exact H.iz
 |succ n ih=>rw[foldT_succ];exact H.ia _ _ ih (hf n)
theorem times_in(H:ρ.Ok M){a b:Nat->Int}(ha:AllIn ρ a)(hb:AllIn ρ b):AllIn ρ (timesF ρ.R a b):=λi=>H.im _ _ (ha i) (hb i)
theorem over_in(H:ρ.Ok M){a:Nat->Int}(ha:AllIn ρ a)(n:Nat)(h1:1<=n)(h2:n<=32768):AllIn ρ (overF ρ.R a n):=λi=>H.io _ _ (ha i) h1 h2
theorem Sum_r(H:ρ.Ok M)(A:Option Addr)(n c:Nat)(f:Nat->Int)(w:World)(hA:IntsAt w A n f)(hf:AllIn ρ f)(hn:n<=17592186044416)(hw:M.St w):
  Calls Try.prog 67 #[.iface ρ.t ρ.v,.slice A n c] w λz w'=>z=.returned (.int .i64 (sumT ρ.R n f))/\M.On w w':=by
 have HH:=aZ H
 have HA:=aZ hA
 have HF:=aZ hf
 have HW:=aZ hw
 have e1:=H.nz
 have e2:=H.mz
 have e3:=H.na
 have e4:=H.ma
 have e5:=H.cz
 have e6:=H.ca
 clear hA hf hw H
 go_enter Try.func67,Try.ntmps67
 go_wp2_with fail
 refine(HH.out.zero _ HW.out).mono ?_
 rintro z w1 ⟨rfl,hb1⟩
 have HB1:=aZ hb1
 clear hb1
 go_wp2
 go_loopw [5,12] (λvs vi wr=>∃k:Nat,k<=n/\vi=.int .i64 k/\vs=.int .i64 (sumT ρ.R k f)/\Hid (M.On w wr)) (λ_ vi _=>n-(intOf vi).toNat)
 case atStart=>exact⟨0,by omega,rfl,rfl,HB1⟩
 case round=>
  clear HB1
  obtain⟨k,hk,rfl,rfl,hb⟩:=hrel
  by_cases hlt:k<n
  ·obtain⟨b,o,rfl,hc⟩:=HA.out.keepM HH.out.mem hb.out HW.out k hlt
   have hst:Hid (sumT ρ.R (k+1) f=ρ.R.add (sumT ρ.R k f) (f k)):=aZ rfl
   have hin:=aZ (fold_in HH.out f HF.out k)
   generalize sumT ρ.R k f=s at*
   have hki:(k:Int)<n:=by omega
   go_wp2_with fail
   refine(HH.out.add _ _ _ hin.out (HF.out k) hb.out.st).mono ?_
   rintro z w2 ⟨rfl,hb2⟩
   have HB2:=aZ (hb.out.trans HH.out.mem hb2)
   clear hb2
   go_wp2
   exact⟨⟨k+1,by omega,by go_num,by rw[hst.out],HB2⟩,by simp[intOf];omega⟩
  ·obtain rfl:k=n:=by omega
   go_wp2
   go_ret
   exact⟨rfl,hb.out⟩
theorem Over_r(H:ρ.Ok M)(A:Option Addr)(n c d:Nat)(f:Nat->Int)(w:World)(hA:IntsAt w A n f)(hf:AllIn ρ f)(hn:n<=17592186044416)(d1:1<=d)(d2:d<=32768)(hw:M.St w):
  Calls Try.prog 49 #[.iface ρ.t ρ.v,.slice A n c,.int .i64 d] w λz w'=>z=.returned (.slice (some ⟨w.heap.size,0,none⟩) n n)/\Own M w' w.heap.size n (overF ρ.R f d)/\M.On w w':=by
 have HH:=aZ H
 have HA:=aZ hA
 have HF:=aZ hf
 have HW:=aZ hw
 have e1:=H.no
 have e2:=H.mo
 have e3:=H.co
 have hmk:=mk_int64 n hn
 clear hA hf hw H
 go_enter Try.func49,Try.ntmps49
 go_wp2
 go_loopw [15] (λvi wr=>∃k:Nat,k<=n/\vi=.int .i64 k/\Hid (Own M wr w.heap.size n (upTo k (overF ρ.R f d)))/\Hid (M.On w wr)) (λvi _=>n-(intOf vi).toNat)
 case atStart=>
  obtain⟨h1,h2⟩:=Own.make HH.out.mem (HH.out.mem.on_refl HW.out) n 2
  exact⟨0,by omega,rfl,aZ h1.empty,aZ h2⟩
 case round=>
  obtain⟨k,hk,rfl,hr,hb⟩:=hrel
  by_cases hlt:k<n
  ·obtain⟨b,o,rfl,hc⟩:=HA.out.keepM HH.out.mem hb.out HW.out k hlt
   have hki:(k:Int)<n:=by omega
   go_wp2_with fail
   refine(HH.out.over _ _ _ (HF.out k) d1 d2 hb.out.st).mono ?_
   rintro z w2 ⟨rfl,hb2⟩
   have hr2:=hr.out.keep HH.out.mem hb2 hb.out.st
   have hb3:=hb.out.trans HH.out.mem hb2
   obtain⟨r1,r2⟩:=hr2.row k hlt
   have HN:=aZ (hr2.set HH.out.mem hb3 (Nat.le_refl _) hlt (ρ.R.over (f k) d))
   clear hb2 hr2 hb3
   go_wp2
   exact⟨⟨k+1,by omega,by go_num,aZ (HN.out.1.next),aZ HN.out.2⟩,by simp[intOf];omega⟩
  ·obtain rfl:k=n:=by omega
   have HR:=aZ hr.out.full
   go_wp2
   go_ret
   exact⟨rfl,HR.out,hb.out⟩
theorem on_cell(H:M.Ok){D w:World}(hD:M.St D)(k:Hid (M.On D w)){b o:Nat}{v:Value}(h:D.cell? ⟨b,o,none⟩=some v):w.cell? ⟨b,o,none⟩=some v:=H.cell hD k.out.fr h
theorem Times_r(H:ρ.Ok M)(A B:Option Addr)(n c c':Nat)(f h:Nat->Int)(w:World)(hA:IntsAt w A n f)(hB:IntsAt w B n h)(hf:AllIn ρ f)(hh:AllIn ρ h)(hn:n<=17592186044416)(hw:M.St w):
  Calls Try.prog 68 #[.iface ρ.t ρ.v,.slice A n c,.slice B n c'] w λz w'=>z=.returned (.slice (some ⟨w.heap.size,0,none⟩) n n)/\Own M w' w.heap.size n (timesF ρ.R f h)/\M.On w w':=by
 have HH:=aZ H
 have HA:=aZ hA
 have HB:=aZ hB
 have HF:=aZ hf
 have HG:=aZ hh
 have HW:=aZ hw
 have e1:=H.nm
 have e2:=H.mm
 have e3:=H.cm
 have hmk:=mk_int64 n hn
 clear hA hB hf hh hw H
 go_enter Try.func68,Try.ntmps68
 go_wp2
 go_loopw [20] (λvi wr=>∃k:Nat,k<=n/\vi=.int .i64 k/\Hid (Own M wr w.heap.size n (upTo k (timesF ρ.R f h)))/\Hid (M.On w wr)) (λvi _=>n-(intOf vi).toNat)
 case atStart=>
  obtain⟨h1,h2⟩:=Own.make HH.out.mem (HH.out.mem.on_refl HW.out) n 2
  exact⟨0,by omega,rfl,aZ h1.empty,aZ h2⟩
 case round=>
  obtain⟨k,hk,rfl,hr,hb⟩:=hrel
  by_cases hlt:k<n
  ·obtain⟨b,o,rfl,hc⟩:=HA.out.keepM HH.out.mem hb.out HW.out k hlt
   obtain⟨b',o',rfl,hc'⟩:=HB.out.keepM HH.out.mem hb.out HW.out k hlt
   have hki:(k:Int)<n:=by omega
   go_upto_region 7 with(fail)
   refine wp_region_T (λw'=>w'.cell? ⟨b',o'+k,none⟩=some (.int .i64 (h k))/\Hid (M.On wr w')) 12 ⟨hc',aZ ((HH.out.mem.on_refl hb.out.st).drew HH.out.mem)⟩ (λhS0=>?_)
   refine Takes.intro [0,1,2,3,4,5,6,7,8,9,10] ?_
   repeat(refine Takes.go (v:=?_) hS0 ?_;try simp only[nrm,Act.put])
   refine Takes.nil ?_
   refine wpAnyS_1 11 (λK hK=>?_)
   go_simp
   refine(HH.out.mul _ _ _ (HF.out k) (HG.out k) hS0.2.out.st).mono ?_
   rintro z w2 ⟨rfl,hb2⟩
   have HO:=aZ (hS0.2.out.trans HH.out.mem hb2)
   have hS1:w2.cell? ⟨b',o'+k,none⟩=some (.int .i64 (h k))/\Hid (M.On wr w2):=⟨on_cell HH.out.mem hb.out.st HO hc',HO⟩
   clear hb2
   refine hK.out _ _ (λ_=>hS1) ?_
   clear hK K
   try simp only[nrm,Act.put]
   refine wpAnyS_fin 2 12 ?_
   simp only[nrd]
   have hr2:=hr.out.keep HH.out.mem HO.out hb.out.st
   have hb3:=hb.out.trans HH.out.mem HO.out
   obtain⟨r1,r2⟩:=hr2.row k hlt
   have HN:=aZ (hr2.set HH.out.mem hb3 (Nat.le_refl _) hlt (ρ.R.mul (f k) (h k)))
   clear hr2 hb3 hS0 hS1
   go_wp2
   exact⟨⟨k+1,by omega,by go_num,aZ (HN.out.1.next),aZ HN.out.2⟩,by simp[intOf];omega⟩
  ·obtain rfl:k=n:=by omega
   have HR:=aZ hr.out.full
   go_wp2
   go_ret
   exact⟨rfl,HR.out,hb.out⟩
end
section
variable {M : Mem} {ρ : RingV}
theorem unit_wrap(s:Int)(k:Nat)(hk:k<=1073741824):IntKind.i64.wrap (unitI s*(k:Int))=unitI s*(k:Int)/\-1073741824<=unitI s*(k:Int)/\unitI s*(k:Int)<=1073741824:=by
 unfold unitI
 by_cases h:s<0
 ·rw[if_pos h,IntKind.wrap_i64];omega
 ·rw[if_neg h,IntKind.wrap_i64];omega
theorem dot_in(H:ρ.Ok M){n:Nat}(n1:1<=n)(n2:n<=65536)(s:Int){f:Nat->Int}(hf:AllIn ρ f)(j m:Nat):ρ.In (dotF ρ.R n s f j m):=by
 unfold dotF
 induction m with
 |zero=>exact H.iz
 |succ m ih=>rw[foldT_succ];exact H.ia _ _ ih (H.im _ _ (hf m) (H.ir _ _ n1 n2))
theorem direct_in(H:ρ.Ok M){n:Nat}(n1:1<=n)(n2:n<=65536)(s:Int){f:Nat->Int}(hf:AllIn ρ f):AllIn ρ (directF ρ.R n s f):=λj=>dot_in H n1 n2 s hf j n
theorem dot_step(R:Rg Int)(n:Nat)(s:Int)(f:Nat->Int)(j m:Nat):dotF R n s f j (m+1)=R.add (dotF R n s f j m) (R.mul (f m) (R.root (unitI s*((j*m%n:Nat):Int)) n)):=rfl
def rootsF(R:Rg Int)(n:Nat)(s:Int):Nat->Int:=λx=>R.root (unitI s*(x:Int)) n
theorem Direct_r(H:ρ.Ok M)(A:Option Addr)(n c:Nat)(s:Int)(f:Nat->Int)(w:World)(hA:IntsAt w A n f)(hf:AllIn ρ f)(hn:n<=32768)(hw:M.St w):
  Calls Try.prog 83 #[.iface ρ.t ρ.v,.slice A n c,.int .i64 s] w λz w'=>∃g,z=.returned (.slice (some ⟨g,0,none⟩) n n)/\w.heap.size<=g/\Own M w' g n (directF ρ.R n s f)/\M.On w w':=by
 have HH:=aZ H
 have HU:=aZ (unit_any s)
 have HA:=aZ hA
 have HF:=aZ hf
 have HW:=aZ hw
 have hmk:=mk_int64 n (by omega)
 have e1:=H.nz
 have e2:=H.mz
 have e3:=H.cz
 have e4:=H.nr
 have e5:=H.mr
 have e6:=H.cr
 have e7:=H.nm
 have e8:=H.mm
 have e9:=H.cm
 have e10:=H.na
 have e11:=H.ma
 have e12:=H.ca
 clear hA hf hw H
 go_enter Try.func83,Try.ntmps83
 go_wp2
 go_loopw [19] (λvi wr=>∃k:Nat,k<=n/\vi=.int .i64 k/\Hid (Own M wr w.heap.size n (upTo k (rootsF ρ.R n s)))/\Hid (M.On w wr)) (λvi _=>n-(intOf vi).toNat)
 case atStart=>
  obtain⟨h1,h2⟩:=Own.make HH.out.mem (HH.out.mem.on_refl HW.out) n 2
  exact⟨0,by omega,rfl,aZ h1.empty,aZ h2⟩
 case round=>
  obtain⟨k,hk,rfl,hr,hb⟩:=hrel
  by_cases hlt:k<n
  ·have hki:(k:Int)<n:=by omega
   obtain⟨hw,hw1,hw2⟩:=unit_wrap s k (by omega)
   have HX:Hid (-1073741824<=unitI s*(k:Int)/\unitI s*(k:Int)<=1073741824):=aZ ⟨hw1,hw2⟩
   go_upto_region 6 with(fail)
   refine wp_region_S (λw'=>Hid (M.On wr w')) 12 (by kernel_rfl) ?_
   have hS0:=aZ ((HH.out.mem.on_refl hb.out.st).drew HH.out.mem)
   refine Takes.intro [0,1,2,3,5,7,8,9,10] ?_
   repeat(refine Takes.go (v:=?_) hS0 ?_;try simp only[Act.put,List.setIfInBounds_toArray,List.set_cons_zero,List.set_cons_succ])
   refine Takes.nil ?_
   refine wpAnyS_1 4 (λK hK=>?_)
   go_simp
   refine(HU.out _).mono ?_
   rintro z w2 ⟨rfl,rfl⟩
   have hS1:=hS0
   refine hK.out _ _ (λ_=>hS1) ?_
   clear hK K
   try simp only[Act.put,List.setIfInBounds_toArray,List.set_cons_zero,List.set_cons_succ]
   refine Takes.intro [6] ?_
   repeat(refine Takes.go (v:=?_) hS1 ?_;try simp only[Act.put,List.setIfInBounds_toArray,List.set_cons_zero,List.set_cons_succ])
   refine Takes.nil ?_
   refine wpAnyS_1 11 (λK hK=>?_)
   go_simp
   refine(HH.out.root _ _ _ (by have:=HX.out;omega) (by have:=HX.out;omega) (by omega) (by omega) hS1.out.st).mono ?_
   rintro z w2 ⟨rfl,hb2⟩
   have hS2:Hid (M.On wr w2):=aZ (hS1.out.trans HH.out.mem hb2)
   clear hb2
   refine hK.out _ _ (λ_=>hS2) ?_
   clear hK K
   try simp only[Act.put,List.setIfInBounds_toArray,List.set_cons_zero,List.set_cons_succ]
   refine wpAnyS_fin 2 12 ?_
   simp only[nrd]
   have hr2:=hr.out.keep HH.out.mem hS2.out hb.out.st
   have hb3:=hb.out.trans HH.out.mem hS2.out
   obtain⟨r1,r2⟩:=hr2.row k hlt
   have HN:=aZ (hr2.set HH.out.mem hb3 (Nat.le_refl _) hlt (ρ.R.root (unitI s*(k:Int)) n))
   clear hr2 hb3 hS0 hS1 hS2
   go_wp2
   exact⟨⟨k+1,by omega,by go_num,aZ (HN.out.1.next (G:=rootsF ρ.R n s)),aZ HN.out.2⟩,by simp[intOf];omega⟩
  ·obtain rfl:k=n:=by omega
   have HR1:Hid (Own M wr w.heap.size k (rootsF ρ.R k s)):=aZ hr.out.full
   obtain⟨W1,hW1⟩:∃W1,W1=wr:=⟨_,rfl⟩
   rw[<-hW1] at hb HR1|-
   clear hr hW1
   have HA1:=aZ (HA.out.keepM HH.out.mem hb.out HW.out)
   have HS1:=aZ hb.out.st
   go_wp2
   go_loopw [40] (λvj wx=>∃j:Nat,j<=k/\vj=.int .i64 j/\Hid (Own M wx W1.heap.size k (upTo j (directF ρ.R k s f)))/\Hid (M.On W1 wx)) (λvj _=>k-(intOf vj).toNat)
   case atStart=>
    obtain⟨h1,h2⟩:=Own.make HH.out.mem (HH.out.mem.on_refl HS1.out) k 2
    exact⟨0,by omega,rfl,aZ h1.empty,aZ h2⟩
   case round=>
    rename World=>wx
    obtain⟨j,hj,rfl,hrj,hbj⟩:=hrel
    by_cases hjt:j<k
    ·have hji:(j:Int)<k:=by omega
     go_wp2_with fail
     refine(HH.out.zero _ hbj.out.st).mono ?_
     rintro z w2 ⟨rfl,hb2⟩
     have hr2:=hrj.out.keep HH.out.mem hb2 hbj.out.st
     have hb3:=hbj.out.trans HH.out.mem hb2
     obtain⟨r1,r2⟩:=hr2.row j hjt
     have HN:=aZ (hr2.set HH.out.mem hb3 (Nat.le_refl _) hjt ρ.R.zero)
     clear hb2 hr2 hb3 hrj hbj
     go_wp2
     go_loopw [50] (λvm wy=>∃m:Nat,m<=k/\vm=.int .i64 m/\Hid (Own M wy W1.heap.size k (updT (upTo j (directF ρ.R k s f)) j (dotF ρ.R k s f j m)))/\Hid (M.On W1 wy)) (λvm _=>k-(intOf vm).toNat)
     case atStart=>exact⟨0,by omega,rfl,aZ HN.out.1,aZ HN.out.2⟩
     case round=>
      clear HN r1 r2
      rename World=>wy
      obtain⟨m,hm,rfl,hrm,hbm⟩:=hrel
      by_cases hmt:m<k
      ·have hmi:(m:Int)<k:=by omega
       obtain⟨b,o,rfl,hcx⟩:=HA1.out.keepM HH.out.mem hbm.out HS1.out m hmt
       have hjm:j*m<=32768*32768:=Nat.mul_le_mul (by omega) (by omega)
       have hrk:j*m%k<k:=Nat.mod_lt _ (by omega)
       have HDs:=aZ (dot_step ρ.R k s f j m)
       have HDi:=aZ (dot_in HH.out (n:=k) (by omega) (by omega) s HF.out j m)
       obtain⟨x,hx⟩:∃x,j*m=x:=⟨_,rfl⟩
       rw[hx] at hjm hrk HDs
       obtain⟨r,hr⟩:∃r,x%k=r:=⟨_,rfl⟩
       rw[hr] at hrk HDs
       obtain⟨c1,-⟩:=(HR1.out.keep HH.out.mem hbm.out HS1.out).row r hrk
       have HRi:Hid (ρ.In (rootsF ρ.R k s r)):=aZ (HH.out.ir _ _ (by omega) (by omega))
       have HDs:Hid (dotF ρ.R k s f j (m+1)=ρ.R.add (dotF ρ.R k s f j m) (ρ.R.mul (f m) (rootsF ρ.R k s r))):=HDs
       obtain⟨q,hq⟩:∃q,rootsF ρ.R k s r=q:=⟨_,rfl⟩
       rw[hq] at c1 HDs HRi
       obtain⟨dd,hdd⟩:∃dd,dotF ρ.R k s f j m=dd:=⟨_,rfl⟩
       rw[hdd] at HDs HDi hrm
       obtain⟨c2,c3⟩:=hrm.out.row j hjt
       have hdj:updT (upTo j (directF ρ.R k s f)) j dd j=dd:=by unfold updT;rw[if_pos rfl]
       rw[hdj] at c2
       have hw1:IntKind.i64.wrap ((j:Int)*m)=(x:Int):=by rw[<-Int.natCast_mul,hx];exact wrapI_nat x (by omega)
       have hk0:¬(k:Int)=0:=by omega
       have hk0n:¬k=0:=by omega
       have hri:(r:Int)<k:=by omega
       have hr0:(0:Int)<=r:=by omega
       have hrt:(x:Int).tmod k=(r:Int):=by rw[Int.tmod_eq_emod_of_nonneg (by omega),<-Int.natCast_emod,hr]
       have hre:(x:Int)%k=(r:Int):=by rw[<-Int.natCast_emod,hr]
       clear hx hq hdd hjm hdj
       go_upto_region 16 with(fail)
       refine wp_region_T (λw'=>w'.cell? ⟨b,o+m,none⟩=some (.int .i64 (f m))/\w'.cell? ⟨w.heap.size,r,none⟩=some (.int .i64 q)/\w'.cell? ⟨W1.heap.size,j,none⟩=some (.int .i64 dd)/\Hid (M.On wy w')) 29 ⟨hcx,c1,c2,aZ ((HH.out.mem.on_refl hbm.out.st).drew HH.out.mem)⟩ (λhS0=>?_)
       refine Takes.intro [0,1,2,3,4,5,6,7,8,9,10,11,12,13,14,15,16,17,18,19,20,21,22,23,25,26,27] ?_
       repeat(refine Takes.go (v:=?_) hS0 ?_;try simp only[Act.put,List.setIfInBounds_toArray,List.set_cons_zero,List.set_cons_succ])
       refine Takes.nil ?_
       refine wpAnyS_1 24 (λK hK=>?_)
       go_simp
       refine(HH.out.mul _ _ _ (HF.out m) HRi.out hS0.2.2.2.out.st).mono ?_
       rintro z w2 ⟨rfl,hb2⟩
       have HO1:=aZ (hS0.2.2.2.out.trans HH.out.mem hb2)
       have hS1:w2.cell? ⟨b,o+m,none⟩=some (.int .i64 (f m))/\w2.cell? ⟨w.heap.size,r,none⟩=some (.int .i64 q)/\w2.cell? ⟨W1.heap.size,j,none⟩=some (.int .i64 dd)/\Hid (M.On wy w2):=⟨on_cell HH.out.mem hbm.out.st HO1 hcx,on_cell HH.out.mem hbm.out.st HO1 c1,on_cell HH.out.mem hbm.out.st HO1 c2,HO1⟩
       clear hb2
       refine hK.out _ _ (λ_=>hS1) ?_
       clear hK K
       try simp only[Act.put,List.setIfInBounds_toArray,List.set_cons_zero,List.set_cons_succ]
       refine wpAnyS_1 28 (λK hK=>?_)
       go_simp
       refine(HH.out.add _ _ _ HDi.out (HH.out.im _ _ (HF.out m) HRi.out) hS1.2.2.2.out.st).mono ?_
       rintro z w3 ⟨rfl,hb2⟩
       have HO2:=aZ (hS1.2.2.2.out.trans HH.out.mem hb2)
       have hS2:w3.cell? ⟨b,o+m,none⟩=some (.int .i64 (f m))/\w3.cell? ⟨w.heap.size,r,none⟩=some (.int .i64 q)/\w3.cell? ⟨W1.heap.size,j,none⟩=some (.int .i64 dd)/\Hid (M.On wy w3):=⟨on_cell HH.out.mem hbm.out.st HO2 hcx,on_cell HH.out.mem hbm.out.st HO2 c1,on_cell HH.out.mem hbm.out.st HO2 c2,HO2⟩
       clear hb2
       refine hK.out _ _ (λ_=>hS2) ?_
       clear hK K
       try simp only[Act.put,List.setIfInBounds_toArray,List.set_cons_zero,List.set_cons_succ]
       refine wpAnyS_fin 2 29 ?_
       simp only[nrd]
       have hr2:=hrm.out.keep HH.out.mem hS2.2.2.2.out hbm.out.st
       have hb3:=hbm.out.trans HH.out.mem hS2.2.2.2.out
       obtain⟨r1,r2⟩:=hr2.row j hjt
       have HN:=aZ (hr2.set HH.out.mem hb3 (Nat.le_refl _) hjt (ρ.R.add dd (ρ.R.mul (f m) q)))
       clear hr2 hb3 hS0 hS1 hS2
       go_wp2
       refine⟨⟨m+1,by omega,by go_num,aZ (HN.out.1.congr λi _=>?_),aZ HN.out.2⟩,by simp[intOf];omega⟩
       rw[HDs.out]
       unfold updT
       by_cases e:i=j
       ·rw[if_pos e,if_pos e]
       ·rw[if_neg e,if_neg e,if_neg e]
      ·obtain rfl:m=k:=by omega
       go_wp2
       exact⟨⟨j+1,by omega,by go_num,aZ (hrm.out.next (G:=directF ρ.R m s f)),hbm⟩,by simp[intOf];omega⟩
    ·obtain rfl:j=k:=by omega
     have HR:=aZ hrj.out.full
     have HO:=aZ (hb.out.trans HH.out.mem hbj.out)
     have HZ:=aZ (HH.out.mem.size hb.out.fr)
     go_wp2
     go_ret
     exact⟨_,rfl,HZ.out,HR.out,HO.out⟩
end
section
variable {M : Mem} {ρ : RingV}
theorem unit_wrap2(s:Int)(a b:Nat)(hab:a*b<=1073741824)(ha:a<=1073741824):IntKind.i64.wrap (unitI s*(a:Int)*(b:Int))=unitI s*(a:Int)*(b:Int)/\-1073741824<=unitI s*(a:Int)*(b:Int)/\unitI s*(a:Int)*(b:Int)<=1073741824:=by
 have e:(a:Int)*b=((a*b:Nat):Int):=(Int.natCast_mul a b).symm
 have:unitI s*(a:Int)*(b:Int)=unitI s*((a*b:Nat):Int):=by rw[Int.mul_assoc,e]
 rw[this]
 exact unit_wrap s (a*b) hab
theorem twist_in(H:ρ.Ok M){r c:Nat}(n1:1<=r*c)(n2:r*c<=65536)(s:Int){f:Nat->Int}(hf:AllIn ρ f):AllIn ρ (twistF ρ.R r c s f):=λi=>H.im _ _ (hf i) (H.ir _ _ n1 n2)
theorem Twist_r(H:ρ.Ok M)(A:Option Addr)(n c r d:Nat)(s:Int)(f:Nat->Int)(w:World)(hA:IntsAt w A n f)(hf:AllIn ρ f)(hn:n<=32768)(h1:1<=r)(h2:1<=d)(hrd:r*d=n)(hw:M.St w):
  Calls Try.prog 108 #[.iface ρ.t ρ.v,.slice A n c,.int .i64 r,.int .i64 d,.int .i64 s] w λz w'=>z=.returned (.slice (some ⟨w.heap.size,0,none⟩) n n)/\Own M w' w.heap.size n (twistF ρ.R r d s f)/\M.On w w':=by
 have HH:=aZ H
 have HU:=aZ (unit_any s)
 have HA:=aZ hA
 have HF:=aZ hf
 have HW:=aZ hw
 have hmk:=mk_int64 n (by omega)
 have e4:=H.nr
 have e5:=H.mr
 have e6:=H.cr
 have e7:=H.nm
 have e8:=H.mm
 have e9:=H.cm
 have hrn:r<=n:=by rw[<-hrd];exact Nat.le_mul_of_pos_right _ h2
 have hdn:d<=n:=by rw[<-hrd];exact Nat.le_mul_of_pos_left _ h1
 have g1:n%r=0:=by rw[<-hrd];exact Nat.mul_mod_right _ _
 have g2:n/r=d:=by rw[<-hrd];exact Nat.mul_div_cancel_left _ (by omega)
 have g3:(n:Int)%r=0:=by rw[<-Int.natCast_emod,g1];rfl
 have g4:(n:Int)/r=d:=by rw[<-Int.natCast_ediv,g2]
 have g5:(n:Int).tmod r=0:=by rw[Int.tmod_eq_emod_of_nonneg (by omega),g3]
 have g6:(n:Int).tdiv r=d:=by rw[Int.tdiv_eq_ediv_of_nonneg (by omega),g4]
 have g7:¬(r:Int)=0:=by omega
 have g8:¬r=0:=by omega
 have g9:¬(r:Int)<1:=by omega
 have g10:¬(d:Int)<1:=by omega
 have HRD:=aZ hrd
 clear hA hf hw H hrd
 go_enter Try.func108,Try.ntmps108
 go_wp2
 clear g1 g2 g3 g4 g5 g6
 go_loopw [40] (λvi wr=>∃k:Nat,k<=r/\vi=.int .i64 k/\Hid (Own M wr w.heap.size n (upTo (k*d) (twistF ρ.R r d s f)))/\Hid (M.On w wr)) (λvi _=>r-(intOf vi).toNat)
 case atStart=>
  obtain⟨h1,h2⟩:=Own.make HH.out.mem (HH.out.mem.on_refl HW.out) n 2
  exact⟨0,by omega,rfl,aZ (by rw[Nat.zero_mul];exact h1.empty),aZ h2⟩
 case round=>
  obtain⟨k,hk,rfl,hr,hb⟩:=hrel
  by_cases hlt:k<r
  ·have hki:(k:Int)<r:=by omega
   go_wp2
   go_loopw [44] (λvj wx=>∃j:Nat,j<=d/\vj=.int .i64 j/\Hid (Own M wx w.heap.size n (upTo (k*d+j) (twistF ρ.R r d s f)))/\Hid (M.On w wx)) (λvj _=>d-(intOf vj).toNat)
   case atStart=>exact⟨0,by omega,rfl,hr,hb⟩
   case round=>
    clear hr hb
    rename World=>wx
    obtain⟨j,hj,rfl,hr,hb⟩:=hrel
    by_cases hjt:j<d
    ·have hji:(j:Int)<d:=by omega
     have hkd:k*d+d<=n:=by
      have:=Nat.mul_le_mul_right d (show k+1<=r by omega)
      rw[HRD.out,Nat.succ_mul] at this
      exact this
     obtain⟨x,hx⟩:∃x,k*d=x:=⟨_,rfl⟩
     rw[hx] at hkd hr
     have hyn:x+j<n:=by omega
     have hyi:((x+j:Nat):Int)<n:=by omega
     have hy0:(0:Int)<=((x+j:Nat):Int):=by omega
     have hkj:k*j<=1073741824:=by
      have:k*j<=32768*32768:=Nat.mul_le_mul (by omega) (by omega)
      omega
     obtain⟨hu1,hu2,hu3⟩:=unit_wrap s k (by omega)
     obtain⟨hv1,hv2,hv3⟩:=unit_wrap2 s k j hkj (by omega)
     have hn1:1<=n:=by omega
     have hn2:n<=65536:=by omega
     have HX:Hid (-4294967296<=unitI s*(k:Int)*(j:Int)/\unitI s*(k:Int)*(j:Int)<=4294967296):=aZ ⟨by omega,by omega⟩
     have HT:Hid (twistF ρ.R r d s f (x+j)=ρ.R.mul (f (x+j)) (ρ.R.root (unitI s*(k:Int)*(j:Int)) n)):=aZ (by
      unfold twistF
      rw[<-hx,HRD.out,Nat.mul_comm k d,Nat.mul_add_div (by omega),Nat.div_eq_of_lt hjt,Nat.add_zero,Nat.mul_add_mod,Nat.mod_eq_of_lt hjt])
     obtain⟨b,o,rfl,hcx⟩:=HA.out.keepM HH.out.mem hb.out HW.out (x+j) hyn
     have HRi:Hid (ρ.In (ρ.R.root (unitI s*(k:Int)*(j:Int)) n)):=aZ (HH.out.ir _ _ (by omega) (by omega))
     clear hu2 hu3 hv2 hv3 hkj hkd
     have hx63:x<9223372036854775808:=by omega
     have hxj63:x+j<9223372036854775808:=by omega
     have hy':Hid (x+(j+1)=(x+j)+1):=aZ (by omega)
     have hw3:wrap64 ((k:Int)*d)=(x:Int):=by rw[<-Int.natCast_mul,hx];exact wrap64_nat x hx63
     have hw4:wrap64 ((x:Int)+j)=((x+j:Nat):Int):=by rw[<-Int.natCast_add];exact wrap64_nat _ hxj63
     clear hx63 hxj63
     obtain⟨y,hy⟩:∃y,x+j=y:=⟨_,rfl⟩
     rw[hy] at hw4 hyn hyi hy0 HT hcx hr
     rw[hy] at hy'
     clear hy
     go_upto_region 11 with(fail)
     refine wp_region_T (λw'=>w'.cell? ⟨b,o+y,none⟩=some (.int .i64 (f y))/\Hid (M.On wx w')) 24 ⟨hcx,aZ ((HH.out.mem.on_refl hb.out.st).drew HH.out.mem)⟩ (λhS0=>?_)
     refine Takes.intro [0,1,2,3,4,5,6,7,8,10,12,14,15,16,17,18,20,21,22] ?_
     repeat(refine Takes.go (v:=?_) hS0 ?_;try simp only[Act.put,List.setIfInBounds_toArray,List.set_cons_zero,List.set_cons_succ])
     refine Takes.nil ?_
     refine wpAnyS_1 9 (λK hK=>?_)
     go_simp
     refine(HU.out _).mono ?_
     rintro z w2 ⟨rfl,rfl⟩
     have hS1:=hS0
     refine hK.out _ _ (λ_=>hS1) ?_
     clear hK K
     try simp only[Act.put,List.setIfInBounds_toArray,List.set_cons_zero,List.set_cons_succ]
     refine Takes.intro [11,13] ?_
     repeat(refine Takes.go (v:=?_) hS1 ?_;try simp only[Act.put,List.setIfInBounds_toArray,List.set_cons_zero,List.set_cons_succ])
     refine Takes.nil ?_
     refine wpAnyS_1 19 (λK hK=>?_)
     go_simp
     refine(HH.out.root _ _ _ HX.out.1 HX.out.2 hn1 hn2 hS1.2.out.st).mono ?_
     rintro z w3 ⟨rfl,hb2⟩
     have HO2:=aZ (hS1.2.out.trans HH.out.mem hb2)
     have hS2:w3.cell? ⟨b,o+y,none⟩=some (.int .i64 (f y))/\Hid (M.On wx w3):=⟨on_cell HH.out.mem hb.out.st HO2 hcx,HO2⟩
     clear hb2
     refine hK.out _ _ (λ_=>hS2) ?_
     clear hK K
     try simp only[Act.put,List.setIfInBounds_toArray,List.set_cons_zero,List.set_cons_succ]
     refine wpAnyS_1 23 (λK hK=>?_)
     go_simp
     refine(HH.out.mul _ _ _ (HF.out y) HRi.out hS2.2.out.st).mono ?_
     rintro z w4 ⟨rfl,hb2⟩
     have HO3:=aZ (hS2.2.out.trans HH.out.mem hb2)
     have hS3:w4.cell? ⟨b,o+y,none⟩=some (.int .i64 (f y))/\Hid (M.On wx w4):=⟨on_cell HH.out.mem hb.out.st HO3 hcx,HO3⟩
     clear hb2
     refine hK.out _ _ (λ_=>hS3) ?_
     clear hK K
     try simp only[Act.put,List.setIfInBounds_toArray,List.set_cons_zero,List.set_cons_succ]
     refine wpAnyS_fin 2 24 ?_
     simp only[nrd]
     have hr2:=hr.out.keep HH.out.mem hS3.2.out hb.out.st
     have hb3:=hb.out.trans HH.out.mem hS3.2.out
     obtain⟨r1,r2⟩:=hr2.row y hyn
     have HN:=aZ (hr2.set HH.out.mem hb3 (Nat.le_refl _) hyn (ρ.R.mul (f y) (ρ.R.root (unitI s*(k:Int)*(j:Int)) n)))
     clear hr2 hb3 hS0 hS1 hS2 hS3
     clear hu1 hv1 hw3 hw4
     go_wp2
     exact⟨⟨j+1,by omega,by go_num,aZ (by rw[hx,hy'.out];refine Own.next (G:=twistF ρ.R r d s f) ?_;rw[HT.out];exact HN.out.1),aZ HN.out.2⟩,by simp[intOf];omega⟩
    ·obtain rfl:j=d:=by omega
     go_wp2
     exact⟨⟨k+1,by omega,by go_num,aZ (by rw[Nat.succ_mul];exact hr.out),hb⟩,by simp[intOf];omega⟩
  ·obtain rfl:k=r:=by omega
   have HR:Hid (Own M wr w.heap.size n (twistF ρ.R k d s f)):=aZ (by have:=hr.out;rw[HRD.out] at this;exact this.full)
   go_wp2
   go_ret
   exact⟨rfl,HR.out,hb.out⟩
end
section
variable {M : Mem} {ρ : RingV}
abbrev rnV(ρ:RingV)(s:Int):Value:=.agg #[.iface ρ.t ρ.v,.int .i64 s]
def RnBox(w:World)(b:Nat)(ρ:RingV)(s:Int):Prop:=w.cell? ⟨b,0,none⟩=some (.iface ρ.t ρ.v)/\w.cell? ⟨b,1,none⟩=some (.int .i64 s)
theorem RnBox.new(w:World)(ρ:RingV)(s:Int)(t:TypeId):RnBox (w.alloc (.cells #[.iface ρ.t ρ.v,.int .i64 s] t)) w.heap.size ρ s:=⟨by simp[go_sem],by simp[go_sem]⟩
theorem RnBox.keep(H:M.Ok){w w':World}{b:Nat}{ρ:RingV}{s:Int}(h:RnBox w b ρ s)(k:M.On w w')(hs:M.St w):RnBox w' b ρ s:=⟨H.cell hs k.fr h.1,H.cell hs k.fr h.2⟩
theorem with_r(H:ρ.Ok M)(s:Int)(hs:s=1\/s=-1)(k:Int)(n:Nat)(w:World)(h1:-65536<=k)(h2:k<=65536)(n1:1<=n)(n2:n<=65536)(hw:M.St w):
  Calls Try.prog 109 #[rnV ρ s,.int .i64 k,.int .i64 n] w λz w'=>z=.returned (.int .i64 (ρ.R.root (s*k) n))/\M.On w w':=by
 obtain⟨hk,hk1,hk2⟩:=wrap_sign s hs k h1 h2
 have HK:=aZ (show-4294967296<=s*k/\s*k<=4294967296 from⟨hk1,hk2⟩)
 have HH:=aZ H
 have HW:=aZ hw
 have e1:=H.nr
 have e2:=H.mr
 have e3:=H.cr
 clear hk1 hk2 H hw hs
 go_enter Try.func109,Try.ntmps109
 go_wp2_with fail
 have hb1:=(HH.out.mem.on_refl HW.out).below HH.out.mem ((Below.refl _ w).alloc (Nat.le_refl _) (.cells #[.iface ρ.t ρ.v,.int .i64 s] 89))
 refine(HH.out.root _ _ _ HK.out.1 HK.out.2 n1 n2 hb1.st).mono ?_
 rintro z w1 ⟨rfl,hb2⟩
 have HB:=aZ (hb1.trans HH.out.mem hb2)
 clear hb1 hb2
 go_wp2
 go_ret
 exact⟨rfl,HB.out⟩
theorem turned_r(H:ρ.Ok M)(s t:Int)(w:World)(hw:M.St w):
  Calls Try.prog 128 #[rnV ρ s,.int .i64 t] w λz w'=>z=.returned (rnV ρ t)/\M.On w w':=by
 have HH:=aZ H
 have HW:=aZ hw
 clear H hw
 go_enter Try.func128,Try.ntmps128
 go_wp2
 exact bodyPost_ret (v:=rnV ρ t) (by simp[results,Try.results128,go_sem]) rfl ⟨rfl,(HH.out.mem.on_refl HW.out).below HH.out.mem (((Below.refl _ w).alloc (Nat.le_refl _) _).alloc (by simp) _)⟩
theorem gather_r(H:ρ.Ok M)(A:Option Addr)(n c off st cnt:Nat)(f:Nat->Int)(w:World)(hA:IntsAt w A n f)(hn:n<=17592186044416)(hst:1<=st)(hs2:st<=17592186044416)(hc:cnt<=17592186044416)(ho:off<=17592186044416)(h:Fits n off st cnt)(hw:M.St w):
  Calls Try.prog 107 #[.slice A n c,.int .i64 off,.int .i64 st,.int .i64 cnt] w λz w'=>z=.returned (.slice (some ⟨w.heap.size,0,none⟩) cnt cnt)/\Own M w' w.heap.size cnt (gathT f off st)/\M.On w w':=
 (gather_any A n c off st cnt f w hA hn hst hs2 hc ho h).mono λz w' ⟨e,hz,hr,hb⟩=>⟨e,⟨hr,hz,H.mem.new hw hb (Nat.le_refl _)⟩,(H.mem.on_refl hw).below H.mem hb⟩
theorem Scatter_r(H:ρ.Ok M)(D:World)(b n c:Nat)(A':Option Addr)(m c' off st:Nat)(g f:Nat->Int)(w:World)(hA:Own M w b n g)(hA':IntsAt w A' m f)(hd:0<m->∀b' o,A'=some ⟨b',o,none⟩->b'≠b)(hn:n<=17592186044416)(hm:m<=17592186044416)(hst:1<=st)(hs2:st<=17592186044416)(ho:off<=17592186044416)(h:Fits n off st m)(hD:D.heap.size<=b)(hw:M.On D w):
  Calls Try.prog 106 #[.slice (some ⟨b,0,none⟩) n c,.slice A' m c',.int .i64 off,.int .i64 st] w λz w'=>z=.returned (.int .i64 0)/\Own M w' b n (scatT g f off st m)/\M.On D w':=
 (Scatter_any b n c A' m c' off st g f w hA.row hA' hd hn hm hst hs2 ho h).mono λz w' ⟨e,hr,hb⟩=>⟨e,hA.write H.mem hw hD hb hr⟩
theorem gath_in{f:Nat->Int}(hf:AllIn ρ f)(off st:Nat):AllIn ρ (gathT f off st):=λi=>hf _
theorem scat_in{g f:Nat->Int}(hg:AllIn ρ g)(hf:AllIn ρ f)(off st m:Nat):AllIn ρ (scatT g f off st m):=by
 unfold scatT
 induction m with
 |zero=>exact hg
 |succ m ih=>
   rw[foldT_succ]
   intro i
   show ρ.In (if i=off+m*st then f m else _)
   by_cases e:i=off+m*st
   ·rw[if_pos e];exact hf m
   ·rw[if_neg e];exact ih i
end
section
variable {M : Mem} {ρ : RingV}
structure PlanC(M:Mem)(ρ:RingV)(kind n r:Int)(kids:Fo)(N:Nat)(F:Tr Int):Prop where
 run:∀s:Int,s=1\/s=-1->∀(w:World) (A:Option Addr) (c:Nat) (X:Option Addr) (cx:Nat) (x:Nat->Int),Kids w A 0 kids->IntsAt w X N x->AllIn ρ x->M.St w->
  Calls Try.prog 48 #[rnV ρ s,plV kind n r A kids.len c,.slice X N cx] w λz w'=>∃g,z=.returned (.slice (some ⟨g,0,none⟩) N N)/\w.heap.size<=g/\Own M w' g N (F s x)/\M.On w w'
 cl:∀(s:Int) (x:Nat->Int),AllIn ρ x->AllIn ρ (F s x)
theorem mid0_in{c r:Nat}{s:Int}{K:Tr Int}(hK:∀x,AllIn ρ x->AllIn ρ (K s x))(H:ρ.Ok M){x:Nat->Int}(hx:AllIn ρ x)(m:Nat):AllIn ρ (mid0F ρ.R c r s K x m):=by
 unfold mid0F
 induction m with
 |zero=>exact λ_=>H.iz
 |succ m ih=>rw[foldT_succ];exact scat_in ih (hK _ (gath_in hx _ _)) _ _ _
theorem mid_in{n r:Nat}{s:Int}{K:Tr Int}(hK:∀x,AllIn ρ x->AllIn ρ (K s x))(H:ρ.Ok M){x:Nat->Int}(hx:AllIn ρ x)(h1:1<=r*(n/r))(h2:r*(n/r)<=65536):AllIn ρ (midF ρ.R n r s K x):=
 twist_in H h1 h2 s (mid0_in hK H hx _)
theorem out_in{n r:Nat}{s:Int}{K0 K1:Tr Int}(hK0:∀x,AllIn ρ x->AllIn ρ (K0 s x))(hK1:∀x,AllIn ρ x->AllIn ρ (K1 s x))(H:ρ.Ok M){x:Nat->Int}(hx:AllIn ρ x)(h1:1<=r*(n/r))(h2:r*(n/r)<=65536)(m:Nat):AllIn ρ (outF ρ.R n r s K0 K1 x m):=by
 unfold outF
 induction m with
 |zero=>exact λ_=>H.iz
 |succ m ih=>rw[foldT_succ];exact scat_in ih (hK1 _ (gath_in (mid_in hK0 H hx h1 h2) _ _)) _ _ _
theorem ints_part{w:World}{b o n:Nat}{f:Nat->Int}(h:IntsAt w (some ⟨b,o,none⟩) n f)(k m:Nat)(hk:k+m<=n):IntsAt w (some ⟨b,o+k,none⟩) m (gathT f k 1):=λi hi=>by
 obtain⟨b',o',e,hc⟩:=h (k+i) (by omega)
 cases e
 refine⟨_,_,rfl,?_⟩
 rw[Nat.add_assoc]
 unfold gathT
 rw[Nat.mul_one]
 exact hc
theorem ints_part0{w:World}{b n:Nat}{f:Nat->Int}(h:IntsAt w (some ⟨b,0,none⟩) n f)(k m:Nat)(hk:k+m<=n):IntsAt w (some ⟨b,k,none⟩) m (gathT f k 1):=by
 have:=ints_part h k m hk
 rwa [Nat.zero_add] at this
theorem Radix_r(H:ρ.Ok M)(s:Int)(hs:s=1\/s=-1)(n r d:Nat)(hr2:2<=r)(hd1:1<=d)(hrd:r*d=n)(hn:n<=32768)(a0 n0 r0 a1 n1 r1:Int)(q0 q1:Fo)(F0 F1:Tr Int)(P0:PlanC M ρ a0 n0 r0 q0 r F0)(P1:PlanC M ρ a1 n1 r1 q1 d F1)(w:World)(A:Option Addr)(c:Nat)(X:Option Addr)(cx:Nat)(x:Nat->Int)(hk:Kids w A 0 (.cons a0 n0 r0 q0 (.cons a1 n1 r1 q1 .nil)))(hX:IntsAt w X n x)(hx:AllIn ρ x)(hw:M.St w):
  Calls Try.prog 79 #[rnV ρ s,plV 1 n r A 2 c,.slice X n cx] w λz w'=>∃g,z=.returned (.slice (some ⟨g,0,none⟩) n n)/\w.heap.size<=g/\Own M w' g n (radixF ρ.R n r F0 F1 s x)/\M.On w w':=by
 obtain⟨⟨bA,oA,B0,c0,rfl,k1,k2,k3,k4,k5⟩,⟨bA',oA',B1,c1,eA,k6,k7,k8,k9,k10⟩,-⟩:=hk
 cases eA
 have hdd:n/r=d:=by rw[<-hrd];exact Nat.mul_div_cancel_left _ (by omega)
 have hrn:r<=n:=by rw[<-hrd];exact Nat.le_mul_of_pos_right _ hd1
 have hdn:d<=n:=by rw[<-hrd];exact Nat.le_mul_of_pos_left _ (by omega)
 have HH:=aZ H
 have HS:=aZ hs
 have HP0:=aZ P0
 have HP1:=aZ P1
 have HX:=aZ hX
 have HI:=aZ hx
 have HW:=aZ hw
 have HRD:=aZ hrd
 have HDD:=aZ hdd
 have hmk:=mk_int64 n (by omega)
 have HKC:Hid ((w.cell? ⟨bA,oA,none⟩=some (.int .i64 a0)/\w.cell? ⟨bA,oA+1,none⟩=some (.int .i64 n0)/\w.cell? ⟨bA,oA+2,none⟩=some (.int .i64 r0)/\w.cell? ⟨bA,oA+3,none⟩=some (.slice B0 q0.len c0))/\
   w.cell? ⟨bA,oA+4,none⟩=some (.int .i64 a1)/\w.cell? ⟨bA,oA+5,none⟩=some (.int .i64 n1)/\w.cell? ⟨bA,oA+6,none⟩=some (.int .i64 r1)/\w.cell? ⟨bA,oA+7,none⟩=some (.slice B1 q1.len c1)):=
  aZ ⟨⟨by simpa using k1,by simpa using k2,by simpa using k3,by simpa using k4⟩,by simpa using k6,by simpa using k7,by simpa using k8,by simpa using k9⟩
 have HKS:Hid (Kids w B0 0 q0/\Kids w B1 0 q1):=aZ ⟨k5,k10⟩
 have hq:(n:Int)/r=d:=by rw[<-Int.natCast_ediv,hdd]
 have hq':(n:Int).tdiv r=d:=by rw[Int.tdiv_eq_ediv_of_nonneg (by omega),hq]
 have g7:¬(r:Int)=0:=by omega
 have g8:¬r=0:=by omega
 clear H hs P0 P1 hX hx hw hrd hdd k1 k2 k3 k4 k5 k6 k7 k8 k9 k10
 go_enter Try.func79,Try.ntmps79
 go_upto_region 1 with(fail)
 obtain⟨W,hW⟩:∃W,W=(w.alloc (.cells #[.iface ρ.t ρ.v,.int .i64 s] 89)).alloc (.cells #[.int .i64 1,.int .i64 n,.int .i64 r,.slice (some ⟨bA,oA,none⟩) 2 c] 26):=⟨_,rfl⟩
 obtain⟨bR,hbR⟩:∃bR,bR=w.heap.size:=⟨_,rfl⟩
 obtain⟨bP,hbP⟩:∃bP,bP=bR+1:=⟨_,rfl⟩
 have HB:Hid (Below w.heap.size w W):=aZ (by rw[hW];exact((Below.refl _ w).alloc (Nat.le_refl _) _).alloc (by simp) _)
 have HON:=aZ ((HH.out.mem.on_refl HW.out).below HH.out.mem HB.out)
 have HBX:Hid ((W.cell? ⟨bR,0,none⟩=some (.iface ρ.t ρ.v)/\W.cell? ⟨bR,1,none⟩=some (.int .i64 s))/\(W.cell? ⟨bP,0,none⟩=some (.int .i64 1)/\W.cell? ⟨bP,1,none⟩=some (.int .i64 n)/\W.cell? ⟨bP,2,none⟩=some (.int .i64 r)/\W.cell? ⟨bP,3,none⟩=some (.slice (some ⟨bA,oA,none⟩) 2 c))):=
  aZ (by subst hbP hbR hW;exact⟨⟨by simp[go_sem],by simp[go_sem]⟩,by simp[go_sem],by simp[go_sem],by simp[go_sem],by simp[go_sem]⟩)
 have HZ:Hid (w.heap.size<=W.heap.size):=aZ (by subst hW;simp;omega)
 rw[<-hW]
 simp only[<-hbR]
 simp only[<-hbP]
 have HST:=aZ HON.out.st
 have HXW:=aZ (HX.out.keepM HH.out.mem HON.out HW.out)
 have HK0:=aZ (Kids.keep HH.out.mem HON.out HW.out HKS.out.1)
 have HK1:=aZ (Kids.keep HH.out.mem HON.out HW.out HKS.out.2)
 have HSB:Hid (∀w',Hid (M.On W w')->(w'.cell? ⟨bR,0,none⟩=some (.iface ρ.t ρ.v)/\w'.cell? ⟨bR,1,none⟩=some (.int .i64 s)/\w'.cell? ⟨bP,0,none⟩=some (.int .i64 1)/\w'.cell? ⟨bP,1,none⟩=some (.int .i64 n)/\w'.cell? ⟨bP,2,none⟩=some (.int .i64 r)/\w'.cell? ⟨bP,3,none⟩=some (.slice (some ⟨bA,oA,none⟩) 2 c)/\Hid (M.On W w'))):=aZ (λw' h=>⟨on_cell HH.out.mem HST.out h HBX.out.1.1,on_cell HH.out.mem HST.out h HBX.out.1.2,on_cell HH.out.mem HST.out h HBX.out.2.1,on_cell HH.out.mem HST.out h HBX.out.2.2.1,on_cell HH.out.mem HST.out h HBX.out.2.2.2.1,on_cell HH.out.mem HST.out h HBX.out.2.2.2.2,h⟩)
 have HC0:Hid (∀w',Hid (M.On W w')->(w'.cell? ⟨bA,oA,none⟩=some (.int .i64 a0)/\w'.cell? ⟨bA,oA+1,none⟩=some (.int .i64 n0)/\w'.cell? ⟨bA,oA+2,none⟩=some (.int .i64 r0)/\w'.cell? ⟨bA,oA+3,none⟩=some (.slice B0 q0.len c0)/\w'.cell? ⟨bR,0,none⟩=some (.iface ρ.t ρ.v)/\w'.cell? ⟨bR,1,none⟩=some (.int .i64 s)/\w'.cell? ⟨bP,0,none⟩=some (.int .i64 1)/\w'.cell? ⟨bP,1,none⟩=some (.int .i64 n)/\w'.cell? ⟨bP,2,none⟩=some (.int .i64 r)/\w'.cell? ⟨bP,3,none⟩=some (.slice (some ⟨bA,oA,none⟩) 2 c)/\Hid (M.On W w'))):=aZ (λw' h=>⟨on_cell HH.out.mem HW.out (aZ (HON.out.trans HH.out.mem h.out)) HKC.out.1.1,on_cell HH.out.mem HW.out (aZ (HON.out.trans HH.out.mem h.out)) HKC.out.1.2.1,on_cell HH.out.mem HW.out (aZ (HON.out.trans HH.out.mem h.out)) HKC.out.1.2.2.1,on_cell HH.out.mem HW.out (aZ (HON.out.trans HH.out.mem h.out)) HKC.out.1.2.2.2,HSB.out w' h⟩)
 have HC1:Hid (∀w',Hid (M.On W w')->(w'.cell? ⟨bA,oA+4,none⟩=some (.int .i64 a1)/\w'.cell? ⟨bA,oA+5,none⟩=some (.int .i64 n1)/\w'.cell? ⟨bA,oA+6,none⟩=some (.int .i64 r1)/\w'.cell? ⟨bA,oA+7,none⟩=some (.slice B1 q1.len c1)/\w'.cell? ⟨bR,0,none⟩=some (.iface ρ.t ρ.v)/\w'.cell? ⟨bR,1,none⟩=some (.int .i64 s)/\w'.cell? ⟨bP,0,none⟩=some (.int .i64 1)/\w'.cell? ⟨bP,1,none⟩=some (.int .i64 n)/\w'.cell? ⟨bP,2,none⟩=some (.int .i64 r)/\w'.cell? ⟨bP,3,none⟩=some (.slice (some ⟨bA,oA,none⟩) 2 c)/\Hid (M.On W w'))):=aZ (λw' h=>⟨on_cell HH.out.mem HW.out (aZ (HON.out.trans HH.out.mem h.out)) HKC.out.2.1,on_cell HH.out.mem HW.out (aZ (HON.out.trans HH.out.mem h.out)) HKC.out.2.2.1,on_cell HH.out.mem HW.out (aZ (HON.out.trans HH.out.mem h.out)) HKC.out.2.2.2.1,on_cell HH.out.mem HW.out (aZ (HON.out.trans HH.out.mem h.out)) HKC.out.2.2.2.2,HSB.out w' h⟩)
 have HOR:=aZ (HH.out.mem.on_refl HST.out)
 clear HB HBX HKC HKS HX hW hbP hbR
 refine wp_region_S (λw'=>w'.cell? ⟨bR,0,none⟩=some (.iface ρ.t ρ.v)/\w'.cell? ⟨bR,1,none⟩=some (.int .i64 s)/\w'.cell? ⟨bP,0,none⟩=some (.int .i64 1)/\w'.cell? ⟨bP,1,none⟩=some (.int .i64 n)/\w'.cell? ⟨bP,2,none⟩=some (.int .i64 r)/\w'.cell? ⟨bP,3,none⟩=some (.slice (some ⟨bA,oA,none⟩) 2 c)/\Hid (M.On W w')) 8 (by kernel_rfl) ?_
 have hS0:=HSB.out _ (aZ (HOR.out.drew HH.out.mem))
 refine Takes.intro [0,1,2,3,4,5,6,7] ?_
 repeat(refine Takes.go (v:=?_) hS0 ?_;try simp only[Act.put,List.setIfInBounds_toArray,List.set_cons_zero,List.set_cons_succ])
 refine Takes.nil ?_
 refine wpAnyS_fin 1 8 ?_
 simp only[nrd]
 go_wp2
 clear hS0
 obtain⟨G,hG⟩:∃G,G=W.heap.size:=⟨_,rfl⟩
 go_loopw [24] (λvi wr=>∃k:Nat,k<=d/\vi=.int .i64 k/\Hid (Own M wr W.heap.size n (mid0F ρ.R d r s F0 x k))/\Hid (M.On W wr)) (λvi _=>d-(intOf vi).toNat)
 case atStart=>
  obtain⟨h1,h2⟩:=Own.make HH.out.mem HOR.out n 2
  have h3:=h1.keep HH.out.mem ((HH.out.mem.on_refl h2.st).drew HH.out.mem) h2.st
  exact⟨0,by omega,rfl,aZ (by simpa[mid0F,foldT,HH.out.z0] using h3),aZ (h2.drew HH.out.mem)⟩
 case round=>
  obtain⟨k,hk,rfl,hr,hb⟩:=hrel
  by_cases hlt:k<d
  ·have hki:(k:Int)<d:=by omega
   have HF:Hid (Fits n k d r):=aZ (.inr (by
    have e:r*d=(r-1)*d+d:=by rw[<-Nat.succ_mul];congr 1;omega
    have:=HRD.out
    omega))
   go_upto_region 6 with(fail)
   refine wp_region_S (λw'=>(w'.cell? ⟨bA,oA,none⟩=some (.int .i64 a0)/\w'.cell? ⟨bA,oA+1,none⟩=some (.int .i64 n0)/\w'.cell? ⟨bA,oA+2,none⟩=some (.int .i64 r0)/\w'.cell? ⟨bA,oA+3,none⟩=some (.slice B0 q0.len c0)/\w'.cell? ⟨bR,0,none⟩=some (.iface ρ.t ρ.v)/\w'.cell? ⟨bR,1,none⟩=some (.int .i64 s)/\w'.cell? ⟨bP,0,none⟩=some (.int .i64 1)/\w'.cell? ⟨bP,1,none⟩=some (.int .i64 n)/\w'.cell? ⟨bP,2,none⟩=some (.int .i64 r)/\w'.cell? ⟨bP,3,none⟩=some (.slice (some ⟨bA,oA,none⟩) 2 c)/\Hid (M.On W w'))) 15 (by kernel_rfl) ?_
   have hS0:=HC0.out _ (aZ (hb.out.drew HH.out.mem))
   refine Takes.intro [0,1,2,3,4,5,6,7,8,9,12,13] ?_
   repeat(refine Takes.go (v:=?_) hS0 ?_;try simp only[Act.put,List.setIfInBounds_toArray,List.set_cons_zero,List.set_cons_succ])
   refine Takes.nil ?_
   refine wpAnyS_1 10 (λK hK=>?_)
   go_simp
   have HO0:=aZ (hb.out.drew HH.out.mem)
   refine(gather_r HH.out X n cx k d r x _ (HXW.out.keepM HH.out.mem HO0.out HST.out) (by omega) (by omega) (by omega) (by omega) (by omega) HF.out HO0.out.st).mono ?_
   rintro z w1 ⟨rfl,ho1,hb1⟩
   have HO1:Hid (M.On W w1):=aZ (HO0.out.trans HH.out.mem hb1)
   have hS1:=HC0.out _ HO1
   have HW1:=aZ ho1
   have HB1:=aZ hb1
   clear ho1 hb1
   refine hK.out _ _ (λ_=>hS1) ?_
   clear hK K
   try simp only[Act.put,List.setIfInBounds_toArray,List.set_cons_zero,List.set_cons_succ]
   refine wpAnyS_1 11 (λK hK=>?_)
   go_simp
   refine(HP0.out.run s HS.out _ _ _ _ _ _ (HK0.out.keep' HH.out.mem HO1.out HST.out) HW1.out.ints (gath_in HI.out _ _) HO1.out.st).mono ?_
   rintro z w2 ⟨g,rfl,hg,ho2,hb2⟩
   have HO2:Hid (M.On W w2):=aZ (HO1.out.trans HH.out.mem hb2)
   have hS2:=HC0.out _ HO2
   have HW2:=aZ ho2
   have HB2:=aZ (HB1.out.trans HH.out.mem hb2)
   have HG:Hid (g≠W.heap.size):=aZ (by have l1:=HW1.out.lt;have l2:=hr.out.lt;have l3:wr.drew.heap.size=wr.heap.size:=rfl;omega)
   clear ho2 hb2 hg
   refine hK.out _ _ (λ_=>hS2) ?_
   clear hK K
   try simp only[Act.put,List.setIfInBounds_toArray,List.set_cons_zero,List.set_cons_succ]
   refine wpAnyS_1 14 (λK hK=>?_)
   go_simp
   have HR2:=hr.out.keep HH.out.mem ((HH.out.mem.on_refl hb.out.st).drew HH.out.mem |>.trans HH.out.mem HB2.out) hb.out.st
   refine(Scatter_r HH.out W W.heap.size n n (some ⟨g,0,none⟩) r r k d _ (F0 s (gathT x k d)) _ HR2 HW2.out.ints (λ_ b' o e=>by cases e;exact HG.out) (by omega) (by omega) (by omega) (by omega) (by omega) HF.out (Nat.le_refl _) HO2.out).mono ?_
   rintro z w3 ⟨rfl,hn⟩
   have HN:=aZ hn
   have HO3:=aZ HN.out.2
   have hS3:=HC0.out _ HO3
   clear hn HR2
   refine hK.out _ _ (λ_=>hS3) ?_
   clear hK K
   try simp only[Act.put,List.setIfInBounds_toArray,List.set_cons_zero,List.set_cons_succ]
   refine wpAnyS_fin 0 15 ?_
   simp only[nrd]
   go_wp2
   exact⟨⟨k+1,by omega,by go_num,aZ HN.out.1,HO3⟩,by simp[intOf];omega⟩
  ·obtain rfl:k=d:=by omega
   clear HC0 HK0
   obtain⟨x1,x2,x3,x4,x5,x6,-⟩:=HSB.out wr hb
   have HM:=aZ (mid0_in (λy hy=>HP0.out.cl s y hy) HH.out HI.out k:AllIn ρ (mid0F ρ.R k r s F0 x k))
   go_wp2_with fail
   refine(Twist_r HH.out (some ⟨W.heap.size,0,none⟩) n n r k s _ _ hr.out.ints HM.out hn (by omega) (by omega) HRD.out hb.out.st).mono ?_
   rintro z w1 ⟨rfl,ho1,hb1⟩
   have HM1:Hid (Own M w1 wr.heap.size n (midF ρ.R n r s F0 x)):=aZ (by unfold midF;rw[HDD.out];exact ho1)
   have HMI:Hid (AllIn ρ (midF ρ.R n r s F0 x)):=aZ (mid_in (λy hy=>HP0.out.cl s y hy) HH.out HI.out (by rw[HDD.out,HRD.out];omega) (by rw[HDD.out,HRD.out];omega))
   have HB1:=aZ (hb.out.trans HH.out.mem hb1)
   have HLT:=aZ (show W.heap.size<=wr.heap.size from HH.out.mem.size hb.out.fr)
   obtain⟨gm,hgm⟩:∃gm,gm=wr.heap.size:=⟨_,rfl⟩
   rw[<-hgm] at HM1 HLT|-
   clear ho1 hb1 hr x1 x2 x3 x4 x5 x6 HM hgm
   go_wp2
   go_loopw [55] (λvi wx=>∃j:Nat,j<=r/\vi=.int .i64 j/\Hid (Own M wx w1.heap.size n (outF ρ.R n r s F0 F1 x j))/\Hid (M.On w1 wx)) (λvi _=>r-(intOf vi).toNat)
   case atStart=>
    obtain⟨h1,h2⟩:=Own.make HH.out.mem (HH.out.mem.on_refl HB1.out.st) n 2
    exact⟨0,by omega,rfl,aZ (by simpa[outF,foldT,HH.out.z0] using h1),aZ h2⟩
   case round=>
    clear hb
    rename World=>wx
    obtain⟨j,hj,rfl,hr,hb⟩:=hrel
    by_cases hlt:j<r
    ·have hji:(j:Int)<r:=by omega
     have hjd:j*k+k<=n:=by
      have:=Nat.mul_le_mul_right k (show j+1<=r by omega)
      rw[HRD.out,Nat.succ_mul] at this
      exact this
     have HF:Hid (Fits n j r k):=aZ (.inr (by
      have e:r*k=r+(k-1)*r:=by
       have h1:r*k=k*r:=Nat.mul_comm _ _
       have h2:k*r=(k-1+1)*r:=by congr 1;omega
       rw[h1,h2,Nat.succ_mul];omega
      have:=HRD.out
      omega))
     obtain⟨y,hy⟩:∃y,j*k=y:=⟨_,rfl⟩
     obtain⟨e,he⟩:∃e,y+k=e:=⟨_,rfl⟩
     have hye:y<=e:=by omega
     have hen:e<=n:=by omega
     have hyi:(y:Int)<=e:=by omega
     have hei:(e:Int)<=n:=by omega
     have hek:e-y=k:=by omega
     have hyn:¬y=n:=by omega
     have hny:¬n=y:=by omega
     have HN5:Hid (n<=17592186044416/\k<=17592186044416/\1<=r/\r<=17592186044416/\j<=17592186044416):=aZ ⟨by omega,by omega,by omega,by omega,by omega⟩
     have HYK:Hid (y+k<=n):=aZ (by omega)
     have hyw:IntKind.i64.wrap ((j:Int)*k)=(y:Int):=by rw[<-Int.natCast_mul,hy];exact wrapI_nat y (by omega)
     have hew:IntKind.i64.wrap (((j:Int)+1)*k)=(e:Int):=by
      have:((j:Int)+1)*k=((j*k+k:Nat):Int):=by rw[Int.add_mul,Int.one_mul,Int.natCast_add,Int.natCast_mul]
      rw[this,hy,he]
      exact wrapI_nat e (by omega)
     have hjw:IntKind.i64.wrap ((j:Int)+1)=(j:Int)+1:=by rw[IntKind.wrap_i64];omega
     have HY:=aZ hy
     have HE:=aZ he
     clear hy he hjd
     go_upto_region 13 with(fail)
     refine wp_region_S (λw'=>(w'.cell? ⟨bA,oA+4,none⟩=some (.int .i64 a1)/\w'.cell? ⟨bA,oA+5,none⟩=some (.int .i64 n1)/\w'.cell? ⟨bA,oA+6,none⟩=some (.int .i64 r1)/\w'.cell? ⟨bA,oA+7,none⟩=some (.slice B1 q1.len c1)/\w'.cell? ⟨bR,0,none⟩=some (.iface ρ.t ρ.v)/\w'.cell? ⟨bR,1,none⟩=some (.int .i64 s)/\w'.cell? ⟨bP,0,none⟩=some (.int .i64 1)/\w'.cell? ⟨bP,1,none⟩=some (.int .i64 n)/\w'.cell? ⟨bP,2,none⟩=some (.int .i64 r)/\w'.cell? ⟨bP,3,none⟩=some (.slice (some ⟨bA,oA,none⟩) 2 c)/\Hid (M.On W w'))) 19 (by kernel_rfl) ?_
     have hS0:=HC1.out _ (aZ (HB1.out.trans HH.out.mem (hb.out.drew HH.out.mem)))
     refine Takes.intro [0,1,2,3,4,5,6,7,8,9,10,11,12,13,14,16,17] ?_
     repeat(refine Takes.go (v:=?_) hS0 ?_;try simp only[Act.put,List.setIfInBounds_toArray,List.set_cons_zero,List.set_cons_succ])
     refine Takes.nil ?_
     refine wpAnyS_1 15 (λK hK=>?_)
     go_simp
     have HO0:=aZ (hb.out.drew HH.out.mem)
     refine(HP1.out.run s HS.out _ _ _ _ _ _ (HK1.out.keep' HH.out.mem (HB1.out.trans HH.out.mem HO0.out) HST.out) (ints_part0 (HM1.out.keep HH.out.mem HO0.out HB1.out.st).ints y k HYK.out) (gath_in HMI.out _ _) HO0.out.st).mono ?_
     rintro z w2 ⟨g,rfl,hg,ho2,hb2⟩
     have HO1:Hid (M.On w1 w2):=aZ (HO0.out.trans HH.out.mem hb2)
     have hS1:=HC1.out _ (aZ (HB1.out.trans HH.out.mem HO1.out))
     have HW2:=aZ ho2
     have HB2:=aZ hb2
     have HG:Hid (g≠w1.heap.size):=aZ (by have l2:=hr.out.lt;have l3:wx.drew.heap.size=wx.heap.size:=rfl;omega)
     clear ho2 hb2 hg
     refine hK.out _ _ (λ_=>hS1) ?_
     clear hK K
     try simp only[Act.put,List.setIfInBounds_toArray,List.set_cons_zero,List.set_cons_succ]
     refine wpAnyS_1 18 (λK hK=>?_)
     go_simp
     have HR2:=hr.out.keep HH.out.mem ((HH.out.mem.on_refl hb.out.st).drew HH.out.mem |>.trans HH.out.mem HB2.out) hb.out.st
     refine(Scatter_r HH.out w1 w1.heap.size n n (some ⟨g,0,none⟩) k k j r _ (F1 s (gathT (midF ρ.R n r s F0 x) y 1)) _ HR2 HW2.out.ints (λ_ b' o e=>by cases e;exact HG.out) HN5.out.1 HN5.out.2.1 HN5.out.2.2.1 HN5.out.2.2.2.1 HN5.out.2.2.2.2 HF.out (Nat.le_refl _) HO1.out).mono ?_
     rintro z w3 ⟨rfl,hn⟩
     have HN:=aZ hn
     have HO3:=aZ HN.out.2
     have hS2:=HC1.out _ (aZ (HB1.out.trans HH.out.mem HO3.out))
     clear hn HR2
     refine hK.out _ _ (λ_=>hS2) ?_
     clear hK K
     try simp only[Act.put,List.setIfInBounds_toArray,List.set_cons_zero,List.set_cons_succ]
     refine wpAnyS_fin 0 19 ?_
     simp only[nrd]
     clear hyw hew hjw hS0 hS1 hS2
     go_wp2
     exact⟨⟨j+1,by omega,by go_num,aZ (by have:=HN.out.1;rw[<-HY.out] at this;show Own M w3 _ n (scatT (outF ρ.R n r s F0 F1 x j) (F1 s (gathT (midF ρ.R n r s F0 x) (j*(n/r)) 1)) j r (n/r));rw[HDD.out];exact this),HO3⟩,by simp[intOf];omega⟩
    ·obtain rfl:j=r:=by omega
     go_wp2
     go_ret
     exact⟨_,rfl,by have:=HH.out.mem.size HB1.out.fr;have:=HZ.out;omega,hr.out,(HON.out.trans HH.out.mem HB1.out).trans HH.out.mem hb.out⟩
end
end Go.Proofs.Yteaimnemobnknaa
