/- Floats, sums of two floats, parts of a turn: what the contract of Turn wants (TB). -/
import Derived.Test.YtfedabinindpbaaGreatX0
import Derived.Test.YtfedabinindpbaaGreatProg
import Derived.Test.YtfedabinindpbaaGreatTA
import Derived.WalkKit
import Derived.WalkLawsBesides
import Derived.KernelRfl
import Derived.Lib.Hide
import Derived.BigQuiet
import Derived.Deep.QuietTactic
import Derived.BigRegion
import Derived.Deep.RegionHeld3
import Derived.Deep.CutRange
set_option maxHeartbeats 2000000
set_option maxRecDepth 100000
set_option linter.unusedSimpArgs false
set_option linter.unusedVariables false
namespace Go.Proofs.YtfedabinindpbaaGreat.T
open Go.RowKit Fl
theorem hadd{x y r:Nat}(h:fadd x y=some r):∀t w,(binOp .add t (.float .f64 x) (.float .f64 y)).run Tryz.prog w=.ok (.float .f64 r) w:=λt w=>run_float_arith w .add t .f64 x y r h
theorem hsub{x y r:Nat}(h:fsub x y=some r):∀t w,(binOp .sub t (.float .f64 x) (.float .f64 y)).run Tryz.prog w=.ok (.float .f64 r) w:=λt w=>run_float_arith w .sub t .f64 x y r h
theorem hmul{x y r:Nat}(h:fmul x y=some r):∀t w,(binOp .mul t (.float .f64 x) (.float .f64 y)).run Tryz.prog w=.ok (.float .f64 r) w:=λt w=>run_float_arith w .mul t .f64 x y r h
theorem hdiv{x y r:Nat}(h:fdiv x y=some r):∀t w,(binOp .quo t (.float .f64 x) (.float .f64 y)).run Tryz.prog w=.ok (.float .f64 r) w:=λt w=>run_float_arith w .quo t .f64 x y r h
def sumF(x y:Nat):Option (Nat×Nat):=
 (fadd x y).bind λs=>(fsub s x).bind λt=>(fsub s t).bind λu=>(fsub x u).bind λf=>(fsub y t).bind λd=>(fadd f d).bind λe=>some (s,e)
theorem sum_any(x y s e:Nat)(w:World)(h:sumF x y=some (s,e)):
  Calls Tryz.prog 183 #[.float .f64 x,.float .f64 y] w λz w'=>z=.returned (.tuple #[.float .f64 s,.float .f64 e])/\w=w':=by
 simp only[sumF,Option.bind_eq_some_iff,Option.some.injEq,Prod.mk.injEq] at h
 obtain⟨s',h1,t,h2,u,h3,f,h4,d,h5,e',h6,rfl,rfl⟩:=h
 replace h1:=hadd h1
 replace h2:=hsub h2
 replace h3:=hsub h3
 replace h4:=hsub h4
 replace h5:=hsub h5
 replace h6:=hadd h6
 go_enter Tryz.func183,Tryz.ntmps183
 go_wp2_with (simp only[h1,h2,h3,h4,h5,h6])
 go_ret2
 exact⟨rfl,rfl⟩
def splitF(x:Nat):Option (Nat×Nat):=
 (fmul 4728779608772575232 x).bind λc=>(fsub c x).bind λd=>(fsub c d).bind λh=>(fsub x h).bind λl=>some (h,l)
theorem split_any(x h l:Nat)(w:World)(hf:splitF x=some (h,l)):
  Calls Tryz.prog 182 #[.float .f64 x] w λz w'=>z=.returned (.tuple #[.float .f64 h,.float .f64 l])/\w=w':=by
 simp only[splitF,Option.bind_eq_some_iff,Option.some.injEq,Prod.mk.injEq] at hf
 obtain⟨c,h1,d,h2,h',h3,l',h4,rfl,rfl⟩:=hf
 replace h1:=hmul h1
 replace h2:=hsub h2
 replace h3:=hsub h3
 replace h4:=hsub h4
 go_enter Tryz.func182,Tryz.ntmps182
 go_wp2_with (simp only[h1,h2,h3,h4])
 go_ret2
 exact⟨rfl,rfl⟩
def prodF(x y:Nat):Option (Nat×Nat):=
 (fmul x y).bind λp=>(splitF x).bind λa=>(splitF y).bind λb=>
 (fmul a.1 b.1).bind λq1=>(fsub q1 p).bind λe1=>
 (fmul a.1 b.2).bind λq2=>(fadd e1 q2).bind λe2=>
 (fmul a.2 b.1).bind λq3=>(fadd e2 q3).bind λe3=>
 (fmul a.2 b.2).bind λq4=>(fadd e3 q4).bind λe4=>some (p,e4)
theorem prod_any(x y p e:Nat)(w:World)(hf:prodF x y=some (p,e)):
  Calls Tryz.prog 176 #[.float .f64 x,.float .f64 y] w λz w'=>z=.returned (.tuple #[.float .f64 p,.float .f64 e])/\w=w':=by
 simp only[prodF,Option.bind_eq_some_iff,Option.some.injEq,Prod.mk.injEq] at hf
 obtain⟨p',h0,⟨a1,a2⟩,ha,⟨b1,b2⟩,hb,q1,h1,e1,h2,q2,h3,e2,h4,q3,h5,e3,h6,q4,h7,e4,h8,rfl,rfl⟩:=hf
 replace h0:=hmul h0
 replace h1:=hmul h1
 replace h2:=hsub h2
 replace h3:=hmul h3
 replace h4:=hadd h4
 replace h5:=hmul h5
 replace h6:=hadd h6
 replace h7:=hmul h7
 replace h8:=hadd h8
 have HA:=aZ ha
 have HB:=aZ hb
 clear ha hb
 go_enter Tryz.func176,Tryz.ntmps176
 go_wp2_with (first|(simp only[h0,h1,h2,h3,h4,h5,h6,h7,h8];done)|simp only[h0,h1,h2,h3,h4,h5,h6,h7,h8]|fail)
 refine(split_any _ _ _ _ HA.out).mono ?_
 rintro z w' ⟨rfl,rfl⟩
 go_wp2_with (first|simp only[h0,h1,h2,h3,h4,h5,h6,h7,h8]|fail)
 refine(split_any _ _ _ _ HB.out).mono ?_
 rintro z w' ⟨rfl,rfl⟩
 go_wp2_with (first|simp only[h0,h1,h2,h3,h4,h5,h6,h7,h8]|fail)
 go_ret2
 exact⟨rfl,rfl⟩
@[go_sem] theorem run_store_float{P:Program}(w:World)(a:Addr)(m:Mode)(k:FloatKind)(b:Nat):(store a (.float k b) m).run P w=stored P w a (.float k b) m:=run_store P w a _ m rfl
abbrev num(h l:Nat):Value:=.agg #[.float .f64 h,.float .f64 l]
theorem keep_cell{W w1:World}(hb:Below W.heap.size W w1){b o:Nat}{v:Value}(h:W.cell? ⟨b,o,none⟩=some v):w1.cell? ⟨b,o,none⟩=some v:=by
 rw[hb.cell (p:=⟨b,o,none⟩) (World.block_lt_of_cell? _ _ h)];exact h
theorem keep_free{W w1:World}(hb:Below W.heap.size W w1){b o:Nat}(hl:b<W.heap.size)(h:W.frozen? ⟨b,o,none⟩=false):w1.frozen? ⟨b,o,none⟩=false:=by
 rw[hb.frozen (p:=⟨b,o,none⟩) hl];exact h
def Two(w:World)(b:Nat)(u v:Value):Prop:=
 w.cell? ⟨b,0,none⟩=some u/\w.cell? ⟨b,1,none⟩=some v/\w.frozen? ⟨b,0,none⟩=false/\w.frozen? ⟨b,1,none⟩=false
theorem Two.keep{W w1:World}{b:Nat}{u v:Value}(hb:Below W.heap.size W w1)(h:Two W b u v):Two w1 b u v:=
 have hl:=World.block_lt_of_cell? _ _ h.1
 ⟨keep_cell hb h.1,keep_cell hb h.2.1,keep_free hb hl h.2.2.1,keep_free hb hl h.2.2.2⟩
theorem Two.lt{W:World}{b:Nat}{u v:Value}(h:Two W b u v):b<W.heap.size:=World.block_lt_of_cell? _ _ h.1
theorem new_any(x y s e:Nat)(w:World)(hf:sumF x y=some (s,e)):
  Calls Tryz.prog 177 #[.float .f64 x,.float .f64 y] w λz w'=>z=.returned (num s e)/\Below w.heap.size w w':=by
 have HF:=aZ hf
 clear hf
 go_enter Tryz.func177,Tryz.ntmps177
 go_wp2_with (go_at_call 183;refine(sum_any _ _ _ _ _ HF.out).mono ?_;rintro z w' ⟨rfl,rfl⟩)
 refine bodyPost_ret (v:=num s e) (by simp[results,Tryz.results177,go_sem]) rfl ⟨rfl,?_⟩
 exact(Below.refl _ _).alloc (Nat.le_refl _) _
def fneg(x:Nat):Nat:=Op.negFloat .f64 x
@[go_sem] theorem unary_neg_float(x:Nat):Op.unary .neg (.float .f64 x)=pure (.float .f64 (fneg x)):=rfl
theorem neg_any(x y:Nat)(w:World):
  Calls Tryz.prog 163 #[num x y] w λz w'=>z=.returned (num (fneg x) (fneg y))/\Below w.heap.size w w':=by
 go_enter Tryz.func163,Tryz.ntmps163
 go_wp2
 refine bodyPost_ret (v:=num (fneg x) (fneg y)) (by simp[results,Tryz.results163,go_sem]) rfl ⟨rfl,?_⟩
 exact((Below.refl _ _).alloc (Nat.le_refl _) _).alloc (by simp) _
def addF(a b:Nat×Nat):Option (Nat×Nat):=
 (sumF a.1 b.1).bind λs=>(sumF a.2 b.2).bind λt=>(fadd s.2 t.1).bind λg=>(sumF s.1 g).bind λn=>(fadd n.2 t.2).bind λk=>sumF n.1 k
theorem add_any(a b c d x y:Nat)(w:World)(hf:addF (a,b) (c,d)=some (x,y)):
  Calls Tryz.prog 178 #[num a b,num c d] w λz w'=>z=.returned (num x y)/\Below w.heap.size w w':=by
 simp only[addF,Option.bind_eq_some_iff] at hf
 obtain⟨⟨s1,s2⟩,h1,⟨t1,t2⟩,h2,g,h3,⟨n1,n2⟩,h4,k,h5,h6⟩:=hf
 replace h3:=hadd h3
 replace h5:=hadd h5
 have H1:=aZ h1
 have H2:=aZ h2
 have H4:=aZ h4
 have H6:=aZ h6
 clear h1 h2 h4 h6
 go_enter Tryz.func178,Tryz.ntmps178
 go_wp2_with fail
 refine(sum_any _ _ _ _ _ H1.out).mono ?_
 rintro z w' ⟨rfl,rfl⟩
 go_wp2_with fail
 refine(sum_any _ _ _ _ _ H2.out).mono ?_
 rintro z w' ⟨rfl,rfl⟩
 go_wp2_with (first|simp only[h3,h5]|fail)
 refine(new_any _ _ _ _ _ H4.out).mono ?_
 rintro z w1 ⟨rfl,hb⟩
 obtain⟨r0,r1,f0,f1⟩:=Two.keep hb (b:=w.heap.size+1+1) (u:=.float .f64 0) (v:=.float .f64 0) ⟨by simp[go_sem],by simp[go_sem],by simp[go_sem],by simp[go_sem]⟩
 have hz:w.heap.size+1+1<w1.heap.size:=by have:=hb.size;simp at this;omega
 have B1:=(((Below.refl _ w).alloc (Nat.le_refl _) _).alloc (by simp) _).alloc (by simp;omega) _ |>.trans (hb.mono (by simp;omega))
 clear hb
 go_wp2_with (first|simp only[h3,h5]|fail)
 refine(new_any _ _ _ _ _ H6.out).mono ?_
 rintro z w2 ⟨rfl,hb2⟩
 obtain⟨s0,s1,g0,g1⟩:=Two.keep hb2 (b:=w.heap.size+1+1) (u:=.float .f64 0) (v:=.float .f64 0) ⟨by simp[go_sem,hz,r0],by simp[go_sem,hz,r1],by simp[go_sem,hz,f0],by simp[go_sem,hz,f1]⟩
 have B2:=(B1.alloc (by omega) _).trans (hb2.mono (by simp;omega))
 clear hb2
 go_wp2
 refine bodyPost_ret (v:=num x y) (by simp[results,Tryz.results178,go_sem,s0,s1,g0,g1,hz]) rfl ⟨rfl,?_⟩
 exact(B2.setCell (p:=⟨_,_,_⟩) (by show w.heap.size<=w.heap.size+1+1;omega) _).setCell (p:=⟨_,_,_⟩) (by show w.heap.size<=w.heap.size+1+1;omega) _
def mulF(a b:Nat×Nat):Option (Nat×Nat):=
 (prodF a.1 b.1).bind λp=>(fmul a.1 b.2).bind λq=>(fmul a.2 b.1).bind λr=>(fadd q r).bind λt=>(fadd p.2 t).bind λe=>sumF p.1 e
theorem mul_any(a b c d x y:Nat)(w:World)(hf:mulF (a,b) (c,d)=some (x,y)):
  Calls Tryz.prog 170 #[num a b,num c d] w λz w'=>z=.returned (num x y)/\Below w.heap.size w w':=by
 simp only[mulF,Option.bind_eq_some_iff] at hf
 obtain⟨⟨p,e⟩,h1,q,h2,r,h3,t,h4,e',h5,h6⟩:=hf
 replace h2:=hmul h2
 replace h3:=hmul h3
 replace h4:=hadd h4
 replace h5:=hadd h5
 have H1:=aZ h1
 have H6:=aZ h6
 clear h1 h6
 go_enter Tryz.func170,Tryz.ntmps170
 go_wp2_with fail
 refine(prod_any _ _ _ _ _ H1.out).mono ?_
 rintro z w' ⟨rfl,rfl⟩
 go_wp2_with (first|simp only[h2,h3,h4,h5]|fail)
 refine(new_any _ _ _ _ _ H6.out).mono ?_
 rintro z w1 ⟨rfl,hb⟩
 obtain⟨r0,r1,f0,f1⟩:=Two.keep hb (b:=w.heap.size+1+1) (u:=.float .f64 0) (v:=.float .f64 0) ⟨by simp[go_sem],by simp[go_sem],by simp[go_sem],by simp[go_sem]⟩
 have B1:=(((Below.refl _ w).alloc (Nat.le_refl _) _).alloc (by simp) _).alloc (by simp;omega) _ |>.trans (hb.mono (by simp;omega))
 clear hb
 go_wp2
 refine bodyPost_ret (v:=num x y) (by simp[results,Tryz.results170,go_sem,r0,r1,f0,f1]) rfl ⟨rfl,?_⟩
 exact(B1.setCell (p:=⟨_,_,_⟩) (by show w.heap.size<=w.heap.size+1+1;omega) _).setCell (p:=⟨_,_,_⟩) (by show w.heap.size<=w.heap.size+1+1;omega) _
theorem float_any(a b r:Nat)(w:World)(hf:fadd a b=some r):
  Calls Tryz.prog 148 #[num a b] w λz w'=>z=.returned (.float .f64 r)/\Below w.heap.size w w':=by
 replace hf:=hadd hf
 go_enter Tryz.func148,Tryz.ntmps148
 go_wp2_with (first|simp only[hf]|fail)
 go_ret
 exact⟨rfl,(Below.refl _ _).alloc (Nat.le_refl _) _⟩
structure OnlyB(b:Nat)(w w':World):Prop where
 os:w'.os=w.os
 tape:w'.tape=w.tape
 output:w'.output=w.output
 size:w.heap.size<=w'.heap.size
 block:∀k,k<w.heap.size->k≠b->w'.heap[k]?=w.heap[k]?
theorem OnlyB.refl(b:Nat)(w:World):OnlyB b w w:=⟨rfl,rfl,rfl,Nat.le_refl _,λ_ _ _=>rfl⟩
theorem OnlyB.trans{b:Nat}{x y z:World}(h:OnlyB b x y)(k:OnlyB b y z):OnlyB b x z:=
 ⟨k.os.trans h.os,k.tape.trans h.tape,k.output.trans h.output,Nat.le_trans h.size k.size,λi hi hb=>(k.block i (Nat.lt_of_lt_of_le hi h.size) hb).trans (h.block i hi hb)⟩
theorem OnlyB.drew{b:Nat}{x y:World}(h:OnlyB b x y):OnlyB b x y.drew:=⟨h.os,h.tape,h.output,h.size,h.block⟩
theorem OnlyB.setCell{b:Nat}{x y:World}(h:OnlyB b x y)(o:Nat)(s:Option Nat)(v:Value):OnlyB b x (y.setCell ⟨b,o,s⟩ v):=
 h.trans ⟨rfl,rfl,rfl,by simp[World.setCell],λk _ hk=>Below.heap_setCell _ _ _ _ hk⟩
theorem OnlyB.alloc{b:Nat}{x y:World}(h:OnlyB b x y)(o:Obj):OnlyB b x (y.alloc o):=
 h.trans ⟨rfl,rfl,rfl,by simp,λk hk _=>Below.heap_alloc _ _ _ hk⟩
theorem OnlyB.cell{b:Nat}{x y:World}(h:OnlyB b x y){p:Addr}(hl:p.block<x.heap.size)(hp:p.block≠b):y.cell? p=x.cell? p:=World.cell?_of_block (w:=x) (h.block p.block hl hp)
theorem OnlyB.frozen{b:Nat}{x y:World}(h:OnlyB b x y){p:Addr}(hl:p.block<x.heap.size)(hp:p.block≠b):y.frozen? p=x.frozen? p:=World.frozen?_of_block (w:=x) (h.block p.block hl hp)
theorem Two.only{W w1:World}{b c:Nat}{u v:Value}(h:OnlyB c W w1)(hbc:b≠c)(t:Two W b u v):Two w1 b u v:=by
 have hl:=t.lt
 refine⟨?_,?_,?_,?_⟩
 ·rw[h.cell (p:=⟨b,0,none⟩) hl hbc];exact t.1
 ·rw[h.cell (p:=⟨b,1,none⟩) hl hbc];exact t.2.1
 ·rw[h.frozen (p:=⟨b,0,none⟩) hl hbc];exact t.2.2.1
 ·rw[h.frozen (p:=⟨b,1,none⟩) hl hbc];exact t.2.2.2
def Limbs(w:World)(b:Nat)(f:Nat->Int):Prop:=∀i,i<110->w.cell? ⟨b,i,none⟩=some (.int .i64 (f i))/\w.frozen? ⟨b,i,none⟩=false
theorem Limbs.lt{w:World}{b:Nat}{f:Nat->Int}(h:Limbs w b f):b<w.heap.size:=World.block_lt_of_cell? _ _ (h 0 (by omega)).1
theorem Limbs.drew{w:World}{b:Nat}{f:Nat->Int}(h:Limbs w b f):Limbs w.drew b f:=λi hi=>h i hi
theorem Limbs.keep{W w1:World}{b:Nat}{f:Nat->Int}(hb:Below W.heap.size W w1)(h:Limbs W b f):Limbs w1 b f:=
 λi hi=>⟨keep_cell hb (h i hi).1,keep_free hb h.lt (h i hi).2⟩
theorem Limbs.alloc{w:World}{b:Nat}{f:Nat->Int}(h:Limbs w b f)(o:Obj):Limbs (w.alloc o) b f:=
 h.keep ((Below.refl _ w).alloc (Nat.le_refl _) o)
def upd(f:Nat->Int)(j:Nat)(v:Int):Nat->Int:=λi=>if i=j then v else f i
def putStep(neg:Bool)(f:Nat->Int)(j:Nat)(p:Nat):Nat->Int:=
 let lo:Int:=if neg then-((p%2^30:Nat):Int) else((p%2^30:Nat):Int)
 let hi:Int:=if neg then-((p/2^30:Nat):Int) else((p/2^30:Nat):Int)
 let g:=upd f j (f j+lo)
 upd g (j+1) (g (j+1)+hi)
def piece(u s i:Nat):Nat:=u/2^(30*i)%2^30*2^s
def putTo(neg:Bool)(f:Nat->Int)(u s K:Nat):Nat->(Nat->Int)
 |0=>f
 |i+1=>putStep neg (putTo neg f u s K i) (K+i) (piece u s i)
def Bnd(f:Nat->Int)(B:Nat):Prop:=∀i,-(B:Int)<=f i/\f i<=B
theorem piece_lt(u s i:Nat)(hs:s<30):piece u s i<2^60:=by
 unfold piece
 have h1:u/2^(30*i)%2^30<2^30:=Nat.mod_lt _ (by decide)
 have h2:2^s<=2^29:=Nat.pow_le_pow_right (by omega) (by omega)
 have:=Nat.mul_le_mul (Nat.le_of_lt h1) h2
 omega
theorem Bnd.step{f:Nat->Int}{B:Nat}(h:Bnd f B)(neg:Bool)(j p:Nat)(hp:p<2^60):Bnd (putStep neg f j p) (B+2^30):=by
 intro i
 have hi:=h i
 have hj:=h j
 have hj1:=h (j+1)
 unfold putStep upd
 have e:j+1≠j:=by omega
 simp only[e,if_false]
 split
 ·split<;>omega
 ·split
  ·split<;>omega
  ·omega
theorem Bnd.to{f:Nat->Int}{B:Nat}(h:Bnd f B)(neg:Bool)(u s K:Nat)(hs:s<30):∀i,Bnd (putTo neg f u s K i) (B+i*2^30)
 |0=>by simpa[putTo] using h
 |i+1=>by
   have:=(Bnd.to h neg u s K hs i).step neg (K+i) _ (piece_lt u s i hs)
   rw[show B+(i+1)*2^30=B+i*2^30+2^30 from by omega]
   exact this
def pm(x:Nat):Int:=
 let m:Int:=if x/2^52%2048=0 then((x%2^52:Nat):Int) else((x%2^52:Nat):Int)+2^52
 if x/2^63=1 then-m else m
def pe(x:Nat):Int:=(if x/2^52%2048=0 then 1 else((x/2^52%2048:Nat):Int))-1075
theorem w2(x:Nat)(h:x<2^64):IntKind.u64.wrap ((x:Int)*2)/9007199254740992=((x/2^52%2048:Nat):Int):=by
 rw[IntKind.wrap_u64];omega
theorem iv_parts{x:Nat}(hx:Fnt x):iv x=pm x*2^(pe x+1074).toNat/\-9007199254740992<pm x/\pm x<9007199254740992/\-1074<=pe x/\pe x<=971:=by
 have h1:=hx.1
 have h2:=hx.2
 have hs:x/2^63=0\/x/2^63=1:=by omega
 have he:x/2^52%2048=x%2^63/2^52:=by omega
 have hm:x%2^52=x%2^63%2^52:=by omega
 have e52:(2:Int)^52=4503599627370496:=by decide
 unfold pm pe
 rw[he,hm]
 by_cases h0:x%2^63/2^52=0
 ·rw[if_pos h0,if_pos h0]
  have hlt:x%2^63<2^52:=by omega
  have hr:iv x=Ieee.signed (x/2^63%2==1) (x%2^63) 0:=by
   unfold iv Ieee.Format.read
   rw[D_least,D_binade,D_sign]
   simp only
   rw[if_pos hlt]
   rfl
  rw[hr,signed_eq]
  rw[Nat.mod_eq_of_lt hlt]
  rcases hs with hs|hs<;>rw[hs]<;>simp<;>omega
 ·rw[if_neg h0,if_neg h0]
  have hlt:¬x%2^63<2^52:=by omega
  have hr:iv x=Ieee.signed (x/2^63%2==1) (2^52+x%2^63%2^52) (x%2^63/2^52-1):=by
   unfold iv Ieee.Format.read
   rw[D_least,D_binade,D_sign,D_inf]
   simp only
   rw[if_neg hlt,if_pos h2]
   simp only[dv]
   congr 1
   omega
  rw[hr,signed_eq]
  have ee:(((x%2^63/2^52:Nat):Int)-1075+1074).toNat=x%2^63/2^52-1:=by omega
  rw[ee]
  refine⟨?_,?_⟩
  ·congr 1
   rcases hs with hs|hs<;>rw[hs]<;>simp<;>omega
  ·rcases hs with hs|hs<;>rw[hs]<;>simp<;>omega
@[go_sem] theorem run_equalIn_float{P:Program}(w:World)(d:Nat)(t:TypeId)(k k':FloatKind)(a b:Nat)(h:P.underlying t=some (.float k')):
  (Op.equalIn (d+1) t (.float k a) (.float k b)).run P w=.ok (k.format.order a b==some .eq) w:=by
 simp[Op.equalIn,run_underlying h,Op.floatEq]
theorem t1:sumF 4607182418800017408 4336966441157787648=some (4607182418800017408,4336966441157787648):=by kernel_rfl
theorem t2:mulF (4607182418800017408,4336966441157787648) (4607182418800017408,4336966441157787648)=some (4607182418800017408,4341470040785158144):=by kernel_rfl
theorem t3:sumF 4607182418800017408 4336966441157787648=some (4607182418800017408,4336966441157787648):=t1
theorem sk{b:Nat}{u v:Value}{w0 w w1:World}(hb:Below w.heap.size w w1)(h:w.cell? ⟨b,0,none⟩=some u/\w.cell? ⟨b,1,none⟩=some v/\Hid (Below w0.heap.size w0 w)):
  w1.cell? ⟨b,0,none⟩=some u/\w1.cell? ⟨b,1,none⟩=some v/\Hid (Below w0.heap.size w0 w1):=
 ⟨keep_cell hb h.1,keep_cell hb h.2.1,aZ (h.2.2.out.trans (hb.mono h.2.2.out.size))⟩
theorem rnd_abs(n:Int):(rnd n).natAbs<=2*n.natAbs:=by
 have:=rnd_rel n
 omega
def Sm(n:Int):Prop:=1024*n.natAbs<=2^Bt
theorem rnd_bd{n K:Int}(h1:-K<=n)(h2:n<=K):-(2*K)<=rnd n/\rnd n<=2*K:=by
 have:=rnd_abs n
 omega
theorem fadd_bd{x y:Nat}{K:Int}(hx:Fnt x)(hy:Fnt y)(h1:-K<=iv x+iv y)(h2:iv x+iv y<=K)(hK:K<((2^Bt:Nat):Int)):
  ∃z,fadd x y=some z/\Fnt z/\iv z=rnd (iv x+iv y)/\-(2*K)<=iv z/\iv z<=2*K:=by
 obtain⟨z,h3,h4,h5⟩:=fadd_spec hx hy (by omega)
 have:=rnd_bd h1 h2
 exact⟨z,h3,h4,h5,by omega,by omega⟩
theorem fsub_bd{x y:Nat}{K:Int}(hx:Fnt x)(hy:Fnt y)(h1:-K<=iv x-iv y)(h2:iv x-iv y<=K)(hK:K<((2^Bt:Nat):Int)):
  ∃z,fsub x y=some z/\Fnt z/\iv z=rnd (iv x-iv y)/\-(2*K)<=iv z/\iv z<=2*K:=by
 obtain⟨z,h3,h4,h5⟩:=fsub_spec hx hy (by omega)
 have:=rnd_bd h1 h2
 exact⟨z,h3,h4,h5,by omega,by omega⟩
theorem sumF_spec{x y:Nat}(hx:Fnt x)(hy:Fnt y)(sx:Sm (iv x))(sy:Sm (iv y)):
  ∃s e,sumF x y=some (s,e)/\Fnt s/\Fnt e/\iv s=rnd (iv x+iv y)/\iv e=iv x+iv y-iv s:=by
 have hp:=Nat.two_pow_pos Bt
 obtain⟨M,hM⟩:∃M:Int,M=((2^Bt/1024:Nat):Int):=⟨_,rfl⟩
 have hM0:0<=M:=by omega
 have hM1:1024*M<=((2^Bt:Nat):Int):=by omega
 have x1:-M<=iv x/\iv x<=M:=by unfold Sm at sx;omega
 have y1:-M<=iv y/\iv y<=M:=by unfold Sm at sy;omega
 clear hM sx sy
 have hT:(1:Int)<=((2^Bt:Nat):Int):=by omega
 clear hp
 generalize hTT:((2^Bt:Nat):Int)=T at*
 have hts:sumE (iv x) (iv y)=iv x+iv y-rnd (iv x+iv y):=two_sum (rep_iv hx) (rep_iv hy)
 have hse:∀s t u f d:Int,s=rnd (iv x+iv y)->t=rnd (s-iv x)->u=rnd (s-t)->f=rnd (iv x-u)->d=rnd (iv y-t)->rnd (f+d)=sumE (iv x) (iv y):=by
  intro s t u f d h1 h2 h3 h4 h5
  unfold sumE
  simp only
  rw[<-h1,<-h2,<-h3,<-h4,<-h5]
 obtain⟨s,h1,f1,v1,p1,q1⟩:=fadd_bd (K:=2*M) hx hy (by omega) (by omega) (by rw[hTT];omega)
 obtain⟨t,h2,f2,v2,p2,q2⟩:=fsub_bd (K:=5*M) f1 hx (by omega) (by omega) (by rw[hTT];omega)
 obtain⟨u,h3,f3,v3,p3,q3⟩:=fsub_bd (K:=14*M) f1 f2 (by omega) (by omega) (by rw[hTT];omega)
 obtain⟨f,h4,f4,v4,p4,q4⟩:=fsub_bd (K:=29*M) hx f3 (by omega) (by omega) (by rw[hTT];omega)
 obtain⟨d,h5,f5,v5,p5,q5⟩:=fsub_bd (K:=11*M) hy f2 (by omega) (by omega) (by rw[hTT];omega)
 obtain⟨e,h6,f6,v6,p6,q6⟩:=fadd_bd (K:=80*M) f4 f5 (by omega) (by omega) (by rw[hTT];omega)
 rw[hse _ _ _ _ _ v1 v2 v3 v4 v5,hts,<-v1] at v6
 refine⟨s,e,?_,f1,f6,v1,v6⟩
 simp only[sumF,h1,h2,h3,h4,h5,h6,Option.bind_some]
theorem xor63(x:Nat)(hx:x<2^64):x ^^^ 2^63=if x<2^63 then x+2^63 else x-2^63:=by
 have key:∀y:Nat,y<2^63->y ^^^ 2^63=2^63+y:=by
  intro y hy
  apply Nat.eq_of_testBit_eq
  intro i
  rw[Nat.testBit_xor,Nat.testBit_two_pow]
  rcases Nat.lt_trichotomy i 63 with h|h|h
  ·rw[Nat.testBit_two_pow_add_gt h]
   have:¬63=i:=by omega
   simp[this]
  ·subst h
   rw[Nat.testBit_two_pow_add_eq]
   simp
  ·have h1:y.testBit i=false:=Nat.testBit_lt_two_pow (Nat.lt_of_lt_of_le hy (Nat.pow_le_pow_right (by omega) (by omega)))
   have h2:(2^63+y).testBit i=false:=Nat.testBit_lt_two_pow (Nat.lt_of_lt_of_le (show 2^63+y<2^64 by omega) (Nat.pow_le_pow_right (by omega) (by omega)))
   have:¬63=i:=by omega
   rw[h1,h2]
   simp[this]
 split
 ·rename_i h
  rw[key x h];omega
 ·rename_i h
  have h1:x=(x-2^63) ^^^ 2^63:=by rw[key _ (by omega)];omega
  have:x ^^^ 2^63=(x-2^63) ^^^ 2^63 ^^^ 2^63:=by rw[<-h1]
  rw[this,Nat.xor_assoc,Nat.xor_self,Nat.xor_zero]
theorem fneg_eq(x:Nat):fneg x=x ^^^ 2^63:=rfl
theorem fneg_spec{x:Nat}(hx:Fnt x):Fnt (fneg x)/\iv (fneg x)=-iv x:=by
 have h1:=hx.1
 have h2:=hx.2
 rw[fneg_eq,xor63 x h1]
 have hm:(if x<2^63 then x+2^63 else x-2^63)%2^63=x%2^63:=by split<;>omega
 have hs:((if x<2^63 then x+2^63 else x-2^63)/2^63%2==1)=!(x/2^63%2==1):=by
  split
  ·rw[show(x+2^63)/2^63=1 from by omega,show x/2^63=0 from by omega];rfl
  ·rw[show(x-2^63)/2^63=0 from by omega,show x/2^63=1 from by omega];rfl
 have hl:(if x<2^63 then x+2^63 else x-2^63)<2^64:=by split<;>omega
 refine⟨⟨hl,by rw[hm];exact h2⟩,?_⟩
 generalize (if x<2^63 then x+2^63 else x-2^63)=y at*
 unfold iv Ieee.Format.read
 rw[D_least,D_binade,D_sign,D_inf,hm,hs]
 simp only
 split
 ·simp only[dv];rw[signed_not]
 ·simp only[dv];rw[signed_not]
theorem iv_one:iv 4607182418800017408=2^U:=by
 have h:iv 4607182418800017408=Ieee.signed false (2^52) 1022:=by
  show dv (D.read 4607182418800017408)=_
  have:D.read 4607182418800017408=.number false (2^52) (-52):=by decide+kernel
  rw[this];rfl
 rw[h,signed_eq]
 have e:(2:Int)^U=2^52*2^1022:=by rw[U_eq,<-Int.pow_add]
 rw[e]
 simp only[Bool.false_eq_true,if_false,Int.one_mul]
 congr 1
theorem fnt_one:Fnt 4607182418800017408:=by decide+kernel
theorem pow_mono{a b:Nat}(h:a<=b):(2:Nat)^a<=2^b:=Nat.pow_le_pow_right (by omega) h
theorem iv_zero:iv 0=0:=by decide+kernel
theorem natAbs_sm(g:Int)(m k:Nat)(hg:g=1\/g=-1):(g*(m:Int)*2^k).natAbs=m*2^k:=by
 rw[Int.natAbs_mul,Int.natAbs_mul,Int.natAbs_pow]
 rcases hg with rfl|rfl<;>simp
theorem sc_lt{n:Int}{j:Nat}(h:n.natAbs<=2^250)(hj:j<=1800):(n*2^j).natAbs<2^Bt:=by
 rw[Int.natAbs_mul,Int.natAbs_pow]
 show n.natAbs*2^j<2^Bt
 have h1:2^250*2^j<2^Bt:=by
  rw[<-Nat.pow_add]
  exact Nat.pow_lt_pow_right (by omega) (by have:=Bt_eq;omega)
 exact Nat.lt_of_le_of_lt (Nat.mul_le_mul_right _ h) h1
theorem add_sc{x y:Nat}{a b:Int}{j:Nat}(hx:Fnt x)(hy:Fnt y)(ex:iv x=a*2^j)(ey:iv y=b*2^j)(hb:(a+b).natAbs<=2^250)(hj:j<=1800):
  ∃z,fadd x y=some z/\Fnt z/\iv z=rnd (a+b)*2^j:=by
 have e:iv x+iv y=(a+b)*2^j:=by rw[ex,ey,Int.add_mul]
 obtain⟨z,h1,h2,h3⟩:=fadd_spec hx hy (by rw[e];exact sc_lt hb hj)
 exact⟨z,h1,h2,by rw[h3,e,rnd_scale]⟩
theorem sub_sc{x y:Nat}{a b:Int}{j:Nat}(hx:Fnt x)(hy:Fnt y)(ex:iv x=a*2^j)(ey:iv y=b*2^j)(hb:(a-b).natAbs<=2^250)(hj:j<=1800):
  ∃z,fsub x y=some z/\Fnt z/\iv z=rnd (a-b)*2^j:=by
 have e:iv x-iv y=(a-b)*2^j:=by rw[ex,ey,Int.sub_mul]
 obtain⟨z,h1,h2,h3⟩:=fsub_spec hx hy (by rw[e];exact sc_lt hb hj)
 exact⟨z,h1,h2,by rw[h3,e,rnd_scale]⟩
theorem mul_sc{x y:Nat}{a b:Int}{k l j:Nat}(hx:Fnt x)(hy:Fnt y)(ex:iv x=a*2^k)(ey:iv y=b*2^l)(hkl:k+l=j+U)(hb:(a*b).natAbs<=2^250)(hj:j<=1800):
  ∃z,fmul x y=some z/\Fnt z/\iv z=rnd (a*b)*2^j:=by
 have e:iv x*iv y=(a*b*2^j)*2^U:=by
  rw[ex,ey,Int.mul_assoc (a*b),<-Int.pow_add,<-hkl,Int.pow_add,Int.mul_assoc,Int.mul_assoc,Int.mul_left_comm (2^k)]
 obtain⟨z,h1,h2,h3⟩:=fmul_whole hx hy e (sc_lt hb hj)
 exact⟨z,h1,h2,by rw[h3,rnd_scale]⟩
theorem iv_C:iv 4728779608772575232=134217729*2^U:=by
 have h:iv 4728779608772575232=Ieee.signed false (134217729*2^25) 1049:=by
  show dv (D.read 4728779608772575232)=_
  have:D.read 4728779608772575232=.number false (134217729*2^25) (-25):=by decide+kernel
  rw[this];rfl
 rw[h,signed_eq]
 have e:(2:Int)^U=2^25*2^1049:=by rw[U_eq,<-Int.pow_add]
 rw[e]
 simp only[Bool.false_eq_true,if_false,Int.one_mul]
 rw[<-Int.mul_assoc]
 congr 1
theorem fnt_C:Fnt 4728779608772575232:=by decide+kernel
theorem splitF_spec{x:Nat}{A:Int}{k:Nat}(hx:Fnt x)(ex:iv x=A*2^k)(hA:A.natAbs<=2^53)(hk:k<=1800):
  ∃h l,splitF x=some (h,l)/\Fnt h/\Fnt l/\iv h=splitH A*2^k/\iv l=splitL A*2^k/\(splitH A).natAbs<=2^86/\(splitL A).natAbs<=2^88:=by
 have hse:∀c d h l:Int,c=rnd (134217729*A)->d=rnd (c-A)->h=rnd (c-d)->l=rnd (A-h)->h=splitH A/\l=splitL A:=by
  intro c d h l h1 h2 h3 h4
  have:h=splitH A:=by unfold splitH;simp only;rw[<-h1,<-h2,<-h3]
  refine⟨this,?_⟩
  unfold splitL
  rw[<-this,<-h4]
 have b0:(134217729*A).natAbs<=2^81:=by omega
 obtain⟨c,h1,f1,v1⟩:=mul_sc (j:=k) fnt_C hx iv_C ex (by omega) (by omega) hk
 obtain⟨C,hC⟩:∃C,C=rnd (134217729*A):=⟨_,rfl⟩
 have b1:=rnd_abs (134217729*A)
 rw[<-hC] at v1 b1
 obtain⟨d,h2,f2,v2⟩:=sub_sc f1 hx v1 ex (by omega) hk
 obtain⟨E,hE⟩:∃E,E=rnd (C-A):=⟨_,rfl⟩
 have b2:=rnd_abs (C-A)
 rw[<-hE] at v2 b2
 have c2:E.natAbs<=2^84:=by omega
 have c1:C.natAbs<=2^82:=by omega
 clear b1 b2 b0
 obtain⟨h,h3,f3,v3⟩:=sub_sc f1 f2 v1 v2 (by omega) hk
 obtain⟨H,hH⟩:∃H,H=rnd (C-E):=⟨_,rfl⟩
 have b3:=rnd_abs (C-E)
 rw[<-hH] at v3 b3
 have c3:H.natAbs<=2^86:=by omega
 clear b3
 obtain⟨l,h4,f4,v4⟩:=sub_sc hx f3 ex v3 (by omega) hk
 obtain⟨L,hL⟩:∃L,L=rnd (A-H):=⟨_,rfl⟩
 have b4:=rnd_abs (A-H)
 rw[<-hL] at v4 b4
 have c4:L.natAbs<=2^88:=by omega
 obtain⟨e1,e2⟩:=hse C E H L hC hE hH hL
 refine⟨h,l,?_,f3,f4,by rw[v3,e1],by rw[v4,e2],by rw[<-e1];exact c3,by rw[<-e2];exact c4⟩
 simp only[splitF,h1,h2,h3,h4,Option.bind_some]
theorem natAbs_mul_le{a b:Int}{i j:Nat}(h1:a.natAbs<=2^i)(h2:b.natAbs<=2^j):(a*b).natAbs<=2^(i+j):=by
 rw[Int.natAbs_mul,Nat.pow_add]
 exact Nat.mul_le_mul h1 h2
theorem prodF_chain{x y:Nat}{A B:Int}{k l j:Nat}(hx:Fnt x)(hy:Fnt y)(ex:iv x=A*2^k)(ey:iv y=B*2^l)(hA:A.natAbs<=2^53)(hB:B.natAbs<=2^53)(hkl:k+l=j+U)(hk:k<=1800)(hl:l<=1800)(hj:j<=1800):
  ∃p e,prodF x y=some (p,e)/\fmul x y=some p/\Fnt p/\Fnt e/\iv p=rnd (A*B)*2^j/\iv e=prodE A B (rnd (A*B))*2^j:=by
 obtain⟨p,h0,f0,v0⟩:=mul_sc hx hy ex ey hkl (Nat.le_trans (natAbs_mul_le hA hB) (by decide)) hj
 obtain⟨a1,a2,ha,g1,g2,w1,w2,n1,n2⟩:=splitF_spec hx ex hA hk
 obtain⟨b1,b2,hb,g3,g4,w3,w4,n3,n4⟩:=splitF_spec hy ey hB hl
 have hpr:prodE A B (rnd (A*B))=rnd (rnd (rnd (rnd (rnd (splitH A*splitH B)-rnd (A*B))+rnd (splitH A*splitL B))+rnd (splitL A*splitH B))+rnd (splitL A*splitL B)):=rfl
 rw[hpr]
 clear hpr
 have m0:=natAbs_mul_le hA hB
 have r0:=rnd_abs (A*B)
 generalize rnd (A*B)=P at*
 generalize splitH A=h at*
 generalize splitL A=l' at*
 generalize splitH B=i at*
 generalize splitL B=m at*
 have m1:=natAbs_mul_le n1 n3
 have m2:=natAbs_mul_le n1 n4
 have m3:=natAbs_mul_le n2 n3
 have m4:=natAbs_mul_le n2 n4
 have r1:=rnd_abs (h*i)
 have r2:=rnd_abs (h*m)
 have r3:=rnd_abs (l'*i)
 have r4:=rnd_abs (l'*m)
 obtain⟨q1,k1,s1,t1⟩:=mul_sc g1 g3 w1 w3 hkl (Nat.le_trans m1 (by decide)) hj
 obtain⟨q2,k2,s2,t2⟩:=mul_sc g1 g4 w1 w4 hkl (Nat.le_trans m2 (by decide)) hj
 obtain⟨q3,k3,s3,t3⟩:=mul_sc g2 g3 w2 w3 hkl (Nat.le_trans m3 (by decide)) hj
 obtain⟨q4,k4,s4,t4⟩:=mul_sc g2 g4 w2 w4 hkl (Nat.le_trans m4 (by decide)) hj
 generalize A*B=AB at*
 generalize h*i=hi at*
 generalize h*m=hm at*
 generalize l'*i=li at*
 generalize l'*m=lm at*
 generalize rnd hi=R1 at*
 generalize rnd hm=R2 at*
 generalize rnd li=R3 at*
 generalize rnd lm=R4 at*
 have z0:P.natAbs<=2^107:=by omega
 have z1:R1.natAbs<=2^173:=by omega
 have z2:R2.natAbs<=2^175:=by omega
 have z3:R3.natAbs<=2^175:=by omega
 have z4:R4.natAbs<=2^177:=by omega
 clear m0 r0 m1 m2 m3 m4 r1 r2 r3 r4 n1 n2 n3 n4 hA hB
 obtain⟨e1,k5,s5,t5⟩:=sub_sc s1 f0 t1 v0 (by omega) hj
 have r5:=rnd_abs (R1-P)
 generalize rnd (R1-P)=E1 at*
 have z5:E1.natAbs<=2^175:=by omega
 clear r5 z1 z0
 obtain⟨e2,k6,s6,t6⟩:=add_sc s5 s2 t5 t2 (by omega) hj
 have r6:=rnd_abs (E1+R2)
 generalize rnd (E1+R2)=E2 at*
 have z6:E2.natAbs<=2^178:=by omega
 clear r6 z5 z2
 obtain⟨e3,k7,s7,t7⟩:=add_sc s6 s3 t6 t3 (by omega) hj
 have r7:=rnd_abs (E2+R3)
 generalize rnd (E2+R3)=E3 at*
 have z7:E3.natAbs<=2^181:=by omega
 clear r7 z6 z3
 obtain⟨e4,k8,s8,t8⟩:=add_sc s7 s4 t7 t4 (by omega) hj
 refine⟨p,e4,?_,h0,f0,s8,v0,t8⟩
 simp only[prodF,h0,ha,hb,k1,k2,k3,k4,k5,k6,k7,k8,Option.bind_some]
theorem splitH_zero:splitH 0=0:=by unfold splitH;simp[rnd_zero]
theorem splitL_zero:splitL 0=0:=by unfold splitL;rw[splitH_zero];simp[rnd_zero]
theorem prodE_zl(B:Int):prodE 0 B (rnd (0*B))=0:=by
 unfold prodE
 simp[splitH_zero,splitL_zero,rnd_zero]
theorem prodE_zr(A:Int):prodE A 0 (rnd (A*0))=0:=by
 unfold prodE
 simp[splitH_zero,splitL_zero,rnd_zero]
structure Mk(x:Nat)(A:Int)(k:Nat):Prop where
 f:Fnt x
 e:iv x=A*2^k
 n:A=0\/2^52<=A.natAbs
 lt:A.natAbs<2^53
theorem prodF_spec{x y:Nat}{A B:Int}{k l j:Nat}(hx:Mk x A k)(hy:Mk y B l)(hkl:k+l=j+U)(hk:k<=1800)(hl:l<=1800)(hj:j<=1800):
  ∃p e,prodF x y=some (p,e)/\fmul x y=some p/\Fnt p/\Fnt e/\iv p=rnd (A*B)*2^j/\iv e=(A*B-rnd (A*B))*2^j:=by
 obtain⟨p,e,h1,h2,h3,h4,h5,h6⟩:=prodF_chain hx.f hy.f hx.e hy.e (Nat.le_of_lt hx.lt) (Nat.le_of_lt hy.lt) hkl hk hl hj
 refine⟨p,e,h1,h2,h3,h4,h5,?_⟩
 rw[h6]
 congr 1
 rcases hx.n with ha|ha
 ·subst ha
  rw[prodE_zl];simp[rnd_zero]
 ·rcases hy.n with hb|hb
  ·subst hb
   rw[prodE_zr];simp[rnd_zero]
  ·exact dekker A B ha hx.lt hb hy.lt
theorem pm_norm{x:Nat}(hx:Fnt x):pe x=-1074\/2^52<=(pm x).natAbs:=by
 unfold pe pm
 by_cases h:x/2^52%2048=0
 ·left;rw[if_pos h];rfl
 ·right
  have e52:(2:Int)^52=4503599627370496:=by decide
  simp only[if_neg h]
  split<;>omega
theorem iv_abs{x:Nat}(hx:Fnt x):(iv x).natAbs=(pm x).natAbs*2^(pe x+1074).toNat:=by
 rw[(iv_parts hx).1,Int.natAbs_mul,Int.natAbs_pow];rfl
theorem pow_lt_inv{a b:Nat}(h:2^a<2^b):a<b:=by
 apply Decidable.byContradiction
 intro hc
 have:=pow_mono (show b<=a by omega)
 omega
theorem pe_lo{x a:Nat}(hx:Fnt x)(lo:2^a<=(iv x).natAbs):(a:Int)-52-1074<=pe x:=by
 obtain⟨_,h2,h3,h4,h5⟩:=iv_parts hx
 rw[iv_abs hx] at lo
 have h6:(pm x).natAbs*2^(pe x+1074).toNat<2^53*2^(pe x+1074).toNat:=Nat.mul_lt_mul_of_pos_right (by omega) (Nat.two_pow_pos _)
 rw[<-Nat.pow_add] at h6
 have:=pow_lt_inv (Nat.lt_of_le_of_lt lo h6)
 omega
theorem pe_hi{x b:Nat}(hx:Fnt x)(hi:(iv x).natAbs<2^b):pe x=-1074\/pe x<=(b:Int)-53-1074:=by
 obtain⟨_,h2,h3,h4,h5⟩:=iv_parts hx
 rcases pm_norm hx with h|h
 ·exact .inl h
 ·right
  rw[iv_abs hx] at hi
  have h6:2^52*2^(pe x+1074).toNat<=(pm x).natAbs*2^(pe x+1074).toNat:=Nat.mul_le_mul_right _ h
  rw[<-Nat.pow_add] at h6
  have:=pow_lt_inv (Nat.lt_of_le_of_lt h6 hi)
  omega
theorem Mk.abs{x:Nat}{A:Int}{k:Nat}(h:Mk x A k):(iv x).natAbs=A.natAbs*2^k:=by
 rw[h.e,Int.natAbs_mul,Int.natAbs_pow];rfl
theorem Mk.lo{x:Nat}{A:Int}{k:Nat}(h:Mk x A k)(h0:A≠0):(k:Int)-1074<=pe x:=by
 have h1:2^(52+k)<=(iv x).natAbs:=by
  rw[h.abs,Nat.pow_add]
  exact Nat.mul_le_mul_right _ (by rcases h.n with h|h;exact absurd h h0;exact h)
 have:=pe_lo h.f h1
 omega
theorem Mk.hi{x:Nat}{A:Int}{k:Nat}(h:Mk x A k):pe x<=(k:Int)-1074:=by
 have h1:(iv x).natAbs<2^(53+k):=by
  rw[h.abs,Nat.pow_add]
  exact Nat.mul_lt_mul_of_pos_right h.lt (Nat.two_pow_pos _)
 have:=pe_hi h.f h1
 omega
theorem fnt_zero:Fnt 0:=by decide
@[irreducible] def loE:Nat:=933
@[irreducible] def hiE:Nat:=1215
@[irreducible] def lowE:Nat:=674
structure Tame(X Y:Nat):Prop where
 fX:Fnt X
 fY:Fnt Y
 neat:rnd (iv X+iv Y)=iv X
 size:(iv X=0/\iv Y=0)\/(2^loE<=(iv X).natAbs/\(iv X).natAbs<2^hiE)
 low:iv Y=0\/2^lowE<=(iv Y).natAbs
end Go.Proofs.YtfedabinindpbaaGreat.T
namespace Go.Proofs.YtfedabinindpbaaGreat.T
open Fl
theorem rel2(n:Int){K:Int}(h1:-K<=n)(h2:n<=K):9007199254740992*(rnd n-n)<=K/\-K<=9007199254740992*(rnd n-n):=by
 have:=rnd_rel n
 omega
theorem relN(n:Int){K:Int}(h1:-K<=9007199254740990*n)(h2:9007199254740990*n<=K):
  9007199254740990*9007199254740992*(rnd n-n)<=K/\-K<=9007199254740990*9007199254740992*(rnd n-n)/\9007199254740990*rnd n<=2*K/\-(2*K)<=9007199254740990*rnd n:=by
 have h:=rnd_rel n
 generalize rnd n=r at*
 refine⟨?_,?_,?_,?_⟩<;>omega
theorem sm_of_le{n:Int}{K:Int}(h1:-K<=n)(h2:n<=K)(hK:1024*K<=((2^Bt:Nat):Int)):Sm n:=by
 unfold Sm;omega
theorem addF_spec{a b c d:Nat}{M:Int}(fa:Fnt a)(fb:Fnt b)(fc:Fnt c)(fd:Fnt d)(na:rnd (iv a+iv b)=iv a)(nc:rnd (iv c+iv d)=iv c)(a1:-M<=iv a)(a2:iv a<=M)(c1:-M<=iv c)(c2:iv c<=M)(hM:16384*M<=((2^Bt:Nat):Int)):
  ∃x y,addF (a,b) (c,d)=some (x,y)/\Fnt x/\Fnt y/\iv x=rnd (iv x+iv y)/\Sm (iv x)/\Sm (iv y)/\
   2^97*(iv x+iv y-(iv a+iv b+iv c+iv d))<=M/\-M<=2^97*(iv x+iv y-(iv a+iv b+iv c+iv d)):=by
 have hp:=Nat.two_pow_pos Bt
 have hT:(1:Int)<=((2^Bt:Nat):Int):=by omega
 clear hp
 obtain⟨T,hTT⟩:∃T:Int,T=((2^Bt:Nat):Int):=⟨_,rfl⟩
 have sml:∀n:Int,-(16*M)<=n->n<=16*M->Sm n:=λn h1 h2=>sm_of_le (K:=16*M) h1 h2 (by omega)
 rw[<-hTT] at hT hM
 have hM0:0<=M:=by omega
 have rb:=rnd_rel (iv a+iv b)
 rw[na] at rb
 have rd:=rnd_rel (iv c+iv d)
 rw[nc] at rd
 have b1:9007199254740990*iv b<=M/\-M<=9007199254740990*iv b:=by omega
 have d1:9007199254740990*iv d<=M/\-M<=9007199254740990*iv d:=by omega
 clear rb rd
 obtain⟨s,e,h1,f1,f2,v1,v2⟩:=sumF_spec fa fc (sml _ (by omega) (by omega)) (sml _ (by omega) (by omega))
 obtain⟨t,f,h2,f3,f4,v3,v4⟩:=sumF_spec fb fd (sml _ (by omega) (by omega)) (sml _ (by omega) (by omega))
 have r1:=rel2 (iv a+iv c) (K:=2*M) (by omega) (by omega)
 rw[<-v1] at r1
 have r2:=relN (iv b+iv d) (K:=2*M) (by omega) (by omega)
 rw[<-v3] at r2
 have sb:-(4*M)<=iv s/\iv s<=4*M:=by omega
 have eb:-(2*M)<=9007199254740992*iv e/\9007199254740992*iv e<=2*M:=by omega
 have tb:-(4*M)<=9007199254740990*iv t/\9007199254740990*iv t<=4*M:=by omega
 have fb2:-(2*M)<=9007199254740990*9007199254740992*iv f/\9007199254740990*9007199254740992*iv f<=2*M:=by omega
 obtain⟨g,h3,f5,v5⟩:=fadd_spec f2 f3 (by rw[hTT] at hM;omega)
 have et:-(6*M)<=9007199254740990*(iv e+iv t)/\9007199254740990*(iv e+iv t)<=6*M:=by omega
 have r3:=relN (iv e+iv t) et.1 et.2
 rw[<-v5] at r3
 have gb:-M<=iv g/\iv g<=M:=by omega
 obtain⟨nh,nl,h4,f6,f7,v6,v7⟩:=sumF_spec f1 f5 (sml _ (by omega) (by omega)) (sml _ (by omega) (by omega))
 have r4:=rel2 (iv s+iv g) (K:=5*M) (by omega) (by omega)
 rw[<-v6] at r4
 have lb:-(5*M)<=9007199254740992*iv nl/\9007199254740992*iv nl<=5*M:=by omega
 obtain⟨k,h5,f8,v8⟩:=fadd_spec f7 f4 (by rw[hTT] at hM;omega)
 have kf:-(6*M)<=9007199254740990*(iv nl+iv f)/\9007199254740990*(iv nl+iv f)<=6*M:=by omega
 have r5:=relN (iv nl+iv f) kf.1 kf.2
 rw[<-v8] at r5
 obtain⟨x,y,h6,f9,f10,v9,v10⟩:=sumF_spec f6 f8 (sml _ (by omega) (by omega)) (sml _ (by omega) (by omega))
 have r6:=rel2 (iv nh+iv k) (K:=8*M) (by omega) (by omega)
 rw[<-v9] at r6
 refine⟨x,y,?_,f9,f10,?_,sml _ (by omega) (by omega),sml _ (by omega) (by omega),?_,?_⟩
 ·simp only[addF,h1,h2,h3,h4,h5,h6,Option.bind_some]
 ·rw[v10,v9];congr 1;omega
 ·have e:iv x+iv y-(iv a+iv b+iv c+iv d)=(iv g-(iv e+iv t))+(iv k-(iv nl+iv f)):=by omega
  rw[e]
  clear e sml
  omega
 ·have e:iv x+iv y-(iv a+iv b+iv c+iv d)=(iv g-(iv e+iv t))+(iv k-(iv nl+iv f)):=by omega
  rw[e]
  clear e sml
  omega
theorem mk_of{x lo hi:Nat}(fx:Fnt x)(h1:2^lo<=(iv x).natAbs)(h2:(iv x).natAbs<2^hi)(hl:53<=lo):∃(A:Int) (k:Nat),Mk x A k/\lo<=k+52/\k+53<=hi:=by
 have e:=iv_parts fx
 have p1:=pe_lo fx h1
 have p2:=pe_hi fx h2
 have p3:=pm_norm fx
 refine⟨pm x,(pe x+1074).toNat,⟨fx,e.1,?_,by omega⟩,by omega,by omega⟩
 rcases p3 with p3|p3
 ·omega
 ·exact .inr p3
theorem mk_prod{x y:Nat}{A B:Int}{k l:Nat}(hx:Mk x A k)(hy:Mk y B l)(h:1074<=k+l):iv x*iv y=(A*B*2^(k+l-U))*2^U:=by
 have hU:=U_eq
 rw[hx.e,hy.e,Int.mul_assoc (A*B),<-Int.pow_add,show k+l-U+U=k+l from by omega,Int.pow_add,Int.mul_assoc,Int.mul_assoc,Int.mul_left_comm (2^k)]
end Go.Proofs.YtfedabinindpbaaGreat.T
namespace Go.Proofs.YtfedabinindpbaaGreat.T
open Fl Ieee
theorem rns_rel(s N:Nat):2^53*(rns s N*2^s)<=2^53*N+(N+2^52*2^s)/\2^53*N<=2^53*(rns s N*2^s)+(N+2^52*2^s):=by
 obtain⟨h1,h2,_⟩:=ce_near N (lvs s N)
 have hlo:=lvs_lo s N
 have hge:s<=lvs s N:=by unfold lvs;omega
 have e:rns s N*2^s=ce N (lvs s N)*2^lvs s N:=by
  unfold rns
  rw[Nat.mul_assoc,<-Nat.pow_add,show lvs s N-s+s=lvs s N from by omega]
 rw[e]
 have hk:2^52*2^lvs s N<=N+2^52*2^s:=by
  rcases hlo with h|h
  ·rw[h];omega
  ·rw[Nat.pow_add] at h;omega
 generalize ce N (lvs s N)*2^lvs s N=q at*
 generalize 2^lvs s N=P at*
 generalize 2^s=S at*
 omega
theorem fmul_rel{x y:Nat}(hx:Fnt x)(hy:Fnt y)(hb:(iv x*iv y).natAbs<2^(Bt+U)):
  ∃z,fmul x y=some z/\Fnt z/\2^53*(iv z*2^U-iv x*iv y)<=(iv x*iv y).natAbs+2^52*2^U/\2^53*(iv x*iv y-iv z*2^U)<=(iv x*iv y).natAbs+2^52*2^U:=by
 obtain⟨z,h1,h2,h3,h4,h5⟩:=fmul_spec hx hy hb
 have hr:=rns_rel U (iv x*iv y).natAbs
 rw[<-h3] at hr
 refine⟨z,h1,h2,?_⟩
 have e:((2^U:Nat):Int)=2^U:=Int.natCast_pow _ _
 generalize iv x*iv y=p at*
 generalize iv z=v at*
 obtain⟨a,b⟩:=hr
 have e53:(2:Int)^53=9007199254740992:=by decide
 have e52:(2:Int)^52=4503599627370496:=by decide
 have n53:(2:Nat)^53=9007199254740992:=by decide
 have n52:(2:Nat)^52=4503599627370496:=by decide
 rw[n53,n52] at a b
 rw[e53,e52,<-e]
 have hw:((v.natAbs*2^U:Nat):Int)=(v.natAbs:Int)*((2^U:Nat):Int):=Int.natCast_mul _ _
 generalize (2:Nat)^U=P at*
 by_cases hp:0<=p
 ·have hv:=h4 hp
  have ev:(v.natAbs:Int)=v:=by omega
  rw[ev] at hw
  rw[<-hw]
  generalize v.natAbs*P=w at*
  clear hw e h3
  constructor<;>omega
 ·have hv:=h5 (by omega)
  have ev:(v.natAbs:Int)=-v:=by omega
  rw[ev,Int.neg_mul] at hw
  generalize v.natAbs*P=w at*
  generalize v*(P:Int)=u at*
  clear e h3
  constructor<;>omega
theorem quot_rel(m n:Nat)(hm:m<2^53)(hm0:m≠0)(hn:n≠0):∀more q,more=54+n.log2-m.log2->q=2*((m <<< more)/n)+((m <<< more)%n != 0).toNat->
  q*n<=m*2^(more+1)+n/\m*2^(more+1)<=q*n+n/\2^54*n<=m*2^(more+1):=by
 intro more q h1 h2
 have hl:m.log2<53:=(Nat.log2_lt hm0).2 hm
 have h3:2^m.log2<=m:=Nat.log2_self_le hm0
 have h4:n<2^(n.log2+1):=Nat.lt_log2_self
 rw[Nat.shiftLeft_eq] at h2
 have e:m*2^(more+1)=2*(m*2^more):=by rw[Nat.pow_succ,<-Nat.mul_assoc,Nat.mul_comm]
 rw[e]
 have hbig:2^53*n<=m*2^more:=by
  have a:2^m.log2*2^more<=m*2^more:=Nat.mul_le_mul_right _ h3
  rw[<-Nat.pow_add,show m.log2+more=53+(n.log2+1) from by omega,Nat.pow_add] at a
  omega
 have hd:=Nat.div_add_mod (m*2^more) n
 have hr:=Nat.mod_lt (m*2^more) (show 0<n by omega)
 generalize m*2^more=D at*
 have eq:q*n=2*(n*(D/n))+(D%n != 0).toNat*n:=by
  rw[h2,Nat.add_mul,Nat.mul_assoc,Nat.mul_comm (D/n) n]
 rw[eq]
 generalize n*(D/n)=A at*
 by_cases hz:D%n=0
 ·simp[hz] at*
  omega
 ·have:(D%n != 0)=true:=by simpa using hz
  rw[this]
  simp
  omega
theorem quot_scaled(V X Y G N S W q n m:Nat)(P:Nat)(hVS:2^53*(V*S)<=2^53*N+(N+2^52*S))(hSV:2^53*N<=2^53*(V*S)+(N+2^52*S))(hN:N=q*W)(hS:n*S=Y*G)(hX:m*W=X*P*G)(h1:q*n<=m+n)(h2:m<=q*n+n)(h3:2^54*n<=m)(hG:0<G):2^52*(V*Y)<=2^52*(X*P)+(X*P+2^51*Y)/\2^52*(X*P)<=2^52*(V*Y)+(X*P+2^51*Y):=by
 have a1:=Nat.mul_le_mul_right n hVS
 have a2:=Nat.mul_le_mul_right n hSV
 have b1:=Nat.mul_le_mul_right W h1
 have b2:=Nat.mul_le_mul_right W h2
 have b3:=Nat.mul_le_mul_right W h3
 have e1:V*S*n=V*Y*G:=by rw[Nat.mul_assoc,Nat.mul_comm S n,hS,Nat.mul_assoc]
 have e2:S*n=Y*G:=by rw[Nat.mul_comm,hS]
 have e3:N*n=q*n*W:=by rw[hN,Nat.mul_assoc,Nat.mul_comm W n,Nat.mul_assoc]
 simp only[Nat.add_mul,Nat.mul_assoc (2^53),Nat.mul_assoc (2^52),Nat.mul_assoc (2^54),e1,e2,e3,hX] at a1 a2 b1 b2 b3
 have r:∀p q:Nat,p*G<=q*G->p<=q:=λp q h=>Nat.le_of_mul_le_mul_right h hG
 constructor
 ·apply r
  simp only[Nat.add_mul,Nat.mul_assoc (2^52),Nat.mul_assoc (2^51)]
  generalize V*Y*G=a at*
  generalize X*P*G=b at*
  generalize q*n*W=c at*
  generalize n*W=d at*
  generalize Y*G=y at*
  clear r e1 e2 e3 h1 h2 h3 hVS hSV hN hS hX
  omega
 ·apply r
  simp only[Nat.add_mul,Nat.mul_assoc (2^52),Nat.mul_assoc (2^51)]
  generalize V*Y*G=a at*
  generalize X*P*G=b at*
  generalize q*n*W=c at*
  generalize n*W=d at*
  generalize Y*G=y at*
  clear r e1 e2 e3 h1 h2 h3 hVS hSV hN hS hX
  omega
theorem fdiv_rel{x y:Nat}(hx:Fnt x)(hy:Fnt y)(hy0:iv y≠0)(hb:4*((iv x).natAbs*2^U)<(iv y).natAbs*2^Bt):
  ∃z,fdiv x y=some z/\Fnt z/\2^52*(iv z*iv y-iv x*2^U)<=(iv x).natAbs*2^U+2^51*(iv y).natAbs/\2^52*(iv x*2^U-iv z*iv y)<=(iv x).natAbs*2^U+2^51*(iv y).natAbs:=by
 obtain⟨s,m,k,h1,hm,_,_,vx⟩:=read_fin hx
 obtain⟨t,n,l,g1,hn,_,_,vy⟩:=read_fin hy
 have hn0:n≠0:=by rintro rfl;rw[vy] at hy0;simp at hy0
 have hmx:(iv x).natAbs=m*2^k:=by rw[vx];exact natAbs_sm _ m k (by cases s<;>simp)
 have hmy:(iv y).natAbs=n*2^l:=by rw[vy];exact natAbs_sm _ n l (by cases t<;>simp)
 obtain⟨more,hmore⟩:∃more,more=54+n.log2-m.log2:=⟨_,rfl⟩
 obtain⟨q,hq⟩:∃q,q=2*((m <<< more)/n)+((m <<< more)%n != 0).toNat:=⟨_,rfl⟩
 have hU:=U_eq
 have hz:fdiv x y=some (D.nearest (s ^^ t) q ((k:Int)-1074-((l:Int)-1074)-more-1)):=by
  unfold fdiv Format.div
  rw[h1,g1]
  have e:D.fractionBits+2=54:=rfl
  rw[e,hq,hmore]
  simp only[Datum.quotient,hn0,if_false,Option.map_some]
  rfl
 by_cases hm0:m=0
 ·have hq0:q=0:=by rw[hq,hm0];simp
  have hsp:=nearest_spec (s ^^ t) q ((k:Int)-1074-((l:Int)-1074)-more-1) (l+more+1) 0 (by omega) (by rw[hq0];simp) (Nat.two_pow_pos _)
  refine⟨_,hz,hsp.1,?_⟩
  have ez:iv (D.nearest (s ^^ t) q ((k:Int)-1074-((l:Int)-1074)-more-1))=0:=by
   rw[hsp.2]
   have:rns (l+more+1) 0=0:=by simp[rns,ce]
   rw[this];simp
  have ex:iv x=0:=by rw[vx,hm0];simp
  rw[ez,ex,Int.zero_mul,Int.zero_mul]
  constructor<;>simp<;>omega
 ·obtain⟨q1,q2,q3⟩:=quot_rel m n hm hm0 hn0 more q hmore hq
  have hG:=Nat.two_pow_pos (more+1)
  have hS:n*2^(l+more+1)=n*2^l*2^(more+1):=by rw[Nat.mul_assoc,<-Nat.pow_add,Nat.add_assoc]
  have hX:m*2^(more+1)*2^(k+U)=m*2^k*2^U*2^(more+1):=by
   rw[Nat.mul_assoc,Nat.mul_assoc,Nat.mul_assoc,<-Nat.pow_add,<-Nat.pow_add,<-Nat.pow_add]
   congr 2;omega
  have hNb:q*2^(k+U)<2^(Bt+(l+more+1)):=by
   have a:=Nat.mul_le_mul_right (2^(k+U)) q1
   have b:=Nat.mul_le_mul_right (2^(k+U)) q3
   rw[hmx,hmy] at hb
   have c:=Nat.mul_lt_mul_of_pos_right hb hG
   rw[Nat.mul_assoc 4,<-hX] at c
   have d:n*2^l*2^Bt*2^(more+1)=n*2^(Bt+(l+more+1)):=by
    rw[Nat.mul_assoc,Nat.mul_assoc,<-Nat.pow_add,<-Nat.pow_add]
    congr 2;omega
   rw[d] at c
   rw[Nat.add_mul] at a
   rw[Nat.mul_assoc] at b
   have e:n*(q*2^(k+U))<n*2^(Bt+(l+more+1)):=by
    rw[<-Nat.mul_assoc,Nat.mul_comm n q]
    generalize q*n*2^(k+U)=A at*
    generalize m*2^(more+1)*2^(k+U)=B at*
    generalize n*2^(k+U)=C at*
    omega
   exact Nat.lt_of_mul_lt_mul_left e
  have hsp:=nearest_spec (s ^^ t) q ((k:Int)-1074-((l:Int)-1074)-more-1) (l+more+1) (q*2^(k+U)) (by omega) (by congr 2;omega) hNb
  obtain⟨r1,r2⟩:=rns_rel (l+more+1) (q*2^(k+U))
  obtain⟨f1,f2⟩:=quot_scaled _ (m*2^k) (n*2^l) (2^(more+1)) _ _ (2^(k+U)) q n (m*2^(more+1)) (2^U) r1 r2 rfl hS hX q1 q2 q3 hG
  refine⟨_,hz,hsp.1,?_⟩
  rw[hsp.2,hmx,hmy,vx,vy]
  generalize rns (l+more+1) (q*2^(k+U))=V at*
  have ek:(2:Int)^k=((2^k:Nat):Int):=(Int.natCast_pow _ _).symm
  have el:(2:Int)^l=((2^l:Nat):Int):=(Int.natCast_pow _ _).symm
  have eU:(2:Int)^U=((2^U:Nat):Int):=(Int.natCast_pow _ _).symm
  rw[ek,el,eU]
  have g1:((2^52*(V*(n*2^l)):Nat):Int)<=((2^52*(m*2^k*2^U)+(m*2^k*2^U+2^51*(n*2^l)):Nat):Int):=Int.ofNat_le.2 f1
  have g2:((2^52*(m*2^k*2^U):Nat):Int)<=((2^52*(V*(n*2^l))+(m*2^k*2^U+2^51*(n*2^l)):Nat):Int):=Int.ofNat_le.2 f2
  clear f1 f2 r1 r2 hsp hz hNb hX hS q1 q2 q3 hb hmx hmy vx vy ek el eU
  generalize 2^k=K at*
  generalize 2^l=L at*
  generalize 2^U=P at*
  have e1:((V*(n*L):Nat):Int)=(V:Int)*((n:Int)*L):=by rw[Int.natCast_mul,Int.natCast_mul]
  have e2:((m*K*P:Nat):Int)=(m:Int)*K*P:=by rw[Int.natCast_mul,Int.natCast_mul]
  have e3:((n*L:Nat):Int)=(n:Int)*L:=Int.natCast_mul _ _
  have k1:∀a b:Int,(∃g:Int,(g=1\/g=-1)/\a=g*((V:Int)*((n:Int)*L))/\b=g*((m:Int)*K*P))->
    2^52*(a-b)<=((m*K:Nat):Int)*P+2^51*((n*L:Nat):Int)/\2^52*(b-a)<=((m*K:Nat):Int)*P+2^51*((n*L:Nat):Int):=by
   rintro a b ⟨g,hg,rfl,rfl⟩
   have e4:((m*K:Nat):Int)*P=((m*K*P:Nat):Int):=(Int.natCast_mul _ _).symm
   rw[e4,<-e1,<-e2]
   generalize V*(n*L)=A at*
   generalize m*K*P=B at*
   generalize n*L=C at*
   clear e1 e2 e3 e4
   rcases hg with rfl|rfl
   ·constructor<;>omega
   ·constructor<;>omega
  have hsg:∀(s t:Bool),∃g:Int,(g=1\/g=-1)/\(if(s ^^ t) then-1 else 1)*(V:Int)*((if t then-1 else 1)*(n:Int)*L)=g*((V:Int)*((n:Int)*L))/\(if s then-1 else 1)*(m:Int)*K*P=g*((m:Int)*K*P):=by
   intro s t
   cases s<;>cases t
   ·exact⟨1,.inl rfl,by simp[Int.neg_mul,Int.mul_neg,Int.mul_assoc],by simp[Int.neg_mul,Int.mul_neg,Int.mul_assoc]⟩
   ·exact⟨1,.inl rfl,by simp[Int.neg_mul,Int.mul_neg,Int.mul_assoc],by simp[Int.neg_mul,Int.mul_neg,Int.mul_assoc]⟩
   ·exact⟨-1,.inr rfl,by simp[Int.neg_mul,Int.mul_neg,Int.mul_assoc],by simp[Int.neg_mul,Int.mul_neg,Int.mul_assoc]⟩
   ·exact⟨-1,.inr rfl,by simp[Int.neg_mul,Int.mul_neg,Int.mul_assoc],by simp[Int.neg_mul,Int.mul_neg,Int.mul_assoc]⟩
  exact k1 _ _ (hsg s t)
end Go.Proofs.YtfedabinindpbaaGreat.T
namespace Go.Proofs.YtfedabinindpbaaGreat.T
open Fl
theorem near_div{z p S:Int}(hS:0<S)(h1:9007199254740992*(z*S-p)<=p.natAbs+4503599627370496*S)(h2:9007199254740992*(p-z*S)<=p.natAbs+4503599627370496*S):
  ∃Q:Int,Q*S<=p/\p<Q*S+S/\9007199254740992*(z-Q)<=Q.natAbs+36028797018963968/\9007199254740992*(Q-z)<=Q.natAbs+36028797018963968:=by
 have hd:=Int.mul_ediv_add_emod p S
 have hr0:=Int.emod_nonneg p (show S≠0 by omega)
 have hr1:=Int.emod_lt_of_pos p hS
 rw[Int.mul_comm] at hd
 generalize p/S=Q at*
 generalize p%S=r at*
 have e1:(z-Q)*S=z*S-Q*S:=Int.sub_mul _ _ _
 have e3:(Q-z)*S=Q*S-z*S:=Int.sub_mul _ _ _
 have e2:(Q.natAbs:Int)*S=(Q*S).natAbs:=by
  rw[Int.natAbs_mul,Int.natCast_mul]
  congr 1
  omega
 have hp:(p.natAbs:Int)<=(Q.natAbs:Int)*S+S:=by rw[e2];omega
 refine⟨Q,by omega,by omega,?_,?_⟩
 ·refine Int.le_of_mul_le_mul_right ?_ hS
  rw[Int.mul_assoc,Int.add_mul,e1]
  omega
 ·refine Int.le_of_mul_le_mul_right ?_ hS
  rw[Int.mul_assoc,Int.add_mul,e3]
  omega
theorem fmul_near{x y:Nat}(hx:Fnt x)(hy:Fnt y)(hb:(iv x*iv y).natAbs<2^(Bt+U)):
  ∃(z:Nat) (Q:Int),fmul x y=some z/\Fnt z/\Q*((2^U:Nat):Int)<=iv x*iv y/\iv x*iv y<Q*((2^U:Nat):Int)+((2^U:Nat):Int)/\
   9007199254740992*(iv z-Q)<=Q.natAbs+36028797018963968/\9007199254740992*(Q-iv z)<=Q.natAbs+36028797018963968:=by
 obtain⟨z,h1,h2,h3,h4⟩:=fmul_rel hx hy hb
 have e:(2:Int)^U=((2^U:Nat):Int):=(Int.natCast_pow _ _).symm
 have e53:(2:Int)^53=9007199254740992:=by decide
 have e52:(2:Int)^52=4503599627370496:=by decide
 rw[e,e53,e52] at h3 h4
 obtain⟨Q,g⟩:=near_div (by have:=Nat.two_pow_pos U;omega) h3 h4
 exact⟨z,Q,h1,h2,g⟩
theorem floor_le{Q p S M N:Int}(hS:0<S)(hN:0<N)(h1:Q*S<=p)(h2:p<Q*S+S)(a:-(M*S)<=N*p)(b:N*p<=M*S):N*Q<=M/\-(M+N)<=N*Q:=by
 constructor
 ·refine Int.le_of_mul_le_mul_right ?_ hS
  rw[Int.mul_assoc]
  exact Int.le_trans (Int.mul_le_mul_of_nonneg_left h1 (by omega)) b
 ·refine Int.le_of_mul_le_mul_right ?_ hS
  rw[Int.neg_mul,Int.add_mul,Int.mul_assoc]
  have h3:=Int.mul_le_mul_of_nonneg_left (show p<=Q*S+S by omega) (show 0<=N by omega)
  rw[Int.mul_add] at h3
  omega
theorem mulF_gen{a b c d p e:Nat}{P S M:Int}(hS:S=((2^U:Nat):Int))(fa:Fnt a)(fb:Fnt b)(fc:Fnt c)(fd:Fnt d)(hP:prodF a c=some (p,e))(fp:Fnt p)(fe:Fnt e)(vp:iv p=rnd P)(ve:iv e=P-rnd P)(hPS:iv a*iv c=P*S)(p1:-M<=P)(p2:P<=M)(q1:-(M*S)<=9007199254740990*(iv a*iv d))(q2:9007199254740990*(iv a*iv d)<=M*S)(r1:-(M*S)<=9007199254740990*(iv b*iv c))(r2:9007199254740990*(iv b*iv c)<=M*S)(t1:-(M*S)<=(9007199254740990*9007199254740990)*(iv b*iv d))(t2:(9007199254740990*9007199254740990)*(iv b*iv d)<=M*S)(hbq:(iv a*iv d).natAbs<2^(Bt+U))(hbr:(iv b*iv c).natAbs<2^(Bt+U))(hM1:1298074214633706907132624082305024<=M)(hM:16384*M<=((2^Bt:Nat):Int)):
  ∃(x y:Nat) (N:Int),mulF (a,b) (c,d)=some (x,y)/\Fnt x/\Fnt y/\iv x=rnd (iv x+iv y)/\Sm (iv x)/\Sm (iv y)/\
   N*S<=(iv a+iv b)*(iv c+iv d)/\(iv a+iv b)*(iv c+iv d)<N*S+3*S/\
   2^97*(iv x+iv y-N)<=M/\-M<=2^97*(iv x+iv y-N):=by
 obtain⟨TT,hTT⟩:∃T:Int,T=((2^Bt:Nat):Int):=⟨_,rfl⟩
 have sml:∀n:Int,-(16*M)<=n->n<=16*M->Sm n:=λn h1 h2=>sm_of_le (K:=16*M) h1 h2 (by omega)
 have hSp:0<S:=by rw[hS];have:=Nat.two_pow_pos U;omega
 obtain⟨q,Q,h2,f2,Q1,Q2,v2,v2'⟩:=fmul_near fa fd hbq
 obtain⟨r,R,h3,f3,R1,R2,v3,v3'⟩:=fmul_near fb fc hbr
 rw[<-hS] at Q1 Q2 R1 R2
 have T1:(iv b*iv d)/S*S<=iv b*iv d:=Int.ediv_mul_le _ (by omega)
 have T2:iv b*iv d<(iv b*iv d)/S*S+S:=by have:=Int.lt_ediv_add_one_mul_self (iv b*iv d) hSp;rw[Int.add_mul,Int.one_mul] at this;exact this
 generalize (iv b*iv d)/S=T at T1 T2
 have bq:=floor_le hSp (by decide) Q1 Q2 q1 q2
 have br:=floor_le hSp (by decide) R1 R2 r1 r2
 have bt:=floor_le hSp (by decide) T1 T2 t1 t2
 have ex:(iv a+iv b)*(iv c+iv d)=P*S+iv a*iv d+(iv b*iv c+iv b*iv d):=by
  rw[Int.add_mul,Int.mul_add,Int.mul_add,hPS]
 have eN:(P+Q+R+T)*S=P*S+Q*S+R*S+T*S:=by simp only[Int.add_mul]
 have L1:(P+Q+R+T)*S<=(iv a+iv b)*(iv c+iv d):=by rw[ex,eN];omega
 have L2:(iv a+iv b)*(iv c+iv d)<(P+Q+R+T)*S+3*S:=by rw[ex,eN];omega
 clear ex eN Q1 Q2 R1 R2 T1 T2 q1 q2 r1 r2 t1 t2 hPS hbq hbr
 have rp:=rel2 P p1 p2
 rw[<-vp] at rp
 have rq:9007199254740990*9007199254740992*(iv q-Q)<=2*M/\-(2*M)<=9007199254740990*9007199254740992*(iv q-Q)/\9007199254740990*iv q<=2*M/\-(2*M)<=9007199254740990*iv q:=by
  refine⟨?_,?_,?_,?_⟩<;>omega
 have rr:9007199254740990*9007199254740992*(iv r-R)<=2*M/\-(2*M)<=9007199254740990*9007199254740992*(iv r-R)/\9007199254740990*iv r<=2*M/\-(2*M)<=9007199254740990*iv r:=by
  refine⟨?_,?_,?_,?_⟩<;>omega
 clear v2 v2' v3 v3' bq br
 have eb:-M<=9007199254740992*iv e/\9007199254740992*iv e<=M:=by rw[ve,<-vp];omega
 obtain⟨t,h4,f4,v4⟩:=fadd_spec f2 f3 (by omega)
 have rt:=relN (iv q+iv r) (K:=4*M) (by omega) (by omega)
 rw[<-v4] at rt
 obtain⟨e',h5,f5,v5⟩:=fadd_spec fe f4 (by omega)
 have re:=relN (iv e+iv t) (K:=9*M) (by omega) (by omega)
 rw[<-v5] at re
 have pb:-(2*M)<=iv p/\iv p<=2*M:=by omega
 obtain⟨x,y,h6,f9,f10,v9,v10⟩:=sumF_spec fp f5 (sml _ (by omega) (by omega)) (sml _ (by omega) (by omega))
 have r6:=rel2 (iv p+iv e') (K:=3*M) (by omega) (by omega)
 rw[<-v9] at r6
 refine⟨x,y,P+Q+R+T,?_,f9,f10,?_,sml _ (by omega) (by omega),sml _ (by omega) (by omega),L1,L2,?_,?_⟩
 ·simp only[mulF,hP,h2,h3,h4,h5,h6,Option.bind_some]
 ·rw[v10,v9];congr 1;omega
 ·have e:iv x+iv y-(P+Q+R+T)=(iv e'-(iv e+iv t))+(iv t-(iv q+iv r))+(iv q-Q)+(iv r-R)-T:=by omega
  rw[e]
  clear e sml L1 L2
  omega
 ·have e:iv x+iv y-(P+Q+R+T)=(iv e'-(iv e+iv t))+(iv t-(iv q+iv r))+(iv q-Q)+(iv r-R)-T:=by omega
  rw[e]
  clear e sml L1 L2
  omega
end Go.Proofs.YtfedabinindpbaaGreat.T
namespace Go.Proofs.YtfedabinindpbaaGreat.T
open Go.RowKit Fl
theorem hid_refl(D:World):Hid (Below D.heap.size D D):=aZ (Below.refl _ _)
theorem undrew{X w':World}(h:Below X.drew.heap.size X.drew w'):Below X.heap.size X w':=⟨h.os,h.tape,h.output,h.size,h.block⟩
theorem hid_drew(D:World):Hid (Below D.heap.size D D.drew):=aZ (Below.refl _ _).drew
theorem hid_set{D w1:World}{p:Nat}{n m:Nat}{u v:Value}(hb:Hid (Below D.heap.size D w1))(hp:D.heap.size<=p):Hid (Below D.heap.size D ((w1.setCell ⟨p,n,none⟩ u).setCell ⟨p,m,none⟩ v)):=aZ ((hb.out.setCell (p:=⟨p,n,none⟩) hp u).setCell (p:=⟨p,m,none⟩) hp v)
theorem hid_alloc{D w1:World}{o:Obj}(hb:Hid (Below D.heap.size D w1)):Hid (Below D.heap.size D (w1.alloc o)):=aZ (hb.out.alloc hb.out.size _)
theorem Two.alloc{w:World}{b:Nat}{u v:Value}(h:Two w b u v)(o:Obj):Two (w.alloc o) b u v:=h.keep ((Below.refl _ w).alloc (Nat.le_refl _) o)
theorem Two.new(w:World)(u v:Value)(t:TypeId):Two (w.alloc (.cells #[u,v] t)) w.heap.size u v:=⟨by simp[go_sem],by simp[go_sem],by simp[go_sem],by simp[go_sem]⟩
theorem Two.new'{w:World}{b:Nat}(h:b=w.heap.size)(u v:Value)(t:TypeId):Two (w.alloc (.cells #[u,v] t)) b u v:=h▸Two.new w u v t
theorem Two.drew{w:World}{b:Nat}{u v:Value}(h:Two w b u v):Two w.drew b u v:=h
theorem keepA{w w':World}{u v:Value}{t:TypeId}(hbb:Below (w.alloc (.cells #[u,v] t)).heap.size (w.alloc (.cells #[u,v] t)) w'):
  Two w' w.heap.size u v:=(Two.new w u v t).keep hbb
theorem Two.over0{w w':World}{b:Nat}{u v:Value}(h:Two w b u v)(hbb:Below w.heap.size w w'):Two w' b u v:=h.keep hbb
theorem Two.setOther{w:World}{b:Nat}{u v:Value}(h:Two w b u v)(p:Addr)(hp:p.block≠b)(z:Value):Two (w.setCell p z) b u v:=by
 obtain⟨r0,r1,f0,f1⟩:=h
 refine⟨?_,?_,by rw[World.frozen?_setCell];exact f0,by rw[World.frozen?_setCell];exact f1⟩
 ·rw[World.cell?_setCell_other]
  ·exact r0
  ·exact λh=>hp (congrArg Addr.block h)
 ·rw[World.cell?_setCell_other]
  ·exact r1
  ·exact λh=>hp (congrArg Addr.block h)
theorem Two.setBoth{w:World}{b:Nat}{u v:Value}(h:Two w b u v)(x y:Value):Two ((w.setCell ⟨b,0,none⟩ x).setCell ⟨b,1,none⟩ y) b x y:=by
 obtain⟨r0,r1,f0,f1⟩:=h
 refine⟨by simp[go_sem,r0,r1],by simp[go_sem,r0,r1],by rw[World.frozen?_setCell,World.frozen?_setCell];exact f0,by rw[World.frozen?_setCell,World.frozen?_setCell];exact f1⟩
def restF(x y q:Nat×Nat):Option (Nat×Nat):=(mulF y q).bind λm=>addF x (fneg m.1,fneg m.2)
def quoStep(x y q:Nat×Nat):Option (Nat×Nat):=(restF x y q).bind λr=>(fdiv r.1 y.1).bind λd=>addF q (d,0)
def quoF(x y:Nat×Nat):Option (Nat×Nat):=(fdiv x.1 y.1).bind λd=>(quoStep x y (d,0)).bind λq=>quoStep x y q
theorem skQ{b0 b1 b2:Nat}{t u x y s r:Value}{D w1:World}(h0:Two D b0 t u)(h1:Two D b1 x y)(h2:Two D b2 s r)(hb:Below D.heap.size D w1):
  w1.cell? ⟨b0,0,none⟩=some t/\w1.cell? ⟨b0,1,none⟩=some u/\w1.cell? ⟨b1,0,none⟩=some x/\w1.cell? ⟨b1,1,none⟩=some y/\w1.cell? ⟨b2,0,none⟩=some s/\w1.cell? ⟨b2,1,none⟩=some r/\Hid (Below D.heap.size D w1):=
 ⟨keep_cell hb h0.1,keep_cell hb h0.2.1,keep_cell hb h1.1,keep_cell hb h1.2.1,keep_cell hb h2.1,keep_cell hb h2.2.1,aZ hb⟩
theorem sBQ{A B C E F G:Prop}{D W w':World}(hbb:Below W.heap.size W w')(h:A/\B/\C/\E/\F/\G/\Hid (Below D.heap.size D W)):Hid (Below D.heap.size D w'):=
 aZ (h.2.2.2.2.2.2.out.trans (hbb.mono h.2.2.2.2.2.2.out.size))
theorem skQ1{b0 b1 b2:Nat}{t u x y s r:Value}{D w1:World}(h0:Two D b0 t u)(h1:Two D b1 x y)(h2:Two D b2 s r)(hb:Hid (Below D.heap.size D w1)):
  w1.cell? ⟨b0,0,none⟩=some t/\w1.cell? ⟨b0,1,none⟩=some u/\w1.cell? ⟨b1,0,none⟩=some x/\w1.cell? ⟨b1,1,none⟩=some y/\w1.cell? ⟨b2,0,none⟩=some s/\w1.cell? ⟨b2,1,none⟩=some r/\Hid (Below D.heap.size D w1):=skQ h0 h1 h2 hb.out
theorem quoStep_parts{a b c d g h:Nat}{q:Nat×Nat}(hq:quoStep (a,b) (c,d) q=some (g,h)):
  ∃m1 m2 r1 r2 z,mulF (c,d) q=some (m1,m2)/\addF (a,b) (fneg m1,fneg m2)=some (r1,r2)/\fdiv r1 c=some z/\addF q (z,0)=some (g,h):=by
 simp only[quoStep,restF,Option.bind_eq_some_iff] at hq
 obtain⟨⟨r1,r2⟩,⟨⟨m1,m2⟩,h1,h2⟩,z,h3,h4⟩:=hq
 exact⟨m1,m2,r1,r2,z,h1,h2,h3,h4⟩
theorem quo_any(a b c d:Nat)(Q:Nat->Nat×Nat)(w:World)(h0:fdiv a c=some (Q 0).1)(h00:(Q 0).2=0)(hQ:∀k,k<2->quoStep (a,b) (c,d) (Q k)=some (Q (k+1))):
  Calls Tryz.prog 171 #[num a b,num c d] w λz w'=>z=.returned (num (Q 2).1 (Q 2).2)/\Below w.heap.size w w':=by
 replace h0:=hdiv h0
 have HQ:=aZ hQ
 have H00:=aZ h00
 obtain⟨e0,he0⟩:∃e0,e0=(Q 0).1:=⟨_,rfl⟩
 rw[<-he0] at h0
 have HE0:=aZ he0
 clear hQ h00 he0
 go_enter Tryz.func171,Tryz.ntmps171
 go_wp2_with (first|simp only[h0]|fail)
 go_loopw [6,13] (λs i wr=>∃k:Nat,k<=2/\i=.int .i64 k/\Hid (Two wr w.heap.size (.float .f64 a) (.float .f64 b))/\Hid (Two wr (w.heap.size+1) (.float .f64 c) (.float .f64 d))/\Hid (Two wr (w.heap.size+2) (.float .f64 0) (.float .f64 0))/\Hid (Two wr (w.heap.size+3) (.float .f64 (Q k).1) (.float .f64 (Q k).2))/\Hid (Below w.heap.size w wr)) (λ_ i _=>2-(intOf i).toNat)
 case atStart=>
  refine⟨0,by omega,rfl,aZ ?_,aZ ?_,aZ ?_,aZ ?_,aZ ?_⟩
  ·exact(((Two.new w _ _ _).alloc _).alloc _).alloc _
  ·exact((Two.new' (by simp) _ _ _).alloc _).alloc _
  ·exact(Two.new' (by simp) _ _ _).alloc _
  ·rw[H00.out,<-HE0.out]
   exact Two.new' (by simp) _ _ _
  ·exact((((Below.refl _ w).alloc (Nat.le_refl _) _).alloc (by simp) _).alloc (by simp;omega) _).alloc (by simp;omega) _
 case round=>
  obtain⟨k,hk,rfl,t0,t1,t2,t3,hb⟩:=hrel
  by_cases hlt:k<2
  ·have hki:(k:Int)<2:=by omega
   obtain⟨D,hD⟩:∃D,D=wr:=⟨_,rfl⟩
   rw[<-hD] at t0 t1 t2 t3 hb|-
   clear hD
   obtain⟨⟨g,h⟩,hgh⟩:∃gh,gh=Q (k+1):=⟨_,rfl⟩
   obtain⟨⟨e,f⟩,hef⟩:∃ef,ef=Q k:=⟨_,rfl⟩
   obtain⟨m1,m2,r1,r2,z,hm,hr,hz,hq⟩:=quoStep_parts (a:=a) (b:=b) (c:=c) (d:=d) (g:=g) (h:=h) (q:=(e,f)) (by rw[hgh,hef];exact HQ.out k hlt)
   replace hz:=hdiv hz
   have HM:=aZ hm
   have HR:=aZ hr
   have HA:=aZ hq
   have HGH:=aZ hgh
   rw[<-hef] at t3
   clear hm hr hq hgh hef
   have hzD:w.heap.size+3<D.heap.size:=t3.out.lt
   go_upto_region 4 with fail
   go_cut [6] from 15 to 20 (λs6 wx=>∃p,s6=.pointer (some ⟨p,0,none⟩)/\Two wx p (.float .f64 r1) (.float .f64 r2)/\D.heap.size<=p/\Below D.heap.size D wx)
   case first=>
    go_region_held3 (λw'=>w'.cell? ⟨w.heap.size,0,none⟩=some (.float .f64 a)/\w'.cell? ⟨w.heap.size,1,none⟩=some (.float .f64 b)/\w'.cell? ⟨w.heap.size+1,0,none⟩=some (.float .f64 c)/\w'.cell? ⟨w.heap.size+1,1,none⟩=some (.float .f64 d)/\w'.cell? ⟨w.heap.size+3,0,none⟩=some (.float .f64 e)/\w'.cell? ⟨w.heap.size+3,1,none⟩=some (.float .f64 f)/\Hid (Below D.heap.size D w'))
     (first
      |with_reducible exact skQ1 t0.out t1.out t3.out (hid_drew _)
      |with_reducible exact skQ1 t0.out t1.out t3.out (hid_refl _)
      |with_reducible exact skQ1 t0.out t1.out t3.out (by assumption)
      |with_reducible exact skQ1 t0.out t1.out t3.out (hid_alloc (by assumption))
      |with_reducible exact skQ1 t0.out t1.out t3.out (hid_alloc (hid_refl _))
      |with_reducible exact skQ1 t0.out t1.out t3.out (hid_alloc (hid_drew _))
      |with_reducible exact skQ1 t0.out t1.out t3.out (hid_set (by assumption) (by omega))
      |with_reducible exact skQ1 t0.out t1.out t3.out (hid_set (hid_alloc (by assumption)) (by omega))
      |fail)
     (first
      |(first|(go_at_call 170;refine(mul_any _ _ _ _ _ _ _ HM.out).mono ?_)|(go_at_call 163;refine(neg_any _ _ _).mono ?_)|(go_at_call 178;refine(add_any _ _ _ _ _ _ _ HR.out).mono ?_);
        rintro z w' ⟨rfl,hbb⟩;have hbw:=(by with_reducible exact sBQ hbb (by assumption):Hid (Below D.heap.size D w'));have hs:=hbb.size;have hbs:=hbw.out.size;
        try(with_reducible (replace hbb:=undrew hbb));
        try(with_reducible (have o2:=Two.over0 o1 hbb));
        try(with_reducible (have o1:=Two.over0 k1 hbb));
        try(with_reducible (have k1:=keepA hbb));
        try(have oo:=k1;have ol:=oo.lt;obtain⟨r0,r1,f0,f1⟩:=oo);
        try(have oo:=o1;have ol:=oo.lt;obtain⟨r0,r1,f0,f1⟩:=oo);
        try(have oo:=o2;have ol:=oo.lt;obtain⟨r0,r1,f0,f1⟩:=oo)))
    all_goals(go_wp2_with fail;go_meet)
    all_goals refine⟨_,rfl,?_,?_,?_⟩
    all_goals first
     |omega
     |(simp;done)
     |(simp;omega)
     |with_reducible exact Two.new _ _ _ _
     |with_reducible exact Two.new' (by simp) _ _ _
     |with_reducible exact Two.setBoth (by assumption) _ _
     |with_reducible exact(hid_alloc (by assumption)).out
     |with_reducible exact(hid_set (by assumption) (by omega)).out
     |fail
   case rest=>
    obtain⟨p,rfl,hp,hpD,hbw⟩:=hcut
    obtain⟨x0,x1,x2,x3⟩:=t1.out.keep hbw
    obtain⟨y0,y1,y2,y3⟩:=t3.out.keep hbw
    obtain⟨z0,z1,z2,z3⟩:=hp
    go_wp2_with (first|simp only[hz]|fail)
    refine(add_any _ _ _ _ _ _ _ HA.out).mono ?_
    rintro v w5 ⟨rfl,hb5⟩
    have hb6:Below D.heap.size D w5:=hbw.trans (hb5.mono hbw.size)
    have T3:=t3.out.keep hb6
    have n0:∀(b:Nat),b≠w.heap.size+3->∀u v,Two D b u v->Hid (Two ((w5.setCell ⟨w.heap.size+3,0,none⟩ (.float .f64 g)).setCell ⟨w.heap.size+3,1,none⟩ (.float .f64 h)) b u v):=λb hbn u v hT=>
     aZ (((hT.keep hb6).setOther ⟨w.heap.size+3,0,none⟩ (λe=>hbn e.symm) _).setOther ⟨w.heap.size+3,1,none⟩ (λe=>hbn e.symm) _)
    have N0:=n0 _ (by omega) _ _ t0.out
    have N1:=n0 _ (by omega) _ _ t1.out
    have N2:=n0 _ (by omega) _ _ t2.out
    have N3:=aZ (T3.setBoth (.float .f64 g) (.float .f64 h))
    have NB:Hid (Below w.heap.size w ((w5.setCell ⟨w.heap.size+3,0,none⟩ (.float .f64 g)).setCell ⟨w.heap.size+3,1,none⟩ (.float .f64 h))):=aZ (((hb.out.trans (hb6.mono hb.out.size)).setCell (p:=⟨_,_,_⟩) (by show w.heap.size<=w.heap.size+3;omega) _).setCell (p:=⟨_,_,_⟩) (by show w.heap.size<=w.heap.size+3;omega) _)
    obtain⟨k0,k1,k2,k3⟩:=T3
    have hz5:w.heap.size+3<w5.heap.size:=by have:=hb6.size;omega
    have eg:g=(Q (k+1)).1:=congrArg Prod.fst HGH.out
    have eh:h=(Q (k+1)).2:=congrArg Prod.snd HGH.out
    have EG:=aZ eg
    have EH:=aZ eh
    clear n0 eg eh x0 x1 x2 x3 y0 y1 y2 y3 z0 z1 z2 z3 hb5 hb6 hbw t0 t1 t2 t3 hb
    go_wp2
    refine⟨⟨k+1,by omega,by go_num,N0,N1,N2,?_,NB⟩,by simp[intOf];omega⟩
    rw[<-EG.out,<-EH.out]
    exact N3
  ·obtain rfl:k=2:=by omega
   obtain⟨g0,g1,g2,g3⟩:=t2.out
   obtain⟨s0,s1,s2,s3⟩:=t3.out
   have ht2:=t2.out.lt
   have hz:=hb.out.size
   go_wp2
   refine bodyPost_ret (v:=num (Q 2).1 (Q 2).2) (by simp[results,Tryz.results171,go_sem,g0,g1]) rfl ⟨rfl,?_⟩
   exact(hb.out.setCell (p:=⟨_,_,_⟩) (by show w.heap.size<=w.heap.size+2;omega) _).setCell (p:=⟨_,_,_⟩) (by show w.heap.size<=w.heap.size+2;omega) _
end Go.Proofs.YtfedabinindpbaaGreat.T
namespace Go.Proofs.YtfedabinindpbaaGreat.T
open Fl
theorem tame_second{X Y:Int}(h:rnd (X+Y)=X):9007199254740990*Y<=X.natAbs/\-(X.natAbs:Int)<=9007199254740990*Y:=by
 have:=rnd_rel (X+Y)
 rw[h] at this
 omega
theorem part_le{N:Nat}(u:Int){v x:Int}(h:N*v.natAbs<=x.natAbs):N*(u*v).natAbs<=(u*x).natAbs:=by
 rw[Int.natAbs_mul,Int.natAbs_mul,Nat.mul_left_comm]
 exact Nat.mul_le_mul_left _ h
theorem part_le'{N:Nat}(u:Int){v x:Int}(h:N*v.natAbs<=x.natAbs):N*(v*u).natAbs<=(x*u).natAbs:=by
 rw[Int.mul_comm v,Int.mul_comm x];exact part_le u h
theorem prod_expand(a b c d:Int):(a+b)*(c+d)=a*c+a*d+b*c+b*d:=by
 rw[Int.add_mul,Int.mul_add,Int.mul_add];omega
theorem parts4{c d e f:Int}(hd:9007199254740990*d.natAbs<=c.natAbs)(hf:9007199254740990*f.natAbs<=e.natAbs):
  9007199254740990*(c*f).natAbs<=(c*e).natAbs/\9007199254740990*(d*e).natAbs<=(c*e).natAbs/\9007199254740990*(9007199254740990*(d*f).natAbs)<=(c*e).natAbs:=by
 have h1:=part_le c hf
 have h2:=part_le' e hd
 have h3:=part_le d hf
 exact⟨h1,h2,Nat.le_trans (Nat.mul_le_mul_left _ h3) h2⟩
theorem abs_lt_mul{x y:Int}{m n:Nat}(h1:x.natAbs<2^m)(h2:y.natAbs<2^n):(x*y).natAbs<2^(m+n):=by
 rw[Int.natAbs_mul,Nat.pow_add];exact Nat.mul_lt_mul'' h1 h2
theorem two_sided{x y:Int}{L:Int}(h:9007199254740990*x.natAbs<=y.natAbs)(hL:(y.natAbs:Int)<=L):-L<=9007199254740990*x/\9007199254740990*x<=L:=by omega
theorem two_sided2{x y:Int}{L:Int}(h:9007199254740990*(9007199254740990*x.natAbs)<=y.natAbs)(hL:(y.natAbs:Int)<=L):-L<=(9007199254740990*9007199254740990)*x/\(9007199254740990*9007199254740990)*x<=L:=by omega
theorem abs_mul_pos{x S:Int}(hS:0<S):((x*S).natAbs:Int)=(x.natAbs:Int)*S:=by
 rw[Int.natAbs_mul,Int.natCast_mul]
 congr 1;omega
theorem scale_le{x y S:Int}(hS:0<S)(h:x<=y):x*S<=y*S:=Int.mul_le_mul_of_nonneg_right h (by omega)
end Go.Proofs.YtfedabinindpbaaGreat.T
