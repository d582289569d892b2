/- Plans in memory; plans that can be. -/
import Derived.Test.YteaimnemobnknaaRM
import Derived.Test.YteaimnemobnknaaMW2
set_option linter.unusedSimpArgs false
set_option linter.unusedVariables false
namespace Go.Proofs.Yteaimnemobnknaa
open Go.RowKit Go.Lib
section
variable {M : Mem}
abbrev plV(kind n r:Int)(A:Option Addr)(k c:Nat):Value:=.agg #[.int .i64 kind,.int .i64 n,.int .i64 r,.slice A k c]
def PlBox(w:World)(b:Nat)(kind n r:Int)(A:Option Addr)(k c:Nat):Prop:=
 w.cell? ⟨b,0,none⟩=some (.int .i64 kind)/\w.cell? ⟨b,1,none⟩=some (.int .i64 n)/\w.cell? ⟨b,2,none⟩=some (.int .i64 r)/\w.cell? ⟨b,3,none⟩=some (.slice A k c)
theorem PlBox.new(w:World)(kind n r:Int)(A:Option Addr)(k c:Nat)(t:TypeId):PlBox (w.alloc (.cells #[.int .i64 kind,.int .i64 n,.int .i64 r,.slice A k c] t)) w.heap.size kind n r A k c:=
 ⟨by simp[go_sem],by simp[go_sem],by simp[go_sem],by simp[go_sem]⟩
theorem PlBox.keep(H:M.Ok){w w':World}{b:Nat}{kind n r:Int}{A:Option Addr}{l c:Nat}(h:PlBox w b kind n r A l c)(k:M.On w w')(hs:M.St w):PlBox w' b kind n r A l c:=
 ⟨H.cell hs k.fr h.1,H.cell hs k.fr h.2.1,H.cell hs k.fr h.2.2.1,H.cell hs k.fr h.2.2.2⟩
def Kids(w:World):Option Addr->Nat->Fo->Prop
 |_,_,.nil=>True
 |A,i,.cons kind n r kids rest=>(∃b o B c,A=some ⟨b,o,none⟩/\w.cell? ⟨b,o+i*4,none⟩=some (.int .i64 kind)/\w.cell? ⟨b,o+i*4+1,none⟩=some (.int .i64 n)/\w.cell? ⟨b,o+i*4+2,none⟩=some (.int .i64 r)/\
    w.cell? ⟨b,o+i*4+3,none⟩=some (.slice B kids.len c)/\Kids w B 0 kids)/\Kids w A (i+1) rest
theorem Kids.keep(H:M.Ok){w w':World}(k:M.On w w')(hs:M.St w):∀{fo:Fo} {A:Option Addr} {i:Nat},Kids w A i fo->Kids w' A i fo
 |.nil,_,_,_=>trivial
 |.cons _ _ _ _ _,_,_,⟨⟨b,o,B,c,e,h0,h1,h2,h3,h4⟩,h5⟩=>⟨⟨b,o,B,c,e,H.cell hs k.fr h0,H.cell hs k.fr h1,H.cell hs k.fr h2,H.cell hs k.fr h3,Kids.keep H k hs h4⟩,Kids.keep H k hs h5⟩
theorem Kids.keep'{w w':World}{A:Option Addr}{i:Nat}{fo:Fo}(h:Kids w A i fo)(H:M.Ok)(k:M.On w w')(hs:M.St w):Kids w' A i fo:=Kids.keep H k hs h
theorem wrap_sign(s:Int)(hs:s=1\/s=-1)(k:Int)(h1:-65536<=k)(h2:k<=65536):IntKind.i64.wrap (s*k)=s*k/\-4294967296<=s*k/\s*k<=4294967296:=by
 rcases hs with rfl|rfl<;>(rw[IntKind.wrap_i64];omega)
def FineN(kind n r:Int)(ns:List Nat):Prop:=
 ∃N:Nat,n=N/\1<=N/\N<=32768/\
  ((kind=0/\r=0/\ns=[])\/(kind=1/\∃p d:Nat,r=p/\2<=p/\1<=d/\p*d=N/\ns=[p,d])\/(kind=2/\r=0/\ns=[]/\∃e,N=2^e)\/
   (kind=3/\r=0/\Rooted N/\ns=[N-1])\/(kind=4/\r=0/\N<=16384/\∃m,2*N-1<=m/\m<=32768/\ns=[m]))
def Fo.Fine:Fo->Prop
 |.nil=>True
 |.cons kind n r kids rest=>FineN kind n r kids.sizes/\kids.Fine/\rest.Fine
theorem sizes_one{fo:Fo}{a:Nat}(h:fo.sizes=[a]):∃k n r q,fo=.cons k n r q .nil/\n.toNat=a:=by
 rcases fo with _|⟨k,n,r,q,rest⟩
 ·cases h
 ·rcases rest with _|⟨k2,n2,r2,q2,rest⟩
  ·unfold Fo.sizes at h
   injection h with h1 h2
   exact⟨k,n,r,q,rfl,h1⟩
  ·simp[Fo.sizes] at h
theorem sizes_two{fo:Fo}{a b:Nat}(h:fo.sizes=[a,b]):∃k n r q k2 n2 r2 q2,fo=.cons k n r q (.cons k2 n2 r2 q2 .nil)/\n.toNat=a/\n2.toNat=b:=by
 rcases fo with _|⟨k,n,r,q,rest⟩
 ·cases h
 ·have h':rest.sizes=[b]:=by
    simp[Fo.sizes] at h
    exact h.2
  have h1:n.toNat=a:=by
   simp[Fo.sizes] at h
   exact h.1
  obtain⟨k2,n2,r2,q2,rfl,h2⟩:=sizes_one h'
  exact⟨_,_,_,_,_,_,_,_,rfl,h1,h2⟩
theorem boxes_on(H:M.Ok){w:World}(hw:M.St w)(a b:Obj):M.On w ((w.alloc a).alloc b):=(H.on_refl hw).below H (((Below.refl _ w).alloc (Nat.le_refl _) _).alloc (by simp) _)
def ChkC(kind n r:Int)(kids:Fo)(want e:Int):Prop:=∀(w:World) (A:Option Addr) (c:Nat),Kids w A 0 kids->
 Calls Try.prog 47 #[plV kind n r A kids.len c,.int .i64 want] w λz w'=>(∃a:Int,z=.returned (.tuple #[.int .i64 a,.int .i64 e]))/\Below w.heap.size w w'
theorem box_on(H:M.Ok){w:World}(hw:M.St w)(a:Obj):M.On w (w.alloc a):=(H.on_refl hw).below H ((Below.refl _ w).alloc (Nat.le_refl _) _)
end
end Go.Proofs.Yteaimnemobnknaa
