/- Layer 21: is any number too great? -/
import Derived.Test.YtmgfaeineklccaaGreatX0
import Derived.Test.YtmgfaeineklccaaGreatMQ4
import Derived.Test.YtmgfaeineklccaaGreatMI3
import Derived.Test.YtmgfaeineklccaaGreatMI1
set_option maxRecDepth 100000
set_option maxHeartbeats 2000000
set_option linter.unusedSimpArgs false
set_option linter.unusedVariables false
namespace Go.Proofs.YtmgfaeineklccaaGreat
open Go.RowKit Go.Lib
theorem IndexFuncP_any(f:FuncId)(p:Cx->Bool)(hent:∀(args:Array Value) w,(callFunc f args).run Tryz.prog w=.ok (.enter f args) w)(hf:∀(u:Rx) w,Calls Tryz.prog f #[cV u] w λz w'=>z=.returned (.bool (p (nC u)))/\Below w.heap.size w w')(X:Option Addr)(n c:Nat)(x:Nat->Cx)(w:World)(hX:CsAt w X n x)(hn:n<=4398046511104):
  Calls Tryz.prog 100 #[.slice X n c,.func (.func f) #[] #[]] w λz w'=>z=.returned (.int .i64 (idxI p x n))/\Below w.heap.size w w':=by
 have HF:=aZ hf
 have HX:=aZ hX
 clear hf hX
 go_enter Tryz.func100,Tryz.ntmps100
 go_wp2
 go_loopw [8] (λvi wr=>∃k:Nat,k<=n/\vi=.int .i64 k/\Hid (idxI p x k=-1)/\Hid (Below w.heap.size w wr)) (λvi _=>n-(intOf vi).toNat)
 case atStart=>exact⟨0,by omega,rfl,aZ rfl,aZ (Below.refl _ _)⟩
 case round=>
  obtain⟨k,hk,rfl,hi,hb⟩:=hrel
  by_cases hlt:k<n
  ·obtain⟨b',o,u,rfl,hc1,hc2,hu⟩:=HX.out.keep hb.out k hlt
   have HU:=aZ hu
   clear hu
   have hki:(k:Int)<n:=by omega
   go_wp2_with fail
   refine(HF.out u wr).mono ?_
   rintro z w2 ⟨rfl,hb2⟩
   have HB2:=aZ (hb.out.trans (hb2.mono hb.out.size))
   clear hb2 hc1 hc2
   cases hp:p (nC u)
   ·have HI:Hid (idxI p x (k+1)=-1):=aZ (idxI_next hi.out (by rw[<-HU.out];exact hp))
    clear hp
    go_wp2
    exact⟨⟨k+1,by omega,by go_num,HI,HB2⟩,by simp[intOf];omega⟩
   ·have HI:Hid (idxI p x n=k):=aZ (idxI_at hlt hi.out (by rw[<-HU.out];exact hp))
    clear hp
    go_wp2
    go_ret
    exact⟨by rw[HI.out];rfl,HB2.out⟩
  ·obtain rfl:k=n:=by omega
   go_wp2
   go_ret
   exact⟨by rw[hi.out];rfl,hb.out⟩
theorem ContainsC_any(f:FuncId)(p:Cx->Bool)(hent:∀(args:Array Value) w,(callFunc f args).run Tryz.prog w=.ok (.enter f args) w)(hf:∀(u:Rx) w,Calls Tryz.prog f #[cV u] w λz w'=>z=.returned (.bool (p (nC u)))/\Below w.heap.size w w')(X:Option Addr)(n c:Nat)(x:Nat->Cx)(w:World)(hX:CsAt w X n x)(hn:n<=4398046511104):
  Calls Tryz.prog 88 #[.slice X n c,.func (.func f) #[] #[]] w λz w'=>z=.returned (.bool (decide (0<=idxI p x n)))/\Below w.heap.size w w':=by
 have HI:=aZ (IndexFuncP_any f p hent hf X n c x w hX hn)
 clear hf hX hent
 go_enter Tryz.func88,Tryz.ntmps88
 go_wp2_with fail
 refine HI.out.mono ?_
 rintro z w1 ⟨rfl,hb⟩
 have HB:=aZ hb
 clear hb
 go_wp2
 go_ret
 exact⟨rfl,HB.out⟩
def onF(p:Nat->Bool):Cx->Bool:=λc=>p c.1
def reF(x:Nat->Nat):Nat->Cx:=λi=>(x i,0)
theorem IndexFuncF_any(f:FuncId)(p:Nat->Bool)(hent:∀(args:Array Value) w,(callFunc f args).run Tryz.prog w=.ok (.enter f args) w)(hf:∀(u:Fin 18446744073709551616) w,Calls Tryz.prog f #[.float .f64 (u:Nat)] w λz w'=>z=.returned (.bool (p (nz u)))/\Below w.heap.size w w')(X:Option Addr)(n c:Nat)(x:Nat->Nat)(w:World)(hX:FsAt w X n x)(hn:n<=4398046511104):
  Calls Tryz.prog 130 #[.slice X n c,.func (.func f) #[] #[]] w λz w'=>z=.returned (.int .i64 (idxI (onF p) (reF x) n))/\Below w.heap.size w w':=by
 have HF:=aZ hf
 have HX:=aZ hX
 clear hf hX
 go_enter Tryz.func130,Tryz.ntmps130
 go_wp2
 go_loopw [8] (λvi wr=>∃k:Nat,k<=n/\vi=.int .i64 k/\Hid (idxI (onF p) (reF x) k=-1)/\Hid (Below w.heap.size w wr)) (λvi _=>n-(intOf vi).toNat)
 case atStart=>exact⟨0,by omega,rfl,aZ rfl,aZ (Below.refl _ _)⟩
 case round=>
  obtain⟨k,hk,rfl,hi,hb⟩:=hrel
  by_cases hlt:k<n
  ·obtain⟨b',o,u,rfl,hc1,hu⟩:=HX.out.keep hb.out k hlt
   have HU:=aZ hu
   clear hu
   have hki:(k:Int)<n:=by omega
   go_wp2_with fail
   refine(HF.out u wr).mono ?_
   rintro z w2 ⟨rfl,hb2⟩
   have HB2:=aZ (hb.out.trans (hb2.mono hb.out.size))
   clear hb2 hc1
   cases hp:p (nz u)
   ·have HI:Hid (idxI (onF p) (reF x) (k+1)=-1):=aZ (idxI_next hi.out (by unfold onF reF;rw[<-HU.out];exact hp))
    clear hp
    go_wp2
    exact⟨⟨k+1,by omega,by go_num,HI,HB2⟩,by simp[intOf];omega⟩
   ·have HI:Hid (idxI (onF p) (reF x) n=k):=aZ (idxI_at hlt hi.out (by unfold onF reF;rw[<-HU.out];exact hp))
    clear hp
    go_wp2
    go_ret
    exact⟨by rw[HI.out];rfl,HB2.out⟩
  ·obtain rfl:k=n:=by omega
   go_wp2
   go_ret
   exact⟨by rw[hi.out];rfl,hb.out⟩
theorem ContainsF_any(f:FuncId)(p:Nat->Bool)(hent:∀(args:Array Value) w,(callFunc f args).run Tryz.prog w=.ok (.enter f args) w)(hf:∀(u:Fin 18446744073709551616) w,Calls Tryz.prog f #[.float .f64 (u:Nat)] w λz w'=>z=.returned (.bool (p (nz u)))/\Below w.heap.size w w')(X:Option Addr)(n c:Nat)(x:Nat->Nat)(w:World)(hX:FsAt w X n x)(hn:n<=4398046511104):
  Calls Tryz.prog 81 #[.slice X n c,.func (.func f) #[] #[]] w λz w'=>z=.returned (.bool (decide (0<=idxI (onF p) (reF x) n)))/\Below w.heap.size w w':=by
 have HI:=aZ (IndexFuncF_any f p hent hf X n c x w hX hn)
 clear hf hX hent
 go_enter Tryz.func81,Tryz.ntmps81
 go_wp2_with fail
 refine HI.out.mono ?_
 rintro z w1 ⟨rfl,hb⟩
 have HB:=aZ hb
 clear hb
 go_wp2
 go_ret
 exact⟨rfl,HB.out⟩
end Go.Proofs.YtmgfaeineklccaaGreat
