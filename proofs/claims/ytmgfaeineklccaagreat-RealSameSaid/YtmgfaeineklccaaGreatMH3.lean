/- The document's Finite of every float, Scale by 0 of every float. -/
import Derived.Test.YtmgfaeineklccaaGreatX0
import Derived.Test.YtmgfaeineklccaaGreatMQ4
import Derived.Test.YtmgfaeineklccaaGreatMA5
import Derived.Test.YtmgfaeineklccaaGreatMH1
import Derived.Test.YtmgfaeineklccaaGreatMI3
import Derived.Test.YtmgfaeineklccaaGreatMY3
import Derived.Laws.Closers25b
import Derived.Laws.OwnMore
set_option maxRecDepth 100000
set_option maxHeartbeats 2000000
set_option linter.unusedSimpArgs false
set_option linter.unusedVariables false
namespace Go.Proofs.YtmgfaeineklccaaGreat
open Go.RowKit Go.Lib
def finB(x:Nat):Bool:=!decide (x%9223372036854775808/4503599627370496=2047)
end Go.Proofs.YtmgfaeineklccaaGreat
namespace Go.Proofs.YtmgfaeineklccaaGreat
open Go.RowKit Go.Lib Fl
open CG in
open CG in
open CG in
theorem inv_fin{N:Nat}{y:Nat->Cx}(n1:1<=N)(n2:N<=65536)(hf:∀i,i<N->FinC (y i))(hn:nS N (λi=>vC (y i))<=oM):∀i,i<N->FinC (overF ringR y N i):=λi hi=>
 (c_over (hf i hi) n1 n2 (by have:=nS_term (f:=λi=>vC (y i)) hi;grind)).1
theorem fnt_W900:Fnt W900:=⟨by decide,by decide⟩
theorem iv_nn19{r:Nat}(h:r<9218868437227405312):0<=iv r:=by
 rw[iv_low h rfl rfl]
 exact Int.mul_nonneg (by omega) (Int.le_of_lt (Int.pow_pos (by decide)))
end Go.Proofs.YtmgfaeineklccaaGreat
namespace Go.Proofs.YtmgfaeineklccaaGreat
open Go.RowKit Go.Lib
theorem OwnL.form{w:World}{base:Nat}{v:Value}{L:List Wd}(h:OwnL w base v L)(hp:0<L.length):∃g cap,v=.slice (some ⟨g,0,none⟩) L.length cap/\base<=g/\g<w.heap.size/\L.length<=cap:=by
 rcases h.2 with⟨-,e⟩|⟨g,cap,cur,rfl,hb,hg,hc,-⟩
 ·omega
 ·exact⟨g,cap,rfl,hb,(Array.getElem?_eq_some_iff.1 hg).1,hc⟩
theorem OwnL.stored{w:World}{base g n cap:Nat}{L:List Wd}(h:OwnL w base (.slice (some ⟨g,0,none⟩) n cap) L)(hn:L.length=n)(j:Nat)(u:Wd):
  OwnL (w.setCell ⟨g,j,none⟩ (.float .f64 (u:Nat))) base (.slice (some ⟨g,0,none⟩) n cap) (L.set j u)/\w.grownBy (w.setCell ⟨g,j,none⟩ (.float .f64 (u:Nat))) (some g):=by
 subst hn
 obtain⟨h1,h2⟩:=World.ownsRow.stored h j (.float .f64 (u:Nat))
 refine⟨?_,h2⟩
 unfold OwnL fltV
 rw[List.length_set,List.map_set]
 exact h1
theorem OwnL.free{w:World}{base g n cap:Nat}{L:List Wd}(h:OwnL w base (.slice (some ⟨g,0,none⟩) n cap) L)(hn:L.length=n)(j:Nat):w.frozen? ⟨g,j,none⟩=false:=by
 subst hn
 exact World.ownsRow.frozenAt h j
theorem OwnL.cell{w:World}{base g n cap:Nat}{L:List Wd}(h:OwnL w base (.slice (some ⟨g,0,none⟩) n cap) L)(hn:L.length=n){j:Nat}(hj:j<n):∃u:Wd,w.cell? ⟨g,j,none⟩=some (.float .f64 (u:Nat)):=by
 subst hn
 have:=World.ownsRow.cellAt h j (by omega)
 refine⟨L[j],?_⟩
 rw[this]
 unfold fltV
 simp[hj]
def Pre(L:List Wd)(k:Nat)(f:Nat->Nat):Prop:=∀i,i<k->nz (L.getD i 0)=f i
theorem Pre.set{L:List Wd}{k:Nat}{f:Nat->Nat}(h:Pre L k f)(hk:k<L.length)(u:Wd)(hu:nz u=f k):Pre (L.set k u) (k+1) f:=λi hi=>by
 rw[List.getD_eq_getElem?_getD]
 by_cases e:i=k
 ·subst e
  rw[List.getElem?_set_self hk]
  exact hu
 ·rw[List.getElem?_set_ne (λe2=>e e2.symm),<-List.getD_eq_getElem?_getD]
  exact h i (by omega)
def FinAt(w:World)(g n:Nat):Prop:=∀i,i<n->∃u:Rx,w.cell? ⟨g,i*2,none⟩=some (.float .f64 u.1)/\w.cell? ⟨g,i*2+1,none⟩=some (.float .f64 u.2)/\(u.1:Nat)%9223372036854775808/4503599627370496≠2047/\(u.2:Nat)%9223372036854775808/4503599627370496≠2047
theorem FinAt.keep{W w1:World}{g n:Nat}(hb:Below W.heap.size W w1)(h:FinAt W g n):FinAt w1 g n:=λi hi=>by
 obtain⟨u,h1,h2,h3⟩:=h i hi
 exact⟨u,keep_cell hb h1,keep_cell hb h2,h3⟩
theorem fin_word{u:Nat}(h:Fl.Fnt (nz u)):u%9223372036854775808/4503599627370496≠2047:=by
 have e:nz u=u:=by
  unfold nz at h|-
  split at h
  ·exact absurd h (by decide)
  ·rename_i k;rw[if_neg k]
 rw[e] at h
 have:=h.2
 omega
theorem RowC.fin{w:World}{g n:Nat}{f:Nat->Cx}(h:RowC w g n f)(hf:∀i,i<n->CG.FinC (f i)):FinAt w g n:=λi hi=>by
 obtain⟨u,h1,h2,-,-,h5⟩:=h i hi
 have:=hf i hi
 rw[<-h5] at this
 exact⟨u,h1,h2,fin_word this.1,fin_word this.2⟩
end Go.Proofs.YtmgfaeineklccaaGreat
