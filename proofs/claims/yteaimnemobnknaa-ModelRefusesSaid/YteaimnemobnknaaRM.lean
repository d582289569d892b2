/- What a ring keeps of memory, and what it may turn. -/
import Derived.Test.YteaimnemobnknaaMW1
set_option linter.unusedSimpArgs false
set_option linter.unusedVariables false
namespace Go.Proofs.Yteaimnemobnknaa
open Go.RowKit Go.Lib
structure Mem where
 St:World->Prop
 Pv:World->Nat->Prop
 Fr:World->World->Prop
structure Mem.Ok(M:Mem):Prop where
 st:∀{w w':World},M.St w->Below w.heap.size w w'->M.St w'
 fr:∀{w w':World},M.St w->Below w.heap.size w w'->M.Fr w w'
 trans:∀{a b c:World},M.Fr a b->M.Fr b c->M.Fr a c
 size:∀{w w':World},M.Fr w w'->w.heap.size<=w'.heap.size
 cell:∀{w w':World} {b o:Nat} {v:Value},M.St w->M.Fr w w'->w.cell? ⟨b,o,none⟩=some v->w'.cell? ⟨b,o,none⟩=some v
 free:∀{w w':World} {b o:Nat} {v:Value},M.St w->M.Fr w w'->w.cell? ⟨b,o,none⟩=some v->w'.frozen? ⟨b,o,none⟩=w.frozen? ⟨b,o,none⟩
 pv:∀{w w':World} {b:Nat},M.St w->M.Fr w w'->b<w.heap.size->¬M.Pv w b->¬M.Pv w' b
 new:∀{w w':World} {b:Nat},M.St w->Below w.heap.size w w'->w.heap.size<=b->¬M.Pv w' b
 only:∀{B w w':World} {g:Nat},M.St w->M.Fr B w->B.heap.size<=g->¬M.Pv w g->OnlyB g w w'->M.St w'/\M.Fr B w'
 onlypv:∀{w w':World} {g b:Nat},M.St w->¬M.Pv w g->OnlyB g w w'->b<w.heap.size->¬M.Pv w b->¬M.Pv w' b
def Mem.plain:Mem:=⟨λ_=>True,λ_ _=>False,λw w'=>Below w.heap.size w w'⟩
theorem Mem.plain_ok:Mem.plain.Ok where
 st _ _:=trivial
 fr _ h:=h
 trans h k:=Below.trans h (Below.mono k (Below.size h))
 size h:=Below.size h
 cell _ h k:=keep_cell h k
 free _ h k:=by rw[World.frozen?_of_block (w:=_) (Below.block h _ (World.block_lt_of_cell? _ _ k))]
 pv _ _ _ _:=λh=>h
 new _ _ _:=λh=>h
 only:=λ{B w w' g} _ h hg _ ho=>⟨trivial,Below.trans h (ho.below hg (Below.size h))⟩
 onlypv _ _ _ _ _:=λh=>h
structure Mem.On(M:Mem)(D w:World):Prop where
 st:M.St w
 fr:M.Fr D w
section
variable {M : Mem}
theorem Mem.Ok.on_refl(H:M.Ok){w:World}(h:M.St w):M.On w w:=⟨h,H.fr h (Below.refl _ _)⟩
theorem Mem.On.below(H:M.Ok){D w w':World}(h:M.On D w)(hb:Below w.heap.size w w'):M.On D w':=⟨H.st h.st hb,H.trans h.fr (H.fr h.st hb)⟩
theorem Mem.On.trans(H:M.Ok){D w w':World}(h:M.On D w)(k:M.On w w'):M.On D w':=⟨k.st,H.trans h.fr k.fr⟩
theorem Mem.On.drew(H:M.Ok){D w:World}(h:M.On D w):M.On D w.drew:=h.below H (Below.refl _ _).drew
end
end Go.Proofs.Yteaimnemobnknaa
