/- append of a whole list of floats to another one. -/
import Derived.Test.YtfedabinindpbaaGreatX0
import Derived.Test.YtfedabinindpbaaGreatML3
import Derived.Test.YtfedabinindpbaaGreatMI3
import Derived.Laws.AppendOwnNone
set_option linter.unusedSimpArgs false
set_option linter.unusedVariables false
namespace Go.Proofs.YtfedabinindpbaaGreat
open Go.RowKit Go.Lib
theorem OwnL.fla{w:World}{base:Nat}{v:Value}{L:List Wd}(h:OwnL w base v L):∃A c,v=.slice A L.length c/\FlA w A L.length (λi=>((L.getD i 0:Wd):Nat))/\L.length<=c/\c<=maxLen:=by
 obtain⟨A,c,rfl,hc,h1,h2,h3⟩:=owns_cells h
 refine⟨A,c,rfl,λi hi=>?_,h1,h2⟩
 obtain⟨b,o,e,hx⟩:=hc i (.float .f64 ((L[i]:Wd):Nat)) (by unfold fltV;simp[hi])
 exact⟨b,o,e,by rw[hx];congr 2;show((L[i]:Wd):Nat)=((L.getD i 0:Wd):Nat);rw[List.getD_eq_getElem?_getD,List.getElem?_eq_getElem hi];rfl⟩
theorem wpList_catL{ops:Array Oper}{rest:List Oper}{o:Oper}{a:Act}{w:World}{Q:Exit->Act->World->Prop}(hgd:o.guard=none)(s x:Operand)(ho:o.op=.call {callee:=.builtin .append,args:=#[s,x],argTypes:=#[35,35]})(base:Nat)(v v2:Value)(L M:List Wd)(hs:a.eval s=v)(hown:OwnL w base v L)(hx:a.eval x=v2)(h2:OwnL w base v2 M)(hk:L.length+M.length<=1048576)(hbase:base<=w.heap.size)(h:∀v' w',Hid (OwnL w' base v' (L++M))->Hid (w.grownBy w' v.ownBlock)->wpList Tryz.prog ops Q rest (a.put o.dst v') w'):wpList Tryz.prog ops Q (o::rest) a w:=by
 obtain⟨i0,hi,hz0,hz1,hz2⟩:=info_parts info_float
 rcases h2.2 with⟨e1,e2⟩|⟨g,cap,cur,e1,hg,hcur,hn,hcap,hsz,htk⟩
 ·obtain rfl:M=[]:=List.length_eq_zero_iff.1 e2
  rw[e1] at hx
  refine wpList_append_own_none hgd s x _ ho base 24 i0 1 Tryz.underlying35 hi v L.length (fltV L) hs hown hx ?_
  exact h v w (aZ (by rw[List.append_nil];exact hown)) (aZ (World.grownBy.refl w _))
 ·rw[e1] at hx
  obtain⟨A,c,e3,hc,-⟩:=owns_cells h2
  rw[e1] at e3
  cases e3
  have hlen:(fltV M).length=M.length:=by unfold fltV;simp
  refine wpList_append_own w hgd s x _ ho base 24 i0 (.float .f64 0) 1 8 Tryz.underlying35 hi hz0 hz1 hz2 rfl (by decide) v L.length (fltV L) hs hown ⟨g,0,none⟩ M.length cap (fltV M) hx (by rw[hlen,Nat.mul_one]) ?_ ?_ (by unfold maxLen;omega) (by omega) hbase ?_
  ·intro j u hj
   obtain⟨b,o,e,hu⟩:=hc j u hj
   cases e
   rw[Addr.add]
   split
   ·rename_i e0;subst e0;simpa using hu
   ·simpa using hu
  ·intro u hu;unfold fltV at hu;obtain⟨y,_,rfl⟩:=List.mem_map.1 hu;rfl
  ·intro v' w' h3 h4 _
   refine h v' w' (aZ ?_) (aZ h4)
   show w'.ownsRow base _ 1 v' (L++M).length (fltV (L++M))
   rw[List.length_append,show fltV (L++M)=fltV L++fltV M by unfold fltV;rw[List.map_append]]
   exact h3
end Go.Proofs.YtfedabinindpbaaGreat
