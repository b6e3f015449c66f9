/- Lemmas, part 11; each states its own conditions. -/
import Derived.Test.YtcflcebplhdcpaaGreatL7
import Derived.Test.YtcflcebplhdcpaaGreatL10
namespace Go.Proofs.YtcflcebplhdcpaaGreat
open Go.RowKit
set_option linter.unusedSimpArgs false
set_option linter.unusedVariables false
set_option maxRecDepth 100000
set_option maxHeartbeats 16000000
def eT.bytes:eT->Nat
 | .int=>8
 | .ny=>16
 | .use=>96
 | .split=>40
 | .content=>56
 | .ints=>24
def eT.eN:eT->TypeId
 | .int=>23
 | .ny=>106
 | .use=>29
 | .split=>30
 | .content=>28
 | .ints=>31
def eT.zero:eT->Value
 | .int=> J 0
 | .ny=> .agg #[J 0,J 0]
 | .use=> .agg #[J 0,.slice none 0 0,J 0,J 0,J 0,J 0,J 0,J 0,J 0,.bool false]
 | .split=> .agg #[J 0,J 0,J 0,J 0,J 0]
 | .content=> .agg #[J 0,.slice none 0 0,.slice none 0 0]
 | .ints=> .slice none 0 0
theorem C8(r:eT):(Tryz.prog.info? r.id).map (fun i=>(i.zero,i.size,i.bytes))=some (some r.zero,r.size,r.bytes):=by
 cases r<;>kernel_rfl
theorem zM(r:eT):Tryz.prog.underlying r.eN=some (.slice r.id):=by
 cases r
 ·exact Tryz.underlying23
 ·exact Tryz.underlying106
 ·exact Tryz.underlying29
 ·exact Tryz.underlying30
 ·exact Tryz.underlying28
 ·exact Tryz.underlying31
theorem P4(r:eT):r.zero.cells.size=r.size:=by cases r<;>rfl
theorem Yg(z:dk)(G:bY)(r:eT):k6 z G r (fun j=>r.zero.cells[j]?):=by
 cases r
 ·exact⟨0,rfl⟩
 ·exact⟨0,0,rfl,rfl⟩
 ·exact⟨0,none,0,0,rfl,fun _=>rfl,rfl,bL.nil _ _,⟨_,rfl⟩,⟨_,rfl⟩,⟨_,rfl⟩,⟨_,rfl⟩,⟨_,rfl⟩,⟨_,rfl⟩,⟨_,rfl⟩,⟨_,rfl⟩⟩
 ·exact⟨0,0,0,0,0,rfl,rfl,rfl,rfl,rfl⟩
 ·exact⟨0,none,0,0,none,0,0,rfl,rfl,rfl,bL.nil _ _,bL.nil _ _,fun _=>rfl,Nat.le_refl _,cY _⟩
 ·exact⟨none,0,0,rfl,bL.nil _ _⟩
theorem eT.QZ(r:eT):r.bytes<=96:=by cases r<;>decide
theorem Lu(z:dk)(G:bY)(l:List Int):iG z G .int l.length (is l):=⟨by simp[eT.size],fun i hi=>by
 refine⟨l[i],?_⟩
 simp only[eT.size,h1,vp]
 exact Nl l i hi⟩
structure mQ(G:bY)(w:World)(g:Nat)(t:TypeId)(cs:Array Value):Prop where
 oS:iT w g t cs
 Dn:G g=none
section
variable{z:dk}{G bG:bY}{w w':World}{g:Nat}{t:TypeId}{cs:Array Value}
theorem er.alV(h:er z G w){k:Nat}(U:w.heap.size<=k):G k=none:=by
 cases e:G k with
 |none=>rfl
 |some x=>have:=h.lt e;omega
theorem mQ.new(h:er z G w)(t:TypeId)(cs:Array Value):mQ G (w.alloc (.cells cs t)) w.heap.size t cs:=⟨iT.new w t cs,h.alV (Nat.le_refl _)⟩
theorem mQ.alloc(h:mQ G w g t cs)(o:Obj):mQ G (w.alloc o) g t cs:=⟨h.oS.alloc o,h.Dn⟩
theorem mQ.drew(h:mQ G w g t cs):mQ G w.drew g t cs:=⟨h.oS,h.Dn⟩
theorem mQ.ex(h:mQ G w g t cs)(e:gU G w bG w'):mQ bG w' g t cs:=⟨h.oS.ex e h.Dn,e.none h.oS.lt h.Dn⟩
theorem mQ.below(h:mQ G w g t cs)(ab:Below w.heap.size w w'):mQ G w' g t cs:=⟨h.oS.below ab h.oS.lt,h.Dn⟩
theorem mQ.set(h:mQ G w g t cs)(i:Nat)(u:Value):mQ G (w.setCell ⟨g,i,none⟩ u) g t (cs.setIfInBounds i u):=⟨h.oS.set i u,h.Dn⟩
theorem mQ.lt(h:mQ G w g t cs):g<w.heap.size:=h.oS.lt
theorem mQ.cell(h:mQ G w g t cs)(i:Nat){v:Value}(ah:cs[i]?=some v):w.cell? ⟨g,i,none⟩=some v:=(h.oS.cell i).trans ah
end
structure zT(G:bY)(k:Int)(A:Option Addr)(n c:Nat)(aR:Option Addr)(dT aN:Nat):Prop where
 jk:bL G .int A n c
 h7:bL G .int aR dT aN
 same:k=1->n=dT
 le:n<=dT
theorem zT.mono{G bG:bY}{k:Int}{A aR:Option Addr}{n c dT aN:Nat}(h:zT G k A n c aR dT aN)(ai:G.le bG):zT bG k A n c aR dT aN:=⟨h.jk.mono ai,h.h7.mono ai,h.same,h.le⟩
end Go.Proofs.YtcflcebplhdcpaaGreat
