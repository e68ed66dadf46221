/- One call of a writer, whichever, and its trace: what was there, and what is answered behind it. -/
import Derived.Test.YtibpkfnfcdbiiaaGreatDoorStep14
import Derived.Test.YtibpkfnfcdbiiaaGreatDoorBunY
import Derived.Test.YtibpkfnfcdbiiaaGreatDoorBunW
namespace Go.Proofs.YtibpkfnfcdbiiaaGreatDoor
set_option linter.unusedSimpArgs false
open Go.RowKit
set_option linter.unusedVariables false
def Went (w:World) (O:Nat→Prop) (v:Nat) (s:List Col) (d:List UInt8) (e:Ending) (w' :World):Prop:=
 ∃O' a c x es m q l,∃k:Nat,e= .returned (.tuple #[.slice a (x:List UInt8).length c, .int .i64 k])∧Ev w (wB v O) w' (wB v O')∧BV (free w' (wB v O')) w' a c x∧WrAt w' O' v s (d++x) m q l∧WrOf s es (d++x) m q l∧Canon s l∧l.length≤1024∧(0≤q∧q≤281474976710656)∧x.length≤1048591
section
variable {w w' :World} {O:Nat→Prop} {v:Nat} {s:List Col} {es:List Ent} {d:List UInt8} {m:Nat} {q:Int} {l:List Pr} {e:Ending}
theorem Went.none (hw:WrAt w O v s d m q l) (hof:WrOf s es d m q l) (hl:Canon s l) (hll:l.length≤1024) (hq:0≤q∧q≤281474976710656) {k:Nat} (he:e= .returned (.tuple #[.slice none 0 0, .int .i64 k])) (hf:Fr nob w w'):Went w O v s d e w' :=
 ⟨O,Option.none,0,[],es,m,q,l,k,he,Ev.of hf hw.lts,BV.nil _ _,by rw[List.append_nil];exact hw.go hf,by rw[List.append_nil];exact hof,hl,hll,hq,by simp⟩
theorem Laying.went {kind eseq:Int} {p:List Pr} (h:Laying w O v s d m q l kind eseq p e w') (hw:WrAt w O v s d m q l) (hof:WrOf s es d m q l) (hm:m<4096) (h0:schemaCheck s=0) (hl:Canon s l) (hll:l.length≤1024) (hp:Canon s p) (hpl:p.length≤1024) (hq:0≤q∧q≤281474976710656) (hk:kind=0∧eseq=q+1∨kind=1):Went w O v s d e w' :=by
 obtain ⟨n,out,en,ha,h | h | h⟩:=h
 · exact Went.none hw hof hl hll hq h.2.1 h.2.2
 · exact Went.none hw hof hl hll hq h.2.2.1 h.2.2.2
 · obtain ⟨rfl,h2,O',a,c,h3,h4,h5,h6,_⟩:=h
   have hof2:=hof.step (x:=⟨kind,eseq,p⟩) hm (canon_ok hp) ha h2
   have hz:(encF s (es++[(⟨kind,eseq,p⟩:Ent)])).1=0:=by rw[hof2.1]
   have hok:=(encF_ok hof2.2.2 hz).1
   rw[hof2.1] at hok
   exact ⟨O',a,c,_,_,m+1,n,out,0,h3,h4,h5,h6,hof2,hok.can,hok.len,hok.q,entryBy_len _ _ _ _⟩
theorem Appending.went {p:List Pr} (h:Appending w O v s d m q l p e w') (hw:WrAt w O v s d m q l) (hof:WrOf s es d m q l) (h0:schemaCheck s=0) (hl:Canon s l) (hll:l.length≤1024) (hq:0≤q∧q≤281474976710656):Went w O v s d e w' :=by
 rcases h with ⟨_,h1,h2⟩ | ⟨hm,en,out,hc,⟨h1,h2,h3⟩ | ⟨rfl,h⟩⟩
 · exact Went.none hw hof hl hll hq (k:=13) h1 h2
 · exact Went.none hw hof hl hll hq h2 h3
 · obtain ⟨_,_,hco,hlo,_⟩:=collected_zero hc
   exact h.went hw hof hm h0 hl hll hco hlo hq (Or.inl ⟨rfl,rfl⟩)
theorem Snapping.went (h:Snapping w O v s d m q l e w') (hw:WrAt w O v s d m q l) (hof:WrOf s es d m q l) (h0:schemaCheck s=0) (hl:Canon s l) (hll:l.length≤1024) (hq:0≤q∧q≤281474976710656):Went w O v s d e w' :=by
 rcases h with ⟨_,h1,h2⟩ | ⟨hm,h⟩
 · exact Went.none hw hof hl hll hq (k:=13) h1 h2
 · exact h.went hw hof hm h0 hl hll hl hll hq (Or.inr rfl)
end
end Go.Proofs.YtibpkfnfcdbiiaaGreatDoor
