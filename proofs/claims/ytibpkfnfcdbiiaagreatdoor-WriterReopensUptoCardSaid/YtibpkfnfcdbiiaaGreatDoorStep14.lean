/- One call of a writer, whichever: it refuses and nothing turns, or there is one entry more. -/
import Derived.Test.YtibpkfnfcdbiiaaGreatDoorAlive14
namespace Go.Proofs.YtibpkfnfcdbiiaaGreatDoor
set_option linter.unusedSimpArgs false
open Go.RowKit
set_option linter.unusedVariables false
def Stepped (w:World) (O:Nat→Prop) (v:Nat) (s:List Col) (d:List UInt8) (m:Nat) (q:Int) (l:List Pr) (e:Ending) (w' :World):Prop:=
 (∃k:Nat,k≠0∧e= .returned (.tuple #[.slice none 0 0, .int .i64 k])∧Fr nob w w')∨
 ∃O' a c x q' out,e= .returned (.tuple #[.slice a (x:List UInt8).length c, .int .i64 0])∧Ev w (wB v O) w' (wB v O')∧BV (free w' (wB v O')) w' a c x∧WrAt w' O' v s (d++x) (m+1) q' out∧m<4096∧q≤q' ∧q' ≤q+1∧q' ≤281474976710656∧Canon s out∧out.length≤1024
theorem applied_check {s:List Col} {q kind eseq n:Int} {l p out:List Pr} (h:Applied s q l kind eseq p n out 0):entryCheck s kind eseq p=0∧(kind≠1→eseq=q+1):=by
 unfold Applied at h
 split at h
 · rename_i h0;exact absurd h.2.2.symm h0
 · split at h
   · exact absurd h.2.2 (by decide)
   · split at h
     · rename_i h0;exact absurd h.2.2.symm h0
     · rename_i h0
       refine ⟨by omega,fun hk=>?_⟩
       rw[if_neg hk] at h
       split at h
       · exact absurd h.2.2 (by decide)
       · omega
section
variable {w w' :World} {O:Nat→Prop} {v:Nat} {s:List Col} {d:List UInt8} {m:Nat} {q:Int} {l:List Pr} {e:Ending}
theorem Laying.step {kind eseq:Int} {p:List Pr} (h:Laying w O v s d m q l kind eseq p e w') (hm:m<4096) (h0:schemaCheck s=0) (hl:Canon s l) (hll:l.length≤1024) (hp:Canon s p) (hpl:p.length≤1024) (hq:0≤q∧q≤281474976710656) (hk:kind=0∧eseq=q+1∨kind=1):Stepped w O v s d m q l e w' :=by
 obtain ⟨n,out,en,ha,h | h | h⟩:=h
 · exact Or.inl ⟨en,h.1,h.2.1,h.2.2⟩
 · exact Or.inl ⟨_,h.2.1,h.2.2.1,h.2.2.2⟩
 · obtain ⟨rfl,h2,O',a,c,h3,h4,h5,h6,_⟩:=h
   refine Or.inr ⟨O',a,c,_,n,out,h3,h4,h5,h6,hm,?_⟩
   obtain ⟨hc,_⟩:=applied_check ha
   obtain ⟨_,_,hs,_⟩:=entryCheck_zero hc
   rcases hk with ⟨rfl,rfl⟩ | rfl
   · obtain ⟨hcl,hn⟩:=applied_change h0 hl hll hp hpl ⟨hq.1,by omega⟩ ha
     rw[if_pos rfl] at hn
     obtain ⟨_,_,hco,hlo,_⟩:=collected_zero hcl
     exact ⟨by omega,by omega,by omega,hco,hlo⟩
   · obtain ⟨rfl,rfl⟩:=applied_same ha
     exact ⟨by omega,by omega,by omega,hl,hll⟩
theorem Appending.step {p:List Pr} (h:Appending w O v s d m q l p e w') (h0:schemaCheck s=0) (hl:Canon s l) (hll:l.length≤1024) (hq:0≤q∧q≤281474976710656):Stepped w O v s d m q l e w' :=by
 rcases h with ⟨_,h1,h2⟩ | ⟨hm,en,out,hc,⟨h1,h2,h3⟩ | ⟨rfl,h⟩⟩
 · exact Or.inl ⟨13,by decide,h1,h2⟩
 · exact Or.inl ⟨en,h1,h2,h3⟩
 · obtain ⟨_,_,hco,hlo,_⟩:=collected_zero hc
   exact h.step hm h0 hl hll hco hlo hq (Or.inl ⟨rfl,rfl⟩)
theorem Snapping.step (h:Snapping w O v s d m q l e w') (h0:schemaCheck s=0) (hl:Canon s l) (hll:l.length≤1024) (hq:0≤q∧q≤281474976710656):Stepped w O v s d m q l e w' :=by
 rcases h with ⟨_,h1,h2⟩ | ⟨hm,h⟩
 · exact Or.inl ⟨13,by decide,h1,h2⟩
 · exact h.step hm h0 hl hll hl hll hq (Or.inr rfl)
end
end Go.Proofs.YtibpkfnfcdbiiaaGreatDoor
