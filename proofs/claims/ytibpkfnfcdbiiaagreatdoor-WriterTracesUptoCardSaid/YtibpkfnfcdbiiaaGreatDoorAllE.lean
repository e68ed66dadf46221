/- What writer.All tells, in plain words: how many sets are taken, and why the next one isn't. -/
import Derived.Test.YtibpkfnfcdbiiaaGreatDoorBunY
import Derived.Test.YtibpkfnfcdbiiaaGreatDoorBunW
import Derived.Test.YtibpkfnfcdbiiaaGreatDoorBunR
namespace Go.Proofs.YtibpkfnfcdbiiaaGreatDoor
set_option linter.unusedSimpArgs false
open Go.RowKit
set_option linter.unusedVariables false
def AllEnd (s:List Col) (ps:List (List Pr)) (b:List UInt8) (n e:Nat):Prop:=
 schemaCheck s≠0∧b=[]∧n=0∧e=schemaCheck s∨
 schemaCheck s=0∧∃es l,AllAt s (ps.take n) es l∧WrOf s es b n n l∧n≤ps.length∧
  (n=ps.length∧e=0∨∃p,ps[n]? =some p∧e≠0∧((∃out,Collected s p e out)∨∃a out,Collected s p 0 a∧Summed s l a e out))
def AllSt (s:List Col) (ps:List (List Pr)) (k:Nat) (d:List UInt8) (l:List Pr):Prop:=
 ∃es,AllAt s (ps.take k) es l∧WrOf s es d k k l∧Canon s l∧l.length≤1024
theorem AllSt.start {s:List Col} (ps:List (List Pr)) (h:schemaCheck s=0):AllSt s ps 0 (headBytes s) []:=
 ⟨[],by rw[List.take_zero];exact .nil,WrOf.new h,canon_nil s,by simp⟩
theorem AllSt.done {s:List Col} {ps:List (List Pr)} {d:List UInt8} {l:List Pr} (h:AllSt s ps ps.length d l) (h0:schemaCheck s=0):AllEnd s ps d ps.length 0:=by
 obtain ⟨es,h1,h2,_⟩:=h
 exact Or.inr ⟨h0,es,l,h1,h2,Nat.le_refl _,Or.inl ⟨rfl,rfl⟩⟩
theorem AllSt.append {w w' :World} {O:Nat→Prop} {v k:Nat} {s:List Col} {ps:List (List Pr)} {d:List UInt8} {l:List Pr} {e:Ending} (h:AllSt s ps k d l) (h0:schemaCheck s=0) (hk:k<ps.length) (hk2:k≤1000) (hp:PrOk ps[k]) (hpl:ps[k].length≤200) (ha:Appending w O v s d k k l ps[k] e w'):
 (∃en:Nat,en≠0∧e= .returned (.tuple #[.slice none 0 0, .int .i64 en])∧Fr nob w w' ∧AllEnd s ps d k en)∨
 ∃O' a c x l',e= .returned (.tuple #[.slice a (x:List UInt8).length c, .int .i64 0])∧Ev w (wB v O) w' (wB v O')∧WrAt w' O' v s (d++x) (k+1) ((k:Int)+1) l' ∧AllSt s ps (k+1) (d++x) l' :=by
 obtain ⟨es,h1,h2,hcan,hll⟩:=h
 have hps:ps[k]? =some ps[k]:=List.getElem?_eq_getElem hk
 have hes:k=es.length:=h2.2.1
 rcases ha with ⟨hm,_⟩ | ⟨hm,en,out,hc,⟨h3,h4,h5⟩ | ⟨rfl,hlay⟩⟩
 · omega
 · exact Or.inl ⟨en,h3,h4,h5,Or.inr ⟨h0,es,l,h1,h2,by omega,Or.inr ⟨_,hps,h3,Or.inl ⟨out,hc⟩⟩⟩⟩
 · obtain ⟨_,_,hco,hlo,_⟩:=collected_zero hc
   have hsh:=collected_short hc
   obtain ⟨n,out2,en2,hap,hr⟩:=hlay
   have hch:=applied_change h0 hcan hll hco hlo ⟨by omega,by omega⟩ hap
   have hsum:Summed s l out en2 out2:=(summed_is (of_canon h0 hcan hll) (of_canon h0 hco hlo)).2 hch.1
   have hck:entryCheck s 0 ((k:Int)+1) out=0:=by
    unfold entryCheck
    rw[if_neg (by omega),if_neg (by omega),if_neg (by omega)]
    exact of_canon h0 hco hlo
   have her:=entry_small hck (canon_ok hco) (by omega)
   rcases hr with ⟨h3,h4,h5⟩ | ⟨_,h3,_⟩ | ⟨rfl,_,O',a,c,h3,h4,h5,h6,_⟩
   · exact Or.inl ⟨en2,h3,h4,h5,Or.inr ⟨h0,es,l,h1,h2,by omega,Or.inr ⟨_,hps,h3,Or.inr ⟨out,out2,hc,hsum⟩⟩⟩⟩
   · exact absurd her h3
   · obtain ⟨_,_,hco2,hlo2,_⟩:=collected_zero hch.1
     have hn:=hch.2
     rw[if_pos rfl] at hn
     subst hn
     rw[hes] at h2 hap her
     have hst:=h1.step h2 rfl (by omega) hc (canon_ok hco) hap her
     refine Or.inr ⟨O',a,c,_,out2,h3,h4,h6,es++[(⟨0,(k:Int)+1,out⟩:Ent)],?_,?_,hco2,hlo2⟩
     · have h9:=hst.1
       rw[←hes] at h9
       rw[List.take_succ_eq_append_getElem hk];exact h9
     · have h7:=hst.2.1
       have h8:(es++[(⟨0,(es.length:Int)+1,out⟩:Ent)]).length=k+1:=by simp[hes]
       rw[h8] at h7
       rw[←hes] at h7
       rw[show ((k+1:Nat):Int)=(k:Int)+1 by omega]
       exact h7
end Go.Proofs.YtibpkfnfcdbiiaaGreatDoor
