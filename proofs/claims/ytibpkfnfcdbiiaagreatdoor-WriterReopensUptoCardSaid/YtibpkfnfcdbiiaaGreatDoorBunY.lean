/- A writer's bytes are its entries' trace, written whole. No program in sight. What writer.All does, in plain words: set behind set, each of them taken. No program in sight. -/
import Derived.Test.YtibpkfnfcdbiiaaGreatDoorBunW
namespace Go.Proofs.YtibpkfnfcdbiiaaGreatDoor
set_option linter.unusedSimpArgs false
open Go.RowKit
set_option linter.unusedVariables false
theorem encGo_snoc {s:List Col} {x:Ent}:∀(l:List Ent) (t:TSt) (b:List UInt8) (n:Nat),(encGo s t b n l).1=0→(takeF s (encGo s t b n l).2.2.2 x).1=0→entryErr s x.kind x.seq x.prs=0→
 encGo s t b n (l++[x])=(0,(encGo s t b n l).2.1+1,(encGo s t b n l).2.2.1++entryBy s x.kind x.seq x.prs,(takeF s (encGo s t b n l).2.2.2 x).2)
 | [],t,b,n,h,h1,h2=>by
   simp only[encGo] at h1
   simp only[List.nil_append,encGo]
   rw[if_pos h1,if_pos h2]
 | y::r,t,b,n,h,h1,h2=>by
   rw[List.cons_append]
   unfold encGo at h h1 ⊢
   by_cases h3:(takeF s t y).1=0
   · rw[if_pos h3] at h h1 ⊢
     by_cases h4:entryErr s y.kind y.seq y.prs=0
     · rw[if_pos h4] at h h1 ⊢
       rw[encGo_snoc r _ _ _ h h1 h2,if_pos h3,if_pos h4]
     · rw[if_neg h4] at h;exact absurd h h4
   · rw[if_neg h3] at h;exact absurd h h3
def WrOf (s:List Col) (es:List Ent) (d:List UInt8) (m:Nat) (q:Int) (l:List Pr):Prop:=
 encF s es=(0,es.length,d,⟨q,l,m⟩)∧m=es.length∧∀x∈es,PrOk x.prs
theorem WrOf.new {s:List Col} (h:schemaCheck s=0):WrOf s [] (headBytes s) 0 0 []:=by
 refine ⟨?_,rfl,by simp⟩
 unfold encF
 rw[if_pos h]
 rfl
theorem WrOf.step {s:List Col} {es:List Ent} {d:List UInt8} {m:Nat} {q n:Int} {l out:List Pr} {x:Ent} (h:WrOf s es d m q l) (hm:m<4096) (hp:PrOk x.prs) (ha:Applied s q l x.kind x.seq x.prs n out 0) (he:entryErr s x.kind x.seq x.prs=0):
 WrOf s (es++[x]) (d++entryBy s x.kind x.seq x.prs) (m+1) n out:=by
 obtain ⟨h1,h2,h3⟩:=h
 obtain ⟨hs,h4⟩:=encF_zero (s:=s) (l:=es) (by rw[h1])
 have ht:takeF s ⟨q,l,m⟩ x=(0,⟨n,out,m+1⟩):=by
  unfold takeF
  rw[if_neg (by show ¬4096≤m;omega),applyF_of (x:=x) ha]
  simp
 rw[h4] at h1
 have h5:=encGo_snoc (x:=x) es .zero (headBytes s) 0 (by rw[h1]) (by rw[h1,ht]) he
 rw[h1,ht] at h5
 refine ⟨?_,by simp[h2],fun y hy=>(List.mem_append.1 hy).elim (h3 y) (fun h=>by rw[List.mem_singleton.1 h];exact hp)⟩
 unfold encF
 rw[if_pos hs,h5]
 simp
theorem WrOf.back {s:List Col} {es:List Ent} {d:List UInt8} {m:Nat} {q:Int} {l:List Pr} (h:WrOf s es d m q l):∃ms,decF d=⟨s,es,ms,d.length,0⟩∧ms.length=es.length+1:=by
 have:=decF_back h.2.2 (by rw[h.1])
 rw[h.1] at this
 exact this
theorem WrOf.view {s:List Col} {es:List Ent} {d:List UInt8} {m:Nat} {q:Int} {l:List Pr} (h:WrOf s es d m q l):viewF s es=(q,l,0):=by
 unfold viewF
 rw[h.1]
 simp
theorem applied_sum {s:List Col} {q n:Int} {l a out:List Pr} (h:Applied s q l 0 (q+1) a n out 0):Summed s l a 0 out∧n=q+1:=by
 unfold Applied at h
 split at h
 · rename_i h0;exact absurd h.2.2.symm h0
 · split at h
   · exact absurd h.2.2 (by decide)
   · split at h
     · rename_i h0;exact absurd h.2.2.symm h0
     · rw[if_neg (by decide),if_neg (by simp)] at h
       exact ⟨h.1,by rw[h.2,if_pos rfl]⟩
inductive AllAt (s:List Col):List (List Pr)→List Ent→List Pr→Prop
 | nil:AllAt s [] [] []
 | snoc {ps:List (List Pr)} {es:List Ent} {l p a out:List Pr} (h:AllAt s ps es l) (hc:Collected s p 0 a) (hs:Summed s l a 0 out):AllAt s (ps++[p]) (es++[⟨0,(es.length:Int)+1,a⟩]) out
theorem AllAt.len {s:List Col} {ps:List (List Pr)} {es:List Ent} {l:List Pr} (h:AllAt s ps es l):ps.length=es.length:=by
 induction h with
 | nil=>rfl
 | snoc h hc hs ih=>simp[ih]
theorem AllAt.get {s:List Col} {ps:List (List Pr)} {es:List Ent} {l:List Pr} (h:AllAt s ps es l):∀(k:Nat),k<es.length→
 ∃p a v out,ps[k]? =some p∧es[k]? =some ⟨0,(k:Int)+1,a⟩∧Collected s p 0 a∧AllAt s (ps.take k) (es.take k) v∧Summed s v a 0 out∧AllAt s (ps.take (k+1)) (es.take (k+1)) out:=by
 induction h with
 | nil=>intro k hk;simp at hk
 | @snoc ps es l p a out h hc hs ih=>
   intro k hk
   have hl:=h.len
   rw[List.length_append,List.length_singleton] at hk
   by_cases hk' :k<es.length
   · obtain ⟨p',a',v,out',h1,h2,h3,h4,h5,h6⟩:=ih k hk'
     refine ⟨p',a',v,out',?_,?_,h3,?_,h5,?_⟩
     · rw[List.getElem?_append_left (by omega)];exact h1
     · rw[List.getElem?_append_left (by omega)];exact h2
     · rw[List.take_append_of_le_length (by omega),List.take_append_of_le_length (by omega)];exact h4
     · rw[List.take_append_of_le_length (by omega),List.take_append_of_le_length (by omega)];exact h6
   · obtain rfl:k=es.length:=by omega
     refine ⟨p,a,l,out,?_,?_,hc,?_,hs,?_⟩
     · rw[List.getElem?_append_right (by omega),hl];simp
     · rw[List.getElem?_append_right (by omega)];simp
     · rw[←hl,List.take_left,hl,List.take_left];exact h
     · rw[List.take_of_length_le (by simp[hl]),List.take_of_length_le (by simp)];exact .snoc h hc hs
theorem AllAt.step {s:List Col} {ps:List (List Pr)} {es:List Ent} {d:List UInt8} {q n:Int} {l p a out:List Pr} (h:AllAt s ps es l) (hw:WrOf s es d es.length q l) (hq:q=es.length) (hm:es.length<4096) (hc:Collected s p 0 a) (hp:PrOk a) (ha:Applied s q l 0 (q+1) a n out 0) (he:entryErr s 0 (q+1) a=0):
 AllAt s (ps++[p]) (es++[⟨0,(es.length:Int)+1,a⟩]) out∧WrOf s (es++[⟨0,(es.length:Int)+1,a⟩]) (d++entryBy s 0 ((es.length:Int)+1) a) (es++[(⟨0,(es.length:Int)+1,a⟩:Ent)]).length n out∧n=((es++[(⟨0,(es.length:Int)+1,a⟩:Ent)]).length:Int):=by
 obtain ⟨hs,hn⟩:=applied_sum ha
 rw[hq] at ha he hn
 have:=hw.step (x:=⟨0,(es.length:Int)+1,a⟩) hm hp (by rw[hq];exact ha) he
 refine ⟨.snoc h hc hs,?_,by rw[hn];simp⟩
 rw[List.length_append,List.length_singleton]
 exact this
theorem AllAt.same {s:List Col} {ps:List (List Pr)} {es:List Ent} {l:List Pr} (h:AllAt s ps es l):∀{es' :List Ent} {l' :List Pr},AllAt s ps es' l' →es=es' ∧l=l' :=by
 induction h with
 | nil=>
   intro es' l' h'
   generalize hx:([]:List (List Pr))=xs at h'
   cases h' with
   | nil=>exact ⟨rfl,rfl⟩
   | snoc h2 _ _=>simp at hx
 | @snoc ps es l p a out h hc hs ih=>
   intro es' l' h'
   generalize hx:ps++[p]=xs at h'
   cases h' with
   | nil=>simp at hx
   | @snoc ps2 es2 l2 p2 a2 out2 h2 hc2 hs2=>
     obtain ⟨rfl,hx2⟩:=List.append_inj' hx rfl
     simp at hx2
     subst hx2
     obtain ⟨rfl,rfl⟩:=ih h2
     obtain ⟨_,rfl⟩:=collected_det hc hc2
     refine ⟨rfl,?_⟩
     unfold Summed at hs hs2
     split at hs
     · rename_i h0;exact absurd hs.1.symm h0
     · split at hs
       · rename_i h0;exact absurd hs.1.symm h0
       · rename_i h0 h1
         rw[if_neg h0,if_neg h1] at hs2
         exact (collected_det hs hs2).2
end Go.Proofs.YtibpkfnfcdbiiaaGreatDoor
