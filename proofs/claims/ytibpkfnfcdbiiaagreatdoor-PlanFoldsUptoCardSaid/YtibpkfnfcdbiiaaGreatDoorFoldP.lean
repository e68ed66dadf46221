/- Changes put together, in plain words. No program in sight. -/
import Derived.Test.YtibpkfnfcdbiiaaGreatDoorBunPl
namespace Go.Proofs.YtibpkfnfcdbiiaaGreatDoor
set_option linter.unusedSimpArgs false
open Go.RowKit
set_option linter.unusedVariables false
def Fine (s:List Col) (l:List Ent):Prop:=∀x∈l,entryCheck s x.kind x.seq x.prs=0∧PrOk x.prs
theorem Fine.take {s:List Col} {l:List Ent} (h:Fine s l) (k:Nat):Fine s (l.take k):=fun x hx=>h x (mem_take hx)
theorem Fine.drop {s:List Col} {l:List Ent} (h:Fine s l) (k:Nat):Fine s (l.drop k):=fun x hx=>h x (List.mem_of_mem_drop hx)
theorem fine_enc {s:List Col} {l:List Ent} (hp:∀x∈l,PrOk x.prs) (h:(encF s l).1=0):Fine s l:=fun x hx=>by
 obtain ⟨k,hk,rfl⟩:=List.mem_iff_getElem.1 hx
 have h1:=(encF_take h (k+1)).1
 rw[List.take_succ_eq_append_getElem hk] at h1
 exact ⟨(entryErr_zero (encF_snoc h1).2.1).1,hp _ hx⟩
theorem fine_canon {s:List Col} {x:Ent} (h:entryCheck s x.kind x.seq x.prs=0∧PrOk x.prs):Canon s x.prs∧x.prs.length≤1024:=by
 obtain ⟨h1,h2⟩:=h
 have hz:=(entryCheck_zero h1).2.2.2
 obtain ⟨_,hl,hg⟩:=zCheck_len hz
 exact ⟨(zGo_canon h2 hg (fun r hr=>by cases hr)).1,hl⟩
theorem fold_law {s:List Col} (h0:schemaCheck s=0):∀(l:List Ent) (t:List Pr) (n:Nat),Fine s l→Canon s t→t.length≤1024→
 ∃j,j≤l.length∧(foldF s t n l).2=n+j∧Canon s (foldF s t n l).1∧(foldF s t n l).1.length≤1024∧∀row,wt (foldF s t n l).1 row=wt t row+wt (dels (l.take j)) row
 | [],t,n,_,hc,hl=>⟨0,Nat.le_refl _,rfl,hc,hl,fun row=>by simp[dels,wt,foldF]⟩
 | x::r,t,n,hf,hc,hl=>by
   have hx:=fine_canon (hf x (List.mem_cons_self ..))
   have hr:Fine s r:=fun y hy=>hf y (List.mem_cons_of_mem _ hy)
   unfold foldF
   by_cases hk:x.kind=0
   · rw[if_pos hk]
     obtain ⟨e,out,hs⟩:=summed_ex s (canon_ok hc) (canon_ok hx.1)
     rw[sumF_of hs]
     by_cases he:e=0
     · subst he
       rw[if_pos rfl]
       have h1:=(summed_is (of_canon h0 hc hl) (of_canon h0 hx.1 hx.2)).1 hs
       obtain ⟨_,_,hco,hlo,hw⟩:=collected_zero h1
       obtain ⟨j,g1,g2,g3,g4,g5⟩:=fold_law h0 r out (n+1) hr hco hlo
       refine ⟨j+1,by simp;omega,by rw[g2];omega,g3,g4,fun row=>?_⟩
       rw[g5,hw,wt_append,List.take_succ_cons]
       simp only[dels]
       rw[if_pos hk,wt_append]
       omega
     · rw[if_neg he]
       exact ⟨0,Nat.zero_le _,rfl,hc,hl,fun row=>by simp[dels,wt]⟩
   · rw[if_neg hk]
     obtain ⟨j,g1,g2,g3,g4,g5⟩:=fold_law h0 r t (n+1) hr hc hl
     refine ⟨j+1,by simp;omega,by rw[g2];omega,g3,g4,fun row=>?_⟩
     rw[g5,List.take_succ_cons]
     simp only[dels]
     rw[if_neg hk,List.nil_append]
theorem fold_pre {s:List Col} (r:List Ent):∀(l:List Ent) (t:List Pr) (n:Nat),((foldF s t n l).2=n+l.length∧foldF s t n (l++r)=foldF s (foldF s t n l).1 (foldF s t n l).2 r)∨foldF s t n (l++r)=foldF s t n l
 | [],t,n=>Or.inl ⟨rfl,rfl⟩
 | x::l,t,n=>by
   rw[List.cons_append]
   simp only[foldF,List.length_cons]
   by_cases hk:x.kind=0
   · rw[if_pos hk,if_pos hk]
     by_cases he:(sumF s t x.prs).1=0
     · rw[if_pos he,if_pos he]
       rcases fold_pre r l (sumF s t x.prs).2 (n+1) with ⟨h1,h2⟩ | h
       · exact Or.inl ⟨by rw[h1];omega,h2⟩
       · exact Or.inr h
     · rw[if_neg he,if_neg he]
       exact Or.inr rfl
   · rw[if_neg hk,if_neg hk]
     rcases fold_pre r l t (n+1) with ⟨h1,h2⟩ | h
     · exact Or.inl ⟨by rw[h1];omega,h2⟩
     · exact Or.inr h
theorem fold_all {s:List Col} {l:List Ent} (h0:schemaCheck s=0) (hf:Fine s l) (k:Nat):
 (foldF s [] 0 (l.take k)).2≤k∧(foldF s [] 0 (l.take k)).2≤l.length∧Canon s (foldF s [] 0 (l.take k)).1∧(foldF s [] 0 (l.take k)).1.length≤1024∧∀row,wt (foldF s [] 0 (l.take k)).1 row=wt (dels (l.take (foldF s [] 0 (l.take k)).2)) row:=by
 obtain ⟨j,g1,g2,g3,g4,g5⟩:=fold_law h0 (l.take k) [] 0 (hf.take k) (canon_nil s) (by simp)
 rw[List.length_take] at g1
 rw[Nat.zero_add] at g2
 refine ⟨by omega,by omega,g3,g4,fun row=>?_⟩
 rw[g5,g2,List.take_take,Nat.min_eq_left (by omega)]
 simp[wt]
theorem fold_mono {s:List Col} {l:List Ent} (h0:schemaCheck s=0) (hf:Fine s l) {a b:Nat} (hab:a≤b):(foldF s [] 0 (l.take a)).2≤(foldF s [] 0 (l.take b)).2:=by
 have e:l.take b=l.take a++(l.drop a).take (b - a):=by
  rw[show b=a+(b - a) by omega,List.take_add,Nat.add_sub_cancel_left]
 rw[e]
 rcases fold_pre (s:=s) ((l.drop a).take (b - a)) (l.take a) [] 0 with ⟨_,h⟩ | h
 · rw[h]
   obtain ⟨_,_,h3,h4,_⟩:=fold_all h0 hf a
   obtain ⟨j,_,g2,_⟩:=fold_law h0 ((l.drop a).take (b - a)) (foldF s [] 0 (l.take a)).1 (foldF s [] 0 (l.take a)).2 ((hf.drop a).take _) h3 h4
   omega
 · rw[h];exact Nat.le_refl _
theorem most_law {s:List Col} {l:List Ent} (h0:schemaCheck s=0) (hf:Fine s l) {lo hi:Nat} (hlh:lo≤hi) {a b rest:List Pr} {i k m:Nat} (ha:foldF s [] 0 (l.take lo)=(a,i)) (hb:foldF s [] 0 (l.take hi)=(b,k)):
 i≤k∧k≤l.length∧i≤lo∧k≤hi∧Canon s a∧a.length≤1024∧b.length≤1024∧(foldF s [] 0 (((l.drop i).take (k - i)).take (k - i))=(rest,m)→rest.length≤1024∧(m=k - i→∀{out:List Pr},Summed s a rest 0 out→out=b)):=by
 have hik:=fold_mono h0 hf hlh
 obtain ⟨a1,a2,a3,a4,a5⟩:=fold_all h0 hf lo
 obtain ⟨b1,b2,b3,b4,b5⟩:=fold_all h0 hf hi
 rw[ha] at hik a1 a2 a3 a4 a5
 rw[hb] at hik b1 b2 b3 b4 b5
 simp only at*
 refine ⟨hik,b2,a1,b1,a3,a4,b4,fun hr=>?_⟩
 obtain ⟨_,_,r3,r4,r5⟩:=fold_all h0 ((hf.drop i).take (k - i)) (k - i)
 rw[hr] at r3 r4 r5
 simp only at r3 r4 r5
 refine ⟨r4,fun hm out hs=>?_⟩
 subst hm
 rw[summed_is (of_canon h0 a3 a4) (of_canon h0 r3 r4)] at hs
 refine (collected_of h0 (rowsCheck_append (canon_rows a3) (canon_rows r3)) b3 (fun row=>?_) b4 hs).2
 rw[wt_append,a5,r5,b5,List.take_take,Nat.min_self]
 have e:l.take k=l.take i++(l.drop i).take (k - i):=by
  rw[show k=i+(k - i) by omega,List.take_add,Nat.add_sub_cancel_left]
 rw[e,dels_append,wt_append]
end Go.Proofs.YtibpkfnfcdbiiaaGreatDoor
