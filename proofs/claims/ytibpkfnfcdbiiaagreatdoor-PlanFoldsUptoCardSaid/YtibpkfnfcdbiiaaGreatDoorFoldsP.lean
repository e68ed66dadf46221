/- What PlanFolds says, in plain words. No program in sight. -/
import Derived.Test.YtibpkfnfcdbiiaaGreatDoorFoldP
import Derived.Test.YtibpkfnfcdbiiaaGreatDoorBunT
namespace Go.Proofs.YtibpkfnfcdbiiaaGreatDoor
set_option linter.unusedSimpArgs false
open Go.RowKit
set_option linter.unusedVariables false
theorem view_enc {s:List Col} {l:List Ent} (hp:∀x∈l,PrOk x.prs) (h:(encF s l).1=0):∃q v,viewF s l=(q,v,0)∧Canon s v∧v.length≤1024∧∀row,wt v row=wt (dels l) row:=by
 have hv:viewF s l=((encF s l).2.2.2.q,(encF s l).2.2.2.l,0):=by unfold viewF;rw[if_pos h]
 obtain ⟨h1,_,_⟩:=encF_ok hp h
 obtain ⟨hs,e⟩:=encF_zero h
 refine ⟨_,_,hv,h1.can,h1.len,fun row=>?_⟩
 rw[e] at h ⊢
 obtain ⟨_,_,_,_,hw⟩:=run_law hp (TOk.zero s) (encGo_run s l .zero (headBytes s) 0 h)
 rw[hw row]
 show wt [] row+_=_
 simp[wt]
theorem folds_law {s:List Col} {l:List Ent} (hp:∀x∈l,PrOk x.prs) (h:(encF s l).1=0) {i most:Nat} (hi:i<l.length) (hm:1≤most) {a:List Pr} {n:Nat} (ha:foldF s [] 0 ((l.drop i).take most)=(a,n)):
 1≤n∧n≤most∧n≤l.length - i∧a.length≤1024∧∃q v q' v',viewF s (l.take i)=(q,v,0)∧viewF s (l.take (i+n))=(q',v',0)∧v.length≤1024∧v'.length≤1024∧∀{e:Nat} {out:List Pr},Summed s v a e out→e=0∧out=v' :=by
 have h0:=(encF_zero h).1
 have hf:=fine_enc hp h
 obtain ⟨f1,f2,f3,f4,f5⟩:=fold_all h0 (hf.drop i) most
 rw[ha] at f1 f2 f3 f4 f5
 simp only[List.length_drop] at f1 f2 f3 f4 f5
 have hn:1≤n:=by
  obtain ⟨m,rfl⟩:∃m,most=m+1:=⟨most - 1,by omega⟩
  rw[List.drop_eq_getElem_cons hi,List.take_succ_cons] at ha
  have hx:=hf l[i] (List.getElem_mem hi)
  have hcx:=fine_canon hx
  unfold foldF at ha
  have hfr:Fine s ((l.drop (i+1)).take m):=(hf.drop (i+1)).take m
  by_cases hk:l[i].kind=0
  · rw[if_pos hk] at ha
    have k1:Collected s ([]++l[i].prs) 0 l[i].prs:=coll0 h0 (canon_rows hcx.1) (canon_ok hcx.1) hcx.1 (fun _=>rfl) hcx.2
    rw[sumF_of ((summed_is (of_canon h0 (canon_nil s) (by simp)) (of_canon h0 hcx.1 hcx.2)).2 k1),if_pos rfl] at ha
    obtain ⟨j,_,g2,_⟩:=fold_law h0 ((l.drop (i+1)).take m) l[i].prs (0+1) hfr hcx.1 hcx.2
    simp only at ha g2
    rw[ha] at g2
    simp only at g2
    omega
  · rw[if_neg hk] at ha
    obtain ⟨j,_,g2,_⟩:=fold_law h0 ((l.drop (i+1)).take m) [] (0+1) hfr (canon_nil s) (by simp)
    rw[ha] at g2
    simp only at g2
    omega
 obtain ⟨q,v,v1,v2,v3,v4⟩:=view_enc (fun x hx=>hp x (mem_take hx)) (encF_take h i).1
 obtain ⟨q',v',u1,u2,u3,u4⟩:=view_enc (fun x hx=>hp x (mem_take hx)) (encF_take h (i+n)).1
 refine ⟨hn,f1,f2,f4,q,v,q',v',v1,u1,v3,u3,fun {e out} hs=>?_⟩
 rw[summed_is (of_canon h0 v2 v3) (of_canon h0 f3 f4)] at hs
 refine collected_of h0 (rowsCheck_append (canon_rows v2) (canon_rows f3)) u2 (fun row=>?_) u3 hs
 rw[wt_append,v4,f5,u4,List.take_add,dels_append,wt_append]
end Go.Proofs.YtibpkfnfcdbiiaaGreatDoor
