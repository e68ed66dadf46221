/- Traces in plain words: what a state takes, what Encode lays. No program in sight. The set of any pairs exists: it, or why there is none. No program in sight. Entries in memory; a trace's state in memory: room, take. Contract of trace.all, whatever function it calls. What Encode does with each entry. Contracts of trace.Encode and trace.View. Contract of trace.View. -/
import Derived.Test.YtibpkfnfcdbiiaaGreatDoorEntryW
import Derived.Test.YtibpkfnfcdbiiaaGreatDoorHead
import Derived.Test.YtibpkfnfcdbiiaaGreatDoorEvA
import Derived.Test.YtibpkfnfcdbiiaaGreatDoorBunI
import Derived.Laws.EntriesVeiled
namespace Go.Proofs.YtibpkfnfcdbiiaaGreatDoor
set_option linter.unusedSimpArgs false
open Go.RowKit
set_option linter.unusedVariables false
structure Ent where
 kind:Int
 seq:Int
 prs:List Pr
instance:Inhabited Ent:=⟨⟨0,0,[]⟩⟩
theorem summedT_det {s:List Col} {l r:List Pr} {e e' :Nat} {out out' :List Pr} (h:Summed s l r e out) (h' :Summed s l r e' out'):e=e' ∧out=out' :=by
 unfold Summed at h h'
 split at h
 · rename_i h1
   rw[if_pos h1] at h'
   exact ⟨h.1.trans h'.1.symm,h.2.trans h'.2.symm⟩
 · rename_i h1
   rw[if_neg h1] at h'
   split at h
   · rename_i h2
     rw[if_pos h2] at h'
     exact ⟨h.1.trans h'.1.symm,h.2.trans h'.2.symm⟩
   · rename_i h2
     rw[if_neg h2] at h'
     exact collected_det h h'
theorem applied_det {s:List Col} {q kind eseq n n' :Int} {l p out out' :List Pr} {en en' :Nat} (h:Applied s q l kind eseq p n out en) (h' :Applied s q l kind eseq p n' out' en'):n=n' ∧out=out' ∧en=en' :=by
 unfold Applied at h h'
 split at h
 · rename_i h1;rw[if_pos h1] at h';exact ⟨h.1.trans h'.1.symm,h.2.1.trans h'.2.1.symm,h.2.2.trans h'.2.2.symm⟩
 · rename_i h1;rw[if_neg h1] at h'
   split at h
   · rename_i h1;rw[if_pos h1] at h';exact ⟨h.1.trans h'.1.symm,h.2.1.trans h'.2.1.symm,h.2.2.trans h'.2.2.symm⟩
   · rename_i h1;rw[if_neg h1] at h'
     split at h
     · rename_i h1;rw[if_pos h1] at h';exact ⟨h.1.trans h'.1.symm,h.2.1.trans h'.2.1.symm,h.2.2.trans h'.2.2.symm⟩
     · rename_i h1;rw[if_neg h1] at h'
       split at h
       · rename_i h1;rw[if_pos h1] at h'
         split at h
         · rename_i h1;rw[if_pos h1] at h';exact ⟨h.1.trans h'.1.symm,h.2.1.trans h'.2.1.symm,h.2.2.trans h'.2.2.symm⟩
         · rename_i h1;rw[if_neg h1] at h'
           split at h
           · rename_i h1;rw[if_pos h1] at h';exact ⟨h.1.trans h'.1.symm,h.2.1.trans h'.2.1.symm,h.2.2.trans h'.2.2.symm⟩
           · rename_i h1;rw[if_neg h1] at h';exact ⟨h.1.trans h'.1.symm,h.2.1.trans h'.2.1.symm,h.2.2.trans h'.2.2.symm⟩
       · rename_i h1;rw[if_neg h1] at h'
         split at h
         · rename_i h1;rw[if_pos h1] at h';exact ⟨h.1.trans h'.1.symm,h.2.1.trans h'.2.1.symm,h.2.2.trans h'.2.2.symm⟩
         · rename_i h1;rw[if_neg h1] at h'
           obtain ⟨e1,e2⟩:=summedT_det h.1 h'.1
           subst e1 e2
           exact ⟨h.2.trans h'.2.symm,rfl,rfl⟩
noncomputable def applyF (s:List Col) (q:Int) (l:List Pr) (x:Ent):Int×List Pr×Nat:=open Classical in if h:∃t:Int×List Pr×Nat,Applied s q l x.kind x.seq x.prs t.1 t.2.1 t.2.2 then Classical.choose h else (0,[],0)
theorem applyF_of {s:List Col} {q n:Int} {l out:List Pr} {x:Ent} {en:Nat} (h:Applied s q l x.kind x.seq x.prs n out en):applyF s q l x=(n,out,en):=by
 unfold applyF
 have h0:∃t:Int×List Pr×Nat,Applied s q l x.kind x.seq x.prs t.1 t.2.1 t.2.2:=⟨(n,out,en),h⟩
 rw[dif_pos h0]
 obtain ⟨h1,h2,h3⟩:=applied_det (Classical.choose_spec h0) h
 exact Prod.ext h1 (Prod.ext h2 h3)
structure TSt where
 q:Int
 l:List Pr
 m:Nat
def TSt.zero:TSt:=⟨0,[],0⟩
noncomputable def takeF (s:List Col) (t:TSt) (x:Ent):Nat×TSt:=
 if 4096≤t.m then (13,t) else if (applyF s t.q t.l x).2.2=0 then (0,⟨(applyF s t.q t.l x).1,(applyF s t.q t.l x).2.1,t.m+1⟩) else ((applyF s t.q t.l x).2.2,t)
structure TOk (s:List Col) (t:TSt):Prop where
 can:Canon s t.l
 len:t.l.length≤1024
 q:0≤t.q∧t.q≤281474976710656
 m:t.m≤4096
theorem TOk.zero (s:List Col):TOk s TSt.zero:=⟨⟨by simp[TSt.zero],by simp[TSt.zero],by simp[TSt.zero],by simp[TSt.zero]⟩,by simp[TSt.zero],⟨by simp[TSt.zero],by simp[TSt.zero]⟩,by simp[TSt.zero]⟩
noncomputable def encGo (s:List Col):TSt→List UInt8→Nat→List Ent→Nat×Nat×List UInt8×TSt
 | t,b,n,[]=>(0,n,b,t)
 | t,b,n,x::r=>if (takeF s t x).1=0 then (if entryErr s x.kind x.seq x.prs=0 then encGo s (takeF s t x).2 (b++entryBy s x.kind x.seq x.prs) (n+1) r else (entryErr s x.kind x.seq x.prs,n,[],t)) else ((takeF s t x).1,n,[],t)
noncomputable def encF (s:List Col) (l:List Ent):Nat×Nat×List UInt8×TSt:=if schemaCheck s=0 then encGo s .zero (headBytes s) 0 l else (schemaCheck s,0,[], .zero)
noncomputable def runGo (s:List Col):TSt→Nat→List Ent→Nat×Nat×TSt
 | t,n,[]=>(0,n,t)
 | t,n,x::r=>if (takeF s t x).1=0 then runGo s (takeF s t x).2 (n+1) r else ((takeF s t x).1,n,t)
noncomputable def viewF (s:List Col) (l:List Ent):Int×List Pr×Nat:=if (encF s l).1=0 then ((encF s l).2.2.2.q,(encF s l).2.2.2.l,0) else (0,[],(encF s l).1)
theorem encGo_run (s:List Col):∀(l:List Ent) (t:TSt) (b:List UInt8) (n:Nat),(encGo s t b n l).1=0→runGo s t n l=(0,(encGo s t b n l).2.1,(encGo s t b n l).2.2.2)
 | [],_,_,_,_=>rfl
 | x::r,t,b,n,h=>by
   simp only[encGo] at h ⊢
   simp only[runGo]
   by_cases h1:(takeF s t x).1=0
   · rw[if_pos h1] at h ⊢
     rw[if_pos h1]
     by_cases h2:entryErr s x.kind x.seq x.prs=0
     · rw[if_pos h2] at h ⊢;exact encGo_run s r _ _ _ h
     · rw[if_neg h2] at h;exact absurd h h2
   · rw[if_neg h1] at h;exact absurd h h1
theorem encGo_n (s:List Col):∀(l:List Ent) (t:TSt) (b:List UInt8) (n:Nat),n≤(encGo s t b n l).2.1∧(encGo s t b n l).2.1≤n+l.length∧((encGo s t b n l).1=0→(encGo s t b n l).2.1=n+l.length)
 | [],_,_,n=>by simp[encGo]
 | x::r,t,b,n=>by
   simp only[encGo]
   split
   · split
     · have:=encGo_n s r (takeF s t x).2 (b++entryBy s x.kind x.seq x.prs) (n+1)
       simp only[List.length_cons]
       refine ⟨by omega,by omega,fun h=>?_⟩
       have:=this.2.2 h
       omega
     · rename_i h;simp;exact fun h' =>absurd h' h
   · rename_i h;simp;exact fun h' =>absurd h' h
theorem encGo_append (s:List Col) (r:List Ent):∀(l:List Ent) (t:TSt) (b:List UInt8) (n:Nat),encGo s t b n (l++r)=if (encGo s t b n l).1=0 then encGo s (encGo s t b n l).2.2.2 (encGo s t b n l).2.2.1 (encGo s t b n l).2.1 r else encGo s t b n l
 | [],_,_,_=>by simp[encGo]
 | x::l,t,b,n=>by
   simp only[List.cons_append,encGo]
   by_cases h1:(takeF s t x).1=0
   · by_cases h2:entryErr s x.kind x.seq x.prs=0
     · simp only[if_pos h1,if_pos h2];exact encGo_append s r l _ _ _
     · simp only[if_pos h1,if_neg h2]
   · simp only[if_neg h1]
theorem encGo_bytes (s:List Col):∀(l:List Ent) (t:TSt) (b:List UInt8) (n:Nat),(encGo s t b n l).1=0→∃d,(encGo s t b n l).2.2.1=b++d∧∀b' n',encGo s t b' n' l=(0,n' +l.length,b' ++d,(encGo s t b n l).2.2.2)
 | [],_,b,_,_=>⟨[],by simp[encGo],by simp[encGo]⟩
 | x::r,t,b,n,h=>by
   simp only[encGo] at h ⊢
   by_cases h1:(takeF s t x).1=0
   · rw[if_pos h1] at h ⊢
     by_cases h2:entryErr s x.kind x.seq x.prs=0
     · rw[if_pos h2] at h ⊢
       obtain ⟨d,e1,e2⟩:=encGo_bytes s r _ _ _ h
       refine ⟨entryBy s x.kind x.seq x.prs++d,by rw[e1,List.append_assoc],fun b' n' =>?_⟩
       rw[if_pos h1,if_pos h2,e2,List.length_cons,List.append_assoc]
       simp only[Prod.mk.injEq,true_and,and_true]
       omega
     · rw[if_neg h2] at h;exact absurd h h2
   · rw[if_neg h1] at h;exact absurd h h1
structure PreC (s:List Col) (l:List Pr):Prop where
 rows:∀p∈l,RowIs s p.row
 nz:∀p∈l,p.weight≠0
 lt:l.Pairwise (fun p q=>rowCmp s p.row q.row<0)
theorem PreC.tail {s:List Col} {p:Pr} {l:List Pr} (h:PreC s (p::l)):PreC s l:=
 ⟨fun q hq=>h.rows q (List.mem_cons_of_mem _ hq),fun q hq=>h.nz q (List.mem_cons_of_mem _ hq),(List.pairwise_cons.1 h.lt).2⟩
theorem PreC.put {s:List Col} {f:List Cel} (hf:RowIs s f) (x:Int):∀{l:List Pr},PreC s l→∃c,PreC s c∧(∀r,wt c r=wt l r+(if f=r then x else 0))∧∀g,RowIs s g→rowCmp s g f<0→(∀p∈l,rowCmp s g p.row<0)→∀p∈c,rowCmp s g p.row<0
 | [],_=>by
   by_cases h0:x=0
   · exact ⟨[],⟨by simp,by simp,by simp⟩,fun r=>by rw[h0];simp[wt],by simp⟩
   · exact ⟨[⟨f,x⟩],⟨by simpa using hf,by simpa using h0,by simp⟩,fun r=>by simp only[wt];omega,fun g _ h _=>by simpa using h⟩
 | q::l,h=>by
   have rq:=h.rows q (by simp)
   have nq:=h.nz q (by simp)
   rcases Int.lt_trichotomy (rowCmp s f q.row) 0 with hlt | h0 | hgt
   · have hall:∀p∈q::l,rowCmp s f p.row<0:=fun p hp=>by
      rcases List.mem_cons.1 hp with rfl | hp
      · exact hlt
      · exact rowCmp_lt_trans hf rq (h.rows p (List.mem_cons_of_mem _ hp)) hlt (by have:=(List.pairwise_cons.1 h.lt).1 p hp;omega)
     by_cases x0:x=0
     · exact ⟨q::l,h,fun r=>by rw[x0];simp,fun g _ _ h=>h⟩
     · refine ⟨⟨f,x⟩::q::l,⟨fun p hp=>?_,fun p hp=>?_,List.pairwise_cons.2 ⟨hall,h.lt⟩⟩,fun r=>by simp only[wt];omega,fun g _ hg hl p hp=>?_⟩
       · rcases List.mem_cons.1 hp with rfl | hp
         · exact hf
         · exact h.rows p hp
       · rcases List.mem_cons.1 hp with rfl | hp
         · exact x0
         · exact h.nz p hp
       · rcases List.mem_cons.1 hp with rfl | hp
         · exact hg
         · exact hl p hp
   · have e:=(rowCmp_zero hf rq).1 h0
     subst e
     by_cases x0:q.weight+x=0
     · refine ⟨l,h.tail,fun r=>?_,fun g _ _ hl p hp=>hl p (List.mem_cons_of_mem _ hp)⟩
       simp only[wt]
       split<;>omega
     · refine ⟨⟨q.row,q.weight+x⟩::l,⟨fun p hp=>?_,fun p hp=>?_,List.pairwise_cons.2 ⟨(List.pairwise_cons.1 h.lt).1,h.tail.lt⟩⟩,fun r=>?_,fun g _ hg hl p hp=>?_⟩
       · rcases List.mem_cons.1 hp with rfl | hp
         · exact hf
         · exact h.tail.rows p hp
       · rcases List.mem_cons.1 hp with rfl | hp
         · exact x0
         · exact h.tail.nz p hp
       · simp only[wt]
         split<;>omega
       · rcases List.mem_cons.1 hp with rfl | hp
         · exact hg
         · exact hl p (List.mem_cons_of_mem _ hp)
   · obtain ⟨c,hc,hw,hg⟩:=PreC.put hf x h.tail
     have hqf:rowCmp s q.row f<0:=by rw[rowCmp_anti hf rq];omega
     have hlt:=hg q.row rq hqf (List.pairwise_cons.1 h.lt).1
     refine ⟨q::c,⟨fun p hp=>?_,fun p hp=>?_,List.pairwise_cons.2 ⟨hlt,hc.lt⟩⟩,fun r=>by simp only[wt];rw[hw r];omega,fun g rg hgf hl p hp=>?_⟩
     · rcases List.mem_cons.1 hp with rfl | hp
       · exact rq
       · exact hc.rows p hp
     · rcases List.mem_cons.1 hp with rfl | hp
       · exact nq
       · exact hc.nz p hp
     · rcases List.mem_cons.1 hp with rfl | hp
       · exact hl p (by simp)
       · exact hg g rg hgf (fun y hy=>hl y (List.mem_cons_of_mem _ hy)) p hp
theorem preC_of {s:List Col}:∀{l:List Pr},(∀p∈l,RowIs s p.row)→∃c,PreC s c∧∀r,wt c r=wt l r
 | [],_=>⟨[],⟨by simp,by simp,by simp⟩,fun r=>rfl⟩
 | p::l,h=>by
   obtain ⟨c,hc,hw⟩:=preC_of (l:=l) (fun q hq=>h q (List.mem_cons_of_mem _ hq))
   obtain ⟨d,hd,hw2,_⟩:=hc.put (h p (by simp)) p.weight
   exact ⟨d,hd,fun r=>by rw[hw2,hw];simp only[wt];omega⟩
theorem rowsCheck_all {s:List Col}:∀{l:List Pr},rowsCheck s l=0→∀p∈l,rowCheck s p.row=0
 | [],_=>by simp
 | q::l,h=>by
   simp only[rowsCheck] at h
   by_cases h0:rowCheck s q.row=0
   · rw[if_pos h0] at h
     intro p hp
     rcases List.mem_cons.1 hp with rfl | hp
     · exact h0
     · exact rowsCheck_all h p hp
   · rw[if_neg h0] at h;exact absurd h h0
theorem PreC.wt_at {s:List Col}:∀{l:List Pr},PreC s l→∀p∈l,wt l p.row=p.weight
 | [],_=>by simp
 | q::l,h=>by
   intro p hp
   simp only[wt]
   rcases List.mem_cons.1 hp with rfl | hp
   · rw[if_pos rfl,wt_none (fun x hx=>rowCmp_ne (h.rows p (by simp)) ((List.pairwise_cons.1 h.lt).1 x hx))];omega
   · have hne:q.row≠p.row:=fun e=>rowCmp_ne (h.rows q (by simp)) ((List.pairwise_cons.1 h.lt).1 p hp) e.symm
     rw[if_neg hne,PreC.wt_at h.tail p hp];omega
theorem collected_ex (s:List Col) {l:List Pr} (hok:PrOk l):∃e out,Collected s l e out:=by
 by_cases h1:schemaCheck s≠0
 · exact ⟨schemaCheck s,[],by unfold Collected;rw[if_pos h1];exact ⟨rfl,rfl⟩⟩
 by_cases h2:rowsCheck s l≠0
 · exact ⟨rowsCheck s l,[],by unfold Collected;rw[if_neg h1,if_pos h2];exact ⟨rfl,rfl⟩⟩
 by_cases h3:∃r,¬I64 (wt l r)
 · exact ⟨12,[],by unfold Collected;rw[if_neg h1,if_neg h2];exact Or.inl ⟨h3,rfl,rfl⟩⟩
 have h3' :∀r,I64 (wt l r):=fun r=>Classical.byContradiction (fun h=>h3 ⟨r,h⟩)
 have hrows:∀p∈l,RowIs s p.row:=fun p hp=>⟨rowsCheck_all (by omega) p hp,(hok p hp).2⟩
 obtain ⟨c,hc,hw⟩:=preC_of hrows
 have hcan:Canon s c:=⟨hc.rows,hc.nz,fun p hp=>by rw[←hc.wt_at p hp,hw];exact h3' _,hc.lt⟩
 by_cases h4:1024<c.length
 · exact ⟨13,[],by unfold Collected;rw[if_neg h1,if_neg h2];exact Or.inr ⟨h3',c,hcan,hw,Or.inl ⟨h4,rfl,rfl⟩⟩⟩
 · exact ⟨0,c,by unfold Collected;rw[if_neg h1,if_neg h2];exact Or.inr ⟨h3',c,hcan,hw,Or.inr ⟨by omega,rfl,rfl⟩⟩⟩
theorem summed_ex (s:List Col) {l r:List Pr} (hl:PrOk l) (hr:PrOk r):∃e out,Summed s l r e out:=by
 by_cases h1:zCheck s l≠0
 · exact ⟨zCheck s l,[],by unfold Summed;rw[if_pos h1];exact ⟨rfl,rfl⟩⟩
 by_cases h2:zCheck s r≠0
 · exact ⟨zCheck s r,[],by unfold Summed;rw[if_neg h1,if_pos h2];exact ⟨rfl,rfl⟩⟩
 obtain ⟨e,out,h⟩:=collected_ex s (l:=l++r) (fun p hp=>(List.mem_append.1 hp).elim (hl p) (hr p))
 exact ⟨e,out,by unfold Summed;rw[if_neg h1,if_neg h2];exact h⟩
theorem applied_ex (s:List Col) (q:Int) {l:List Pr} (kind eseq:Int) {p:List Pr} (hl:PrOk l) (hp:PrOk p):∃n out en,Applied s q l kind eseq p n out en:=by
 obtain ⟨e,out,hs⟩:=summed_ex s hl hp
 by_cases h1:zCheck s l≠0
 · exact ⟨0,[],zCheck s l,by unfold Applied;rw[if_pos h1];exact ⟨rfl,rfl,rfl⟩⟩
 by_cases h2:q<0∨281474976710656<q
 · exact ⟨0,[],3,by unfold Applied;rw[if_neg h1,if_pos h2];exact ⟨rfl,rfl,rfl⟩⟩
 by_cases h3:entryCheck s kind eseq p≠0
 · exact ⟨0,[],entryCheck s kind eseq p,by unfold Applied;rw[if_neg h1,if_neg h2,if_pos h3];exact ⟨rfl,rfl,rfl⟩⟩
 by_cases h4:kind=1
 · by_cases h5:eseq≠q
   · exact ⟨0,[],14,by unfold Applied;rw[if_neg h1,if_neg h2,if_neg h3,if_pos h4,if_pos h5];exact ⟨rfl,rfl,rfl⟩⟩
   by_cases h6:l=p
   · exact ⟨q,l,0,by unfold Applied;rw[if_neg h1,if_neg h2,if_neg h3,if_pos h4,if_neg h5,if_pos h6];exact ⟨rfl,rfl,rfl⟩⟩
   · exact ⟨0,[],15,by unfold Applied;rw[if_neg h1,if_neg h2,if_neg h3,if_pos h4,if_neg h5,if_neg h6];exact ⟨rfl,rfl,rfl⟩⟩
 by_cases h5:eseq≠q+1
 · exact ⟨0,[],14,by unfold Applied;rw[if_neg h1,if_neg h2,if_neg h3,if_neg h4,if_pos h5];exact ⟨rfl,rfl,rfl⟩⟩
 · exact ⟨_,out,e,by unfold Applied;rw[if_neg h1,if_neg h2,if_neg h3,if_neg h4,if_neg h5];exact ⟨hs,rfl⟩⟩
def rEnt:Rep Ent:=fun S w cs x=>(I64 x.kind∧I64 x.seq)∧x.prs.length≤lim∧∃a cap,cs=[.int .i64 x.kind, .int .i64 x.seq, .slice a x.prs.length cap]∧SV rPr 2 S w a cap x.prs
theorem rEnt_ok:rEnt.Ok 3:=by
 refine ⟨?_,?_,?_,?_⟩
 · rintro S T w w' cs x ⟨h1,h2,a,cap,rfl,h⟩ hf hT;exact ⟨h1,h2,a,cap,rfl,h.fr rPr_ok hf hT⟩
 · rintro S T w cs x ⟨h1,h2,a,cap,rfl,h⟩ hS;exact ⟨h1,h2,a,cap,rfl,h.mono rPr_ok hS⟩
 · rintro S w cs x ⟨_,_,a,cap,rfl,_⟩;rfl
 · rintro S w cs x ⟨_,_,a,cap,rfl,_⟩ u hu
   simp at hu
   rcases hu with rfl | rfl | rfl<;>rfl
theorem ent_at {S:Nat→Prop} {w:World} {a:Option Addr} {cap:Nat} {l:List Ent} (h:SV rEnt 3 S w a cap l) {k:Nat} (hk:k<l.length):
 ∃b off ra rc,a=some ⟨b,off,none⟩∧S b∧(I64 l[k].kind∧I64 l[k].seq)∧l[k].prs.length≤lim∧SV rPr 2 S w ra rc l[k].prs∧w.cell? ⟨b,off+k*3,none⟩=some (.int .i64 l[k].kind)∧w.cell? ⟨b,off+k*3+1,none⟩=some (.int .i64 l[k].seq)∧w.cell? ⟨b,off+k*3+2,none⟩=some (.slice ra l[k].prs.length rc):=by
 obtain ⟨b,off,c,ha,hS,⟨h1,h2,ra,rc,rfl,h3⟩,_,hc⟩:=h.get rEnt_ok hk
 exact ⟨b,off,ra,rc,ha,hS,h1,h2,h3,by simpa using hc 0 (by omega),by simpa using hc 1 (by omega),by simpa using hc 2 (by omega)⟩
theorem ents_ok {S:Nat→Prop} {w:World} {a:Option Addr} {cap:Nat} {l:List Ent} (h:SV rEnt 3 S w a cap l):∀x∈l,PrOk x.prs:=fun x hx=>by
 obtain ⟨k,hk,rfl⟩:=List.mem_iff_getElem.1 hx
 obtain ⟨_,_,_,_,_,_,_,_,h3,_⟩:=ent_at h hk
 exact sv_ok h3
theorem applied_ok {s:List Col} {q kind eseq n:Int} {l p out:List Pr} (h:Applied s q l kind eseq p n out 0):entryCheck s kind eseq p=0∧zCheck s l=0∧(kind=1∧eseq=q∧l=p∧n=q∧out=l∨kind=0∧eseq=q+1∧n=q+1∧Summed s l p 0 out):=by
 unfold Applied at h
 split at h
 · rename_i h0;exact absurd h.2.2.symm h0
 · rename_i hz
   split at h
   · exact absurd h.2.2 (by decide)
   · split at h
     · rename_i h0;exact absurd h.2.2.symm h0
     · rename_i h0
       have hc:entryCheck s kind eseq p=0:=by omega
       obtain ⟨_,hk,_,_⟩:=entryCheck_zero hc
       refine ⟨hc,by omega,?_⟩
       split at h
       · rename_i hk1
         split at h
         · exact absurd h.2.2 (by decide)
         · rename_i he
           split at h
           · rename_i hv;exact Or.inl ⟨hk1,by omega,hv,h.1,h.2.1⟩
           · exact absurd h.2.2 (by decide)
       · rename_i hk1
         split at h
         · exact absurd h.2.2 (by decide)
         · rename_i he
           rw[if_pos rfl] at h
           exact Or.inr ⟨by omega,by omega,h.2,h.1⟩
theorem takeF_zero {s:List Col} {t:TSt} {x:Ent} (hok:TOk s t) (hp:PrOk x.prs) (h:(takeF s t x).1=0):
 t.m<4096∧entryCheck s x.kind x.seq x.prs=0∧(takeF s t x).2.m=t.m+1∧(x.kind=1∧x.seq=t.q∧t.l=x.prs∧(takeF s t x).2.q=t.q∧(takeF s t x).2.l=t.l∨x.kind=0∧x.seq=t.q+1∧(takeF s t x).2.q=t.q+1∧Collected s (t.l++x.prs) 0 (takeF s t x).2.l):=by
 obtain ⟨n,out,en,ha⟩:=applied_ex s t.q x.kind x.seq (canon_ok hok.can) hp
 have hF:=applyF_of ha
 unfold takeF at h ⊢
 rw[hF] at h ⊢
 by_cases hm:4096≤t.m
 · rw[if_pos hm] at h;simp at h
 · rw[if_neg hm] at h ⊢
   simp only at h ⊢
   by_cases he:en=0
   · subst he
     rw[if_pos rfl]
     obtain ⟨h1,h2,h3⟩:=applied_ok ha
     refine ⟨by omega,h1,rfl,?_⟩
     rcases h3 with ⟨a1,a2,a3,a4,a5⟩ | ⟨a1,a2,a3,a4⟩
     · exact Or.inl ⟨a1,a2,a3,a4,a5⟩
     · exact Or.inr ⟨a1,a2,a3,(summed_is h2 (entryCheck_zero h1).2.2.2).1 a4⟩
   · rw[if_neg he] at h;exact absurd h he
theorem takeF_ok {s:List Col} {t:TSt} {x:Ent} (hok:TOk s t) (hp:PrOk x.prs):TOk s (takeF s t x).2:=by
 by_cases h:(takeF s t x).1=0
 · obtain ⟨hm,hc,h1,h2⟩:=takeF_zero hok hp h
   obtain ⟨_,_,hq,_⟩:=entryCheck_zero hc
   rcases h2 with ⟨_,_,_,a4,a5⟩ | ⟨_,a2,a3,a4⟩
   · exact ⟨by rw[a5];exact hok.can,by rw[a5];exact hok.len,by rw[a4];exact hok.q,by omega⟩
   · obtain ⟨_,_,hco,hlo,_⟩:=collected_zero a4
     exact ⟨hco,hlo,by rw[a3];have:=hok.q;omega,by omega⟩
 · have:(takeF s t x).2=t:=by
    unfold takeF at h ⊢
    split
    · rfl
    · rename_i hm
      rw[if_neg hm] at h
      split
      · rename_i h';rw[if_pos h'] at h;exact absurd rfl h
      · rfl
   rw[this];exact hok
def StAt (w:World) (V:Nat→Prop) (v:Nat) (s:List Col) (t:TSt):Prop:=
 ∃sa sc la lc,w.heap[v]? =some (.cells #[.slice sa s.length sc, .int .i64 t.q, .slice la t.l.length lc, .int .i64 t.m] 136 (0,0))∧SV rCol 2 V w sa sc s∧SV rPr 2 V w la lc t.l
theorem StAt.fr {w w' :World} {V T:Nat→Prop} {v:Nat} {s:List Col} {t:TSt} (h:StAt w V v s t) (hf:Fr T w w') (hv:¬T v) (hV:∀k,V k→¬T k):StAt w' V v s t:=by
 obtain ⟨sa,sc,la,lc,h1,h2,h3⟩:=h
 exact ⟨sa,sc,la,lc,hf.heap h1 hv,h2.fr rCol_ok hf hV,h3.fr rPr_ok hf hV⟩
theorem StAt.frN {w w' :World} {V:Nat→Prop} {v:Nat} {s:List Col} {t:TSt} (h:StAt w V v s t) (hf:Fr nob w w'):StAt w' V v s t:=h.fr hf id (fun _ _=>id)
theorem StAt.mono {w:World} {V U:Nat→Prop} {v:Nat} {s:List Col} {t:TSt} (h:StAt w V v s t) (hV:∀k,V k→U k):StAt w U v s t:=by
 obtain ⟨sa,sc,la,lc,h1,h2,h3⟩:=h
 exact ⟨sa,sc,la,lc,h1,h2.mono rCol_ok hV,h3.mono rPr_ok hV⟩
set_option maxRecDepth 100000 in
set_option maxHeartbeats 1000000 in
theorem stRoom_any {w:World} {V:Nat→Prop} {v:Nat} {s:List Col} {t:TSt} (h:StAt w V v s t):Calls Tryz.prog 111 #[.pointer (some ⟨v,0,none⟩)] w fun e w' =>e= .returned (.int .i64 (if 4096≤t.m then 13 else 0:Nat))∧Fr nob w w' :=by
 obtain ⟨sa,sc,la,lc,h1,_⟩:=h
 have k3:=cell_of h1 3
 simp at k3
 clear h1
 generalize t.m=m at k3
 by_cases hm:4096≤m
 · rw[if_pos hm]
   go_enter Tryz.func111,Tryz.ntmps111
   go_wp2_with fail
   go_ret
   exact ⟨rfl,Fr.refl _ _⟩
 · rw[if_neg hm]
   go_enter Tryz.func111,Tryz.ntmps111
   go_wp2_with fail
   go_ret
   exact ⟨rfl,Fr.refl _ _⟩
set_option maxRecDepth 100000 in
set_option maxHeartbeats 8000000 in
theorem take_w {w:World} {V:Nat→Prop} {v:Nat} {s:List Col} {t:TSt} (h:StAt w V v s t) {x:Ent} {pa:Option Addr} {pc:Nat} (hp:SV rPr 2 V w pa pc x.prs) (hV:∀k,V k→k<w.heap.size∧k≠v) (hL:Laid w) (h0:s.length≤lim) (h2:x.prs.length≤lim) (hok:TOk s t):
 Calls Tryz.prog 71 #[.pointer (some ⟨v,0,none⟩), .agg #[.int .i64 x.kind, .int .i64 x.seq, .slice pa x.prs.length pc]] w fun e w' =>e= .returned (.int .i64 ((takeF s t x).1:Nat))∧Fr (fun k=>k=v) w w' ∧StAt w' (fun k=>V k∨newb w w' k) v s (takeF s t x).2:=by
 obtain ⟨kind,eseq,p⟩:=x
 simp only at hp h2 ⊢
 obtain ⟨w1,hw1⟩:∃w1,w1=w.alloc (.cells #[.int .i64 kind, .int .i64 eseq, .slice pa p.length pc] 40 (0,0)):=⟨_,rfl⟩
 have hf1:Fr nob w w1:=by rw[hw1];exact (Fr.refl nob w).alloc _
 have hX:=heap_new w (.cells #[.int .i64 kind, .int .i64 eseq, .slice pa p.length pc] 40 (0,0))
 rw[←hw1] at hX
 obtain ⟨z,hz⟩:∃z,z=w.heap.size:=⟨_,rfl⟩
 rw[←hz] at hX
 have HH:=Lib.hid h
 have HP:=Lib.hid hp
 obtain ⟨sa,sc,la,lc,hb,hs,hl⟩:=h
 have HS:=Lib.hid hs
 have HV:=Lib.hid hl
 have HLA:=Lib.hid hL
 have HVV:=Lib.hid hV
 have HW1:=Lib.hid hw1
 have HZ:=Lib.hid hz
 have HOK:=Lib.hid hok
 have hq:=hok.q
 have hll:=hok.len
 obtain ⟨q,l,m⟩:=t
 simp only at hb hl hq hll ⊢
 have HLIM:=Lib.hid (⟨h0,by unfold lim;omega,h2,by unfold I64;omega⟩:_∧l.length≤lim∧_∧I64 q)
 have QV:=Lib.hid (fun y (hy:Fr nob w y)=>hy.heap hb id)
 have QZ:=Lib.hid (fun y (hy:Fr nob w1 y)=>hy.heap hX id)
 have hroom:=stRoom_any (HH.out.frN hf1)
 simp only at hroom
 have E1:=Lib.hid (Ev.of hf1 (nob_lt _))
 have G1:=Lib.hid hf1
 have HF1:=Lib.hid hf1
 clear hb hs hl hX hw1 hz hL hf1 h0 h2 hV hp hok hq hll
 have q0:∀y,Fr nob w1 y→y.cell? ⟨v,0,none⟩=some (.slice sa s.length sc):=fun y hy=>by have:=cell_of (QV.out y (HF1.out.andN hy)) 0;simpa using this
 have q1:∀y,Fr nob w1 y→y.cell? ⟨v,1,none⟩=some (.int .i64 q):=fun y hy=>by have:=cell_of (QV.out y (HF1.out.andN hy)) 1;simpa using this
 have q2:∀y,Fr nob w1 y→y.cell? ⟨v,2,none⟩=some (.slice la l.length lc):=fun y hy=>by have:=cell_of (QV.out y (HF1.out.andN hy)) 2;simpa using this
 have p0:∀y,Fr nob w1 y→y.cell? ⟨z,0,none⟩=some (.int .i64 kind):=fun y hy=>by have:=cell_of (QZ.out y hy) 0;simpa using this
 have p1:∀y,Fr nob w1 y→y.cell? ⟨z,1,none⟩=some (.int .i64 eseq):=fun y hy=>by have:=cell_of (QZ.out y hy) 1;simpa using this
 have p2:∀y,Fr nob w1 y→y.cell? ⟨z,2,none⟩=some (.slice pa p.length pc):=fun y hy=>by have:=cell_of (QZ.out y hy) 2;simpa using this
 obtain ⟨R,hR⟩:∃R,R=takeF s ⟨q,l,m⟩ ⟨kind,eseq,p⟩:=⟨_,rfl⟩
 rw[←hR]
 have HR:=Lib.hid hR
 have Q0:=Lib.hid (⟨q0,q1,q2⟩:_∧_∧_)
 have P0:=Lib.hid (⟨p0,p1,p2⟩:_∧_∧_)
 clear hR q0 q1 q2 p0 p1 p2
 go_enter Tryz.func71,Tryz.ntmps71
 go_wp2_with fail
 rw[←HW1.out,←HZ.out]
 refine hroom.mono ?_
 rintro e w2 ⟨rfl,hf2⟩
 clear hroom
 have E2:=Lib.hid (Ev.of hf2 E1.out.lt)
 have G2:=Lib.hid hf2
 by_cases hm:4096≤m
 · have hT:R=(13,⟨q,l,m⟩):=by rw[HR.out];unfold takeF;rw[if_pos hm]
   have HT:=Lib.hid hT
   rw[if_pos hm]
   clear hT
   go_wp2_with fail
   go_ret
   rw[HT.out]
   exact ⟨rfl,((G1.out.andN G2.out)).mono (fun k _ h=>h.elim),(HH.out.frN (G1.out.andN G2.out)).mono (fun k hk=>Or.inl hk)⟩
 rw[if_neg hm]
 go_wp2_with fail
 have q0:∀y,Fr nob w2 y→y.cell? ⟨v,0,none⟩=some (.slice sa s.length sc):=fun y hy=>Q0.out.1 y ((G2.out).andN hy)
 have q1:∀y,Fr nob w2 y→y.cell? ⟨v,1,none⟩=some (.int .i64 q):=fun y hy=>Q0.out.2.1 y ((G2.out).andN hy)
 have q2:∀y,Fr nob w2 y→y.cell? ⟨v,2,none⟩=some (.slice la l.length lc):=fun y hy=>Q0.out.2.2 y ((G2.out).andN hy)
 have p0:∀y,Fr nob w2 y→y.cell? ⟨z,0,none⟩=some (.int .i64 kind):=fun y hy=>P0.out.1 y ((G2.out).andN hy)
 have p1:∀y,Fr nob w2 y→y.cell? ⟨z,1,none⟩=some (.int .i64 eseq):=fun y hy=>P0.out.2.1 y ((G2.out).andN hy)
 have p2:∀y,Fr nob w2 y→y.cell? ⟨z,2,none⟩=some (.slice pa p.length pc):=fun y hy=>P0.out.2.2 y ((G2.out).andN hy)
 refine wp_region_ord [(0,true),(1,true),(2,true),(3,true),(4,true),(5,true),(6,true),(7,true),(8,true),(9,true),(10,true),(11,true),(12,true),(13,false),(14,true),(15,true),(16,true),(17,true),(18,true),(19,true),(20,true)] (Fr nob w2) rfl (by kernel_rfl) (by kernel_rfl) (by decide) (fun c a d v w h=>by cases d<;>exact h) ((Fr.refl nob w2).drew) (fun ops hops hS=>?_)
 obtain ⟨d3,hdw⟩:∃d,d=w2.drew:=⟨_,rfl⟩
 rw[←hdw] at hS ⊢
 have G3:Hid (Fr nob w2 d3):=Lib.hid (by rw[hdw];exact (Fr.refl nob w2).drew)
 have E3:=Lib.hid (Ev.of G3.out E2.out.lt)
 clear hdw
 repeat (first | (apply oF hops (by rfl) (by first | exact .plain rfl | exact .y hops rfl rfl rfl rfl);(focus (intro x hx;go_simp;rfl));go_simp) | (apply oS hops (by rfl) (by first | exact .n hops rfl rfl rfl rfl | exact .u hops rfl rfl rfl rfl);go_simp) | (apply oP hops (by rfl) (by first | exact .n hops rfl rfl rfl rfl | exact .u hops rfl rfl rfl rfl) (by assumption);go_simp))
 refine oA hops (by rfl) (by first | exact .plain rfl | exact .y hops rfl rfl rfl rfl) (fun K hK=>?_)
 go_wp2_with fail
 refine (apply_any2 _ _ _ sa la pa sc lc pc s q l kind eseq p (HS.out.frN rCol_ok (G1.out.andN (G2.out.andN G3.out))) (HV.out.frN rPr_ok (G1.out.andN (G2.out.andN G3.out))) (HP.out.frN rPr_ok (G1.out.andN (G2.out.andN G3.out))) (HLA.out.frN (G1.out.andN (G2.out.andN G3.out))) HLIM.out.1 HLIM.out.2.1 HLIM.out.2.2.1 (fun k h=>Nat.lt_of_lt_of_le (HVV.out k h).1 ((G1.out.andN (G2.out.andN G3.out))).size) (fun k h=>Nat.lt_of_lt_of_le (HVV.out k h).1 ((G1.out.andN (G2.out.andN G3.out))).size) HLIM.out.2.2.2).mono ?_
 rintro e u4 ⟨n,en,out,ao,co,rfl,hap,hfr,hsv,_⟩
 have E4:=Lib.hid (Ev.of hfr E3.out.lt)
 have G4:=Lib.hid hfr
 clear hfr
 refine hK _ _ ⟨_,fun _ h=>h,(G3.out.andN G4.out),?_⟩
 clear hK
 go_simp
 repeat (first | (apply oF hops (by rfl) (by first | exact .plain rfl | exact .y hops rfl rfl rfl rfl);(focus (intro x hx;go_simp;rfl));go_simp) | (apply oS hops (by rfl) (by first | exact .n hops rfl rfl rfl rfl | exact .u hops rfl rfl rfl rfl);go_simp) | (apply oP hops (by rfl) (by first | exact .n hops rfl rfl rfl rfl | exact .u hops rfl rfl rfl rfl) (by assumption);go_simp))
 apply wpOrd_nil
 have hF:=applyF_of (x:=⟨kind,eseq,p⟩) hap
 have HAP:=Lib.hid hap
 have HSV:=Lib.hid hsv
 clear hap hsv q0 q1 q2 p0 p1 p2
 by_cases he:en=0
 · subst he
   have hT:R=(0,⟨n,out,m+1⟩):=by rw[HR.out];unfold takeF;rw[hF,if_neg hm,if_pos rfl]
   have HT:=Lib.hid hT
   clear hT hF
   obtain ⟨w5,hw5⟩:∃x,x=u4:=⟨_,rfl⟩
   have g1:=QV.out _ (G1.out.andN (G2.out.andN (G3.out.andN G4.out)))
   rw[←hw5] at g1 ⊢
   have HW5:=Lib.hid hw5
   have z1:=frozen_of g1 1
   have y1:=cell_of g1 1
   have y2:=cell_of g1 2
   simp at y1 y2
   have f1:=(Fr.self v w5).set1 1 (.int .i64 n)
   have h1:=heap_set g1 1 (.int .i64 n)
   simp at h1
   have z2:=frozen_of h1 2
   have x2:=cell_of h1 2
   have f2:=f1.set1 2 (.slice ao out.length co)
   have h2:=heap_set h1 2 (.slice ao out.length co)
   simp at h2 x2
   have z3:=frozen_of h2 3
   have x3:=cell_of h2 3
   simp at x3
   have f3:=f2.set1 3 (.int .i64 (m+1:Nat))
   have h3:=heap_set h2 3 (.int .i64 (m+1:Nat))
   simp at h3
   have hw:IntKind.i64.wrap ((m:Int)+1)=(m+1:Nat):=by rw[IntWalk.i64_in _ (by omega)];omega
   have H3:=Lib.hid h3
   have F3:=Lib.hid f3
   have hvl:=heap_lt g1
   have PWS:=Lib.hid ((G1.out.andN (G2.out.andN G3.out))).size
   clear g1 h1 h2 h3 f1 f2 f3 hw5
   go_wp2_with fail
   go_ret
   rw[HT.out]
   have fw:Fr nob w w5:=by rw[HW5.out];exact (G1.out.andN (G2.out.andN (G3.out.andN G4.out)))
   have f3:=F3.out
   have hsz:=f3.size
   have hvw:=heap_lt (QV.out w (Fr.refl _ _))
   refine ⟨rfl,fw.any.trans f3 (fun k _ h=>h),sa,sc,ao,co,H3.out,((HS.out.frN rCol_ok fw).fr rCol_ok f3 (fun k hk e=>(HVV.out k hk).2 e)).mono rCol_ok (fun k hk=>Or.inl hk),?_⟩
   have hsv:=HSV.out
   rw[←HW5.out] at hsv
   refine (hsv.fr rPr_ok f3 (fun k hk e=>?_)).mono rPr_ok (fun k hk=>?_)
   · rcases hk with hk | hk
     · exact (HVV.out k hk).2 e
     · have:=hk.1;have:=PWS.out;omega
   · rcases hk with hk | hk
     · exact Or.inl hk
     · exact Or.inr ⟨Nat.le_trans PWS.out hk.1,Nat.lt_of_lt_of_le hk.2 hsz⟩
 · have hT:R=(en,⟨q,l,m⟩):=by rw[HR.out];unfold takeF;rw[hF,if_neg hm,if_neg he]
   have HT:=Lib.hid hT
   have d1:=intne he
   have HE:=Lib.hid he
   clear he hT hF
   go_wp2_with fail
   go_ret
   rw[HT.out]
   exact ⟨rfl,((G1.out.andN (G2.out.andN (G3.out.andN G4.out)))).mono (fun k _ h=>h.elim),(HH.out.frN (G1.out.andN (G2.out.andN (G3.out.andN G4.out)))).mono (fun k hk=>Or.inl hk)⟩
def entVal (x:Ent) (ra:Option Addr) (rc:Nat):Value:= .agg #[.int .i64 x.kind, .int .i64 x.seq, .slice ra x.prs.length rc]
set_option maxRecDepth 100000 in
set_option maxHeartbeats 8000000 in
theorem all_any (F:FuncId) (first caps:Array Value) (R B0:Nat→Prop) (w:World) (sa:Option Addr) (sn sc:Nat) (la:Option Addr) (lc:Nat) (l:List Ent) (hl:SV rEnt 3 R w la lc l) (hn:l.length≤lim) (hR:∀k,R k→k<w.heap.size∧¬B0 k)
 (hF:∀args w,(callFunc F args).run Tryz.prog w= .ok (.enter F args) w)
 (I:Nat→World→(Nat→Prop)→Prop) (J:Nat→Nat→World→Prop) (hI0:I 0 w B0) (hB0:∀k,B0 k→k<w.heap.size) (hIN:∀k u u' B,Fr nob u u' →I k u B→I k u' B)
 (step:∀(k:Nat) (hk:k<l.length) (u:World) (B:Nat→Prop) (ra:Option Addr) (rc:Nat),Ev w B0 u B→I k u B→SV rPr 2 R u ra rc l[k].prs→Calls Tryz.prog F (first.push (entVal l[k] ra rc)++caps) u fun e u' =>∃B',Ev u B u' B' ∧(e= .returned (.int .i64 0)∧I (k+1) u' B' ∨∃c:Nat,c≠0∧e= .returned (.int .i64 c)∧J k c u')):
 Calls Tryz.prog 69 #[.agg #[.slice sa sn sc, .slice la l.length lc], .func (.func F) first caps] w fun e w' =>∃B',Ev w B0 w' B' ∧(e= .returned (.tuple #[.int .i64 l.length, .int .i64 0])∧I l.length w' B' ∨∃k c:Nat,k<l.length∧c≠0∧e= .returned (.tuple #[.int .i64 k, .int .i64 c])∧J k c w'):=by
 obtain ⟨w1,hw1⟩:∃x1,x1=w.alloc (.cells #[.slice sa sn sc, .slice la l.length lc] 36 (0,0)):=⟨_,rfl⟩
 obtain ⟨z,hz⟩:∃x1,x1=w.heap.size:=⟨_,rfl⟩
 have hf1:Fr nob w w1:=by rw[hw1];exact (Fr.refl nob w).alloc _
 have hb1:=heap_new w (.cells #[.slice sa sn sc, .slice la l.length lc] 36 (0,0))
 have k1:=cell_of hb1 1
 simp at k1
 have HX:=Lib.hid (⟨hw1,hz,hf1⟩:_∧_∧_)
 have HL:=Lib.hid (fun u (hu:Fr B0 w u)=>hl.fr rEnt_ok hu (fun k hk=>(hR k hk).2))
 have HI:=Lib.hid (⟨hI0,hIN,step,hB0⟩:_∧_∧_∧_)
 unfold lim at hn
 clear hb1 hl hR hI0 hIN step hw1 hz hf1 hB0
 go_enter Tryz.func69,Tryz.ntmps69
 go_wp2_with fail
 rw[←HX.out.1,←HX.out.2.1]
 clear k1
 go_loopw [12] (fun v12 wr=>∃(k:Nat) (B:Nat→Prop),v12= .int .i64 k∧k≤l.length∧Ev w1 B0 wr B∧I k wr B∧wr.cell? ⟨z,1,none⟩=some (.slice la l.length lc)) (fun v12 _=>l.length - (intOf v12).toNat)
 case atStart=>
  have hx:=HX.out
  exact ⟨0,B0,rfl,Nat.zero_le _,Ev.refl (fun k hk=>Nat.lt_of_lt_of_le (HI.out.2.2.2 k hk) hx.2.2.size),HI.out.2.1 _ _ _ _ hx.2.2 HI.out.1,by have h:=cell_of (heap_new w (.cells #[.slice sa sn sc, .slice la l.length lc] 36 (0,0))) 1;rw[←hx.1,←hx.2.1] at h;simpa using h⟩
 case round=>
  obtain ⟨k,B,rfl,hk,hev,hI,hc1⟩:=hrel
  have hev0:Ev w B0 wr B:=(Ev.of HX.out.2.2 HI.out.2.2.2).trans hev
  have HK:=Lib.hid (⟨hev0,hev,hI⟩:_∧_∧_)
  by_cases hlt:k<l.length
  · obtain ⟨b1,off,ra,rc,rfl,_,h64,hpl,hp,c0,c1,c2⟩:=ent_at (HL.out _ hev0.fr) hlt
    obtain ⟨x2,hx2⟩:∃x1,x1=wr.alloc (.cells #[.int .i64 l[k].kind, .int .i64 l[k].seq, .slice ra l[k].prs.length rc] 40 (0,0)):=⟨_,rfl⟩
    have hf2:Fr nob wr x2:=by rw[hx2];exact (Fr.refl nob wr).alloc _
    have hev2:=hev.trans (Ev.of hf2 hev.lt)
    have hst:=HI.out.2.2.1 k hlt x2 B ra rc (hev0.trans (Ev.of hf2 hev0.lt)) (HI.out.2.1 _ _ _ _ hf2 hI) (hp.frN rPr_ok hf2)
    unfold entVal at hst
    have hbox:x2.heap[wr.heap.size]? =some (.cells #[.int .i64 l[k].kind, .int .i64 l[k].seq, .slice ra l[k].prs.length rc] 40 (0,0)):=by rw[hx2];exact heap_new wr _
    have HB:=Lib.hid (⟨hev2,hf2.cell hc1 id⟩:_∧_)
    have HX2:=Lib.hid hx2
    clear hev hev0 hev2 hI hp hx2 hf2 h64 hpl hbox
    go_wp2_with fail
    rw[←HX2.out]
    clear c0 c1 c2 hc1
    refine hst.mono ?_
    rintro e u3 ⟨B',hev3,h⟩
    clear hst
    have hx:=HX.out
    have hzB:¬B z:=fun h=>(HB.out.1.own z h).elim (fun h=>by have:=HI.out.2.2.2 z h;omega) (fun h=>by rw[hx.1] at h;simp at h;omega)
    have HC3:=Lib.hid (hev3.fr.cell HB.out.2 hzB)
    have HE3:=Lib.hid (HB.out.1.trans hev3)
    clear hev3 hx hzB
    rcases h with ⟨rfl,hI⟩ | ⟨c,hc,rfl,hJ⟩
    · have HI3:=Lib.hid hI
      clear hI
      go_wp2_with fail
      go_roundw
      case rel=>exact ⟨k+1,B',by go_num,by omega,HE3.out,HI3.out,HC3.out⟩
      case measure=>simp[intOf];omega
    · have d1:=intne hc
      have HJ:=Lib.hid (⟨hc,hJ⟩:_∧_)
      clear hc hJ
      go_wp2_with fail
      go_ret2
      exact ⟨B',(Ev.of HX.out.2.2 HI.out.2.2.2).trans HE3.out,Or.inr ⟨k,c,hlt,HJ.out.1,rfl,HJ.out.2⟩⟩
  · obtain rfl:k=l.length:=by omega
    go_wp2_with fail
    go_ret2
    exact ⟨B,HK.out.1,Or.inl ⟨rfl,HK.out.2.2⟩⟩
theorem Frames.new {T:Nat→Prop} {w0 w w' :World} (h0:Frames w0) (h:Frames w) (hf:Fr T w w') (hT:∀k,T k→w0.heap.size≤k):Frames w' :=h.fr hf (fun ht=>by have:=hT _ ht;have:=h0.lt;omega)
def vE (z:Nat) (R:Nat→Prop) (u:World) (B:Nat→Prop):Nat→Prop:=fun k=>k<u.heap.size∧¬B k∧(R k∨z≤k)
theorem vE_go {z:Nat} {R B B' :Nat→Prop} {u u' :World} (h:Ev u B u' B'):∀k,vE z R u B k→vE z R u' B' k:=fun k hk=>⟨Nat.lt_of_lt_of_le hk.1 h.fr.size,fun hb=>(h.own k hb).elim hk.2.1 (fun h=>by have:=hk.1;omega),hk.2.2⟩
structure EncSt (z:Nat) (R:Nat→Prop) (v sb tb x:Nat) (s:List Col) (lv:Value) (u:World) (B:Nat→Prop) (t:TSt) (b:List UInt8):Prop where
 sbx:u.heap[sb]? =some (.cells #[.pointer (some ⟨v,0,none⟩)] 134 (0,0))
 tbx:∃sa sc,u.heap[tb]? =some (.cells #[.slice sa s.length sc,lv] 36 (0,0))∧SV rCol 2 (vE z R u B) u sa sc s
 bx:∃(O:Nat→Prop) (ba:Option Addr) (bc:Nat),B=(fun k=>k=v∨k=x∨O k)∧u.heap[x]? =some (.cells #[.slice ba b.length bc] 27 (0,0))∧BV O u ba bc b∧¬O v∧¬O x
 st:StAt u (vE z R u B) v s t
 lt:∀k,B k→k<u.heap.size
 z0:∀k,B k→z≤k
 ne:v≠x∧¬B sb∧¬B tb
 la:Laid u∧Frames u
theorem EncSt.go {z:Nat} {R:Nat→Prop} {v sb tb x:Nat} {s:List Col} {lv:Value} {u u' :World} {B:Nat→Prop} {t:TSt} {b:List UInt8} (h:EncSt z R v sb tb x s lv u B t b) (hf:Fr nob u u'):EncSt z R v sb tb x s lv u' B t b:=by
 have hev:Ev u B u' B:=Ev.of hf h.lt
 obtain ⟨sa,sc,h1,h2⟩:=h.tbx
 obtain ⟨O,ba,bc,e,h3,h4,h5,h6⟩:=h.bx
 exact ⟨hf.heap h.sbx id,⟨sa,sc,hf.heap h1 id,(h2.frN rCol_ok hf).mono rCol_ok (vE_go hev)⟩,⟨O,ba,bc,e,hf.heap h3 id,h4.frN hf,h5,h6⟩,(h.st.frN hf).mono (vE_go hev),fun k hk=>Nat.lt_of_lt_of_le (h.lt k hk) hf.size,h.z0,h.ne,h.la.1.frN hf,h.la.2.frN hf⟩
set_option maxRecDepth 100000 in
set_option maxHeartbeats 16000000 in
theorem enc1_w {w0:World} {R:Nat→Prop} {v sb tb x5:Nat} {s:List Col} {lv:Value} {u:World} {B:Nat→Prop} {t:TSt} {b:List UInt8} (h:EncSt w0.heap.size R v sb tb x5 s lv u B t b) (hL0:Laid w0) (hF0:Frames w0) (x:Ent) (pa:Option Addr) (pc:Nat) (hp:SV rPr 2 R u pa pc x.prs) (hR:∀k,R k→k<u.heap.size∧¬B k) (h0:s.length≤lim) (h2:x.prs.length≤lim) (hok:TOk s t) (hbl:b.length≤4400000000):
 Calls Tryz.prog 70 #[entVal x pa pc, .pointer (some ⟨sb,0,none⟩), .pointer (some ⟨tb,0,none⟩), .pointer (some ⟨x5,0,none⟩)] u fun e u' =>∃B',Ev u B u' B' ∧
  ((takeF s t x).1=0∧entryErr s x.kind x.seq x.prs=0∧e= .returned (.int .i64 0)∧EncSt w0.heap.size R v sb tb x5 s lv u' B' (takeF s t x).2 (b++entryBy s x.kind x.seq x.prs)∨(takeF s t x).1≠0∧e= .returned (.int .i64 ((takeF s t x).1:Nat))∨(takeF s t x).1=0∧entryErr s x.kind x.seq x.prs≠0∧e= .returned (.int .i64 (entryErr s x.kind x.seq x.prs:Nat))):=by
 unfold entVal
 obtain ⟨u1,hu1⟩:∃x1,x1=u.alloc (.cells #[.int .i64 x.kind, .int .i64 x.seq, .slice pa x.prs.length pc] 40 (0,0)):=⟨_,rfl⟩
 obtain ⟨y,hy⟩:∃x1,x1=u.heap.size:=⟨_,rfl⟩
 have hf1:Fr nob u u1:=by rw[hu1];exact (Fr.refl nob u).alloc _
 have hb1:=heap_new u (.cells #[.int .i64 x.kind, .int .i64 x.seq, .slice pa x.prs.length pc] 40 (0,0))
 rw[←hu1,←hy] at hb1
 have hE1:=h.go hf1
 have hBv:B v:=by obtain ⟨O,_,_,e,_⟩:=h.bx;rw[e];exact Or.inl rfl
 have hBx:B x5:=by obtain ⟨O,_,_,e,_⟩:=h.bx;rw[e];exact Or.inr (Or.inl rfl)
 have hs1:u1.heap.size=y+1:=by rw[hu1,hy];simp
 have hBy:¬B y:=fun hb=>by have:=h.lt y hb;omega
 have hRV:∀k,R k→vE w0.heap.size R u1 B k:=fun k hk=>⟨Nat.lt_of_lt_of_le (hR k hk).1 hf1.size,(hR k hk).2,Or.inl hk⟩
 have hp1:=hp.frN rPr_ok hf1
 have htk:=take_w hE1.st (hp1.mono rPr_ok hRV) (fun k hk=>⟨hk.1,fun e=>hk.2.1 (e ▸ hBv)⟩) hE1.la.1 h0 h2 hok
 have c0:=cell_of hE1.sbx 0
 have e0:=cell_of hb1 0
 have e1:=cell_of hb1 1
 have e2:=cell_of hb1 2
 simp at c0 e0 e1 e2
 have hev1:Ev u B u1 B:=Ev.of hf1 h.lt
 have HE:=Lib.hid (⟨hE1,hev1,hb1,hBy,hBv,hBx,hs1⟩:_∧_∧_∧_∧_∧_∧_)
 have HP:=Lib.hid (⟨hp1,hRV,hR,hL0,hF0⟩:_∧_∧_∧_∧_)
 have HU:=Lib.hid (⟨hu1,hy⟩:_∧_)
 obtain ⟨te,t2⟩:∃te:Nat×TSt,te=takeF s t x:=⟨_,rfl⟩
 rw[←t2] at htk ⊢
 obtain ⟨te,t'⟩:=te
 simp only at htk ⊢
 obtain ⟨E,hE⟩:∃E,E=entryErr s x.kind x.seq x.prs:=⟨_,rfl⟩
 obtain ⟨f,hf⟩:∃f,f=entryBy s x.kind x.seq x.prs:=⟨_,rfl⟩
 rw[←hE,←hf]
 have HEF:=Lib.hid (⟨hE,hf⟩:_∧_)
 clear hE hf
 rw[hu1] at c0 e0 e1 e2
 rw[hy] at e0 e1 e2
 have hok' :=takeF_ok hok (sv_ok hp)
 clear h hf1 hb1 hE1 hBv hBx hBy hRV hp hp1 hR hev1 hu1 hy hs1 hL0 hF0 t2 hok'
 go_enter Tryz.func70,Tryz.ntmps70
 go_wp2_with fail
 rw[←HU.out.1]
 clear c0 e0 e1 e2
 refine htk.mono ?_
 rintro e u2 ⟨rfl,hf2,hst2⟩
 clear htk
 have hev2:Ev u1 B u2 B:=Ev.turn (hf2.mono (fun k _ e=>by subst e;exact HE.out.2.2.2.2.1)) HE.out.1.lt
 have HE2:=Lib.hid (⟨hf2,hst2,hev2⟩:_∧_∧_)
 clear hst2 hev2
 by_cases ht0:te=0
 case neg=>
  have d1:=intne ht0
  have HT:=Lib.hid ht0
  clear ht0 hf2
  go_wp2_with fail
  go_ret
  exact ⟨B,HE.out.2.1.trans HE2.out.2.2,Or.inr (Or.inl ⟨HT.out,rfl⟩)⟩
 case pos=>
  subst ht0
  have hvy:v≠y:=fun e=>HE.out.2.2.2.1 (e ▸ HE.out.2.2.2.2.1)
  have hb2:=hf2.heap HE.out.2.2.1 (fun e=>hvy e.symm)
  have e0:=cell_of hb2 0
  have e1:=cell_of hb2 1
  have e2:=cell_of hb2 2
  obtain ⟨sa,sc,htb,hsv⟩:=HE.out.1.tbx
  have htb2:=hf2.heap htb (fun e=>HE.out.1.ne.2.2 (e ▸ HE.out.2.2.2.2.1))
  have s0:=cell_of htb2 0
  simp at e0 e1 e2 s0
  rw[HU.out.2] at e0 e1 e2
  have hVv:∀k,vE w0.heap.size R u1 B k→¬k=v:=fun k hk e=>hk.2.1 (e ▸ HE.out.2.2.2.2.1)
  have hl2:Laid u2:=Laid.new HP.out.2.2.2.1 HE.out.1.la.1 hf2 (fun k e=>by subst e;exact HE.out.1.z0 _ HE.out.2.2.2.2.1)
  have hfr2:Frames u2:=Frames.new HP.out.2.2.2.2 HE.out.1.la.2 hf2 (fun k e=>by subst e;exact HE.out.1.z0 _ HE.out.2.2.2.2.1)
  have hp2:=HP.out.1.fr rPr_ok hf2 (fun k hk e=>(HP.out.2.2.1 k hk).2 (e ▸ HE.out.2.2.2.2.1))
  have hwr:=entryWrite_any _ _ u2 sa pa sc pc s x.kind x.seq x.prs (hsv.fr rCol_ok hf2 hVv) hp2 hl2 hfr2 h0 h2 (fun k hk=>Nat.lt_of_lt_of_le hk.1 hf2.size) (fun k hk=>Nat.lt_of_lt_of_le (HP.out.2.1 k hk).1 hf2.size)
  have hbyl:=entryBy_len s x.kind x.seq x.prs
  rw[←HEF.out.1,←HEF.out.2] at hwr
  rw[←HEF.out.2] at hbyl
  have HS2:=Lib.hid (⟨htb2,hsv.fr rCol_ok hf2 hVv,hl2,hfr2⟩:_∧_∧_∧_)
  clear hf2 hb2 htb hsv htb2 hVv hl2 hfr2 hp2
  go_wp2_with fail
  refine hwr.mono ?_
  rintro e u3 ⟨a3,c3,rfl,hf3,hv3⟩
  clear hwr e0 e1 e2 s0
  obtain ⟨O,ba,bc,hBO,hx5,hbv,hOv,hOx⟩:=HE.out.1.bx
  have hx3:=hf3.heap (HE2.out.1.heap hx5 (fun e=>HE.out.1.ne.1 e.symm)) id
  have k3:=cell_of hx3 0
  simp at k3
  have hbv3:=(hbv.fr HE2.out.1 (fun k hk e=>hOv (e ▸ hk))).frN hf3
  have HV3:=Lib.hid (hv3.src (P:=Tryz.prog) Tryz.underlying27)
  have HB3:=Lib.hid hbv3.vec
  have HX3:=Lib.hid (⟨hx3,hf3,hBO,hOv,hOx⟩:_∧_∧_∧_∧_)
  clear hv3 hbv3 hx3 hf3 hBO hOv hOx hx5 hbv
  go_wp2_with (at_builtin;refine wpList_append_vec rfl _ _ _ _ rfl rfl HB3.out _ _ _ Tryz.underlying27 inf_u8 rfl _ f.length _ rfl HV3.out (by unfold maxLen;omega) (by omega) ?_)
  intro a4 c4 u4 hv4 hf4 _
  obtain ⟨hx3,hf3,hBO,hOv,hOx⟩:=HX3.out
  have hx4:=hf4.heap hx3 hOx
  have z4:=frozen_of hx4 0
  have k4:=cell_of hx4 0
  simp at k4
  have f5:=(Fr.self x5 u4).set1 0 (.slice a4 (b.length+f.length) c4)
  have h5:=heap_set hx4 0 (.slice a4 (b.length+f.length) c4)
  simp at h5
  have H4:=Lib.hid (⟨hv4,hf4,f5,h5⟩:_∧_∧_∧_)
  clear hv4 hf4 f5 h5 hx4 hx3 hf3 hBO hOv hOx k3
  go_wp2_with fail
  go_ret
  obtain ⟨hx3,hf3,hBO,hOv,hOx⟩:=HX3.out
  obtain ⟨hv4,hf4,f5,h5⟩:=H4.out
  obtain ⟨hE1,hev1,hb1,hBy,hBv,hBx,hs1⟩:=HE.out
  obtain ⟨hf2,hst2,hev2⟩:=HE2.out
  have s1:=hev1.fr.size
  have s2:=hf2.size
  have s3:=hf3.size
  have s4:=hf4.size
  have s5:=f5.size
  have hBO' :∀k,O k→B k:=fun k hk=>by rw[hBO];exact Or.inr (Or.inr hk)
  have hev3:Ev u2 B u3 B:=Ev.of hf3 hev2.lt
  have hev5:Ev u3 B (u4.setCell ⟨x5,0,none⟩ (.slice a4 (b.length+f.length) c4)) (fun k=>k=v∨k=x5∨grow O u3 u4 k):=by
   refine ⟨(hf4.mono (T:=B) (fun k _ h=>hBO' k h)).trans' (f5.mono (T:=B) (fun k _ e=>by subst e;exact hBx)),fun k hk=>?_,fun k hk=>?_⟩
   · rcases hk with rfl | rfl | hk | hk
     · exact Or.inl hBv
     · exact Or.inl hBx
     · exact Or.inl (hBO' k hk)
     · exact Or.inr hk.1
   · rcases hk with rfl | rfl | hk | hk
     · have:=hev3.lt _ hBv;omega
     · have:=hev3.lt _ hBx;omega
     · have:=hev3.lt _ (hBO' k hk);omega
     · exact Nat.lt_of_lt_of_le hk.2 s5
  have hevA:=(hev1.trans hev2).trans (hev3.trans hev5)
  refine ⟨_,hevA,?_⟩
  by_cases hE0:E=0
  · subst hE0
    refine Or.inl ⟨rfl,rfl,?_⟩
    have hev25:=hev3.trans hev5
    have hNB:∀k,¬B k→k<u2.heap.size→¬(k=v∨k=x5∨grow O u3 u4 k):=fun k hk hlt h=>(hev25.own k h).elim hk (fun h=>by omega)
    refine ⟨hev25.fr.heap (hf2.heap hE1.sbx (fun e=>hE1.ne.2.1 (e ▸ hBv))) hE1.ne.2.1,⟨sa,sc,hev25.fr.heap HS2.out.1 hE1.ne.2.2,?_⟩,⟨grow O u3 u4,a4,c4,rfl,by rw[List.length_append];exact h5,?_,?_,?_⟩,?_,hev25.lt,?_,⟨hE1.ne.1,hNB sb hE1.ne.2.1 ?_,hNB tb hE1.ne.2.2 ?_⟩,?_,?_⟩
    · exact (HS2.out.2.1.fr rCol_ok hev25.fr (fun k hk h=>hk.2.1 h)).mono rCol_ok (fun k hk=>vE_go (hev2.trans hev25) k hk)
    · unfold BV
      rw[List.length_append,bv_append]
      exact hv4.fr f5 (fun k hk e=>by subst e;exact hk.elim hOx (fun h=>by have:=hev3.lt _ hBx;have:=h.1;omega))
    · exact fun h=>h.elim hOv (fun h=>by have:=hev3.lt _ hBv;have:=h.1;omega)
    · exact fun h=>h.elim hOx (fun h=>by have:=hev3.lt _ hBx;have:=h.1;omega)
    · refine (hst2.fr (f5.mono (T:=fun k=>k=x5∨O k) (fun k _ h=>Or.inl h) |> fun g=>((hf3.any).trans' (hf4.mono (T:=fun k=>k=x5∨O k) (fun k _ h=>Or.inr h))).trans' g) ?_ ?_).mono (fun k hk=>?_)
      · rintro (e | e)
        · exact hE1.ne.1 e
        · exact hOv e
      · rintro k hk (e | e)
        · rcases hk with hk | hk
          · exact hk.2.1 (e ▸ hBx)
          · have:=hk.1;have:=hE1.lt _ hBx;omega
        · rcases hk with hk | hk
          · exact hk.2.1 (hBO' k e)
          · have:=hk.1;have:=hE1.lt _ (hBO' k e);omega
      · rcases hk with hk | hk
        · exact vE_go (hev2.trans hev25) k hk
        · refine ⟨by have:=hk.2;omega,hNB k (fun hb=>by have:=hE1.lt k hb;have:=hk.1;omega) hk.2,Or.inr ?_⟩
          have:=hE1.z0 _ hBv
          have:=hE1.lt _ hBv
          have:=hk.1
          omega
    · intro k hk
      rcases hev25.own k hk with h | h
      · exact hE1.z0 k h
      · have:=hE1.z0 _ hBv
        have:=hev2.lt _ hBv
        omega
    · have:=heap_lt (hf2.heap hE1.sbx (fun e=>hE1.ne.2.1 (e ▸ hBv)));exact this
    · exact heap_lt HS2.out.1
    · exact Laid.new HP.out.2.2.2.1 HS2.out.2.2.1 hev25.fr (fun k hk=>hE1.z0 k hk)
    · exact Frames.new HP.out.2.2.2.2 HS2.out.2.2.2 hev25.fr (fun k hk=>hE1.z0 k hk)
  · exact Or.inr ⟨hE0,rfl⟩
theorem allocs3 (w:World) (A B C:Obj):let w1:=((w.alloc A).alloc B).alloc C
 w1.heap[w.heap.size]? =some A∧w1.heap[w.heap.size+1]? =some B∧w1.heap[w.heap.size+1+1]? =some C∧Fr nob w w1∧w1.heap.size=w.heap.size+3:=by
 refine ⟨heap_old (heap_old (heap_new w A) B) C,?_,?_,(((Fr.refl nob w).alloc A).alloc B).alloc C,by simp⟩
 · have:=heap_new (w.alloc A) B
   rw[show (w.alloc A).heap.size=w.heap.size+1 by simp] at this
   exact heap_old this C
 · have:=heap_new ((w.alloc A).alloc B) C
   rw[show ((w.alloc A).alloc B).heap.size=w.heap.size+1+1 by simp] at this
   exact this
set_option maxRecDepth 100000 in
set_option maxHeartbeats 16000000 in
theorem encode_any (R:Nat→Prop) (w:World) (sa:Option Addr) (sc:Nat) (s:List Col) (hs:SV rCol 2 R w sa sc s) (la:Option Addr) (lc:Nat) (l:List Ent) (hl:SV rEnt 3 R w la lc l) (hR:∀k,R k→k<w.heap.size) (hL:Laid w) (hF:Frames w) (h0:s.length≤lim) (hn:l.length≤lim):
 Calls Tryz.prog 23 #[.agg #[.slice sa s.length sc, .slice la l.length lc]] w fun e w' =>∃a c,e= .returned (.tuple #[.slice a (encF s l).2.2.1.length c, .int .i64 (encF s l).2.1, .int .i64 (encF s l).1])∧Fr nob w w' ∧BV (newb w w') w' a c (encF s l).2.2.1:=by
 obtain ⟨N,hN⟩:∃N,N=encF s l:=⟨_,rfl⟩
 rw[←hN]
 unfold encF at hN
 obtain ⟨w1,hw1⟩:∃x1,x1=w.alloc (.cells #[.slice sa s.length sc, .slice la l.length lc] 36 (0,0)):=⟨_,rfl⟩
 obtain ⟨tb,htb⟩:∃x1,x1=w.heap.size:=⟨_,rfl⟩
 have hf1:Fr nob w w1:=by rw[hw1];exact (Fr.refl nob w).alloc _
 have hb1:=heap_new w (.cells #[.slice sa s.length sc, .slice la l.length lc] 36 (0,0))
 rw[←hw1,←htb] at hb1
 have hs1:w1.heap.size=tb+1:=by rw[hw1,htb];simp
 have c0:=cell_of hb1 0
 simp at c0
 rw[hw1,htb] at c0
 have hhd:=head_any R w1 sa sc s (hs.frN rCol_ok hf1) (hL.frN hf1) h0 (fun k hk=>Nat.lt_of_lt_of_le (hR k hk) hf1.size)
 have HX:=Lib.hid (⟨hf1,hb1,hs1,htb⟩:_∧_∧_∧_)
 have HA:=Lib.hid (⟨hs,hl,hR,hL,hF⟩:_∧_∧_∧_∧_)
 have HW:=Lib.hid (⟨hw1,htb⟩:_∧_)
 clear hs hl hR hL hF hf1 hb1 hs1 hw1 htb
 go_enter Tryz.func23,Tryz.ntmps23
 go_wp2_with fail
 rw[←HW.out.1]
 clear c0
 refine hhd.mono ?_
 rintro e u2 ⟨a2,c2,rfl,hf2,hv2⟩
 clear hhd
 by_cases hsc:schemaCheck s=0
 case neg=>
  have HE:=Lib.hid (hN.trans (if_neg hsc))
  have d1:=intne hsc
  have H2:=Lib.hid hf2
  clear hN hsc hv2 hf2
  go_wp2_with fail
  go_ret3
  rw[HE.out]
  exact ⟨none,0,rfl,HX.out.1.andN (H2.out.alloc _),BV.nil _ _⟩
 case pos=>
  rw[if_pos hsc] at hN
  have hhw:headW s=headBytes s:=by unfold headW;rw[if_pos hsc]
  have hhl:=headBytes_len hsc
  rw[hhw] at hv2 ⊢
  rw[hsc]
  clear hsc hhw
  obtain ⟨hb,hhb⟩:∃x,x=headBytes s:=⟨_,rfl⟩
  rw[←hhb] at hv2 hhl hN ⊢
  clear hhb
  obtain ⟨x5,hx5⟩:∃x,x=u2.heap.size:=⟨_,rfl⟩
  obtain ⟨v,hv⟩:∃x,x=x5+1:=⟨_,rfl⟩
  obtain ⟨sb,hsb⟩:∃x,x=x5+1+1:=⟨_,rfl⟩
  obtain ⟨w5,hw5⟩:∃x,x=((u2.alloc (.cells #[.slice a2 hb.length c2] 27 (0,0))).alloc (.cells #[.slice sa s.length sc, .int .i64 0, .slice none 0 0, .int .i64 0] 136 (0,0))).alloc (.cells #[.pointer (some ⟨v,0,none⟩)] 134 (0,0)):=⟨_,rfl⟩
  obtain ⟨g1,g2,g3,g4,g5⟩:=allocs3 u2 (.cells #[.slice a2 hb.length c2] 27 (0,0)) (.cells #[.slice sa s.length sc, .int .i64 0, .slice none 0 0, .int .i64 0] 136 (0,0)) (.cells #[.pointer (some ⟨v,0,none⟩)] 134 (0,0))
  rw[←hw5,←hx5] at g1 g2 g3 g5
  rw[←hw5] at g4
  rw[←hv] at g2
  rw[←hsb] at g3
  have hfr25:=hf2.andN g4
  have hfr5:=HX.out.1.andN hfr25
  have htb5:=hfr25.heap HX.out.2.1 id
  have t0:=cell_of (heap_old (hf2.heap HX.out.2.1 id) (.cells #[.slice a2 hb.length c2] 27 (0,0))) 0
  have t0' :=cell_of htb5 0
  have t1:=cell_of htb5 1
  simp at t0 t1 t0'
  have hsz:tb+1≤x5:=by have:=hf2.size;have:=HX.out.2.2.1;omega
  have htw:=HX.out.2.2.2
  obtain ⟨hs,hl,hR,hL,hF⟩:=HA.out
  have hRl:∀k,R k→k<tb:=fun k hk=>by have:=hR k hk;omega
  have hst:EncSt w.heap.size R v sb tb x5 s (.slice la l.length lc) w5 (fun k=>k=v∨k=x5∨newb w1 u2 k) .zero hb:=by
   have hBl:∀k,(k=v∨k=x5∨newb w1 u2 k)→tb<k∧k<w5.heap.size:=fun k hk=>by
    rcases hk with h | h | h
    · omega
    · omega
    · have h1:=h.1;have h2:=h.2;have:=HX.out.2.2.1;omega
   have hRV:∀k,R k→vE w.heap.size R w5 (fun k=>k=v∨k=x5∨newb w1 u2 k) k:=fun k hk=>⟨by have:=hRl k hk;omega,fun h=>by have:=hBl k h;have:=hRl k hk;omega,Or.inl hk⟩
   refine ⟨g3,⟨sa,sc,htb5,(hs.frN rCol_ok hfr5).mono rCol_ok hRV⟩,⟨newb w1 u2,a2,c2,rfl,g1,hv2.frN g4,fun h=>by have:=h.2;omega,fun h=>by have:=h.2;omega⟩,⟨sa,sc,none,0,g2,(hs.frN rCol_ok hfr5).mono rCol_ok hRV,SV.nil _ _ _ _⟩,fun k hk=>(hBl k hk).2,fun k hk=>by have:=(hBl k hk).1;omega,⟨by omega,fun h=>?_,fun h=>by have:=(hBl tb h).1;omega⟩,hL.frN hfr5,hF.frN hfr5⟩
   rcases h with h | h | h
   · omega
   · omega
   · have:=h.2;omega
  have hall:=all_any 70 #[] #[.pointer (some ⟨sb,0,none⟩), .pointer (some ⟨tb,0,none⟩), .pointer (some ⟨x5,0,none⟩)] R (fun k=>k=v∨k=x5∨newb w1 u2 k) w5 sa s.length sc la lc l (hl.frN rEnt_ok hfr5) hn
   (fun k hk=>⟨by have:=hRl k hk;omega,fun h=>by have h1:=hst.z0 k h;have:=hRl k hk;omega⟩) (fun _ _=>rfl)
   (fun k u B=>∃t b,EncSt w.heap.size R v sb tb x5 s (.slice la l.length lc) u B t b∧N=encGo s t b k (l.drop k)∧TOk s t∧t.m=k∧b.length≤2000+k*1048591)
   (fun k c u=>N.1=c∧N.2.1=k∧N.2.2.1=[])
   ⟨.zero,hb,hst,by rw[List.drop_zero];exact hN,TOk.zero s,rfl,by omega⟩ hst.lt
   (fun k u u' B hf ⟨t,b,h1,h2⟩=>⟨t,b,h1.go hf,h2⟩)
   (fun k hk u B ra rc hev ⟨t,b,hes,hNk,hok,hm,hbl⟩ hp=>by
    have hprs:l[k].prs.length≤lim:=by obtain ⟨_,_,_,_,_,_,_,h,_⟩:=ent_at hl hk;exact h
    rw[List.drop_eq_getElem_cons hk] at hNk
    simp only[encGo] at hNk
    have hkm:=hok.m
    refine (enc1_w hes hL hF l[k] ra rc hp (fun j hj=>⟨by have:=hRl j hj;have:=hev.fr.size;omega,fun hb=>(hev.own j hb).elim (fun h=>by have:=hst.z0 j h;have:=hRl j hj;omega) (fun h=>by have:=hRl j hj;omega)⟩) h0 hprs hok (by omega)).mono ?_
    rintro e u' ⟨B',hev',h⟩
    refine ⟨B',hev',?_⟩
    rcases h with ⟨h1,h2,rfl,hes'⟩ | ⟨h1,rfl⟩ | ⟨h1,h2,rfl⟩
    · rw[if_pos h1,if_pos h2] at hNk
      have hpo:=sv_ok hp
      have hz:=takeF_zero hok hpo h1
      refine Or.inl ⟨rfl,_,_,hes',hNk,takeF_ok hok hpo,by rw[hz.2.2.1,hm],?_⟩
      have:=entryBy_len s l[k].kind l[k].seq l[k].prs
      rw[List.length_append]
      omega
    · rw[if_neg h1] at hNk
      exact Or.inr ⟨_,h1,rfl,by rw[hNk],by rw[hNk],by rw[hNk]⟩
    · rw[if_pos h1,if_neg h2] at hNk
      exact Or.inr ⟨_,h2,rfl,by rw[hNk],by rw[hNk],by rw[hNk]⟩)
  have H5:=Lib.hid (⟨hfr5,hsz,hst.z0,htw⟩:_∧_∧_∧_)
  have hve:v=u2.heap.size+1:=by rw[hv,hx5]
  have hse:sb=u2.heap.size+1+1:=by rw[hsb,hx5]
  have hwe:=hw5
  rw[hve] at hwe
  rw[hwe] at t1 t0'
  rw[HW.out.2] at t0 t1 t0'
  have HW5:=Lib.hid (⟨hwe,hx5,hve,hse⟩:_∧_∧_∧_)
  clear hN hs hl hR hL hF hRl hst g1 g2 g3 g4 g5 hfr25 hfr5 htb5 hsz htw hv2 hf2 hw5 hx5 hv hsb hve hse hwe
  go_wp2_with fail
  rw[←HW5.out.1,←HW5.out.2.2.2,←HW5.out.2.2.1,←HW5.out.2.1,←HW.out.2]
  clear t0 t1 t0'
  refine hall.mono ?_
  rintro e u6 ⟨B6,hev6,h⟩
  clear hall
  obtain ⟨hfr5,hsz,hz0,htw⟩:=H5.out
  have hfw:Fr nob w u6:=hfr5.trans hev6.fr (fun k hk h=>by have:=hz0 k h;omega)
  have HFW:=Lib.hid hfw
  rcases h with ⟨rfl,t,b,hes,hNk,hok,hm,hbl⟩ | ⟨k,c,hk,hc,rfl,hN1,hN2,hN3⟩
  · rw[List.drop_length] at hNk
    simp only[encGo] at hNk
    have HE:=Lib.hid hNk
    obtain ⟨O,ba,bc,hBO,hbx,hbv,_,_⟩:=hes.bx
    have k5:=cell_of hbx 0
    simp at k5
    have hnb:∀k,O k→newb w u6 k:=fun k hk=>by
     have hb:B6 k:=by rw[hBO];exact Or.inr (Or.inr hk)
     exact ⟨by have:=hes.z0 k hb;omega,hes.lt k hb⟩
    have HBV:=Lib.hid (hbv.mono hnb)
    clear hNk hes hbx hbv hBO hnb hfw hfr5 hsz hz0 htw hev6
    go_wp2_with fail
    go_ret3
    rw[HE.out]
    exact ⟨ba,bc,rfl,HFW.out,HBV.out⟩
  · have d1:=intne hc
    have HN:=Lib.hid (⟨hN1,hN2,hN3⟩:_∧_∧_)
    clear hN1 hN2 hN3 hc hfw hfr5 hsz hz0 htw hev6
    go_wp2_with fail
    go_ret3
    rw[HN.out.1,HN.out.2.1,HN.out.2.2]
    exact ⟨none,0,rfl,HFW.out,BV.nil _ _⟩
set_option maxRecDepth 100000 in
set_option maxHeartbeats 16000000 in
theorem view_any (R:Nat→Prop) (w:World) (sa:Option Addr) (sc:Nat) (s:List Col) (hs:SV rCol 2 R w sa sc s) (la:Option Addr) (lc:Nat) (l:List Ent) (hl:SV rEnt 3 R w la lc l) (hR:∀k,R k→k<w.heap.size) (hL:Laid w) (hF:Frames w) (h0:s.length≤lim) (hn:l.length≤lim):
 Calls Tryz.prog 46 #[.agg #[.slice sa s.length sc, .slice la l.length lc]] w fun e w' =>∃a c,e= .returned (.tuple #[.int .i64 (viewF s l).1, .slice a (viewF s l).2.1.length c, .int .i64 (viewF s l).2.2])∧Fr nob w w' ∧SV rPr 2 (fun k=>R k∨newb w w' k) w' a c (viewF s l).2.1:=by
 obtain ⟨N,hN⟩:∃N,N=viewF s l:=⟨_,rfl⟩
 rw[←hN]
 unfold viewF at hN
 obtain ⟨w1,hw1⟩:∃x1,x1=w.alloc (.cells #[.slice sa s.length sc, .slice la l.length lc] 36 (0,0)):=⟨_,rfl⟩
 obtain ⟨tb,htb⟩:∃x1,x1=w.heap.size:=⟨_,rfl⟩
 have hf1:Fr nob w w1:=by rw[hw1];exact (Fr.refl nob w).alloc _
 have hb1:=heap_new w (.cells #[.slice sa s.length sc, .slice la l.length lc] 36 (0,0))
 have c0:=cell_of hb1 0
 have c1:=cell_of hb1 1
 simp at c0 c1
 rw[←hw1,←htb] at hb1
 have hs1:w1.heap.size=tb+1:=by rw[hw1,htb];simp
 have hen:=encode_any R w1 sa sc s (hs.frN rCol_ok hf1) la lc l (hl.frN rEnt_ok hf1) (fun k hk=>Nat.lt_of_lt_of_le (hR k hk) hf1.size) (hL.frN hf1) (hF.frN hf1) h0 hn
 have HX:=Lib.hid (⟨hf1,hb1,hs1,htb⟩:_∧_∧_∧_)
 have HA:=Lib.hid (⟨hs,hl,hR,hL,hF⟩:_∧_∧_∧_∧_)
 have HW:=Lib.hid (⟨hw1,htb⟩:_∧_)
 obtain ⟨Y,hY⟩:∃Y,Y=encF s l:=⟨_,rfl⟩
 rw[←hY] at hN hen
 have HY:=Lib.hid hY
 clear hs hl hR hL hF hf1 hb1 hs1 hw1 htb hY
 go_enter Tryz.func46,Tryz.ntmps46
 go_wp2_with fail
 rw[←HW.out.1]
 clear c0 c1
 refine hen.mono ?_
 rintro e u2 ⟨a2,c2,rfl,hf2,_⟩
 clear hen
 obtain ⟨ey,ny,by_,ty⟩:=Y
 simp only at hN ⊢
 by_cases hsc:ey=0
 case neg=>
  have HE:=Lib.hid (hN.trans (if_neg hsc))
  have d1:=intne hsc
  have H2:=Lib.hid hf2
  clear hN hsc hf2
  go_wp2_with fail
  go_ret3
  rw[HE.out]
  exact ⟨none,0,rfl,HX.out.1.andN H2.out,SV.nil _ _ _ _⟩
 case pos=>
  subst hsc
  rw[if_pos rfl] at hN
  have HN:=Lib.hid hN
  obtain ⟨v,hv⟩:∃x,x=u2.heap.size:=⟨_,rfl⟩
  obtain ⟨w5,hw5⟩:∃x,x=u2.alloc (.cells #[.slice sa s.length sc, .int .i64 0, .slice none 0 0, .int .i64 0] 136 (0,0)):=⟨_,rfl⟩
  have g4:Fr nob u2 w5:=by rw[hw5];exact (Fr.refl nob _).alloc _
  have g1:=heap_new u2 (.cells #[.slice sa s.length sc, .int .i64 0, .slice none 0 0, .int .i64 0] 136 (0,0))
  rw[←hw5,←hv] at g1
  have g5:w5.heap.size=v+1:=by rw[hw5,hv];simp
  have hfr25:=hf2.andN g4
  have hfr5:=HX.out.1.andN hfr25
  have htb2:=hf2.heap HX.out.2.1 id
  have htb5:=hfr25.heap HX.out.2.1 id
  have t0:=cell_of htb2 0
  have t0' :=cell_of htb5 0
  have t1:=cell_of htb5 1
  simp at t0 t1 t0'
  have hsz:tb+1≤v:=by have:=hf2.size;have:=HX.out.2.2.1;omega
  have htw:=HX.out.2.2.2
  obtain ⟨hs,hl,hR,hL,hF⟩:=HA.out
  have hRl:∀k,R k→k<tb:=fun k hk=>by have:=hR k hk;omega
  have hRV:∀k,R k→vE w.heap.size R w5 (fun k=>k=v) k:=fun k hk=>⟨by have:=hRl k hk;omega,fun h=>by have:=hRl k hk;omega,Or.inl hk⟩
  have hst:StAt w5 (vE w.heap.size R w5 (fun k=>k=v)) v s .zero:=⟨sa,sc,none,0,g1,(hs.frN rCol_ok hfr5).mono rCol_ok hRV,SV.nil _ _ _ _⟩
  have hrun:runGo s .zero 0 l=(0,ny,ty):=by
   have hy:=HY.out
   unfold encF at hy
   by_cases hsc:schemaCheck s=0
   · rw[if_pos hsc] at hy
     have h1:=encGo_run s l .zero (headBytes s) 0 (by rw[←hy])
     rw[←hy] at h1
     exact h1
   · rw[if_neg hsc] at hy
     exact absurd (congrArg Prod.fst hy).symm hsc
  have hall:=all_any 71 #[.pointer (some ⟨v,0,none⟩)] #[] R (fun k=>k=v) w5 sa s.length sc la lc l (hl.frN rEnt_ok hfr5) hn
   (fun k hk=>⟨by have:=hRl k hk;omega,fun h=>by have:=hRl k hk;omega⟩) (fun _ _=>rfl)
   (fun k u B=>∃t,B=(fun k=>k=v)∧StAt u (vE w.heap.size R u B) v s t∧runGo s t k (l.drop k)=(0,ny,ty)∧TOk s t∧Laid u∧v<u.heap.size)
   (fun k c u=>False)
   ⟨.zero,rfl,hst,by rw[List.drop_zero];exact hrun,TOk.zero s,hL.frN hfr5,by omega⟩ (fun k hk=>by omega)
   (fun k u u' B hf ⟨t,hB,h1,h2,h3,h4,h5⟩=>⟨t,hB,(h1.frN hf).mono (vE_go (Ev.of hf (fun k hk=>by rw[hB] at hk;omega))),h2,h3,h4.frN hf,Nat.lt_of_lt_of_le h5 hf.size⟩)
   (fun k hk u B ra rc hev ⟨t,hB,hes,hNk,hok,hla,hvl⟩ hp=>by
    subst hB
    have hprs:l[k].prs.length≤lim:=by obtain ⟨_,_,_,_,_,_,_,h,_⟩:=ent_at hl hk;exact h
    rw[List.drop_eq_getElem_cons hk] at hNk
    simp only[runGo] at hNk
    have hpo:=sv_ok hp
    have hRu:∀j,R j→vE w.heap.size R u (fun k=>k=v) j:=fun j hj=>⟨by have:=hRl j hj;have:=hev.fr.size;omega,fun h=>by have:=hRl j hj;omega,Or.inl hj⟩
    refine (take_w hes (hp.mono rPr_ok hRu) (fun j hj=>⟨hj.1,hj.2.1⟩) hla h0 hprs hok).mono ?_
    rintro e u' ⟨rfl,hf',hst'⟩
    have hlt' :∀j,j=v→j<u'.heap.size:=fun j hj=>by have:=hf'.size;omega
    have hev' :Ev u (fun k=>k=v) u' (fun k=>k=v):=⟨hf',fun j hj=>Or.inl hj,hlt'⟩
    refine ⟨_,hev',?_⟩
    by_cases ht0:(takeF s t l[k]).1=0
    · rw[if_pos ht0] at hNk
      refine Or.inl ⟨by rw[ht0];rfl,_,rfl,hst'.mono (fun j hj=>?_),hNk,takeF_ok hok hpo,Laid.new hL hla hf' (fun j hj=>by omega),hlt' v rfl⟩
      rcases hj with hj | hj
      · exact vE_go hev' j hj
      · exact ⟨hj.2,fun h=>by have:=hj.1;omega,Or.inr (by have:=hj.1;omega)⟩
    · rw[if_neg ht0] at hNk
      exact absurd (congrArg Prod.fst hNk) ht0)
  have H5:=Lib.hid (⟨hfr5,hsz,htw,hRl⟩:_∧_∧_∧_)
  have HW5:=Lib.hid (⟨hw5,hv⟩:_∧_)
  rw[hw5] at t1 t0'
  rw[HW.out.2] at t0 t1 t0'
  clear hN hs hl hR hL hF hRl hst g1 g4 g5 hfr25 hfr5 htb2 htb5 hsz htw hf2 hw5 hv hRV hrun
  go_wp2_with fail
  rw[←HW5.out.1,←HW5.out.2,←HW.out.2]
  clear t0 t1 t0'
  refine hall.mono ?_
  rintro e u6 ⟨B6,hev6,h⟩
  clear hall
  obtain ⟨hfr5,hsz,htw,hRl⟩:=H5.out
  have hfw:Fr nob w u6:=hfr5.trans hev6.fr (fun k hk h=>by omega)
  rcases h with ⟨rfl,t,rfl,hes,hNk,hok,hla,hvl⟩ | ⟨k,c,hk,hc,rfl,hfalse⟩
  · rw[List.drop_length] at hNk
    simp only[runGo] at hNk
    obtain ⟨_,_,rfl⟩:(0:Nat)=0∧l.length=ny∧t=ty:=by
     have h1:=congrArg (fun z=>z.2.1) hNk
     have h2:=congrArg (fun z=>z.2.2) hNk
     exact ⟨rfl,h1,h2⟩
    obtain ⟨sa6,sc6,va,vc,hb6,_,hv6⟩:=hes
    have q1:∀y,Fr nob u6 y→y.cell? ⟨v,1,none⟩=some (.int .i64 t.q):=fun y hy=>by have:=cell_of (hy.heap hb6 id) 1;simpa using this
    have q2:∀y,Fr nob u6 y→y.cell? ⟨v,2,none⟩=some (.slice va t.l.length vc):=fun y hy=>by have:=cell_of (hy.heap hb6 id) 2;simpa using this
    have HV:=Lib.hid (⟨hfw,hv6,htw⟩:_∧_∧_)
    clear hNk hb6 hv6 hfw hfr5 hsz htw hRl hev6 hla hvl hok
    go_wp2_with fail
    refine wp_region_ord [(0,true),(1,true),(2,true),(3,true),(4,true),(5,true),(6,true),(7,true),(8,true),(9,true),(10,true),(11,true)] (Fr nob u6) rfl (by kernel_rfl) (by kernel_rfl) (by decide) (fun c a d v w h=>by cases d<;>exact h) ((Fr.refl nob u6).drew) (fun ops hops hS=>?_)
    obtain ⟨d1,hdw⟩:∃d,d=u6.drew:=⟨_,rfl⟩
    rw[←hdw] at hS ⊢
    have G1:Hid (Fr nob u6 d1):=Lib.hid (by rw[hdw];exact (Fr.refl nob u6).drew)
    have E1:=Lib.hid (Ev.of G1.out (nob_lt _))
    clear hdw
    repeat (first | (apply oF hops (by rfl) (by first | exact .plain rfl | exact .y hops rfl rfl rfl rfl);(focus (intro x hx;go_simp;rfl));go_simp) | (apply oS hops (by rfl) (by first | exact .n hops rfl rfl rfl rfl | exact .u hops rfl rfl rfl rfl);go_simp) | (apply oP hops (by rfl) (by first | exact .n hops rfl rfl rfl rfl | exact .u hops rfl rfl rfl rfl) (by assumption);go_simp))
    apply wpOrd_nil
    go_wp2_with fail
    go_ret3
    rw[HN.out]
    have g:Fr nob u6 _:=G1.out
    exact ⟨va,vc,rfl,HV.out.1.andN g,(HV.out.2.1.frN rPr_ok g).mono rPr_ok (fun k hk=>hk.2.2.elim Or.inl (fun h=>Or.inr ⟨h,by have:=hk.1;have:=g.size;omega⟩))⟩
  · exact hfalse.elim
end Go.Proofs.YtibpkfnfcdbiiaaGreatDoor
