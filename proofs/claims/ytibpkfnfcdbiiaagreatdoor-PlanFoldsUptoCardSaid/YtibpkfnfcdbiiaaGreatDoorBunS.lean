/- What came in, read with a bound on its bulk: slices of pairs. Calls of a writer (decklelaw14.Act) that came in, with a bound on their bulk. -/
import Derived.Test.YtibpkfnfcdbiiaaGreatDoorBunJ
import Derived.Test.YtibpkfnfcdbiiaaGreatDoorRows
import Derived.Deep.Strs
namespace Go.Proofs.YtibpkfnfcdbiiaaGreatDoor
set_option linter.unusedSimpArgs false
open Go.ChangeShapes Go.WideShapes Go.ChangeAt Go.RowKit
set_option linter.unusedVariables false
theorem bulk_one {H:Type} (d:DataW H):1≤Rows.uptoBulk d:=by
 cases d with
 | lit l=>cases l<;>simp[Rows.uptoBulk]
 | nil=>simp[Rows.uptoBulk]
 | ptr d=>simp[Rows.uptoBulk]
 | slice elems spare=>simp[Rows.uptoBulk]
 | agg parts=>simp[Rows.uptoBulk]
 | iface t d=>simp[Rows.uptoBulk]
 | map entries=>simp[Rows.uptoBulk]
 | held h=>simp[Rows.uptoBulk]
theorem bulk_part {H:Type} {d:DataW H} {l:List (DataW H)} (h:d∈l):Rows.uptoBulk d≤Rows.uptoBulkAll l:=by
 induction l with
 | nil=>cases h
 | cons x r ih=>
   simp only[Rows.uptoBulkAll]
   cases List.mem_cons.1 h with
   | inl e=>subst e;omega
   | inr e=>have:=ih e;omega
theorem bulk_sum {H α:Type} {xs:List α} {d:DataW H} {f:α→Nat} (h:d= .nil∧xs=[]∨∃(prs:List (α×DataW H)) (sp:List (DataW H)),xs=prs.map (·.1)∧d= .slice (prs.map (·.2)) sp∧∀y∈prs,f y.1≤Rows.uptoBulk y.2):
 (xs.map f).sum+1≤Rows.uptoBulk d:=by
 rcases h with ⟨rfl,rfl⟩ | ⟨prs,sp,rfl,rfl,hE⟩
 · simp[Rows.uptoBulk]
 · have h1:((prs.map (·.1)).map f).sum≤Rows.uptoBulkAll (prs.map (·.2)):=by
    induction prs with
    | nil=>simp[Rows.uptoBulkAll]
    | cons y prs ih=>
      have:=hE y (by simp)
      have:=ih (fun z hz=>hE z (List.mem_cons_of_mem _ hz))
      simp only[List.map_cons,List.sum_cons,Rows.uptoBulkAll]
      omega
   simp only[Rows.uptoBulk]
   omega
theorem sum_ones {α:Type} (xs:List α):(xs.map fun _=>1).sum=xs.length:=by
 induction xs with
 | nil=>rfl
 | cons x xs ih=>simp only[List.map_cons,List.sum_cons,ih,List.length_cons];omega
theorem sum_flat {α β:Type} (xs:List α) (g:α→List β):(xs.map fun x=>(g x).length+1).sum=(xs.flatMap g).length+xs.length:=by
 induction xs with
 | nil=>rfl
 | cons x xs ih=>simp only[List.map_cons,List.sum_cons,List.flatMap_cons,List.length_append,List.length_cons,ih];omega
section
variable {H:Type} {enc:TypeId×Value→H} {W:World}
set_option maxRecDepth 100000 in
theorem open_pl_b (n:Nat) (cs:List Value) (d:DataW H) (p:List MemPlace) (h:DataW.trod enc Tryz.prog W 0 (fun _=>true) true n 24 cs=some (d,p)) (hz:W.noneFrozen p):
 ∃x,rPL0 (old W) W cs x∧((Rch 24 d→PLB x)∧x.length+1≤Rows.uptoBulk d):=by
 obtain ⟨a,cap,xs,e,hsv,hd⟩:=open_SV (E:=fun (x:Pr) d=>Rch 66 d→PrB x) rPr0_ok (by omega) Tryz.underlying24 (by kernel_rfl) open_pr h hz
 refine ⟨xs,⟨a,cap,e,hsv⟩,fun hr=>rch_slice (B:=PrB) Tryz.underlying24 (by rw[show (Tryz.prog).bytesOf 66=32 from by kernel_rfl];omega) hd hr,?_⟩
 rw[←sum_ones xs]
 exact bulk_sum (hd.imp id (fun ⟨prs,sp,h1,h2,_⟩=>⟨prs,sp,h1,h2,fun y _=>bulk_one _⟩))
end
end Go.Proofs.YtibpkfnfcdbiiaaGreatDoor
namespace Go.Proofs.YtibpkfnfcdbiiaaGreatDoor
set_option linter.unusedSimpArgs false
open Go.ChangeShapes Go.WideShapes Go.ChangeAt Go.RowKit
set_option linter.unusedVariables false
structure ActC where
 kind:Int
 prs:List Pr
instance:Inhabited ActC:=⟨⟨0,[]⟩⟩
def rActC:Rep ActC:=fun S w cs x=>I64 x.kind∧x.prs.length≤lim∧∃a cap,cs=[.int .i64 x.kind, .slice a x.prs.length cap]∧SV rPr 2 S w a cap x.prs
theorem rActC_ok:rActC.Ok 2:=by
 refine ⟨?_,?_,?_,?_⟩
 · rintro S T w w' cs x ⟨h1,h2,a,cap,rfl,h⟩ hf hT;exact ⟨h1,h2,a,cap,rfl,h.fr rPr_ok hf hT⟩
 · rintro S T w cs x ⟨h1,h2,a,cap,rfl,h⟩ hS;exact ⟨h1,h2,a,cap,rfl,h.mono rPr_ok hS⟩
 · rintro S w cs x ⟨_,_,a,cap,rfl,_⟩;rfl
 · rintro S w cs x ⟨_,_,a,cap,rfl,_⟩ u hu
   simp at hu
   rcases hu with rfl | rfl<;>rfl
def rActC0:Rep ActC:=fun S w cs x=>I64 x.kind∧∃a cap,cs=[.int .i64 x.kind, .slice a x.prs.length cap]∧SV rPr0 2 S w a cap x.prs
theorem rActC0_ok:rActC0.Ok 2:=by
 refine ⟨?_,?_,?_,?_⟩
 · rintro S T w w' cs x ⟨h1,a,cap,rfl,h⟩ hf hT;exact ⟨h1,a,cap,rfl,h.fr rPr0_ok hf hT⟩
 · rintro S T w cs x ⟨h1,a,cap,rfl,h⟩ hS;exact ⟨h1,a,cap,rfl,h.mono rPr0_ok hS⟩
 · rintro S w cs x ⟨_,a,cap,rfl,_⟩;rfl
 · rintro S w cs x ⟨_,a,cap,rfl,_⟩ u hu
   simp at hu
   rcases hu with rfl | rfl<;>rfl
section
variable {H:Type} {enc:TypeId×Value→H} {W:World}
set_option maxRecDepth 100000 in
theorem open_act (n:Nat) (cs:List Value) (d:DataW H) (p:List MemPlace) (h:DataW.trod enc Tryz.prog W 0 (fun _=>true) true n 89 cs=some (d,p)) (hz:W.noneFrozen p):
 ∃x,rActC0 (old W) W cs x∧((Rch 89 d→PLB x.prs)∧x.prs.length+1≤Rows.uptoBulk d):=by
 obtain ⟨y0,y1,m,hx,hl,h0,h1⟩:=trod_struct2 Tryz.underlying89 h
 simp only[Prod.mk.injEq] at hx
 rw[show (Tryz.prog).cellsOf 89=2 from by kernel_rfl] at hl
 simp only[show (Tryz.prog).cellsOf 3=1 from by kernel_rfl,show (Tryz.prog).cellsOf 24=1 from by kernel_rfl] at h0 h1
 obtain ⟨c0,c1,rfl⟩:∃c0 c1,cs=[c0,c1]:=by
  match cs,hl with
  | [c0,c1],_=>exact ⟨c0,c1,rfl⟩
 simp at h0 h1
 obtain ⟨k,e0,_,w0⟩:=DataW.trod_int Tryz.underlying3 h0
 obtain ⟨d1,p1⟩:=y1
 obtain ⟨x1,⟨a,cap,e1,hsv⟩,hb1,hb2⟩:=open_pl_b _ _ d1 p1 h1 (fun b off hm=>hz b off (by rw[hx.2];simp[hm]))
 simp at e0 e1
 subst e0 e1
 refine ⟨⟨k,x1⟩,⟨bounds_i64 w0,a,cap,by simp,hsv⟩,fun hr=>hb1 ?_,?_⟩
 · rw[hx.1] at hr
   unfold Rch at hr ⊢
   rw[DataW.weights,Tryz.underlying89] at hr
   exact fun n hn=>hr n (by simp only[List.map,DataW.weightsEach,List.mem_append];exact Or.inr (Or.inl hn))
 · rw[hx.1]
   simp only[Rows.uptoBulk,Rows.uptoBulkAll]
   omega
theorem up_act {S:Nat→Prop} {w:World} {x:ActC} {c:List Value} (h:rActC0 S w c x) (hb:PLB x.prs):rActC S w c x:=by
 obtain ⟨h1,a,cap,e,h2⟩:=h
 exact ⟨h1,hb.1,a,cap,e,h2.up (fun y hy c hc=>up_pr hc (hb.2 y hy))⟩
theorem open_acts_b {fuel:Nat} {cs:List Value} {d:DataW H} {p:List MemPlace} (h:DataW.trod enc Tryz.prog W 0 (fun _=>true) true fuel 86 cs=some (d,p)) (hfz:W.noneFrozen p) (hr:Rch 86 d) (hb:Rows.uptoBulk d≤1048576):
 ∃a cap xs,cs=[.slice a xs.length cap]∧SV rActC 2 (old W) W a cap xs∧xs.length≤lim∧(xs.flatMap (·.prs)).length≤1048576:=by
 obtain ⟨a,cap,xs,e,hsv,hd⟩:=open_SV (E:=fun (x:ActC) d=>(Rch 89 d→PLB x.prs)∧x.prs.length+1≤Rows.uptoBulk d) rActC0_ok (by omega) Tryz.underlying86 (by kernel_rfl) open_act h hfz
 obtain ⟨h1,h2⟩:=rch_slice (B:=fun x:ActC=>PLB x.prs) Tryz.underlying86 (by rw[show (Tryz.prog).bytesOf 89=32 from by kernel_rfl];omega) (hd.imp id (fun ⟨prs,sp,h1,h2,h3⟩=>⟨prs,sp,h1,h2,fun y hy=>(h3 y hy).1⟩)) hr
 have h3:=bulk_sum (f:=fun x:ActC=>x.prs.length+1) (hd.imp id (fun ⟨prs,sp,h1,h2,h3⟩=>⟨prs,sp,h1,h2,fun y hy=>(h3 y hy).2⟩))
 have h4:=sum_flat xs (fun x=>x.prs)
 exact ⟨a,cap,xs,e,hsv.up (fun x hx c hc=>up_act hc (h2 x hx)),h1,by omega⟩
end
end Go.Proofs.YtibpkfnfcdbiiaaGreatDoor
