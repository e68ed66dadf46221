/- A trace that came in. -/
import Derived.Test.YtibpkfnfcdbiiaaGreatDoorBunS
import Derived.Test.YtibpkfnfcdbiiaaGreatDoorBunT
import Derived.Lib.SmallJoins
namespace Go.Proofs.YtibpkfnfcdbiiaaGreatDoor
set_option linter.unusedSimpArgs false
open Go.Joins Go.ChangeShapes Go.WideShapes Go.ChangeAt Go.RowKit Go.Deep
set_option linter.unusedVariables false
def rEnt0:Rep Ent:=fun S w cs x=>(I64 x.kind∧I64 x.seq)∧∃a cap,cs=[.int .i64 x.kind, .int .i64 x.seq, .slice a x.prs.length cap]∧SV rPr0 2 S w a cap x.prs
theorem rEnt0_ok:rEnt0.Ok 3:=by
 refine ⟨?_,?_,?_,?_⟩
 · rintro S T w w' cs x ⟨h1,a,cap,rfl,h⟩ hf hT;exact ⟨h1,a,cap,rfl,h.fr rPr0_ok hf hT⟩
 · rintro S T w cs x ⟨h1,a,cap,rfl,h⟩ hS;exact ⟨h1,a,cap,rfl,h.mono rPr0_ok hS⟩
 · rintro S w cs x ⟨_,a,cap,rfl,_⟩;rfl
 · rintro S w cs x ⟨_,a,cap,rfl,_⟩ u hu
   simp at hu
   rcases hu with rfl | rfl | rfl<;>rfl
section
variable {H:Type} {enc:TypeId×Value→H} {W:World}
set_option maxRecDepth 100000 in
theorem open_ent (n:Nat) (cs:List Value) (d:DataW H) (p:List MemPlace) (h:DataW.trod enc Tryz.prog W 0 (fun _=>true) true n 40 cs=some (d,p)) (hz:W.noneFrozen p):
 ∃x,rEnt0 (old W) W cs x∧((Rch 40 d→PLB x.prs)∧x.prs.length+1≤Rows.uptoBulk d):=by
 obtain ⟨y0,y1,y2,m,hx,hl,h0,h1,h2⟩:=Deep.trod_struct3 Tryz.underlying40 h
 simp only[Prod.mk.injEq] at hx
 rw[show (Tryz.prog).cellsOf 40=3 from by kernel_rfl] at hl
 simp only[show (Tryz.prog).cellsOf 3=1 from by kernel_rfl,show (Tryz.prog).cellsOf 2=1 from by kernel_rfl,show (Tryz.prog).cellsOf 24=1 from by kernel_rfl] at h0 h1 h2
 obtain ⟨c0,c1,c2,rfl⟩:∃c0 c1 c2,cs=[c0,c1,c2]:=by
  match cs,hl with
  | [c0,c1,c2],_=>exact ⟨c0,c1,c2,rfl⟩
 simp at h0 h1 h2
 obtain ⟨k,e0,_,w0⟩:=DataW.trod_int Tryz.underlying3 h0
 obtain ⟨q,e1,_,w1⟩:=DataW.trod_int Tryz.underlying2 h1
 obtain ⟨d2,p2⟩:=y2
 obtain ⟨x1,⟨a,cap,e2,hsv⟩,hb1,hb2⟩:=open_pl_b _ _ d2 p2 h2 (fun b off hm=>hz b off (by rw[hx.2];simp[hm]))
 simp at e0 e1 e2
 subst e0 e1 e2
 refine ⟨⟨k,q,x1⟩,⟨⟨bounds_i64 w0,bounds_i64 w1⟩,a,cap,rfl,hsv⟩,fun hr=>hb1 ?_,?_⟩
 · rw[hx.1] at hr
   unfold Rch at hr ⊢
   rw[DataW.weights,Tryz.underlying40] at hr
   exact fun n hn=>hr n (by simp only[List.map,DataW.weightsEach,List.mem_append];exact Or.inr (Or.inr (Or.inl hn)))
 · rw[hx.1]
   simp only[Rows.uptoBulk,Rows.uptoBulkAll]
   omega
theorem up_ent {S:Nat→Prop} {w:World} {x:Ent} {c:List Value} (h:rEnt0 S w c x) (hb:PLB x.prs):rEnt S w c x:=by
 obtain ⟨h1,a,cap,e,h2⟩:=h
 exact ⟨h1,hb.1,a,cap,e,h2.up (fun y hy c hc=>up_pr hc (hb.2 y hy))⟩
set_option maxRecDepth 100000 in
theorem open_ents_b {fuel:Nat} {cs:List Value} {d:DataW H} {p:List MemPlace} (h:DataW.trod enc Tryz.prog W 0 (fun _=>true) true fuel 34 cs=some (d,p)) (hfz:W.noneFrozen p) (hr:Rch 34 d) (hb:Rows.uptoBulk d≤1048576):
 ∃a cap xs,cs=[.slice a xs.length cap]∧SV rEnt 3 (old W) W a cap xs∧xs.length≤1048576∧(xs.flatMap (·.prs)).length≤1048576:=by
 obtain ⟨a,cap,xs,e,hsv,hd⟩:=open_SV (E:=fun (x:Ent) d=>(Rch 40 d→PLB x.prs)∧x.prs.length+1≤Rows.uptoBulk d) rEnt0_ok (by omega) Tryz.underlying34 (by kernel_rfl) open_ent h hfz
 obtain ⟨h1,h2⟩:=rch_slice (B:=fun x:Ent=>PLB x.prs) Tryz.underlying34 (by rw[show (Tryz.prog).bytesOf 40=40 from by kernel_rfl];omega) (hd.imp id (fun ⟨prs,sp,h1,h2,h3⟩=>⟨prs,sp,h1,h2,fun y hy=>(h3 y hy).1⟩)) hr
 have h3:=bulk_sum (f:=fun x:Ent=>x.prs.length+1) (hd.imp id (fun ⟨prs,sp,h1,h2,h3⟩=>⟨prs,sp,h1,h2,fun y hy=>(h3 y hy).2⟩))
 have h4:=sum_flat xs (fun x=>x.prs)
 exact ⟨a,cap,xs,e,hsv.up (fun x hx c hc=>up_ent hc (h2 x hx)),by omega,by omega⟩
set_option maxRecDepth 100000 in
theorem open_trace {r:Reach} {b0:Nat} {v:Value} {d:DataW H} {p:List MemPlace} (hv:Value.okWide Tryz.prog W r b0 36 v) (h:DataW.Trod enc Tryz.prog W 0 (fun _=>true) true 36 v d p) (hfz:W.noneFrozen p) (hr:Rch 36 d) (hb:Rows.uptoBulk d≤1048576):
 ∃sa sc s ea ec l,v= .agg #[.slice sa (s:List Col).length sc, .slice ea (l:List Ent).length ec]∧SV rCol 2 (old W) W sa sc s∧s.length≤lim∧SV rEnt 3 (old W) W ea ec l∧l.length≤1048576∧(l.flatMap (·.prs)).length≤1048576:=by
 obtain ⟨v0,v1,y0,y1,n,rfl,hd,hp,h0,h1⟩:=open_agg2 Tryz.underlying36 (by kernel_rfl) (by kernel_rfl) hv h
 obtain ⟨d0,p0⟩:=y0
 obtain ⟨d1,p1⟩:=y1
 simp only at hd hp h0 h1
 subst hd hp
 have hr0:Rch 22 d0:=by
  unfold Rch at hr ⊢
  rw[DataW.weights,Tryz.underlying36] at hr
  exact fun n hn=>hr n (by simp only[List.map,DataW.weightsEach,List.mem_append];exact Or.inl hn)
 have hr1:Rch 34 d1:=by
  unfold Rch at hr ⊢
  rw[DataW.weights,Tryz.underlying36] at hr
  exact fun n hn=>hr n (by simp only[List.map,DataW.weightsEach,List.mem_append];exact Or.inr (Or.inl hn))
 simp only[Rows.uptoBulk,Rows.uptoBulkAll] at hb
 obtain ⟨sa,sc,s,e0,hs,hsl⟩:=open_cols h0 (fun b off hm=>hfz b off (by simp[hm])) hr0
 obtain ⟨ea,ec,l,e1,hl,hll,htt⟩:=open_ents_b h1 (fun b off hm=>hfz b off (by simp[hm])) hr1 (by omega)
 simp at e0 e1
 subst e0 e1
 exact ⟨sa,sc,s,ea,ec,l,rfl,hs,hsl,hl,hll,htt⟩
end
end Go.Proofs.YtibpkfnfcdbiiaaGreatDoor
