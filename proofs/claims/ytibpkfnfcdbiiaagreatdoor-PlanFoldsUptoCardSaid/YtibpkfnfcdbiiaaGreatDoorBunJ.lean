/- Contracts of deckleref06.Size, decklelaw08.Great, decklelaw12.great: of a row's size no more is said than that it is a number. The table's data that came in, read; how long it may be by the form's own reach. Slices of slices of pairs that came in, read. The package-level variables, out of the row's own condition. -/
import Derived.Test.YtibpkfnfcdbiiaaGreatDoorBunI
import Derived.Test.YtibpkfnfcdbiiaaGreatDoorBunB
import Derived.Test.YtibpkfnfcdbiiaaGreatDoorRows
import Derived.Lib.LaidU8T
import Derived.OpenShut
import Derived.LaidMore
namespace Go.Proofs.YtibpkfnfcdbiiaaGreatDoor
set_option linter.unusedSimpArgs false
open Go.RowKit
set_option linter.unusedVariables false
def rPL:Rep (List Pr):=fun S w cs x=>x.length≤lim∧∃a cap,cs=[.slice a x.length cap]∧SV rPr 2 S w a cap x
theorem rPL_ok:rPL.Ok 1:=by
 refine ⟨?_,?_,?_,?_⟩
 · rintro S T w w' cs x ⟨h2,a,cap,rfl,h⟩ hf hT;exact ⟨h2,a,cap,rfl,h.fr rPr_ok hf hT⟩
 · rintro S T w cs x ⟨h2,a,cap,rfl,h⟩ hS;exact ⟨h2,a,cap,rfl,h.mono rPr_ok hS⟩
 · rintro S w cs x ⟨_,a,cap,rfl,_⟩;rfl
 · rintro S w cs x ⟨_,a,cap,rfl,_⟩ u hu
   simp at hu
   subst hu;rfl
theorem pl_at {S:Nat→Prop} {w:World} {a:Option Addr} {cap:Nat} {l:List (List Pr)} (h:SV rPL 1 S w a cap l) {k:Nat} (hk:k<l.length):
 ∃b off ra rc,a=some ⟨b,off,none⟩∧S b∧l[k].length≤lim∧SV rPr 2 S w ra rc l[k]∧w.cell? ⟨b,off+k,none⟩=some (.slice ra l[k].length rc):=by
 obtain ⟨b,off,c,ha,hS,⟨h2,ra,rc,rfl,h3⟩,_,hc⟩:=h.get rPL_ok hk
 exact ⟨b,off,ra,rc,ha,hS,h2,h3,by simpa using hc 0 (by omega)⟩
set_option maxRecDepth 100000 in
set_option maxHeartbeats 2000000 in
theorem rsize_any (S:Nat→Prop) (w:World) (a:Option Addr) (cap:Nat) (r:List Cel) (h:SV rCel 2 S w a cap r) (hl:r.length≤lim):
 Calls Tryz.prog 50 #[.slice a r.length cap] w fun e w' =>(∃g:Int,e= .returned (.int .i64 g))∧w' =w:=by
 have H:=Lib.hid h
 unfold lim at hl
 clear h
 go_enter Tryz.func50,Tryz.ntmps50
 go_wp2_with fail
 go_loop [3,4] (fun v3 v4=>∃(k:Nat) (x:Int),k≤r.length∧v3= .int .i64 x∧v4= .int .i64 k) (fun _ v4=>r.length - (intOf v4).toNat)
 case atStart=>exact ⟨0,0,Nat.zero_le _,rfl,rfl⟩
 case round=>
  obtain ⟨k,x,hk,rfl,rfl⟩:=hrel
  by_cases hlt:k<r.length
  · obtain ⟨b,off,rfl,_,_,ht,_,c1⟩:=cel_at H.out hlt
    generalize r[k]=c at ht c1
    have hs:(bs c.text).size=c.text.length:=rfl
    unfold lim at ht
    go_wp2_with fail
    go_round
    case rel=>exact ⟨k+1,_,by omega,rfl,by go_num⟩
    case measure=>simp[intOf];omega
  · go_wp2_with fail
    go_ret
    exact ⟨⟨x,rfl⟩,rfl⟩
set_option maxRecDepth 100000 in
set_option maxHeartbeats 4000000 in
theorem greatN_any (S:Nat→Prop) (w:World) (a:Option Addr) (cap:Nat) (l:List (List Pr)) (h:SV rPL 1 S w a cap l) (hl:l.length≤lim):
 Calls Tryz.prog 14 #[.slice a l.length cap] w fun e w' =>(∃g:Int,e= .returned (.int .i64 g))∧Fr nob w w' :=by
 have H:=Lib.hid h
 unfold lim at hl
 clear h
 go_enter Tryz.func14,Tryz.ntmps14
 go_wp2_with fail
 go_loopw [3,10] (fun v3 v10 wr=>∃(k:Nat) (x:Int),k≤l.length∧v3= .int .i64 x∧v10= .int .i64 k∧Fr nob w wr) (fun _ v10 _=>l.length - (intOf v10).toNat)
 case atStart=>exact ⟨0,0,Nat.zero_le _,rfl,rfl,Fr.refl _ _⟩
 case round=>
  obtain ⟨k,x,hk,rfl,rfl,hf⟩:=hrel
  by_cases hlt:k<l.length
  · obtain ⟨b,off,ra,rc,rfl,_,ht,hr,c0⟩:=pl_at (H.out.frN rPL_ok hf) hlt
    generalize l[k]=p at ht hr c0
    have HR:=Lib.hid hr
    have HF:=Lib.hid hf
    unfold lim at ht
    clear hr hf
    go_wp2_with fail
    go_loopw [3,16] (fun v3 v16 wr2=>∃(j:Nat) (x:Int),j≤p.length∧v3= .int .i64 x∧v16= .int .i64 j∧Fr nob wr wr2) (fun _ v16 _=>p.length - (intOf v16).toNat)
    case atStart=>exact ⟨0,x,Nat.zero_le _,rfl,rfl,Fr.refl _ _⟩
    case round=>
     obtain ⟨j,y,hj,rfl,rfl,hf2⟩:=hrel
     have HF2:=Lib.hid hf2
     by_cases hltj:j<p.length
     · obtain ⟨b1,o1,rb,rcc,rfl,_,_,hrl,hrow,c0,c1⟩:=pr_at (HR.out.frN rPr_ok hf2) hltj
       have HROW:=Lib.hid hrow
       generalize p[j]=x at hrl hrow c0 c1 HROW
       obtain ⟨v,hv⟩:∃v:World,v=wr:=⟨_,rfl⟩
       obtain ⟨w3,hw3⟩:∃w3,w3=wr.alloc (.cells #[.slice rb x.row.length rcc, .int .i64 x.weight] 66 (0,0)):=⟨_,rfl⟩
       have hB:=heap_new wr (.cells #[.slice rb x.row.length rcc, .int .i64 x.weight] 66 (0,0))
       rw[←hw3] at hB
       have hf3:Fr nob wr w3:=by rw[hw3];exact (Fr.refl nob wr).alloc _
       obtain ⟨z,hz⟩:∃z,z=wr.heap.size:=⟨_,rfl⟩
       rw[←hz] at hB
       have HW3:=Lib.hid hw3
       have HZ:=Lib.hid hz
       have F3:=Lib.hid (hf2.andN hf3)
       have HSZ:=Lib.hid (fun u (hu:Fr nob w3 u)=>rsize_any S u rb rcc x.row (hrow.frN rCel_ok (hf3.andN hu)) hrl)
       have q0:∀u,Fr nob w3 u→u.cell? ⟨z,0,none⟩=some (.slice rb x.row.length rcc):=fun u hu=>by rw[cell_of (hu.heap hB id) 0];rfl
       unfold lim at hrl
       clear hrow hB hw3 hf3 hz hv hf2
       go_wp2_with fail
       rw[←HW3.out,←HZ.out]
       refine wp_region_ord [(0,true),(1,true),(2,true),(5,true),(6,true),(7,true),(3,false),(4,true),(8,true),(9,true),(10,true)] (Fr nob _) rfl (by kernel_rfl) (by kernel_rfl) (by decide) (fun c a d v w h=>by cases d<;>exact h) ((Fr.refl nob _).drew) (fun ops hops hS=>?_)
       repeat (first | (apply oF hops (by rfl) (by first | exact .plain rfl | exact .y hops rfl rfl rfl rfl);(focus (intro x hx;go_simp;rfl));go_simp) | (apply oS hops (by rfl) (by first | exact .n hops rfl rfl rfl rfl | exact .u hops rfl rfl rfl rfl);go_simp) | (apply oP hops (by rfl) (by first | exact .n hops rfl rfl rfl rfl | exact .u hops rfl rfl rfl rfl) (by assumption);go_simp))
       refine oA hops (by rfl) (by first | exact .plain rfl | exact .y hops rfl rfl rfl rfl) (fun K hK=>?_)
       go_wp2_with fail
       refine (HSZ.out _ (Fr.refl nob w3).drew).mono ?_
       rintro e w4 ⟨⟨g,rfl⟩,rfl⟩
       refine hK _ _ ⟨_,fun _ h=>h,(Fr.refl nob w3).drew,?_⟩
       clear hK
       go_simp
       repeat (first | (apply oF hops (by rfl) (by first | exact .plain rfl | exact .y hops rfl rfl rfl rfl);(focus (intro x hx;go_simp;rfl));go_simp) | (apply oS hops (by rfl) (by first | exact .n hops rfl rfl rfl rfl | exact .u hops rfl rfl rfl rfl);go_simp) | (apply oP hops (by rfl) (by first | exact .n hops rfl rfl rfl rfl | exact .u hops rfl rfl rfl rfl) (by assumption);go_simp))
       apply wpOrd_nil
       go_wp2_with fail
       go_roundw
       case rel=>exact ⟨j+1,_,by omega,rfl,by go_num,F3.out.drew⟩
       case measure=>simp[intOf];omega
     · go_wp2_with fail
       go_roundw
       case rel=>exact ⟨k+1,y,by omega,rfl,by go_num,HF.out.andN hf2⟩
       case measure=>simp[intOf];omega
  · by_cases hg:5000<x
    · go_wp2_with fail
      go_ret
      exact ⟨⟨1,rfl⟩,hf⟩
    · go_wp2_with fail
      go_ret
      exact ⟨⟨0,rfl⟩,hf⟩
open Go.ChangeShapes Go.WideShapes Go.ChangeAt Go.RowKit
def Rch {H:Type} (t:TypeId) (d:DataW H):Prop:=∀n∈d.weights Tryz.prog t,n≤lim
def rCol0:Rep Col:=fun S w cs x=>I64 x.kind∧cs=[.string (bs x.name), .int .i64 x.kind]
def rCel0:Rep Cel:=fun S w cs x=>x.num<18446744073709551616∧cs=[.int .u64 x.num, .string (bs x.text)]
theorem rCol0_ok:rCol0.Ok 2:=by
 refine ⟨?_,?_,?_,?_⟩
 · rintro S T w w' cs x h hf hT;exact h
 · rintro S T w cs x h hS;exact h
 · rintro S w cs x ⟨_,rfl⟩;rfl
 · rintro S w cs x ⟨_,rfl⟩ u hu
   simp at hu
   rcases hu with rfl | rfl<;>rfl
theorem rCel0_ok:rCel0.Ok 2:=by
 refine ⟨?_,?_,?_,?_⟩
 · rintro S T w w' cs x h hf hT;exact h
 · rintro S T w cs x h hS;exact h
 · rintro S w cs x ⟨_,rfl⟩;rfl
 · rintro S w cs x ⟨_,rfl⟩ u hu
   simp at hu
   rcases hu with rfl | rfl<;>rfl
def rPr0:Rep Pr:=fun S w cs x=>I64 x.weight∧∃a cap,cs=[.slice a x.row.length cap, .int .i64 x.weight]∧SV rCel0 2 S w a cap x.row
theorem rPr0_ok:rPr0.Ok 2:=by
 refine ⟨?_,?_,?_,?_⟩
 · rintro S T w w' cs x ⟨h1,a,cap,rfl,h⟩ hf hT;exact ⟨h1,a,cap,rfl,h.fr rCel0_ok hf hT⟩
 · rintro S T w cs x ⟨h1,a,cap,rfl,h⟩ hS;exact ⟨h1,a,cap,rfl,h.mono rCel0_ok hS⟩
 · rintro S w cs x ⟨_,a,cap,rfl,_⟩;rfl
 · rintro S w cs x ⟨_,a,cap,rfl,_⟩ u hu
   simp at hu
   rcases hu with rfl | rfl<;>rfl
section
variable {H:Type} {enc:TypeId×Value→H} {W:World}
theorem SV.up {α:Type} {R0 R:Rep α} {size:Nat} {S:Nat→Prop} {w:World} {a:Option Addr} {cap:Nat} {xs:List α} (h:SV R0 size S w a cap xs) (hu:∀x∈xs,∀c,R0 S w c x→R S w c x):SV R size S w a cap xs:=by
 obtain ⟨css,hl,hv,hr⟩:=h
 exact ⟨css,hl,hv,fun i c x h1 h2=>hu x (List.mem_of_getElem? h2) c (hr i c x h1 h2)⟩
theorem weightsAll_mem {e:TypeId}:∀{l:List (DataW H)} {d:DataW H},d∈l→∀n∈d.weights Tryz.prog e,n∈DataW.weightsAll Tryz.prog e l
 | [],_,h,_,_=>by simp at h
 | x::l,d,h,n,hn=>by
   simp only[DataW.weightsAll]
   rcases List.mem_cons.1 h with rfl | h
   · exact List.mem_append.2 (Or.inl hn)
   · exact List.mem_append.2 (Or.inr (weightsAll_mem h n hn))
theorem rch_slice {α:Type} {t e:TypeId} {B:α→Prop} {d:DataW H} {xs:List α} (ht:(Tryz.prog).underlying t=some (.slice e)) (hb:1≤(Tryz.prog).bytesOf e) (h:d= .nil∧xs=[]∨∃(prs:List (α×DataW H)) (sp:List (DataW H)),xs=prs.map (·.1)∧d= .slice (prs.map (·.2)) sp∧∀y∈prs,Rch e y.2→B y.1) (hr:Rch t d):
 xs.length≤lim∧∀x∈xs,B x:=by
 rcases h with ⟨_,rfl⟩ | ⟨prs,sp,rfl,rfl,hE⟩
 · exact ⟨by unfold lim;simp,by simp⟩
 · unfold Rch at hr
   rw[DataW.weights,ht] at hr
   simp only at hr
   refine ⟨?_,fun x hx=>?_⟩
   · have h1:=hr _ (List.mem_cons_self ..)
     rw[List.length_map] at h1 ⊢
     have h2:prs.length*1≤(prs.length+sp.length)*(Tryz.prog).bytesOf e:=Nat.mul_le_mul (by omega) hb
     omega
   · obtain ⟨y,hy,rfl⟩:=List.mem_map.1 hx
     refine hE y hy (fun n hn=>hr n ?_)
     refine List.mem_cons_of_mem _ (List.mem_append.2 (Or.inl (weightsAll_mem (List.mem_map.2 ⟨y,hy,rfl⟩) n hn)))
set_option maxRecDepth 100000 in
theorem open_col (n:Nat) (cs:List Value) (d:DataW H) (p:List MemPlace) (h:DataW.trod enc Tryz.prog W 0 (fun _=>true) true n 71 cs=some (d,p)) (hz:W.noneFrozen p):
 ∃x,rCol0 (old W) W cs x∧(Rch 71 d→x.name.length≤lim):=by
 obtain ⟨y0,y1,m,hx,hl,h0,h1⟩:=trod_struct2 Tryz.underlying71 h
 simp only[Prod.mk.injEq] at hx
 rw[show (Tryz.prog).cellsOf 71=2 from by kernel_rfl] at hl
 simp only[show (Tryz.prog).cellsOf 3=1 from by kernel_rfl,show (Tryz.prog).cellsOf 9=1 from by kernel_rfl] at h0 h1
 obtain ⟨c0,c1,rfl⟩:∃c0 c1,cs=[c0,c1]:=by
  match cs,hl with
  | [c0,c1],_=>exact ⟨c0,c1,rfl⟩
 simp at h0 h1
 obtain ⟨s,e0,rfl,w0⟩:=DataW.trod_string Tryz.underlying9 h0
 obtain ⟨k,e1,rfl,w1⟩:=DataW.trod_int Tryz.underlying3 h1
 simp at e0 e1
 subst e0 e1
 refine ⟨⟨s.data.toList,k⟩,⟨bounds_i64 w1,by rw[bs_of]⟩,fun hr=>?_⟩
 rw[hx.1] at hr
 unfold Rch at hr
 rw[DataW.weights,Tryz.underlying71] at hr
 exact hr _ (by simp[DataW.weightsEach,DataW.weights])
set_option maxRecDepth 100000 in
theorem open_cel (n:Nat) (cs:List Value) (d:DataW H) (p:List MemPlace) (h:DataW.trod enc Tryz.prog W 0 (fun _=>true) true n 74 cs=some (d,p)) (hz:W.noneFrozen p):
 ∃x,rCel0 (old W) W cs x∧(Rch 74 d→x.text.length≤lim):=by
 obtain ⟨y0,y1,m,hx,hl,h0,h1⟩:=trod_struct2 Tryz.underlying74 h
 simp only[Prod.mk.injEq] at hx
 rw[show (Tryz.prog).cellsOf 74=2 from by kernel_rfl] at hl
 simp only[show (Tryz.prog).cellsOf 72=1 from by kernel_rfl,show (Tryz.prog).cellsOf 9=1 from by kernel_rfl] at h0 h1
 obtain ⟨c0,c1,rfl⟩:∃c0 c1,cs=[c0,c1]:=by
  match cs,hl with
  | [c0,c1],_=>exact ⟨c0,c1,rfl⟩
 simp at h0 h1
 obtain ⟨k,e1,rfl,w1⟩:=DataW.trod_int Tryz.underlying72 h0
 obtain ⟨s,e0,rfl,w0⟩:=DataW.trod_string Tryz.underlying9 h1
 simp at e0 e1
 subst e0 e1
 have hk:=bounds_u64 w1
 refine ⟨⟨k.toNat,s.data.toList⟩,⟨by show k.toNat<_;omega,by rw[bs_of];simp;omega⟩,fun hr=>?_⟩
 rw[hx.1] at hr
 unfold Rch at hr
 rw[DataW.weights,Tryz.underlying74] at hr
 exact hr _ (by simp[DataW.weightsEach,DataW.weights])
def PrB (x:Pr):Prop:=x.row.length≤lim∧∀c∈x.row,c.text.length≤lim
set_option maxRecDepth 100000 in
theorem open_pr (n:Nat) (cs:List Value) (d:DataW H) (p:List MemPlace) (h:DataW.trod enc Tryz.prog W 0 (fun _=>true) true n 66 cs=some (d,p)) (hz:W.noneFrozen p):
 ∃x,rPr0 (old W) W cs x∧(Rch 66 d→PrB x):=by
 obtain ⟨y0,y1,m,hx,hl,h0,h1⟩:=trod_struct2 Tryz.underlying66 h
 simp only[Prod.mk.injEq] at hx
 rw[show (Tryz.prog).cellsOf 66=2 from by kernel_rfl] at hl
 simp only[show (Tryz.prog).cellsOf 2=1 from by kernel_rfl,show (Tryz.prog).cellsOf 64=1 from by kernel_rfl] at h0 h1
 obtain ⟨c0,c1,rfl⟩:∃c0 c1,cs=[c0,c1]:=by
  match cs,hl with
  | [c0,c1],_=>exact ⟨c0,c1,rfl⟩
 simp at h0 h1
 obtain ⟨d0,p0⟩:=y0
 obtain ⟨a,cap,xs,e0,hsv,hd⟩:=open_SV (E:=fun (x:Cel) d=>Rch 74 d→x.text.length≤lim) rCel0_ok (by omega) Tryz.underlying64 (by kernel_rfl) open_cel h0 (fun b off hm=>hz b off (by rw[hx.2];simp[hm]))
 obtain ⟨k,e1,rfl,w1⟩:=DataW.trod_int Tryz.underlying2 h1
 simp at e0 e1
 subst e0 e1
 refine ⟨⟨xs,k⟩,⟨bounds_i64 w1,a,cap,rfl,hsv⟩,fun hr=>?_⟩
 rw[hx.1] at hr
 unfold Rch at hr
 rw[DataW.weights,Tryz.underlying66] at hr
 exact rch_slice Tryz.underlying64 (by rw[show (Tryz.prog).bytesOf 74=24 from by kernel_rfl];omega) hd (fun n hn=>hr n (by simp only[List.map,DataW.weightsEach,List.mem_append];exact Or.inl hn))
theorem open_cols {fuel:Nat} {cs:List Value} {d:DataW H} {p:List MemPlace} (h:DataW.trod enc Tryz.prog W 0 (fun _=>true) true fuel 22 cs=some (d,p)) (hfz:W.noneFrozen p) (hr:Rch 22 d):
 ∃a cap xs,cs=[.slice a xs.length cap]∧SV rCol 2 (old W) W a cap xs∧xs.length≤lim:=by
 obtain ⟨a,cap,xs,e,hsv,hd⟩:=open_SV (E:=fun (x:Col) d=>Rch 71 d→x.name.length≤lim) rCol0_ok (by omega) Tryz.underlying22 (by kernel_rfl) open_col h hfz
 obtain ⟨h1,h2⟩:=rch_slice (B:=fun x:Col=>x.name.length≤lim) Tryz.underlying22 (by rw[show (Tryz.prog).bytesOf 71=24 from by kernel_rfl];omega) hd hr
 exact ⟨a,cap,xs,e,hsv.up (fun x hx c hc=>⟨hc.1,h2 x hx,hc.2⟩),h1⟩
theorem up_pr {S:Nat→Prop} {w:World} {x:Pr} {c:List Value} (h:rPr0 S w c x) (hb:PrB x):rPr S w c x:=by
 obtain ⟨h1,a,cap,e,h2⟩:=h
 exact ⟨h1,hb.1,a,cap,e,h2.up (fun y hy c hc=>⟨hc.1,hb.2 y hy,hc.2⟩)⟩
theorem open_prs {fuel:Nat} {cs:List Value} {d:DataW H} {p:List MemPlace} (h:DataW.trod enc Tryz.prog W 0 (fun _=>true) true fuel 24 cs=some (d,p)) (hfz:W.noneFrozen p) (hr:Rch 24 d):
 ∃a cap xs,cs=[.slice a xs.length cap]∧SV rPr 2 (old W) W a cap xs∧xs.length≤lim:=by
 obtain ⟨a,cap,xs,e,hsv,hd⟩:=open_SV (E:=fun (x:Pr) d=>Rch 66 d→PrB x) rPr0_ok (by omega) Tryz.underlying24 (by kernel_rfl) open_pr h hfz
 obtain ⟨h1,h2⟩:=rch_slice (B:=PrB) Tryz.underlying24 (by rw[show (Tryz.prog).bytesOf 66=32 from by kernel_rfl];omega) hd hr
 exact ⟨a,cap,xs,e,hsv.up (fun x hx c hc=>up_pr hc (h2 x hx)),h1⟩
end
end Go.Proofs.YtibpkfnfcdbiiaaGreatDoor
namespace Go.Proofs.YtibpkfnfcdbiiaaGreatDoor
set_option linter.unusedSimpArgs false
open Go.ChangeShapes Go.WideShapes Go.ChangeAt Go.RowKit
set_option linter.unusedVariables false
def rPL0:Rep (List Pr):=fun S w cs x=>∃a cap,cs=[.slice a x.length cap]∧SV rPr0 2 S w a cap x
theorem rPL0_ok:rPL0.Ok 1:=by
 refine ⟨?_,?_,?_,?_⟩
 · rintro S T w w' cs x ⟨a,cap,rfl,h⟩ hf hT;exact ⟨a,cap,rfl,h.fr rPr0_ok hf hT⟩
 · rintro S T w cs x ⟨a,cap,rfl,h⟩ hS;exact ⟨a,cap,rfl,h.mono rPr0_ok hS⟩
 · rintro S w cs x ⟨a,cap,rfl,_⟩;rfl
 · rintro S w cs x ⟨a,cap,rfl,_⟩ u hu
   simp at hu
   subst hu;rfl
def PLB (x:List Pr):Prop:=x.length≤lim∧∀p∈x,PrB p
section
variable {H:Type} {enc:TypeId×Value→H} {W:World}
set_option maxRecDepth 100000 in
theorem open_pl (n:Nat) (cs:List Value) (d:DataW H) (p:List MemPlace) (h:DataW.trod enc Tryz.prog W 0 (fun _=>true) true n 24 cs=some (d,p)) (hz:W.noneFrozen p):
 ∃x,rPL0 (old W) W cs x∧(Rch 24 d→PLB x):=by
 obtain ⟨a,cap,xs,e,hsv,hd⟩:=open_SV (E:=fun (x:Pr) d=>Rch 66 d→PrB x) rPr0_ok (by omega) Tryz.underlying24 (by kernel_rfl) open_pr h hz
 refine ⟨xs,⟨a,cap,e,hsv⟩,fun hr=>?_⟩
 exact rch_slice (B:=PrB) Tryz.underlying24 (by rw[show (Tryz.prog).bytesOf 66=32 from by kernel_rfl];omega) hd hr
theorem up_pl {S:Nat→Prop} {w:World} {x:List Pr} {c:List Value} (h:rPL0 S w c x) (hb:PLB x):rPL S w c x:=by
 obtain ⟨a,cap,e,h2⟩:=h
 exact ⟨hb.1,a,cap,e,h2.up (fun y hy c hc=>up_pr hc (hb.2 y hy))⟩
theorem open_prl {fuel:Nat} {cs:List Value} {d:DataW H} {p:List MemPlace} (h:DataW.trod enc Tryz.prog W 0 (fun _=>true) true fuel 23 cs=some (d,p)) (hfz:W.noneFrozen p) (hr:Rch 23 d):
 ∃a cap xs,cs=[.slice a xs.length cap]∧SV rPL 1 (old W) W a cap xs∧xs.length≤lim:=by
 obtain ⟨a,cap,xs,e,hsv,hd⟩:=open_SV (E:=fun (x:List Pr) d=>Rch 24 d→PLB x) rPL0_ok (by omega) Tryz.underlying23 (by kernel_rfl) open_pl h hfz
 obtain ⟨h1,h2⟩:=rch_slice (B:=PLB) Tryz.underlying23 (by rw[show (Tryz.prog).bytesOf 24=24 from by kernel_rfl];omega) hd hr
 exact ⟨a,cap,xs,e,hsv.up (fun x hx c hc=>up_pl hc (h2 x hx)),h1⟩
end
end Go.Proofs.YtibpkfnfcdbiiaaGreatDoor
namespace Go.Proofs.YtibpkfnfcdbiiaaGreatDoor
set_option linter.unusedSimpArgs false
open Go.RowKit Go.Shelf Go.Lib
set_option linter.unusedVariables false
abbrev laidL:List (String×DataW Unit):=[("unicode/utf8.acceptRanges",Rows.laid_unicode_utf8_acceptRanges),("deckle/cell.names",Rows.laid_deckle_cell_names),("unicode/utf8.first",Rows.laid_unicode_utf8_first)]
theorem first_is:Rows.laid_unicode_utf8_first=firstData:=by kernel_rfl
theorem accept_is:(Rows.laid_unicode_utf8_acceptRanges:DataW Unit)=acceptData:=by kernel_rfl
set_option maxRecDepth 100000 in
theorem names_of {W:World} (h:VarReads Tryz.prog W "deckle/cell.names" Rows.laid_deckle_cell_names):∀j u,nameVals[j]? =some u→W.cell? ⟨1,j,none⟩=some u:=by
 intro j u hj
 obtain ⟨g,t,cs,fuel,p,hg,hty,hvar,hd⟩:=h
 obtain rfl:=Option.some.inj ((show (Tryz.prog).globalNamed "deckle/cell.names"=some 1 by kernel_rfl).symm.trans hg)
 obtain rfl:=Option.some.inj ((show ((Tryz.prog).globals[1]?).map (·.type)=some 234 by kernel_rfl).symm.trans hty)
 obtain ⟨xs,m,_,ex,_,hl,hel⟩:=DataW.trod_array Tryz.underlying234 hd
 have hj6:j<6:=by have:=(List.getElem?_eq_some_iff.1 hj).1;simpa [nameVals,kindNames] using this
 have hE:=hel j hj6
 rw[show (Tryz.prog).cellsOf 9=1 from by kernel_rfl,Nat.mul_one,List.getElem?_eq_getElem (by omega)] at hE
 obtain ⟨s,e1,e2,_⟩:=DataW.trod_string Tryz.underlying9 hE
 have e3:xs.map (·.1)=kindNames.map fun n=> .lit (.string n):=(DataW.agg.inj (Prod.mk.inj ex).1).symm
 have e4:(xs.map (·.1))[j]? =(kindNames.map fun n=>(DataW.lit (.string n):DataW Unit))[j]? :=by rw[e3]
 have hkl:j<kindNames.length:=hj6
 rw[List.getElem?_map,List.getElem?_map,List.getElem?_eq_getElem (by omega:j<xs.length),List.getElem?_eq_getElem hkl,e2] at e4
 simp only[Option.map_some,Option.some.injEq,DataW.lit.injEq,Lit.string.injEq] at e4
 have hu:u= .string s:=by
  unfold nameVals at hj
  rw[List.getElem?_map,List.getElem?_eq_getElem hkl] at hj
  simp only[Option.map_some,Option.some.injEq] at hj
  rw[←hj,←e4,bs_of]
 rw[World.var?_cell hg hvar j,hu]
 have:cs.toList[j]? =some (.string s):=by
  have h0:((cs.toList.drop j).take 1)[0]? =some (.string s):=by rw[e1];rfl
  simpa using h0
 simpa using this
theorem laid_of {W:World} (h:laidMetH Tryz.prog laidL W):Laid W:=by
 rw[MakeChecks.laidMetH_plain _ _ _ (by kernel_rfl)] at h
 have h1:=laidMet.reads h (n:= "unicode/utf8.acceptRanges") (d:=Rows.laid_unicode_utf8_acceptRanges) (.head _)
 have h2:=laidMet.reads h (n:= "deckle/cell.names") (d:=Rows.laid_deckle_cell_names) (.tail _ (.head _))
 have h3:=laidMet.reads h (n:= "unicode/utf8.first") (d:=Rows.laid_unicode_utf8_first) (.tail _ (.tail _ (.head _)))
 rw[accept_is] at h1
 rw[first_is] at h3
 exact ⟨utf8Tabs_of_readsT (U8Types.of196 Tryz.lays196) ⟨by kernel_rfl,by kernel_rfl,by kernel_rfl,by kernel_rfl,by kernel_rfl,by kernel_rfl,by kernel_rfl⟩ h3 h1,names_of h2⟩
end Go.Proofs.YtibpkfnfcdbiiaaGreatDoor
