/- decklelaw13.Great. -/
import Derived.Test.YtibpkfnfcdbiiaaGreatDoorPlLit
import Derived.Test.YtibpkfnfcdbiiaaGreatDoorBunT
namespace Go.Proofs.YtibpkfnfcdbiiaaGreatDoor
set_option linter.unusedSimpArgs false
open Go.RowKit
set_option linter.unusedVariables false
set_option maxRecDepth 100000 in
set_option maxHeartbeats 4000000 in
theorem greatB_any (S:Nat→Prop) (w:World) (a:Option Addr) (cap:Nat) (l:List (List Pr)) (h:SV rPL 1 S w a cap l) (hl:l.length≤lim):
 Calls Tryz.prog 14 #[.slice a l.length cap] w fun e w' =>(∃g:Int,e= .returned (.int .i64 g)∧0≤g∧g≤1)∧Fr nob w w' :=by
 have H:=Lib.hid h
 unfold lim at hl
 clear h
 go_enter Tryz.func14,Tryz.ntmps14
 go_wp2_with fail
 go_loopw [3,10] (fun v3 v10 wr=>∃(k:Nat) (x:Int),k≤l.length∧v3= .int .i64 x∧v10= .int .i64 k∧Fr nob w wr) (fun _ v10 _=>l.length - (intOf v10).toNat)
 case atStart=>exact ⟨0,0,Nat.zero_le _,rfl,rfl,Fr.refl _ _⟩
 case round=>
  obtain ⟨k,x,hk,rfl,rfl,hf⟩:=hrel
  by_cases hlt:k<l.length
  · obtain ⟨b,off,ra,rc,rfl,_,ht,hr,c0⟩:=pl_at (H.out.frN rPL_ok hf) hlt
    generalize l[k]=p at ht hr c0
    have HR:=Lib.hid hr
    have HF:=Lib.hid hf
    unfold lim at ht
    clear hr hf
    go_wp2_with fail
    go_loopw [3,16] (fun v3 v16 wr2=>∃(j:Nat) (x:Int),j≤p.length∧v3= .int .i64 x∧v16= .int .i64 j∧Fr nob wr wr2) (fun _ v16 _=>p.length - (intOf v16).toNat)
    case atStart=>exact ⟨0,x,Nat.zero_le _,rfl,rfl,Fr.refl _ _⟩
    case round=>
     obtain ⟨j,y,hj,rfl,rfl,hf2⟩:=hrel
     have HF2:=Lib.hid hf2
     by_cases hltj:j<p.length
     · obtain ⟨b1,o1,rb,rcc,rfl,_,_,hrl,hrow,c0,c1⟩:=pr_at (HR.out.frN rPr_ok hf2) hltj
       have HROW:=Lib.hid hrow
       generalize p[j]=x at hrl hrow c0 c1 HROW
       obtain ⟨v,hv⟩:∃v:World,v=wr:=⟨_,rfl⟩
       obtain ⟨w3,hw3⟩:∃w3,w3=wr.alloc (.cells #[.slice rb x.row.length rcc, .int .i64 x.weight] 66 (0,0)):=⟨_,rfl⟩
       have hB:=heap_new wr (.cells #[.slice rb x.row.length rcc, .int .i64 x.weight] 66 (0,0))
       rw[←hw3] at hB
       have hf3:Fr nob wr w3:=by rw[hw3];exact (Fr.refl nob wr).alloc _
       obtain ⟨z,hz⟩:∃z,z=wr.heap.size:=⟨_,rfl⟩
       rw[←hz] at hB
       have HW3:=Lib.hid hw3
       have HZ:=Lib.hid hz
       have F3:=Lib.hid (hf2.andN hf3)
       have HSZ:=Lib.hid (fun u (hu:Fr nob w3 u)=>rsize_any S u rb rcc x.row (hrow.frN rCel_ok (hf3.andN hu)) hrl)
       have q0:∀u,Fr nob w3 u→u.cell? ⟨z,0,none⟩=some (.slice rb x.row.length rcc):=fun u hu=>by rw[cell_of (hu.heap hB id) 0];rfl
       unfold lim at hrl
       clear hrow hB hw3 hf3 hz hv hf2
       go_wp2_with fail
       rw[←HW3.out,←HZ.out]
       refine wp_region_ord [(0,true),(1,true),(2,true),(5,true),(6,true),(7,true),(3,false),(4,true),(8,true),(9,true),(10,true)] (Fr nob _) rfl (by kernel_rfl) (by kernel_rfl) (by decide) (fun c a d v w h=>by cases d<;>exact h) ((Fr.refl nob _).drew) (fun ops hops hS=>?_)
       repeat (first | (apply oF hops (by rfl) (by first | exact .plain rfl | exact .y hops rfl rfl rfl rfl);(focus (intro x hx;go_simp;rfl));go_simp) | (apply oS hops (by rfl) (by first | exact .n hops rfl rfl rfl rfl | exact .u hops rfl rfl rfl rfl);go_simp) | (apply oP hops (by rfl) (by first | exact .n hops rfl rfl rfl rfl | exact .u hops rfl rfl rfl rfl) (by assumption);go_simp))
       refine oA hops (by rfl) (by first | exact .plain rfl | exact .y hops rfl rfl rfl rfl) (fun K hK=>?_)
       go_wp2_with fail
       refine (HSZ.out _ (Fr.refl nob w3).drew).mono ?_
       rintro e w4 ⟨⟨g,rfl⟩,rfl⟩
       refine hK _ _ ⟨_,fun _ h=>h,(Fr.refl nob w3).drew,?_⟩
       clear hK
       go_simp
       repeat (first | (apply oF hops (by rfl) (by first | exact .plain rfl | exact .y hops rfl rfl rfl rfl);(focus (intro x hx;go_simp;rfl));go_simp) | (apply oS hops (by rfl) (by first | exact .n hops rfl rfl rfl rfl | exact .u hops rfl rfl rfl rfl);go_simp) | (apply oP hops (by rfl) (by first | exact .n hops rfl rfl rfl rfl | exact .u hops rfl rfl rfl rfl) (by assumption);go_simp))
       apply wpOrd_nil
       go_wp2_with fail
       go_roundw
       case rel=>exact ⟨j+1,_,by omega,rfl,by go_num,F3.out.drew⟩
       case measure=>simp[intOf];omega
     · go_wp2_with fail
       go_roundw
       case rel=>exact ⟨k+1,y,by omega,rfl,by go_num,HF.out.andN hf2⟩
       case measure=>simp[intOf];omega
  · by_cases hg:5000<x
    · go_wp2_with fail
      go_ret
      exact ⟨⟨1,rfl,by omega,by omega⟩,hf⟩
    · go_wp2_with fail
      go_ret
      exact ⟨⟨0,rfl,by omega,by omega⟩,hf⟩
theorem take_es_le (L:List Ent) (k:Nat):((L.take k).flatMap (·.prs)).length≤(L.flatMap (·.prs)).length:=by
 conv=>rhs;rw[←List.take_append_drop k L]
 rw[List.flatMap_append,List.length_append];omega
theorem take_es_succ {L:List Ent} {k:Nat} (h:k<L.length):(L.take (k+1)).flatMap (·.prs)=(L.take k).flatMap (·.prs)++L[k].prs:=by
 rw[List.take_succ_eq_append_getElem h,List.flatMap_append]
 simp only[List.flatMap_cons,List.flatMap_nil,List.append_nil]
structure AllEs (w0 wr:World) (B:Nat→Prop) (L:List Ent) (k:Nat) (o:List Elt) (ao:Option Addr) (co:Nat):Prop where
 ps:o.map (·.p)=(L.take k).flatMap (·.prs)
 all:Vec B wr 2 ao o.length co (o.flatMap eltCells)
 el:∀x∈o,RowAt (free wr B) wr x
 ev:Ev w0 nob wr B
def GreatEs (s:List Col) (l:List Ent) (e:Ending):Prop:=∃g:Int,e= .returned (.int .i64 g)∧(¬0<g→l.length≤30∧(l.flatMap (·.prs)).length≤200∧s.length≤30)
set_option maxRecDepth 100000 in
set_option maxHeartbeats 16000000 in
theorem great13_any (R:Nat→Prop) (w:World) (sa:Option Addr) (sc:Nat) (s:List Col) (b:Option Addr) (cb:Nat) (L:List Ent) (hl:SV rEnt 3 R w b cb L) (h0:s.length≤lim) (h1:L.length≤1048576) (htot:(L.flatMap (·.prs)).length≤1048576) (hR:∀k,R k→k<w.heap.size):
 Calls Tryz.prog 22 #[.agg #[.slice sa s.length sc, .slice b L.length cb]] w fun e w' =>GreatEs s L e∧Fr nob w w' :=by
 obtain ⟨w1,hw1⟩:∃x1,x1=w.alloc (.cells #[.slice sa s.length sc, .slice b L.length cb] 36 (0,0)):=⟨_,rfl⟩
 obtain ⟨z,hz⟩:∃x1,x1=w.heap.size:=⟨_,rfl⟩
 have hf1:Fr nob w w1:=by rw[hw1];exact (Fr.refl nob w).alloc _
 have hb1:=heap_new w (.cells #[.slice sa s.length sc, .slice b L.length cb] 36 (0,0))
 have c0:=cell_of hb1 0
 have c1:=cell_of hb1 1
 simp at c0 c1
 rw[←hw1,←hz] at hb1
 have hl' :=hl.within rEnt_ok hR
 have HL:=Lib.hid (SV.keep rEnt_ok hl')
 clear hl'
 have HTOT:=Lib.hid (⟨htot,h1⟩:_∧_)
 have HB1:=Lib.hid hb1
 have HW:=Lib.hid (⟨hw1,hz⟩:_∧_)
 have E1:=Lib.hid (Ev.of hf1 (nob_lt _))
 have G1:=Lib.hid hf1
 unfold lim at h0
 clear hl htot hb1 hw1 hz hf1
 go_enter Tryz.func22,Tryz.ntmps22
 go_wp2_with fail
 rw[←HW.out.1,←HW.out.2]
 clear c0 c1
 have QT:=Lib.hid (fun y (hy:Fr nob w1 y)=>hy.heap HB1.out id)
 have HE1:=Lib.hid E1.out
 go_loopw [3,12] (fun v3 v12 wr=>∃(k:Nat) (x:Nat),v3= .int .i64 x∧v12= .int .i64 k∧k≤L.length∧((L.take k).flatMap (·.prs)).length≤x∧x≤((L.take k).flatMap (·.prs)).length+k∧Fr nob w1 wr) (fun _ v12 _=>L.length - (intOf v12).toNat)
 case atStart=>exact ⟨0,0,rfl,rfl,Nat.zero_le _,by simp,by simp,Fr.refl _ _⟩
 case round=>
  obtain ⟨k,x,rfl,rfl,hk,hx1,hx2,hf⟩:=hrel
  have hle:=take_es_le L k
  have htot:=HTOT.out.1
  have hxb:x≤2097152:=by omega
  have HXX:=Lib.hid (⟨hx1,hx2⟩:_∧_)
  clear hle htot hx1 hx2
  by_cases hlt:k<L.length
  · have hr0:=HL.out _ _ (HE1.out.trans (Ev.of hf (nob_lt _)))
    obtain ⟨b1,off,ra,rc,rfl,_,h64,hpl,hp,e0,e1,e2⟩:=ent_at hr0 hlt
    have HLK:=Lib.hid (take_es_succ hlt)
    have hpl2:L[k].prs.length≤1048576:=by
     have h2:=take_es_le L (k+1)
     rw[HLK.out,List.length_append] at h2
     have:=HTOT.out.1
     omega
    clear h64 hpl hr0
    generalize L[k]=m at hp e0 e1 e2 HLK hpl2
    obtain ⟨mk,mq,mp⟩:=m
    simp only at hp e0 e1 e2 HLK hpl2
    obtain ⟨w3,hw3⟩:∃x1,x1=wr.alloc (.cells #[.int .i64 mk, .int .i64 mq, .slice ra mp.length rc] 40 (0,0)):=⟨_,rfl⟩
    obtain ⟨z3,hz3⟩:∃z,z=wr.heap.size:=⟨_,rfl⟩
    have hf3:Fr nob wr w3:=by rw[hw3];exact (Fr.refl nob _).alloc _
    have hb3:=heap_new wr (.cells #[.int .i64 mk, .int .i64 mq, .slice ra mp.length rc] 40 (0,0))
    rw[←hw3,←hz3] at hb3
    have q2:∀y,Fr nob w3 y→y.cell? ⟨z3,2,none⟩=some (.slice ra mp.length rc):=fun y hy=>by have:=cell_of (hy.heap hb3 id) 2;simpa using this
    have hp3:=(hp.frN rPr_ok hf3).mono rPr_ok (T:=free w3 nob) (fun k hk=>⟨Nat.lt_of_lt_of_le hk.1 hf3.size,id⟩)
    have HW3:=Lib.hid (⟨hw3,hz3⟩:_∧_)
    have HF3:=Lib.hid (hf.andN hf3)
    clear hb3 hf3 hp hw3 hz3 hf
    go_wp2_with fail
    rw[←HW3.out.1,←HW3.out.2]
    clear e0 e1 e2
    have HP3:=Lib.hid (SV.keep rPr_ok hp3)
    clear hp3
    refine wp_region_ord [(0,true),(1,true),(2,true),(5,true),(6,true),(7,true),(3,false),(4,false),(8,true),(9,true),(10,true)] (Fr nob w3) rfl (by kernel_rfl) (by kernel_rfl) (by decide) (fun c a d v w h=>by cases d<;>exact h) ((Fr.refl nob w3).drew) (fun ops hops hS=>?_)
    obtain ⟨d2,hdw⟩:∃d,d=w3.drew:=⟨_,rfl⟩
    rw[←hdw] at hS ⊢
    have G2:Hid (Fr nob w3 d2):=Lib.hid (by rw[hdw];exact (Fr.refl nob w3).drew)
    have E2:=Lib.hid (Ev.of G2.out (nob_lt _))
    clear hdw
    repeat (first | (apply oF hops (by rfl) (by first | exact .plain rfl | exact .y hops rfl rfl rfl rfl);(focus (intro x hx;go_simp;rfl));go_simp) | (apply oS hops (by rfl) (by first | exact .n hops rfl rfl rfl rfl | exact .u hops rfl rfl rfl rfl);go_simp) | (apply oP hops (by rfl) (by first | exact .n hops rfl rfl rfl rfl | exact .u hops rfl rfl rfl rfl) (by assumption);go_simp))
    have hpl:=pl_lit d2 nob (nob_lt _) ra rc mp (HP3.out _ _ E2.out) (by unfold lim;omega)
    obtain ⟨w5,hw5⟩:∃x1,x1=d2.alloc (.cells #[.slice ra mp.length rc] 24 (0,0)):=⟨_,rfl⟩
    obtain ⟨z5,hz5⟩:∃z,z=(d2).heap.size:=⟨_,rfl⟩
    have hf5:Fr nob d2 w5:=by rw[hw5];exact (Fr.refl nob _).alloc _
    rw[←hw5,←hz5] at hpl
    have hgr:=greatB_any _ w5 (some ⟨z5,0,none⟩) 1 [mp] hpl (by simp[lim])
    rw[show [mp].length=1 from rfl] at hgr
    have G5:=Lib.hid ((G2.out).andN hf5)
    clear hpl hf5
    refine oA hops (by rfl) (by first | exact .plain rfl | exact .y hops rfl rfl rfl rfl) (fun K hK=>?_)
    go_wp2_with fail
    rw[←hw5,←hz5]
    refine ⟨Fr nob w3,fun _ h=>h,G5.out,?_⟩
    clear hw5 hz5
    go_simp
    repeat (first | (apply oF hops (by rfl) (by first | exact .plain rfl | exact .y hops rfl rfl rfl rfl);(focus (intro x hx;go_simp;rfl));go_simp) | (apply oS hops (by rfl) (by first | exact .n hops rfl rfl rfl rfl | exact .u hops rfl rfl rfl rfl);go_simp) | (apply oP hops (by rfl) (by first | exact .n hops rfl rfl rfl rfl | exact .u hops rfl rfl rfl rfl) (by assumption);go_simp))
    refine oA hops (by rfl) (by first | exact .plain rfl | exact .y hops rfl rfl rfl rfl) (fun K hK=>?_)
    go_wp2_with fail
    refine hgr.mono ?_
    rintro e w6 ⟨⟨g,rfl,hg0,hg1⟩,hf6⟩
    obtain ⟨gn,rfl⟩:∃n:Nat,g=n:=⟨g.toNat,by omega⟩
    have hwa:IntKind.i64.wrap ((gn:Int)+(mp.length:Int))=(gn:Int)+(mp.length:Int):=by rw[IntWalk.i64_in _ (by omega)]
    have hwb:IntKind.i64.wrap ((x:Int)+((gn:Int)+(mp.length:Int)))=(x:Int)+((gn:Int)+(mp.length:Int)):=by rw[IntWalk.i64_in _ (by omega)]
    have G6:=Lib.hid (G5.out.andN hf6)
    clear hgr hf6
    refine hK _ _ ⟨_,fun _ h=>h,G6.out,?_⟩
    clear hK
    go_simp
    repeat (first | (apply oF hops (by rfl) (by first | exact .plain rfl | exact .y hops rfl rfl rfl rfl);(focus (intro x hx;go_simp;rfl));go_simp) | (apply oS hops (by rfl) (by first | exact .n hops rfl rfl rfl rfl | exact .u hops rfl rfl rfl rfl);go_simp) | (apply oP hops (by rfl) (by first | exact .n hops rfl rfl rfl rfl | exact .u hops rfl rfl rfl rfl) (by assumption);go_simp))
    apply wpOrd_nil
    go_wp2_with fail
    go_roundw
    case rel=>
     obtain ⟨hx1,hx2⟩:=HXX.out
     refine ⟨k+1,x+(gn+mp.length),by simp,by go_num,by omega,?_,?_,HF3.out.andN G6.out⟩
     · rw[HLK.out,List.length_append];omega
     · rw[HLK.out,List.length_append];omega
    case measure=>simp[intOf];omega
  · obtain rfl:k=L.length:=by omega
    have hx:=HXX.out
    rw[List.take_length] at hx
    have HT:=Lib.hid hx
    have hb1:=QT.out _ hf
    have t0:=cell_of hb1 0
    have t1:=cell_of hb1 1
    simp at t0 t1
    have HEV:=Lib.hid (HE1.out.trans (Ev.of hf (nob_lt _)))
    clear hx HXX hb1
    by_cases hx200:200<x
    · go_wp2_with fail
      go_ret
      exact ⟨⟨1,rfl,by omega⟩,HEV.out.toN⟩
    by_cases hL30:30<L.length
    · go_wp2_with fail
      go_ret
      exact ⟨⟨1,rfl,by omega⟩,HEV.out.toN⟩
    by_cases hs30:30<s.length
    · go_wp2_with fail
      go_ret
      exact ⟨⟨1,rfl,by omega⟩,HEV.out.toN⟩
    have H200:=Lib.hid (show (L.flatMap (·.prs)).length≤200 by have:=HT.out;omega)
    go_wp2_with fail
    clear t0 t1 hf
    go_loopw [6,44] (fun v6 v44 wr2=>∃(k:Nat) (B:Nat→Prop) (o:List Elt) (ao:Option Addr) (co:Nat),v44= .int .i64 k∧v6= .slice ao o.length co∧k≤L.length∧AllEs w wr2 B L k o ao co) (fun _ v44 _=>L.length - (intOf v44).toNat)
    case atStart=>exact ⟨0,nob,[],none,0,rfl,rfl,Nat.zero_le _,⟨by simp,Vec.nil _ _ _,by simp,HEV.out⟩⟩
    case round=>
     obtain ⟨k,B,o,ao,co,rfl,rfl,hk,hst⟩:=hrel
     obtain ⟨wo,hwo⟩:∃x1,x1=wr:=⟨_,rfl⟩
     subst hwo
     have HST:=Lib.hid hst
     have HEV2:=Lib.hid hst.ev
     have hol:o.length≤200:=by
      have h:=congrArg List.length hst.ps
      rw[List.length_map] at h
      have:=take_es_le L k
      have:=H200.out
      omega
     clear hst
     by_cases hlt:k<L.length
     · obtain ⟨b1,off,ra,rc,rfl,_,h64,hpl,hp,e0,e1,e2⟩:=ent_at (HL.out _ _ HEV2.out) hlt
       have HLK:=Lib.hid (take_es_succ hlt)
       have hpl2:o.length+L[k].prs.length≤200:=by
        have h:=congrArg List.length HST.out.ps
        rw[List.length_map] at h
        have h2:=take_es_le L (k+1)
        rw[HLK.out,List.length_append] at h2
        have:=H200.out
        omega
       clear h64 hpl
       generalize L[k]=m at hp e0 e1 e2 HLK hpl2
       obtain ⟨mk,mq,mp⟩:=m
       simp only at hp e0 e1 e2 HLK hpl2
       obtain ⟨w3,hw3⟩:∃x1,x1=wo.alloc (.cells #[.int .i64 mk, .int .i64 mq, .slice ra mp.length rc] 40 (0,0)):=⟨_,rfl⟩
       have hf3:Fr nob wo w3:=by rw[hw3];exact (Fr.refl nob _).alloc _
       have hB3:=heap_new wo (.cells #[.int .i64 mk, .int .i64 mq, .slice ra mp.length rc] 40 (0,0))
       have k2:=cell_of hB3 2
       simp at k2
       obtain ⟨d,hd,hdv,hdr⟩:=elts_of (hp.frN rPr_ok hf3)
       have hdl:d.length=mp.length:=by rw[←hd];simp
       have HD:=Lib.hid (⟨hd,hdl⟩:_∧_)
       have HDR:=Lib.hid hdr
       have HSRC:=Lib.hid ((hdv.src (P:=Tryz.prog) Tryz.underlying24))
       rw[hdl,hw3] at HSRC
       have HVA:=Lib.hid (HST.out.all.frN hf3)
       rw[hw3] at HVA
       have HF3:=Lib.hid hf3
       have HW3:=Lib.hid hw3
       clear hd hdv hdr hdl hp hB3 hf3 hw3
       go_wp2_with (at_builtin;refine wpList_append_vec rfl _ _ _ _ rfl rfl HVA.out _ _ _ Tryz.underlying24 inf_Pair rfl _ mp.length _ rfl HSRC.out (by unfold maxLen;omega) (by omega) ?_)
       intro a6 c6 w6 hv6 hf6 _
       rw[←HW3.out] at hv6 hf6
       have HV6:=Lib.hid hv6
       have HF6:=Lib.hid hf6
       clear hv6 hf6
       have E3:=Lib.hid (Ev.of HF3.out HEV2.out.lt)
       have G3:=Lib.hid HF3.out
       go_wp2_with fail
       go_roundw
       case rel=>
        have e6:=Ev.grow HF6.out E3.out.lt
        refine ⟨k+1,_,o++d,a6,c6,by go_num,by rw[List.length_append,HD.out.2],by omega,⟨by rw[List.map_append,HST.out.ps,HD.out.1,HLK.out],?_,fun x hx=>?_,((HEV2.out.trans E3.out)).trans e6⟩⟩
        · rw[List.length_append,HD.out.2,List.flatMap_append];exact HV6.out
        · rcases List.mem_append.1 hx with hx | hx
          · exact ((HST.out.el x hx).ev E3.out).ev e6
          · exact ((HDR.out x hx).mono (fun j hj=>(Ev.of HF3.out HEV2.out.lt).frees j hj)).ev e6
       case measure=>simp[intOf];omega
     · obtain rfl:k=L.length:=by omega
       obtain ⟨al,hal⟩:∃al,al=o.map (·.p):=⟨_,rfl⟩
       have haln:al.length=o.length:=by rw[hal];simp
       have hread:SV rPr 2 (free wo nob) wo ao co al:=by
        rw[hal];exact elts_back HST.out.all HST.out.el _ (fun k hk=>⟨HEV2.out.lt k hk,id⟩) (fun k hk=>⟨hk.1,id⟩)
       obtain ⟨w3,hw3⟩:∃x1,x1=wo.alloc (.cells #[.slice ao o.length co] 24 (0,0)):=⟨_,rfl⟩
       obtain ⟨z3,hz3⟩:∃z,z=(wo).heap.size:=⟨_,rfl⟩
       have hf3:Fr nob wo w3:=by rw[hw3];exact (Fr.refl nob _).alloc _
       have hpl:=pl_lit wo nob (nob_lt _) ao co al hread (by unfold lim;omega)
       rw[haln,←hw3,←hz3] at hpl
       have hgr:=greatB_any _ w3 (some ⟨z3,0,none⟩) 1 [al] hpl (by simp[lim])
       have HF3:=Lib.hid hf3
       have HW3:=Lib.hid (⟨hw3,hz3⟩:_∧_)
       clear hw3 hz3 hf3 hpl hread haln hal
       go_wp2_with fail
       rw[←HW3.out.1,←HW3.out.2]
       have E4:=Lib.hid (Ev.of HF3.out HEV2.out.lt)
       have G4:=Lib.hid HF3.out
       refine hgr.mono ?_
       rintro e w6 ⟨⟨g,rfl,hg0,hg1⟩,hf6⟩
       clear hgr
       have E5:=Lib.hid (Ev.of hf6 E4.out.lt)
       have G5:=Lib.hid hf6
       go_wp2_with fail
       go_ret
       exact ⟨⟨_,rfl,fun _=>⟨by omega,H200.out,by omega⟩⟩,((HEV2.out.trans (E4.out.trans E5.out))).toN⟩
end Go.Proofs.YtibpkfnfcdbiiaaGreatDoor
