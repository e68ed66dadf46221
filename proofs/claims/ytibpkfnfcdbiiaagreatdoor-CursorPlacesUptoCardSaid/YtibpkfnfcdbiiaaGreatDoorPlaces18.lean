/- decklelaw18.CursorPlaces, walked. -/
import Derived.Test.YtibpkfnfcdbiiaaGreatDoorGreat13
import Derived.Test.YtibpkfnfcdbiiaaGreatDoorBunZ
namespace Go.Proofs.YtibpkfnfcdbiiaaGreatDoor
set_option linter.unusedSimpArgs false
open Go.RowKit
set_option linter.unusedVariables false
theorem validF_of {D:Dec} {s o p k:Nat} (hs:s≤281474976710656) (ho:o≤281474976710656) (hp:p<4294967296) (hf:findF D s o p=(k,0)):validF D (crcSeal (curBytes s o p))=((s,o,p),k,0):=by
 have h1:curOf (crcSeal (curBytes s o p))=(s,o,p):=by unfold curOf;rw[curRead_write hs ho hp]
 have h2:curErr (crcSeal (curBytes s o p))=0:=by unfold curErr;rw[curRead_write hs ho hp]
 unfold validF
 rw[h1,h2]
 simp only
 rw[hf]
 simp
theorem sealed_len {s o p:Nat} (hs:s≤281474976710656) (ho:o≤281474976710656):(crcSeal (curBytes s o p)).length≤1099511627776:=by
 have h1:=uv_len10 (x:=s) (by omega)
 have h2:=uv_len10 (x:=o) (by omega)
 rw[crcSeal_len]
 unfold curBytes
 simp[crcPut_len]
 omega
set_option maxRecDepth 100000 in
set_option maxHeartbeats 16000000 in
theorem cursorPlaces_card (w:World) (hL:Laid w) (hF:Frames w) (sa:Option Addr) (sc:Nat) (s:List Col) (hs:SV rCol 2 (old w) w sa sc s) (h0:s.length≤lim) (la:Option Addr) (lc:Nat) (l:List Ent) (hl:SV rEnt 3 (old w) w la lc l) (h1:l.length≤1048576) (htot:(l.flatMap (·.prs)).length≤1048576) (x:Int) (hx1: -2147483648≤x) (hx2:x≤2147483647):
 Calls Tryz.prog 4 #[.agg #[.slice sa s.length sc, .slice la l.length lc], .int .i32 x] w fun e w' =>e= .returned (.bool true)∧Fr nob w w' :=by
 obtain ⟨w1,hw1⟩:∃x1,x1=w.alloc (.cells #[.slice sa s.length sc, .slice la l.length lc] 36 (0,0)):=⟨_,rfl⟩
 obtain ⟨z,hz⟩:∃x1,x1=w.heap.size:=⟨_,rfl⟩
 have hf1:Fr nob w w1:=by rw[hw1];exact (Fr.refl nob w).alloc _
 have hb1:=heap_new w (.cells #[.slice sa s.length sc, .slice la l.length lc] 36 (0,0))
 rw[←hw1,←hz] at hb1
 have HOK:=Lib.hid (ents_ok hl)
 have hs' :=hs.within rCol_ok (fun k h=>h)
 have HS:=Lib.hid (SV.keep rCol_ok hs')
 clear hs'
 have hl' :=hl.within rEnt_ok (fun k h=>h)
 have HL:=Lib.hid (SV.keep rEnt_ok hl')
 clear hl'
 clear hs hl
 have HLA:=Lib.hid (hL.keep)
 have HFR:=Lib.hid (fun y (C:Nat→Prop) (e:Ev w nob y C)=>hF.fr e.fr id)
 have HLIM:=Lib.hid (⟨h0,h1,htot⟩:_∧_∧_)
 have QT:=Lib.hid (fun y (hy:Fr nob w1 y)=>hy.heap hb1 id)
 have HW:=Lib.hid (⟨hw1,hz⟩:_∧_)
 have E1:=Lib.hid (Ev.of hf1 (nob_lt _))
 have G1:=Lib.hid hf1
 clear hL hF h0 htot hw1 hz hf1 hb1
 go_enter Tryz.func4,Tryz.ntmps4
 go_wp2_with fail
 rw[←HW.out.1,←HW.out.2]
 refine (cursor_alive _).mono ?_
 rintro e u1 ⟨rfl,hfa⟩
 have E2:=Lib.hid (Ev.of hfa E1.out.lt)
 have G2:=Lib.hid hfa
 clear hfa
 have t0:=cell_of (QT.out _ G2.out) 0
 have t1:=cell_of (QT.out _ G2.out) 1
 simp at t0 t1
 go_wp2_with fail
 refine (great13_any _ u1 sa sc s la lc l (HL.out _ _ (E1.out.trans E2.out)) HLIM.out.1 HLIM.out.2.1 HLIM.out.2.2 (fun k h=>h.1)).mono ?_
 rintro e u3 ⟨⟨g,rfl,hg⟩,hfr⟩
 have E3:=Lib.hid (Ev.of hfr E2.out.lt)
 have G3:=Lib.hid hfr
 clear hfr
 clear t0 t1
 by_cases hg0:0<g
 · go_wp2_with fail
   refine (cursor_alive _).mono ?_
   rintro e u4 ⟨rfl,hfr⟩
   have E4:=Lib.hid (Ev.of hfr E3.out.lt)
   have G4:=Lib.hid hfr
   clear hfr
   go_wp2_with fail
   go_ret
   exact ⟨rfl,((E1.out.trans (E2.out.trans (E3.out.trans E4.out)))).toN⟩
 obtain ⟨hL30,hT,hs30⟩:=hg hg0
 clear hg
 have t0:=cell_of (QT.out _ (G2.out.andN G3.out)) 0
 have t1:=cell_of (QT.out _ (G2.out.andN G3.out)) 1
 simp at t0 t1
 have hen:=encode_any _ u3 sa sc s (HS.out _ _ (E1.out.trans (E2.out.trans E3.out))) la lc l (HL.out _ _ (E1.out.trans (E2.out.trans E3.out))) (fun k h=>h.1) (HLA.out _ _ (E1.out.trans (E2.out.trans E3.out))) (HFR.out _ _ (E1.out.trans (E2.out.trans E3.out))) HLIM.out.1 (by unfold lim;omega)
 obtain ⟨Y,hY⟩:∃Y,Y=encF s l:=⟨_,rfl⟩
 rw[←hY] at hen
 have HY:=Lib.hid hY
 have hbl:=encF_len s l
 rw[←hY] at hbl
 clear hY
 go_wp2_with fail
 refine (hen).mono ?_
 rintro e u5 ⟨a2,c2,rfl,hfr,hv2⟩
 have E5:=Lib.hid (Ev.of hfr E3.out.lt)
 have G5:=Lib.hid hfr
 clear hfr
 clear hen t0 t1
 obtain ⟨ey,ny,b,ty⟩:=Y
 simp only at hv2 hbl ⊢
 have hbl:b.length≤1099511627776:=by omega
 have HB2:=Lib.hid (BV.keep (hv2.new E3.out.lt))
 clear hv2
 have hm:=marks_any _ u5 (fun k h=>h.1) a2 c2 b (HB2.out _ _ (Ev.refl E5.out.lt)) hbl (HLA.out _ _ (E1.out.trans (E2.out.trans (E3.out.trans E5.out)))) (HFR.out _ _ (E1.out.trans (E2.out.trans (E3.out.trans E5.out))))
 obtain ⟨D,hD⟩:∃D,D=decF b:=⟨_,rfl⟩
 rw[←hD] at hm
 have HD:=Lib.hid hD
 clear hD
 go_wp2_with fail
 refine (hm).mono ?_
 rintro e u6 ⟨ma,mc,rfl,hfr,hvm⟩
 have E6:=Lib.hid (Ev.of hfr E5.out.lt)
 have G6:=Lib.hid hfr
 clear hfr
 clear hm
 by_cases he0:ey=0
 case neg=>
  have d1:=intne he0
  clear hvm
  go_wp2_with fail
  go_ret
  exact ⟨by simp,((E1.out.trans (E2.out.trans (E3.out.trans (E5.out.trans E6.out))))).toN⟩
 case pos=>
  subst he0
  rw[show ((0:Nat):Int)=0 from rfl]
  have hz0:(encF s l).1=0:=by rw[←HY.out]
  have hby:(encF s l).2.2.1=b:=by rw[←HY.out]
  have hdec:=decF_backM HOK.out hz0
  have HFM:=Lib.hid (fun k (hk:k≤l.length)=>(⟨find_mark HOK.out hz0 hk,fun x h0 h1=>find_beside (b:=x) HOK.out hz0 hk h0 h1,mark_ok HOK.out hz0 k,offF_le hz0 hk⟩:_∧(∀x:Int,x≠0→ -2147483648≤x∧x≤2147483647→_)∧_∧_))
  have HMG:=Lib.hid (fun k (hk:k≤l.length)=>marks_get hz0 hk)
  have hml:=marksOf_len s l
  rw[hby] at hdec HFM
  rw[←HD.out] at HFM
  obtain rfl:D=⟨s,l,marksOf s l,b.length,0⟩:=HD.out.trans hdec
  simp only at hvm ⊢
  rw[show ((0:Nat):Int)=0 from rfl]
  obtain ⟨ms,hms⟩:∃x,x=marksOf s l:=⟨_,rfl⟩
  rw[←hms] at HMG hml hvm HFM HD ⊢
  have HVM:=Lib.hid (SV.keep rMark_ok (hvm.new rMark_ok E5.out.lt))
  clear hvm
  have hml1:ms.length≤l.length+1:=by omega
  have hml2:l.length+1≤ms.length:=by omega
  clear hms hdec hml
  have HEV:=Lib.hid (E1.out.trans (E2.out.trans (E3.out.trans (E5.out.trans E6.out))))
  have HB:=Lib.hid (fun y (hy:Fr nob u6 y)=>HB2.out _ _ (E6.out.trans (Ev.of hy (nob_lt _))))
  go_wp2_with fail
  go_loopw [56] (fun v56 wr=>∃k:Nat,v56= .int .i64 k∧k≤ms.length∧Fr nob u6 wr) (fun v56 _=>ms.length - (intOf v56).toNat)
  case atStart=>exact ⟨0,rfl,Nat.zero_le _,Fr.refl _ _⟩
  case round=>
   obtain ⟨k,rfl,hk,hfr⟩:=hrel
   obtain ⟨wo,rfl⟩:∃x1,x1=wr:=⟨_,rfl⟩
   have HEW:=Lib.hid (HEV.out.trans (Ev.of hfr (nob_lt _)))
   have HFK:=Lib.hid hfr
   have hvm:=HVM.out _ _ (Ev.of hfr (nob_lt _))
   clear hfr
   have HBW:=Lib.hid (fun y (hy:Fr nob wo y)=>HB.out y (HFK.out.andN hy))
   have HFI:=Lib.hid (fun y (hy:Fr nob wo y) (q o p:Int) (i e:Nat) (h:findF ⟨s,l,ms,b.length,0⟩ q o p=(i,e))=>(show Calls Tryz.prog 27 #[.slice a2 b.length c2, .agg #[.int .i64 q, .int .i64 o, .int .u32 p]] y fun en w' =>en= .returned (.tuple #[.int .i64 (i:Nat), .int .i64 (e:Nat)])∧Fr nob y w' by
    have h2:=find_any _ y (fun k h=>h.1) a2 c2 b (HBW.out y hy) hbl (HLA.out _ _ (HEW.out.trans (Ev.of hy (nob_lt _)))) (HFR.out _ _ (HEW.out.trans (Ev.of hy (nob_lt _)))) q o p
    rw[←HD.out,h] at h2
    exact h2))
   by_cases hlt:k<ms.length
   · have hkl:k≤l.length:=by omega
     obtain ⟨b1,off,rfl,_,_,c0,c1,c2'⟩:=mark_at hvm hlt
     have hmk:ms[k]=markN s l k:=by have h:=HMG.out k hkl;rw[List.getElem?_eq_getElem hlt] at h;exact Option.some.inj h
     rw[hmk] at c0 c1 c2'
     obtain ⟨g1,g2,g3,g4⟩:=HFM.out k hkl
     have g5:(markN s l k).o=(offF s l k:Nat):=rfl
     have g6:(markN s l k).p<4294967296:=schemaPrint_lt s
     generalize markN s l k=m at*
     obtain ⟨mq,mo,p⟩:=m
     simp only at*
     obtain ⟨q,rfl⟩:∃q:Nat,mq=q:=⟨mq.toNat,by omega⟩
     obtain ⟨o,rfl⟩:∃o:Nat,mo=o:=⟨mo.toNat,by omega⟩
     have ho48:o≤281474976710656:=by omega
     have hq48:q≤281474976710656:=by omega
     have hval:=validF_of hq48 ho48 g6 g1
     have hBl:=sealed_len (p:=p) hq48 ho48
     have hwr:=fun y=>curwrite_any q o p hq48 ho48 g6 y
     unfold curVal at hwr
     obtain ⟨B,hB⟩:∃B,B=crcSeal (curBytes q o p):=⟨_,rfl⟩
     rw[←hB] at hval hBl hwr
     have HG:=Lib.hid (⟨g1,g2⟩:_∧_)
     clear hB g1 g2 g3 g4 g5 hmk hvm
     obtain ⟨w3,hw3⟩:∃x1,x1=wo.alloc (.cells #[.int .i64 q, .int .i64 o, .int .u32 p] 53 (0,0)):=⟨_,rfl⟩
     obtain ⟨z3,hz3⟩:∃x1,x1=wo.heap.size:=⟨_,rfl⟩
     have hf3:Fr nob wo w3:=by rw[hw3];exact (Fr.refl nob _).alloc _
     have hb3:=heap_new wo (.cells #[.int .i64 q, .int .i64 o, .int .u32 p] 53 (0,0))
     rw[←hw3,←hz3] at hb3
     have Q3:=Lib.hid (fun y (hy:Fr nob w3 y)=>hy.heap hb3 id)
     have HW3:=Lib.hid (⟨hw3,hz3⟩:_∧_)
     have E7:=Lib.hid (Ev.of hf3 HEW.out.lt)
     have G7:=Lib.hid hf3
     have hwr:=hwr w3
     clear hw3 hz3 hb3 hf3
     go_wp2_with fail
     rw[←HW3.out.1,←HW3.out.2]
     refine hwr.mono ?_
     rintro e u4 ⟨a4,c4,rfl,hf4,hv4⟩
     have E8:=Lib.hid (Ev.of hf4 E7.out.lt)
     have G8:=Lib.hid hf4
     have HB4:=Lib.hid (BV.keep (hv4.new E7.out.lt))
     clear hv4
     clear hwr hf4 c0 c1 c2'
     have hvd:=curvalid_any _ _ u4 (fun k h=>h.1) a2 c2 b (HBW.out _ (G7.out.andN G8.out)) hbl a4 c4 B (HB4.out _ _ (Ev.refl E8.out.lt)) hBl (HLA.out _ _ (HEW.out.trans (E7.out.trans E8.out))) (HFR.out _ _ (HEW.out.trans (E7.out.trans E8.out)))
     rw[←HD.out,hval] at hvd
     go_wp2_with fail
     refine hvd.mono ?_
     rintro e u5 ⟨rfl,hf5⟩
     have E9:=Lib.hid (Ev.of hf5 E8.out.lt)
     have G9:=Lib.hid hf5
     clear hvd hval hf5
     obtain ⟨w6,hw6⟩:∃x1,x1=u5.alloc (.cells #[.int .i64 q, .int .i64 o, .int .u32 p] 53 (0,0)):=⟨_,rfl⟩
     obtain ⟨z6,hz6⟩:∃x1,x1=u5.heap.size:=⟨_,rfl⟩
     have hf6:Fr nob u5 w6:=by rw[hw6];exact (Fr.refl nob _).alloc _
     have hb6:=heap_new u5 (.cells #[.int .i64 q, .int .i64 o, .int .u32 p] 53 (0,0))
     rw[←hw6,←hz6] at hb6
     have Q6:=Lib.hid (fun y (hy:Fr nob w6 y)=>hy.heap hb6 id)
     have HW6:=Lib.hid (⟨hw6,hz6⟩:_∧_)
     have h36:=Q3.out _ (((G8.out.andN G9.out)).andN hf6)
     rw[hw6] at h36
     have k0:=cell_of h36 0
     have k1:=cell_of h36 1
     have k2:=cell_of h36 2
     simp at k0 k1 k2
     have E10:=Lib.hid (Ev.of hf6 E9.out.lt)
     have G10:=Lib.hid hf6
     have hfi:=HFI.out _ (G7.out.andN (G8.out.andN (G9.out.andN G10.out))) q o p k 0 HG.out.1
     clear hw6 hz6 hb6 hf6 h36
     go_wp2_with fail
     rw[←HW6.out.1,←HW6.out.2]
     refine hfi.mono ?_
     rintro e u7 ⟨rfl,hf7⟩
     have E11:=Lib.hid (Ev.of hf7 E10.out.lt)
     have G11:=Lib.hid hf7
     clear hfi hf7 k0 k1 k2
     have k0:=cell_of (Q3.out _ (G8.out.andN (G9.out.andN (G10.out.andN G11.out)))) 0
     have k1:=cell_of (Q3.out _ (G8.out.andN (G9.out.andN (G10.out.andN G11.out)))) 1
     have k2:=cell_of (Q3.out _ (G8.out.andN (G9.out.andN (G10.out.andN G11.out)))) 2
     have j0:=cell_of (Q6.out _ G11.out) 0
     have j1:=cell_of (Q6.out _ G11.out) 1
     have j2:=cell_of (Q6.out _ G11.out) 2
     simp at k0 k1 k2 j0 j1 j2
     have qe:=curI_neq q o p q o p
     rw[decide_eq_true (show ((q:Nat):Int)=q∧((o:Nat):Int)=o∧((p:Nat):Int)=p from ⟨rfl,rfl,rfl⟩)] at qe
     simp only[Bool.not_true] at qe
     by_cases hx0:x=0
     · subst hx0
       go_wp2_with fail
       go_roundw
       case rel=>exact ⟨k+1,by go_num,by omega,HFK.out.andN (G7.out.andN (G8.out.andN (G9.out.andN (G10.out.andN G11.out))))⟩
       case measure=>simp[intOf];omega
     · obtain ⟨g1,g2,g3⟩:=HG.out.2 x hx0 ⟨hx1,hx2⟩
       have hv1:IntKind.u32.wrap x=x%4294967296:=IntKind.wrap_u32 _
       have hv2:IntKind.u32.wrap ((p:Int)+x%4294967296)=((p:Int)+x%4294967296)%4294967296:=IntKind.wrap_u32 _
       have hv3:IntKind.i64.wrap x=x:=IntWalk.i64_in _ (by omega)
       have hv4:IntKind.i64.wrap ((q:Int)+x)=q+x:=IntWalk.i64_in _ (by omega)
       have hv5:IntKind.i64.wrap ((o:Int)+1)=o+1:=IntWalk.i64_in _ (by omega)
       have HFN:=Lib.hid (⟨g1,g2,g3⟩:_∧_∧_)
       have dx:=beq_eq_false_iff_ne.2 hx0
       clear g1 g2 g3
       go_wp2_with fail
       obtain ⟨w8,hw8⟩:∃x1,x1=u7.alloc (.cells #[.int .i64 q, .int .i64 o, .int .u32 (((p:Int)+x)%4294967296), .int .i64 ((q:Int)+x), .int .i64 o, .int .u32 p] 53 (0,0)):=⟨_,rfl⟩
       obtain ⟨z8,hz8⟩:∃x1,x1=u7.heap.size:=⟨_,rfl⟩
       have hf8:Fr nob u7 w8:=by rw[hw8];exact (Fr.refl nob _).alloc _
       have hb8:=heap_new u7 (.cells #[.int .i64 q, .int .i64 o, .int .u32 (((p:Int)+x)%4294967296), .int .i64 ((q:Int)+x), .int .i64 o, .int .u32 p] 53 (0,0))
       rw[←hw8,←hz8] at hb8 ⊢
       have Q8:=Lib.hid (fun y (hy:Fr nob w8 y)=>hy.heap hb8 id)
       have E12:=Lib.hid (Ev.of hf8 E11.out.lt)
       have G12:=Lib.hid hf8
       clear hw8 hz8 hb8 hf8 k0 k1 k2 j0 j1 j2 qe
       go_loopw [128] (fun v128 wr2=>∃j:Nat,v128= .int .i64 j∧j≤2∧Fr nob w8 wr2) (fun v128 _=>2 - (intOf v128).toNat)
       case atStart=>exact ⟨0,rfl,by omega,Fr.refl _ _⟩
       case round=>
        obtain ⟨j,rfl,hj,hfr⟩:=hrel
        obtain ⟨wi,rfl⟩:∃x1,x1=wr:=⟨_,rfl⟩
        have HFJ:=Lib.hid hfr
        have hb8' :=Q8.out _ hfr
        clear hfr
        have E13:=Lib.hid (Ev.of HFJ.out E12.out.lt)
        have G13:=Lib.hid HFJ.out
        rcases (by omega:j=0∨j=1∨j=2) with rfl | rfl | rfl
        · have c0:=cell_of hb8' 0
          have c1:=cell_of hb8' 1
          have c2' :=cell_of hb8' 2
          simp at c0 c1 c2'
          obtain ⟨w9,hw9⟩:∃x1,x1=wi.alloc (.cells #[.int .i64 (q:Int), .int .i64 (o:Int), .int .u32 (((p:Int)+x)%4294967296)] 53 (0,0)):=⟨_,rfl⟩
          have hf9:Fr nob wi w9:=by rw[hw9];exact (Fr.refl nob _).alloc _
          have E14:=Lib.hid (Ev.of hf9 E13.out.lt)
          have G14:=Lib.hid hf9
          have hfi:=HFI.out _ (G7.out.andN (G8.out.andN (G9.out.andN (G10.out.andN (G11.out.andN (G12.out.andN (G13.out.andN G14.out))))))) (q:Int) (o:Int) (((p:Int)+x)%4294967296) 0 16 HFN.out.1
          clear hf9 hb8'
          go_wp2_with fail
          rw[←hw9]
          refine hfi.mono ?_
          rintro e u10 ⟨rfl,hf10⟩
          have E15:=Lib.hid (Ev.of hf10 E14.out.lt)
          have G15:=Lib.hid hf10
          clear hfi hf10 c0 c1 c2' hw9
          go_wp2_with fail
          go_roundw
          case rel=>exact ⟨1,by go_num,by omega,HFJ.out.andN (G14.out.andN G15.out)⟩
          case measure=>simp[intOf]
        · have c0:=cell_of hb8' 3
          have c1:=cell_of hb8' 4
          have c2' :=cell_of hb8' 5
          simp at c0 c1 c2'
          obtain ⟨w9,hw9⟩:∃x1,x1=wi.alloc (.cells #[.int .i64 ((q:Int)+x), .int .i64 (o:Int), .int .u32 (p:Int)] 53 (0,0)):=⟨_,rfl⟩
          have hf9:Fr nob wi w9:=by rw[hw9];exact (Fr.refl nob _).alloc _
          have E16:=Lib.hid (Ev.of hf9 E13.out.lt)
          have G16:=Lib.hid hf9
          have hfi:=HFI.out _ (G7.out.andN (G8.out.andN (G9.out.andN (G10.out.andN (G11.out.andN (G12.out.andN (G13.out.andN G16.out))))))) ((q:Int)+x) (o:Int) (p:Int) 0 16 HFN.out.2.1
          clear hf9 hb8'
          go_wp2_with fail
          rw[←hw9]
          refine hfi.mono ?_
          rintro e u10 ⟨rfl,hf10⟩
          have E17:=Lib.hid (Ev.of hf10 E16.out.lt)
          have G17:=Lib.hid hf10
          clear hfi hf10 c0 c1 c2' hw9
          go_wp2_with fail
          go_roundw
          case rel=>exact ⟨2,by go_num,by omega,HFJ.out.andN (G16.out.andN G17.out)⟩
          case measure=>simp[intOf]
        · have k0:=cell_of (Q3.out _ (G8.out.andN (G9.out.andN (G10.out.andN (G11.out.andN (G12.out.andN G13.out)))))) 0
          have k1:=cell_of (Q3.out _ (G8.out.andN (G9.out.andN (G10.out.andN (G11.out.andN (G12.out.andN G13.out)))))) 1
          have k2:=cell_of (Q3.out _ (G8.out.andN (G9.out.andN (G10.out.andN (G11.out.andN (G12.out.andN G13.out)))))) 2
          simp at k0 k1 k2
          have hfi:=HFI.out _ (G7.out.andN (G8.out.andN (G9.out.andN (G10.out.andN (G11.out.andN (G12.out.andN G13.out)))))) (q:Int) ((o:Int)+1) (p:Int) 0 16 HFN.out.2.2
          clear hb8'
          go_wp2_with fail
          refine hfi.mono ?_
          rintro e u10 ⟨rfl,hf10⟩
          have E18:=Lib.hid (Ev.of hf10 E13.out.lt)
          have G18:=Lib.hid hf10
          clear hfi hf10 k0 k1 k2
          go_wp2_with fail
          go_roundw
          case rel=>exact ⟨k+1,by go_num,by omega,HFK.out.andN (G7.out.andN (G8.out.andN (G9.out.andN (G10.out.andN (G11.out.andN (G12.out.andN (G13.out.andN G18.out)))))))⟩
          case measure=>simp[intOf];omega
   · obtain rfl:k=ms.length:=by omega
     go_wp2_with fail
     go_ret
     exact ⟨rfl,(HEW.out).toN⟩
end Go.Proofs.YtibpkfnfcdbiiaaGreatDoor
