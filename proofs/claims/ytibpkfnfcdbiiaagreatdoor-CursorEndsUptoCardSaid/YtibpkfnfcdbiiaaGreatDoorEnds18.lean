/- decklelaw18.CursorEnds, walked. -/
import Derived.Test.YtibpkfnfcdbiiaaGreatDoorGreat13
import Derived.Test.YtibpkfnfcdbiiaaGreatDoorBunZ
namespace Go.Proofs.YtibpkfnfcdbiiaaGreatDoor
set_option linter.unusedSimpArgs false
open Go.RowKit
set_option linter.unusedVariables false
set_option maxRecDepth 100000 in
set_option maxHeartbeats 16000000 in
theorem cursorEnds_card (w:World) (hL:Laid w) (hF:Frames w) (sa:Option Addr) (sc:Nat) (s:List Col) (hs:SV rCol 2 (old w) w sa sc s) (h0:s.length≤lim) (la:Option Addr) (lc:Nat) (l:List Ent) (hl:SV rEnt 3 (old w) w la lc l) (h1:l.length≤1048576) (htot:(l.flatMap (·.prs)).length≤1048576):
 Calls Tryz.prog 5 #[.agg #[.slice sa s.length sc, .slice la l.length lc]] w fun e w' =>e= .returned (.bool true)∧Fr nob w w' :=by
 obtain ⟨w1,hw1⟩:∃x1,x1=w.alloc (.cells #[.slice sa s.length sc, .slice la l.length lc] 36 (0,0)):=⟨_,rfl⟩
 obtain ⟨z,hz⟩:∃x1,x1=w.heap.size:=⟨_,rfl⟩
 have hf1:Fr nob w w1:=by rw[hw1];exact (Fr.refl nob w).alloc _
 have hb1:=heap_new w (.cells #[.slice sa s.length sc, .slice la l.length lc] 36 (0,0))
 rw[←hw1,←hz] at hb1
 have HOK:=Lib.hid (ents_ok hl)
 have hs' :=hs.within rCol_ok (fun k h=>h)
 have HS:=Lib.hid (SV.keep rCol_ok hs')
 clear hs'
 have hl' :=hl.within rEnt_ok (fun k h=>h)
 have HL:=Lib.hid (SV.keep rEnt_ok hl')
 clear hl'
 clear hs hl
 have HLA:=Lib.hid (hL.keep)
 have HFR:=Lib.hid (fun y (C:Nat→Prop) (e:Ev w nob y C)=>hF.fr e.fr id)
 have HLIM:=Lib.hid (⟨h0,h1,htot⟩:_∧_∧_)
 have QT:=Lib.hid (fun y (hy:Fr nob w1 y)=>hy.heap hb1 id)
 have HW:=Lib.hid (⟨hw1,hz⟩:_∧_)
 have E1:=Lib.hid (Ev.of hf1 (nob_lt _))
 have G1:=Lib.hid hf1
 clear hL hF h0 htot hw1 hz hf1 hb1
 go_enter Tryz.func5,Tryz.ntmps5
 go_wp2_with fail
 rw[←HW.out.1,←HW.out.2]
 refine (cursor_alive _).mono ?_
 rintro e u1 ⟨rfl,hfa⟩
 have E2:=Lib.hid (Ev.of hfa E1.out.lt)
 have G2:=Lib.hid hfa
 clear hfa
 have t0:=cell_of (QT.out _ G2.out) 0
 have t1:=cell_of (QT.out _ G2.out) 1
 simp at t0 t1
 go_wp2_with fail
 refine (great13_any _ u1 sa sc s la lc l (HL.out _ _ (E1.out.trans E2.out)) HLIM.out.1 HLIM.out.2.1 HLIM.out.2.2 (fun k h=>h.1)).mono ?_
 rintro e u3 ⟨⟨g,rfl,hg⟩,hfr⟩
 have E3:=Lib.hid (Ev.of hfr E2.out.lt)
 have G3:=Lib.hid hfr
 clear hfr
 clear t0 t1
 by_cases hg0:0<g
 · go_wp2_with fail
   refine (cursor_alive _).mono ?_
   rintro e u4 ⟨rfl,hfr⟩
   have E4:=Lib.hid (Ev.of hfr E3.out.lt)
   have G4:=Lib.hid hfr
   clear hfr
   go_wp2_with fail
   go_ret
   exact ⟨rfl,((E1.out.trans (E2.out.trans (E3.out.trans E4.out)))).toN⟩
 obtain ⟨hL30,hT,hs30⟩:=hg hg0
 clear hg
 have t0:=cell_of (QT.out _ (G2.out.andN G3.out)) 0
 have t1:=cell_of (QT.out _ (G2.out.andN G3.out)) 1
 simp at t0 t1
 have hen:=encode_any _ u3 sa sc s (HS.out _ _ (E1.out.trans (E2.out.trans E3.out))) la lc l (HL.out _ _ (E1.out.trans (E2.out.trans E3.out))) (fun k h=>h.1) (HLA.out _ _ (E1.out.trans (E2.out.trans E3.out))) (HFR.out _ _ (E1.out.trans (E2.out.trans E3.out))) HLIM.out.1 (by unfold lim;omega)
 obtain ⟨Y,hY⟩:∃Y,Y=encF s l:=⟨_,rfl⟩
 rw[←hY] at hen
 have HY:=Lib.hid hY
 clear hY
 go_wp2_with fail
 refine (hen).mono ?_
 rintro e u5 ⟨a2,c2,rfl,hfr,hv2⟩
 have E5:=Lib.hid (Ev.of hfr E3.out.lt)
 have G5:=Lib.hid hfr
 clear hfr
 clear hen t0 t1
 obtain ⟨ey,ny,b,ty⟩:=Y
 simp only at hv2 ⊢
 have HB2:=Lib.hid (BV.keep (hv2.new E3.out.lt))
 clear hv2
 by_cases he0:ey=0
 case neg=>
  have d1:=intne he0
  go_wp2_with fail
  go_ret
  exact ⟨rfl,((E1.out.trans (E2.out.trans (E3.out.trans E5.out)))).toN⟩
 case pos=>
  subst he0
  rw[show ((0:Nat):Int)=0 from rfl]
  have hz0:(encF s l).1=0:=by rw[←HY.out]
  have hby:(encF s l).2.2.1=b:=by rw[←HY.out]
  have hbl:b.length≤1099511627776:=by
   have:=encF_len s l
   rw[hby] at this
   omega
  have hdec:=decF_backM HOK.out hz0
  have hf0:=find_mark HOK.out hz0 (Nat.zero_le l.length)
  have hfn:=find_mark HOK.out hz0 (Nat.le_refl l.length)
  have hm0:=marks_get hz0 (Nat.zero_le _)
  have hmn:=marks_get hz0 (Nat.le_refl _)
  have hml:=marksOf_len s l
  have hoo:l.length≠0→(markN s l 0).o≠(markN s l l.length).o:=fun hn e=>by
   have h2:=offF_lt hz0 (i:=0) l.length (by omega) (Nat.le_refl _)
   have h3:((offF s l 0:Nat):Int)=(offF s l l.length:Nat):=e
   omega
  have hoe:=mark_end s l
  have hqz:(markN s l 0).q=0:=by rw[mark_zero hz0]
  have hez:l.length=0→markN s l l.length=markN s l 0:=fun h=>by rw[h]
  rw[hby] at hdec hf0 hfn hoe
  obtain ⟨ms,hms⟩:∃x,x=marksOf s l:=⟨_,rfl⟩
  rw[←hms] at hdec hm0 hmn hml
  generalize markN s l 0=m0 at hf0 hm0 hoo hqz hez
  generalize markN s l l.length=mn at hfn hmn hoo hoe hez
  have HD:=Lib.hid (⟨by rw[hdec],by rw[hdec],hm0,by rw[hml];exact hmn⟩:(decF b).marks=ms∧(decF b).err=0∧ms[0]? =some m0∧ms[ms.length - 1]? =some mn)
  have hmp:0<ms.length:=by omega
  have hml2:ms.length≤1099511627776:=by omega
  have HFI:=Lib.hid (⟨hf0,hfn⟩:_∧_)
  have HMM:=Lib.hid (⟨hoo,hez⟩:_∧_)
  clear hdec hf0 hfn hm0 hmn hml hms hz0 hby hoo hez
  obtain ⟨mq,mo,mp⟩:=m0
  obtain ⟨nq,no,np⟩:=mn
  simp only at hqz hoe
  have HOE:=Lib.hid hoe
  clear hoe
  subst hqz
  have hcs:=curstart_any _ u5 (fun k h=>h.1) a2 c2 b (HB2.out _ _ (Ev.refl E5.out.lt)) hbl (HLA.out _ _ (E1.out.trans (E2.out.trans (E3.out.trans E5.out)))) (HFR.out _ _ (E1.out.trans (E2.out.trans (E3.out.trans E5.out)))) ms HD.out.1 _ HD.out.2.1 hmp hml2 HD.out.2.2.1
  go_wp2_with fail
  refine (hcs).mono ?_
  rintro e u6 ⟨rfl,hfr⟩
  have E6:=Lib.hid (Ev.of hfr E5.out.lt)
  have G6:=Lib.hid hfr
  clear hfr
  clear hcs
  obtain ⟨w5,hw5⟩:∃x,x=u6.alloc (.cells #[.int .i64 0, .int .i64 mo, .int .u32 mp] 53 (0,0)):=⟨_,rfl⟩
  obtain ⟨z5,hz5⟩:∃x,x=(u6).heap.size:=⟨_,rfl⟩
  have hf5:Fr nob u6 w5:=by rw[hw5];exact (Fr.refl nob _).alloc _
  have hb5:=heap_new u6 (.cells #[.int .i64 0, .int .i64 mo, .int .u32 mp] 53 (0,0))
  rw[←hw5,←hz5] at hb5
  have HW5:=Lib.hid (⟨hw5,hz5⟩:_∧_)
  have Q5:=Lib.hid (fun y (hy:Fr nob w5 y)=>hy.heap hb5 id)
  clear hw5 hz5 hb5
  have E7:=Lib.hid (Ev.of hf5 E6.out.lt)
  have G7:=Lib.hid hf5
  clear hf5
  have hcs:=curlast_any _ w5 (fun k h=>h.1) a2 c2 b (HB2.out _ _ (E6.out.trans E7.out)) hbl (HLA.out _ _ (E1.out.trans (E2.out.trans (E3.out.trans (E5.out.trans (E6.out.trans E7.out)))))) (HFR.out _ _ (E1.out.trans (E2.out.trans (E3.out.trans (E5.out.trans (E6.out.trans E7.out)))))) ms HD.out.1 _ HD.out.2.1 hmp hml2 HD.out.2.2.2
  go_wp2_with fail
  rw[←HW5.out.1,←HW5.out.2]
  refine hcs.mono ?_
  rintro e u6 ⟨rfl,hf6⟩
  have E8:=Lib.hid (Ev.of hf6 E7.out.lt)
  have G8:=Lib.hid hf6
  clear hcs hf6
  obtain ⟨w7,hw7⟩:∃x,x=u6.alloc (.cells #[.int .i64 nq, .int .i64 no, .int .u32 np] 53 (0,0)):=⟨_,rfl⟩
  obtain ⟨z7,hz7⟩:∃x,x=(u6).heap.size:=⟨_,rfl⟩
  have hf7:Fr nob u6 w7:=by rw[hw7];exact (Fr.refl nob _).alloc _
  have hb7:=heap_new u6 (.cells #[.int .i64 nq, .int .i64 no, .int .u32 np] 53 (0,0))
  rw[←hw7,←hz7] at hb7
  have HW7:=Lib.hid (⟨hw7,hz7⟩:_∧_)
  have Q7:=Lib.hid (fun y (hy:Fr nob w7 y)=>hy.heap hb7 id)
  have hb57:=Q5.out _ ((G8.out).andN hf7)
  rw[hw7] at hb57
  have k0:=cell_of hb57 0
  have k1:=cell_of hb57 1
  have k2:=cell_of hb57 2
  simp at k0 k1 k2
  clear hw7 hz7 hb7 hb57
  have E9:=Lib.hid (Ev.of hf7 E8.out.lt)
  have G9:=Lib.hid hf7
  clear hf7
  have hfi:=find_any _ w7 (fun k h=>h.1) a2 c2 b (HB2.out _ _ (E6.out.trans (E7.out.trans (E8.out.trans E9.out)))) hbl (HLA.out _ _ (E1.out.trans (E2.out.trans (E3.out.trans (E5.out.trans (E6.out.trans (E7.out.trans (E8.out.trans E9.out)))))))) (HFR.out _ _ (E1.out.trans (E2.out.trans (E3.out.trans (E5.out.trans (E6.out.trans (E7.out.trans (E8.out.trans E9.out)))))))) 0 mo mp
  rw[show findF (decF b) 0 mo mp=(0,0) from HFI.out.1] at hfi
  go_wp2_with fail
  rw[←HW7.out.1,←HW7.out.2]
  refine hfi.mono ?_
  rintro e u8 ⟨rfl,hf8⟩
  have E10:=Lib.hid (Ev.of hf8 E9.out.lt)
  have G10:=Lib.hid hf8
  clear hfi hf8 k0 k1 k2
  have k0:=cell_of (Q7.out _ G10.out) 0
  have k1:=cell_of (Q7.out _ G10.out) 1
  have k2:=cell_of (Q7.out _ G10.out) 2
  simp at k0 k1 k2
  have hfi:=find_any _ u8 (fun k h=>h.1) a2 c2 b (HB2.out _ _ (E6.out.trans (E7.out.trans (E8.out.trans (E9.out.trans E10.out))))) hbl (HLA.out _ _ (E1.out.trans (E2.out.trans (E3.out.trans (E5.out.trans (E6.out.trans (E7.out.trans (E8.out.trans (E9.out.trans E10.out))))))))) (HFR.out _ _ (E1.out.trans (E2.out.trans (E3.out.trans (E5.out.trans (E6.out.trans (E7.out.trans (E8.out.trans (E9.out.trans E10.out))))))))) nq no np
  rw[show findF (decF b) nq no np=(l.length,0) from HFI.out.2] at hfi
  go_wp2_with fail
  refine hfi.mono ?_
  rintro e u9 ⟨rfl,hf9⟩
  have E11:=Lib.hid (Ev.of hf9 E10.out.lt)
  have G11:=Lib.hid hf9
  clear hfi hf9 k0 k1 k2
  have t1:∀y,Fr nob u9 y→y.cell? ⟨z,1,none⟩=some (.slice la l.length lc):=fun y hy=>by have:=cell_of (QT.out _ (((G2.out.andN (G3.out.andN (G5.out.andN (G6.out.andN (G7.out.andN (G8.out.andN (G9.out.andN (G10.out.andN G11.out))))))))).andN hy)) 1;simpa using this
  have k0:∀y,Fr nob u9 y→y.cell? ⟨z7,0,none⟩=some (.int .i64 nq):=fun y hy=>by have:=cell_of (Q7.out _ (((G10.out.andN G11.out)).andN hy)) 0;simpa using this
  have k1:∀y,Fr nob u9 y→y.cell? ⟨z7,1,none⟩=some (.int .i64 no):=fun y hy=>by have:=cell_of (Q7.out _ (((G10.out.andN G11.out)).andN hy)) 1;simpa using this
  have k2:∀y,Fr nob u9 y→y.cell? ⟨z7,2,none⟩=some (.int .u32 np):=fun y hy=>by have:=cell_of (Q7.out _ (((G10.out.andN G11.out)).andN hy)) 2;simpa using this
  have j0:∀y,Fr nob u9 y→y.cell? ⟨z5,0,none⟩=some (.int .i64 0):=fun y hy=>by have:=cell_of (Q5.out _ (((G8.out.andN (G9.out.andN (G10.out.andN G11.out)))).andN hy)) 0;simpa using this
  have j1:∀y,Fr nob u9 y→y.cell? ⟨z5,1,none⟩=some (.int .i64 mo):=fun y hy=>by have:=cell_of (Q5.out _ (((G8.out.andN (G9.out.andN (G10.out.andN G11.out)))).andN hy)) 1;simpa using this
  have j2:∀y,Fr nob u9 y→y.cell? ⟨z5,2,none⟩=some (.int .u32 mp):=fun y hy=>by have:=cell_of (Q5.out _ (((G8.out.andN (G9.out.andN (G10.out.andN G11.out)))).andN hy)) 2;simpa using this
  have qe:=curI_eql 0 mo mp nq no np
  have hoe' :no=(b.length:Nat):=HOE.out
  subst hoe'
  by_cases hn0:l.length=0
  · have he:=HMM.out.2 hn0
    simp only[Mark.mk.injEq] at he
    rw[decide_eq_true (show (0:Int)=nq∧mo=(b.length:Nat)∧((mp:Nat):Int)=(np:Nat) by omega)] at qe
    clear he
    go_wp2_with fail
    refine wp_region_ord [(0,true),(1,true),(2,true),(3,true),(4,true),(5,true),(6,true),(7,true),(8,true),(9,true),(10,true),(11,true),(12,true),(13,true),(14,true),(15,true),(16,true),(17,true),(18,true),(19,true),(20,true),(21,true),(22,true),(23,true),(24,true),(25,true),(26,true),(27,true),(28,true),(29,true),(30,true),(31,true),(32,true),(33,true),(34,true),(35,true),(36,true),(37,true),(38,true),(39,true),(40,true),(41,true),(42,true),(43,true),(44,true),(45,true),(46,true),(47,true)] (Fr nob u9) rfl (by kernel_rfl) (by kernel_rfl) (by decide) (fun c a d v w h=>by cases d<;>exact h) ((Fr.refl nob u9).drew) (fun ops hops hS=>?_)
    obtain ⟨d12,hdw⟩:∃d,d=u9.drew:=⟨_,rfl⟩
    rw[←hdw] at hS ⊢
    have G12:Hid (Fr nob u9 d12):=Lib.hid (by rw[hdw];exact (Fr.refl nob u9).drew)
    have E12:=Lib.hid (Ev.of G12.out E11.out.lt)
    clear hdw
    repeat (first | (apply oF hops (by rfl) (by first | exact .plain rfl | exact .y hops rfl rfl rfl rfl);(focus (intro x hx;go_simp;rfl));go_simp) | (apply oS hops (by rfl) (by first | exact .n hops rfl rfl rfl rfl | exact .u hops rfl rfl rfl rfl);go_simp) | (apply oP hops (by rfl) (by first | exact .n hops rfl rfl rfl rfl | exact .u hops rfl rfl rfl rfl) (by assumption);go_simp))
    apply wpOrd_nil
    go_wp2_with fail
    go_ret
    exact ⟨by simp[hn0],((E1.out.trans (E2.out.trans (E3.out.trans (E5.out.trans (E6.out.trans (E7.out.trans (E8.out.trans (E9.out.trans (E10.out.trans (E11.out.trans E12.out))))))))))).toN⟩
  · have he:=HMM.out.1 hn0
    try simp only at he
    rw[decide_eq_false (show ¬((0:Int)=nq∧mo=(b.length:Nat)∧((mp:Nat):Int)=(np:Nat)) from fun h=>he h.2.1)] at qe
    have d1:((l.length:Int) == 0)=false:=by rw[beq_eq_false_iff_ne];omega
    clear he
    go_wp2_with fail
    refine wp_region_ord [(0,true),(1,true),(2,true),(3,true),(4,true),(5,true),(6,true),(7,true),(8,true),(9,true),(10,true),(11,true),(12,true),(13,true),(14,true),(15,true),(16,true),(17,true),(18,true),(19,true),(20,true),(21,true),(22,true),(23,true),(24,true),(25,true),(26,true),(27,true),(28,true),(29,true),(30,true),(31,true),(32,true),(33,true),(34,true),(35,true),(36,true),(37,true),(38,true),(39,true),(40,true),(41,true),(42,true),(43,true),(44,true),(45,true),(46,true),(47,true)] (Fr nob u9) rfl (by kernel_rfl) (by kernel_rfl) (by decide) (fun c a d v w h=>by cases d<;>exact h) ((Fr.refl nob u9).drew) (fun ops hops hS=>?_)
    obtain ⟨d13,hdw⟩:∃d,d=u9.drew:=⟨_,rfl⟩
    rw[←hdw] at hS ⊢
    have G13:Hid (Fr nob u9 d13):=Lib.hid (by rw[hdw];exact (Fr.refl nob u9).drew)
    have E13:=Lib.hid (Ev.of G13.out E11.out.lt)
    clear hdw
    repeat (first | (apply oF hops (by rfl) (by first | exact .plain rfl | exact .y hops rfl rfl rfl rfl);(focus (intro x hx;go_simp;rfl));go_simp) | (apply oS hops (by rfl) (by first | exact .n hops rfl rfl rfl rfl | exact .u hops rfl rfl rfl rfl);go_simp) | (apply oP hops (by rfl) (by first | exact .n hops rfl rfl rfl rfl | exact .u hops rfl rfl rfl rfl) (by assumption);go_simp))
    apply wpOrd_nil
    go_wp2_with fail
    go_ret
    exact ⟨by simp[hn0],((E1.out.trans (E2.out.trans (E3.out.trans (E5.out.trans (E6.out.trans (E7.out.trans (E8.out.trans (E9.out.trans (E10.out.trans (E11.out.trans E13.out))))))))))).toN⟩
end Go.Proofs.YtibpkfnfcdbiiaaGreatDoor
