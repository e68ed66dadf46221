/- decklelaw19.PlanFolds, walked. -/
import Derived.Test.YtibpkfnfcdbiiaaGreatDoorGreat13
import Derived.Test.YtibpkfnfcdbiiaaGreatDoorAlive19
import Derived.Test.YtibpkfnfcdbiiaaGreatDoorFoldsP
namespace Go.Proofs.YtibpkfnfcdbiiaaGreatDoor
set_option linter.unusedSimpArgs false
open Go.RowKit
set_option linter.unusedVariables false
set_option maxRecDepth 100000 in
set_option maxHeartbeats 16000000 in
theorem planFolds_card (w:World) (hL:Laid w) (hF:Frames w) (sa:Option Addr) (sc:Nat) (s:List Col) (hs:SV rCol 2 (old w) w sa sc s) (h0:s.length≤lim) (la:Option Addr) (lc:Nat) (l:List Ent) (hl:SV rEnt 3 (old w) w la lc l) (h1:l.length≤1048576) (htot:(l.flatMap (·.prs)).length≤1048576) (x y:Nat) (hx:x≤255) (hy:y≤255):
 Calls Tryz.prog 12 #[.agg #[.slice sa s.length sc, .slice la l.length lc], .agg #[.int .u8 x, .int .u8 y]] w fun e w' =>e= .returned (.bool true)∧Fr nob w w' :=by
 obtain ⟨w1,hw1⟩:∃x1,x1=(w.alloc (.cells #[.slice sa s.length sc, .slice la l.length lc] 36 (0,0))).alloc (.cells #[.int .u8 x, .int .u8 y] 84 (0,0)):=⟨_,rfl⟩
 obtain ⟨z,hz⟩:∃x1,x1=w.heap.size:=⟨_,rfl⟩
 obtain ⟨zn,hzn⟩:∃x1,x1=z+1:=⟨_,rfl⟩
 have hf1:Fr nob w w1:=by rw[hw1];exact ((Fr.refl nob w).alloc _).alloc _
 have hb1:w1.heap[z]? =some (.cells #[.slice sa s.length sc, .slice la l.length lc] 36 (0,0)):=by rw[hw1,hz];exact heap_old (heap_new w _) _
 have hbn:w1.heap[zn]? =some (.cells #[.int .u8 x, .int .u8 y] 84 (0,0)):=by
  have:=heap_new (w.alloc (.cells #[.slice sa s.length sc, .slice la l.length lc] 36 (0,0))) (.cells #[.int .u8 x, .int .u8 y] 84 (0,0))
  rw[←hw1] at this
  simpa [hzn,hz] using this
 have HOK:=Lib.hid (ents_ok hl)
 have hs' :=hs.within rCol_ok (fun k h=>h)
 have HS:=Lib.hid (SV.keep rCol_ok hs')
 clear hs'
 have hl' :=hl.within rEnt_ok (fun k h=>h)
 have HL:=Lib.hid (SV.keep rEnt_ok hl')
 clear hl'
 clear hs hl
 have HLA:=Lib.hid (hL.keep)
 have HFR:=Lib.hid (fun y (C:Nat→Prop) (e:Ev w nob y C)=>hF.fr e.fr id)
 have HLIM:=Lib.hid (⟨h0,h1,htot⟩:_∧_∧_)
 have QT:=Lib.hid (fun y (hy:Fr nob w1 y)=>hy.heap hb1 id)
 have QN:=Lib.hid (fun y (hy:Fr nob w1 y)=>hy.heap hbn id)
 have HW:=Lib.hid (⟨hw1,hz,hzn⟩:_∧_∧_)
 have E1:=Lib.hid (Ev.of hf1 (nob_lt _))
 have G1:=Lib.hid hf1
 clear hL hF h0 htot hw1 hz hzn hf1 hb1 hbn
 go_enter Tryz.func12,Tryz.ntmps12
 go_wp2_with fail
 rw[←HW.out.1,←HW.out.2.1,←HW.out.2.2]
 refine (alive19_any _ (HLA.out _ _ E1.out) (HFR.out _ _ E1.out)).mono ?_
 rintro e u1 ⟨rfl,hfa⟩
 have E2:=Lib.hid (Ev.of hfa E1.out.lt)
 have G2:=Lib.hid hfa
 clear hfa
 have t0:=cell_of (QT.out _ G2.out) 0
 have t1:=cell_of (QT.out _ G2.out) 1
 simp at t0 t1
 go_wp2_with fail
 refine (great13_any _ u1 sa sc s la lc l (HL.out _ _ (E1.out.trans E2.out)) HLIM.out.1 HLIM.out.2.1 HLIM.out.2.2 (fun k h=>h.1)).mono ?_
 rintro e u3 ⟨⟨g,rfl,hg⟩,hfr⟩
 have E3:=Lib.hid (Ev.of hfr E2.out.lt)
 have G3:=Lib.hid hfr
 clear hfr
 clear t0 t1
 by_cases hg0:0<g
 · go_wp2_with fail
   refine (alive19_any _ (HLA.out _ _ (E1.out.trans (E2.out.trans E3.out))) (HFR.out _ _ (E1.out.trans (E2.out.trans E3.out)))).mono ?_
   rintro e u4 ⟨rfl,hfr⟩
   have E4:=Lib.hid (Ev.of hfr E3.out.lt)
   have G4:=Lib.hid hfr
   clear hfr
   go_wp2_with fail
   go_ret
   exact ⟨rfl,((E1.out.trans (E2.out.trans (E3.out.trans E4.out)))).toN⟩
 obtain ⟨hL30,hT,hs30⟩:=hg hg0
 clear hg
 have t0:=cell_of (QT.out _ (G2.out.andN G3.out)) 0
 have t1:=cell_of (QT.out _ (G2.out.andN G3.out)) 1
 simp at t0 t1
 have hen:=encode_any _ u3 sa sc s (HS.out _ _ (E1.out.trans (E2.out.trans E3.out))) la lc l (HL.out _ _ (E1.out.trans (E2.out.trans E3.out))) (fun k h=>h.1) (HLA.out _ _ (E1.out.trans (E2.out.trans E3.out))) (HFR.out _ _ (E1.out.trans (E2.out.trans E3.out))) HLIM.out.1 (by unfold lim;omega)
 obtain ⟨Y,hY⟩:∃Y,Y=encF s l:=⟨_,rfl⟩
 rw[←hY] at hen
 have HY:=Lib.hid hY
 clear hY
 go_wp2_with fail
 refine (hen).mono ?_
 rintro e u5 ⟨a2,c2,rfl,hfr,_⟩
 have E5:=Lib.hid (Ev.of hfr E3.out.lt)
 have G5:=Lib.hid hfr
 clear hfr
 clear hen t0 t1
 obtain ⟨ey,ny,b,ty⟩:=Y
 simp only
 by_cases he0:ey=0
 case neg=>
  have d1:=intne he0
  have t1:=cell_of (QT.out _ (G2.out.andN (G3.out.andN G5.out))) 1
  simp at t1
  go_wp2_with fail
  go_ret
  exact ⟨rfl,((E1.out.trans (E2.out.trans (E3.out.trans E5.out)))).toN⟩
 case pos=>
  subst he0
  rw[show ((0:Nat):Int)=0 from rfl]
  have hz0:(encF s l).1=0:=by rw[←HY.out]
  have hsc:schemaCheck s=0:=(encF_zero hz0).1
  have hfine:=fine_enc HOK.out hz0
  have HENC:=Lib.hid hz0
  by_cases hl0:l.length=0
  · have t1:=cell_of (QT.out _ (G2.out.andN (G3.out.andN G5.out))) 1
    simp at t1
    have d1:((l.length:Int) == 0)=true:=by rw[beq_iff_eq];omega
    rw[hl0] at t1
    go_wp2_with fail
    go_ret
    exact ⟨rfl,((E1.out.trans (E2.out.trans (E3.out.trans E5.out)))).toN⟩
  have dl:((l.length:Int) == 0)=false:=by rw[beq_eq_false_iff_ne];omega
  have dl2:¬(l.length:Int)=0:=by omega
  obtain ⟨i,hi⟩:∃i,i=x%l.length:=⟨_,rfl⟩
  have hil:i<l.length:=by rw[hi];exact Nat.mod_lt _ (by omega)
  have hii:(x:Int)%(l.length:Int)=(i:Int):=by rw[hi];omega
  obtain ⟨mo,hmo⟩:∃j,j=y%6:=⟨_,rfl⟩
  have hmm:(y:Int)%6=(mo:Int):=by omega
  have hm6:mo≤5:=by omega
  obtain ⟨A,hA⟩:∃A,A=foldF s [] 0 ((l.drop i).take (mo+1)):=⟨_,rfl⟩
  obtain ⟨a,n⟩:=A
  obtain ⟨hn1,hnm,hnl,hal,q,v,q',v',hv,hv',hvl,hvl',hsu⟩:=folds_law HOK.out hz0 hil (by omega) hA.symm
  have HSU:=Lib.hid (fun (e:Nat) (out:List Pr) (h:Summed s v a e out)=>hsu h)
  have HFN:=Lib.hid (⟨hA,hv,hv',hsc,hfine⟩:_∧_∧_∧_∧_)
  clear hi hmo hA hv hv' hsc hfine hz0 hsu
  have n0:=cell_of (QN.out _ (G2.out.andN (G3.out.andN G5.out))) 0
  have n1:=cell_of (QN.out _ (G2.out.andN (G3.out.andN G5.out))) 1
  have t1:=cell_of (QT.out _ (G2.out.andN (G3.out.andN G5.out))) 1
  simp at n0 n1 t1
  obtain ⟨a7,q7,hv7⟩:=drop_ents (HL.out _ _ (E1.out.trans (E2.out.trans (E3.out.trans E5.out)))) i (by omega)
  have hl7:(l.drop i).length=l.length - i:=List.length_drop
  have hcc:∀u,Fr nob u5 u→_:=fun u hu=>changes_any u sa sc s (((HS.out _ _ (E1.out.trans (E2.out.trans (E3.out.trans E5.out))))).frN rCol_ok hu |>.mono rCol_ok (fun j hj=>⟨Nat.lt_of_lt_of_le hj.1 hu.size,id⟩)) a7 (lc - i) (l.drop i) ((hv7.frN rEnt_ok hu).mono rEnt_ok (fun j hj=>⟨Nat.lt_of_lt_of_le hj.1 hu.size,id⟩)) (HLA.out u nob (((E1.out.trans (E2.out.trans (E3.out.trans E5.out)))).trans (Ev.of hu (nob_lt _)))) HLIM.out.1 (by omega) HFN.out.2.2.2.1 (fun x hx=>(HFN.out.2.2.2.2.drop i x hx).1) (mo+1) (by omega)
  rw[←HFN.out.1,hl7,show ((mo+1:Nat):Int)=(mo:Int)+1 by omega] at hcc
  simp only at hcc
  have HCD:=Lib.hid hcc
  clear hl7 hcc hv7
  have t0:∀u,Fr nob u5 u→u.cell? ⟨z,0,none⟩=some (.slice sa s.length sc):=fun u hu=>by have:=cell_of (QT.out _ (((G2.out.andN (G3.out.andN G5.out))).andN hu)) 0;simpa using this
  have t1:∀u,Fr nob u5 u→u.cell? ⟨z,1,none⟩=some (.slice la l.length lc):=fun u hu=>by have:=cell_of (QT.out _ (((G2.out.andN (G3.out.andN G5.out))).andN hu)) 1;simpa using this
  go_wp2_with fail
  refine wp_region_ord [(0,true),(1,true),(2,true),(3,true),(4,true),(5,true),(6,true),(7,false),(8,true),(9,true),(10,true),(11,true),(12,true),(13,true),(14,true)] (Fr nob u5) rfl (by kernel_rfl) (by kernel_rfl) (by decide) (fun c a d v w h=>by cases d<;>exact h) ((Fr.refl nob u5).drew) (fun ops hops hS=>?_)
  obtain ⟨d6,hdw⟩:∃d,d=u5.drew:=⟨_,rfl⟩
  rw[←hdw] at hS ⊢
  have G6:Hid (Fr nob u5 d6):=Lib.hid (by rw[hdw];exact (Fr.refl nob u5).drew)
  have E6:=Lib.hid (Ev.of G6.out E5.out.lt)
  clear hdw
  repeat (first | (apply oF hops (by rfl) (by first | exact .plain rfl | exact .y hops rfl rfl rfl rfl);(focus (intro x hx;go_simp;rfl));go_simp) | (apply oS hops (by rfl) (by first | exact .n hops rfl rfl rfl rfl | exact .u hops rfl rfl rfl rfl);go_simp) | (apply oP hops (by rfl) (by first | exact .n hops rfl rfl rfl rfl | exact .u hops rfl rfl rfl rfl) (by assumption);go_simp))
  refine oA hops (by rfl) (by first | exact .plain rfl | exact .y hops rfl rfl rfl rfl) (fun K hK=>?_)
  go_wp2_with fail
  refine (HCD.out _ G6.out).mono ?_
  rintro e u7 ⟨a8,c8,rfl,hfr,hv8⟩
  have E7:=Lib.hid (Ev.of hfr E6.out.lt)
  have G7:=Lib.hid hfr
  clear hfr
  refine hK _ _ ⟨_,fun _ h=>h,(G6.out.andN G7.out),?_⟩
  clear hK
  go_simp
  repeat (first | (apply oF hops (by rfl) (by first | exact .plain rfl | exact .y hops rfl rfl rfl rfl);(focus (intro x hx;go_simp;rfl));go_simp) | (apply oS hops (by rfl) (by first | exact .n hops rfl rfl rfl rfl | exact .u hops rfl rfl rfl rfl);go_simp) | (apply oP hops (by rfl) (by first | exact .n hops rfl rfl rfl rfl | exact .u hops rfl rfl rfl rfl) (by assumption);go_simp))
  apply wpOrd_nil
  have HA:=Lib.hid (SV.keep rPr_ok hv8)
  clear hv8
  clear t0 t1 q7 n0 n1 HCD
  have g1:¬(n:Int)<1:=by omega
  have g2:¬(mo:Int)+1<(n:Int):=by omega
  have g3:¬(l.length:Int) - (i:Int)<(n:Int):=by omega
  have hwk:IntKind.i64.wrap ((l.length:Int) - (i:Int))=(l.length:Int) - (i:Int):=IntWalk.i64_in _ (by omega)
  have hwn:IntKind.i64.wrap ((i:Int)+(n:Int))=(i:Int)+(n:Int):=IntWalk.i64_in _ (by omega)
  obtain ⟨a9,q9,hv9⟩:=ents_take (HL.out _ _ (E1.out.trans (E2.out.trans (E3.out.trans (E5.out.trans (E6.out.trans E7.out)))))) (i:Int) i rfl (by omega)
  obtain ⟨b9,p9,hw9⟩:=ents_take (HL.out _ _ (E1.out.trans (E2.out.trans (E3.out.trans (E5.out.trans (E6.out.trans E7.out)))))) ((i:Int)+(n:Int)) (i+n) (by omega) (by omega)
  have hl9:(l.take i).length=i:=by rw[List.length_take];omega
  have hl10:(l.take (i+n)).length=i+n:=by rw[List.length_take];omega
  have hc1:∀u,Fr nob u7 u→_:=fun u hu=>view_any (free u nob) u sa sc s (((HS.out _ _ (E1.out.trans (E2.out.trans (E3.out.trans (E5.out.trans (E6.out.trans E7.out))))))).frN rCol_ok hu |>.mono rCol_ok (fun j hj=>⟨Nat.lt_of_lt_of_le hj.1 hu.size,id⟩)) a9 lc (l.take i) ((hv9.frN rEnt_ok hu).mono rEnt_ok (fun j hj=>⟨Nat.lt_of_lt_of_le hj.1 hu.size,id⟩)) (fun j h=>h.1) (HLA.out u nob (((E1.out.trans (E2.out.trans (E3.out.trans (E5.out.trans (E6.out.trans E7.out)))))).trans (Ev.of hu (nob_lt _)))) (HFR.out u nob (((E1.out.trans (E2.out.trans (E3.out.trans (E5.out.trans (E6.out.trans E7.out)))))).trans (Ev.of hu (nob_lt _)))) HLIM.out.1 (by unfold lim;omega)
  have hc2:∀u,Fr nob u7 u→_:=fun u hu=>view_any (free u nob) u sa sc s (((HS.out _ _ (E1.out.trans (E2.out.trans (E3.out.trans (E5.out.trans (E6.out.trans E7.out))))))).frN rCol_ok hu |>.mono rCol_ok (fun j hj=>⟨Nat.lt_of_lt_of_le hj.1 hu.size,id⟩)) b9 lc (l.take (i+n)) ((hw9.frN rEnt_ok hu).mono rEnt_ok (fun j hj=>⟨Nat.lt_of_lt_of_le hj.1 hu.size,id⟩)) (fun j h=>h.1) (HLA.out u nob (((E1.out.trans (E2.out.trans (E3.out.trans (E5.out.trans (E6.out.trans E7.out)))))).trans (Ev.of hu (nob_lt _)))) (HFR.out u nob (((E1.out.trans (E2.out.trans (E3.out.trans (E5.out.trans (E6.out.trans E7.out)))))).trans (Ev.of hu (nob_lt _)))) HLIM.out.1 (by unfold lim;omega)
  rw[HFN.out.2.1,hl9] at hc1
  rw[HFN.out.2.2.1,hl10] at hc2
  simp only at hc1 hc2
  rw[show ((0:Nat):Int)=0 from rfl] at hc1 hc2
  have HC1:=Lib.hid hc1
  have HC2:=Lib.hid hc2
  clear hl9 hl10 hc1 hc2 hv9 hw9
  have t0:∀u,Fr nob u7 u→u.cell? ⟨z,0,none⟩=some (.slice sa s.length sc):=fun u hu=>by have:=cell_of (QT.out _ (((G2.out.andN (G3.out.andN (G5.out.andN (G6.out.andN G7.out))))).andN hu)) 0;simpa using this
  have t1:∀u,Fr nob u7 u→u.cell? ⟨z,1,none⟩=some (.slice la l.length lc):=fun u hu=>by have:=cell_of (QT.out _ (((G2.out.andN (G3.out.andN (G5.out.andN (G6.out.andN G7.out))))).andN hu)) 1;simpa using this
  have t1' :=t1 _ (Fr.refl nob _)
  go_wp2_with fail
  refine wp_region_ord [(0,true),(1,true),(2,true),(3,true),(4,true),(5,true),(6,true),(7,false),(8,true),(9,true),(10,true),(11,true),(12,true),(13,true),(14,true)] (Fr nob u7) rfl (by kernel_rfl) (by kernel_rfl) (by decide) (fun c a d v w h=>by cases d<;>exact h) ((Fr.refl nob u7).drew) (fun ops hops hS=>?_)
  obtain ⟨d8,hdw⟩:∃d,d=u7.drew:=⟨_,rfl⟩
  rw[←hdw] at hS ⊢
  have G8:Hid (Fr nob u7 d8):=Lib.hid (by rw[hdw];exact (Fr.refl nob u7).drew)
  have E8:=Lib.hid (Ev.of G8.out E7.out.lt)
  clear hdw
  repeat (first | (apply oF hops (by rfl) (by first | exact .plain rfl | exact .y hops rfl rfl rfl rfl);(focus (intro x hx;go_simp;rfl));go_simp) | (apply oS hops (by rfl) (by first | exact .n hops rfl rfl rfl rfl | exact .u hops rfl rfl rfl rfl);go_simp) | (apply oP hops (by rfl) (by first | exact .n hops rfl rfl rfl rfl | exact .u hops rfl rfl rfl rfl) (by assumption);go_simp))
  refine oA hops (by rfl) (by first | exact .plain rfl | exact .y hops rfl rfl rfl rfl) (fun K hK=>?_)
  go_wp2_with fail
  refine (HC1.out _ G8.out).mono ?_
  rintro e u9 ⟨a10,c10,rfl,hfr,hv10⟩
  have E9:=Lib.hid (Ev.of hfr E8.out.lt)
  have G9:=Lib.hid hfr
  clear hfr
  refine hK _ _ ⟨_,fun _ h=>h,(G8.out.andN G9.out),?_⟩
  clear hK
  go_simp
  repeat (first | (apply oF hops (by rfl) (by first | exact .plain rfl | exact .y hops rfl rfl rfl rfl);(focus (intro x hx;go_simp;rfl));go_simp) | (apply oS hops (by rfl) (by first | exact .n hops rfl rfl rfl rfl | exact .u hops rfl rfl rfl rfl);go_simp) | (apply oP hops (by rfl) (by first | exact .n hops rfl rfl rfl rfl | exact .u hops rfl rfl rfl rfl) (by assumption);go_simp))
  apply wpOrd_nil
  have hv10' :=hv10.mono rPr_ok (T:=free u9 nob) (fun k hk=>hk.elim (fun h=>⟨Nat.lt_of_lt_of_le h.1 (E9.out.fr.size),id⟩) (fun h=>⟨h.2,id⟩))
  have HB:=Lib.hid (SV.keep rPr_ok hv10')
  clear hv10'
  clear t0 t1 t1' hv10
  have t0:∀u,Fr nob u9 u→u.cell? ⟨z,0,none⟩=some (.slice sa s.length sc):=fun u hu=>by have:=cell_of (QT.out _ (((G2.out.andN (G3.out.andN (G5.out.andN (G6.out.andN (G7.out.andN (G8.out.andN G9.out))))))).andN hu)) 0;simpa using this
  have t1:∀u,Fr nob u9 u→u.cell? ⟨z,1,none⟩=some (.slice la l.length lc):=fun u hu=>by have:=cell_of (QT.out _ (((G2.out.andN (G3.out.andN (G5.out.andN (G6.out.andN (G7.out.andN (G8.out.andN G9.out))))))).andN hu)) 1;simpa using this
  go_wp2_with fail
  refine wp_region_ord [(0,true),(1,true),(2,true),(3,true),(4,true),(5,true),(6,true),(7,true),(8,true),(9,false),(10,true),(11,true),(12,true),(13,true),(14,true),(15,true),(16,true)] (Fr nob u9) rfl (by kernel_rfl) (by kernel_rfl) (by decide) (fun c a d v w h=>by cases d<;>exact h) ((Fr.refl nob u9).drew) (fun ops hops hS=>?_)
  obtain ⟨d10,hdw⟩:∃d,d=u9.drew:=⟨_,rfl⟩
  rw[←hdw] at hS ⊢
  have G10:Hid (Fr nob u9 d10):=Lib.hid (by rw[hdw];exact (Fr.refl nob u9).drew)
  have E10:=Lib.hid (Ev.of G10.out E9.out.lt)
  clear hdw
  repeat (first | (apply oF hops (by rfl) (by first | exact .plain rfl | exact .y hops rfl rfl rfl rfl);(focus (intro x hx;go_simp;rfl));go_simp) | (apply oS hops (by rfl) (by first | exact .n hops rfl rfl rfl rfl | exact .u hops rfl rfl rfl rfl);go_simp) | (apply oP hops (by rfl) (by first | exact .n hops rfl rfl rfl rfl | exact .u hops rfl rfl rfl rfl) (by assumption);go_simp))
  refine oA hops (by rfl) (by first | exact .plain rfl | exact .y hops rfl rfl rfl rfl) (fun K hK=>?_)
  go_wp2_with fail
  refine (HC2.out _ (G8.out.andN (G9.out.andN G10.out))).mono ?_
  rintro e u11 ⟨a11,c11,rfl,hfr,hv11⟩
  have E11:=Lib.hid (Ev.of hfr E10.out.lt)
  have G11:=Lib.hid hfr
  clear hfr
  refine hK _ _ ⟨_,fun _ h=>h,(G10.out.andN G11.out),?_⟩
  clear hK
  go_simp
  repeat (first | (apply oF hops (by rfl) (by first | exact .plain rfl | exact .y hops rfl rfl rfl rfl);(focus (intro x hx;go_simp;rfl));go_simp) | (apply oS hops (by rfl) (by first | exact .n hops rfl rfl rfl rfl | exact .u hops rfl rfl rfl rfl);go_simp) | (apply oP hops (by rfl) (by first | exact .n hops rfl rfl rfl rfl | exact .u hops rfl rfl rfl rfl) (by assumption);go_simp))
  apply wpOrd_nil
  have hv11' :=hv11.mono rPr_ok (T:=free u11 nob) (fun k hk=>hk.elim (fun h=>⟨Nat.lt_of_lt_of_le h.1 (E11.out.fr.size),id⟩) (fun h=>⟨h.2,id⟩))
  have HC:=Lib.hid (SV.keep rPr_ok hv11')
  clear hv11'
  clear t0 t1 hv11
  have t0:=cell_of (QT.out _ (G2.out.andN (G3.out.andN (G5.out.andN (G6.out.andN (G7.out.andN (G8.out.andN (G9.out.andN (G10.out.andN G11.out))))))))) 0
  simp at t0
  go_wp2_with fail
  refine (zsum_o (HS.out _ _ (E1.out.trans (E2.out.trans (E3.out.trans (E5.out.trans (E6.out.trans (E7.out.trans (E8.out.trans (E9.out.trans (E10.out.trans E11.out)))))))))) (HB.out _ _ (E10.out.trans E11.out)) (HA.out _ _ (E8.out.trans (E9.out.trans (E10.out.trans E11.out)))) (HLA.out _ _ (E1.out.trans (E2.out.trans (E3.out.trans (E5.out.trans (E6.out.trans (E7.out.trans (E8.out.trans (E9.out.trans (E10.out.trans E11.out)))))))))) HLIM.out.1 (by omega) (by omega) E11.out.lt).mono ?_
  rintro e u19 ⟨en,out,a19,c19,rfl,hsum,hf19,hv19,_⟩
  obtain ⟨rfl,rfl⟩:=HSU.out en out hsum
  have E12:=Lib.hid (Ev.of hf19 E11.out.lt)
  have G12:=Lib.hid hf19
  have HO:=Lib.hid (SV.keep rPr_ok hv19)
  clear hv19
  clear hf19 t0 hsum
  have hsm:=zsame_yes (HO.out _ _ (Ev.refl E12.out.lt)) (HC.out _ _ E12.out) (by unfold lim;omega) (by unfold lim;omega) rfl
  go_wp2_with fail
  refine hsm.mono ?_
  rintro e u20 ⟨rfl,hf20⟩
  have E13:=Lib.hid (Ev.of hf20 E12.out.lt)
  have G13:=Lib.hid hf20
  go_wp2_with fail
  go_ret
  exact ⟨by simp,((E1.out.trans (E2.out.trans (E3.out.trans (E5.out.trans (E6.out.trans (E7.out.trans (E8.out.trans (E9.out.trans (E10.out.trans (E11.out.trans (E12.out.trans E13.out)))))))))))).toN⟩
end Go.Proofs.YtibpkfnfcdbiiaaGreatDoor
