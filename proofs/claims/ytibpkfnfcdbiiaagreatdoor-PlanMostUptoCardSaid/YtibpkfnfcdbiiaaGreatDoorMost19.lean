/- decklelaw19.PlanMost, walked. -/
import Derived.Test.YtibpkfnfcdbiiaaGreatDoorGreat13
import Derived.Test.YtibpkfnfcdbiiaaGreatDoorAlive19
import Derived.Test.YtibpkfnfcdbiiaaGreatDoorFoldP
namespace Go.Proofs.YtibpkfnfcdbiiaaGreatDoor
set_option linter.unusedSimpArgs false
open Go.RowKit
set_option linter.unusedVariables false
theorem ents_mid {S:Nat→Prop} {w:World} {a:Option Addr} {cap:Nat} {l:List Ent} (h:SV rEnt 3 S w a cap l) (x y:Nat) (hxy:x≤y) (hy:y≤l.length):
 ∃a',(∀w',(Instr.slice 34 (.slice a l.length cap) (some (.int .i64 (x:Int))) (some (.int .i64 (y:Int))) none).run Tryz.prog w' = .ok (.slice a' (y - x) (cap - x)) w')∧SV rEnt 3 S w a' (cap - x) ((l.drop x).take (y - x)):=by
 have hle:l.length≤cap:=by obtain ⟨_,_,hv,_⟩:=h;exact hv.le
 obtain ⟨inf,hinf,_,hsz,_⟩:=info_parts inf_Ent
 exact h.sub (P:=Tryz.prog) rEnt_ok 34 40 inf Tryz.underlying34 hinf hsz (some (.int .i64 (x:Int))) (some (.int .i64 (y:Int))) none x y cap (fun w' =>bounds_lh .i64 .i64 x y _ _ rfl rfl hxy (by omega) w') hxy hy (by omega) (Nat.le_refl _)
set_option maxRecDepth 100000 in
set_option maxHeartbeats 16000000 in
theorem planMost_card (w:World) (hL:Laid w) (hF:Frames w) (sa:Option Addr) (sc:Nat) (s:List Col) (hs:SV rCol 2 (old w) w sa sc s) (h0:s.length≤lim) (la:Option Addr) (lc:Nat) (l:List Ent) (hl:SV rEnt 3 (old w) w la lc l) (h1:l.length≤1048576) (htot:(l.flatMap (·.prs)).length≤1048576) (x y:Nat) (hx:x≤255) (hy:y≤255):
 Calls Tryz.prog 8 #[.agg #[.slice sa s.length sc, .slice la l.length lc], .agg #[.int .u8 x, .int .u8 y]] w fun e w' =>e= .returned (.bool true)∧Fr nob w w' :=by
 obtain ⟨w1,hw1⟩:∃x1,x1=(w.alloc (.cells #[.slice sa s.length sc, .slice la l.length lc] 36 (0,0))).alloc (.cells #[.int .u8 x, .int .u8 y] 84 (0,0)):=⟨_,rfl⟩
 obtain ⟨z,hz⟩:∃x1,x1=w.heap.size:=⟨_,rfl⟩
 obtain ⟨zn,hzn⟩:∃x1,x1=z+1:=⟨_,rfl⟩
 have hf1:Fr nob w w1:=by rw[hw1];exact ((Fr.refl nob w).alloc _).alloc _
 have hb1:w1.heap[z]? =some (.cells #[.slice sa s.length sc, .slice la l.length lc] 36 (0,0)):=by rw[hw1,hz];exact heap_old (heap_new w _) _
 have hbn:w1.heap[zn]? =some (.cells #[.int .u8 x, .int .u8 y] 84 (0,0)):=by
  have:=heap_new (w.alloc (.cells #[.slice sa s.length sc, .slice la l.length lc] 36 (0,0))) (.cells #[.int .u8 x, .int .u8 y] 84 (0,0))
  rw[←hw1] at this
  simpa [hzn,hz] using this
 have HOK:=Lib.hid (ents_ok hl)
 have hs' :=hs.within rCol_ok (fun k h=>h)
 have HS:=Lib.hid (SV.keep rCol_ok hs')
 clear hs'
 have hl' :=hl.within rEnt_ok (fun k h=>h)
 have HL:=Lib.hid (SV.keep rEnt_ok hl')
 clear hl'
 clear hs hl
 have HLA:=Lib.hid (hL.keep)
 have HFR:=Lib.hid (fun y (C:Nat→Prop) (e:Ev w nob y C)=>hF.fr e.fr id)
 have HLIM:=Lib.hid (⟨h0,h1,htot⟩:_∧_∧_)
 have QT:=Lib.hid (fun y (hy:Fr nob w1 y)=>hy.heap hb1 id)
 have QN:=Lib.hid (fun y (hy:Fr nob w1 y)=>hy.heap hbn id)
 have HW:=Lib.hid (⟨hw1,hz,hzn⟩:_∧_∧_)
 have E1:=Lib.hid (Ev.of hf1 (nob_lt _))
 have G1:=Lib.hid hf1
 clear hL hF h0 htot hw1 hz hzn hf1 hb1 hbn
 go_enter Tryz.func8,Tryz.ntmps8
 go_wp2_with fail
 rw[←HW.out.1,←HW.out.2.1,←HW.out.2.2]
 refine (alive19_any _ (HLA.out _ _ E1.out) (HFR.out _ _ E1.out)).mono ?_
 rintro e u1 ⟨rfl,hfa⟩
 have E2:=Lib.hid (Ev.of hfa E1.out.lt)
 have G2:=Lib.hid hfa
 clear hfa
 have t0:=cell_of (QT.out _ G2.out) 0
 have t1:=cell_of (QT.out _ G2.out) 1
 simp at t0 t1
 go_wp2_with fail
 refine (great13_any _ u1 sa sc s la lc l (HL.out _ _ (E1.out.trans E2.out)) HLIM.out.1 HLIM.out.2.1 HLIM.out.2.2 (fun k h=>h.1)).mono ?_
 rintro e u3 ⟨⟨g,rfl,hg⟩,hfr⟩
 have E3:=Lib.hid (Ev.of hfr E2.out.lt)
 have G3:=Lib.hid hfr
 clear hfr
 clear t0 t1
 by_cases hg0:0<g
 · go_wp2_with fail
   refine (alive19_any _ (HLA.out _ _ (E1.out.trans (E2.out.trans E3.out))) (HFR.out _ _ (E1.out.trans (E2.out.trans E3.out)))).mono ?_
   rintro e u4 ⟨rfl,hfr⟩
   have E4:=Lib.hid (Ev.of hfr E3.out.lt)
   have G4:=Lib.hid hfr
   clear hfr
   go_wp2_with fail
   go_ret
   exact ⟨rfl,((E1.out.trans (E2.out.trans (E3.out.trans E4.out)))).toN⟩
 obtain ⟨hL30,hT,hs30⟩:=hg hg0
 clear hg
 have t0:=cell_of (QT.out _ (G2.out.andN G3.out)) 0
 have t1:=cell_of (QT.out _ (G2.out.andN G3.out)) 1
 simp at t0 t1
 have hen:=encode_any _ u3 sa sc s (HS.out _ _ (E1.out.trans (E2.out.trans E3.out))) la lc l (HL.out _ _ (E1.out.trans (E2.out.trans E3.out))) (fun k h=>h.1) (HLA.out _ _ (E1.out.trans (E2.out.trans E3.out))) (HFR.out _ _ (E1.out.trans (E2.out.trans E3.out))) HLIM.out.1 (by unfold lim;omega)
 obtain ⟨Y,hY⟩:∃Y,Y=encF s l:=⟨_,rfl⟩
 rw[←hY] at hen
 have HY:=Lib.hid hY
 clear hY
 go_wp2_with fail
 refine (hen).mono ?_
 rintro e u5 ⟨a2,c2,rfl,hfr,_⟩
 have E5:=Lib.hid (Ev.of hfr E3.out.lt)
 have G5:=Lib.hid hfr
 clear hfr
 clear hen t0 t1
 obtain ⟨ey,ny,b,ty⟩:=Y
 simp only
 by_cases he0:ey=0
 case neg=>
  have d1:=intne he0
  go_wp2_with fail
  go_ret
  exact ⟨rfl,((E1.out.trans (E2.out.trans (E3.out.trans E5.out)))).toN⟩
 case pos=>
  subst he0
  rw[show ((0:Nat):Int)=0 from rfl]
  have hz0:(encF s l).1=0:=by rw[←HY.out]
  have hsc:schemaCheck s=0:=(encF_zero hz0).1
  have hfine:=fine_enc HOK.out hz0
  obtain ⟨lo,hlo⟩:∃j,j=min x y:=⟨_,rfl⟩
  obtain ⟨hi,hhi⟩:∃j,j=max x y:=⟨_,rfl⟩
  have hmin:min (x:Int) (y:Int)=(lo:Int):=by omega
  have hmax:max (x:Int) (y:Int)=(hi:Int):=by omega
  have hlh:lo≤hi:=by omega
  have hh255:hi≤255:=by omega
  have hwl:IntKind.i64.wrap (lo:Int)=lo:=IntWalk.i64_in _ (by omega)
  have hwh:IntKind.i64.wrap (hi:Int)=hi:=IntWalk.i64_in _ (by omega)
  obtain ⟨A,hA⟩:∃A,A=foldF s [] 0 (l.take lo):=⟨_,rfl⟩
  obtain ⟨B,hB⟩:∃A,A=foldF s [] 0 (l.take hi):=⟨_,rfl⟩
  have hchg:=fun (u:World) (hu:Ev w nob u nob) (j:Nat) (hj:j≤255)=>changes_any u sa sc s (HS.out u nob hu) la lc l (HL.out u nob hu) (HLA.out u nob hu) HLIM.out.1 (by omega) hsc (fun x hx=>(hfine x hx).1) j (by omega)
  have HCH:=Lib.hid hchg
  have hca:=fun u hu=>HCH.out u hu lo (by omega)
  have hcb:=fun u hu=>HCH.out u hu hi (by omega)
  rw[←hA] at hca
  rw[←hB] at hcb
  obtain ⟨a,i⟩:=A
  obtain ⟨bb,k⟩:=B
  have hlaw:=fun rest m=>most_law (rest:=rest) (m:=m) hsc hfine hlh hA.symm hB.symm
  simp only at hca hcb
  have HCC:=Lib.hid (⟨hca,hcb⟩:_∧_)
  obtain ⟨hik,hkl,hil,hkh,_,hal,hbl,_⟩:=hlaw [] 0
  have HLW:=Lib.hid (⟨hlaw,hsc,hfine⟩:_∧_∧_)
  clear hlo hhi hA hB hchg hca hcb hlaw hsc hfine hz0
  have n0:∀u,Fr nob u5 u→u.cell? ⟨zn,0,none⟩=some (.int .u8 x):=fun u hu=>by have:=cell_of (QN.out _ (((G2.out.andN (G3.out.andN G5.out))).andN hu)) 0;simpa using this
  have n1:∀u,Fr nob u5 u→u.cell? ⟨zn,1,none⟩=some (.int .u8 y):=fun u hu=>by have:=cell_of (QN.out _ (((G2.out.andN (G3.out.andN G5.out))).andN hu)) 1;simpa using this
  go_wp2_with fail
  refine wp_region_ord [(0,true),(1,true),(2,true),(3,true),(4,true),(5,true),(6,true),(7,true),(8,true),(9,true),(10,true),(11,true),(12,true),(13,true)] (Fr nob u5) rfl (by kernel_rfl) (by kernel_rfl) (by decide) (fun c a d v w h=>by cases d<;>exact h) ((Fr.refl nob u5).drew) (fun ops hops hS=>?_)
  obtain ⟨d6,hdw⟩:∃d,d=u5.drew:=⟨_,rfl⟩
  rw[←hdw] at hS ⊢
  have G6:Hid (Fr nob u5 d6):=Lib.hid (by rw[hdw];exact (Fr.refl nob u5).drew)
  have E6:=Lib.hid (Ev.of G6.out E5.out.lt)
  clear hdw
  repeat (first | (apply oF hops (by rfl) (by first | exact .plain rfl | exact .y hops rfl rfl rfl rfl);(focus (intro x hx;go_simp;rfl));go_simp) | (apply oS hops (by rfl) (by first | exact .n hops rfl rfl rfl rfl | exact .u hops rfl rfl rfl rfl);go_simp) | (apply oP hops (by rfl) (by first | exact .n hops rfl rfl rfl rfl | exact .u hops rfl rfl rfl rfl) (by assumption);go_simp))
  apply wpOrd_nil
  clear n0 n1
  have t0:=cell_of (QT.out _ (G2.out.andN (G3.out.andN (G5.out.andN G6.out)))) 0
  have t1:=cell_of (QT.out _ (G2.out.andN (G3.out.andN (G5.out.andN G6.out)))) 1
  simp at t0 t1
  go_wp2_with fail
  refine (HCC.out.1 _ (E1.out.trans (E2.out.trans (E3.out.trans (E5.out.trans E6.out))))).mono ?_
  rintro e u5 ⟨a5,c5,rfl,hf5,hv5⟩
  have E7:=Lib.hid (Ev.of hf5 E6.out.lt)
  have G7:=Lib.hid hf5
  have HA:=Lib.hid (SV.keep rPr_ok hv5)
  clear hv5
  clear hf5 t0 t1
  have t0:=cell_of (QT.out _ (G2.out.andN (G3.out.andN (G5.out.andN (G6.out.andN G7.out))))) 0
  have t1:=cell_of (QT.out _ (G2.out.andN (G3.out.andN (G5.out.andN (G6.out.andN G7.out))))) 1
  simp at t0 t1
  go_wp2_with fail
  refine (HCC.out.2 _ (E1.out.trans (E2.out.trans (E3.out.trans (E5.out.trans (E6.out.trans E7.out)))))).mono ?_
  rintro e u6 ⟨a6,c6,rfl,hf6,hv6⟩
  have E8:=Lib.hid (Ev.of hf6 E7.out.lt)
  have G8:=Lib.hid hf6
  have HB:=Lib.hid (SV.keep rPr_ok hv6)
  clear hv6
  clear hf6 t0 t1
  have g1:¬(i:Int)<0:=by omega
  have g2:¬(k:Int)<(i:Int):=by omega
  have g3:¬(l.length:Int)<(k:Int):=by omega
  have g4:¬(lo:Int)<(i:Int):=by omega
  have g5:¬(hi:Int)<(k:Int):=by omega
  have hwk:IntKind.i64.wrap ((k:Int) - (i:Int))=((k - i:Nat):Int):=by rw[IntWalk.i64_in _ (by omega)];omega
  obtain ⟨a7,q7,hv7⟩:=ents_mid (HL.out _ _ (E1.out.trans (E2.out.trans (E3.out.trans (E5.out.trans (E6.out.trans (E7.out.trans E8.out))))))) i k hik hkl
  obtain ⟨R,hR⟩:∃R,R=foldF s [] 0 (((l.drop i).take (k - i)).take (k - i)):=⟨_,rfl⟩
  have hl7:((l.drop i).take (k - i)).length=k - i:=by rw[List.length_take,List.length_drop];omega
  have hcc:∀u,Fr nob u6 u→_:=fun u hu=>changes_any u sa sc s (((HS.out _ _ (E1.out.trans (E2.out.trans (E3.out.trans (E5.out.trans (E6.out.trans (E7.out.trans E8.out)))))))).frN rCol_ok hu |>.mono rCol_ok (fun j hj=>⟨Nat.lt_of_lt_of_le hj.1 hu.size,id⟩)) a7 (lc - i) _ ((hv7.frN rEnt_ok hu).mono rEnt_ok (fun j hj=>⟨Nat.lt_of_lt_of_le hj.1 hu.size,id⟩)) (HLA.out u nob (((E1.out.trans (E2.out.trans (E3.out.trans (E5.out.trans (E6.out.trans (E7.out.trans E8.out))))))).trans (Ev.of hu (nob_lt _)))) HLIM.out.1 (by omega) HLW.out.2.1 (fun x hx=>((HLW.out.2.2.drop i).take (k - i) x hx).1) (k - i) (by omega)
  rw[←hR,hl7] at hcc
  obtain ⟨rest,m⟩:=R
  have hlw:=(HLW.out.1 rest m).2.2.2.2.2.2.2 hR.symm
  simp only at hcc
  have HCD:=Lib.hid hcc
  have HLR:=Lib.hid hlw.2
  have hrl:=hlw.1
  have t0:∀u,Fr nob u6 u→u.cell? ⟨z,0,none⟩=some (.slice sa s.length sc):=fun u hu=>by have:=cell_of (QT.out _ (((G2.out.andN (G3.out.andN (G5.out.andN (G6.out.andN (G7.out.andN G8.out)))))).andN hu)) 0;simpa using this
  have t1:∀u,Fr nob u6 u→u.cell? ⟨z,1,none⟩=some (.slice la l.length lc):=fun u hu=>by have:=cell_of (QT.out _ (((G2.out.andN (G3.out.andN (G5.out.andN (G6.out.andN (G7.out.andN G8.out)))))).andN hu)) 1;simpa using this
  have t1' :=t1 _ (Fr.refl nob _)
  clear hR hl7 hcc hlw hv7
  go_wp2_with fail
  refine wp_region_ord [(0,true),(1,true),(2,true),(3,true),(4,true),(5,true),(6,true),(7,true),(8,true),(9,true),(10,false),(11,true),(12,true),(13,true),(14,true),(15,true),(16,true),(17,true)] (Fr nob u6) rfl (by kernel_rfl) (by kernel_rfl) (by decide) (fun c a d v w h=>by cases d<;>exact h) ((Fr.refl nob u6).drew) (fun ops hops hS=>?_)
  obtain ⟨d9,hdw⟩:∃d,d=u6.drew:=⟨_,rfl⟩
  rw[←hdw] at hS ⊢
  have G9:Hid (Fr nob u6 d9):=Lib.hid (by rw[hdw];exact (Fr.refl nob u6).drew)
  have E9:=Lib.hid (Ev.of G9.out E8.out.lt)
  clear hdw
  repeat (first | (apply oF hops (by rfl) (by first | exact .plain rfl | exact .y hops rfl rfl rfl rfl);(focus (intro x hx;go_simp;rfl));go_simp) | (apply oS hops (by rfl) (by first | exact .n hops rfl rfl rfl rfl | exact .u hops rfl rfl rfl rfl);go_simp) | (apply oP hops (by rfl) (by first | exact .n hops rfl rfl rfl rfl | exact .u hops rfl rfl rfl rfl) (by assumption);go_simp))
  refine oA hops (by rfl) (by first | exact .plain rfl | exact .y hops rfl rfl rfl rfl) (fun K hK=>?_)
  go_wp2_with fail
  refine (HCD.out _ G9.out).mono ?_
  rintro e u10 ⟨a8,c8,rfl,hfr,hv8⟩
  have E10:=Lib.hid (Ev.of hfr E9.out.lt)
  have G10:=Lib.hid hfr
  clear hfr
  refine hK _ _ ⟨_,fun _ h=>h,(G9.out.andN G10.out),?_⟩
  clear hK
  go_simp
  repeat (first | (apply oF hops (by rfl) (by first | exact .plain rfl | exact .y hops rfl rfl rfl rfl);(focus (intro x hx;go_simp;rfl));go_simp) | (apply oS hops (by rfl) (by first | exact .n hops rfl rfl rfl rfl | exact .u hops rfl rfl rfl rfl);go_simp) | (apply oP hops (by rfl) (by first | exact .n hops rfl rfl rfl rfl | exact .u hops rfl rfl rfl rfl) (by assumption);go_simp))
  apply wpOrd_nil
  have HR:=Lib.hid (SV.keep rPr_ok hv8)
  clear hv8
  clear t0 t1 t1' q7
  by_cases hm:m=k - i
  · subst hm
    have t0:=cell_of (QT.out _ (G2.out.andN (G3.out.andN (G5.out.andN (G6.out.andN (G7.out.andN (G8.out.andN (G9.out.andN G10.out)))))))) 0
    simp at t0
    go_wp2_with fail
    refine (zsum_o (HS.out _ _ (E1.out.trans (E2.out.trans (E3.out.trans (E5.out.trans (E6.out.trans (E7.out.trans (E8.out.trans (E9.out.trans E10.out))))))))) (HA.out _ _ (E8.out.trans (E9.out.trans E10.out))) (HR.out _ _ (Ev.refl E10.out.lt)) (HLA.out _ _ (E1.out.trans (E2.out.trans (E3.out.trans (E5.out.trans (E6.out.trans (E7.out.trans (E8.out.trans (E9.out.trans E10.out))))))))) HLIM.out.1 (by omega) (by omega) E10.out.lt).mono ?_
    rintro e u9 ⟨en,out,a9,c9,rfl,hsum,hf9,hv9,_⟩
    have E11:=Lib.hid (Ev.of hf9 E10.out.lt)
    have G11:=Lib.hid hf9
    clear hf9 t0
    by_cases hen:en=0
    · subst hen
      have ho:=HLR.out trivial hsum
      subst ho
      have HO:=Lib.hid (SV.keep rPr_ok hv9)
      clear hv9
      have hsm:=zsame_yes (HO.out _ _ (Ev.refl E11.out.lt)) (HB.out _ _ (E9.out.trans (E10.out.trans E11.out))) (by unfold lim;omega) (by unfold lim;omega) rfl
      clear hsum
      go_wp2_with fail
      refine hsm.mono ?_
      rintro e u10 ⟨rfl,hf10⟩
      have E12:=Lib.hid (Ev.of hf10 E11.out.lt)
      have G12:=Lib.hid hf10
      go_wp2_with fail
      go_ret
      exact ⟨by simp,((E1.out.trans (E2.out.trans (E3.out.trans (E5.out.trans (E6.out.trans (E7.out.trans (E8.out.trans (E9.out.trans (E10.out.trans (E11.out.trans E12.out))))))))))).toN⟩
    · have d1:=intne hen
      clear hsum hv9 hen
      go_wp2_with fail
      go_ret
      exact ⟨by simp,((E1.out.trans (E2.out.trans (E3.out.trans (E5.out.trans (E6.out.trans (E7.out.trans (E8.out.trans (E9.out.trans (E10.out.trans E11.out)))))))))).toN⟩
  · have dm:((m:Int) == ((k - i:Nat):Int))=false:=by rw[beq_eq_false_iff_ne];omega
    have dm2:¬(m:Int)=((k - i:Nat):Int):=by omega
    go_wp2_with fail
    go_ret
    exact ⟨rfl,((E1.out.trans (E2.out.trans (E3.out.trans (E5.out.trans (E6.out.trans (E7.out.trans (E8.out.trans (E9.out.trans E10.out))))))))).toN⟩
end Go.Proofs.YtibpkfnfcdbiiaaGreatDoor
