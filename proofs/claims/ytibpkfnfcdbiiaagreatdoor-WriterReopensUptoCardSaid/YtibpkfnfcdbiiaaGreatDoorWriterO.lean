/- Contract of writer.Open, of bytes that a writer wrote. -/
import Derived.Test.YtibpkfnfcdbiiaaGreatDoorBunY
import Derived.Test.YtibpkfnfcdbiiaaGreatDoorBunR
import Derived.Test.YtibpkfnfcdbiiaaGreatDoorBunV
import Derived.Test.YtibpkfnfcdbiiaaGreatDoorBunT
import Derived.Test.YtibpkfnfcdbiiaaGreatDoorBunW
namespace Go.Proofs.YtibpkfnfcdbiiaaGreatDoor
set_option linter.unusedSimpArgs false
open Go.RowKit
set_option linter.unusedVariables false
set_option maxRecDepth 100000 in
set_option maxHeartbeats 8000000 in
theorem writerOpen_any {s:List Col} {es:List Ent} {d:List UInt8} {m:Nat} {q:Int} {l:List Pr} (hof:WrOf s es d m q l) (hm:m≤4096) (S:Nat→Prop) (w:World) (hS:∀k,S k→k<w.heap.size) (a:Option Addr) (cap:Nat) (hb:BV S w a cap d) (hn:d.length≤2000+m*1048591) (hL:Laid w) (hF:Frames w) (h0:s.length≤lim):
 Calls Tryz.prog 41 #[.slice a d.length cap] w fun e w' =>∃v O,e= .returned (.tuple #[.pointer (some ⟨v,0,none⟩), .int .i64 d.length, .int .i64 0])∧Fr nob w w' ∧(∀k,wB v O k→newb w w' k)∧WrAt w' O v s d m q l:=by
 have hz0:(encF s es).1=0:=by rw[hof.1]
 have hok:=(encF_ok hof.2.2 hz0).1
 rw[hof.1] at hok
 have hll:l.length≤1024:=hok.len
 have hrow:∀p∈l,p.row.length≤1000000:=fun p hp=>by
  have h1:=rowCheck_zero (hok.can.rows p hp).1
  have:=(schemaCheck_le h1.1).2
  omega
 obtain ⟨ms,hdec,_⟩:=hof.back
 have hv:=hof.view
 have hme:m=es.length:=hof.2.1
 have hde:=decode_any S w hS a cap d hb (by omega) hL hF
 rw[hdec] at hde
 simp only at hde
 have hb' :=hb.within hS
 have HB:=Lib.hid (BV.keep hb')
 clear hb'
 have HLA:=Lib.hid (hL.keep)
 have HFR:=Lib.hid (fun y (C:Nat→Prop) (e:Ev w nob y C)=>hF.fr e.fr id)
 have HV:=Lib.hid (⟨hv,hrow,hme,hn⟩:_∧_∧_∧_)
 have hel:es.length≤4096:=by omega
 have hdl:d.length≤140737488355328:=by omega
 rw[show ((0:Nat):Int)=0 from rfl] at hde
 clear hof hz0 hok hdec hv hme hL hF hb hrow hn
 go_enter Tryz.func41,Tryz.ntmps41
 go_wp2_with fail
 refine (hde).mono ?_
 rintro e u1 ⟨sa,sc,ea,ec,rfl,hfr,hv1,hv2⟩
 have E1:=Lib.hid (Ev.of hfr (nob_lt _))
 have G1:=Lib.hid hfr
 clear hfr
 clear hde
 have HV1:=Lib.hid hv1
 have HV2:=Lib.hid hv2
 have HC:=Lib.hid (SV.keep rCol_ok (hv1.new rCol_ok (nob_lt _)))
 clear hv1
 have HE:=Lib.hid (SV.keep rEnt_ok (hv2.new rEnt_ok (nob_lt _)))
 clear hv2
 obtain ⟨w2,hw2⟩:∃x,x=u1.alloc (.cells #[.slice sa s.length sc, .slice ea es.length ec] 36 (0,0)):=⟨_,rfl⟩
 obtain ⟨z2,hz2⟩:∃x,x=(u1).heap.size:=⟨_,rfl⟩
 have hf2:Fr nob u1 w2:=by rw[hw2];exact (Fr.refl nob _).alloc _
 have hb2:=heap_new u1 (.cells #[.slice sa s.length sc, .slice ea es.length ec] 36 (0,0))
 rw[←hw2,←hz2] at hb2
 have Q2:=Lib.hid (fun y (hy:Fr nob w2 y)=>hy.heap hb2 id)
 have HW2:=Lib.hid (⟨hw2,hz2⟩:_∧_)
 have E2:=Lib.hid (Ev.of hf2 E1.out.lt)
 have G2:=Lib.hid hf2
 clear hw2 hz2 hf2 hb2
 have hvw:=view_any _ w2 sa sc s (HC.out _ _ E2.out) ea ec es (HE.out _ _ E2.out) (fun k h=>h.1) (HLA.out _ _ (E1.out.trans E2.out)) (HFR.out _ _ (E1.out.trans E2.out)) h0 (by unfold lim;omega)
 rw[HV.out.1] at hvw
 simp only at hvw
 rw[show ((0:Nat):Int)=0 from rfl] at hvw
 go_wp2_with fail
 rw[←HW2.out.1,←HW2.out.2]
 refine (hvw).mono ?_
 rintro e u3 ⟨a3,c3,rfl,hfr,hv3⟩
 have E3:=Lib.hid (Ev.of hfr E2.out.lt)
 have G3:=Lib.hid hfr
 clear hfr
 clear hvw
 have HV3:=Lib.hid (hv3.mono rPr_ok (fun k hk=>(hk.elim (fun h=>⟨Nat.lt_of_lt_of_le h.1 (E3.out.fr.size),id⟩) (fun h=>⟨h.2,id⟩):free u3 nob k)))
 have HP:=Lib.hid (SV.keep rPr_ok HV3.out)
 have t0:∀y,Fr nob u3 y→y.cell? ⟨z2,0,none⟩=some (.slice sa s.length sc):=fun y hy=>by have:=cell_of (Q2.out _ ((G3.out).andN hy)) 0;simpa using this
 have t1:∀y,Fr nob u3 y→y.cell? ⟨z2,1,none⟩=some (.slice ea es.length ec):=fun y hy=>by have:=cell_of (Q2.out _ ((G3.out).andN hy)) 1;simpa using this
 clear hv3
 go_wp2_with fail
 refine wp_region_ord [(0,true),(1,true),(2,true),(4,true),(5,true),(6,true),(8,true),(9,true),(13,true),(3,false),(7,true),(10,false),(11,true),(12,false),(14,true),(15,true),(16,true)] (Fr nob u3) rfl (by kernel_rfl) (by kernel_rfl) (by decide) (fun c a d v w h=>by cases d<;>exact h) ((Fr.refl nob u3).drew) (fun ops hops hS=>?_)
 obtain ⟨d4,hdw⟩:∃d,d=u3.drew:=⟨_,rfl⟩
 rw[←hdw] at hS ⊢
 have G4:Hid (Fr nob u3 d4):=Lib.hid (by rw[hdw];exact (Fr.refl nob u3).drew)
 have E4:=Lib.hid (Ev.of G4.out E3.out.lt)
 clear hdw
 repeat (first | (apply oF hops (by rfl) (by first | exact .plain rfl | exact .y hops rfl rfl rfl rfl);(focus (intro x hx;go_simp;rfl));go_simp) | (apply oS hops (by rfl) (by first | exact .n hops rfl rfl rfl rfl | exact .u hops rfl rfl rfl rfl);go_simp) | (apply oP hops (by rfl) (by first | exact .n hops rfl rfl rfl rfl | exact .u hops rfl rfl rfl rfl) (by assumption);go_simp))
 refine oA hops (by rfl) (by first | exact .plain rfl | exact .y hops rfl rfl rfl rfl) (fun K hK=>?_)
 go_wp2_with fail
 refine (cloneBytes_any _ _ a cap d (HB.out _ _ (E1.out.trans (E2.out.trans (E3.out.trans E4.out)))) hdl).mono ?_
 rintro e u5 ⟨a4,c4,rfl,hfr,hv4⟩
 have E5:=Lib.hid (Ev.of hfr E4.out.lt)
 have G5:=Lib.hid hfr
 clear hfr
 refine hK _ _ ⟨_,fun _ h=>h,(G4.out.andN G5.out),?_⟩
 clear hK
 go_simp
 repeat (first | (apply oF hops (by rfl) (by first | exact .plain rfl | exact .y hops rfl rfl rfl rfl);(focus (intro x hx;go_simp;rfl));go_simp) | (apply oS hops (by rfl) (by first | exact .n hops rfl rfl rfl rfl | exact .u hops rfl rfl rfl rfl);go_simp) | (apply oP hops (by rfl) (by first | exact .n hops rfl rfl rfl rfl | exact .u hops rfl rfl rfl rfl) (by assumption);go_simp))
 obtain ⟨O,hO⟩:∃O:Nat→Prop,O=newb d4 u5:=⟨_,rfl⟩
 have HO:Hid (∀k,O k→(d4).heap.size≤k∧k<(u5).heap.size):=Lib.hid (fun k hk=>by rw[hO] at hk;exact hk)
 have HV4:=Lib.hid (show BV O u5 a4 c4 d by rw[hO];exact hv4)
 have HS4:=Lib.hid ((G1.out.andN (G2.out.andN (G3.out.andN (G4.out.andN G5.out))))).size
 have HSP:=Lib.hid ((G1.out.andN (G2.out.andN (G3.out.andN G4.out)))).size
 have HS1:=Lib.hid ((E2.out.trans (E3.out.trans (E4.out.trans E5.out))).fr.size)
 have HPS:=Lib.hid ((G2.out.andN (G3.out.andN G4.out))).size
 clear hO hv4
 refine oA hops (by rfl) (by first | exact .plain rfl | exact .y hops rfl rfl rfl rfl) (fun K hK=>?_)
 go_wp2_with fail
 refine (wown_any _ _ a3 c3 l (HP.out _ _ (E4.out.trans E5.out)) (by omega) HV.out.2.1 (fun k h=>h.1)).mono ?_
 rintro e u6 ⟨a5,c5,rfl,hfr,hv5⟩
 have E6:=Lib.hid (Ev.of hfr E5.out.lt)
 have G6:=Lib.hid hfr
 clear hfr
 refine hK _ _ ⟨_,fun _ h=>h,(G4.out.andN (G5.out.andN G6.out)),?_⟩
 clear hK
 go_simp
 repeat (first | (apply oF hops (by rfl) (by first | exact .plain rfl | exact .y hops rfl rfl rfl rfl);(focus (intro x hx;go_simp;rfl));go_simp) | (apply oS hops (by rfl) (by first | exact .n hops rfl rfl rfl rfl | exact .u hops rfl rfl rfl rfl);go_simp) | (apply oP hops (by rfl) (by first | exact .n hops rfl rfl rfl rfl | exact .u hops rfl rfl rfl rfl) (by assumption);go_simp))
 have HV5:=Lib.hid hv5
 clear hv5
 obtain ⟨w8,hw8⟩:∃x,x=u6.alloc (.cells #[.slice sa s.length sc, .slice a4 d.length c4, .int .i64 es.length, .int .i64 q, .slice a5 l.length c5] 110 (0,0)):=⟨_,rfl⟩
 obtain ⟨z8,hz8⟩:∃z,z=(u6).heap.size:=⟨_,rfl⟩
 have hb8:=heap_new u6 (.cells #[.slice sa s.length sc, .slice a4 d.length c4, .int .i64 es.length, .int .i64 q, .slice a5 l.length c5] 110 (0,0))
 rw[←hw8,←hz8] at hb8
 have hf8:Fr nob u6 w8:=by rw[hw8];exact (Fr.refl nob _).alloc _
 have hs8:w8.heap.size=z8+1:=by rw[hw8,hz8];simp
 have HS5:=Lib.hid (⟨(G6.out).size,hz8,hs8⟩:_∧_∧_)
 refine oA hops (by rfl) (by first | exact .plain rfl | exact .y hops rfl rfl rfl rfl) (fun K hK=>?_)
 go_wp2_with fail
 rw[←hw8,←hz8]
 have E7:=Lib.hid (Ev.of hf8 E6.out.lt)
 have G7:=Lib.hid hf8
 refine ⟨_,fun _ h=>h,(E4.out.trans (E5.out.trans (E6.out.trans E7.out))).fr,?_⟩
 have H8:=Lib.hid hb8
 have HF8:=Lib.hid hf8
 clear hw8 hz8 hf8 hb8 hs8
 go_simp
 repeat (first | (apply oF hops (by rfl) (by first | exact .plain rfl | exact .y hops rfl rfl rfl rfl);(focus (intro x hx;go_simp;rfl));go_simp) | (apply oS hops (by rfl) (by first | exact .n hops rfl rfl rfl rfl | exact .u hops rfl rfl rfl rfl);go_simp) | (apply oP hops (by rfl) (by first | exact .n hops rfl rfl rfl rfl | exact .u hops rfl rfl rfl rfl) (by assumption);go_simp))
 apply wpOrd_nil
 go_wp2_with fail
 go_ret3
 have g1:=HS4.out
 have g2:=HSP.out
 have g3:=HS1.out
 have g4:=HPS.out
 obtain ⟨g5,g6,g7⟩:=HS5.out
 have g8:=HO.out
 refine ⟨z8,O,rfl,(G1.out.andN (G2.out.andN (G3.out.andN (G4.out.andN (G5.out.andN (G6.out.andN G7.out)))))),?_,?_⟩
 · rintro k (rfl | hk)
   · exact ⟨by omega,by omega⟩
   · exact ⟨by have:=(g8 k hk).1;omega,by have:=(g8 k hk).2;omega⟩
 · refine ⟨⟨sa,sc,a4,c4,a5,c5,by rw[HV.out.2.2.1];exact H8.out,?_,(HV4.out.frN (G6.out.andN G7.out)),?_⟩,fun hk=>?_,fun k hk=>?_,by have:=HV.out.2.2.2;omega,hm⟩
   · exact (HV1.out.frN rCol_ok (G2.out.andN (G3.out.andN (G4.out.andN (G5.out.andN (G6.out.andN G7.out)))))).mono rCol_ok (fun k hk=>⟨by have:=hk.2;omega,fun e=>e.elim (fun e=>by have:=hk.2;omega) (fun e=>by have:=hk.2;have:=(g8 k e).1;omega)⟩)
   · exact (HV5.out.frN rPr_ok HF8.out).mono rPr_ok (fun k hk=>⟨by have:=hk.2;omega,fun e=>e.elim (fun e=>by have:=hk.2;omega) (fun e=>by have:=hk.1;have:=(g8 k e).2;omega)⟩)
   · have:=(g8 _ hk).2;omega
   · have:=(g8 k hk).2;omega
end Go.Proofs.YtibpkfnfcdbiiaaGreatDoor
