/- decklelaw14.alive. -/
import Derived.Test.YtibpkfnfcdbiiaaGreatDoorEx14
namespace Go.Proofs.YtibpkfnfcdbiiaaGreatDoor
set_option linter.unusedSimpArgs false
open Go.RowKit
set_option linter.unusedVariables false
theorem ex14_cells (w:World) (B:Nat→Prop) (hB:∀k,B k→k<w.heap.size):SV rCel 2 (free (w.alloc (.cells #[.int .u64 1, .string ⟨#[]⟩, .int .u64 0, .string ⟨#[97]⟩] 74 (0,0))) B) (w.alloc (.cells #[.int .u64 1, .string ⟨#[]⟩, .int .u64 0, .string ⟨#[97]⟩] 74 (0,0))) (some ⟨w.heap.size,0,none⟩) 2 exR:=
 SV.lit rCel_ok w B hB [[.int .u64 1, .string ⟨#[]⟩],[.int .u64 0, .string ⟨#[97]⟩]] exR 74 rfl (by decide) (fun i c x hc hx=>by
  match i,hc,hx with
  | 0,hc,hx=>cases hc;cases hx;exact ⟨by decide,by decide,rfl⟩
  | 1,hc,hx=>cases hc;cases hx;exact ⟨by decide,by decide,rfl⟩
  | i+2,hc,hx=>simp at hc)
theorem ex14_two (w:World) (B:Nat→Prop) (hB:∀k,B k→k<w.heap.size) (a:Option Addr) (h:SV rCel 2 (free w B) w a 2 exR):SV rPr 2 (free (w.alloc (.cells #[.slice a 2 2, .int .i64 2, .slice a 2 2, .int .i64 (-1)] 66 (0,0))) B) (w.alloc (.cells #[.slice a 2 2, .int .i64 2, .slice a 2 2, .int .i64 (-1)] 66 (0,0))) (some ⟨w.heap.size,0,none⟩) 2 ex14P:=
 SV.lit rPr_ok w B hB [[.slice a 2 2, .int .i64 2],[.slice a 2 2, .int .i64 (-1)]] ex14P 66 rfl (by decide) (fun i c x hc hx=>by
  match i,hc,hx with
  | 0,hc,hx=>cases hc;cases hx;exact ⟨⟨by decide,by decide⟩,by decide,a,2,rfl,h⟩
  | 1,hc,hx=>cases hc;cases hx;exact ⟨⟨by decide,by decide⟩,by decide,a,2,rfl,h⟩
  | i+2,hc,hx=>simp at hc)
theorem ex14_one (w:World) (B:Nat→Prop) (hB:∀k,B k→k<w.heap.size) (a:Option Addr) (h:SV rCel 2 (free w B) w a 2 exR):SV rPr 2 (free (w.alloc (.cells #[.slice a 2 2, .int .i64 1] 66 (0,0))) B) (w.alloc (.cells #[.slice a 2 2, .int .i64 1] 66 (0,0))) (some ⟨w.heap.size,0,none⟩) 1 exA:=
 SV.lit rPr_ok w B hB [[.slice a 2 2, .int .i64 1]] exA 66 rfl (by decide) (fun i c x hc hx=>by
  match i,hc,hx with
  | 0,hc,hx=>cases hc;cases hx;exact ⟨⟨by decide,by decide⟩,by decide,a,2,rfl,h⟩
  | i+1,hc,hx=>simp at hc)
set_option maxRecDepth 100000 in
set_option maxHeartbeats 8000000 in
theorem alive14_any (w:World) (hL:Laid w) (hF:Frames w):Calls Tryz.prog 13 #[] w fun e w' =>e= .returned (.bool true)∧Fr nob w w' :=by
 have HLA:=Lib.hid (hL.keep)
 have HFR:=Lib.hid (fun y (C:Nat→Prop) (e:Ev w nob y C)=>hF.fr e.fr id)
 clear hL hF
 go_enter Tryz.func13,Tryz.ntmps13
 go_wp2_with fail
 refine (example14_any w).mono ?_
 rintro e u1 ⟨a1,rfl,hfr,hv1⟩
 have E1:=Lib.hid (Ev.of hfr (nob_lt _))
 have G1:=Lib.hid hfr
 clear hfr
 have hn:=writerNew_any _ u1 a1 2 exS hv1 (HLA.out _ _ E1.out) (by decide) (fun k h=>h)
 have hn:Calls Tryz.prog 16 #[.slice a1 2 2] u1 _:=hn
 go_wp2_with fail
 refine (hn).mono ?_
 rintro e u2 ⟨hfr,hne⟩
 have E2:=Lib.hid (Ev.of hfr E1.out.lt)
 have G2:=Lib.hid hfr
 clear hfr
 rcases hne with ⟨h,_⟩ | ⟨_,v,O,rfl,hO,hwr⟩
 · exact absurd ex_schema h
 have HWR:=Lib.hid hwr
 have EV2:=Lib.hid (((E1.out.trans E2.out)).born (fun k (hk:wB v O k)=>⟨by have:=(hO k hk).1;have:=E1.out.fr.size;omega,(hO k hk).2⟩))
 clear hwr hO hv1 hn
 have hci:=cellInt_any 1 (by omega) u2
 have hci:Calls Tryz.prog 37 #[.int .i64 1] u2 _:=hci
 go_wp2_with fail
 refine (hci).mono ?_
 rintro e u3 ⟨rfl,hfr⟩
 have E3:=Lib.hid (Ev.of hfr EV2.out.lt)
 have G3:=Lib.hid hfr
 clear hfr
 clear hci
 obtain ⟨w4,hw4⟩:∃x,x=u3.alloc (.cells #[.int .u64 1, .string ⟨#[]⟩, .int .u64 0, .string ⟨#[97]⟩] 74 (0,0)):=⟨_,rfl⟩
 obtain ⟨z4,hz4⟩:∃x,x=(u3).heap.size:=⟨_,rfl⟩
 have hr4:=ex14_cells u3 _ E3.out.lt
 rw[←hw4,←hz4] at hr4
 have hf4:Fr nob u3 w4:=by rw[hw4];exact (Fr.refl nob _).alloc _
 have hs4:w4.heap.size=z4+1:=by rw[hw4,hz4];simp
 have HW4:=Lib.hid (⟨hw4,hz4⟩:_∧_)
 clear hw4 hz4
 have E4:=Lib.hid (Ev.of hf4 E3.out.lt)
 have G4:=Lib.hid hf4
 have HR:=Lib.hid (SV.keep rCel_ok hr4)
 clear hr4
 obtain ⟨w5,hw5⟩:∃x,x=w4.alloc (.cells #[.slice (some ⟨z4,0,none⟩) 2 2, .int .i64 2, .slice (some ⟨z4,0,none⟩) 2 2, .int .i64 (-1)] 66 (0,0)):=⟨_,rfl⟩
 have hp5:=ex14_two w4 _ E4.out.lt _ (HR.out _ _ (Ev.refl E4.out.lt))
 rw[←hw5,hs4] at hp5
 have hf5:Fr nob w4 w5:=by rw[hw5];exact (Fr.refl nob _).alloc _
 have HW5:=Lib.hid hw5
 clear hw5 hf4
 have E5:=Lib.hid (Ev.of hf5 E4.out.lt)
 have G5:=Lib.hid hf5
 have HP:=Lib.hid (SV.keep rPr_ok hp5)
 clear hp5
 go_wp2_with fail
 rw[←HW4.out.1,←HW4.out.2,←HW5.out]
 have hap:=append_w (HWR.out.go (G3.out.andN (G4.out.andN G5.out))) (HP.out _ _ (Ev.refl E5.out.lt)) (fun u hu=>HLA.out _ _ (((EV2.out.trans (E3.out.trans (E4.out.trans E5.out)))).trans (Ev.of hu E5.out.lt))) (HFR.out _ _ (EV2.out.trans (E3.out.trans (E4.out.trans E5.out)))) (by decide) (by decide) (by decide) ⟨by omega,by omega⟩
 have hap:Calls Tryz.prog 30 #[.pointer (some ⟨v,0,none⟩), .slice (some ⟨z4+1,0,none⟩) 2 2] w5 _:=hap
 refine hap.mono ?_
 rintro e w6 hape
 obtain ⟨x0,hx0⟩:∃x,x=entryBy exS 0 1 exA:=⟨_,rfl⟩
 obtain ⟨O6,a6,c6,rfl,hev6,hb6,hwr6⟩:=append_ex hape
 rw[←hx0] at hb6 hwr6 ⊢
 have HX0:=Lib.hid hx0
 clear hx0
 have EV6:=Lib.hid hev6
 have HWR6:=Lib.hid hwr6
 clear hap hape hev6 hwr6
 have HB6:=Lib.hid (BV.keep hb6)
 clear hb6
 have hsn:=snap_w HWR6.out (fun u hu=>HLA.out _ _ (((EV2.out.trans (E3.out.trans (E4.out.trans (E5.out.trans EV6.out))))).trans (Ev.of hu EV6.out.lt))) (HFR.out _ _ (EV2.out.trans (E3.out.trans (E4.out.trans (E5.out.trans EV6.out))))) (by decide) (by decide) ⟨by omega,by omega⟩
 go_wp2_with fail
 refine hsn.mono ?_
 rintro e w7 hsne
 obtain ⟨x1,hx1⟩:∃x,x=entryBy exS 1 1 exA:=⟨_,rfl⟩
 obtain ⟨O7,a7,c7,rfl,hev7,hb7,hwr7⟩:=snap_ex hsne
 rw[←hx1] at hb7 hwr7 ⊢
 have HX1:=Lib.hid hx1
 clear hx1
 have EV7:=Lib.hid hev7
 have HWR7:=Lib.hid hwr7
 clear hsn hsne hev7 hwr7
 have HB7:=Lib.hid (BV.keep hb7)
 clear hb7
 obtain ⟨w8,hw8⟩:∃x,x=w7.alloc (.cells #[.slice (some ⟨z4,0,none⟩) 2 2, .int .i64 1] 66 (0,0)):=⟨_,rfl⟩
 obtain ⟨z8,hz8⟩:∃x,x=w7.heap.size:=⟨_,rfl⟩
 have hp8:=ex14_one w7 _ EV7.out.lt _ (HR.out _ _ (E5.out.trans (EV6.out.trans EV7.out)))
 rw[←hw8,←hz8] at hp8
 have hf8:Fr nob w7 w8:=by rw[hw8];exact (Fr.refl nob _).alloc _
 have HW8:=Lib.hid (⟨hw8,hz8⟩:_∧_)
 clear hw8 hz8
 have E6:=Lib.hid (Ev.of hf8 EV7.out.lt)
 have G6:=Lib.hid hf8
 have HO:=Lib.hid (SV.keep rPr_ok hp8)
 clear hp8
 go_wp2_with fail
 rw[←HW8.out.1,←HW8.out.2]
 refine (example14_any w8).mono ?_
 rintro e w9 ⟨a9,rfl,hf9,hv9⟩
 have E7:=Lib.hid (Ev.of hf9 E6.out.lt)
 have G7:=Lib.hid hf9
 have he9:=entryWrite_any _ _ w9 a9 (some ⟨z8,0,none⟩) 2 1 exS 0 1 exA hv9 (HO.out _ _ E7.out) (HLA.out _ _ (EV2.out.trans (E3.out.trans (E4.out.trans (E5.out.trans (EV6.out.trans (EV7.out.trans (E6.out.trans E7.out)))))))) (HFR.out _ _ (EV2.out.trans (E3.out.trans (E4.out.trans (E5.out.trans (EV6.out.trans (EV7.out.trans (E6.out.trans E7.out)))))))) (by decide) (by decide) (fun k h=>h) (fun k h=>h.1)
 rw[←HX0.out,show entryErr exS 0 1 exA=0 from ex_entry 0 (by omega)] at he9
 have he9:Calls Tryz.prog 48 #[.slice a9 2 2, .agg #[.int .i64 0, .int .i64 1, .slice (some ⟨z8,0,none⟩) 1 1]] w9 _:=he9
 clear hv9
 go_wp2_with fail
 refine he9.mono ?_
 rintro e w10 ⟨a10,c10,rfl,hf10,hv10⟩
 clear he9
 have E8:=Lib.hid (Ev.of hf10 E7.out.lt)
 have G8:=Lib.hid hf10
 have HB10:=Lib.hid (BV.keep (hv10.new E7.out.lt))
 clear hv10
 go_wp2_with fail
 refine (example14_any w10).mono ?_
 rintro e w11 ⟨a11,rfl,hf11,hv11⟩
 have E9:=Lib.hid (Ev.of hf11 E8.out.lt)
 have G9:=Lib.hid hf11
 have he11:=entryWrite_any _ _ w11 a11 (some ⟨z8,0,none⟩) 2 1 exS 1 1 exA hv11 (HO.out _ _ (E7.out.trans (E8.out.trans E9.out))) (HLA.out _ _ (EV2.out.trans (E3.out.trans (E4.out.trans (E5.out.trans (EV6.out.trans (EV7.out.trans (E6.out.trans (E7.out.trans (E8.out.trans E9.out)))))))))) (HFR.out _ _ (EV2.out.trans (E3.out.trans (E4.out.trans (E5.out.trans (EV6.out.trans (EV7.out.trans (E6.out.trans (E7.out.trans (E8.out.trans E9.out)))))))))) (by decide) (by decide) (fun k h=>h) (fun k h=>h.1)
 rw[←HX1.out,show entryErr exS 1 1 exA=0 from ex_entry 1 (by omega)] at he11
 have he11:Calls Tryz.prog 48 #[.slice a11 2 2, .agg #[.int .i64 1, .int .i64 1, .slice (some ⟨z8,0,none⟩) 1 1]] w11 _:=he11
 clear hv11
 go_wp2_with fail
 refine he11.mono ?_
 rintro e w12 ⟨a12,c12,rfl,hf12,hv12⟩
 clear he11
 have E10:=Lib.hid (Ev.of hf12 E9.out.lt)
 have G10:=Lib.hid hf12
 have HB12:=Lib.hid (BV.keep (hv12.new E9.out.lt))
 clear hv12
 have qa:=str_of (HB6.out _ _ (EV7.out.trans (E6.out.trans (E7.out.trans (E8.out.trans (E9.out.trans E10.out))))))
 have qb:=str_of (HB7.out _ _ (E6.out.trans (E7.out.trans (E8.out.trans (E9.out.trans E10.out)))))
 have qc:=str_of (HB10.out _ _ (E9.out.trans E10.out))
 have qd:=str_of (HB12.out _ _ (Ev.refl E10.out.lt))
 go_wp2_with fail
 refine (wSeq_any (HWR7.out.go (G6.out.andN (G7.out.andN (G8.out.andN (G9.out.andN G10.out)))))).mono ?_
 rintro e w13 ⟨rfl,hf13⟩
 have E11:=Lib.hid (Ev.of hf13 E10.out.lt)
 have G11:=Lib.hid hf13
 go_wp2_with fail
 refine (wMany_any (HWR7.out.go (G6.out.andN (G7.out.andN (G8.out.andN (G9.out.andN (G10.out.andN G11.out))))))).mono ?_
 rintro e w14 ⟨rfl,hf14⟩
 have E12:=Lib.hid (Ev.of hf14 E11.out.lt)
 have G12:=Lib.hid hf14
 go_wp2_with fail
 go_ret
 exact ⟨rfl,((EV2.out.trans (E3.out.trans (E4.out.trans (E5.out.trans (EV6.out.trans (EV7.out.trans (E6.out.trans (E7.out.trans (E8.out.trans (E9.out.trans (E10.out.trans (E11.out.trans E12.out))))))))))))).toN⟩
end Go.Proofs.YtibpkfnfcdbiiaaGreatDoor
