/- decklelaw14.WriterReopens, walked. -/
import Derived.Test.YtibpkfnfcdbiiaaGreatDoorWent
import Derived.Test.YtibpkfnfcdbiiaaGreatDoorWriterO
import Derived.Test.YtibpkfnfcdbiiaaGreatDoorGreat14
namespace Go.Proofs.YtibpkfnfcdbiiaaGreatDoor
set_option linter.unusedSimpArgs false
open Go.RowKit
set_option linter.unusedVariables false
set_option maxRecDepth 100000 in
set_option maxHeartbeats 16000000 in
theorem writerReopens_card (w:World) (hL:Laid w) (hF:Frames w) (a:Option Addr) (ca:Nat) (s:List Col) (hs:SV rCol 2 (old w) w a ca s) (h0:s.length≤lim) (b:Option Addr) (cb:Nat) (L:List ActC) (hl:SV rActC 2 (old w) w b cb L) (h1:L.length≤lim) (htot:(L.flatMap (·.prs)).length≤1048576) (at_:Nat) (hat:at_≤255):
 Calls Tryz.prog 9 #[.slice a s.length ca, .slice b L.length cb, .int .u8 at_] w fun e w' =>e= .returned (.bool true)∧Fr nob w w' :=by
 have hs' :=hs.within rCol_ok (fun k h=>h)
 have HS:=Lib.hid (SV.keep rCol_ok hs')
 clear hs'
 have hl' :=hl.within rActC_ok (fun k h=>h)
 have HL:=Lib.hid (SV.keep rActC_ok hl')
 clear hl'
 clear hs hl
 have HLA:=Lib.hid (hL.keep)
 have HFR:=Lib.hid (fun y (C:Nat→Prop) (e:Ev w nob y C)=>hF.fr e.fr id)
 have HLIM:=Lib.hid (⟨h0,h1,htot⟩:_∧_∧_)
 have hl3:=h0
 unfold lim at hl3
 clear hL hF h0 h1 htot
 go_enter Tryz.func9,Tryz.ntmps9
 go_wp2_with fail
 refine (alive14_any _ (HLA.out _ _ (Ev.refl (nob_lt _))) (HFR.out _ _ (Ev.refl (nob_lt _)))).mono ?_
 rintro e u1 ⟨rfl,hfr⟩
 have E1:=Lib.hid (Ev.of hfr (nob_lt _))
 have G1:=Lib.hid hfr
 clear hfr
 go_wp2_with fail
 refine (great14_any _ u1 b cb L (HL.out _ _ E1.out) HLIM.out.2.1 HLIM.out.2.2 (fun k h=>h.1)).mono ?_
 rintro e u2 ⟨⟨g,rfl,hg⟩,hfr⟩
 have E2:=Lib.hid (Ev.of hfr E1.out.lt)
 have G2:=Lib.hid hfr
 clear hfr
 by_cases hg0:0<g
 · go_wp2_with fail
   refine (alive14_any _ (HLA.out _ _ (E1.out.trans E2.out)) (HFR.out _ _ (E1.out.trans E2.out))).mono ?_
   rintro e u3 ⟨rfl,hfr⟩
   have E3:=Lib.hid (Ev.of hfr E2.out.lt)
   have G3:=Lib.hid hfr
   clear hfr
   go_wp2_with fail
   go_ret
   exact ⟨rfl,((E1.out.trans (E2.out.trans E3.out))).toN⟩
 obtain ⟨hL30,hT⟩:=hg hg0
 clear hg
 by_cases h30:30<s.length
 · go_wp2_with fail
   refine (alive14_any _ (HLA.out _ _ (E1.out.trans E2.out)) (HFR.out _ _ (E1.out.trans E2.out))).mono ?_
   rintro e u4 ⟨rfl,hfr⟩
   have E4:=Lib.hid (Ev.of hfr E2.out.lt)
   have G4:=Lib.hid hfr
   clear hfr
   go_wp2_with fail
   go_ret
   exact ⟨rfl,((E1.out.trans (E2.out.trans E4.out))).toN⟩
 go_wp2_with fail
 refine (writerNew_any _ u2 a ca s (HS.out _ _ (E1.out.trans E2.out)) (HLA.out _ _ (E1.out.trans E2.out)) HLIM.out.1 (fun k h=>h.1)).mono ?_
 rintro e u5 ⟨hfr,hne⟩
 have E5:=Lib.hid (Ev.of hfr E2.out.lt)
 have G5:=Lib.hid hfr
 clear hfr
 rcases hne with ⟨hsc,rfl⟩ | ⟨hsc,v,O,rfl,hO,hwr⟩
 · have d1:=intne hsc
   go_wp2_with fail
   go_ret
   exact ⟨by simp,((E1.out.trans (E2.out.trans E5.out))).toN⟩
 have HWR0:=Lib.hid hwr
 have hev0:=((E1.out.trans (E2.out.trans E5.out))).born (fun k (hk:wB v O k)=>⟨by have:=(hO k hk).1;have:=((G1.out.andN G2.out)).size;omega,(hO k hk).2⟩)
 have HEV0:=Lib.hid hev0
 have HSC:=Lib.hid hsc
 have hbl0:=hwr.len
 clear hwr hO hev0 hsc
 go_wp2_with fail
 refine (wBytes_any HWR0.out).mono ?_
 rintro e u6 ⟨wa0,wc0,rfl,hfr,hv0⟩
 have E6:=Lib.hid (Ev.of hfr HEV0.out.lt)
 have G6:=Lib.hid hfr
 clear hfr
 have HWA0:=Lib.hid (BV.keep (hv0.new HEV0.out.lt))
 clear hv0
 have HB0:=Lib.hid (HWA0.out _ _ (Ev.refl E6.out.lt))
 have HE0:=Lib.hid (HEV0.out.trans E6.out)
 have HZ0:=Lib.hid (HWR0.out.go G6.out)
 have hw1:IntKind.i64.wrap ((L.length:Int)+1)=L.length+1:=by rw[IntWalk.i64_in _ (by omega)]
 have hw2:IntKind.i64.wrap (at_:Int)=at_:=by rw[IntWalk.i64_in _ (by omega)]
 go_wp2_with fail
 obtain ⟨kk,hkk⟩:∃kk:Int,kk=(at_:Int)%((L.length:Int)+1):=⟨_,rfl⟩
 rw[←hkk]
 clear hw1 hw2 hkk
 go_loopw [7,9,56] (fun v7 v9 v56 wr=>∃(k v:Nat) (O' :Nat→Prop) (d:List UInt8) (m:Nat) (q:Int) (l:List Pr) (es:List Ent) (wa:Option Addr) (wc:Nat),v56= .int .i64 k∧v7= .pointer (some ⟨v,0,none⟩)∧v9= .slice wa d.length wc∧k≤L.length∧WrAt wr O' v s d m q l∧WrOf s es d m q l∧Canon s l∧l.length≤1024∧(0≤q∧q≤281474976710656)∧Ev w nob wr (wB v O')∧BV (free wr (wB v O')) wr wa wc d) (fun _ _ v56 _=>L.length - (intOf v56).toNat)
 case atStart=>exact ⟨0,v,O,headBytes s,0,0,[],[],wa0,wc0,rfl,rfl,rfl,Nat.zero_le _,HZ0.out,WrOf.new HSC.out,canon_nil s,by simp,⟨by omega,by omega⟩,HE0.out,HB0.out⟩
 case round=>
  obtain ⟨k,v,O',d,m,q,l,es,wa,wc,rfl,rfl,rfl,hk,hwr,hof,hcan,hll,hq,hev,hwa⟩:=hrel
  obtain ⟨wo,rfl⟩:∃x1,x1=wr:=⟨_,rfl⟩
  have HEV:=Lib.hid hev
  have HWR:=Lib.hid hwr
  have HOF:=Lib.hid (⟨hof,hcan⟩:_∧_)
  have hdl:=hwr.len
  have hmm:=hwr.mm
  clear hev hwr hof hcan
  by_cases hlt:k<L.length
  · obtain ⟨b1,off,ra,rc,rfl,_,_,hpl,hp,c0,c1⟩:=act_at (HL.out w nob (Ev.start w)) hlt
    have htot:=take_as_le L (k+1)
    rw[take_as_succ hlt,List.length_append] at htot
    have hpl2:L[k].prs.length≤200:=by omega
    generalize L[k]=act at hp c0 c1 hpl2
    obtain ⟨kd,prs⟩:=act
    simp only at hp c0 c1 hpl2
    clear hpl htot
    have c0:=HEV.out.fr.cell c0 id
    have c1:=HEV.out.fr.cell c1 id
    have HP:=Lib.hid (SV.keep rPr_ok hp)
    clear hp
    have HWA:=Lib.hid (BV.keep hwa)
    clear hwa
    obtain ⟨w2,hw2⟩:∃x,x=wo.alloc (.cells #[.int .i64 kd, .slice ra prs.length rc] 89 (0,0)):=⟨_,rfl⟩
    obtain ⟨z,hz⟩:∃x,x=wo.heap.size:=⟨_,rfl⟩
    have hf2:Fr nob wo w2:=by rw[hw2];exact (Fr.refl nob _).alloc _
    have hB2:=heap_new wo (.cells #[.int .i64 kd, .slice ra prs.length rc] 89 (0,0))
    rw[←hw2,←hz] at hB2
    have E7:=Lib.hid (Ev.of hf2 HEV.out.lt)
    have G7:=Lib.hid hf2
    have QZ:=Lib.hid (fun y (hy:Fr nob w2 y)=>hy.heap hB2 id)
    have HW2:=Lib.hid (⟨hw2,hz⟩:_∧_)
    clear hB2 hf2 hw2 hz
    by_cases hkk:(k:Int)=kk
    · subst hkk
      go_wp2_with fail
      rw[←HW2.out.1,←HW2.out.2]
      refine (wBytes_any (HWR.out.go G7.out)).mono ?_
      rintro e w3 ⟨a3,c3,rfl,hf3,hv3⟩
      have E8:=Lib.hid (Ev.of hf3 E7.out.lt)
      have G8:=Lib.hid hf3
      have HB3:=Lib.hid (BV.keep (hv3.new E7.out.lt))
      clear hv3
      clear hf3 c0 c1
      go_wp2_with fail
      refine (writerOpen_any HOF.out.1 hmm _ w3 (fun k h=>h.1) a3 c3 (HB3.out _ _ (Ev.refl E8.out.lt)) hdl (HLA.out _ _ (HEV.out.trans (E7.out.trans E8.out))) (HFR.out _ _ (HEV.out.trans (E7.out.trans E8.out))) HLIM.out.1).mono ?_
      rintro e w4 ⟨v4,O4,rfl,hf4,hO4,hwr4⟩
      have hsz4:=hf4.size
      have HE4:=Lib.hid ((((HEV.out.trans (E7.out.trans E8.out))).drop (B2:=nob) (fun k h=>h.elim)).take hf4 hO4)
      have HWR4:=Lib.hid hwr4
      have hwa4:BV (free w4 (wB v4 O4)) w4 wa wc d:=(((HWA.out _ _ (E7.out.trans E8.out))).frN hf4).mono (fun k hk=>⟨Nat.lt_of_lt_of_le hk.1 hsz4,fun e=>by have:=(hO4 k e).1;have:=hk.1;omega⟩)
      have hB4:=QZ.out w4 ((G8.out).andN hf4)
      have y0:=cell_of hB4 0
      have y1:=cell_of hB4 1
      simp at y0 y1
      clear hf4 hO4 hwr4 hB4 hsz4
      have HWA:=Lib.hid (BV.keep hwa4)
      clear hwa4
      by_cases hk0:kd=0
      · subst hk0
        go_wp2_with fail
        refine (append_w (HWR4.out.go (Fr.refl nob _)) (HP.out _ _ HE4.out) (fun u hu=>HLA.out _ _ ((HE4.out).trans (Ev.of hu HE4.out.lt))) (HFR.out _ _ HE4.out) HLIM.out.1 (by unfold lim;omega) (by omega) hq).mono ?_
        rintro e w7 hst0
        have hst:=hst0.went (HWR4.out.go (Fr.refl nob _)) HOF.out.1 HSC.out HOF.out.2 hll hq
        clear hst0
        obtain ⟨O7,a7,c7,x,es7,m7,q7,l7,k7,rfl,hev7,hb7,hwr7,hof7,hco7,hlo7,hqq7,hxl7⟩:=hst
        have HEV7:=Lib.hid hev7
        have HWR7:=Lib.hid hwr7
        have HC7:=Lib.hid (⟨hof7,hco7,hlo7,hqq7⟩:_∧_∧_∧_)
        have hdl7:=hwr7.len
        have hmm7:=hwr7.mm
        clear hev7 hwr7 hof7 hco7 hlo7 hqq7 y0 y1
        have HX7:=Lib.hid (BV.keep hb7)
        clear hb7
        have hln:(d++x).length=d.length+x.length:=List.length_append
        have hdx:d.length+x.length≤4300000000:=by omega
        obtain ⟨w8,hw8⟩:∃y,y=w7.alloc (.cells #[] 5 (0,0)):=⟨_,rfl⟩
        obtain ⟨z8,hz8⟩:∃y,y=w7.heap.size:=⟨_,rfl⟩
        have hf8:Fr nob w7 w8:=by rw[hw8];exact (Fr.refl nob _).alloc _
        have hem:=Vec.empty w7 5 1
        have hsrc:=BV.src (P:=Tryz.prog) (((HWA.out _ _ HEV7.out)).frN hf8) Tryz.underlying27
        rw[hw8] at hsrc
        have HSR:=Lib.hid (⟨hem,hsrc⟩:_∧_)
        have HW8:=Lib.hid (⟨hw8,hz8,hf8⟩:_∧_∧_)
        clear hem hsrc hw8 hz8 hf8 hln
        go_wp2_with (at_builtin;refine wpList_append_vec rfl _ _ _ _ rfl rfl HSR.out.1 _ _ _ Tryz.underlying27 inf_u8 rfl _ d.length (bv d) rfl HSR.out.2 (by unfold maxLen;omega) (by omega) ?_)
        intro a9 c9 w9 hv9 hf9 _
        rw[←HW8.out.1] at hv9 hf9
        have f9:=frN_newb w7 _ hf9 HW8.out.2.2
        have hv9' :Vec (newb w7 w9) w9 1 a9 d.length c9 (bv d):=by simpa using hv9.mono (grow_newb w7 _ w9 (by rw[HW8.out.1];simp) hf9.size)
        have f79:=f9
        have hsx:=BV.src (P:=Tryz.prog) (((HX7.out _ _ (Ev.refl HEV7.out.lt))).frN f79) Tryz.underlying27
        have HSX:=Lib.hid (⟨hv9',hsx,f79⟩:_∧_∧_)
        clear hv9 hf9 f9 hv9' f79 hsx
        go_wp2_with (at_builtin;refine wpList_append_vec rfl _ _ _ _ rfl rfl HSX.out.1 _ _ _ Tryz.underlying27 inf_u8 rfl _ x.length (bv x) rfl HSX.out.2.1 (by unfold maxLen;omega) (by omega) ?_)
        intro a10 c10 w10 hv10 hf10 _
        have f710:Fr nob w7 w10:=HSX.out.2.2.trans hf10 (T:=nob) (fun k hk h=>by have:=h.1;omega)
        have hv10' :BV (newb w7 w10) w10 a10 c10 (d++x):=by
         have h:=hv10.mono (T:=newb w7 w10) (fun k hk=>hk.elim (fun h=>⟨h.1,Nat.lt_of_lt_of_le h.2 hf10.size⟩) (fun h=>⟨Nat.le_trans HSX.out.2.2.size h.1,h.2⟩))
         rw[←bv_append,←List.length_append] at h
         exact h
        clear hv10 hf10
        have E9:=Lib.hid (Ev.of f710 HEV7.out.lt)
        have G9:=Lib.hid f710
        have HN10:=Lib.hid (BV.keep (hv10'.new HEV7.out.lt))
        clear hv10'
        have HS2:=Lib.hid (fun y (hy:Fr nob w10 y)=>(by have h:=str_of (((HN10.out _ _ (Ev.refl E9.out.lt))).frN hy);rw[List.length_append] at h;exact h:(convert 27 9 (.slice a10 (d.length+x.length) c10)).run Tryz.prog y= .ok (.string (bs (d++x))) y))
        clear f710
        have q2:∀y,Fr nob w10 y→(convert 27 9 (.slice a10 (d.length+x.length) c10)).run Tryz.prog y= .ok (.string (bs (d++x))) y:=fun y hy=>HS2.out y hy
        go_wp2_with fail
        refine wp_region_ord [(0,true),(3,true),(4,true),(1,false),(2,true),(5,true)] (Fr nob w10) rfl (by kernel_rfl) (by kernel_rfl) (by decide) (fun c a d v w h=>by cases d<;>exact h) ((Fr.refl nob w10).drew) (fun ops hops hS=>?_)
        obtain ⟨d10,hdw⟩:∃d,d=w10.drew:=⟨_,rfl⟩
        rw[←hdw] at hS ⊢
        have G10:Hid (Fr nob w10 d10):=Lib.hid (by rw[hdw];exact (Fr.refl nob w10).drew)
        have E10:=Lib.hid (Ev.of G10.out E9.out.lt)
        clear hdw
        repeat (first | (apply oF hops (by rfl) (by first | exact .plain rfl | exact .y hops rfl rfl rfl rfl);(focus (intro x hx;go_simp;rfl));go_simp) | (apply oS hops (by rfl) (by first | exact .n hops rfl rfl rfl rfl | exact .u hops rfl rfl rfl rfl);go_simp) | (apply oP hops (by rfl) (by first | exact .n hops rfl rfl rfl rfl | exact .u hops rfl rfl rfl rfl) (by assumption);go_simp))
        refine oA hops (by rfl) (by first | exact .plain rfl | exact .y hops rfl rfl rfl rfl) (fun K hK=>?_)
        go_wp2_with fail
        refine (wBytes_any (HWR7.out.go (G9.out.andN G10.out))).mono ?_
        rintro e u11 ⟨a11,c11,rfl,hfr,hv11⟩
        have E11:=Lib.hid (Ev.of hfr E10.out.lt)
        have G11:=Lib.hid hfr
        clear hfr
        refine hK _ _ ⟨Fr nob u11,fun x hx=>((G10.out.andN G11.out).andN hx),Fr.refl _ _,?_⟩
        clear hK
        go_simp
        have qs:∀y,Fr nob u11 y→(convert 27 9 (.slice a11 (d.length+x.length) c11)).run Tryz.prog y= .ok (.string (bs (d++x))) y:=fun y hy=>by have h:=str_of (hv11.frN hy);rw[List.length_append] at h;exact h
        repeat (first | (apply oF hops (by rfl) (by first | exact .plain rfl | exact .y hops rfl rfl rfl rfl);(focus (intro x hx;go_simp;rfl));go_simp) | (apply oS hops (by rfl) (by first | exact .n hops rfl rfl rfl rfl | exact .u hops rfl rfl rfl rfl);go_simp) | (apply oP hops (by rfl) (by first | exact .n hops rfl rfl rfl rfl | exact .u hops rfl rfl rfl rfl) (by assumption);go_simp))
        apply wpOrd_nil
        clear qs q2 hv11
        go_wp2_with fail
        go_roundw
        case rel=>exact ⟨k+1,v4,O7,d++x,m7,q7,l7,es7,a10,c10,by go_num,rfl,by rw[List.length_append],by omega,HWR7.out.go (G9.out.andN (G10.out.andN G11.out)),HC7.out.1,HC7.out.2.1,HC7.out.2.2.1,HC7.out.2.2.2,(HE4.out.trans (HEV7.out.trans (E9.out.trans (E10.out.trans E11.out)))),(HN10.out _ _ (E10.out.trans E11.out))⟩
        case measure=>simp[intOf];omega
      · have dk:=beq_eq_false_iff_ne.2 hk0
        go_wp2_with fail
        refine (snap_w (HWR4.out.go (Fr.refl nob _)) (fun u hu=>HLA.out _ _ ((HE4.out).trans (Ev.of hu HE4.out.lt))) (HFR.out _ _ HE4.out) HLIM.out.1 (by unfold lim;omega) hq).mono ?_
        rintro e w7 hst0
        have hst:=hst0.went (HWR4.out.go (Fr.refl nob _)) HOF.out.1 HSC.out HOF.out.2 hll hq
        clear hst0
        obtain ⟨O7,a7,c7,x,es7,m7,q7,l7,k7,rfl,hev7,hb7,hwr7,hof7,hco7,hlo7,hqq7,hxl7⟩:=hst
        have HEV7:=Lib.hid hev7
        have HWR7:=Lib.hid hwr7
        have HC7:=Lib.hid (⟨hof7,hco7,hlo7,hqq7⟩:_∧_∧_∧_)
        have hdl7:=hwr7.len
        have hmm7:=hwr7.mm
        clear hev7 hwr7 hof7 hco7 hlo7 hqq7 y0 y1
        have HX7:=Lib.hid (BV.keep hb7)
        clear hb7
        have hln:(d++x).length=d.length+x.length:=List.length_append
        have hdx:d.length+x.length≤4300000000:=by omega
        obtain ⟨w8,hw8⟩:∃y,y=w7.alloc (.cells #[] 5 (0,0)):=⟨_,rfl⟩
        obtain ⟨z8,hz8⟩:∃y,y=w7.heap.size:=⟨_,rfl⟩
        have hf8:Fr nob w7 w8:=by rw[hw8];exact (Fr.refl nob _).alloc _
        have hem:=Vec.empty w7 5 1
        have hsrc:=BV.src (P:=Tryz.prog) (((HWA.out _ _ HEV7.out)).frN hf8) Tryz.underlying27
        rw[hw8] at hsrc
        have HSR:=Lib.hid (⟨hem,hsrc⟩:_∧_)
        have HW8:=Lib.hid (⟨hw8,hz8,hf8⟩:_∧_∧_)
        clear hem hsrc hw8 hz8 hf8 hln
        go_wp2_with (at_builtin;refine wpList_append_vec rfl _ _ _ _ rfl rfl HSR.out.1 _ _ _ Tryz.underlying27 inf_u8 rfl _ d.length (bv d) rfl HSR.out.2 (by unfold maxLen;omega) (by omega) ?_)
        intro a9 c9 w9 hv9 hf9 _
        rw[←HW8.out.1] at hv9 hf9
        have f9:=frN_newb w7 _ hf9 HW8.out.2.2
        have hv9' :Vec (newb w7 w9) w9 1 a9 d.length c9 (bv d):=by simpa using hv9.mono (grow_newb w7 _ w9 (by rw[HW8.out.1];simp) hf9.size)
        have f79:=f9
        have hsx:=BV.src (P:=Tryz.prog) (((HX7.out _ _ (Ev.refl HEV7.out.lt))).frN f79) Tryz.underlying27
        have HSX:=Lib.hid (⟨hv9',hsx,f79⟩:_∧_∧_)
        clear hv9 hf9 f9 hv9' f79 hsx
        go_wp2_with (at_builtin;refine wpList_append_vec rfl _ _ _ _ rfl rfl HSX.out.1 _ _ _ Tryz.underlying27 inf_u8 rfl _ x.length (bv x) rfl HSX.out.2.1 (by unfold maxLen;omega) (by omega) ?_)
        intro a10 c10 w10 hv10 hf10 _
        have f710:Fr nob w7 w10:=HSX.out.2.2.trans hf10 (T:=nob) (fun k hk h=>by have:=h.1;omega)
        have hv10' :BV (newb w7 w10) w10 a10 c10 (d++x):=by
         have h:=hv10.mono (T:=newb w7 w10) (fun k hk=>hk.elim (fun h=>⟨h.1,Nat.lt_of_lt_of_le h.2 hf10.size⟩) (fun h=>⟨Nat.le_trans HSX.out.2.2.size h.1,h.2⟩))
         rw[←bv_append,←List.length_append] at h
         exact h
        clear hv10 hf10
        have E12:=Lib.hid (Ev.of f710 HEV7.out.lt)
        have G12:=Lib.hid f710
        have HN10:=Lib.hid (BV.keep (hv10'.new HEV7.out.lt))
        clear hv10'
        have HS2:=Lib.hid (fun y (hy:Fr nob w10 y)=>(by have h:=str_of (((HN10.out _ _ (Ev.refl E12.out.lt))).frN hy);rw[List.length_append] at h;exact h:(convert 27 9 (.slice a10 (d.length+x.length) c10)).run Tryz.prog y= .ok (.string (bs (d++x))) y))
        clear f710
        have q2:∀y,Fr nob w10 y→(convert 27 9 (.slice a10 (d.length+x.length) c10)).run Tryz.prog y= .ok (.string (bs (d++x))) y:=fun y hy=>HS2.out y hy
        go_wp2_with fail
        refine wp_region_ord [(0,true),(3,true),(4,true),(1,false),(2,true),(5,true)] (Fr nob w10) rfl (by kernel_rfl) (by kernel_rfl) (by decide) (fun c a d v w h=>by cases d<;>exact h) ((Fr.refl nob w10).drew) (fun ops hops hS=>?_)
        obtain ⟨d13,hdw⟩:∃d,d=w10.drew:=⟨_,rfl⟩
        rw[←hdw] at hS ⊢
        have G13:Hid (Fr nob w10 d13):=Lib.hid (by rw[hdw];exact (Fr.refl nob w10).drew)
        have E13:=Lib.hid (Ev.of G13.out E12.out.lt)
        clear hdw
        repeat (first | (apply oF hops (by rfl) (by first | exact .plain rfl | exact .y hops rfl rfl rfl rfl);(focus (intro x hx;go_simp;rfl));go_simp) | (apply oS hops (by rfl) (by first | exact .n hops rfl rfl rfl rfl | exact .u hops rfl rfl rfl rfl);go_simp) | (apply oP hops (by rfl) (by first | exact .n hops rfl rfl rfl rfl | exact .u hops rfl rfl rfl rfl) (by assumption);go_simp))
        refine oA hops (by rfl) (by first | exact .plain rfl | exact .y hops rfl rfl rfl rfl) (fun K hK=>?_)
        go_wp2_with fail
        refine (wBytes_any (HWR7.out.go (G12.out.andN G13.out))).mono ?_
        rintro e u14 ⟨a11,c11,rfl,hfr,hv11⟩
        have E14:=Lib.hid (Ev.of hfr E13.out.lt)
        have G14:=Lib.hid hfr
        clear hfr
        refine hK _ _ ⟨Fr nob u14,fun x hx=>((G13.out.andN G14.out).andN hx),Fr.refl _ _,?_⟩
        clear hK
        go_simp
        have qs:∀y,Fr nob u14 y→(convert 27 9 (.slice a11 (d.length+x.length) c11)).run Tryz.prog y= .ok (.string (bs (d++x))) y:=fun y hy=>by have h:=str_of (hv11.frN hy);rw[List.length_append] at h;exact h
        repeat (first | (apply oF hops (by rfl) (by first | exact .plain rfl | exact .y hops rfl rfl rfl rfl);(focus (intro x hx;go_simp;rfl));go_simp) | (apply oS hops (by rfl) (by first | exact .n hops rfl rfl rfl rfl | exact .u hops rfl rfl rfl rfl);go_simp) | (apply oP hops (by rfl) (by first | exact .n hops rfl rfl rfl rfl | exact .u hops rfl rfl rfl rfl) (by assumption);go_simp))
        apply wpOrd_nil
        clear qs q2 hv11
        go_wp2_with fail
        go_roundw
        case rel=>exact ⟨k+1,v4,O7,d++x,m7,q7,l7,es7,a10,c10,by go_num,rfl,by rw[List.length_append],by omega,HWR7.out.go (G12.out.andN (G13.out.andN G14.out)),HC7.out.1,HC7.out.2.1,HC7.out.2.2.1,HC7.out.2.2.2,(HE4.out.trans (HEV7.out.trans (E12.out.trans (E13.out.trans E14.out)))),(HN10.out _ _ (E13.out.trans E14.out))⟩
        case measure=>simp[intOf];omega
    · have dkk:=beq_eq_false_iff_ne.2 hkk
      have y0:=cell_of (QZ.out w2 (Fr.refl nob _)) 0
      have y1:=cell_of (QZ.out w2 (Fr.refl nob _)) 1
      simp at y0 y1
      rw[HW2.out.1] at y0 y1
      by_cases hk0:kd=0
      · subst hk0
        go_wp2_with fail
        rw[←HW2.out.1,←HW2.out.2]
        refine (append_w (HWR.out.go G7.out) (HP.out _ _ (HEV.out.trans E7.out)) (fun u hu=>HLA.out _ _ (((HEV.out.trans E7.out)).trans (Ev.of hu E7.out.lt))) (HFR.out _ _ (HEV.out.trans E7.out)) HLIM.out.1 (by unfold lim;omega) (by omega) hq).mono ?_
        rintro e w7 hst0
        have hst:=hst0.went (HWR.out.go G7.out) HOF.out.1 HSC.out HOF.out.2 hll hq
        clear hst0 c0 c1
        obtain ⟨O7,a7,c7,x,es7,m7,q7,l7,k7,rfl,hev7,hb7,hwr7,hof7,hco7,hlo7,hqq7,hxl7⟩:=hst
        have HEV7:=Lib.hid hev7
        have HWR7:=Lib.hid hwr7
        have HC7:=Lib.hid (⟨hof7,hco7,hlo7,hqq7⟩:_∧_∧_∧_)
        have hdl7:=hwr7.len
        have hmm7:=hwr7.mm
        clear hev7 hwr7 hof7 hco7 hlo7 hqq7 y0 y1
        have HX7:=Lib.hid (BV.keep hb7)
        clear hb7
        have hln:(d++x).length=d.length+x.length:=List.length_append
        have hdx:d.length+x.length≤4300000000:=by omega
        obtain ⟨w8,hw8⟩:∃y,y=w7.alloc (.cells #[] 5 (0,0)):=⟨_,rfl⟩
        obtain ⟨z8,hz8⟩:∃y,y=w7.heap.size:=⟨_,rfl⟩
        have hf8:Fr nob w7 w8:=by rw[hw8];exact (Fr.refl nob _).alloc _
        have hem:=Vec.empty w7 5 1
        have hsrc:=BV.src (P:=Tryz.prog) (((HWA.out _ _ (E7.out.trans HEV7.out))).frN hf8) Tryz.underlying27
        rw[hw8] at hsrc
        have HSR:=Lib.hid (⟨hem,hsrc⟩:_∧_)
        have HW8:=Lib.hid (⟨hw8,hz8,hf8⟩:_∧_∧_)
        clear hem hsrc hw8 hz8 hf8 hln
        go_wp2_with (at_builtin;refine wpList_append_vec rfl _ _ _ _ rfl rfl HSR.out.1 _ _ _ Tryz.underlying27 inf_u8 rfl _ d.length (bv d) rfl HSR.out.2 (by unfold maxLen;omega) (by omega) ?_)
        intro a9 c9 w9 hv9 hf9 _
        rw[←HW8.out.1] at hv9 hf9
        have f9:=frN_newb w7 _ hf9 HW8.out.2.2
        have hv9' :Vec (newb w7 w9) w9 1 a9 d.length c9 (bv d):=by simpa using hv9.mono (grow_newb w7 _ w9 (by rw[HW8.out.1];simp) hf9.size)
        have f79:=f9
        have hsx:=BV.src (P:=Tryz.prog) (((HX7.out _ _ (Ev.refl HEV7.out.lt))).frN f79) Tryz.underlying27
        have HSX:=Lib.hid (⟨hv9',hsx,f79⟩:_∧_∧_)
        clear hv9 hf9 f9 hv9' f79 hsx
        go_wp2_with (at_builtin;refine wpList_append_vec rfl _ _ _ _ rfl rfl HSX.out.1 _ _ _ Tryz.underlying27 inf_u8 rfl _ x.length (bv x) rfl HSX.out.2.1 (by unfold maxLen;omega) (by omega) ?_)
        intro a10 c10 w10 hv10 hf10 _
        have f710:Fr nob w7 w10:=HSX.out.2.2.trans hf10 (T:=nob) (fun k hk h=>by have:=h.1;omega)
        have hv10' :BV (newb w7 w10) w10 a10 c10 (d++x):=by
         have h:=hv10.mono (T:=newb w7 w10) (fun k hk=>hk.elim (fun h=>⟨h.1,Nat.lt_of_lt_of_le h.2 hf10.size⟩) (fun h=>⟨Nat.le_trans HSX.out.2.2.size h.1,h.2⟩))
         rw[←bv_append,←List.length_append] at h
         exact h
        clear hv10 hf10
        have E15:=Lib.hid (Ev.of f710 HEV7.out.lt)
        have G15:=Lib.hid f710
        have HN10:=Lib.hid (BV.keep (hv10'.new HEV7.out.lt))
        clear hv10'
        have HS2:=Lib.hid (fun y (hy:Fr nob w10 y)=>(by have h:=str_of (((HN10.out _ _ (Ev.refl E15.out.lt))).frN hy);rw[List.length_append] at h;exact h:(convert 27 9 (.slice a10 (d.length+x.length) c10)).run Tryz.prog y= .ok (.string (bs (d++x))) y))
        clear f710
        have q2:∀y,Fr nob w10 y→(convert 27 9 (.slice a10 (d.length+x.length) c10)).run Tryz.prog y= .ok (.string (bs (d++x))) y:=fun y hy=>HS2.out y hy
        go_wp2_with fail
        refine wp_region_ord [(0,true),(3,true),(4,true),(1,false),(2,true),(5,true)] (Fr nob w10) rfl (by kernel_rfl) (by kernel_rfl) (by decide) (fun c a d v w h=>by cases d<;>exact h) ((Fr.refl nob w10).drew) (fun ops hops hS=>?_)
        obtain ⟨d16,hdw⟩:∃d,d=w10.drew:=⟨_,rfl⟩
        rw[←hdw] at hS ⊢
        have G16:Hid (Fr nob w10 d16):=Lib.hid (by rw[hdw];exact (Fr.refl nob w10).drew)
        have E16:=Lib.hid (Ev.of G16.out E15.out.lt)
        clear hdw
        repeat (first | (apply oF hops (by rfl) (by first | exact .plain rfl | exact .y hops rfl rfl rfl rfl);(focus (intro x hx;go_simp;rfl));go_simp) | (apply oS hops (by rfl) (by first | exact .n hops rfl rfl rfl rfl | exact .u hops rfl rfl rfl rfl);go_simp) | (apply oP hops (by rfl) (by first | exact .n hops rfl rfl rfl rfl | exact .u hops rfl rfl rfl rfl) (by assumption);go_simp))
        refine oA hops (by rfl) (by first | exact .plain rfl | exact .y hops rfl rfl rfl rfl) (fun K hK=>?_)
        go_wp2_with fail
        refine (wBytes_any (HWR7.out.go (G15.out.andN G16.out))).mono ?_
        rintro e u17 ⟨a11,c11,rfl,hfr,hv11⟩
        have E17:=Lib.hid (Ev.of hfr E16.out.lt)
        have G17:=Lib.hid hfr
        clear hfr
        refine hK _ _ ⟨Fr nob u17,fun x hx=>((G16.out.andN G17.out).andN hx),Fr.refl _ _,?_⟩
        clear hK
        go_simp
        have qs:∀y,Fr nob u17 y→(convert 27 9 (.slice a11 (d.length+x.length) c11)).run Tryz.prog y= .ok (.string (bs (d++x))) y:=fun y hy=>by have h:=str_of (hv11.frN hy);rw[List.length_append] at h;exact h
        repeat (first | (apply oF hops (by rfl) (by first | exact .plain rfl | exact .y hops rfl rfl rfl rfl);(focus (intro x hx;go_simp;rfl));go_simp) | (apply oS hops (by rfl) (by first | exact .n hops rfl rfl rfl rfl | exact .u hops rfl rfl rfl rfl);go_simp) | (apply oP hops (by rfl) (by first | exact .n hops rfl rfl rfl rfl | exact .u hops rfl rfl rfl rfl) (by assumption);go_simp))
        apply wpOrd_nil
        clear qs q2 hv11
        go_wp2_with fail
        go_roundw
        case rel=>exact ⟨k+1,v,O7,d++x,m7,q7,l7,es7,a10,c10,by go_num,rfl,by rw[List.length_append],by omega,HWR7.out.go (G15.out.andN (G16.out.andN G17.out)),HC7.out.1,HC7.out.2.1,HC7.out.2.2.1,HC7.out.2.2.2,(HEV.out.trans (E7.out.trans (HEV7.out.trans (E15.out.trans (E16.out.trans E17.out))))),(HN10.out _ _ (E16.out.trans E17.out))⟩
        case measure=>simp[intOf];omega
      · have dk:=beq_eq_false_iff_ne.2 hk0
        go_wp2_with fail
        rw[←HW2.out.1,←HW2.out.2]
        refine (snap_w (HWR.out.go G7.out) (fun u hu=>HLA.out _ _ (((HEV.out.trans E7.out)).trans (Ev.of hu E7.out.lt))) (HFR.out _ _ (HEV.out.trans E7.out)) HLIM.out.1 (by unfold lim;omega) hq).mono ?_
        rintro e w7 hst0
        have hst:=hst0.went (HWR.out.go G7.out) HOF.out.1 HSC.out HOF.out.2 hll hq
        clear hst0 c0 c1
        obtain ⟨O7,a7,c7,x,es7,m7,q7,l7,k7,rfl,hev7,hb7,hwr7,hof7,hco7,hlo7,hqq7,hxl7⟩:=hst
        have HEV7:=Lib.hid hev7
        have HWR7:=Lib.hid hwr7
        have HC7:=Lib.hid (⟨hof7,hco7,hlo7,hqq7⟩:_∧_∧_∧_)
        have hdl7:=hwr7.len
        have hmm7:=hwr7.mm
        clear hev7 hwr7 hof7 hco7 hlo7 hqq7 y0 y1
        have HX7:=Lib.hid (BV.keep hb7)
        clear hb7
        have hln:(d++x).length=d.length+x.length:=List.length_append
        have hdx:d.length+x.length≤4300000000:=by omega
        obtain ⟨w8,hw8⟩:∃y,y=w7.alloc (.cells #[] 5 (0,0)):=⟨_,rfl⟩
        obtain ⟨z8,hz8⟩:∃y,y=w7.heap.size:=⟨_,rfl⟩
        have hf8:Fr nob w7 w8:=by rw[hw8];exact (Fr.refl nob _).alloc _
        have hem:=Vec.empty w7 5 1
        have hsrc:=BV.src (P:=Tryz.prog) (((HWA.out _ _ (E7.out.trans HEV7.out))).frN hf8) Tryz.underlying27
        rw[hw8] at hsrc
        have HSR:=Lib.hid (⟨hem,hsrc⟩:_∧_)
        have HW8:=Lib.hid (⟨hw8,hz8,hf8⟩:_∧_∧_)
        clear hem hsrc hw8 hz8 hf8 hln
        go_wp2_with (at_builtin;refine wpList_append_vec rfl _ _ _ _ rfl rfl HSR.out.1 _ _ _ Tryz.underlying27 inf_u8 rfl _ d.length (bv d) rfl HSR.out.2 (by unfold maxLen;omega) (by omega) ?_)
        intro a9 c9 w9 hv9 hf9 _
        rw[←HW8.out.1] at hv9 hf9
        have f9:=frN_newb w7 _ hf9 HW8.out.2.2
        have hv9' :Vec (newb w7 w9) w9 1 a9 d.length c9 (bv d):=by simpa using hv9.mono (grow_newb w7 _ w9 (by rw[HW8.out.1];simp) hf9.size)
        have f79:=f9
        have hsx:=BV.src (P:=Tryz.prog) (((HX7.out _ _ (Ev.refl HEV7.out.lt))).frN f79) Tryz.underlying27
        have HSX:=Lib.hid (⟨hv9',hsx,f79⟩:_∧_∧_)
        clear hv9 hf9 f9 hv9' f79 hsx
        go_wp2_with (at_builtin;refine wpList_append_vec rfl _ _ _ _ rfl rfl HSX.out.1 _ _ _ Tryz.underlying27 inf_u8 rfl _ x.length (bv x) rfl HSX.out.2.1 (by unfold maxLen;omega) (by omega) ?_)
        intro a10 c10 w10 hv10 hf10 _
        have f710:Fr nob w7 w10:=HSX.out.2.2.trans hf10 (T:=nob) (fun k hk h=>by have:=h.1;omega)
        have hv10' :BV (newb w7 w10) w10 a10 c10 (d++x):=by
         have h:=hv10.mono (T:=newb w7 w10) (fun k hk=>hk.elim (fun h=>⟨h.1,Nat.lt_of_lt_of_le h.2 hf10.size⟩) (fun h=>⟨Nat.le_trans HSX.out.2.2.size h.1,h.2⟩))
         rw[←bv_append,←List.length_append] at h
         exact h
        clear hv10 hf10
        have E18:=Lib.hid (Ev.of f710 HEV7.out.lt)
        have G18:=Lib.hid f710
        have HN10:=Lib.hid (BV.keep (hv10'.new HEV7.out.lt))
        clear hv10'
        have HS2:=Lib.hid (fun y (hy:Fr nob w10 y)=>(by have h:=str_of (((HN10.out _ _ (Ev.refl E18.out.lt))).frN hy);rw[List.length_append] at h;exact h:(convert 27 9 (.slice a10 (d.length+x.length) c10)).run Tryz.prog y= .ok (.string (bs (d++x))) y))
        clear f710
        have q2:∀y,Fr nob w10 y→(convert 27 9 (.slice a10 (d.length+x.length) c10)).run Tryz.prog y= .ok (.string (bs (d++x))) y:=fun y hy=>HS2.out y hy
        go_wp2_with fail
        refine wp_region_ord [(0,true),(3,true),(4,true),(1,false),(2,true),(5,true)] (Fr nob w10) rfl (by kernel_rfl) (by kernel_rfl) (by decide) (fun c a d v w h=>by cases d<;>exact h) ((Fr.refl nob w10).drew) (fun ops hops hS=>?_)
        obtain ⟨d19,hdw⟩:∃d,d=w10.drew:=⟨_,rfl⟩
        rw[←hdw] at hS ⊢
        have G19:Hid (Fr nob w10 d19):=Lib.hid (by rw[hdw];exact (Fr.refl nob w10).drew)
        have E19:=Lib.hid (Ev.of G19.out E18.out.lt)
        clear hdw
        repeat (first | (apply oF hops (by rfl) (by first | exact .plain rfl | exact .y hops rfl rfl rfl rfl);(focus (intro x hx;go_simp;rfl));go_simp) | (apply oS hops (by rfl) (by first | exact .n hops rfl rfl rfl rfl | exact .u hops rfl rfl rfl rfl);go_simp) | (apply oP hops (by rfl) (by first | exact .n hops rfl rfl rfl rfl | exact .u hops rfl rfl rfl rfl) (by assumption);go_simp))
        refine oA hops (by rfl) (by first | exact .plain rfl | exact .y hops rfl rfl rfl rfl) (fun K hK=>?_)
        go_wp2_with fail
        refine (wBytes_any (HWR7.out.go (G18.out.andN G19.out))).mono ?_
        rintro e u20 ⟨a11,c11,rfl,hfr,hv11⟩
        have E20:=Lib.hid (Ev.of hfr E19.out.lt)
        have G20:=Lib.hid hfr
        clear hfr
        refine hK _ _ ⟨Fr nob u20,fun x hx=>((G19.out.andN G20.out).andN hx),Fr.refl _ _,?_⟩
        clear hK
        go_simp
        have qs:∀y,Fr nob u20 y→(convert 27 9 (.slice a11 (d.length+x.length) c11)).run Tryz.prog y= .ok (.string (bs (d++x))) y:=fun y hy=>by have h:=str_of (hv11.frN hy);rw[List.length_append] at h;exact h
        repeat (first | (apply oF hops (by rfl) (by first | exact .plain rfl | exact .y hops rfl rfl rfl rfl);(focus (intro x hx;go_simp;rfl));go_simp) | (apply oS hops (by rfl) (by first | exact .n hops rfl rfl rfl rfl | exact .u hops rfl rfl rfl rfl);go_simp) | (apply oP hops (by rfl) (by first | exact .n hops rfl rfl rfl rfl | exact .u hops rfl rfl rfl rfl) (by assumption);go_simp))
        apply wpOrd_nil
        clear qs q2 hv11
        go_wp2_with fail
        go_roundw
        case rel=>exact ⟨k+1,v,O7,d++x,m7,q7,l7,es7,a10,c10,by go_num,rfl,by rw[List.length_append],by omega,HWR7.out.go (G18.out.andN (G19.out.andN G20.out)),HC7.out.1,HC7.out.2.1,HC7.out.2.2.1,HC7.out.2.2.2,(HEV.out.trans (E7.out.trans (HEV7.out.trans (E18.out.trans (E19.out.trans E20.out))))),(HN10.out _ _ (E19.out.trans E20.out))⟩
        case measure=>simp[intOf];omega
  · obtain rfl:k=L.length:=by omega
    obtain ⟨ms,hdec,_⟩:=HOF.out.1.back
    have hme:=HOF.out.1.2.1
    have hde:=decode_any _ wo (fun k h=>h.1) wa wc d hwa (by omega) (HLA.out _ _ HEV.out) (HFR.out _ _ HEV.out)
    rw[hdec] at hde
    simp only at hde
    rw[show ((0:Nat):Int)=0 from rfl] at hde
    have HME:=Lib.hid hme
    clear hdec hme hwa
    go_wp2_with fail
    refine (hde).mono ?_
    rintro e u21 ⟨sa,sc,ea,ec,rfl,hfr,_,_⟩
    have E21:=Lib.hid (Ev.of hfr HEV.out.lt)
    have G21:=Lib.hid hfr
    clear hfr
    clear hde
    obtain ⟨w8,hw8⟩:∃x1,x1=u21.alloc (.cells #[.slice sa s.length sc, .slice ea es.length ec] 36 (0,0)):=⟨_,rfl⟩
    obtain ⟨z8,hz8⟩:∃x1,x1=(u21).heap.size:=⟨_,rfl⟩
    have hf8:Fr nob u21 w8:=by rw[hw8];exact (Fr.refl nob _).alloc _
    have hb8:=heap_new u21 (.cells #[.slice sa s.length sc, .slice ea es.length ec] 36 (0,0))
    rw[←hw8,←hz8] at hb8
    have t1:∀y,Fr nob w8 y→y.cell? ⟨z8,1,none⟩=some (.slice ea es.length ec):=fun y hy=>by have:=cell_of (hy.heap hb8 id) 1;simpa using this
    have E22:=Lib.hid (Ev.of hf8 E21.out.lt)
    have G22:=Lib.hid hf8
    clear hf8 hb8
    go_wp2_with fail
    rw[←hw8,←hz8]
    clear hw8 hz8
    refine wp_region_ord [(0,true),(1,true),(2,true),(3,true),(4,true),(5,true),(6,true),(7,false),(8,true),(9,true),(10,true)] (Fr nob w8) rfl (by kernel_rfl) (by kernel_rfl) (by decide) (fun c a d v w h=>by cases d<;>exact h) ((Fr.refl nob w8).drew) (fun ops hops hS=>?_)
    obtain ⟨d23,hdw⟩:∃d,d=w8.drew:=⟨_,rfl⟩
    rw[←hdw] at hS ⊢
    have G23:Hid (Fr nob w8 d23):=Lib.hid (by rw[hdw];exact (Fr.refl nob w8).drew)
    have E23:=Lib.hid (Ev.of G23.out E22.out.lt)
    clear hdw
    repeat (first | (apply oF hops (by rfl) (by first | exact .plain rfl | exact .y hops rfl rfl rfl rfl);(focus (intro x hx;go_simp;rfl));go_simp) | (apply oS hops (by rfl) (by first | exact .n hops rfl rfl rfl rfl | exact .u hops rfl rfl rfl rfl);go_simp) | (apply oP hops (by rfl) (by first | exact .n hops rfl rfl rfl rfl | exact .u hops rfl rfl rfl rfl) (by assumption);go_simp))
    refine oA hops (by rfl) (by first | exact .plain rfl | exact .y hops rfl rfl rfl rfl) (fun K hK=>?_)
    go_wp2_with fail
    refine (wMany_any (HWR.out.go (G21.out.andN (G22.out.andN G23.out)))).mono ?_
    rintro e u24 ⟨rfl,hfr⟩
    have E24:=Lib.hid (Ev.of hfr E23.out.lt)
    have G24:=Lib.hid hfr
    clear hfr
    refine hK _ _ ⟨_,fun _ h=>h,(G23.out.andN G24.out),?_⟩
    clear hK
    go_simp
    repeat (first | (apply oF hops (by rfl) (by first | exact .plain rfl | exact .y hops rfl rfl rfl rfl);(focus (intro x hx;go_simp;rfl));go_simp) | (apply oS hops (by rfl) (by first | exact .n hops rfl rfl rfl rfl | exact .u hops rfl rfl rfl rfl);go_simp) | (apply oP hops (by rfl) (by first | exact .n hops rfl rfl rfl rfl | exact .u hops rfl rfl rfl rfl) (by assumption);go_simp))
    apply wpOrd_nil
    clear t1
    go_wp2_with fail
    go_ret
    exact ⟨by simp[HME.out],((HEV.out.trans (E21.out.trans (E22.out.trans (E23.out.trans E24.out))))).toN⟩
end Go.Proofs.YtibpkfnfcdbiiaaGreatDoor
