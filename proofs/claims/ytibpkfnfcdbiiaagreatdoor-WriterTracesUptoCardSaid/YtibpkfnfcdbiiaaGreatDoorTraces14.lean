/- decklelaw14.WriterTraces, walked. -/
import Derived.Test.YtibpkfnfcdbiiaaGreatDoorAllW
import Derived.Test.YtibpkfnfcdbiiaaGreatDoorAlive14
import Derived.Test.YtibpkfnfcdbiiaaGreatDoorBunV
import Derived.Test.YtibpkfnfcdbiiaaGreatDoorPlLit
namespace Go.Proofs.YtibpkfnfcdbiiaaGreatDoor
set_option linter.unusedSimpArgs false
open Go.RowKit
set_option linter.unusedVariables false
structure AllPs (w0 wr:World) (B:Nat→Prop) (L:List (List Pr)) (k:Nat) (o:List Elt) (ao:Option Addr) (co:Nat):Prop where
 ps:o.map (·.p)=(L.take k).flatten
 all:Vec B wr 2 ao o.length co (o.flatMap eltCells)
 el:∀x∈o,RowAt (free wr B) wr x
 ev:Ev w0 nob wr B
theorem take_ps_le (L:List (List Pr)) (k:Nat):(L.take k).flatten.length≤L.flatten.length:=by
 conv=>rhs;rw[←List.take_append_drop k L]
 rw[List.flatten_append,List.length_append];omega
theorem take_ps_succ {L:List (List Pr)} {k:Nat} (h:k<L.length):(L.take (k+1)).flatten=(L.take k).flatten++L[k]:=by
 rw[List.take_succ_eq_append_getElem h,List.flatten_append]
 simp only[List.flatten_cons,List.flatten_nil,List.append_nil]
theorem mem_flat_le {L:List (List Pr)} {p:List Pr} (h:p∈L):p.length≤L.flatten.length:=by
 induction L with
 | nil=>simp at h
 | cons q L ih=>
   rw[List.flatten_cons,List.length_append]
   rcases List.mem_cons.1 h with rfl | h
   · omega
   · have:=ih h;omega
theorem summed_len {s:List Col} {l r out:List Pr} {e:Nat} (h:Summed s l r e out):out.length≤1024:=by
 unfold Summed at h
 split at h
 · rw[h.2];simp
 · split at h
   · rw[h.2];simp
   · exact (collected_len h).1
set_option maxRecDepth 100000 in
set_option maxHeartbeats 16000000 in
theorem writerTraces_card (w:World) (hL:Laid w) (hF:Frames w) (a:Option Addr) (ca:Nat) (s:List Col) (hs:SV rCol 2 (old w) w a ca s) (h0:s.length≤lim) (b:Option Addr) (cb:Nat) (L:List (List Pr)) (hl:SV rPL 1 (old w) w b cb L) (h1:L.length≤lim) (htot:L.flatten.length≤1048576):
 Calls Tryz.prog 3 #[.slice a s.length ca, .slice b L.length cb] w fun e w' =>e= .returned (.bool true)∧Fr nob w w' :=by
 have hs' :=hs.within rCol_ok (fun k h=>h)
 have HS:=Lib.hid (SV.keep rCol_ok hs')
 clear hs'
 have hl' :=hl.within rPL_ok (fun k h=>h)
 have HL:=Lib.hid (SV.keep rPL_ok hl')
 clear hl'
 clear hs hl
 have HLA:=Lib.hid (hL.keep)
 have HFR:=Lib.hid (fun y (C:Nat→Prop) (e:Ev w nob y C)=>hF.fr e.fr id)
 have HLIM:=Lib.hid (⟨h0,h1,htot⟩:_∧_∧_)
 have hl3:=h0
 unfold lim at hl3 h1
 clear hL hF h0 htot
 go_enter Tryz.func3,Tryz.ntmps3
 go_wp2_with fail
 go_loopw [5,29] (fun v5 v29 wr=>∃(k:Nat) (B:Nat→Prop) (o:List Elt) (ao:Option Addr) (co:Nat),v29= .int .i64 k∧v5= .slice ao o.length co∧k≤L.length∧AllPs w wr B L k o ao co) (fun _ v29 _=>L.length - (intOf v29).toNat)
 case atStart=>exact ⟨0,nob,[],none,0,rfl,rfl,Nat.zero_le _,⟨by simp,Vec.nil _ _ _,by simp,Ev.start _⟩⟩
 case round=>
  obtain ⟨k,B,o,ao,co,rfl,rfl,hk,hst⟩:=hrel
  have HST:=Lib.hid hst
  have HEV:=Lib.hid hst.ev
  have hol:o.length≤1048576:=by
   have h:=congrArg List.length hst.ps
   rw[List.length_map] at h
   have:=take_ps_le L k
   have:=HLIM.out.2.2
   omega
  clear hst
  by_cases hlt:k<L.length
  · obtain ⟨b1,off,ra,rc,rfl,_,hpl,hp,c0⟩:=pl_at (HL.out _ _ HEV.out) hlt
    have HLK:=Lib.hid (take_ps_succ hlt)
    have hpl2:o.length+L[k].length≤1048576:=by
     have h:=congrArg List.length HST.out.ps
     rw[List.length_map] at h
     have h2:=take_ps_le L (k+1)
     rw[HLK.out,List.length_append] at h2
     have:=HLIM.out.2.2
     omega
    clear hpl
    generalize L[k]=mp at hp c0 HLK hpl2
    obtain ⟨d,hd,hdv,hdr⟩:=elts_of hp
    have hdl:d.length=mp.length:=by rw[←hd];simp
    have HD:=Lib.hid (⟨hd,hdl⟩:_∧_)
    have HDR:=Lib.hid hdr
    have HSRC:=Lib.hid ((hdv.src (P:=Tryz.prog) Tryz.underlying24))
    rw[hdl] at HSRC
    have HVA:=Lib.hid (HST.out.all)
    clear hd hdv hdr hdl hp
    go_wp2_with (at_builtin;refine wpList_append_vec rfl _ _ _ _ rfl rfl HVA.out _ _ _ Tryz.underlying24 inf_Pair rfl _ mp.length _ rfl HSRC.out (by unfold maxLen;omega) (by omega) ?_)
    intro a6 c6 w6 hv6 hf6 _
    have HV6:=Lib.hid hv6
    have HF6:=Lib.hid hf6
    clear hv6 hf6
    go_wp2_with fail
    go_roundw
    case rel=>
     have e6:=Ev.grow HF6.out HEV.out.lt
     refine ⟨k+1,_,o++d,a6,c6,by go_num,by rw[List.length_append,HD.out.2],by omega,⟨by rw[List.map_append,HST.out.ps,HD.out.1,HLK.out],?_,fun x hx=>?_,(HEV.out).trans e6⟩⟩
     · rw[List.length_append,HD.out.2,List.flatMap_append];exact HV6.out
     · rcases List.mem_append.1 hx with hx | hx
       · exact ((HST.out.el x hx).ev (Ev.refl HEV.out.lt)).ev e6
       · exact (HDR.out x hx).ev e6
    case measure=>simp[intOf];omega
  · obtain rfl:k=L.length:=by omega
    have hps:=HST.out.ps
    rw[List.take_length] at hps
    have hpl:L.flatten.length=o.length:=by have h:=congrArg List.length hps;rw[List.length_map] at h;exact h.symm
    have HPL:=Lib.hid hpl
    have hread:SV rPr 2 (free wr nob) wr ao co (o.map (·.p)):=elts_back HST.out.all HST.out.el _ (fun k hk=>⟨HEV.out.lt k hk,id⟩) (fun k hk=>⟨hk.1,id⟩)
    have hevN:Ev w nob wr nob:=⟨(HEV.out).fr,fun k hk=>hk.elim,fun k hk=>hk.elim⟩
    have HEVN:=Lib.hid hevN
    clear hevN hps hpl hlt
    obtain ⟨al,hal⟩:∃al,al=o.map (·.p):=⟨_,rfl⟩
    have haln:al.length=o.length:=by rw[hal];simp
    rw[←hal] at hread
    have HAL:=Lib.hid haln
    clear hal haln
    go_wp2_with fail
    refine (alive14_any _ (HLA.out _ _ HEVN.out) (HFR.out _ _ HEVN.out)).mono ?_
    rintro e u1 ⟨rfl,hfr⟩
    have E1:=Lib.hid (Ev.of hfr HEVN.out.lt)
    have G1:=Lib.hid hfr
    clear hfr
    by_cases h20:20<L.length
    · go_wp2_with fail
      refine (alive14_any _ (HLA.out _ _ (HEVN.out.trans E1.out)) (HFR.out _ _ (HEVN.out.trans E1.out))).mono ?_
      rintro e u2 ⟨rfl,hfr⟩
      have E2:=Lib.hid (Ev.of hfr E1.out.lt)
      have G2:=Lib.hid hfr
      clear hfr
      go_wp2_with fail
      go_ret
      exact ⟨rfl,((HEVN.out.trans (E1.out.trans E2.out))).toN⟩
    by_cases h200:200<o.length
    · go_wp2_with fail
      refine (alive14_any _ (HLA.out _ _ (HEVN.out.trans E1.out)) (HFR.out _ _ (HEVN.out.trans E1.out))).mono ?_
      rintro e u3 ⟨rfl,hfr⟩
      have E3:=Lib.hid (Ev.of hfr E1.out.lt)
      have G3:=Lib.hid hfr
      clear hfr
      go_wp2_with fail
      go_ret
      exact ⟨rfl,((HEVN.out.trans (E1.out.trans E3.out))).toN⟩
    have hread:=hread.frN rPr_ok G1.out
    obtain ⟨w3,hw3⟩:∃x1,x1=u1.alloc (.cells #[.slice ao o.length co] 24 (0,0)):=⟨_,rfl⟩
    obtain ⟨z3,hz3⟩:∃z,z=(u1).heap.size:=⟨_,rfl⟩
    have hf3:Fr nob u1 w3:=by rw[hw3];exact (Fr.refl nob _).alloc _
    have hpl:=pl_lit u1 nob (nob_lt _) ao co al (hread.mono rPr_ok (fun k hk=>⟨Nat.lt_of_lt_of_le hk.1 G1.out.size,id⟩)) (by rw[HAL.out];unfold lim;omega)
    rw[HAL.out,←hw3,←hz3] at hpl
    have hgr:=greatN_any _ w3 (some ⟨z3,0,none⟩) 1 [al] hpl (by simp[lim])
    go_wp2_with fail
    rw[←hw3,←hz3]
    have E4:=Lib.hid (Ev.of hf3 E1.out.lt)
    have G4:=Lib.hid hf3
    clear hw3 hz3 hf3 hpl hread
    go_wp2_with fail
    refine (hgr).mono ?_
    rintro e u5 ⟨⟨g,rfl⟩,hfr⟩
    have E5:=Lib.hid (Ev.of hfr E4.out.lt)
    have G5:=Lib.hid hfr
    clear hfr
    clear hgr
    by_cases hg0:0<g
    · go_wp2_with fail
      refine (alive14_any _ (HLA.out _ _ (HEVN.out.trans (E1.out.trans (E4.out.trans E5.out)))) (HFR.out _ _ (HEVN.out.trans (E1.out.trans (E4.out.trans E5.out))))).mono ?_
      rintro e u6 ⟨rfl,hfr⟩
      have E6:=Lib.hid (Ev.of hfr E5.out.lt)
      have G6:=Lib.hid hfr
      clear hfr
      go_wp2_with fail
      go_ret
      exact ⟨rfl,((HEVN.out.trans (E1.out.trans (E4.out.trans (E5.out.trans E6.out))))).toN⟩
    by_cases h30:30<s.length
    · go_wp2_with fail
      refine (alive14_any _ (HLA.out _ _ (HEVN.out.trans (E1.out.trans (E4.out.trans E5.out)))) (HFR.out _ _ (HEVN.out.trans (E1.out.trans (E4.out.trans E5.out))))).mono ?_
      rintro e u7 ⟨rfl,hfr⟩
      have E7:=Lib.hid (Ev.of hfr E5.out.lt)
      have G7:=Lib.hid hfr
      clear hfr
      go_wp2_with fail
      go_ret
      exact ⟨rfl,((HEVN.out.trans (E1.out.trans (E4.out.trans (E5.out.trans E7.out))))).toN⟩
    have hpsz:∀p∈L,p.length≤200:=fun p hp=>by have:=mem_flat_le hp;have:=HPL.out;omega
    go_wp2_with fail
    refine (writerAll_any u5 a ca s (HS.out _ _ (HEVN.out.trans (E1.out.trans (E4.out.trans E5.out)))) b cb L (HL.out _ _ (HEVN.out.trans (E1.out.trans (E4.out.trans E5.out)))) (HLA.out _ _ (HEVN.out.trans (E1.out.trans (E4.out.trans E5.out)))) (HFR.out _ _ (HEVN.out.trans (E1.out.trans (E4.out.trans E5.out)))) HLIM.out.1 (by omega) hpsz).mono ?_
    rintro e u8 ⟨ba,bc,d,n,en,rfl,hend,hfr,hbv,hdl⟩
    have E8:=Lib.hid (Ev.of hfr E5.out.lt)
    have G8:=Lib.hid hfr
    clear hfr
    clear hpsz
    have HBV:=Lib.hid hbv
    have HEND:=Lib.hid hend
    have GB:=Lib.hid (HEVN.out.trans (E1.out.trans (E4.out.trans (E5.out.trans E8.out))))
    clear hbv hend
    go_wp2_with fail
    refine (writerNew_any _ u8 a ca s (HS.out _ _ (HEVN.out.trans (E1.out.trans (E4.out.trans (E5.out.trans E8.out))))) (HLA.out _ _ (HEVN.out.trans (E1.out.trans (E4.out.trans (E5.out.trans E8.out))))) HLIM.out.1 (fun k h=>h.1)).mono ?_
    rintro e u9 ⟨hfr,hne⟩
    have E9:=Lib.hid (Ev.of hfr E8.out.lt)
    have G9:=Lib.hid hfr
    clear hfr
    rcases HEND.out with ⟨hsc,rfl,rfl,rfl⟩ | ⟨hsc,es,l,hat,hof,hnl,hwhy⟩
    · rcases hne with ⟨_,rfl⟩ | ⟨h,_⟩
      · have d1:=intne hsc
        go_wp2_with fail
        go_ret
        exact ⟨by simp,((HEVN.out.trans (E1.out.trans (E4.out.trans (E5.out.trans (E8.out.trans E9.out)))))).toN⟩
      · exact absurd h hsc
    rcases hne with ⟨h,_⟩ | ⟨_,v,O,rfl,_,_⟩
    · exact absurd hsc h
    obtain ⟨ms,hdec,_⟩:=hof.back
    have hde:=decode_any _ u9 (fun k hk=>Nat.lt_of_lt_of_le hk.2 (G9.out).size) ba bc d (HBV.out.frN G9.out) hdl (HLA.out _ _ (HEVN.out.trans (E1.out.trans (E4.out.trans (E5.out.trans (E8.out.trans E9.out)))))) (HFR.out _ _ (HEVN.out.trans (E1.out.trans (E4.out.trans (E5.out.trans (E8.out.trans E9.out))))))
    rw[hdec] at hde
    have hesn:es.length=n:=hof.2.1.symm
    have hok:=(encF_ok hof.2.2 (by rw[hof.1])).1
    rw[hof.1] at hok
    have hll:l.length≤1024:=hok.len
    have HAT:=Lib.hid (⟨hat,hwhy,hnl,hsc⟩:_∧_∧_∧_)
    have HES:=Lib.hid hesn
    clear hdec hok hof hat hwhy hsc HEND
    go_wp2_with fail
    refine (hde).mono ?_
    rintro e u10 ⟨sa,sc,ea,ec,rfl,hfr,_,hve⟩
    have E10:=Lib.hid (Ev.of hfr E9.out.lt)
    have G10:=Lib.hid hfr
    clear hfr
    clear hde
    simp only at hve ⊢
    have HVE:=Lib.hid (SV.keep rEnt_ok (hve.new rEnt_ok E9.out.lt))
    clear hve
    rw[HES.out]
    obtain ⟨w8,hw8⟩:∃x1,x1=u10.alloc (.cells #[.slice sa s.length sc, .slice ea n ec] 36 (0,0)):=⟨_,rfl⟩
    obtain ⟨z8,hz8⟩:∃z,z=(u10).heap.size:=⟨_,rfl⟩
    have hf8:Fr nob u10 w8:=by rw[hw8];exact (Fr.refl nob _).alloc _
    have hb8:=heap_new u10 (.cells #[.slice sa s.length sc, .slice ea n ec] 36 (0,0))
    have k1:=cell_of hb8 1
    simp at k1
    have HW8:=Lib.hid hw8
    clear hw8 hb8 hz8
    have hnn:¬(n:Int)<0:=by omega
    have hnl' :¬(L.length:Int)<n:=by omega
    have hboth:(!(((en:Nat):Int) == 0) == (((n:Nat):Int) == ((L.length:Nat):Int)))=false:=by
     rcases HAT.out.2.1 with ⟨rfl,rfl⟩ | ⟨p,hp,he,_⟩
     · simp
     · have h5:n<L.length:=by
        rcases Nat.lt_or_ge n L.length with h | h
        · exact h
        · rw[List.getElem?_eq_none h] at hp;cases hp
       rw[beq_eq_false_iff_ne.2 (show ((en:Nat):Int)≠0 by omega),beq_eq_false_iff_ne.2 (show ((n:Nat):Int)≠((L.length:Nat):Int) by omega)];rfl
    go_wp2_with fail
    rw[←HW8.out]
    clear hnn hnl' hboth k1
    have E11:=Lib.hid (Ev.of hf8 E10.out.lt)
    have G11:=Lib.hid hf8
    have HVR:=Lib.hid (fun y (hy:Fr nob w8 y)=>HVE.out _ _ (E11.out.trans (Ev.of hy (nob_lt _))))
    have HEV8:=Lib.hid (HEVN.out.trans (E1.out.trans (E4.out.trans (E5.out.trans (E8.out.trans (E9.out.trans (E10.out.trans E11.out)))))))
    go_loopw [16,124] (fun v16 v124 wr=>∃(k:Nat) (v:List Pr) (va:Option Addr) (vc:Nat),v124= .int .i64 k∧k≤n∧v16= .slice va v.length vc∧v.length≤1024∧AllAt s ((L.take n).take k) (es.take k) v∧SV rPr 2 (free wr nob) wr va vc v∧Fr nob w8 wr) (fun _ v124 _=>n - (intOf v124).toNat)
    case atStart=>exact ⟨0,[],none,0,rfl,Nat.zero_le _,rfl,by simp,by simp only[List.take_zero];exact .nil,SV.nil _ _ _ _,Fr.refl _ _⟩
    case round=>
     obtain ⟨k,v,va,vc,rfl,hk,rfl,hvl,hatk,hsv,hfr⟩:=hrel
     obtain ⟨wo,rfl⟩:∃x1,x1=wr:=⟨_,rfl⟩
     have HEW:=Lib.hid (HEV8.out.trans (Ev.of hfr (nob_lt _)))
     have HAK:=Lib.hid hatk
     have HFK:=Lib.hid hfr
     clear hatk hfr
     have HV:=Lib.hid (SV.keep rPr_ok hsv)
     clear hsv
     by_cases hlt:k<n
     · have hlt' :k<es.length:=by rw[HES.out];exact hlt
       obtain ⟨b1,off,ra,rc,rfl,_,h64,hpl,hp,e0,e1,e2⟩:=ent_at (HVR.out _ HFK.out) hlt'
       obtain ⟨p,a',v',out,g1,g2,g3,g4,g5,g6⟩:=HAT.out.1.get k hlt'
       obtain rfl:v=v' :=(HAK.out.same g4).2
       have hek:es[k]=⟨0,(k:Int)+1,a'⟩:=by rw[List.getElem?_eq_getElem hlt'] at g2;exact Option.some.inj g2
       rw[hek] at hpl hp e0 e1 e2 h64
       simp only at hpl hp e0 e1 e2 h64
       have hLk:k<L.length:=by omega
       have hpk:L[k]=p:=by rw[List.getElem?_take_of_lt hlt,List.getElem?_eq_getElem hLk] at g1;exact Option.some.inj g1
       obtain ⟨b2,off2,rb,rcb,rfl,_,hpl2,hpr,c0⟩:=pl_at (HL.out _ _ HEW.out) hLk
       rw[hpk] at hpr c0
       have hpl3:p.length≤1000000:=by have:=mem_flat_le (List.getElem_mem hLk);have:=HPL.out;rw[hpk] at*;omega
       have hal:a'.length≤1024:=(collected_len g3).1
       have HG:=Lib.hid (⟨g3,g5,g6⟩:_∧_∧_)
       obtain ⟨w3,hw3⟩:∃x1,x1=wo.alloc (.cells #[.int .i64 0, .int .i64 ((k:Int)+1), .slice ra a'.length rc] 40 (0,0)):=⟨_,rfl⟩
       obtain ⟨z3,hz3⟩:∃z,z=wo.heap.size:=⟨_,rfl⟩
       have hf3:Fr nob wo w3:=by rw[hw3];exact (Fr.refl nob _).alloc _
       have hb3:=heap_new wo (.cells #[.int .i64 0, .int .i64 ((k:Int)+1), .slice ra a'.length rc] 40 (0,0))
       rw[←hw3,←hz3] at hb3
       have c03:=hf3.cell c0 id
       rw[hw3] at c03
       have HP:=Lib.hid (SV.keep rPr_ok hpr)
       clear hpr
       have HX:=Lib.hid (SV.keep rPr_ok hp)
       clear hp
       have E12:=Lib.hid (Ev.of hf3 HEW.out.lt)
       have G12:=Lib.hid hf3
       have QZ:=Lib.hid (fun y (hy:Fr nob w3 y)=>hy.heap hb3 id)
       have hw1:IntKind.i64.wrap ((k:Int)+1)=k+1:=by rw[IntWalk.i64_in _ (by omega)]
       have HW3:=Lib.hid (⟨hw3,hz3⟩:_∧_)
       clear g1 g2 g3 g4 g5 g6 hek hpk hpl hpl2 h64 hb3 hf3 hw3 hz3 hlt' c0
       go_wp2_with fail
       rw[←HW3.out.1,←HW3.out.2]
       refine (collect_o (HS.out _ _ (HEW.out.trans E12.out)) (HP.out _ _ E12.out) (HLA.out _ _ (HEW.out.trans E12.out)) HLIM.out.1 hpl3 E12.out.lt).mono ?_
       rintro e u20 ⟨en2,out2,ao2,co2,rfl,hcol,hf20,hsv2,_⟩
       obtain ⟨rfl,rfl⟩:=collected_det hcol HG.out.1
       have E13:=Lib.hid (Ev.of hf20 E12.out.lt)
       have G13:=Lib.hid hf20
       have HO:=Lib.hid (SV.keep rPr_ok hsv2)
       clear hsv2
       clear hcol c03 e0 e1 e2
       have y0:=cell_of (QZ.out _ G13.out) 0
       have y1:=cell_of (QZ.out _ G13.out) 1
       have y2:=cell_of (QZ.out _ G13.out) 2
       simp at y0 y1 y2
       go_wp2_with fail
       refine (zsame_yes (HX.out _ _ (E12.out.trans E13.out)) (HO.out _ _ (Ev.refl E13.out.lt)) (by unfold lim;omega) (by unfold lim;omega) rfl).mono ?_
       rintro e u21 ⟨rfl,hf21⟩
       have E14:=Lib.hid (Ev.of hf21 E13.out.lt)
       have G14:=Lib.hid hf21
       clear y0 y1 y2
       go_wp2_with fail
       refine (zsum_o (HS.out _ _ (HEW.out.trans (E12.out.trans (E13.out.trans E14.out)))) (HV.out _ _ (E12.out.trans (E13.out.trans E14.out))) (HO.out _ _ E14.out) (HLA.out _ _ (HEW.out.trans (E12.out.trans (E13.out.trans E14.out)))) HLIM.out.1 (by omega) (by omega) E14.out.lt).mono ?_
       rintro e u22 ⟨en3,out3,ao3,co3,rfl,hsum,hf22,hsv3,_⟩
       obtain ⟨rfl,rfl⟩:=summedT_det hsum HG.out.2.1
       have hol3:=summed_len hsum
       have E15:=Lib.hid (Ev.of hf22 E14.out.lt)
       have G15:=Lib.hid hf22
       clear hsum
       have HSV3:=Lib.hid hsv3
       clear hsv3
       go_wp2_with fail
       go_roundw
       case rel=>exact ⟨k+1,_,ao3,co3,by go_num,by omega,rfl,hol3,HG.out.2.2,HSV3.out,HFK.out.andN (G12.out.andN (G13.out.andN (G14.out.andN G15.out)))⟩
       case measure=>simp[intOf];omega
     · obtain rfl:k=n:=by omega
       obtain rfl:v=l:=by
        have h:=HAK.out
        rw[List.take_take,Nat.min_self,List.take_of_length_le (show es.length≤k by rw[HES.out];omega)] at h
        exact (h.same HAT.out.1).2
       by_cases he:en=0
       · subst he
         go_wp2_with fail
         go_ret
         exact ⟨rfl,(HEW.out).toN⟩
       · obtain ⟨_,h⟩ | ⟨p,hp,_,hr⟩:=HAT.out.2.1
         · exact absurd h he
         have hLk:k<L.length:=by
          rcases Nat.lt_or_ge k L.length with h | h
          · exact h
          · rw[List.getElem?_eq_none h] at hp;cases hp
         have hpk:L[k]=p:=by rw[List.getElem?_eq_getElem hLk] at hp;exact Option.some.inj hp
         obtain ⟨b2,off2,rb,rcb,rfl,_,hpl2,hpr,c0⟩:=pl_at (HL.out _ _ HEW.out) hLk
         rw[hpk] at hpr c0
         have hpl3:p.length≤1000000:=by have:=mem_flat_le (List.getElem_mem hLk);have:=HPL.out;rw[hpk] at*;omega
         have HR:=Lib.hid hr
         have d1:=intne he
         have HE:=Lib.hid he
         have HP:=Lib.hid (SV.keep rPr_ok hpr)
         clear hpr
         clear hp hpk hpl2 hr he
         go_wp2_with fail
         refine (collect_o (HS.out _ _ HEW.out) (HP.out _ _ (Ev.refl HEW.out.lt)) (HLA.out _ _ HEW.out) HLIM.out.1 hpl3 HEW.out.lt).mono ?_
         rintro e u20 ⟨en2,out2,ao2,co2,rfl,hcol,hf20,hsv2,_⟩
         have E16:=Lib.hid (Ev.of hf20 HEW.out.lt)
         have G16:=Lib.hid hf20
         have HO:=Lib.hid (SV.keep rPr_ok hsv2)
         clear hsv2
         have hol2:=(collected_len hcol).1
         have HC:=Lib.hid hcol
         clear hcol c0
         go_wp2_with fail
         refine (zsum_o (HS.out _ _ (HEW.out.trans E16.out)) (HV.out _ _ E16.out) (HO.out _ _ (Ev.refl E16.out.lt)) (HLA.out _ _ (HEW.out.trans E16.out)) HLIM.out.1 (by omega) (by omega) E16.out.lt).mono ?_
         rintro e u22 ⟨en3,out3,ao3,co3,rfl,hsum,hf22,_,_⟩
         have E17:=Lib.hid (Ev.of hf22 E16.out.lt)
         have G17:=Lib.hid hf22
         have HS3:=Lib.hid hsum
         clear hsum
         rcases HR.out with ⟨x,hx⟩ | ⟨x,y,hx,hy⟩
         · obtain ⟨rfl,_⟩:=collected_det HC.out hx
           clear hx
           go_wp2_with fail
           go_ret
           exact ⟨by simp,((HEW.out.trans (E16.out.trans E17.out))).toN⟩
         · obtain ⟨rfl,rfl⟩:=collected_det HC.out hx
           obtain ⟨rfl,_⟩:=summedT_det HS3.out hy
           have d2:((0:Int) == ((en3:Nat):Int))=false:=by have:=HE.out;rw[beq_eq_false_iff_ne];omega
           have d3:¬(0:Int)=((en3:Nat):Int):=by have:=HE.out;omega
           clear hx hy
           go_wp2_with fail
           go_ret
           exact ⟨by simp,((HEW.out.trans (E16.out.trans E17.out))).toN⟩
end Go.Proofs.YtibpkfnfcdbiiaaGreatDoor
