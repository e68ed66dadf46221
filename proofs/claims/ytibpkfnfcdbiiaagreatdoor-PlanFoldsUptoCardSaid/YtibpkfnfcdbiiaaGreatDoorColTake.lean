/- column.Take, walked. -/
import Derived.Test.YtibpkfnfcdbiiaaGreatDoorColumn
namespace Go.Proofs.YtibpkfnfcdbiiaaGreatDoor
set_option linter.unusedSimpArgs false
open Go.RowKit
set_option linter.unusedVariables false
set_option maxRecDepth 100000 in
set_option maxHeartbeats 16000000 in
theorem colTake_o (S:Nat→Prop) (w:World) (r:Nat) (hr:r<w.heap.size) (hSr:¬S r) (hS:∀k,S k→k<w.heap.size) (a:Option Addr) (cap:Nat) (l d:List UInt8) (hA:At w r a l cap d) (hb:BV S w a cap l) (hn:l.length≤1099511627776) (k:Int) (n:Nat) (hnn:n≤1024) (hL:LaidR w r):
 Calls Tryz.prog 178 #[.pointer (some ⟨r,0,none⟩), .int .i64 k, .int .i64 n] w fun e w' =>TOut w w' r a l cap (pCol k n d) e:=by
 obtain ⟨E,hE⟩:∃E,E=pCol k n d:=⟨_,rfl⟩
 rw[←hE]
 unfold pCol at hE
 have hlt0:∀k,k=r→k<w.heap.size:=fun k hk=>hk ▸ hr
 have HA:=Lib.hid hA
 have HB:=Lib.hid (⟨hb,hS,hSr,hr⟩:_∧_∧_∧_)
 have HLA:=Lib.hid hL
 cases hk:cellKind k with
 | false=>
   rw[hk,if_pos rfl] at hE
   have HE:=Lib.hid hE
   have hkn:=colKind_any k w
   rw[hk] at hkn
   clear hE hb hS hSr hA hL
   go_enter Tryz.func178,Tryz.ntmps178
   go_wp2_with fail
   refine (hkn).mono ?_
   rintro e u1 ⟨rfl,hfr⟩
   have E1:=Lib.hid (Ev.of hfr hlt0)
   have G1:=Lib.hid hfr
   clear hfr
   have hmo:=mustN_bad r a cap l d 10 u1 (HA.out.fr G1.out id) (by omega) (by omega)
   go_wp2_with fail
   refine (hmo).mono ?_
   rintro e u2 ⟨rfl,hfr⟩
   have E2:=Lib.hid (Ev.of hfr E1.out.lt)
   have G2:=Lib.hid hfr
   clear hfr
   clear hmo hkn
   go_wp2_with fail
   refine ⟨rfl,((E1.out.trans E2.out)).fr,?_⟩
   rw[HE.out]
   exact ⟨rfl,by omega,by omega,HA.out.fr (G1.out.andN G2.out) id⟩
 | true=>
   rw[hk,if_neg (by simp),if_neg (by omega)] at hE
   have hkn:=colKind_any k w
   rw[hk] at hkn
   have HKC:=Lib.hid (cellKind_cases hk)
   subst hE
   clear hb hS hSr hA hL hk
   have hn0:(0:Int)≤n:=by omega
   have hnd:decide ((n:Int)≤1024)=true:=by rw[decide_eq_true_iff];omega
   go_enter Tryz.func178,Tryz.ntmps178
   go_wp2_with fail
   refine (hkn).mono ?_
   rintro e u3 ⟨rfl,hfr⟩
   have E3:=Lib.hid (Ev.of hfr hlt0)
   have G3:=Lib.hid hfr
   clear hfr
   have hmo:=mustN_ok r a cap l d true 10 u3 (HA.out.fr G3.out id) (Or.inl rfl)
   go_wp2_with fail
   refine (hmo).mono ?_
   rintro e u4 ⟨rfl,hfr⟩
   have E4:=Lib.hid (Ev.of hfr E3.out.lt)
   have G4:=Lib.hid hfr
   clear hfr
   clear hmo hkn
   have hmo:=mustN_ok r a cap l d true 3 u4 (HA.out.fr (G3.out.andN G4.out) id) (Or.inl rfl)
   go_wp2_with fail
   refine (hmo).mono ?_
   rintro e u5 ⟨rfl,hfr⟩
   have E5:=Lib.hid (Ev.of hfr E4.out.lt)
   have G5:=Lib.hid hfr
   clear hfr
   clear hmo
   have g0:∀u,Fr nob w u→r<u.heap.size∧(∀j,S j→j<u.heap.size):=fun u hu=>⟨Nat.lt_of_lt_of_le HB.out.2.2.2 hu.size,fun j hj=>Nat.lt_of_lt_of_le (HB.out.2.1 j hj) hu.size⟩
   have t0:=fun u (hu:Fr nob w u)=>takeSigned_o S u r (g0 u hu).1 HB.out.2.2.1 (g0 u hu).2 a cap l d (HA.out.fr hu id) (HB.out.1.frN hu) hn n hnn
   have t1:=fun u (hu:Fr nob w u)=>takeNumbers_o S u r (g0 u hu).1 HB.out.2.2.1 (g0 u hu).2 a cap l d (HA.out.fr hu id) (HB.out.1.frN hu) hn n hnn
   have t2:=fun u (hu:Fr nob w u)=>takeBools_o S u r (g0 u hu).1 HB.out.2.2.1 (g0 u hu).2 a cap l d (HA.out.fr hu id) (HB.out.1.frN hu) hn n hnn
   have t3:=fun u (hu:Fr nob w u)=>takeBytes_o S u r (g0 u hu).1 HB.out.2.2.1 (g0 u hu).2 a cap l d (HA.out.fr hu id) (HB.out.1.frN hu) hn n hnn (HLA.out.go hu.any)
   have t4:=fun u (hu:Fr nob w u)=>takeText_o S u r (g0 u hu).1 HB.out.2.2.1 (g0 u hu).2 a cap l d (HA.out.fr hu id) (HB.out.1.frN hu) hn n hnn (HLA.out.go hu.any)
   clear hnd hn0
   rcases HKC.out with hkk | hkk | hkk | hkk | hkk | hkk
   · subst hkk
     go_wp2_with fail
     refine (kinds_any u5).mono ?_
     rintro e u6 ⟨rfl,hfr⟩
     have E6:=Lib.hid (Ev.of hfr E5.out.lt)
     have G6:=Lib.hid hfr
     clear hfr
     have hidx:∀w,(Instr.index 219 kindsVal (.int .i64 0)).run Tryz.prog w= .ok (.agg #[.func (.func 174) #[] #[], .func (.func 175) #[] #[]]) w:=fun w=>by rfl
     have hfld:∀w,(Instr.field 218 (.agg #[.func (.func 174) #[] #[], .func (.func 175) #[] #[]]) 1).run Tryz.prog w= .ok (.func (.func 175) #[] #[]) w:=fun w=>by rfl
     have hc2:=t0 u6 (G3.out.andN (G4.out.andN (G5.out.andN G6.out)))
     cases ho:pSigned n d with
     | ok v d' =>
       rw[ho] at hc2
       go_wp2_with fail
       refine hc2.mono ?_
       intro e w1 h
       obtain ⟨⟨a',c',rfl,hv⟩,hf,hA1⟩:=h.ok rfl
       have H:=Lib.hid (⟨hv,hf,hA1⟩:_∧_∧_)
       clear h hv hf hA1 hc2
       go_wp2_with fail
       go_ret
       refine ⟨((E3.out.trans (E4.out.trans (E5.out.trans E6.out)))).fr.trans' H.out.2.1,?_⟩
       rw[show pKind _ n d=pSigned n d from rfl,ho]
       exact ⟨⟨a',c',rfl,H.out.1.mono rCel_ok (fun j hj=>⟨Nat.le_trans ((E3.out.trans (E4.out.trans (E5.out.trans E6.out)))).fr.size hj.1,hj.2⟩)⟩,H.out.2.2⟩
     | bad c d' =>
       rw[ho] at hc2
       go_wp2_with fail
       refine hc2.mono ?_
       intro e w1 h
       obtain ⟨rfl,hf,hA1⟩:=h.bad rfl
       have H:=Lib.hid (⟨hf,hA1⟩:_∧_)
       clear h hf hA1 hc2
       go_wp2_with fail
       refine ⟨rfl,((E3.out.trans (E4.out.trans (E5.out.trans E6.out)))).fr.trans' H.out.1,?_⟩
       rw[show pKind _ n d=pSigned n d from rfl,ho]
       exact ⟨rfl,H.out.2.2.1,H.out.2.2.2,H.out.2.1⟩
   · subst hkk
     go_wp2_with fail
     refine (kinds_any u5).mono ?_
     rintro e u7 ⟨rfl,hfr⟩
     have E7:=Lib.hid (Ev.of hfr E5.out.lt)
     have G7:=Lib.hid hfr
     clear hfr
     have hidx:∀w,(Instr.index 219 kindsVal (.int .i64 1)).run Tryz.prog w= .ok (.agg #[.func (.func 172) #[] #[], .func (.func 173) #[] #[]]) w:=fun w=>by rfl
     have hfld:∀w,(Instr.field 218 (.agg #[.func (.func 172) #[] #[], .func (.func 173) #[] #[]]) 1).run Tryz.prog w= .ok (.func (.func 173) #[] #[]) w:=fun w=>by rfl
     have hc2:=t1 u7 (G3.out.andN (G4.out.andN (G5.out.andN G7.out)))
     cases ho:pNumbers n d with
     | ok v d' =>
       rw[ho] at hc2
       go_wp2_with fail
       refine hc2.mono ?_
       intro e w1 h
       obtain ⟨⟨a',c',rfl,hv⟩,hf,hA1⟩:=h.ok rfl
       have H:=Lib.hid (⟨hv,hf,hA1⟩:_∧_∧_)
       clear h hv hf hA1 hc2
       go_wp2_with fail
       go_ret
       refine ⟨((E3.out.trans (E4.out.trans (E5.out.trans E7.out)))).fr.trans' H.out.2.1,?_⟩
       rw[show pKind _ n d=pNumbers n d from rfl,ho]
       exact ⟨⟨a',c',rfl,H.out.1.mono rCel_ok (fun j hj=>⟨Nat.le_trans ((E3.out.trans (E4.out.trans (E5.out.trans E7.out)))).fr.size hj.1,hj.2⟩)⟩,H.out.2.2⟩
     | bad c d' =>
       rw[ho] at hc2
       go_wp2_with fail
       refine hc2.mono ?_
       intro e w1 h
       obtain ⟨rfl,hf,hA1⟩:=h.bad rfl
       have H:=Lib.hid (⟨hf,hA1⟩:_∧_)
       clear h hf hA1 hc2
       go_wp2_with fail
       refine ⟨rfl,((E3.out.trans (E4.out.trans (E5.out.trans E7.out)))).fr.trans' H.out.1,?_⟩
       rw[show pKind _ n d=pNumbers n d from rfl,ho]
       exact ⟨rfl,H.out.2.2.1,H.out.2.2.2,H.out.2.1⟩
   · subst hkk
     go_wp2_with fail
     refine (kinds_any u5).mono ?_
     rintro e u8 ⟨rfl,hfr⟩
     have E8:=Lib.hid (Ev.of hfr E5.out.lt)
     have G8:=Lib.hid hfr
     clear hfr
     have hidx:∀w,(Instr.index 219 kindsVal (.int .i64 2)).run Tryz.prog w= .ok (.agg #[.func (.func 176) #[] #[], .func (.func 177) #[] #[]]) w:=fun w=>by rfl
     have hfld:∀w,(Instr.field 218 (.agg #[.func (.func 176) #[] #[], .func (.func 177) #[] #[]]) 1).run Tryz.prog w= .ok (.func (.func 177) #[] #[]) w:=fun w=>by rfl
     have hc2:=t2 u8 (G3.out.andN (G4.out.andN (G5.out.andN G8.out)))
     cases ho:pBools n d with
     | ok v d' =>
       rw[ho] at hc2
       go_wp2_with fail
       refine hc2.mono ?_
       intro e w1 h
       obtain ⟨⟨a',c',rfl,hv⟩,hf,hA1⟩:=h.ok rfl
       have H:=Lib.hid (⟨hv,hf,hA1⟩:_∧_∧_)
       clear h hv hf hA1 hc2
       go_wp2_with fail
       go_ret
       refine ⟨((E3.out.trans (E4.out.trans (E5.out.trans E8.out)))).fr.trans' H.out.2.1,?_⟩
       rw[show pKind _ n d=pBools n d from rfl,ho]
       exact ⟨⟨a',c',rfl,H.out.1.mono rCel_ok (fun j hj=>⟨Nat.le_trans ((E3.out.trans (E4.out.trans (E5.out.trans E8.out)))).fr.size hj.1,hj.2⟩)⟩,H.out.2.2⟩
     | bad c d' =>
       rw[ho] at hc2
       go_wp2_with fail
       refine hc2.mono ?_
       intro e w1 h
       obtain ⟨rfl,hf,hA1⟩:=h.bad rfl
       have H:=Lib.hid (⟨hf,hA1⟩:_∧_)
       clear h hf hA1 hc2
       go_wp2_with fail
       refine ⟨rfl,((E3.out.trans (E4.out.trans (E5.out.trans E8.out)))).fr.trans' H.out.1,?_⟩
       rw[show pKind _ n d=pBools n d from rfl,ho]
       exact ⟨rfl,H.out.2.2.1,H.out.2.2.2,H.out.2.1⟩
   · subst hkk
     go_wp2_with fail
     refine (kinds_any u5).mono ?_
     rintro e u9 ⟨rfl,hfr⟩
     have E9:=Lib.hid (Ev.of hfr E5.out.lt)
     have G9:=Lib.hid hfr
     clear hfr
     have hidx:∀w,(Instr.index 219 kindsVal (.int .i64 3)).run Tryz.prog w= .ok (.agg #[.func (.func 168) #[] #[], .func (.func 169) #[] #[]]) w:=fun w=>by rfl
     have hfld:∀w,(Instr.field 218 (.agg #[.func (.func 168) #[] #[], .func (.func 169) #[] #[]]) 1).run Tryz.prog w= .ok (.func (.func 169) #[] #[]) w:=fun w=>by rfl
     have hc2:=t3 u9 (G3.out.andN (G4.out.andN (G5.out.andN G9.out)))
     cases ho:pTexts false [] n d with
     | ok v d' =>
       rw[ho] at hc2
       go_wp2_with fail
       refine hc2.mono ?_
       intro e w1 h
       obtain ⟨⟨a',c',rfl,hv⟩,hf,hA1⟩:=h.ok rfl
       have H:=Lib.hid (⟨hv,hf,hA1⟩:_∧_∧_)
       clear h hv hf hA1 hc2
       go_wp2_with fail
       go_ret
       refine ⟨((E3.out.trans (E4.out.trans (E5.out.trans E9.out)))).fr.trans' H.out.2.1,?_⟩
       rw[show pKind _ n d=pTexts false [] n d from rfl,ho]
       exact ⟨⟨a',c',rfl,H.out.1.mono rCel_ok (fun j hj=>⟨Nat.le_trans ((E3.out.trans (E4.out.trans (E5.out.trans E9.out)))).fr.size hj.1,hj.2⟩)⟩,H.out.2.2⟩
     | bad c d' =>
       rw[ho] at hc2
       go_wp2_with fail
       refine hc2.mono ?_
       intro e w1 h
       obtain ⟨rfl,hf,hA1⟩:=h.bad rfl
       have H:=Lib.hid (⟨hf,hA1⟩:_∧_)
       clear h hf hA1 hc2
       go_wp2_with fail
       refine ⟨rfl,((E3.out.trans (E4.out.trans (E5.out.trans E9.out)))).fr.trans' H.out.1,?_⟩
       rw[show pKind _ n d=pTexts false [] n d from rfl,ho]
       exact ⟨rfl,H.out.2.2.1,H.out.2.2.2,H.out.2.1⟩
   · subst hkk
     go_wp2_with fail
     refine (kinds_any u5).mono ?_
     rintro e u10 ⟨rfl,hfr⟩
     have E10:=Lib.hid (Ev.of hfr E5.out.lt)
     have G10:=Lib.hid hfr
     clear hfr
     have hidx:∀w,(Instr.index 219 kindsVal (.int .i64 4)).run Tryz.prog w= .ok (.agg #[.func (.func 168) #[] #[], .func (.func 171) #[] #[]]) w:=fun w=>by rfl
     have hfld:∀w,(Instr.field 218 (.agg #[.func (.func 168) #[] #[], .func (.func 171) #[] #[]]) 1).run Tryz.prog w= .ok (.func (.func 171) #[] #[]) w:=fun w=>by rfl
     have hc2:=t4 u10 (G3.out.andN (G4.out.andN (G5.out.andN G10.out)))
     cases ho:pTexts true [] n d with
     | ok v d' =>
       rw[ho] at hc2
       go_wp2_with fail
       refine hc2.mono ?_
       intro e w1 h
       obtain ⟨⟨a',c',rfl,hv⟩,hf,hA1⟩:=h.ok rfl
       have H:=Lib.hid (⟨hv,hf,hA1⟩:_∧_∧_)
       clear h hv hf hA1 hc2
       go_wp2_with fail
       go_ret
       refine ⟨((E3.out.trans (E4.out.trans (E5.out.trans E10.out)))).fr.trans' H.out.2.1,?_⟩
       rw[show pKind _ n d=pTexts true [] n d from rfl,ho]
       exact ⟨⟨a',c',rfl,H.out.1.mono rCel_ok (fun j hj=>⟨Nat.le_trans ((E3.out.trans (E4.out.trans (E5.out.trans E10.out)))).fr.size hj.1,hj.2⟩)⟩,H.out.2.2⟩
     | bad c d' =>
       rw[ho] at hc2
       go_wp2_with fail
       refine hc2.mono ?_
       intro e w1 h
       obtain ⟨rfl,hf,hA1⟩:=h.bad rfl
       have H:=Lib.hid (⟨hf,hA1⟩:_∧_)
       clear h hf hA1 hc2
       go_wp2_with fail
       refine ⟨rfl,((E3.out.trans (E4.out.trans (E5.out.trans E10.out)))).fr.trans' H.out.1,?_⟩
       rw[show pKind _ n d=pTexts true [] n d from rfl,ho]
       exact ⟨rfl,H.out.2.2.1,H.out.2.2.2,H.out.2.1⟩
   · subst hkk
     go_wp2_with fail
     refine (kinds_any u5).mono ?_
     rintro e u11 ⟨rfl,hfr⟩
     have E11:=Lib.hid (Ev.of hfr E5.out.lt)
     have G11:=Lib.hid hfr
     clear hfr
     have hidx:∀w,(Instr.index 219 kindsVal (.int .i64 5)).run Tryz.prog w= .ok (.agg #[.func (.func 172) #[] #[], .func (.func 173) #[] #[]]) w:=fun w=>by rfl
     have hfld:∀w,(Instr.field 218 (.agg #[.func (.func 172) #[] #[], .func (.func 173) #[] #[]]) 1).run Tryz.prog w= .ok (.func (.func 173) #[] #[]) w:=fun w=>by rfl
     have hc2:=t1 u11 (G3.out.andN (G4.out.andN (G5.out.andN G11.out)))
     cases ho:pNumbers n d with
     | ok v d' =>
       rw[ho] at hc2
       go_wp2_with fail
       refine hc2.mono ?_
       intro e w1 h
       obtain ⟨⟨a',c',rfl,hv⟩,hf,hA1⟩:=h.ok rfl
       have H:=Lib.hid (⟨hv,hf,hA1⟩:_∧_∧_)
       clear h hv hf hA1 hc2
       go_wp2_with fail
       go_ret
       refine ⟨((E3.out.trans (E4.out.trans (E5.out.trans E11.out)))).fr.trans' H.out.2.1,?_⟩
       rw[show pKind _ n d=pNumbers n d from rfl,ho]
       exact ⟨⟨a',c',rfl,H.out.1.mono rCel_ok (fun j hj=>⟨Nat.le_trans ((E3.out.trans (E4.out.trans (E5.out.trans E11.out)))).fr.size hj.1,hj.2⟩)⟩,H.out.2.2⟩
     | bad c d' =>
       rw[ho] at hc2
       go_wp2_with fail
       refine hc2.mono ?_
       intro e w1 h
       obtain ⟨rfl,hf,hA1⟩:=h.bad rfl
       have H:=Lib.hid (⟨hf,hA1⟩:_∧_)
       clear h hf hA1 hc2
       go_wp2_with fail
       refine ⟨rfl,((E3.out.trans (E4.out.trans (E5.out.trans E11.out)))).fr.trans' H.out.1,?_⟩
       rw[show pKind _ n d=pNumbers n d from rfl,ho]
       exact ⟨rfl,H.out.2.2.1,H.out.2.2.2,H.out.2.1⟩
end Go.Proofs.YtibpkfnfcdbiiaaGreatDoor
