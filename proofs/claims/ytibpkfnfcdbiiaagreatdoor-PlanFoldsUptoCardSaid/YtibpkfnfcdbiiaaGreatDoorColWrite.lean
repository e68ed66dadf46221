/- column.Write, walked. -/
import Derived.Test.YtibpkfnfcdbiiaaGreatDoorColTake
namespace Go.Proofs.YtibpkfnfcdbiiaaGreatDoor
set_option linter.unusedSimpArgs false
open Go.RowKit
set_option linter.unusedVariables false
def colGo (k:Int):List Cel→Nat
 | []=>0
 | c::l=>if cellCheck k c=0 then colGo k l else cellCheck k c
def colErr (k:Int) (l:List Cel):Nat:=if cellKind k=false then 10 else colGo k l
def colBytes (k:Int) (l:List Cel):List UInt8:=if colErr k l=0 then wKind k l else []
theorem colGo_all {k:Int}:∀{l:List Cel},colGo k l=0→∀c∈l,cellCheck k c=0
 | [],_,c,hc=>by simp at hc
 | d::l,h,c,hc=>by
   unfold colGo at h
   split at h
   · rename_i hd
     rcases List.mem_cons.1 hc with rfl | hc
     · exact hd
     · exact colGo_all h c hc
   · rename_i hd;exact absurd h hd
theorem check_parts {k:Int} {c:Cel} (h:cellCheck k c=0):cellKind k=true∧(textyB k=true→c.num=0)∧(textyB k=false→c.text=[])∧(k=2→c.num≤1)∧(k=4→Lib.validD c.text=true)∧c.text.length≤256:=by
 unfold cellCheck at h
 cases hk:cellKind k
 · rw[hk] at h;simp at h
 · rw[hk,if_neg (by simp)] at h
   split at h
   · cases h
   · rename_i hb
     split at h
     · cases h
     · rename_i hl
       simp only[Bool.not_eq_true,Bool.or_eq_false_iff,Bool.and_eq_false_iff] at hb
       obtain ⟨⟨⟨h1,h2⟩,h3⟩,h4⟩:=hb
       refine ⟨rfl,fun ht=>?_,fun ht=>?_,fun h2' =>?_,fun h4' =>?_,by omega⟩
       · rcases h1 with h1 | h1
         · rw[ht] at h1;cases h1
         · simpa using h1
       · rcases h2 with h2 | h2
         · rw[ht] at h2;cases h2
         · simpa using h2
       · rcases h3 with h3 | h3
         · subst h2';simp at h3
         · simp at h3;omega
       · rcases h4 with h4 | h4
         · subst h4';simp at h4
         · simpa using h4
def CWPost (w w' :World) (x:List UInt8) (err:Nat) (e:Ending):Prop:=∃a' c',e= .returned (.tuple #[.slice a' x.length c', .int .i64 err])∧Fr nob w w' ∧BV (newb w w') w' a' c' x
set_option maxRecDepth 100000 in
set_option maxHeartbeats 16000000 in
theorem colWrite_any (S:Nat→Prop) (w:World) (K:Int) (b:Option Addr) (cb:Nat) (l:List Cel) (hl:SV rCel 2 S w b cb l) (hS:∀k,S k→k<w.heap.size) (hl2:l.length≤1048576) (hL:Laid w):
 Calls Tryz.prog 119 #[.int .i64 K, .slice b l.length cb] w fun e w' =>CWPost w w' (colBytes K l) (colErr K l) e:=by
 obtain ⟨X,hX⟩:∃X,X=colBytes K l:=⟨_,rfl⟩
 obtain ⟨E,hE⟩:∃E,E=colErr K l:=⟨_,rfl⟩
 rw[←hE,←hX]
 unfold colBytes at hX
 rw[←hE] at hX
 unfold colErr at hE
 have hl' :=hl.within rCel_ok hS
 have HL:=Lib.hid (SV.keep rCel_ok hl')
 clear hl'
 have HLA:=Lib.hid (hL.keep)
 have hkn:=colKind_any K w
 clear hl hL hS
 cases hk:cellKind K with
 | false=>
   rw[hk,if_pos rfl] at hE
   subst hE
   rw[if_neg (by omega)] at hX
   subst hX
   rw[hk] at hkn
   go_enter Tryz.func119,Tryz.ntmps119
   go_wp2_with fail
   refine (hkn).mono ?_
   rintro e u1 ⟨rfl,hfr⟩
   have E1:=Lib.hid (Ev.of hfr (nob_lt _))
   have G1:=Lib.hid hfr
   clear hfr
   go_wp2_with fail
   go_ret2
   exact ⟨none,0,rfl,(E1.out).toN,BV.nil _ _⟩
 | true=>
   rw[hk,if_neg (by simp)] at hE
   have HE:=Lib.hid hE
   have HX:=Lib.hid hX
   have HKC:=Lib.hid (cellKind_cases hk)
   rw[hk] at hkn
   clear hE hX hk
   go_enter Tryz.func119,Tryz.ntmps119
   go_wp2_with fail
   refine (hkn).mono ?_
   rintro e u2 ⟨rfl,hfr⟩
   have E2:=Lib.hid (Ev.of hfr (nob_lt _))
   have G2:=Lib.hid hfr
   clear hfr
   go_wp2_with fail
   go_loopw [14] (fun v14 wr=>∃(i:Nat),v14= .int .i64 i∧i≤l.length∧E=colGo K (l.drop i)∧Ev w nob wr nob) (fun v14 _=>l.length - (intOf v14).toNat)
   case atStart=>exact ⟨0,rfl,Nat.zero_le _,HE.out,E2.out⟩
   case round=>
    obtain ⟨i,rfl,hi,hEi,hev⟩:=hrel
    have HEV:=Lib.hid hev
    have HEI:=Lib.hid hEi
    clear hev hEi
    by_cases hlt:i<l.length
    · have hEi:=HEI.out
      rw[List.drop_eq_getElem_cons hlt] at hEi
      obtain ⟨b1,off,rfl,_,h64,htl,c0,c1⟩:=cel_at (HL.out _ _ HEV.out) hlt
      generalize l[i]=c at hEi h64 htl c0 c1
      unfold colGo at hEi
      have hce:=fun u hu=>cell_any K c u htl hu
      unfold celVal at hce
      obtain ⟨chk,hchk⟩:∃chk,chk=cellCheck K c:=⟨_,rfl⟩
      rw[←hchk] at hEi hce
      obtain ⟨v,t⟩:=c
      simp only at c0 c1 hce
      have HEI1:=Lib.hid hEi
      clear hEi hchk htl
      obtain ⟨w2,hw2⟩:∃w2,w2=wr.alloc (.cells #[.int .u64 v, .string (bs t)] 74 (0,0)):=⟨_,rfl⟩
      have hf2:Fr nob wr w2:=by rw[hw2];exact (Fr.refl nob wr).alloc _
      have HF2:=Lib.hid hf2
      have HW2:=Lib.hid hw2
      clear hf2 hw2
      by_cases h0:chk=0
      · subst h0
        have hE1:E=colGo K (l.drop (i+1)):=HEI1.out.trans (if_pos rfl)
        have HE1:=Lib.hid hE1
        clear hE1
        go_wp2_with fail
        rw[←HW2.out]
        have E3:=Lib.hid (Ev.of HF2.out HEV.out.lt)
        have G3:=Lib.hid HF2.out
        refine (hce w2 (HLA.out _ _ (HEV.out.trans E3.out))).mono ?_
        rintro e u4 ⟨rfl,hfr⟩
        have E4:=Lib.hid (Ev.of hfr E3.out.lt)
        have G4:=Lib.hid hfr
        clear hfr
        clear hce
        go_wp2_with fail
        go_roundw
        case rel=>exact ⟨i+1,by go_num,by omega,HE1.out,(HEV.out.trans (E3.out.trans E4.out))⟩
        case measure=>simp[intOf];omega
      · have hE1:E=chk:=HEI1.out.trans (if_neg h0)
        have hne:=intne h0
        have hX0:X=[]:=HX.out.trans (if_neg (by rw[hE1];exact h0))
        have HE1:=Lib.hid hE1
        have HX0:=Lib.hid hX0
        clear hE1 hX0
        go_wp2_with fail
        rw[←HW2.out]
        have E5:=Lib.hid (Ev.of HF2.out HEV.out.lt)
        have G5:=Lib.hid HF2.out
        refine (hce w2 (HLA.out _ _ (HEV.out.trans E5.out))).mono ?_
        rintro e u6 ⟨rfl,hfr⟩
        have E6:=Lib.hid (Ev.of hfr E5.out.lt)
        have G6:=Lib.hid hfr
        clear hfr
        clear hce
        go_wp2_with fail
        go_ret2
        rw[HX0.out,HE1.out]
        exact ⟨none,0,rfl,((HEV.out.trans (E5.out.trans E6.out))).toN,BV.nil _ _⟩
    · obtain rfl:i=l.length:=by omega
      have hE0:=HEI.out
      rw[List.drop_length] at hE0
      unfold colGo at hE0
      subst hE0
      have hall:=colGo_all HE.out.symm
      have HBY:Hid (X=wKind K l):=Lib.hid (HX.out.trans (if_pos rfl))
      have h256:∀c∈l,c.text.length≤256:=fun c hc=>(check_parts (hall c hc)).2.2.2.2.2
      have htru:K=2→Truths l:=fun h c hc=>⟨(check_parts (hall c hc)).2.2.2.1 h,(check_parts (hall c hc)).2.2.1 (by subst h;rfl)⟩
      have HALL:=Lib.hid (⟨h256,htru⟩:_∧_)
      clear hall h256 htru
      rcases HKC.out with hkk | hkk | hkk | hkk | hkk | hkk
      · subst hkk
        go_wp2_with fail
        refine (kinds_any wr).mono ?_
        rintro e u7 ⟨rfl,hfr⟩
        have E7:=Lib.hid (Ev.of hfr HEV.out.lt)
        have G7:=Lib.hid hfr
        clear hfr
        have hidx:∀w,(Instr.index 219 kindsVal (.int .i64 0)).run Tryz.prog w= .ok (.agg #[.func (.func 174) #[] #[], .func (.func 175) #[] #[]]) w:=fun w=>by rfl
        have hfld:∀w,(Instr.field 218 (.agg #[.func (.func 174) #[] #[], .func (.func 175) #[] #[]]) 0).run Tryz.prog w= .ok (.func (.func 174) #[] #[]) w:=fun w=>by rfl
        have hc2:=writeSigned_any _ u7 b cb l (HL.out _ _ (HEV.out.trans E7.out)) (fun j hj=>hj.1) hl2
        go_wp2_with fail
        refine (hc2).mono ?_
        rintro e u8 ⟨a9,c9,rfl,hfr,hv9⟩
        have E8:=Lib.hid (Ev.of hfr E7.out.lt)
        have G8:=Lib.hid hfr
        clear hfr
        have HV9:=Lib.hid hv9
        clear hv9 hc2
        go_wp2_with fail
        go_ret2
        refine ⟨a9,c9,?_,((HEV.out.trans (E7.out.trans E8.out))).toN,?_⟩
        · rw[HBY.out];rfl
        · rw[HBY.out]
          exact HV9.out.mono (fun j hj=>⟨Nat.le_trans ((HEV.out.trans E7.out)).fr.size hj.1,hj.2⟩)
      · subst hkk
        go_wp2_with fail
        refine (kinds_any wr).mono ?_
        rintro e u9 ⟨rfl,hfr⟩
        have E9:=Lib.hid (Ev.of hfr HEV.out.lt)
        have G9:=Lib.hid hfr
        clear hfr
        have hidx:∀w,(Instr.index 219 kindsVal (.int .i64 1)).run Tryz.prog w= .ok (.agg #[.func (.func 172) #[] #[], .func (.func 173) #[] #[]]) w:=fun w=>by rfl
        have hfld:∀w,(Instr.field 218 (.agg #[.func (.func 172) #[] #[], .func (.func 173) #[] #[]]) 0).run Tryz.prog w= .ok (.func (.func 172) #[] #[]) w:=fun w=>by rfl
        have hc2:=writeNumbers_any _ u9 b cb l (HL.out _ _ (HEV.out.trans E9.out)) (fun j hj=>hj.1) hl2
        go_wp2_with fail
        refine (hc2).mono ?_
        rintro e u10 ⟨a9,c9,rfl,hfr,hv9⟩
        have E10:=Lib.hid (Ev.of hfr E9.out.lt)
        have G10:=Lib.hid hfr
        clear hfr
        have HV9:=Lib.hid hv9
        clear hv9 hc2
        go_wp2_with fail
        go_ret2
        refine ⟨a9,c9,?_,((HEV.out.trans (E9.out.trans E10.out))).toN,?_⟩
        · rw[HBY.out];rfl
        · rw[HBY.out]
          exact HV9.out.mono (fun j hj=>⟨Nat.le_trans ((HEV.out.trans E9.out)).fr.size hj.1,hj.2⟩)
      · subst hkk
        go_wp2_with fail
        refine (kinds_any wr).mono ?_
        rintro e u11 ⟨rfl,hfr⟩
        have E11:=Lib.hid (Ev.of hfr HEV.out.lt)
        have G11:=Lib.hid hfr
        clear hfr
        have hidx:∀w,(Instr.index 219 kindsVal (.int .i64 2)).run Tryz.prog w= .ok (.agg #[.func (.func 176) #[] #[], .func (.func 177) #[] #[]]) w:=fun w=>by rfl
        have hfld:∀w,(Instr.field 218 (.agg #[.func (.func 176) #[] #[], .func (.func 177) #[] #[]]) 0).run Tryz.prog w= .ok (.func (.func 176) #[] #[]) w:=fun w=>by rfl
        have hc2:=writeBools_any _ u11 b cb l (HL.out _ _ (HEV.out.trans E11.out)) (fun j hj=>hj.1) hl2 (HALL.out.2 (by first | rfl | trivial))
        go_wp2_with fail
        refine (hc2).mono ?_
        rintro e u12 ⟨a9,c9,rfl,hfr,hv9⟩
        have E12:=Lib.hid (Ev.of hfr E11.out.lt)
        have G12:=Lib.hid hfr
        clear hfr
        have HV9:=Lib.hid hv9
        clear hv9 hc2
        go_wp2_with fail
        go_ret2
        refine ⟨a9,c9,?_,((HEV.out.trans (E11.out.trans E12.out))).toN,?_⟩
        · rw[HBY.out];rfl
        · rw[HBY.out]
          exact HV9.out.mono (fun j hj=>⟨Nat.le_trans ((HEV.out.trans E11.out)).fr.size hj.1,hj.2⟩)
      · subst hkk
        go_wp2_with fail
        refine (kinds_any wr).mono ?_
        rintro e u13 ⟨rfl,hfr⟩
        have E13:=Lib.hid (Ev.of hfr HEV.out.lt)
        have G13:=Lib.hid hfr
        clear hfr
        have hidx:∀w,(Instr.index 219 kindsVal (.int .i64 3)).run Tryz.prog w= .ok (.agg #[.func (.func 168) #[] #[], .func (.func 169) #[] #[]]) w:=fun w=>by rfl
        have hfld:∀w,(Instr.field 218 (.agg #[.func (.func 168) #[] #[], .func (.func 169) #[] #[]]) 0).run Tryz.prog w= .ok (.func (.func 168) #[] #[]) w:=fun w=>by rfl
        have hc2:=writeTexts_any _ u13 b cb l (HL.out _ _ (HEV.out.trans E13.out)) (fun j hj=>hj.1) hl2 HALL.out.1
        go_wp2_with fail
        refine (hc2).mono ?_
        rintro e u14 ⟨a9,c9,rfl,hfr,hv9⟩
        have E14:=Lib.hid (Ev.of hfr E13.out.lt)
        have G14:=Lib.hid hfr
        clear hfr
        have HV9:=Lib.hid hv9
        clear hv9 hc2
        go_wp2_with fail
        go_ret2
        refine ⟨a9,c9,?_,((HEV.out.trans (E13.out.trans E14.out))).toN,?_⟩
        · rw[HBY.out];rfl
        · rw[HBY.out]
          exact HV9.out.mono (fun j hj=>⟨Nat.le_trans ((HEV.out.trans E13.out)).fr.size hj.1,hj.2⟩)
      · subst hkk
        go_wp2_with fail
        refine (kinds_any wr).mono ?_
        rintro e u15 ⟨rfl,hfr⟩
        have E15:=Lib.hid (Ev.of hfr HEV.out.lt)
        have G15:=Lib.hid hfr
        clear hfr
        have hidx:∀w,(Instr.index 219 kindsVal (.int .i64 4)).run Tryz.prog w= .ok (.agg #[.func (.func 168) #[] #[], .func (.func 171) #[] #[]]) w:=fun w=>by rfl
        have hfld:∀w,(Instr.field 218 (.agg #[.func (.func 168) #[] #[], .func (.func 171) #[] #[]]) 0).run Tryz.prog w= .ok (.func (.func 168) #[] #[]) w:=fun w=>by rfl
        have hc2:=writeTexts_any _ u15 b cb l (HL.out _ _ (HEV.out.trans E15.out)) (fun j hj=>hj.1) hl2 HALL.out.1
        go_wp2_with fail
        refine (hc2).mono ?_
        rintro e u16 ⟨a9,c9,rfl,hfr,hv9⟩
        have E16:=Lib.hid (Ev.of hfr E15.out.lt)
        have G16:=Lib.hid hfr
        clear hfr
        have HV9:=Lib.hid hv9
        clear hv9 hc2
        go_wp2_with fail
        go_ret2
        refine ⟨a9,c9,?_,((HEV.out.trans (E15.out.trans E16.out))).toN,?_⟩
        · rw[HBY.out];rfl
        · rw[HBY.out]
          exact HV9.out.mono (fun j hj=>⟨Nat.le_trans ((HEV.out.trans E15.out)).fr.size hj.1,hj.2⟩)
      · subst hkk
        go_wp2_with fail
        refine (kinds_any wr).mono ?_
        rintro e u17 ⟨rfl,hfr⟩
        have E17:=Lib.hid (Ev.of hfr HEV.out.lt)
        have G17:=Lib.hid hfr
        clear hfr
        have hidx:∀w,(Instr.index 219 kindsVal (.int .i64 5)).run Tryz.prog w= .ok (.agg #[.func (.func 172) #[] #[], .func (.func 173) #[] #[]]) w:=fun w=>by rfl
        have hfld:∀w,(Instr.field 218 (.agg #[.func (.func 172) #[] #[], .func (.func 173) #[] #[]]) 0).run Tryz.prog w= .ok (.func (.func 172) #[] #[]) w:=fun w=>by rfl
        have hc2:=writeNumbers_any _ u17 b cb l (HL.out _ _ (HEV.out.trans E17.out)) (fun j hj=>hj.1) hl2
        go_wp2_with fail
        refine (hc2).mono ?_
        rintro e u18 ⟨a9,c9,rfl,hfr,hv9⟩
        have E18:=Lib.hid (Ev.of hfr E17.out.lt)
        have G18:=Lib.hid hfr
        clear hfr
        have HV9:=Lib.hid hv9
        clear hv9 hc2
        go_wp2_with fail
        go_ret2
        refine ⟨a9,c9,?_,((HEV.out.trans (E17.out.trans E18.out))).toN,?_⟩
        · rw[HBY.out];rfl
        · rw[HBY.out]
          exact HV9.out.mono (fun j hj=>⟨Nat.le_trans ((HEV.out.trans E17.out)).fr.size hj.1,hj.2⟩)
end Go.Proofs.YtibpkfnfcdbiiaaGreatDoor
