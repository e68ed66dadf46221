/- decklelaw14.Great; a writer's calls in memory. -/
import Derived.Test.YtibpkfnfcdbiiaaGreatDoorBunS
import Derived.Test.YtibpkfnfcdbiiaaGreatDoorBunH
import Derived.Test.YtibpkfnfcdbiiaaGreatDoorPlLit
namespace Go.Proofs.YtibpkfnfcdbiiaaGreatDoor
set_option linter.unusedSimpArgs false
open Go.RowKit
set_option linter.unusedVariables false
theorem inf_Act:((Tryz.prog).info? 89).map (fun i=>(i.zero,i.size,i.bytes))=some (some (.agg #[.int .i64 0, .slice none 0 0]),2,32):=by kernel_rfl
theorem act_at {S:Nat→Prop} {w:World} {a:Option Addr} {cap:Nat} {l:List ActC} (h:SV rActC 2 S w a cap l) {k:Nat} (hk:k<l.length):
 ∃b off ra rc,a=some ⟨b,off,none⟩∧S b∧I64 l[k].kind∧l[k].prs.length≤lim∧SV rPr 2 S w ra rc l[k].prs∧w.cell? ⟨b,off+k*2,none⟩=some (.int .i64 l[k].kind)∧w.cell? ⟨b,off+k*2+1,none⟩=some (.slice ra l[k].prs.length rc):=by
 obtain ⟨b,off,c,ha,hS,⟨h1,h2,ra,rc,rfl,h3⟩,_,hc⟩:=h.get rActC_ok hk
 exact ⟨b,off,ra,rc,ha,hS,h1,h2,h3,by simpa using hc 0 (by omega),by simpa using hc 1 (by omega)⟩
structure AllAs (w0 wr:World) (B:Nat→Prop) (L:List ActC) (k:Nat) (o:List Elt) (ao:Option Addr) (co:Nat):Prop where
 ps:o.map (·.p)=(L.take k).flatMap (·.prs)
 all:Vec B wr 2 ao o.length co (o.flatMap eltCells)
 el:∀x∈o,RowAt (free wr B) wr x
 ev:Ev w0 nob wr B
theorem take_as_le (L:List ActC) (k:Nat):((L.take k).flatMap (·.prs)).length≤(L.flatMap (·.prs)).length:=by
 conv=>rhs;rw[←List.take_append_drop k L]
 rw[List.flatMap_append,List.length_append];omega
theorem take_as_succ {L:List ActC} {k:Nat} (h:k<L.length):(L.take (k+1)).flatMap (·.prs)=(L.take k).flatMap (·.prs)++L[k].prs:=by
 rw[List.take_succ_eq_append_getElem h,List.flatMap_append]
 simp only[List.flatMap_cons,List.flatMap_nil,List.append_nil]
def GreatAs (l:List ActC) (e:Ending):Prop:=∃g:Int,e= .returned (.int .i64 g)∧(¬0<g→l.length≤30∧(l.flatMap (·.prs)).length≤200)
set_option maxRecDepth 100000 in
set_option maxHeartbeats 8000000 in
theorem great14_any (R:Nat→Prop) (w:World) (b:Option Addr) (cb:Nat) (L:List ActC) (hl:SV rActC 2 R w b cb L) (h1:L.length≤lim) (htot:(L.flatMap (·.prs)).length≤1048576) (hR:∀k,R k→k<w.heap.size):
 Calls Tryz.prog 40 #[.slice b L.length cb] w fun e w' =>GreatAs L e∧Fr nob w w' :=by
 have hl' :=hl.within rActC_ok hR
 have HL:=Lib.hid (SV.keep rActC_ok hl')
 clear hl'
 have HTOT:=Lib.hid htot
 unfold lim at h1
 clear hl htot
 go_enter Tryz.func40,Tryz.ntmps40
 go_wp2_with fail
 go_loopw [3,8] (fun v5 v10 wr=>∃(k:Nat) (B:Nat→Prop) (o:List Elt) (ao:Option Addr) (co:Nat),v10= .int .i64 k∧v5= .slice ao o.length co∧k≤L.length∧AllAs w wr B L k o ao co) (fun _ v10 _=>L.length - (intOf v10).toNat)
 case atStart=>exact ⟨0,nob,[],none,0,rfl,rfl,Nat.zero_le _,⟨by simp,Vec.nil _ _ _,by simp,Ev.start _⟩⟩
 case round=>
  obtain ⟨k,B,o,ao,co,rfl,rfl,hk,hst⟩:=hrel
  have HST:=Lib.hid hst
  have HEV:=Lib.hid hst.ev
  have hol:o.length≤1048576:=by
   have h:=congrArg List.length hst.ps
   rw[List.length_map] at h
   have:=take_as_le L k
   have:=HTOT.out
   omega
  clear hst
  by_cases hlt:k<L.length
  · obtain ⟨b1,off,ra,rc,rfl,_,_,hpl,hp,c0,c1⟩:=act_at (HL.out _ _ HEV.out) hlt
    have HLK:=Lib.hid (take_as_succ hlt)
    have hpl2:o.length+L[k].prs.length≤1048576:=by
     have h:=congrArg List.length HST.out.ps
     rw[List.length_map] at h
     have h2:=take_as_le L (k+1)
     rw[HLK.out,List.length_append] at h2
     have:=HTOT.out
     omega
    clear hpl
    generalize L[k]=m at hp c0 c1 HLK hpl2
    obtain ⟨mk,mp⟩:=m
    simp only at hp c0 c1 HLK hpl2
    obtain ⟨w3,hw3⟩:∃x1,x1=wr.alloc (.cells #[.int .i64 mk, .slice ra mp.length rc] 89 (0,0)):=⟨_,rfl⟩
    obtain ⟨z3,hz3⟩:∃z,z=(wr).heap.size:=⟨_,rfl⟩
    have hf3:Fr nob wr w3:=by rw[hw3];exact (Fr.refl nob _).alloc _
    have hB3:=heap_new wr (.cells #[.int .i64 mk, .slice ra mp.length rc] 89 (0,0))
    rw[←hw3] at hB3
    have k1:=cell_of hB3 1
    simp at k1
    rw[hw3] at k1
    obtain ⟨d,hd,hdv,hdr⟩:=elts_of (hp.frN rPr_ok hf3)
    have hdl:d.length=mp.length:=by rw[←hd];simp
    have HD:=Lib.hid (⟨hd,hdl⟩:_∧_)
    have HDR:=Lib.hid hdr
    have HSRC:=Lib.hid ((hdv.src (P:=Tryz.prog) Tryz.underlying24))
    rw[hdl,hw3] at HSRC
    have HVA:=Lib.hid (HST.out.all.frN hf3)
    rw[hw3] at HVA
    have HF3:=Lib.hid hf3
    have HW3:=Lib.hid hw3
    clear hd hdv hdr hdl hp hB3 hf3 hw3 hz3
    go_wp2_with (at_builtin;refine wpList_append_vec rfl _ _ _ _ rfl rfl HVA.out _ _ _ Tryz.underlying24 inf_Pair rfl _ mp.length _ rfl HSRC.out (by unfold maxLen;omega) (by omega) ?_)
    intro a6 c6 w6 hv6 hf6 _
    rw[←HW3.out] at hv6 hf6
    have HV6:=Lib.hid hv6
    have HF6:=Lib.hid hf6
    clear hv6 hf6
    have E1:=Lib.hid (Ev.of HF3.out HEV.out.lt)
    have G1:=Lib.hid HF3.out
    go_wp2_with fail
    go_roundw
    case rel=>
     have e6:=Ev.grow HF6.out E1.out.lt
     refine ⟨k+1,_,o++d,a6,c6,by go_num,by rw[List.length_append,HD.out.2],by omega,⟨by rw[List.map_append,HST.out.ps,HD.out.1,HLK.out],?_,fun x hx=>?_,((HEV.out.trans E1.out)).trans e6⟩⟩
     · rw[List.length_append,HD.out.2,List.flatMap_append];exact HV6.out
     · rcases List.mem_append.1 hx with hx | hx
       · exact ((HST.out.el x hx).ev E1.out).ev e6
       · exact ((HDR.out x hx).mono (fun j hj=>(Ev.of HF3.out HEV.out.lt).frees j hj)).ev e6
    case measure=>simp[intOf];omega
  · obtain rfl:k=L.length:=by omega
    have hps:=HST.out.ps
    rw[List.take_length] at hps
    have hpl:(L.flatMap (·.prs)).length=o.length:=by have h:=congrArg List.length hps;rw[List.length_map] at h;exact h.symm
    have HPL:=Lib.hid hpl
    by_cases h31:30<L.length
    · go_wp2_with fail
      go_ret
      exact ⟨⟨1,rfl,by omega⟩,(HEV.out).toN⟩
    by_cases h200:200<o.length
    · go_wp2_with fail
      go_ret
      exact ⟨⟨1,rfl,by omega⟩,(HEV.out).toN⟩
    obtain ⟨al,hal⟩:∃al,al=o.map (·.p):=⟨_,rfl⟩
    have haln:al.length=o.length:=by rw[hal];simp
    have hread:SV rPr 2 (free wr nob) wr ao co al:=by
     rw[hal];exact elts_back HST.out.all HST.out.el _ (fun k hk=>⟨HEV.out.lt k hk,id⟩) (fun k hk=>⟨hk.1,id⟩)
    obtain ⟨w3,hw3⟩:∃x1,x1=wr.alloc (.cells #[.slice ao o.length co] 24 (0,0)):=⟨_,rfl⟩
    obtain ⟨z3,hz3⟩:∃z,z=(wr).heap.size:=⟨_,rfl⟩
    have hf3:Fr nob wr w3:=by rw[hw3];exact (Fr.refl nob _).alloc _
    have hpl:=pl_lit wr nob (nob_lt _) ao co al hread (by unfold lim;omega)
    rw[haln,←hw3,←hz3] at hpl
    have hgr:=greatN_any _ w3 (some ⟨z3,0,none⟩) 1 [al] hpl (by simp[lim])
    clear hps
    go_wp2_with fail
    rw[←hw3,←hz3]
    have E2:=Lib.hid (Ev.of hf3 HEV.out.lt)
    have G2:=Lib.hid hf3
    clear hw3 hz3 hf3 hpl hread haln hal
    go_wp2_with fail
    refine (hgr).mono ?_
    rintro e u3 ⟨⟨g,rfl⟩,hfr⟩
    have E3:=Lib.hid (Ev.of hfr E2.out.lt)
    have G3:=Lib.hid hfr
    clear hfr
    clear hgr
    go_wp2_with fail
    go_ret
    exact ⟨⟨_,rfl,fun _=>⟨by omega,by rw[HPL.out];omega⟩⟩,((HEV.out.trans (E2.out.trans E3.out))).toN⟩
end Go.Proofs.YtibpkfnfcdbiiaaGreatDoor
