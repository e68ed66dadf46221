/- Contract of writer.All. -/
import Derived.Test.YtibpkfnfcdbiiaaGreatDoorAllE
import Derived.Test.YtibpkfnfcdbiiaaGreatDoorBunR
import Derived.Test.YtibpkfnfcdbiiaaGreatDoorBunJ
namespace Go.Proofs.YtibpkfnfcdbiiaaGreatDoor
set_option linter.unusedSimpArgs false
open Go.RowKit
set_option linter.unusedVariables false
set_option maxRecDepth 100000 in
set_option maxHeartbeats 8000000 in
theorem writerAll_any (w:World) (a:Option Addr) (cap:Nat) (s:List Col) (hs:SV rCol 2 (free w nob) w a cap s) (b:Option Addr) (cb:Nat) (ps:List (List Pr)) (hp:SV rPL 1 (free w nob) w b cb ps) (hL:Laid w) (hF:Frames w) (h0:s.length≤lim) (hn:ps.length≤1000) (hpl:∀p∈ps,p.length≤200):
 Calls Tryz.prog 15 #[.slice a s.length cap, .slice b ps.length cb] w fun e w' =>∃ba bc d n k,e= .returned (.tuple #[.slice ba (d:List UInt8).length bc, .int .i64 (n:Nat), .int .i64 (k:Nat)])∧AllEnd s ps d n k∧Fr nob w w' ∧BV (newb w w') w' ba bc d∧d.length≤1099511627776:=by
 have HS:=Lib.hid (SV.keep rCol_ok hs)
 clear hs
 have HP:=Lib.hid (SV.keep rPL_ok hp)
 clear hp
 have HLA:=Lib.hid (hL.keep)
 have HFR:=Lib.hid (fun y (C:Nat→Prop) (e:Ev w nob y C)=>hF.fr e.fr id)
 have HPL:=Lib.hid hpl
 clear hL hF hpl
 go_enter Tryz.func15,Tryz.ntmps15
 go_wp2_with fail
 refine (writerNew_any _ w a cap s (HS.out _ _ (Ev.refl (nob_lt _))) (HLA.out _ _ (Ev.refl (nob_lt _))) h0 (fun k h=>h.1)).mono ?_
 rintro e u1 ⟨hfr,hne⟩
 have E1:=Lib.hid (Ev.of hfr (nob_lt _))
 have G1:=Lib.hid hfr
 clear hfr
 rcases hne with ⟨hsc,rfl⟩ | ⟨hsc,v,O,rfl,hO,hwr⟩
 · have d1:=intne hsc
   have HC:=Lib.hid hsc
   clear hsc
   go_wp2_with fail
   go_ret3
   exact ⟨none,0,[],0,_,rfl,Or.inl ⟨HC.out,rfl,rfl,rfl⟩,(E1.out).toN,BV.nil _ _,by simp⟩
 have HWR0:=Lib.hid hwr
 have hev0:=(E1.out).born hO
 have HEV0:=Lib.hid hev0
 have HSC:=Lib.hid hsc
 clear hwr hO hev0 hsc
 go_wp2_with fail
 go_loopw [23] (fun v23 wr=>∃(k:Nat) (O' :Nat→Prop) (d:List UInt8) (l:List Pr),v23= .int .i64 k∧k≤ps.length∧WrAt wr O' v s d k k l∧AllSt s ps k d l∧Ev w nob wr (wB v O')) (fun v23 _=>ps.length - (intOf v23).toNat)
 case atStart=>exact ⟨0,O,headBytes s,[],rfl,Nat.zero_le _,HWR0.out,AllSt.start ps HSC.out,HEV0.out⟩
 case round=>
  obtain ⟨k,O',d,l,rfl,hk,hwr,hst,hev⟩:=hrel
  have HEV:=Lib.hid hev
  have HWR:=Lib.hid hwr
  have HST:=Lib.hid hst
  have hll:l.length≤1024:=by obtain ⟨_,_,_,_,h⟩:=hst;exact h
  clear hev hwr hst
  by_cases hlt:k<ps.length
  · obtain ⟨b1,off,ra,rc,rfl,_,hpl1,hpr,c0⟩:=pl_at (HP.out _ _ HEV.out) hlt
    have hpl2:=HPL.out ps[k] (List.getElem_mem hlt)
    have HOK:=Lib.hid (sv_ok hpr)
    have HPK:=Lib.hid (show ps[k]=ps[k] from rfl)
    obtain ⟨p,hpp⟩:∃p,p=ps[k]:=⟨_,rfl⟩
    rw[←hpp] at hpr c0 hpl2 HOK
    have HPP:=Lib.hid hpp
    clear hpl1 HPK hpp
    have HQ:=Lib.hid (SV.keep rPr_ok hpr)
    clear hpr
    go_wp2_with fail
    refine (append_w (HWR.out.go (Fr.refl nob _)) (HQ.out _ _ (Ev.refl HEV.out.lt)) (fun u hu=>HLA.out _ _ ((HEV.out).trans (Ev.of hu HEV.out.lt))) (HFR.out _ _ HEV.out) h0 (by unfold lim;omega) (by omega) ⟨by omega,by omega⟩).mono ?_
    rintro e w7 hst0
    have hst:=HST.out.append HSC.out hlt (by omega) (by rw[←HPP.out];exact HOK.out) (by rw[←HPP.out];exact hpl2) (by rw[←HPP.out];exact hst0)
    clear hst0 c0
    rcases hst with ⟨en,hen,rfl,hf7,hend⟩ | ⟨O7,a7,c7,x,l7,rfl,hev7,hwr7,hst7⟩
    · have d7:=intne hen
      have HEND:=Lib.hid hend
      clear hen hend
      have E2:=Lib.hid (Ev.of hf7 HEV.out.lt)
      have G2:=Lib.hid hf7
      go_wp2_with fail
      refine (wBytes_any (HWR.out.go G2.out)).mono ?_
      rintro e w8 ⟨a8,c8,rfl,hf8,hv8⟩
      have E3:=Lib.hid (Ev.of hf8 E2.out.lt)
      have G3:=Lib.hid hf8
      have HV8:=Lib.hid hv8
      have hdl:=HWR.out.len
      clear hv8
      go_wp2_with fail
      go_ret3
      refine ⟨a8,c8,d,k,en,rfl,HEND.out,((HEV.out.trans (E2.out.trans E3.out))).toN,HV8.out.mono (newb_up ((HEV.out.trans E2.out)).fr),by omega⟩
    · have HEV7:=Lib.hid hev7
      have HWR7:=Lib.hid hwr7
      have HST7:=Lib.hid hst7
      clear hev7 hwr7 hst7
      go_wp2_with fail
      go_roundw
      case rel=>exact ⟨k+1,O7,d++x,l7,by go_num,by omega,HWR7.out,HST7.out,(HEV.out.trans HEV7.out)⟩
      case measure=>simp[intOf];omega
  · obtain rfl:k=ps.length:=by omega
    go_wp2_with fail
    refine (wBytes_any (HWR.out.go (Fr.refl nob _))).mono ?_
    rintro e w8 ⟨a8,c8,rfl,hf8,hv8⟩
    have E4:=Lib.hid (Ev.of hf8 HEV.out.lt)
    have G4:=Lib.hid hf8
    have HV8:=Lib.hid hv8
    have hdl:=HWR.out.len
    clear hv8
    go_wp2_with fail
    go_ret3
    refine ⟨a8,c8,d,ps.length,0,rfl,HST.out.done HSC.out,((HEV.out.trans E4.out)).toN,HV8.out.mono (newb_up (HEV.out).fr),by omega⟩
end Go.Proofs.YtibpkfnfcdbiiaaGreatDoor
