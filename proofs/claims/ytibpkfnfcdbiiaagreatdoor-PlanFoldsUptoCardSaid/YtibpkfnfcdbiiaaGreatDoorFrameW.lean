/- Contract of frame.Write. -/
import Derived.Test.YtibpkfnfcdbiiaaGreatDoorCrcE
import Derived.Test.YtibpkfnfcdbiiaaGreatDoorBunK
import Derived.Test.YtibpkfnfcdbiiaaGreatDoorEvo
namespace Go.Proofs.YtibpkfnfcdbiiaaGreatDoor
set_option linter.unusedSimpArgs false
open Go.RowKit
set_option linter.unusedVariables false
def frameErr (k:Nat) (p:List UInt8):Nat:=if 2<k then 10 else if 1048576<p.length then 13 else 0
def frameBytes (k:Nat) (p:List UInt8):List UInt8:=crcSeal ([UInt8.ofNat k]++lenBytes p)
def frameW (k:Nat) (p:List UInt8):List UInt8:=if frameErr k p=0 then frameBytes k p else []
theorem frameBytes_len (k:Nat) (p:List UInt8) (h:p.length≤1048576):(frameBytes k p).length≤p.length+15:=by
 have:=uv_len10 (x:=p.length) (by omega)
 simp[frameBytes,crcSeal,crcPut_len,lenBytes]
 omega
set_option maxRecDepth 100000 in
set_option maxHeartbeats 4000000 in
theorem frameWrite_any (k:Nat) (hk:k≤1000) (S:Nat→Prop) (w:World) (a:Option Addr) (cap:Nat) (p:List UInt8) (h:BV S w a cap p) (hl:p.length≤1099511627776):
 Calls Tryz.prog 90 #[.int .i64 k, .slice a p.length cap] w fun e w' =>∃a' c',e= .returned (.tuple #[.slice a' (frameW k p).length c', .int .i64 (frameErr k p:Nat)])∧Fr nob w w' ∧BV (newb w w') w' a' c' (frameW k p):=by
 have H:=Lib.hid h
 clear h
 by_cases h2:2<k
 · have hE:frameErr k p=10:=by unfold frameErr;rw[if_pos h2]
   have hW:frameW k p=[]:=by unfold frameW;rw[hE];rfl
   have HE:=Lib.hid hE
   have HW:=Lib.hid hW
   clear hE hW
   go_enter Tryz.func90,Tryz.ntmps90
   go_wp2_with fail
   go_ret2
   rw[HE.out,HW.out]
   exact ⟨none,0,rfl,Fr.refl _ _,BV.nil _ _⟩
 · by_cases h3:1048576<p.length
   · have hE:frameErr k p=13:=by unfold frameErr;rw[if_neg h2,if_pos h3]
     have hW:frameW k p=[]:=by unfold frameW;rw[hE];rfl
     have HE:=Lib.hid hE
     have HW:=Lib.hid hW
     clear hE hW
     go_enter Tryz.func90,Tryz.ntmps90
     go_wp2_with fail
     go_ret2
     rw[HE.out,HW.out]
     exact ⟨none,0,rfl,Fr.refl _ _,BV.nil _ _⟩
   · have hE:frameErr k p=0:=by unfold frameErr;rw[if_neg h2,if_neg h3]
     have hW:frameW k p=frameBytes k p:=by unfold frameW;rw[hE];rfl
     have HE:=Lib.hid hE
     have HW:=Lib.hid hW
     have hul:=uv_len10 (x:=p.length) (by omega)
     have hkw:IntKind.u8.wrap (k:Int)=((UInt8.ofNat k).toNat:Int):=by rw[IntKind.wrap_u8,UInt8.toNat_ofNat'];omega
     obtain ⟨kb,hkb⟩:∃x,x=UInt8.ofNat k:=⟨_,rfl⟩
     rw[←hkb] at hkw
     have HFB:=Lib.hid (show frameBytes k p=crcSeal ([kb]++lenBytes p) by rw[hkb];rfl)
     clear hkb
     clear hE hW
     have v9:=lit_of w [kb] (by simp)
     simp only[bv,List.map_cons,List.map_nil] at v9
     obtain ⟨w0,hw0⟩:∃x,x=w.alloc (.cells #[.int .u8 kb.toNat] 5 (0,0)):=⟨_,rfl⟩
     obtain ⟨z0,hz0⟩:∃x,x=w.heap.size:=⟨_,rfl⟩
     have hf0:Fr nob w w0:=by rw[hw0];exact (Fr.refl nob w).alloc _
     go_enter Tryz.func90,Tryz.ntmps90
     go_wp2_with fail
     rw[←hw0,←hz0]
     have HV9:=Lib.hid (show BV (newb w w0) w0 (some ⟨z0,0,none⟩) 1 [kb] by rw[hw0,hz0];exact v9)
     clear v9 hw0 hz0
     refine (wireBytes_any S _ a cap p (H.out.frN hf0) hl).mono ?_
     rintro e w1 ⟨a1,c1,rfl,hf1,hv1⟩
     have HV1:=Lib.hid hv1
     clear hv1
     go_wp2_with (at_builtin;refine wpList_append_vec rfl _ _ _ _ rfl rfl (HV9.out.vec.frN hf1) _ _ _ Tryz.underlying27 inf_u8 rfl _ (lenBytes p).length (bv (lenBytes p)) rfl (BV.src HV1.out Tryz.underlying27) (by unfold maxLen;simp[lenBytes];omega) (by simp[lenBytes];omega) ?_)
     intro a2 c2 w2 hv2 hf2 _
     have hv2:BV (grow (newb w w0) w1 w2) w2 a2 c2 ([kb]++lenBytes p):=by unfold BV;rw[List.length_append,bv_append];exact hv2
     have HV2:=Lib.hid hv2
     have hl2:([kb]++lenBytes p).length=1+(lenBytes p).length:=by simp;omega
     have hl3:(lenBytes p).length≤1048576+10:=by simp[lenBytes];omega
     clear hv2
     go_wp2_with fail
     have hsl:=seal_any _ w2 a2 c2 _ HV2.out (by omega)
     rw[hl2] at hsl
     refine hsl.mono ?_
     rintro e w3 ⟨a3,c3,rfl,hf3,hv3⟩
     have HV3:=Lib.hid hv3
     clear hv3 hsl
     go_wp2_with fail
     go_ret2
     have f2:Fr nob w w2:=(hf0.andN hf1).trans hf2 (fun k hk hk' =>absurd hk'.1 (by omega))
     rw[HE.out,HW.out,HFB.out]
     refine ⟨a3,c3,rfl,f2.andN hf3,HV3.out.mono (fun k hk=>⟨by have:=f2.size;have:=hk.1;omega,hk.2⟩)⟩
end Go.Proofs.YtibpkfnfcdbiiaaGreatDoor
