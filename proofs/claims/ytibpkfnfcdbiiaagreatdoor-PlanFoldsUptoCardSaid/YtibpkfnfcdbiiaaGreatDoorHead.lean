/- Contract of trace.Head. -/
import Derived.Test.YtibpkfnfcdbiiaaGreatDoorFrameW
import Derived.Test.YtibpkfnfcdbiiaaGreatDoorSchemaW
namespace Go.Proofs.YtibpkfnfcdbiiaaGreatDoor
set_option linter.unusedSimpArgs false
open Go.RowKit
set_option linter.unusedVariables false
def magicL:List UInt8:=[68,75,76,49]
def headBytes (s:List Col):List UInt8:=magicL++frameBytes 0 (schemaBytes s)
def headW (s:List Col):List UInt8:=if schemaCheck s=0 then headBytes s else []
theorem schemaBytes_len {s:List Col} (h:schemaCheck s=0):(schemaBytes s).length≤1000:=by
 have:=schemaPre_le h s.length (Nat.le_refl _)
 rw[schemaPre_all] at this
 have:=(schemaCheck_le h).2
 omega
theorem headBytes_len {s:List Col} (h:schemaCheck s=0):(headBytes s).length≤2000:=by
 have h1:=schemaBytes_len h
 have h2:=frameBytes_len 0 (schemaBytes s) (by omega)
 simp[headBytes,magicL]
 omega
set_option maxRecDepth 100000 in
set_option maxHeartbeats 4000000 in
theorem head_any (S:Nat→Prop) (w:World) (a:Option Addr) (cap:Nat) (s:List Col) (hs:SV rCol 2 S w a cap s) (hL:Laid w) (hl:s.length≤lim) (hS:∀k,S k→k<w.heap.size):
 Calls Tryz.prog 45 #[.slice a s.length cap] w fun e w' =>∃ao co,e= .returned (.tuple #[.slice ao (headW s).length co, .int .i64 (schemaCheck s:Nat)])∧Fr nob w w' ∧BV (newb w w') w' ao co (headW s):=by
 have hc:=schemaWrite_any S w a cap s hs hL hl hS
 clear hs hL hS
 go_enter Tryz.func45,Tryz.ntmps45
 go_wp2_with fail
 refine (hc).mono ?_
 rintro e u1 ⟨a1,c1,rfl,hfr,hv⟩
 have E1:=Lib.hid (Ev.of hfr (nob_lt _))
 have G1:=Lib.hid hfr
 clear hfr
 have HV:=Lib.hid hv
 clear hv hc
 by_cases h1:schemaCheck s=0
 · have hw:schemaW s=schemaBytes s:=by unfold schemaW;rw[if_pos h1]
   have hwh:headW s=magicL++frameBytes 0 (schemaBytes s):=by unfold headW;rw[if_pos h1];rfl
   have hlen:=schemaBytes_len h1
   rw[hw] at HV ⊢
   rw[h1]
   have HWH:=Lib.hid hwh
   have H1:=Lib.hid h1
   have hfe:frameErr 0 (schemaBytes s)=0:=by unfold frameErr;rw[if_neg (by omega),if_neg (by omega)]
   have hfw:frameW 0 (schemaBytes s)=frameBytes 0 (schemaBytes s):=by unfold frameW;rw[hfe];rfl
   have hfl:=frameBytes_len 0 (schemaBytes s) (by omega)
   have hc:=frameWrite_any 0 (by omega) _ u1 a1 c1 (schemaBytes s) HV.out (by omega)
   rw[hfe,hfw] at hc
   generalize frameBytes 0 (schemaBytes s)=fb at hc HWH hfl
   clear hw hwh h1 hfe hfw
   go_wp2_with fail
   refine (hc).mono ?_
   rintro e u2 ⟨a2,c2,rfl,hfr,hv2⟩
   have E2:=Lib.hid (Ev.of hfr E1.out.lt)
   have G2:=Lib.hid hfr
   clear hfr
   have HV2:=Lib.hid hv2
   clear hv2 hc
   obtain ⟨wp,hwp⟩:∃x,x=u2:=⟨_,rfl⟩
   obtain ⟨z0,hz0⟩:∃x,x=wp.heap.size:=⟨_,rfl⟩
   obtain ⟨w0,hw0⟩:∃x,x=wp.alloc (.cells #[.int .u8 68, .int .u8 75, .int .u8 76, .int .u8 49] 5 (0,0)):=⟨_,rfl⟩
   obtain ⟨w1,hw1⟩:∃x,x=wp.alloc (.cells #[.int .u8 68, .int .u8 75, .int .u8 76, .int .u8 49] 5 (4,5)):=⟨_,rfl⟩
   have hcv:(convert 27 27 (.slice (some ⟨z0,0,none⟩) 4 4)).run Tryz.prog w0= .ok (.slice (some ⟨z0,0,none⟩) 4 4) w1:=by
    rw[hw0,hw1,hz0]
    exact Lib.run_convert_bytes_const wp 27 5 #[.int .u8 68, .int .u8 75, .int .u8 76, .int .u8 49] 4 4 Tryz.underlying27 Tryz.underlying5
   have hf1:Fr nob wp w1:=by rw[hw1];exact (Fr.refl nob wp).alloc _
   have hg1:w1.heap[z0]? =some (.cells #[.int .u8 68, .int .u8 75, .int .u8 76, .int .u8 49] 5 (4,5)):=by rw[hw1,hz0];exact heap_new _ _
   have hv9:BV (newb wp w1) w1 (some ⟨z0,0,none⟩) 4 magicL:=by
    unfold BV
    refine Vec.whole' hg1 (fun j hj=>?_) ⟨by omega,by rw[hw1,hz0];simp⟩ (Nat.le_refl _) (by unfold maxLen;omega) rfl rfl (bv_one magicL)
    simp only[World.frozen?]
    rw[hg1]
    simp
    omega
   have HV9:=Lib.hid hv9
   have HF1:=Lib.hid hf1
   have HWP:=Lib.hid hwp
   have HW0:=Lib.hid (⟨hw0,hz0⟩:_∧_)
   clear hwp hw0 hz0 hw1 hg1 hv9 hf1
   go_wp2_with fail
   rw[←HWP.out,←HW0.out.1,←HW0.out.2,hcv]
   clear hcv
   have hp:=HV9.out.vec
   rw[show magicL.length=4 from rfl] at hp
   go_wp2_with (at_builtin;refine wpList_append_vec rfl _ _ _ _ rfl rfl hp _ _ _ Tryz.underlying27 inf_u8 rfl _ fb.length (bv fb) rfl (BV.src (HV2.out.frN (by rw[←HWP.out];exact HF1.out)) Tryz.underlying27) (by unfold maxLen;omega) (by omega) ?_)
   intro a4 c4 w4 hv4 hf4 _
   go_wp2_with fail
   go_ret2
   have fe:=((E1.out.trans E2.out)).toN
   have fp:Fr nob wp w4:=HF1.out.trans hf4 (fun k hk hk' =>absurd hk'.1 (by omega))
   rw[HWH.out,H1.out]
   have fw:Fr nob w wp:=by rw[HWP.out];exact fe
   refine ⟨a4,c4,by rw[List.length_append];rfl,fw.andN fp,?_⟩
   unfold BV
   rw[List.length_append,bv_append]
   refine hv4.mono ?_
   rintro k (hk | hk)
   · exact ⟨by have:=hk.1;have:=fw.size;omega,by have:=hk.2;have:=hf4.size;omega⟩
   · exact ⟨by have:=hk.1;have:=fw.size;have:=HF1.out.size;omega,hk.2⟩
 · have hw:schemaW s=[]:=by unfold schemaW;rw[if_neg h1]
   have hwh:headW s=[]:=by unfold headW;rw[if_neg h1]
   have HWH:=Lib.hid hwh
   have d1:=intne h1
   clear hw hwh h1
   go_wp2_with fail
   go_ret2
   rw[HWH.out]
   exact ⟨none,0,rfl,(E1.out).toN,BV.nil _ _⟩
end Go.Proofs.YtibpkfnfcdbiiaaGreatDoor
