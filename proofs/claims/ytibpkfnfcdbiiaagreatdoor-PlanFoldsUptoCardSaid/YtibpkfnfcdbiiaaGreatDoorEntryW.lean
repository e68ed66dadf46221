/- Contract of entry.Write. -/
import Derived.Test.YtibpkfnfcdbiiaaGreatDoorFrameW
import Derived.Test.YtibpkfnfcdbiiaaGreatDoorBunQ
import Derived.Test.YtibpkfnfcdbiiaaGreatDoorBunI
namespace Go.Proofs.YtibpkfnfcdbiiaaGreatDoor
set_option linter.unusedSimpArgs false
open Go.RowKit
set_option linter.unusedVariables false
def fk (kind:Int):Nat:=if kind=0 then 2 else 1
theorem fk_le (kind:Int):fk kind≤2:=by unfold fk;split<;>omega
def Frames (w:World):Prop:=∀j:Nat,j<2→w.cell? ⟨0,j,none⟩=some (.int .i64 (fk j))
theorem Frames.fr {T:Nat→Prop} {w w' :World} (h:Frames w) (hf:Fr T w w') (h0:¬T 0):Frames w' :=fun j hj=>hf.cell (h j hj) h0
theorem Frames.frN {w w' :World} (h:Frames w) (hf:Fr nob w w'):Frames w' :=h.fr hf id
theorem Frames.lt {w:World} (h:Frames w):0<w.heap.size:=World.block_lt_of_cell? w _ (h 0 (by omega))
def entryPay (s:List Col) (seq:Int) (l:List Pr):List UInt8:=uv seq.toNat++batW s l
def entryErr (s:List Col) (kind seq:Int) (l:List Pr):Nat:=if entryCheck s kind seq l=0 then frameErr (fk kind) (entryPay s seq l) else entryCheck s kind seq l
def entryBy (s:List Col) (kind seq:Int) (l:List Pr):List UInt8:=if entryCheck s kind seq l=0 then frameW (fk kind) (entryPay s seq l) else []
theorem entryBy_len (s:List Col) (kind seq:Int) (l:List Pr):(entryBy s kind seq l).length≤1048591:=by
 unfold entryBy
 split
 · unfold frameW
   split
   · rename_i h
     unfold frameErr at h
     have:=fk_le kind
     rw[if_neg (by omega)] at h
     split at h
     · omega
     · have:=frameBytes_len (fk kind) (entryPay s seq l) (by omega)
       omega
   · simp
 · simp
set_option maxRecDepth 100000 in
set_option maxHeartbeats 8000000 in
theorem entryWrite_any (S R:Nat→Prop) (w:World) (a b:Option Addr) (ca cb:Nat) (s:List Col) (kind seq:Int) (l:List Pr) (hs:SV rCol 2 S w a ca s) (hl:SV rPr 2 R w b cb l) (hL:Laid w) (hF:Frames w) (h0:s.length≤lim) (h1:l.length≤lim)
 (hS:∀k,S k→k<w.heap.size) (hR:∀k,R k→k<w.heap.size):
 Calls Tryz.prog 48 #[.slice a s.length ca, .agg #[.int .i64 kind, .int .i64 seq, .slice b l.length cb]] w fun e w' =>∃a' c',e= .returned (.tuple #[.slice a' (entryBy s kind seq l).length c', .int .i64 (entryErr s kind seq l:Nat)])∧Fr nob w w' ∧BV (newb w w') w' a' c' (entryBy s kind seq l):=by
 obtain ⟨w1,hw1⟩:∃w1,w1=w.alloc (.cells #[.int .i64 kind, .int .i64 seq, .slice b l.length cb] 40 (0,0)):=⟨_,rfl⟩
 have hf1:Fr nob w w1:=by rw[hw1];exact (Fr.refl nob w).alloc _
 have hB:=heap_new w (.cells #[.int .i64 kind, .int .i64 seq, .slice b l.length cb] 40 (0,0))
 rw[←hw1] at hB
 obtain ⟨z,hz⟩:∃z,z=w.heap.size:=⟨_,rfl⟩
 rw[←hz] at hB
 have hok:=sv_ok hl
 have HW:=Lib.hid hw1
 have HZ:=Lib.hid hz
 clear hw1 hz
 have hs' :=hs.within rCol_ok hS
 have HS:=Lib.hid (SV.keep rCol_ok hs')
 clear hs'
 have hl' :=hl.within rPr_ok hR
 have HL:=Lib.hid (SV.keep rPr_ok hl')
 clear hl'
 have HLA:=Lib.hid (hL.keep)
 have E1:=Lib.hid (Ev.of hf1 (nob_lt _))
 have G1:=Lib.hid hf1
 have HFM:=Lib.hid (fun y (hy:Fr nob w1 y)=>hF.frN (hf1.andN hy))
 have q0:∀y,Fr nob w1 y→y.cell? ⟨z,0,none⟩=some (.int .i64 kind):=fun y hy=>by have:=cell_of (hy.heap hB id) 0;simpa using this
 have q1:∀y,Fr nob w1 y→y.cell? ⟨z,1,none⟩=some (.int .i64 seq):=fun y hy=>by have:=cell_of (hy.heap hB id) 1;simpa using this
 have q2:∀y,Fr nob w1 y→y.cell? ⟨z,2,none⟩=some (.slice b l.length cb):=fun y hy=>by have:=cell_of (hy.heap hB id) 2;simpa using this
 have HLIM:=Lib.hid (⟨h0,h1⟩:_∧_)
 have r0:=q0 w1 (Fr.refl _ _)
 have r1:=q1 w1 (Fr.refl _ _)
 have r2:=q2 w1 (Fr.refl _ _)
 have Q0:=Lib.hid q0
 have Q1:=Lib.hid q1
 have Q2:=Lib.hid q2
 clear hs hl hL hF hS hR hB hf1 q0 q1 q2 h0 h1
 go_enter Tryz.func48,Tryz.ntmps48
 go_wp2_with fail
 rw[←HW.out,←HZ.out]
 have hc:=entryCheck_any _ _ w1 a b ca cb s kind seq l (HS.out _ _ E1.out) (HL.out _ _ E1.out) (HLA.out _ _ E1.out) HLIM.out.1 HLIM.out.2
 refine hc.mono ?_
 rintro e u2 ⟨rfl,hf2⟩
 clear hc
 have E2:=Lib.hid (Ev.of hf2 E1.out.lt)
 have G2:=Lib.hid hf2
 by_cases hz:entryCheck s kind seq l=0
 · obtain ⟨z1,z2,z3,z4⟩:=entryCheck_zero hz
   obtain ⟨q,rfl⟩:∃q:Nat,seq=q:=⟨seq.toNat,by omega⟩
   obtain ⟨k,rfl⟩:∃k:Nat,kind=k:=⟨kind.toNat,by omega⟩
   have hk2:k<2:=by omega
   have hq48:q≤281474976710656:=by omega
   have hE:entryErr s k q l=frameErr (fk k) (uv q++batW s l):=by unfold entryErr entryPay;rw[if_pos hz];rfl
   have hW:entryBy s k q l=frameW (fk k) (uv q++batW s l):=by unfold entryBy entryPay;rw[if_pos hz];rfl
   have HE:=Lib.hid hE
   have HBY:=Lib.hid hW
   have hbw:=batWrite_any _ _ u2 a b ca cb s l (HS.out _ _ (E1.out.trans E2.out)) (HL.out _ _ (E1.out.trans E2.out)) hok (HLA.out _ _ (E1.out.trans E2.out)) HLIM.out.1 HLIM.out.2 (fun k h=>h.1) (fun k h=>h.1)
   have hbl:(batW s l).length≤2271242:=by rw[batW_ok z4];exact (wBatch_len z4 hok).2
   have hul:=uv_len10 (x:=q) (by omega)
   have hcu:IntKind.u64.wrap (q:Int)=(q:Int):=by rw[IntKind.wrap_u64];omega
   rw[hz]
   rw[z4] at hbw
   have R2:=Lib.hid (Q2.out _ G2.out)
   have r2:=R2.out
   clear hE hW hz z1 z2 z3 z4 r0 r1
   go_wp2_with fail
   refine hbw.mono ?_
   rintro e u3 ⟨a3,c3,rfl,hf3,hv3⟩
   have HV3:=Lib.hid hv3
   clear hbw hv3
   have E3:=Lib.hid (Ev.of hf3 E2.out.lt)
   have G3:=Lib.hid hf3
   generalize batW s l=bw at HV3 hbl HE HBY
   have hfk:=fk_le k
   have q0:∀y,Fr nob u3 y→y.cell? ⟨z,0,none⟩=some (.int .i64 k):=fun y hy=>Q0.out y (((G2.out.andN G3.out)).andN hy)
   have q1:∀y,Fr nob u3 y→y.cell? ⟨z,1,none⟩=some (.int .i64 q):=fun y hy=>Q1.out y (((G2.out.andN G3.out)).andN hy)
   have q3:∀y,Fr nob u3 y→y.cell? ⟨0,k,none⟩=some (.int .i64 (fk k)):=fun y hy=>HFM.out y (((G2.out.andN G3.out)).andN hy) k hk2
   generalize fk k=fkk at q3 HE HBY hfk
   clear r2
   go_wp2_with fail
   have GG:=Lib.hid (show Fr nob w u3 from (G1.out.andN (G2.out.andN G3.out)))
   have hk2i:(k:Int)<2:=by omega
   refine wp_region_ord [(0,true),(1,true),(2,true),(3,true),(4,true),(5,true),(6,true),(8,true),(7,false),(9,false),(10,false),(11,true),(12,true),(13,true),(14,true)] (Fr nob u3) rfl (by kernel_rfl) (by kernel_rfl) (by decide) (fun c a d v w h=>by cases d<;>exact h) ((Fr.refl nob u3).drew) (fun ops hops hS=>?_)
   obtain ⟨d4,hdw⟩:∃d,d=u3.drew:=⟨_,rfl⟩
   rw[←hdw] at hS ⊢
   have G4:Hid (Fr nob u3 d4):=Lib.hid (by rw[hdw];exact (Fr.refl nob u3).drew)
   have E4:=Lib.hid (Ev.of G4.out E3.out.lt)
   clear hdw
   repeat (first | (apply oF hops (by rfl) (by first | exact .plain rfl | exact .y hops rfl rfl rfl rfl);(focus (intro x hx;go_simp;rfl));go_simp) | (apply oS hops (by rfl) (by first | exact .n hops rfl rfl rfl rfl | exact .u hops rfl rfl rfl rfl);go_simp) | (apply oP hops (by rfl) (by first | exact .n hops rfl rfl rfl rfl | exact .u hops rfl rfl rfl rfl) (by assumption);go_simp))
   refine oA hops (by rfl) (by first | exact .plain rfl | exact .y hops rfl rfl rfl rfl) (fun K hK=>?_)
   go_wp2_with fail
   refine (uint_any q (by omega) _).mono ?_
   rintro e u5 ⟨a4,c4,rfl,hfr,hv4⟩
   have E5:=Lib.hid (Ev.of hfr E4.out.lt)
   have G5:=Lib.hid hfr
   clear hfr
   refine hK _ _ ⟨_,fun _ h=>h,(G4.out.andN G5.out),?_⟩
   clear hK
   go_simp
   repeat (first | (apply oF hops (by rfl) (by first | exact .plain rfl | exact .y hops rfl rfl rfl rfl);(focus (intro x hx;go_simp;rfl));go_simp) | (apply oS hops (by rfl) (by first | exact .n hops rfl rfl rfl rfl | exact .u hops rfl rfl rfl rfl);go_simp) | (apply oP hops (by rfl) (by first | exact .n hops rfl rfl rfl rfl | exact .u hops rfl rfl rfl rfl) (by assumption);go_simp))
   have HV4:=Lib.hid hv4
   clear hv4
   refine oA hops (by rfl) (by first | exact .plain rfl | exact .y hops rfl rfl rfl rfl) (fun K hK=>?_)
   refine wp_append_vec _ _ _ _ rfl rfl HV4.out.vec _ _ _ Tryz.underlying27 inf_u8 rfl _ bw.length _ rfl ((HV3.out.frN (G4.out.andN G5.out)).src Tryz.underlying27) (by unfold maxLen;omega) (by omega) ?_
   intro a5 c5 w5 hv5 hf5 _
   have g4:=(G4.out.andN G5.out)
   have hsz:=(G4.out).size
   have g5:Fr nob u3 w5:=g4.trans hf5 (fun k hk hk' =>absurd hk'.1 (by omega))
   have hv5:BV (grow (newb d4 u5) u5 w5) w5 a5 c5 (uv q++bw):=by unfold BV;rw[List.length_append,bv_append];exact hv5
   have hl5:(uv q++bw).length=(uv q).length+bw.length:=List.length_append
   have HV5:=Lib.hid hv5
   have G5:=Lib.hid g5
   clear hv5 hf5 g4 hsz
   refine hK _ _ ⟨_,fun _ h=>h,g5,?_⟩
   clear hK
   go_simp
   repeat (first | (apply oF hops (by rfl) (by first | exact .plain rfl | exact .y hops rfl rfl rfl rfl);(focus (intro x hx;go_simp;rfl));go_simp) | (apply oS hops (by rfl) (by first | exact .n hops rfl rfl rfl rfl | exact .u hops rfl rfl rfl rfl);go_simp) | (apply oP hops (by rfl) (by first | exact .n hops rfl rfl rfl rfl | exact .u hops rfl rfl rfl rfl) (by assumption);go_simp))
   have hfw:=frameWrite_any fkk (by omega) _ w5 a5 c5 (uv q++bw) HV5.out (by omega)
   rw[hl5] at hfw
   refine oA hops (by rfl) (by first | exact .plain rfl | exact .y hops rfl rfl rfl rfl) (fun K hK=>?_)
   go_wp2_with fail
   refine hfw.mono ?_
   rintro e w6 ⟨a6,c6,rfl,hf6,hv6⟩
   have G6:=Lib.hid (G5.out.andN hf6)
   have HV6:=Lib.hid hv6
   have hs5:=G5.out.size
   clear hfw hv6 hf6
   refine hK _ _ ⟨_,fun _ h=>h,G6.out,?_⟩
   clear hK
   go_simp
   repeat (first | (apply oF hops (by rfl) (by first | exact .plain rfl | exact .y hops rfl rfl rfl rfl);(focus (intro x hx;go_simp;rfl));go_simp) | (apply oS hops (by rfl) (by first | exact .n hops rfl rfl rfl rfl | exact .u hops rfl rfl rfl rfl);go_simp) | (apply oP hops (by rfl) (by first | exact .n hops rfl rfl rfl rfl | exact .u hops rfl rfl rfl rfl) (by assumption);go_simp))
   apply wpOrd_nil
   go_wp2_with fail
   go_ret2
   have gg:Fr nob w u3:=GG.out
   rw[HE.out,HBY.out]
   exact ⟨a6,c6,rfl,gg.andN G6.out,HV6.out.mono (fun k hk=>⟨by have:=hk.1;have:=gg.size;omega,hk.2⟩)⟩
 · have hE:entryErr s kind seq l=entryCheck s kind seq l:=by unfold entryErr;rw[if_neg hz]
   have hW:entryBy s kind seq l=[]:=by unfold entryBy;rw[if_neg hz]
   have HE:=Lib.hid hE
   have HBY:=Lib.hid hW
   have d1:=intne hz
   clear hE hW hz
   go_wp2_with fail
   go_ret2
   rw[HE.out,HBY.out]
   exact ⟨none,0,rfl,((E1.out.trans E2.out)).toN,BV.nil _ _⟩
end Go.Proofs.YtibpkfnfcdbiiaaGreatDoor
