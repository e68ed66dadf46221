/- decklelaw19.alive. -/
import Derived.Test.YtibpkfnfcdbiiaaGreatDoorBunPl
import Derived.Test.YtibpkfnfcdbiiaaGreatDoorBunT
namespace Go.Proofs.YtibpkfnfcdbiiaaGreatDoor
set_option linter.unusedSimpArgs false
open Go.RowKit
set_option linter.unusedVariables false
theorem e19_cols (w:World) (B:Nat→Prop) (hB:∀k,B k→k<w.heap.size):SV rCol 2 (free (w.alloc (.cells #[.string ⟨#[105,100]⟩, .int .i64 0, .string ⟨#[110,97,109,101]⟩, .int .i64 4] 71 (0,0))) B) (w.alloc (.cells #[.string ⟨#[105,100]⟩, .int .i64 0, .string ⟨#[110,97,109,101]⟩, .int .i64 4] 71 (0,0))) (some ⟨w.heap.size,0,none⟩) 2 exS:=
 SV.lit rCol_ok w B hB [[.string ⟨#[105,100]⟩, .int .i64 0],[.string ⟨#[110,97,109,101]⟩, .int .i64 4]] exS 71 rfl (by decide) (fun i c x hc hx=>by
  match i,hc,hx with
  | 0,hc,hx=>cases hc;cases hx;exact ⟨⟨by decide,by decide⟩,by decide,rfl⟩
  | 1,hc,hx=>cases hc;cases hx;exact ⟨⟨by decide,by decide⟩,by decide,rfl⟩
  | i+2,hc,hx=>simp at hc)
theorem e19_cells (w:World) (B:Nat→Prop) (hB:∀k,B k→k<w.heap.size):SV rCel 2 (free (w.alloc (.cells #[.int .u64 1, .string ⟨#[]⟩, .int .u64 0, .string ⟨#[97]⟩] 74 (0,0))) B) (w.alloc (.cells #[.int .u64 1, .string ⟨#[]⟩, .int .u64 0, .string ⟨#[97]⟩] 74 (0,0))) (some ⟨w.heap.size,0,none⟩) 2 exR:=
 SV.lit rCel_ok w B hB [[.int .u64 1, .string ⟨#[]⟩],[.int .u64 0, .string ⟨#[97]⟩]] exR 74 rfl (by decide) (fun i c x hc hx=>by
  match i,hc,hx with
  | 0,hc,hx=>cases hc;cases hx;exact ⟨by decide,by decide,rfl⟩
  | 1,hc,hx=>cases hc;cases hx;exact ⟨by decide,by decide,rfl⟩
  | i+2,hc,hx=>simp at hc)
theorem e19_pair (w:World) (B:Nat→Prop) (hB:∀k,B k→k<w.heap.size) (a:Option Addr) (r:List Cel) (m c0:Nat) (hm:r.length=m) (hr:r.length≤lim) (h:SV rCel 2 (free w B) w a c0 r) (n:Int) (hn:I64 n):SV rPr 2 (free (w.alloc (.cells #[.slice a m c0, .int .i64 n] 66 (0,0))) B) (w.alloc (.cells #[.slice a m c0, .int .i64 n] 66 (0,0))) (some ⟨w.heap.size,0,none⟩) 1 [⟨r,n⟩]:=
 SV.lit rPr_ok w B hB [[.slice a m c0, .int .i64 n]] [⟨r,n⟩] 66 rfl (by simp) (fun i c x hc hx=>by
  match i,hc,hx with
  | 0,hc,hx=>cases hc;cases hx;exact ⟨hn,hr,a,c0,by rw[←hm],h⟩
  | i+1,hc,hx=>simp at hc)
theorem e19_ents (w:World) (B:Nat→Prop) (hB:∀k,B k→k<w.heap.size) (a a' :Option Addr) (h:SV rPr 2 (free w B) w a 1 exA) (h' :SV rPr 2 (free w B) w a' 1 exN):SV rEnt 3 (free (w.alloc (.cells #[.int .i64 0, .int .i64 1, .slice a 1 1, .int .i64 0, .int .i64 2, .slice a' 1 1] 40 (0,0))) B) (w.alloc (.cells #[.int .i64 0, .int .i64 1, .slice a 1 1, .int .i64 0, .int .i64 2, .slice a' 1 1] 40 (0,0))) (some ⟨w.heap.size,0,none⟩) 2 exL:=
 SV.lit rEnt_ok w B hB [[.int .i64 0, .int .i64 1, .slice a 1 1],[.int .i64 0, .int .i64 2, .slice a' 1 1]] exL 40 rfl (by decide) (fun i c x hc hx=>by
  match i,hc,hx with
  | 0,hc,hx=>cases hc;cases hx;exact ⟨⟨⟨by decide,by decide⟩,⟨by decide,by decide⟩⟩,by decide,a,1,rfl,h⟩
  | 1,hc,hx=>cases hc;cases hx;exact ⟨⟨⟨by decide,by decide⟩,⟨by decide,by decide⟩⟩,by decide,a',1,rfl,h'⟩
  | i+2,hc,hx=>simp at hc)
set_option maxRecDepth 100000 in
set_option maxHeartbeats 8000000 in
theorem alive19_any (w:World) (hL:Laid w) (hF:Frames w):Calls Tryz.prog 38 #[] w fun e w' =>e= .returned (.bool true)∧Fr nob w w' :=by
 obtain ⟨w1,hw1⟩:∃x,x=w.alloc (.cells #[.string ⟨#[105,100]⟩, .int .i64 0, .string ⟨#[110,97,109,101]⟩, .int .i64 4] 71 (0,0)):=⟨_,rfl⟩
 obtain ⟨z1,hz1⟩:∃x,x=w.heap.size:=⟨_,rfl⟩
 have hs:=e19_cols w nob (nob_lt _)
 rw[←hw1,←hz1] at hs
 have hf1:Fr nob w w1:=by rw[hw1];exact (Fr.refl nob w).alloc _
 have HLA:=Lib.hid (hL.keep)
 have HFR:=Lib.hid (fun y (C:Nat→Prop) (e:Ev w nob y C)=>hF.fr e.fr id)
 have E1:=Lib.hid (Ev.of hf1 (nob_lt _))
 have G1:=Lib.hid hf1
 have HS:=Lib.hid (SV.keep rCol_ok hs)
 clear hs
 clear hL hF hf1
 go_enter Tryz.func38,Tryz.ntmps38
 go_wp2_with fail
 rw[←hw1,←hz1]
 clear hw1 hz1
 have hci:=cellInt_any 1 (by omega) w1
 have hci:Calls Tryz.prog 37 #[.int .i64 1] w1 _:=hci
 refine hci.mono ?_
 rintro e u2 ⟨rfl,hf2⟩
 have E2:=Lib.hid (Ev.of hf2 E1.out.lt)
 have G2:=Lib.hid hf2
 clear hci hf2
 obtain ⟨w3,hw3⟩:∃x,x=u2.alloc (.cells #[.int .u64 1, .string ⟨#[]⟩, .int .u64 0, .string ⟨#[97]⟩] 74 (0,0)):=⟨_,rfl⟩
 obtain ⟨z3,hz3⟩:∃x,x=u2.heap.size:=⟨_,rfl⟩
 have hr3:=e19_cells u2 nob (nob_lt _)
 rw[←hw3,←hz3] at hr3
 have hf3:Fr nob u2 w3:=by rw[hw3];exact (Fr.refl nob _).alloc _
 have hs3:w3.heap.size=z3+1:=by rw[hw3,hz3];simp
 have E3:=Lib.hid (Ev.of hf3 E2.out.lt)
 have G3:=Lib.hid hf3
 have HR:=Lib.hid (SV.keep rCel_ok hr3)
 clear hr3
 obtain ⟨w4,hw4⟩:∃x,x=w3.alloc (.cells #[.slice (some ⟨z3,0,none⟩) 2 2, .int .i64 1] 66 (0,0)):=⟨_,rfl⟩
 have hp4:=e19_pair w3 nob (nob_lt _) (some ⟨z3,0,none⟩) exR 2 2 rfl (by decide) (HR.out _ _ (Ev.refl E3.out.lt)) 1 ⟨by decide,by decide⟩
 rw[←hw4,hs3] at hp4
 have hf4:Fr nob w3 w4:=by rw[hw4];exact (Fr.refl nob _).alloc _
 have hs4:w4.heap.size=z3+1+1:=by rw[hw4,←hs3];simp
 have E4:=Lib.hid (Ev.of hf4 E3.out.lt)
 have G4:=Lib.hid hf4
 have HP4:=Lib.hid (SV.keep rPr_ok hp4)
 clear hp4
 obtain ⟨w5,hw5⟩:∃x,x=w4.alloc (.cells #[.slice (some ⟨z3,0,none⟩) 2 2, .int .i64 (-1)] 66 (0,0)):=⟨_,rfl⟩
 have hp5:=e19_pair w4 nob (nob_lt _) (some ⟨z3,0,none⟩) exR 2 2 rfl (by decide) (HR.out _ _ E4.out) (-1) ⟨by decide,by decide⟩
 rw[←hw5,hs4] at hp5
 have hf5:Fr nob w4 w5:=by rw[hw5];exact (Fr.refl nob _).alloc _
 have hs5:w5.heap.size=z3+1+1+1:=by rw[hw5,←hs4];simp
 have E5:=Lib.hid (Ev.of hf5 E4.out.lt)
 have G5:=Lib.hid hf5
 have HP5:=Lib.hid (SV.keep rPr_ok hp5)
 clear hp5
 obtain ⟨w6,hw6⟩:∃x,x=w5.alloc (.cells #[.int .i64 0, .int .i64 1, .slice (some ⟨z3+1,0,none⟩) 1 1, .int .i64 0, .int .i64 2, .slice (some ⟨z3+1+1,0,none⟩) 1 1] 40 (0,0)):=⟨_,rfl⟩
 have he6:=e19_ents w5 nob (nob_lt _) (some ⟨z3+1,0,none⟩) (some ⟨z3+1+1,0,none⟩) (HP4.out _ _ E5.out) (HP5.out _ _ (Ev.refl E5.out.lt))
 rw[←hw6,hs5] at he6
 have hf6:Fr nob w5 w6:=by rw[hw6];exact (Fr.refl nob _).alloc _
 have E6:=Lib.hid (Ev.of hf6 E5.out.lt)
 have G6:=Lib.hid hf6
 have HE:=Lib.hid (SV.keep rEnt_ok he6)
 clear he6
 have HW:=Lib.hid (⟨hw3,hz3,hw4,hw5,hw6⟩:_∧_∧_∧_∧_)
 have hen:=encode_any _ w6 (some ⟨z1,0,none⟩) 2 exS (HS.out _ _ (E2.out.trans (E3.out.trans (E4.out.trans (E5.out.trans E6.out))))) (some ⟨z3+1+1+1,0,none⟩) 2 exL (HE.out _ _ (Ev.refl E6.out.lt)) (fun k h=>h.1) (HLA.out _ _ (E1.out.trans (E2.out.trans (E3.out.trans (E4.out.trans (E5.out.trans E6.out)))))) (HFR.out _ _ (E1.out.trans (E2.out.trans (E3.out.trans (E4.out.trans (E5.out.trans E6.out)))))) (by decide) (by decide)
 rw[exL_enc,show ((0:Nat):Int)=0 from rfl] at hen
 have HBL:=Lib.hid (encF_len exS exL)
 obtain ⟨b,hb⟩:∃b,b=(encF exS exL).2.2.1:=⟨_,rfl⟩
 have HG:=Lib.hid (⟨dec_good exL_ok exL_enc,exL_best,decF_backM exL_ok exL_enc⟩:_∧_∧_)
 rw[←hb] at hen HG HBL
 generalize (encF exS exL).2.1=ny at hen
 clear hb
 have hen:Calls Tryz.prog 23 #[.agg #[.slice (some ⟨z1,0,none⟩) 2 2, .slice (some ⟨z3+1+1+1,0,none⟩) 2 2]] w6 _:=hen
 clear hw3 hz3 hw4 hw5 hw6 hs3 hs4 hs5 hf3 hf4 hf5 hf6
 go_wp2_with fail
 rw[←HW.out.1,←HW.out.2.1,←HW.out.2.2.1,←HW.out.2.2.2.1,←HW.out.2.2.2.2]
 refine hen.mono ?_
 rintro e u7 ⟨a7,c7,rfl,hf7,hv7⟩
 have E7:=Lib.hid (Ev.of hf7 E6.out.lt)
 have G7:=Lib.hid hf7
 clear hen hf7
 have HB:=Lib.hid (BV.keep (hv7.new E6.out.lt))
 clear hv7
 have hbl:b.length≤1099511627776:=by have h:=HBL.out;rw[show exL.length=2 from rfl] at h;omega
 have hents:(decF b).ents.length=2:=by rw[HG.out.2.2];rfl
 have hbe:=best_any _ u7 (fun k h=>h.1) a7 c7 b (HB.out _ _ (Ev.refl E7.out.lt)) hbl (HLA.out _ _ (E1.out.trans (E2.out.trans (E3.out.trans (E4.out.trans (E5.out.trans (E6.out.trans E7.out))))))) (HFR.out _ _ (E1.out.trans (E2.out.trans (E3.out.trans (E4.out.trans (E5.out.trans (E6.out.trans E7.out))))))) HG.out.1 0 (by omega)
 rw[HG.out.2.1.1,show ((0:Nat):Int)=0 from rfl] at hbe
 obtain ⟨m,hm⟩:∃m,m=fromF (decF b) 0:=⟨_,rfl⟩
 have hm0:0<m:=by rw[hm];exact HG.out.2.1.2.2
 simp only at hbe
 rw[←hm] at hbe
 have HM:=Lib.hid (⟨hm,hents⟩:_∧_)
 clear hm hents
 go_wp2_with fail
 refine hbe.mono ?_
 rintro e u8 ⟨rfl,hf8⟩
 have E8:=Lib.hid (Ev.of hf8 E7.out.lt)
 have G8:=Lib.hid hf8
 clear hbe hf8
 have hby:=bytes_any (S:=free u8 nob) (w:=u8) (fun k h=>h.1) (HB.out _ _ E8.out) hbl (HLA.out _ _ (E1.out.trans (E2.out.trans (E3.out.trans (E4.out.trans (E5.out.trans (E6.out.trans (E7.out.trans E8.out)))))))) (HFR.out _ _ (E1.out.trans (E2.out.trans (E3.out.trans (E4.out.trans (E5.out.trans (E6.out.trans (E7.out.trans E8.out)))))))) HG.out.1 0 2 (by omega) (by rw[HM.out.2];omega)
 rw[HG.out.2.1.2.1,←HM.out.1,show ((0:Nat):Int)=0 from rfl,show ((2:Nat):Int)=2 from rfl] at hby
 go_wp2_with fail
 refine hby.mono ?_
 rintro e u9 ⟨rfl,hf9⟩
 have E9:=Lib.hid (Ev.of hf9 E8.out.lt)
 have G9:=Lib.hid hf9
 clear hby hf9
 have hch:=changes_any u9 (some ⟨z1,0,none⟩) 2 exS (HS.out _ _ (E2.out.trans (E3.out.trans (E4.out.trans (E5.out.trans (E6.out.trans (E7.out.trans (E8.out.trans E9.out)))))))) (some ⟨z3+1+1+1,0,none⟩) 2 exL (HE.out _ _ (E7.out.trans (E8.out.trans E9.out))) (HLA.out _ _ (E1.out.trans (E2.out.trans (E3.out.trans (E4.out.trans (E5.out.trans (E6.out.trans (E7.out.trans (E8.out.trans E9.out))))))))) (by decide) (by decide) ex_schema exL_check 5 (by decide)
 rw[exL_fold] at hch
 have hch:Calls Tryz.prog 39 #[.slice (some ⟨z1,0,none⟩) 2 2, .int .i64 5, .slice (some ⟨z3+1+1+1,0,none⟩) 2 2] u9 _:=hch
 go_wp2_with fail
 refine hch.mono ?_
 rintro e u10 ⟨a10,c10,rfl,hf10,_⟩
 have E10:=Lib.hid (Ev.of hf10 E9.out.lt)
 have G10:=Lib.hid hf10
 clear hch hf10
 go_wp2_with fail
 go_ret
 exact ⟨by simp,((E1.out.trans (E2.out.trans (E3.out.trans (E4.out.trans (E5.out.trans (E6.out.trans (E7.out.trans (E8.out.trans (E9.out.trans E10.out)))))))))).toN⟩
end Go.Proofs.YtibpkfnfcdbiiaaGreatDoor
