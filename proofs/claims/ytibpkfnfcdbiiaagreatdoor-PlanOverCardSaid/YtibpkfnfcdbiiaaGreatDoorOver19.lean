/- decklelaw19.PlanOver, walked. -/
import Derived.Test.YtibpkfnfcdbiiaaGreatDoorAlive19
import Derived.Test.YtibpkfnfcdbiiaaGreatDoorPlLit
namespace Go.Proofs.YtibpkfnfcdbiiaaGreatDoor
set_option linter.unusedSimpArgs false
open Go.RowKit
set_option linter.unusedVariables false
def s19:List Col:=[⟨[105,100],0⟩]
def r19:List Cel:=[⟨1,[]⟩]
def oneP (w:Int):List Pr:=[⟨r19,w⟩]
def overL (w v:Int):List Ent:=[⟨0,1,oneP w⟩,⟨1,1,oneP w⟩,⟨0,2,oneP v⟩]
theorem s19_ok:schemaCheck s19=0:=by kernel_rfl
theorem r19_row:rowCheck s19 r19=0:=by kernel_rfl
theorem oneP_canon {w:Int} (h:I64 w) (h0:w≠0):Canon s19 (oneP w):=by
 refine ⟨fun p hp=>?_,fun p hp=>?_,fun p hp=>?_,by simp[oneP]⟩
 · obtain rfl:p=⟨r19,w⟩:=by simpa [oneP] using hp
   exact ⟨r19_row,(by decide:∀c∈r19,c.num<18446744073709551616)⟩
 · obtain rfl:p=⟨r19,w⟩:=by simpa [oneP] using hp
   exact h0
 · obtain rfl:p=⟨r19,w⟩:=by simpa [oneP] using hp
   exact h
theorem oneP_check {w:Int} (h:I64 w) (h0:w≠0) {k q:Int} (hk:k=0∨k=1) (hq:q=1∨q=2):entryCheck s19 k q (oneP w)=0:=by
 unfold entryCheck
 rw[if_neg (by rw[s19_ok];omega),if_neg (by omega),if_neg (by omega)]
 exact of_canon s19_ok (oneP_canon h h0) (by simp[oneP])
theorem overL_check {w v:Int} (h:I64 w) (h0:w≠0) (h' :I64 v) (h0' :v≠0):∀x∈overL w v,entryCheck s19 x.kind x.seq x.prs=0:=fun x hx=>by
 simp only[overL,List.mem_cons,List.not_mem_nil,or_false] at hx
 rcases hx with rfl | rfl | rfl
 · exact oneP_check h h0 (Or.inl rfl) (Or.inl rfl)
 · exact oneP_check h h0 (Or.inr rfl) (Or.inl rfl)
 · exact oneP_check h' h0' (Or.inl rfl) (Or.inr rfl)
theorem over_fold {w v:Int} (h:I64 w) (h0:w≠0) (h' :I64 v) (h0' :v≠0) {e:Nat} {out:List Pr} (hc:Collected s19 (oneP w++oneP v) e out):foldF s19 [] 0 ((overL w v).take 9)=if e=0 then (out,3) else (oneP w,2):=by
 have c1:=oneP_canon h h0
 have c2:=oneP_canon h' h0'
 have z1:=of_canon s19_ok c1 (by simp[oneP])
 have z2:=of_canon s19_ok c2 (by simp[oneP])
 have k1:Collected s19 ([]++oneP w) 0 (oneP w):=coll0 s19_ok (canon_rows c1) (canon_ok c1) c1 (fun _=>rfl) (by simp[oneP])
 have s1:sumF s19 [] (oneP w)=(0,oneP w):=sumF_of ((summed_is (of_canon s19_ok (canon_nil _) (by decide)) z1).2 k1)
 have s2:sumF s19 (oneP w) (oneP v)=(e,out):=sumF_of ((summed_is z1 z2).2 hc)
 show foldF s19 [] 0 [⟨0,1,oneP w⟩,⟨1,1,oneP w⟩,⟨0,2,oneP v⟩]=_
 simp only[foldF,s1,s2,if_true,eq_false (show ¬(1:Int)=0 by decide),if_false]
theorem o19_cols (w:World) (B:Nat→Prop) (hB:∀k,B k→k<w.heap.size):SV rCol 2 (free (w.alloc (.cells #[.string ⟨#[105,100]⟩, .int .i64 0] 71 (0,0))) B) (w.alloc (.cells #[.string ⟨#[105,100]⟩, .int .i64 0] 71 (0,0))) (some ⟨w.heap.size,0,none⟩) 1 s19:=
 SV.lit rCol_ok w B hB [[.string ⟨#[105,100]⟩, .int .i64 0]] s19 71 rfl (by decide) (fun i c x hc hx=>by
  match i,hc,hx with
  | 0,hc,hx=>cases hc;cases hx;exact ⟨⟨by decide,by decide⟩,by decide,rfl⟩
  | i+1,hc,hx=>simp at hc)
theorem o19_cells (w:World) (B:Nat→Prop) (hB:∀k,B k→k<w.heap.size):SV rCel 2 (free (w.alloc (.cells #[.int .u64 1, .string ⟨#[]⟩] 74 (0,0))) B) (w.alloc (.cells #[.int .u64 1, .string ⟨#[]⟩] 74 (0,0))) (some ⟨w.heap.size,0,none⟩) 1 r19:=
 SV.lit rCel_ok w B hB [[.int .u64 1, .string ⟨#[]⟩]] r19 74 rfl (by decide) (fun i c x hc hx=>by
  match i,hc,hx with
  | 0,hc,hx=>cases hc;cases hx;exact ⟨by decide,by decide,rfl⟩
  | i+1,hc,hx=>simp at hc)
theorem o19_two (w:World) (B:Nat→Prop) (hB:∀k,B k→k<w.heap.size) (a:Option Addr) (h:SV rCel 2 (free w B) w a 1 r19) (n m:Int) (hn:I64 n) (hm:I64 m):SV rPr 2 (free (w.alloc (.cells #[.slice a 1 1, .int .i64 n, .slice a 1 1, .int .i64 m] 66 (0,0))) B) (w.alloc (.cells #[.slice a 1 1, .int .i64 n, .slice a 1 1, .int .i64 m] 66 (0,0))) (some ⟨w.heap.size,0,none⟩) 2 (oneP n++oneP m):=
 SV.lit rPr_ok w B hB [[.slice a 1 1, .int .i64 n],[.slice a 1 1, .int .i64 m]] (oneP n++oneP m) 66 rfl (by simp[oneP]) (fun i c x hc hx=>by
  match i,hc,hx with
  | 0,hc,hx=>cases hc;cases hx;exact ⟨hn,(by decide:r19.length≤lim),a,1,rfl,h⟩
  | 1,hc,hx=>cases hc;cases hx;exact ⟨hm,(by decide:r19.length≤lim),a,1,rfl,h⟩
  | i+2,hc,hx=>simp at hc)
theorem o19_ents (w:World) (B:Nat→Prop) (hB:∀k,B k→k<w.heap.size) (a a' a'' :Option Addr) (n m:Int) (h:SV rPr 2 (free w B) w a 1 (oneP n)) (h' :SV rPr 2 (free w B) w a' 1 (oneP n)) (h'' :SV rPr 2 (free w B) w a'' 1 (oneP m)):SV rEnt 3 (free (w.alloc (.cells #[.int .i64 0, .int .i64 1, .slice a 1 1, .int .i64 1, .int .i64 1, .slice a' 1 1, .int .i64 0, .int .i64 2, .slice a'' 1 1] 40 (0,0))) B) (w.alloc (.cells #[.int .i64 0, .int .i64 1, .slice a 1 1, .int .i64 1, .int .i64 1, .slice a' 1 1, .int .i64 0, .int .i64 2, .slice a'' 1 1] 40 (0,0))) (some ⟨w.heap.size,0,none⟩) 3 (overL n m):=
 SV.lit rEnt_ok w B hB [[.int .i64 0, .int .i64 1, .slice a 1 1],[.int .i64 1, .int .i64 1, .slice a' 1 1],[.int .i64 0, .int .i64 2, .slice a'' 1 1]] (overL n m) 40 rfl (by simp[overL]) (fun i c x hc hx=>by
  match i,hc,hx with
  | 0,hc,hx=>cases hc;cases hx;exact ⟨(show I64 (0:Int)∧I64 (1:Int) from ⟨⟨by decide,by decide⟩,⟨by decide,by decide⟩⟩),by simp[oneP,lim],a,1,rfl,h⟩
  | 1,hc,hx=>cases hc;cases hx;exact ⟨(show I64 (1:Int)∧I64 (1:Int) from ⟨⟨by decide,by decide⟩,⟨by decide,by decide⟩⟩),by simp[oneP,lim],a',1,rfl,h'⟩
  | 2,hc,hx=>cases hc;cases hx;exact ⟨(show I64 (0:Int)∧I64 (2:Int) from ⟨⟨by decide,by decide⟩,⟨by decide,by decide⟩⟩),by simp[oneP,lim],a'',1,rfl,h''⟩
  | i+3,hc,hx=>simp at hc)
set_option maxRecDepth 100000 in
set_option maxHeartbeats 8000000 in
theorem planOver_card (w:World) (hL:Laid w) (hF:Frames w) (x:Int) (hx1: -9223372036854775808≤x) (hx2:x≤9223372036854775807) (v:Int) (hv1: -9223372036854775808≤v) (hv2:v≤9223372036854775807):Calls Tryz.prog 7 #[.int .i64 x, .int .i64 v] w fun e w' =>e= .returned (.bool true)∧Fr nob w w' :=by
 obtain ⟨w1,hw1⟩:∃y,y=w.alloc (.cells #[.string ⟨#[105,100]⟩, .int .i64 0] 71 (0,0)):=⟨_,rfl⟩
 obtain ⟨z1,hz1⟩:∃y,y=w.heap.size:=⟨_,rfl⟩
 have hs:=o19_cols w nob (nob_lt _)
 rw[←hw1,←hz1] at hs
 have hf1:Fr nob w w1:=by rw[hw1];exact (Fr.refl nob w).alloc _
 have HI:=Lib.hid (⟨⟨hx1,hx2⟩,⟨hv1,hv2⟩⟩:I64 x∧I64 v)
 have HLA:=Lib.hid (hL.keep)
 have HFR:=Lib.hid (fun y (C:Nat→Prop) (e:Ev w nob y C)=>hF.fr e.fr id)
 have E1:=Lib.hid (Ev.of hf1 (nob_lt _))
 have G1:=Lib.hid hf1
 have HS:=Lib.hid (SV.keep rCol_ok hs)
 clear hs
 clear hL hF hf1 hx1 hx2 hv1 hv2
 go_enter Tryz.func7,Tryz.ntmps7
 go_wp2_with fail
 rw[←hw1,←hz1]
 clear hw1 hz1
 have hci:=cellInt_any 1 (by omega) w1
 have hci:Calls Tryz.prog 37 #[.int .i64 1] w1 _:=hci
 refine hci.mono ?_
 rintro e u2 ⟨rfl,hf2⟩
 have E2:=Lib.hid (Ev.of hf2 E1.out.lt)
 have G2:=Lib.hid hf2
 clear hci hf2
 obtain ⟨w3,hw3⟩:∃y,y=u2.alloc (.cells #[.int .u64 1, .string ⟨#[]⟩] 74 (0,0)):=⟨_,rfl⟩
 obtain ⟨z3,hz3⟩:∃y,y=u2.heap.size:=⟨_,rfl⟩
 have hr3:=o19_cells u2 nob (nob_lt _)
 rw[←hw3,←hz3] at hr3
 have hf3:Fr nob u2 w3:=by rw[hw3];exact (Fr.refl nob _).alloc _
 have hs3:w3.heap.size=z3+1:=by rw[hw3,hz3];simp
 have E3:=Lib.hid (Ev.of hf3 E2.out.lt)
 have G3:=Lib.hid hf3
 have HR:=Lib.hid (SV.keep rCel_ok hr3)
 clear hr3
 clear hf3
 by_cases hx0:x=0
 · subst hx0
   go_wp2_with fail
   rw[←hw3]
   refine (alive19_any _ (HLA.out _ _ (E1.out.trans (E2.out.trans E3.out))) (HFR.out _ _ (E1.out.trans (E2.out.trans E3.out)))).mono ?_
   rintro e u9 ⟨rfl,hf9⟩
   have E4:=Lib.hid (Ev.of hf9 E3.out.lt)
   have G4:=Lib.hid hf9
   go_wp2_with fail
   go_ret
   exact ⟨rfl,((E1.out.trans (E2.out.trans (E3.out.trans E4.out)))).toN⟩
 have dx:=beq_eq_false_iff_ne.2 hx0
 by_cases hv0:v=0
 · subst hv0
   go_wp2_with fail
   rw[←hw3]
   refine (alive19_any _ (HLA.out _ _ (E1.out.trans (E2.out.trans E3.out))) (HFR.out _ _ (E1.out.trans (E2.out.trans E3.out)))).mono ?_
   rintro e u9 ⟨rfl,hf9⟩
   have E5:=Lib.hid (Ev.of hf9 E3.out.lt)
   have G5:=Lib.hid hf9
   go_wp2_with fail
   go_ret
   exact ⟨rfl,((E1.out.trans (E2.out.trans (E3.out.trans E5.out)))).toN⟩
 have dv:=beq_eq_false_iff_ne.2 hv0
 obtain ⟨w4,hw4⟩:∃y,y=w3.alloc (.cells #[.slice none 0 0] 24 (0,0)):=⟨_,rfl⟩
 have hpl:=pl_lit w3 nob (nob_lt _) none 0 [] (SV.nil _ _ _ _) (by decide)
 have hgr:=greatN_any _ w4 (some ⟨z3+1,0,none⟩) 1 [[]] (by rw[hw4,←hs3];exact hpl) (by decide)
 have hgr:Calls Tryz.prog 14 #[.slice (some ⟨z3+1,0,none⟩) 1 1] w4 _:=hgr
 have hf4:Fr nob w3 w4:=by rw[hw4];exact (Fr.refl nob _).alloc _
 have E6:=Lib.hid (Ev.of hf4 E3.out.lt)
 have G6:=Lib.hid hf4
 clear hpl hf4
 go_wp2_with fail
 rw[←hw3,←hz3,←hw4]
 refine hgr.mono ?_
 rintro e u5 ⟨⟨g,rfl⟩,hf5⟩
 have E7:=Lib.hid (Ev.of hf5 E6.out.lt)
 have G7:=Lib.hid hf5
 clear hgr hf5 hw3 hz3 hw4 hs3
 by_cases hg:0<g
 · go_wp2_with fail
   refine (alive19_any _ (HLA.out _ _ (E1.out.trans (E2.out.trans (E3.out.trans (E6.out.trans E7.out))))) (HFR.out _ _ (E1.out.trans (E2.out.trans (E3.out.trans (E6.out.trans E7.out)))))).mono ?_
   rintro e u9 ⟨rfl,hf9⟩
   have E8:=Lib.hid (Ev.of hf9 E7.out.lt)
   have G8:=Lib.hid hf9
   go_wp2_with fail
   go_ret
   exact ⟨rfl,((E1.out.trans (E2.out.trans (E3.out.trans (E6.out.trans (E7.out.trans E8.out)))))).toN⟩
 obtain ⟨z5,hz5⟩:∃y,y=u5.heap.size:=⟨_,rfl⟩
 obtain ⟨p1,hwp1⟩:∃y,y=u5.alloc (.cells #[.slice (some ⟨z3,0,none⟩) 1 1, .int .i64 x] 66 (0,0)):=⟨_,rfl⟩
 have hpp1:=e19_pair u5 nob (nob_lt _) (some ⟨z3,0,none⟩) r19 1 1 rfl (by decide) (HR.out _ _ (E6.out.trans E7.out)) x HI.out.1
 rw[←hwp1,←hz5] at hpp1
 have hfp1:Fr nob u5 p1:=by rw[hwp1];exact (Fr.refl nob _).alloc _
 have hsp1:p1.heap.size=u5.heap.size+1:=by rw[hwp1];simp
 rw[←hz5] at hsp1
 have E9:=Lib.hid (Ev.of hfp1 E7.out.lt)
 have G9:=Lib.hid hfp1
 have HP1:=Lib.hid (SV.keep rPr_ok hpp1)
 clear hpp1
 clear hfp1
 obtain ⟨p2,hwp2⟩:∃y,y=p1.alloc (.cells #[.slice (some ⟨z3,0,none⟩) 1 1, .int .i64 x] 66 (0,0)):=⟨_,rfl⟩
 have hpp2:=e19_pair p1 nob (nob_lt _) (some ⟨z3,0,none⟩) r19 1 1 rfl (by decide) (HR.out _ _ (E6.out.trans (E7.out.trans E9.out))) x HI.out.1
 rw[←hwp2,hsp1] at hpp2
 have hfp2:Fr nob p1 p2:=by rw[hwp2];exact (Fr.refl nob _).alloc _
 have hsp2:p2.heap.size=p1.heap.size+1:=by rw[hwp2];simp
 rw[hsp1] at hsp2
 have E10:=Lib.hid (Ev.of hfp2 E9.out.lt)
 have G10:=Lib.hid hfp2
 have HP2:=Lib.hid (SV.keep rPr_ok hpp2)
 clear hpp2
 clear hfp2
 obtain ⟨p3,hwp3⟩:∃y,y=p2.alloc (.cells #[.slice (some ⟨z3,0,none⟩) 1 1, .int .i64 v] 66 (0,0)):=⟨_,rfl⟩
 have hpp3:=e19_pair p2 nob (nob_lt _) (some ⟨z3,0,none⟩) r19 1 1 rfl (by decide) (HR.out _ _ (E6.out.trans (E7.out.trans (E9.out.trans E10.out)))) v HI.out.2
 rw[←hwp3,hsp2] at hpp3
 have hfp3:Fr nob p2 p3:=by rw[hwp3];exact (Fr.refl nob _).alloc _
 have hsp3:p3.heap.size=p2.heap.size+1:=by rw[hwp3];simp
 rw[hsp2] at hsp3
 have E11:=Lib.hid (Ev.of hfp3 E10.out.lt)
 have G11:=Lib.hid hfp3
 have HP3:=Lib.hid (SV.keep rPr_ok hpp3)
 clear hpp3
 clear hfp3
 obtain ⟨p4,hp4⟩:∃y,y=p3.alloc (.cells #[.int .i64 0, .int .i64 1, .slice (some ⟨z5,0,none⟩) 1 1, .int .i64 1, .int .i64 1, .slice (some ⟨z5+1,0,none⟩) 1 1, .int .i64 0, .int .i64 2, .slice (some ⟨z5+1+1,0,none⟩) 1 1] 40 (0,0)):=⟨_,rfl⟩
 have he4:=o19_ents p3 nob (nob_lt _) (some ⟨z5,0,none⟩) (some ⟨z5+1,0,none⟩) (some ⟨z5+1+1,0,none⟩) x v (HP1.out _ _ (E10.out.trans E11.out)) (HP2.out _ _ E11.out) (HP3.out _ _ (Ev.refl E11.out.lt))
 rw[←hp4,hsp3] at he4
 have hf4:Fr nob p3 p4:=by rw[hp4];exact (Fr.refl nob _).alloc _
 have E12:=Lib.hid (Ev.of hf4 E11.out.lt)
 have G12:=Lib.hid hf4
 have HE:=Lib.hid (SV.keep rEnt_ok he4)
 clear he4
 have HW:=Lib.hid (⟨hwp1,hz5,hwp2,hwp3,hp4⟩:_∧_∧_∧_∧_)
 obtain ⟨oe,out,hcol⟩:=collected_ex s19 (l:=oneP x++oneP v) (fun p hp=>(List.mem_append.1 hp).elim (canon_ok (oneP_canon HI.out.1 hx0) p) (canon_ok (oneP_canon HI.out.2 hv0) p))
 have hch:=changes_any p4 (some ⟨z1,0,none⟩) 1 s19 (HS.out _ _ (E2.out.trans (E3.out.trans (E6.out.trans (E7.out.trans (E9.out.trans (E10.out.trans (E11.out.trans E12.out)))))))) (some ⟨z5+1+1+1,0,none⟩) 3 (overL x v) (HE.out _ _ (Ev.refl E12.out.lt)) (HLA.out _ _ (E1.out.trans (E2.out.trans (E3.out.trans (E6.out.trans (E7.out.trans (E9.out.trans (E10.out.trans (E11.out.trans E12.out))))))))) (by decide) (by simp[overL]) s19_ok (overL_check HI.out.1 hx0 HI.out.2 hv0) 9 (by decide)
 rw[over_fold HI.out.1 hx0 HI.out.2 hv0 hcol] at hch
 have HCOL:=Lib.hid hcol
 have hol:=(collected_len hcol).1
 have hch:Calls Tryz.prog 39 #[.slice (some ⟨z1,0,none⟩) 1 1, .int .i64 9, .slice (some ⟨z5+1+1+1,0,none⟩) 3 3] p4 _:=hch
 clear hwp1 hz5 hwp2 hwp3 hp4 hf4 hsp1 hsp2 hsp3 hcol
 go_wp2_with fail
 rw[←HW.out.1,←HW.out.2.1,←HW.out.2.2.1,←HW.out.2.2.2.1,←HW.out.2.2.2.2]
 refine hch.mono ?_
 rintro e u6 ⟨a6,c6,rfl,hf6,hv6⟩
 have E13:=Lib.hid (Ev.of hf6 E12.out.lt)
 have G13:=Lib.hid hf6
 clear hch hf6
 have HO:=Lib.hid (SV.keep rPr_ok hv6)
 clear hv6
 obtain ⟨p7,hp7⟩:∃y,y=u6.alloc (.cells #[.slice (some ⟨z3,0,none⟩) 1 1, .int .i64 x, .slice (some ⟨z3,0,none⟩) 1 1, .int .i64 v] 66 (0,0)):=⟨_,rfl⟩
 obtain ⟨z7,hz7⟩:∃y,y=u6.heap.size:=⟨_,rfl⟩
 have h27:=o19_two u6 nob (nob_lt _) (some ⟨z3,0,none⟩) (HR.out _ _ (E6.out.trans (E7.out.trans (E9.out.trans (E10.out.trans (E11.out.trans (E12.out.trans E13.out))))))) x v HI.out.1 HI.out.2
 rw[←hp7,←hz7] at h27
 have hf7:Fr nob u6 p7:=by rw[hp7];exact (Fr.refl nob _).alloc _
 have E14:=Lib.hid (Ev.of hf7 E13.out.lt)
 have G14:=Lib.hid hf7
 have hco:=collect_o (B:=nob) (HS.out _ _ (E2.out.trans (E3.out.trans (E6.out.trans (E7.out.trans (E9.out.trans (E10.out.trans (E11.out.trans (E12.out.trans (E13.out.trans E14.out)))))))))) h27 (HLA.out _ _ (E1.out.trans (E2.out.trans (E3.out.trans (E6.out.trans (E7.out.trans (E9.out.trans (E10.out.trans (E11.out.trans (E12.out.trans (E13.out.trans E14.out))))))))))) (by decide) (by simp[oneP]) (nob_lt _)
 have hco:Calls Tryz.prog 18 #[.slice (some ⟨z1,0,none⟩) 1 1, .slice (some ⟨z7,0,none⟩) 2 2] p7 _:=hco
 clear hf7 h27
 by_cases hoe:oe=0
 · subst hoe
   rw[if_pos rfl] at HO
   simp only[if_true] at HO ⊢
   go_wp2_with fail
   rw[←hp7,←hz7]
   refine hco.mono ?_
   rintro e u8 ⟨en,out2,a8,c8,rfl,hcol2,hf8,hv8,_⟩
   obtain ⟨rfl,rfl⟩:=collected_det hcol2 HCOL.out
   have E15:=Lib.hid (Ev.of hf8 E14.out.lt)
   have G15:=Lib.hid hf8
   have HN:=Lib.hid (SV.keep rPr_ok hv8)
   clear hv8
   clear hco hf8 hcol2 hp7 hz7
   go_wp2_with fail
   refine (alive19_any _ (HLA.out _ _ (E1.out.trans (E2.out.trans (E3.out.trans (E6.out.trans (E7.out.trans (E9.out.trans (E10.out.trans (E11.out.trans (E12.out.trans (E13.out.trans (E14.out.trans E15.out)))))))))))) (HFR.out _ _ (E1.out.trans (E2.out.trans (E3.out.trans (E6.out.trans (E7.out.trans (E9.out.trans (E10.out.trans (E11.out.trans (E12.out.trans (E13.out.trans (E14.out.trans E15.out))))))))))))).mono ?_
   rintro e u9 ⟨rfl,hf9⟩
   have E16:=Lib.hid (Ev.of hf9 E15.out.lt)
   have G16:=Lib.hid hf9
   clear hf9
   have hsm:=zsame_yes (HO.out _ _ (E14.out.trans (E15.out.trans E16.out))) (HN.out _ _ E16.out) (by unfold lim;omega) (by unfold lim;omega) rfl
   go_wp2_with fail
   refine hsm.mono ?_
   rintro e u10 ⟨rfl,hf10⟩
   have E17:=Lib.hid (Ev.of hf10 E16.out.lt)
   have G17:=Lib.hid hf10
   go_wp2_with fail
   go_ret
   exact ⟨by simp,((E1.out.trans (E2.out.trans (E3.out.trans (E6.out.trans (E7.out.trans (E9.out.trans (E10.out.trans (E11.out.trans (E12.out.trans (E13.out.trans (E14.out.trans (E15.out.trans (E16.out.trans E17.out)))))))))))))).toN⟩
 · rw[if_neg hoe] at HO
   simp only[if_neg hoe] at HO ⊢
   have d1:=intne hoe
   have d2:((oe:Int) == 0)=false:=by rw[beq_eq_false_iff_ne];omega
   go_wp2_with fail
   rw[←hp7,←hz7]
   refine hco.mono ?_
   rintro e u8 ⟨en,out2,a8,c8,rfl,hcol2,hf8,hv8,_⟩
   obtain ⟨rfl,rfl⟩:=collected_det hcol2 HCOL.out
   have E18:=Lib.hid (Ev.of hf8 E14.out.lt)
   have G18:=Lib.hid hf8
   clear hco hf8 hcol2 hp7 hz7 hv8
   go_wp2_with fail
   refine (alive19_any _ (HLA.out _ _ (E1.out.trans (E2.out.trans (E3.out.trans (E6.out.trans (E7.out.trans (E9.out.trans (E10.out.trans (E11.out.trans (E12.out.trans (E13.out.trans (E14.out.trans E18.out)))))))))))) (HFR.out _ _ (E1.out.trans (E2.out.trans (E3.out.trans (E6.out.trans (E7.out.trans (E9.out.trans (E10.out.trans (E11.out.trans (E12.out.trans (E13.out.trans (E14.out.trans E18.out))))))))))))).mono ?_
   rintro e u9 ⟨rfl,hf9⟩
   have E19:=Lib.hid (Ev.of hf9 E18.out.lt)
   have G19:=Lib.hid hf9
   clear hf9
   obtain ⟨b9,o9,ra,rc,e9,_,_,_,hp9,_,_,k2⟩:=ent_at (HE.out _ _ (E13.out.trans (E14.out.trans (E18.out.trans E19.out)))) (show 0<(overL x v).length by simp[overL])
   cases e9
   have hp9:SV rPr 2 (free u9 nob) u9 ra rc (oneP x):=hp9
   have k2:u9.cell? ⟨z5+1+1+1,2,none⟩=some (.slice ra 1 rc):=k2
   have hsm:=zsame_yes (HO.out _ _ (E14.out.trans (E18.out.trans E19.out))) hp9 (by simp[oneP,lim]) (by simp[oneP,lim]) rfl
   have hsm:Calls Tryz.prog 19 #[.slice a6 (oneP x).length c6, .slice ra 1 rc] u9 _:=hsm
   clear hp9
   go_wp2_with fail
   refine hsm.mono ?_
   rintro e u10 ⟨rfl,hf10⟩
   have E20:=Lib.hid (Ev.of hf10 E19.out.lt)
   have G20:=Lib.hid hf10
   go_wp2_with fail
   go_ret
   exact ⟨by simp,((E1.out.trans (E2.out.trans (E3.out.trans (E6.out.trans (E7.out.trans (E9.out.trans (E10.out.trans (E11.out.trans (E12.out.trans (E13.out.trans (E14.out.trans (E18.out.trans (E19.out.trans E20.out)))))))))))))).toN⟩
end Go.Proofs.YtibpkfnfcdbiiaaGreatDoor
