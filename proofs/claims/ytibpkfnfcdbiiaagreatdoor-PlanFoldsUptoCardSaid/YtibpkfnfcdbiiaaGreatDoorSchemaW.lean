/- Contracts of slices.Clone of columns, schema.Write. -/
import Derived.Test.YtibpkfnfcdbiiaaGreatDoorEvo
import Derived.Test.YtibpkfnfcdbiiaaGreatDoorBunB
import Derived.Test.YtibpkfnfcdbiiaaGreatDoorBunH
import Derived.Test.YtibpkfnfcdbiiaaGreatDoorBunD
import Derived.Test.YtibpkfnfcdbiiaaGreatDoorBunK
import Derived.Test.YtibpkfnfcdbiiaaGreatDoorBunA
namespace Go.Proofs.YtibpkfnfcdbiiaaGreatDoor
set_option linter.unusedSimpArgs false
open Go.RowKit
set_option linter.unusedVariables false
theorem inf_Col:((Tryz.prog).info? 71).map (fun i=>(i.zero,i.size,i.bytes))=some (some (.agg #[.string ⟨#[]⟩, .int .i64 0]),2,24):=by kernel_rfl
set_option maxRecDepth 100000 in
set_option maxHeartbeats 2000000 in
theorem cloneCols_vec (S:Nat→Prop) (w:World) (a:Option Addr) (n cap:Nat) (cs:List Value) (h:Vec S w 2 a n cap cs) (hn:n≤1000000):
 Calls Tryz.prog 51 #[.slice a n cap] w fun e w' =>∃a' cap',e= .returned (.slice a' n cap')∧Fr nob w w' ∧Vec (newb w w') w' 2 a' n cap' cs:=by
 have H:=Lib.hid h
 cases a with
 | none=>
   have h0:=h.nil0 rfl
   have h1:=h.le
   obtain rfl:n=0:=by omega
   subst h0
   have hcs:cs=[]:=List.eq_nil_of_length_eq_zero (by have:=h.len;omega)
   subst hcs
   clear h h1
   have kq:=fun (w:World)=>Lib.run_eql_slice_nil (P:=Tryz.prog) w 22 _ none 0 0 0 0 Tryz.underlying22
   go_enter Tryz.func51,Tryz.ntmps51
   go_wp2_with fail
   go_ret
   exact ⟨none,0,by simp,Fr.refl _ _,Vec.nil _ _ _⟩
 | some a=>
   have hf0:Fr nob w (w.alloc (.cells #[] 71 (0,0))):=(Fr.refl nob w).alloc _
   have hs:=(h.frN hf0).src (P:=Tryz.prog) Tryz.underlying22
   have HS:=Lib.hid hs
   clear h hs
   have kq:=fun (w:World)=>Lib.run_eql_slice_nil (P:=Tryz.prog) w 22 _ (some a) n cap 0 0 Tryz.underlying22
   go_enter Tryz.func51,Tryz.ntmps51
   go_wp2_with (at_builtin;refine wpList_append_vec rfl _ _ _ _ rfl rfl (Vec.empty w _ 2) _ _ _ Tryz.underlying22 inf_Col rfl _ n cs rfl HS.out (by unfold maxLen;omega) (by omega) ?_)
   intro a1 c1 w1 hv1 hf1 _
   go_wp2_with fail
   go_ret
   refine ⟨a1,c1,by simp,frN_newb _ _ hf1,?_⟩
   have h1:=hv1.mono (grow_newb w _ w1 (by simp) hf1.size)
   simpa using h1
theorem cloneCols_any (S:Nat→Prop) (w:World) (a:Option Addr) (cap:Nat) (s:List Col) (h:SV rCol 2 S w a cap s) (hn:s.length≤1000000):
 Calls Tryz.prog 51 #[.slice a s.length cap] w fun e w' =>∃a' cap',e= .returned (.slice a' s.length cap')∧Fr nob w w' ∧SV rCol 2 (newb w w') w' a' cap' s:=by
 obtain ⟨css,h1,h2,h3⟩:=h
 refine (cloneCols_vec S w a s.length cap _ h2 hn).mono ?_
 rintro e w' ⟨a',c',he,hf,hv⟩
 exact ⟨a',c',he,hf,css,h1,hv,fun i c x hc hx=>h3 i c x hc hx⟩
def colEnc (c:Col):List UInt8:=lenBytes c.name++[UInt8.ofNat c.kind.toNat]
def schemaPre (s:List Col) (k:Nat):List UInt8:=uv s.length++(s.take k).flatMap colEnc
def schemaBytes (s:List Col):List UInt8:=uv s.length++s.flatMap colEnc
theorem schemaPre_succ {s:List Col} {k:Nat} (h:k<s.length):schemaPre s (k+1)=schemaPre s k++lenBytes s[k].name++[UInt8.ofNat s[k].kind.toNat]:=by
 unfold schemaPre
 rw[List.take_succ_eq_append_getElem h,List.flatMap_append]
 simp[colEnc,List.append_assoc]
theorem schemaPre_all {s:List Col}:schemaPre s s.length=schemaBytes s:=by unfold schemaPre schemaBytes;rw[List.take_length]
theorem lenBytes_le {l:List UInt8} (h:l.length≤1000000):(lenBytes l).length≤10+l.length:=by
 have:=uv_len10 (x:=l.length) (by omega)
 simp[lenBytes];omega
theorem schemaPre_le {s:List Col} (h:schemaCheck s=0):∀k,k≤s.length→(schemaPre s k).length≤10+43*k
 | 0,_=>by
   have:=uv_len10 (x:=s.length) (by have:=(schemaCheck_le h).2;omega)
   simp[schemaPre];omega
 | k+1,hk=>by
   have ih:=schemaPre_le h k (by omega)
   have hc:=schemaCheck_col h s[k] (List.getElem_mem (by omega))
   have:=lenBytes_le (l:=s[k].name) (by omega)
   rw[schemaPre_succ (by omega)]
   simp;omega
def schemaW (s:List Col):List UInt8:=if schemaCheck s=0 then schemaBytes s else []
set_option maxRecDepth 100000 in
set_option maxHeartbeats 8000000 in
theorem schemaWrite_any (S:Nat→Prop) (w:World) (a:Option Addr) (cap:Nat) (s:List Col) (hs:SV rCol 2 S w a cap s) (hL:Laid w) (hl:s.length≤lim) (hS:∀k,S k→k<w.heap.size):
 Calls Tryz.prog 89 #[.slice a s.length cap] w fun e w' =>∃ao co,e= .returned (.tuple #[.slice ao (schemaW s).length co, .int .i64 (schemaCheck s:Nat)])∧Fr nob w w' ∧BV (newb w w') w' ao co (schemaW s):=by
 have hs' :=hs.within rCol_ok hS
 have HS:=Lib.hid (SV.keep rCol_ok hs')
 clear hs'
 have HLL:=Lib.hid hL
 have HLIM:=Lib.hid hl
 unfold lim at hl
 clear hs hL
 go_enter Tryz.func89,Tryz.ntmps89
 go_wp2_with fail
 refine (schema_any _ _ _ _ s (HS.out _ _ (Ev.refl (nob_lt _))) HLL.out HLIM.out).mono ?_
 rintro e u1 ⟨rfl,hfr⟩
 have E1:=Lib.hid (Ev.of hfr (nob_lt _))
 have G1:=Lib.hid hfr
 clear hfr
 by_cases h1:schemaCheck s=0
 · have hw:schemaW s=schemaBytes s:=by unfold schemaW;rw[if_pos h1]
   rw[h1]
   have HW:=Lib.hid hw
   have H1:=Lib.hid h1
   have hl8:=(schemaCheck_le h1).2
   clear hw h1
   have hcv:IntKind.u64.wrap (s.length:Int)=(s.length:Int):=by rw[IntKind.wrap_u64];omega
   go_wp2_with fail
   refine (uint_any s.length (by omega) _).mono ?_
   rintro e u2 ⟨a1,c1,rfl,hfr,hv⟩
   have E2:=Lib.hid (Ev.of hfr E1.out.lt)
   have G2:=Lib.hid hfr
   clear hfr
   have HV1:=Lib.hid (show BV (newb u1 u2) u2 a1 c1 (schemaPre s 0) by simpa [schemaPre] using hv)
   clear hv
   go_wp2_with fail
   go_loopw [5,19] (fun v5 v19 wr=>∃(k:Nat) (B:Nat→Prop) (ao:Option Addr) (co:Nat),v19= .int .i64 k∧v5= .slice ao (schemaPre s k).length co∧k≤s.length∧BV B wr ao co (schemaPre s k)∧Ev w nob wr B) (fun _ v19 _=>s.length - (intOf v19).toNat)
   case atStart=>exact ⟨0,_,a1,c1,rfl,by simp[schemaPre],Nat.zero_le _,HV1.out,((E1.out.trans E2.out)).born (fun k hk=>⟨Nat.le_trans (E1.out.fr.size) hk.1,hk.2⟩)⟩
   case round=>
    obtain ⟨k,B,ao,co,rfl,rfl,hk,hb,hev⟩:=hrel
    have HEV:=Lib.hid hev
    have HB:=Lib.hid hb
    have hpl:=schemaPre_le H1.out k hk
    clear hb hev
    by_cases hlt:k<s.length
    · obtain ⟨b1,off,rfl,_,hk64,hnl,c0,c1⟩:=col_at (HS.out _ _ HEV.out) hlt
      have hcc:=schemaCheck_col H1.out s[k] (List.getElem_mem hlt)
      have HN:=Lib.hid (schemaPre_succ hlt)
      have hpl2:=schemaPre_le H1.out (k+1) hlt
      rw[HN.out] at hpl2
      clear hnl hk64
      generalize schemaPre s k=pre at HB HN hpl hpl2 ⊢
      generalize s[k]=c at hcc HN c0 c1 hpl2
      obtain ⟨nm,kd⟩:=c
      simp only at hcc HN c0 c1 hpl2
      obtain ⟨kd,rfl⟩:∃m:Nat,kd=m:=⟨kd.toNat,by omega⟩
      rw[Int.toNat_natCast] at hpl2 HN
      obtain ⟨w2,hw2⟩:∃w2,w2=wr.alloc (.cells #[.string (bs nm), .int .i64 kd] 71 (0,0)):=⟨_,rfl⟩
      have hB:=heap_new wr (.cells #[.string (bs nm), .int .i64 kd] 71 (0,0))
      have hf2:Fr nob wr w2:=by rw[hw2];exact (Fr.refl nob wr).alloc _
      rw[←hw2] at hB
      obtain ⟨z,hz⟩:∃z,z=wr.heap.size:=⟨_,rfl⟩
      rw[←hz] at hB
      have hzB:¬B z:=fun h=>by have:=HEV.out.lt z h;omega
      have E3:=Lib.hid (Ev.of hf2 HEV.out.lt)
      have G3:=Lib.hid hf2
      have q0:∀y,Fr B w2 y→y.cell? ⟨z,0,none⟩=some (.string (bs nm)):=fun y hy=>by have:=cell_of (hy.heap hB hzB) 0;simpa using this
      have q1:∀y,Fr B w2 y→y.cell? ⟨z,1,none⟩=some (.int .i64 kd):=fun y hy=>by have:=cell_of (hy.heap hB hzB) 1;simpa using this
      have hkw:IntKind.u8.wrap (kd:Int)=((UInt8.ofNat kd).toNat:Int):=by rw[IntKind.wrap_u8,UInt8.toNat_ofNat'];omega
      generalize UInt8.ofNat kd=kb at hkw HN hpl2
      have hll:=lenBytes_le (l:=nm) (by omega)
      simp only[List.length_append,List.length_singleton] at hpl2
      have HBN:=Lib.hid (show pre.length+(lenBytes nm).length+1=(pre++lenBytes nm++[kb]).length by simp;omega)
      clear hB hzB hf2
      go_wp2_with fail
      rw[←hz,←hw2]
      clear hw2 hz c0 c1
      refine wp_region_T (.free 0 (.free 1 (.free 2 (.free 6 (.free 7 (.free 8 (.two 3 (.two 4 (.two 5 (.line [(9,false),(10,false),(11,true)]) 9 (.line [(5,false),(10,false),(11,true)])) 9 (.line [(4,false),(5,false),(10,false),(11,true)])) 9 (.line [(3,false),(4,false),(5,false),(10,false),(11,true)])))))))) (Fr B w2) rfl (by kernel_rfl) (by kernel_rfl) (by decide) (fun c a d v w h=>by cases d<;>exact h) ((Fr.refl B w2).drew) (fun ops hops hS=>?_)
      obtain ⟨d4,hdw⟩:∃d,d=w2.drew:=⟨_,rfl⟩
      rw[←hdw] at hS ⊢
      have G4:Hid (Fr nob w2 d4):=Lib.hid (by rw[hdw];exact (Fr.refl nob w2).drew)
      have E4:=Lib.hid (Ev.of G4.out E3.out.lt)
      clear hdw
      refine wpT_free _ _ (by rw[hops.out];rfl) (by first | exact Wants.plain rfl | exact Wants.yes rfl (by rw[hops.out];rfl) rfl rfl) (by intro x hx;go_simp;rfl) ?_
      go_simp
      refine wpT_free _ _ (by rw[hops.out];rfl) (by first | exact Wants.plain rfl | exact Wants.yes rfl (by rw[hops.out];rfl) rfl rfl) (by intro x hx;go_simp;rfl) ?_
      go_simp
      refine wpT_free _ _ (by rw[hops.out];rfl) (by first | exact Wants.plain rfl | exact Wants.yes rfl (by rw[hops.out];rfl) rfl rfl) (by intro x hx;go_simp;rfl) ?_
      go_simp
      refine wpT_free _ _ (by rw[hops.out];rfl) (by first | exact Wants.plain rfl | exact Wants.yes rfl (by rw[hops.out];rfl) rfl rfl) (by intro x hx;go_simp;rfl) ?_
      go_simp
      refine wpT_free _ _ (by rw[hops.out];rfl) (by first | exact Wants.plain rfl | exact Wants.yes rfl (by rw[hops.out];rfl) rfl rfl) (by intro x hx;go_simp;rfl) ?_
      go_simp
      refine wpT_free _ _ (by rw[hops.out];rfl) (by first | exact Wants.plain rfl | exact Wants.yes rfl (by rw[hops.out];rfl) rfl rfl) (by intro x hx;go_simp;rfl) ?_
      go_simp
      refine wpT_two _ _ (by rw[hops.out];rfl) (by first | exact Wants.plain rfl | exact Wants.yes rfl (by rw[hops.out];rfl) rfl rfl) (by rw[hops.out];rfl) (by first | exact Wants.plain rfl | exact Wants.yes rfl (by rw[hops.out];rfl) rfl rfl) (fun K hK=>?_) (fun K hK=>?_)
      · skip
        obtain ⟨a3,g3,x3,hcv3,hf3,hv3⟩:=bytes_of d4 nm (by omega)
        have HX3:=Lib.hid hv3
        have HF3:=Lib.hid hf3
        clear hv3 hf3
        go_wp2_with fail
        clear hcv3
        have E5:=Lib.hid (Ev.of HF3.out E4.out.lt)
        have G5:=Lib.hid HF3.out
        have HV3:=Lib.hid (BV.keep (HX3.out.new E4.out.lt))
        refine ⟨_,fun _ h=>h,(E4.out.trans E5.out).fr,?_⟩
        go_simp
        refine wpT_two _ _ (by rw[hops.out];rfl) (by first | exact Wants.plain rfl | exact Wants.yes rfl (by rw[hops.out];rfl) rfl rfl) (by rw[hops.out];rfl) (by first | exact Wants.plain rfl | exact Wants.yes rfl (by rw[hops.out];rfl) rfl rfl) (fun K hK=>?_) (fun K hK=>?_)
        · skip
          go_wp2_with fail
          refine (wireBytes_any _ _ a3 g3 nm (HV3.out _ _ (Ev.refl E5.out.lt)) (by omega)).mono ?_
          rintro e u6 ⟨a4,g4,rfl,hfr,hv4⟩
          have E6:=Lib.hid (Ev.of hfr E5.out.lt)
          have G6:=Lib.hid hfr
          clear hfr
          refine hK _ _ ⟨_,fun _ h=>h,(E4.out.trans (E5.out.trans E6.out)).fr,?_⟩
          clear hK
          go_simp
          have HV4:=Lib.hid (BV.keep (hv4.new E5.out.lt))
          clear hv4
          refine wpT_two _ _ (by rw[hops.out];rfl) (by first | exact Wants.plain rfl | exact Wants.yes rfl (by rw[hops.out];rfl) rfl rfl) (by rw[hops.out];rfl) (by first | exact Wants.plain rfl | exact Wants.yes rfl (by rw[hops.out];rfl) rfl rfl) (fun K hK=>?_) (fun K hK=>?_)
          · skip
            refine wp_append_vec _ _ _ _ rfl rfl (HB.out.vec.frN (G3.out.andN (G4.out.andN (G5.out.andN G6.out)))) _ _ _ Tryz.underlying27 inf_u8 rfl _ (lenBytes nm).length _ rfl (((HV4.out _ _ (Ev.refl E6.out.lt))).src Tryz.underlying27) (by unfold maxLen;omega) (by omega) ?_
            intro a5 g5 x5 hv5 hf5 _
            have EA:=Lib.hid (Ev.grow hf5 E6.out.lt)
            have HV5:=Lib.hid hv5
            clear hv5 hf5
            refine hK _ _ ⟨_,fun _ h=>h,(E4.out.trans (E5.out.trans (E6.out.trans EA.out))).fr,?_⟩
            clear hK
            go_simp
            refine wpT_line ?_
            repeat (first | (apply oF hops (by rfl) (by first | exact .plain rfl | exact .y hops rfl rfl rfl rfl);(focus (intro x hx;go_simp;rfl));go_simp) | (apply oS hops (by rfl) (by first | exact .n hops rfl rfl rfl rfl | exact .u hops rfl rfl rfl rfl);go_simp) | (apply oP hops (by rfl) (by first | exact .n hops rfl rfl rfl rfl | exact .u hops rfl rfl rfl rfl) (by assumption);go_simp))
            refine oA hops (by rfl) (by first | exact .plain rfl | exact .y hops rfl rfl rfl rfl) (fun K hK=>?_)
            go_wp2_with fail
            have hf9:Fr nob x5 (x5.alloc (.cells #[.int .u8 kb.toNat] 5 (0,0))):=(Fr.refl nob _).alloc _
            have v9:BV (newb x5 (x5.alloc (.cells #[.int .u8 kb.toNat] 5 (0,0)))) (x5.alloc (.cells #[.int .u8 kb.toNat] 5 (0,0))) (some ⟨(x5).heap.size,0,none⟩) 1 [kb]:=by
             have h:=lit_of x5 [kb] (by simp)
             simp[bv] at h
             exact h
            obtain ⟨x9,hx9⟩:∃x9,x9=x5.alloc (.cells #[.int .u8 kb.toNat] 5 (0,0)):=⟨_,rfl⟩
            obtain ⟨z9,hz9⟩:∃z9,z9=(x5).heap.size:=⟨_,rfl⟩
            rw[←hx9] at v9 hf9 ⊢
            rw[←hz9] at v9 ⊢
            have HX9:=Lib.hid v9
            have HF9:=Lib.hid hf9
            clear hx9 hz9 v9 hf9
            have E7:=Lib.hid (Ev.of HF9.out EA.out.lt)
            have G7:=Lib.hid HF9.out
            have HV9:=Lib.hid (BV.keep (HX9.out.new EA.out.lt))
            refine ⟨_,fun _ h=>h,(E4.out.trans (E5.out.trans (E6.out.trans (EA.out.trans E7.out)))).fr,?_⟩
            go_simp
            repeat (first | (apply oF hops (by rfl) (by first | exact .plain rfl | exact .y hops rfl rfl rfl rfl);(focus (intro x hx;go_simp;rfl));go_simp) | (apply oS hops (by rfl) (by first | exact .n hops rfl rfl rfl rfl | exact .u hops rfl rfl rfl rfl);go_simp) | (apply oP hops (by rfl) (by first | exact .n hops rfl rfl rfl rfl | exact .u hops rfl rfl rfl rfl) (by assumption);go_simp))
            refine oA hops (by rfl) (by first | exact .plain rfl | exact .y hops rfl rfl rfl rfl) (fun K hK=>?_)
            refine wp_append_vec _ _ _ _ rfl rfl (HV5.out.frN G7.out) _ _ _ Tryz.underlying27 inf_u8 rfl _ 1 _ rfl (((HV9.out _ _ (Ev.refl E7.out.lt))).src Tryz.underlying27) (by unfold maxLen;omega) (by omega) ?_
            intro a6 g6 x6 hv6 hf6 _
            have EC:=Lib.hid (Ev.grow hf6 E7.out.lt)
            have HV6:=Lib.hid (show BV _ x6 a6 g6 (pre++lenBytes nm++[kb]) by unfold BV;rw[List.length_append,List.length_append,bv_append,bv_append];exact hv6)
            clear hv6 hf6
            refine hK _ _ ⟨_,fun _ h=>h,(E4.out.trans (E5.out.trans (E6.out.trans (EA.out.trans (E7.out.trans EC.out))))).fr,?_⟩
            clear hK
            go_simp
            repeat (first | (apply oF hops (by rfl) (by first | exact .plain rfl | exact .y hops rfl rfl rfl rfl);(focus (intro x hx;go_simp;rfl));go_simp) | (apply oS hops (by rfl) (by first | exact .n hops rfl rfl rfl rfl | exact .u hops rfl rfl rfl rfl);go_simp) | (apply oP hops (by rfl) (by first | exact .n hops rfl rfl rfl rfl | exact .u hops rfl rfl rfl rfl) (by assumption);go_simp))
            apply wpOrd_nil
            go_wp2_with fail
            go_roundw
            case rel=>exact ⟨k+1,_,a6,g6,by go_num,by rw[HN.out];simp;omega,by omega,by rw[HN.out];exact HV6.out,(HEV.out.trans (E3.out.trans (E4.out.trans (E5.out.trans (E6.out.trans (EA.out.trans (E7.out.trans EC.out)))))))⟩
            case measure=>simp[intOf];omega
          · skip
            go_wp2_with fail
            have hf9:Fr nob u6 (u6.alloc (.cells #[.int .u8 kb.toNat] 5 (0,0))):=(Fr.refl nob _).alloc _
            have v9:BV (newb u6 (u6.alloc (.cells #[.int .u8 kb.toNat] 5 (0,0)))) (u6.alloc (.cells #[.int .u8 kb.toNat] 5 (0,0))) (some ⟨(u6).heap.size,0,none⟩) 1 [kb]:=by
             have h:=lit_of u6 [kb] (by simp)
             simp[bv] at h
             exact h
            obtain ⟨x9,hx9⟩:∃x9,x9=u6.alloc (.cells #[.int .u8 kb.toNat] 5 (0,0)):=⟨_,rfl⟩
            obtain ⟨z9,hz9⟩:∃z9,z9=(u6).heap.size:=⟨_,rfl⟩
            rw[←hx9] at v9 hf9 ⊢
            rw[←hz9] at v9 ⊢
            have HX9:=Lib.hid v9
            have HF9:=Lib.hid hf9
            clear hx9 hz9 v9 hf9
            have E8:=Lib.hid (Ev.of HF9.out E6.out.lt)
            have G8:=Lib.hid HF9.out
            have HV9:=Lib.hid (BV.keep (HX9.out.new E6.out.lt))
            refine ⟨_,fun _ h=>h,(E4.out.trans (E5.out.trans (E6.out.trans E8.out))).fr,?_⟩
            go_simp
            refine wpT_line ?_
            repeat (first | (apply oF hops (by rfl) (by first | exact .plain rfl | exact .y hops rfl rfl rfl rfl);(focus (intro x hx;go_simp;rfl));go_simp) | (apply oS hops (by rfl) (by first | exact .n hops rfl rfl rfl rfl | exact .u hops rfl rfl rfl rfl);go_simp) | (apply oP hops (by rfl) (by first | exact .n hops rfl rfl rfl rfl | exact .u hops rfl rfl rfl rfl) (by assumption);go_simp))
            refine oA hops (by rfl) (by first | exact .plain rfl | exact .y hops rfl rfl rfl rfl) (fun K hK=>?_)
            refine wp_append_vec _ _ _ _ rfl rfl (HB.out.vec.frN (G3.out.andN (G4.out.andN (G5.out.andN (G6.out.andN G8.out))))) _ _ _ Tryz.underlying27 inf_u8 rfl _ (lenBytes nm).length _ rfl (((HV4.out _ _ E8.out)).src Tryz.underlying27) (by unfold maxLen;omega) (by omega) ?_
            intro a5 g5 x5 hv5 hf5 _
            have EA:=Lib.hid (Ev.grow hf5 E8.out.lt)
            have HV5:=Lib.hid hv5
            clear hv5 hf5
            refine hK _ _ ⟨_,fun _ h=>h,(E4.out.trans (E5.out.trans (E6.out.trans (E8.out.trans EA.out)))).fr,?_⟩
            clear hK
            go_simp
            repeat (first | (apply oF hops (by rfl) (by first | exact .plain rfl | exact .y hops rfl rfl rfl rfl);(focus (intro x hx;go_simp;rfl));go_simp) | (apply oS hops (by rfl) (by first | exact .n hops rfl rfl rfl rfl | exact .u hops rfl rfl rfl rfl);go_simp) | (apply oP hops (by rfl) (by first | exact .n hops rfl rfl rfl rfl | exact .u hops rfl rfl rfl rfl) (by assumption);go_simp))
            refine oA hops (by rfl) (by first | exact .plain rfl | exact .y hops rfl rfl rfl rfl) (fun K hK=>?_)
            refine wp_append_vec _ _ _ _ rfl rfl (HV5.out.frN (Fr.refl nob _)) _ _ _ Tryz.underlying27 inf_u8 rfl _ 1 _ rfl (((HV9.out _ _ EA.out)).src Tryz.underlying27) (by unfold maxLen;omega) (by omega) ?_
            intro a6 g6 x6 hv6 hf6 _
            have EC:=Lib.hid (Ev.grow hf6 EA.out.lt)
            have HV6:=Lib.hid (show BV _ x6 a6 g6 (pre++lenBytes nm++[kb]) by unfold BV;rw[List.length_append,List.length_append,bv_append,bv_append];exact hv6)
            clear hv6 hf6
            refine hK _ _ ⟨_,fun _ h=>h,(E4.out.trans (E5.out.trans (E6.out.trans (E8.out.trans (EA.out.trans EC.out))))).fr,?_⟩
            clear hK
            go_simp
            repeat (first | (apply oF hops (by rfl) (by first | exact .plain rfl | exact .y hops rfl rfl rfl rfl);(focus (intro x hx;go_simp;rfl));go_simp) | (apply oS hops (by rfl) (by first | exact .n hops rfl rfl rfl rfl | exact .u hops rfl rfl rfl rfl);go_simp) | (apply oP hops (by rfl) (by first | exact .n hops rfl rfl rfl rfl | exact .u hops rfl rfl rfl rfl) (by assumption);go_simp))
            apply wpOrd_nil
            go_wp2_with fail
            go_roundw
            case rel=>exact ⟨k+1,_,a6,g6,by go_num,by rw[HN.out];simp;omega,by omega,by rw[HN.out];exact HV6.out,(HEV.out.trans (E3.out.trans (E4.out.trans (E5.out.trans (E6.out.trans (E8.out.trans (EA.out.trans EC.out)))))))⟩
            case measure=>simp[intOf];omega
        · skip
          go_wp2_with fail
          have hf9:Fr nob x3 (x3.alloc (.cells #[.int .u8 kb.toNat] 5 (0,0))):=(Fr.refl nob _).alloc _
          have v9:BV (newb x3 (x3.alloc (.cells #[.int .u8 kb.toNat] 5 (0,0)))) (x3.alloc (.cells #[.int .u8 kb.toNat] 5 (0,0))) (some ⟨(x3).heap.size,0,none⟩) 1 [kb]:=by
           have h:=lit_of x3 [kb] (by simp)
           simp[bv] at h
           exact h
          obtain ⟨x9,hx9⟩:∃x9,x9=x3.alloc (.cells #[.int .u8 kb.toNat] 5 (0,0)):=⟨_,rfl⟩
          obtain ⟨z9,hz9⟩:∃z9,z9=(x3).heap.size:=⟨_,rfl⟩
          rw[←hx9] at v9 hf9 ⊢
          rw[←hz9] at v9 ⊢
          have HX9:=Lib.hid v9
          have HF9:=Lib.hid hf9
          clear hx9 hz9 v9 hf9
          have E9:=Lib.hid (Ev.of HF9.out E5.out.lt)
          have G9:=Lib.hid HF9.out
          have HV9:=Lib.hid (BV.keep (HX9.out.new E5.out.lt))
          refine ⟨_,fun _ h=>h,(E4.out.trans (E5.out.trans E9.out)).fr,?_⟩
          go_simp
          refine wpT_line ?_
          repeat (first | (apply oF hops (by rfl) (by first | exact .plain rfl | exact .y hops rfl rfl rfl rfl);(focus (intro x hx;go_simp;rfl));go_simp) | (apply oS hops (by rfl) (by first | exact .n hops rfl rfl rfl rfl | exact .u hops rfl rfl rfl rfl);go_simp) | (apply oP hops (by rfl) (by first | exact .n hops rfl rfl rfl rfl | exact .u hops rfl rfl rfl rfl) (by assumption);go_simp))
          refine oA hops (by rfl) (by first | exact .plain rfl | exact .y hops rfl rfl rfl rfl) (fun K hK=>?_)
          go_wp2_with fail
          refine (wireBytes_any _ _ a3 g3 nm (HV3.out _ _ E9.out) (by omega)).mono ?_
          rintro e u10 ⟨a4,g4,rfl,hfr,hv4⟩
          have E10:=Lib.hid (Ev.of hfr E9.out.lt)
          have G10:=Lib.hid hfr
          clear hfr
          refine hK _ _ ⟨_,fun _ h=>h,(E4.out.trans (E5.out.trans (E9.out.trans E10.out))).fr,?_⟩
          clear hK
          go_simp
          have HV4:=Lib.hid (BV.keep (hv4.new E9.out.lt))
          clear hv4
          repeat (first | (apply oF hops (by rfl) (by first | exact .plain rfl | exact .y hops rfl rfl rfl rfl);(focus (intro x hx;go_simp;rfl));go_simp) | (apply oS hops (by rfl) (by first | exact .n hops rfl rfl rfl rfl | exact .u hops rfl rfl rfl rfl);go_simp) | (apply oP hops (by rfl) (by first | exact .n hops rfl rfl rfl rfl | exact .u hops rfl rfl rfl rfl) (by assumption);go_simp))
          refine oA hops (by rfl) (by first | exact .plain rfl | exact .y hops rfl rfl rfl rfl) (fun K hK=>?_)
          refine wp_append_vec _ _ _ _ rfl rfl (HB.out.vec.frN (G3.out.andN (G4.out.andN (G5.out.andN (G9.out.andN G10.out))))) _ _ _ Tryz.underlying27 inf_u8 rfl _ (lenBytes nm).length _ rfl (((HV4.out _ _ (Ev.refl E10.out.lt))).src Tryz.underlying27) (by unfold maxLen;omega) (by omega) ?_
          intro a5 g5 x5 hv5 hf5 _
          have EA:=Lib.hid (Ev.grow hf5 E10.out.lt)
          have HV5:=Lib.hid hv5
          clear hv5 hf5
          refine hK _ _ ⟨_,fun _ h=>h,(E4.out.trans (E5.out.trans (E9.out.trans (E10.out.trans EA.out)))).fr,?_⟩
          clear hK
          go_simp
          repeat (first | (apply oF hops (by rfl) (by first | exact .plain rfl | exact .y hops rfl rfl rfl rfl);(focus (intro x hx;go_simp;rfl));go_simp) | (apply oS hops (by rfl) (by first | exact .n hops rfl rfl rfl rfl | exact .u hops rfl rfl rfl rfl);go_simp) | (apply oP hops (by rfl) (by first | exact .n hops rfl rfl rfl rfl | exact .u hops rfl rfl rfl rfl) (by assumption);go_simp))
          refine oA hops (by rfl) (by first | exact .plain rfl | exact .y hops rfl rfl rfl rfl) (fun K hK=>?_)
          refine wp_append_vec _ _ _ _ rfl rfl (HV5.out.frN (Fr.refl nob _)) _ _ _ Tryz.underlying27 inf_u8 rfl _ 1 _ rfl (((HV9.out _ _ (E10.out.trans EA.out))).src Tryz.underlying27) (by unfold maxLen;omega) (by omega) ?_
          intro a6 g6 x6 hv6 hf6 _
          have EC:=Lib.hid (Ev.grow hf6 EA.out.lt)
          have HV6:=Lib.hid (show BV _ x6 a6 g6 (pre++lenBytes nm++[kb]) by unfold BV;rw[List.length_append,List.length_append,bv_append,bv_append];exact hv6)
          clear hv6 hf6
          refine hK _ _ ⟨_,fun _ h=>h,(E4.out.trans (E5.out.trans (E9.out.trans (E10.out.trans (EA.out.trans EC.out))))).fr,?_⟩
          clear hK
          go_simp
          repeat (first | (apply oF hops (by rfl) (by first | exact .plain rfl | exact .y hops rfl rfl rfl rfl);(focus (intro x hx;go_simp;rfl));go_simp) | (apply oS hops (by rfl) (by first | exact .n hops rfl rfl rfl rfl | exact .u hops rfl rfl rfl rfl);go_simp) | (apply oP hops (by rfl) (by first | exact .n hops rfl rfl rfl rfl | exact .u hops rfl rfl rfl rfl) (by assumption);go_simp))
          apply wpOrd_nil
          go_wp2_with fail
          go_roundw
          case rel=>exact ⟨k+1,_,a6,g6,by go_num,by rw[HN.out];simp;omega,by omega,by rw[HN.out];exact HV6.out,(HEV.out.trans (E3.out.trans (E4.out.trans (E5.out.trans (E9.out.trans (E10.out.trans (EA.out.trans EC.out)))))))⟩
          case measure=>simp[intOf];omega
      · skip
        go_wp2_with fail
        have hf9:Fr nob d4 (d4.alloc (.cells #[.int .u8 kb.toNat] 5 (0,0))):=(Fr.refl nob _).alloc _
        have v9:BV (newb d4 (d4.alloc (.cells #[.int .u8 kb.toNat] 5 (0,0)))) (d4.alloc (.cells #[.int .u8 kb.toNat] 5 (0,0))) (some ⟨(d4).heap.size,0,none⟩) 1 [kb]:=by
         have h:=lit_of d4 [kb] (by simp)
         simp[bv] at h
         exact h
        obtain ⟨x9,hx9⟩:∃x9,x9=d4.alloc (.cells #[.int .u8 kb.toNat] 5 (0,0)):=⟨_,rfl⟩
        obtain ⟨z9,hz9⟩:∃z9,z9=(d4).heap.size:=⟨_,rfl⟩
        rw[←hx9] at v9 hf9 ⊢
        rw[←hz9] at v9 ⊢
        have HX9:=Lib.hid v9
        have HF9:=Lib.hid hf9
        clear hx9 hz9 v9 hf9
        have E11:=Lib.hid (Ev.of HF9.out E4.out.lt)
        have G11:=Lib.hid HF9.out
        have HV9:=Lib.hid (BV.keep (HX9.out.new E4.out.lt))
        refine ⟨_,fun _ h=>h,(E4.out.trans E11.out).fr,?_⟩
        go_simp
        refine wpT_line ?_
        repeat (first | (apply oF hops (by rfl) (by first | exact .plain rfl | exact .y hops rfl rfl rfl rfl);(focus (intro x hx;go_simp;rfl));go_simp) | (apply oS hops (by rfl) (by first | exact .n hops rfl rfl rfl rfl | exact .u hops rfl rfl rfl rfl);go_simp) | (apply oP hops (by rfl) (by first | exact .n hops rfl rfl rfl rfl | exact .u hops rfl rfl rfl rfl) (by assumption);go_simp))
        refine oA hops (by rfl) (by first | exact .plain rfl | exact .y hops rfl rfl rfl rfl) (fun K hK=>?_)
        obtain ⟨a3,g3,x3,hcv3,hf3,hv3⟩:=bytes_of x9 nm (by omega)
        have HX3:=Lib.hid hv3
        have HF3:=Lib.hid hf3
        clear hv3 hf3
        go_wp2_with fail
        clear hcv3
        have E12:=Lib.hid (Ev.of HF3.out E11.out.lt)
        have G12:=Lib.hid HF3.out
        have HV3:=Lib.hid (BV.keep (HX3.out.new E11.out.lt))
        refine ⟨_,fun _ h=>h,(E4.out.trans (E11.out.trans E12.out)).fr,?_⟩
        go_simp
        repeat (first | (apply oF hops (by rfl) (by first | exact .plain rfl | exact .y hops rfl rfl rfl rfl);(focus (intro x hx;go_simp;rfl));go_simp) | (apply oS hops (by rfl) (by first | exact .n hops rfl rfl rfl rfl | exact .u hops rfl rfl rfl rfl);go_simp) | (apply oP hops (by rfl) (by first | exact .n hops rfl rfl rfl rfl | exact .u hops rfl rfl rfl rfl) (by assumption);go_simp))
        refine oA hops (by rfl) (by first | exact .plain rfl | exact .y hops rfl rfl rfl rfl) (fun K hK=>?_)
        go_wp2_with fail
        refine (wireBytes_any _ _ a3 g3 nm (HV3.out _ _ (Ev.refl E12.out.lt)) (by omega)).mono ?_
        rintro e u13 ⟨a4,g4,rfl,hfr,hv4⟩
        have E13:=Lib.hid (Ev.of hfr E12.out.lt)
        have G13:=Lib.hid hfr
        clear hfr
        refine hK _ _ ⟨_,fun _ h=>h,(E4.out.trans (E11.out.trans (E12.out.trans E13.out))).fr,?_⟩
        clear hK
        go_simp
        have HV4:=Lib.hid (BV.keep (hv4.new E12.out.lt))
        clear hv4
        repeat (first | (apply oF hops (by rfl) (by first | exact .plain rfl | exact .y hops rfl rfl rfl rfl);(focus (intro x hx;go_simp;rfl));go_simp) | (apply oS hops (by rfl) (by first | exact .n hops rfl rfl rfl rfl | exact .u hops rfl rfl rfl rfl);go_simp) | (apply oP hops (by rfl) (by first | exact .n hops rfl rfl rfl rfl | exact .u hops rfl rfl rfl rfl) (by assumption);go_simp))
        refine oA hops (by rfl) (by first | exact .plain rfl | exact .y hops rfl rfl rfl rfl) (fun K hK=>?_)
        refine wp_append_vec _ _ _ _ rfl rfl (HB.out.vec.frN (G3.out.andN (G4.out.andN (G11.out.andN (G12.out.andN G13.out))))) _ _ _ Tryz.underlying27 inf_u8 rfl _ (lenBytes nm).length _ rfl (((HV4.out _ _ (Ev.refl E13.out.lt))).src Tryz.underlying27) (by unfold maxLen;omega) (by omega) ?_
        intro a5 g5 x5 hv5 hf5 _
        have EA:=Lib.hid (Ev.grow hf5 E13.out.lt)
        have HV5:=Lib.hid hv5
        clear hv5 hf5
        refine hK _ _ ⟨_,fun _ h=>h,(E4.out.trans (E11.out.trans (E12.out.trans (E13.out.trans EA.out)))).fr,?_⟩
        clear hK
        go_simp
        repeat (first | (apply oF hops (by rfl) (by first | exact .plain rfl | exact .y hops rfl rfl rfl rfl);(focus (intro x hx;go_simp;rfl));go_simp) | (apply oS hops (by rfl) (by first | exact .n hops rfl rfl rfl rfl | exact .u hops rfl rfl rfl rfl);go_simp) | (apply oP hops (by rfl) (by first | exact .n hops rfl rfl rfl rfl | exact .u hops rfl rfl rfl rfl) (by assumption);go_simp))
        refine oA hops (by rfl) (by first | exact .plain rfl | exact .y hops rfl rfl rfl rfl) (fun K hK=>?_)
        refine wp_append_vec _ _ _ _ rfl rfl (HV5.out.frN (Fr.refl nob _)) _ _ _ Tryz.underlying27 inf_u8 rfl _ 1 _ rfl (((HV9.out _ _ (E12.out.trans (E13.out.trans EA.out)))).src Tryz.underlying27) (by unfold maxLen;omega) (by omega) ?_
        intro a6 g6 x6 hv6 hf6 _
        have EC:=Lib.hid (Ev.grow hf6 EA.out.lt)
        have HV6:=Lib.hid (show BV _ x6 a6 g6 (pre++lenBytes nm++[kb]) by unfold BV;rw[List.length_append,List.length_append,bv_append,bv_append];exact hv6)
        clear hv6 hf6
        refine hK _ _ ⟨_,fun _ h=>h,(E4.out.trans (E11.out.trans (E12.out.trans (E13.out.trans (EA.out.trans EC.out))))).fr,?_⟩
        clear hK
        go_simp
        repeat (first | (apply oF hops (by rfl) (by first | exact .plain rfl | exact .y hops rfl rfl rfl rfl);(focus (intro x hx;go_simp;rfl));go_simp) | (apply oS hops (by rfl) (by first | exact .n hops rfl rfl rfl rfl | exact .u hops rfl rfl rfl rfl);go_simp) | (apply oP hops (by rfl) (by first | exact .n hops rfl rfl rfl rfl | exact .u hops rfl rfl rfl rfl) (by assumption);go_simp))
        apply wpOrd_nil
        go_wp2_with fail
        go_roundw
        case rel=>exact ⟨k+1,_,a6,g6,by go_num,by rw[HN.out];simp;omega,by omega,by rw[HN.out];exact HV6.out,(HEV.out.trans (E3.out.trans (E4.out.trans (E11.out.trans (E12.out.trans (E13.out.trans (EA.out.trans EC.out)))))))⟩
        case measure=>simp[intOf];omega
    · obtain rfl:k=s.length:=by omega
      rw[schemaPre_all] at HB ⊢
      go_wp2_with fail
      go_ret2
      rw[HW.out,H1.out]
      exact ⟨ao,co,rfl,(HEV.out).toN,HB.out.mono (HEV.out).news⟩
 · have hw:schemaW s=[]:=by unfold schemaW;rw[if_neg h1]
   have HW:=Lib.hid hw
   have d1:=intne h1
   clear hw h1
   go_wp2_with fail
   go_ret2
   rw[HW.out]
   exact ⟨none,0,rfl,(E1.out).toN,BV.nil _ _⟩
end Go.Proofs.YtibpkfnfcdbiiaaGreatDoor
