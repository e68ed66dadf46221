/- Contracts of slices.Grow and slices.Concat of pairs. Contract of zset.Sum. Sets in plain words: what Check, Collect, Sum and Neg come to. No program in sight. Contracts of entry.Check and entry.Apply. Contract of entry.Apply. -/
import Derived.Test.YtibpkfnfcdbiiaaGreatDoorBunH
import Derived.Lib.AppendZerosOnto
namespace Go.Proofs.YtibpkfnfcdbiiaaGreatDoor
set_option linter.unusedSimpArgs false
open Go.RowKit
set_option linter.unusedVariables false
theorem wpList_append_run {P:Program} {ops:Array Oper} {rest:List Oper} {o:Oper} {ac:Act} {Q:Exit→Act→World→Prop} {w:World} (hgd:o.guard=none) (s x:Operand) (t tx:TypeId)
 (ho:o.op= .call {callee:= .builtin .append,args:=#[s,x],argTypes:=#[t,tx]}) {sv xv v:Value} {w' :World} (hv:ac.eval s=sv) (hx:ac.eval x=xv)
 (hrun:∀ty,(Builtin.append_ #[t,tx] ty #[sv,xv]).run P w= .ok v w') (hK:wpList P ops Q rest (ac.put o.dst v) w'):wpList P ops Q (o::rest) ac w:=by
 refine wpList_plain hgd fun K hK' =>?_
 have hrun:=hrun o.type
 unfold Oper.wp
 simp[execOp,ho,resolve,invoke,builtin,hv,hx,hrun,Result.andThen]
 exact hK' _ _ hK
def pzero:Value:= .agg #[.slice none 0 0, .int .i64 0]
theorem zero_pairs (k:Nat):(Builtin.zeroCells pzero.cells k).size=k*2∧∀u∈(Builtin.zeroCells pzero.cells k).toList,u.oneCell' =true:=by
 have hc:pzero.cells=#[.slice none 0 0, .int .i64 0]:=rfl
 refine ⟨by rw[size_zeroCells,hc];rfl,fun u hu=>?_⟩
 simp only[Builtin.zeroCells,Array.toList_map,List.mem_map] at hu
 obtain ⟨b,_,rfl⟩:=hu
 rw[hc]
 have h:b%2=0∨b%2=1:=by omega
 have hs:(#[Value.slice none 0 0,Value.int .i64 0]:Array Value).size=2:=rfl
 rw[hs]
 rcases h with h | h<;>rw[h]<;>rfl
set_option maxRecDepth 100000 in
set_option maxHeartbeats 2000000 in
theorem growPairs_any (n:Nat) (hn:n≤2000000) (w:World):
 Calls Tryz.prog 103 #[.slice none 0 0, .int .i64 n] w fun e w' =>∃a' cap',e= .returned (.slice a' 0 cap')∧Fr nob w w' ∧Vec (newb w w') w' 2 a' 0 cap' []:=by
 by_cases h0:n=0
 · subst h0
   go_enter Tryz.func103,Tryz.ntmps103
   go_wp2
   go_ret
   exact ⟨none,0,rfl,Fr.refl _ _,Vec.nil _ _ _⟩
 · obtain ⟨i,hi,hz,hsize,hby⟩:=info_parts inf_Pair
   have hz:i.zero=some pzero:=hz
   have hold:(Builtin.firstCells i.size 0 (.slice none 0 0)).run Tryz.prog w.drew= .ok ([]:List Value).toArray w.drew:=run_firstCells_none w.drew i.size 0 0 0
   have hrun:∀ty,(Builtin.append_ #[24,3] ty #[.slice none 0 0, .int .i64 n]).run Tryz.prog w=_:=fun ty=>
    Lib.run_append_grow_zeros w 24 3 ty 66 i pzero .i64 .i64 Tryz.underlying24 Tryz.underlying3 hi hz none 0 0 [] hold n (by omega) (by rw[hsize];omega) (by omega) (by omega) (by rw[hby];omega) (by rw[hby];exact growslice_fits (by omega) (by omega))
   simp only[Nat.zero_add] at hrun
   have hge:=grownCap_ge w n 0 66
   have hle:=grownCap_le_maxLen w n 0 66 (by unfold maxLen;omega)
   obtain ⟨G,hG⟩:∃G,G=grownCap w n 0 66:=⟨_,rfl⟩
   rw[←hG] at hrun hge hle
   obtain ⟨row,hrow⟩:∃row,row=(([]:List Value).toArray++Builtin.zeroCells pzero.cells n++Builtin.zeroCells pzero.cells (G - n)):=⟨_,rfl⟩
   have hrs:row.size=G*2:=by rw[hrow];simp[(zero_pairs n).1,(zero_pairs (G - n)).1];omega
   have hV:Vec (newb w (w.drew.alloc (.cells row 66))) (w.drew.alloc (.cells row 66)) 2 (some ⟨w.heap.size,0,none⟩) n G ((row.toList.take (n*2))):=by
    refine Vec.whole (heap_new w.drew _) ⟨Nat.le_refl _,by simp⟩ hge hle hrs rfl ?_
    intro u hu
    have hu:=List.mem_of_mem_take hu
    rw[hrow] at hu
    simp at hu
    rcases hu with hu | hu
    · exact (zero_pairs n).2 u (by simpa using hu)
    · exact (zero_pairs (G - n)).2 u (by simpa using hu)
   have hrun' :∀ty,(Builtin.append_ #[24,3] ty #[.slice none 0 0, .int .i64 n]).run Tryz.prog w= .ok (.slice (some ⟨w.heap.size,0,none⟩) n G) (w.drew.alloc (.cells row 66)):=fun ty=>by rw[hrow];exact hrun ty
   obtain ⟨w1,hw1⟩:∃w1,w1=w.drew.alloc (.cells row 66):=⟨_,rfl⟩
   have hf1:Fr nob w w1:=hw1 ▸ (Fr.refl nob w).drew.alloc _
   rw[←hw1] at hrun' hV
   obtain ⟨i',hi',hz',hsize',hby'⟩:=info_parts inf_Pair
   obtain ⟨a2,q2,hv2,hn2⟩:=run_slice_vec (P:=Tryz.prog) hV 24 66 i' Tryz.underlying24 hi' hsize' none (some (.int .i64 0)) none 0 0 G (bounds_h .i64 0 0 rfl (by omega)) (Nat.le_refl _) (by omega) (by omega) (by omega)
   simp only[Nat.sub_zero,Nat.zero_mul,List.take_zero] at q2 hv2
   obtain ⟨a1,q1,_,hn1⟩:=run_slice_vec (P:=Tryz.prog) (Vec.nil nob w 2) 24 66 i' Tryz.underlying24 hi' hsize' none (some (.int .i64 0)) none 0 0 0 (bounds_h .i64 0 0 rfl (by omega)) (Nat.le_refl _) (by omega) (by omega) (by omega)
   have e1:=hn1.2.2 rfl
   subst e1
   simp only[Nat.sub_zero] at q1
   clear hold hrun hrow hrs hV hG hi hz hsize hby hi' hz' hsize' hby' hw1 hn1 hn2
   obtain ⟨z,hz⟩:∃z,z=w.heap.size:=⟨_,rfl⟩
   rw[←hz] at q2 hrun'
   clear hz
   have hpos:(0:Int)<n:=by omega
   go_enter Tryz.func103,Tryz.ntmps103
   go_wp2_with (at_builtin;refine wpList_append_run rfl _ _ _ _ rfl rfl rfl hrun' ?_)
   go_wp2
   go_ret
   exact ⟨a2,G,rfl,hf1,hv2⟩
structure PSl where
 a:Option Addr
 cap:Nat
 d:List Elt
def PSl.v (e:PSl):Value:= .slice e.a e.d.length e.cap
def catP (es:List PSl):List Elt:=(es.map PSl.d).flatten
theorem catP_take {es:List PSl} {k:Nat} (h:k<es.length):catP (es.take (k+1))=catP (es.take k)++es[k].d:=by
 unfold catP
 rw[List.take_succ_eq_append_getElem h,List.map_append,List.flatten_append];simp
theorem catP_take_le {es:List PSl} (k:Nat):(catP (es.take k)).length≤(catP es).length:=by
 have:catP es=catP (es.take k)++catP (es.drop k):=by
  unfold catP
  rw[←List.flatten_append,←List.map_append,List.take_append_drop]
 rw[this];simp
theorem vec_get {S:Nat→Prop} {w:World} {a:Option Addr} {n cap:Nat} {cs:List Value} (h:Vec S w 1 a n cap cs) {j:Nat} (hj:j<n):∃b off,a=some ⟨b,off,none⟩∧S b∧w.cell? ⟨b,off+j,none⟩=cs[j]? :=by
 obtain ⟨b,off,e,hS,_,_,r⟩:=h.addr (by have:=h.le;omega)
 exact ⟨b,off,e,hS,r j (by omega)⟩
set_option maxRecDepth 100000 in
set_option maxHeartbeats 2000000 in
theorem concatPairs_any (So S:Nat→Prop) (w:World) (a:Option Addr) (cap:Nat) (es:List PSl) (h:Vec So w 1 a es.length cap (es.map PSl.v)) (hb:∀e∈es,Vec S w 2 e.a e.d.length e.cap (e.d.flatMap eltCells)) (hn:es.length≤1000) (hl:(catP es).length≤1000000):
 Calls Tryz.prog 66 #[.slice a es.length cap] w fun e w' =>∃a' cap',e= .returned (.slice a' (catP es).length cap')∧Fr nob w w' ∧Vec (newb w w') w' 2 a' (catP es).length cap' ((catP es).flatMap eltCells):=by
 have H:=Lib.hid h
 have HB:=Lib.hid hb
 clear h hb
 go_enter Tryz.func66,Tryz.ntmps66
 go_wp2_with fail
 go_loop [3,11] (fun v3 v11=>∃k:Nat,k≤es.length∧v11= .int .i64 k∧v3= .int .i64 ((catP (es.take k)).length:Nat)) (fun _ v11=>es.length - (intOf v11).toNat)
 case atStart=>exact ⟨0,Nat.zero_le _,rfl,rfl⟩
 case round=>
  obtain ⟨k,hk,rfl,rfl⟩:=hrel
  have hle:=catP_take_le (es:=es) k
  by_cases hlt:k<es.length
  · obtain ⟨b,off,rfl,hSb,hc⟩:=vec_get H.out hlt
    have hts:=catP_take hlt
    have hle2:=catP_take_le (es:=es) (k+1)
    have hv:(es.map PSl.v)[k]? =some (.slice es[k].a es[k].d.length es[k].cap):=by simp[hlt,PSl.v]
    rw[hv] at hc
    rw[hts,List.length_append] at hle2
    have hts' :=congrArg List.length hts
    rw[List.length_append] at hts'
    have Hts:=Lib.hid hts'
    generalize (catP (es.take k)).length=c at*
    generalize es[k].d.length=d at*
    generalize (catP es).length=n at*
    clear hts hts' hv
    go_wp2_with fail
    go_round
    case rel=>exact ⟨k+1,by omega,by go_num,by rw[Hts.out];go_num⟩
    case measure=>simp[intOf];omega
  · obtain rfl:k=es.length:=by omega
    rw[List.take_length] at*
    obtain ⟨n,hnn⟩:∃n,n=(catP es).length:=⟨_,rfl⟩
    rw[←hnn] at hl ⊢
    have Hn:=Lib.hid hnn
    clear hnn hle
    go_wp2_with fail
    refine (growPairs_any n (by omega) w).mono ?_
    rintro e w1 ⟨a1,cap1,rfl,hf1,hv1⟩
    go_wp2_with fail
    rw[Hn.out]
    go_loopw [6,27] (fun v6 v27 wr=>∃(k:Nat) (a' :Option Addr) (cap' :Nat),k≤es.length∧v27= .int .i64 k∧v6= .slice a' (catP (es.take k)).length cap' ∧Vec (newb w wr) wr 2 a' (catP (es.take k)).length cap' ((catP (es.take k)).flatMap eltCells)∧Fr nob w wr) (fun _ v27 _=>es.length - (intOf v27).toNat)
    case atStart=>exact ⟨0,a1,cap1,Nat.zero_le _,rfl,rfl,hv1,hf1⟩
    case round=>
     obtain ⟨k,a',cap',hk,rfl,rfl,hv,hf⟩:=hrel
     have hle:=catP_take_le (es:=es) k
     by_cases hlt:k<es.length
     · obtain ⟨b,off,rfl,hSb,hc⟩:=vec_get (H.out.frN hf) hlt
       have hts:=catP_take hlt
       have hle2:=catP_take_le (es:=es) (k+1)
       have hvv:(es.map PSl.v)[k]? =some (.slice es[k].a es[k].d.length es[k].cap):=by simp[hlt,PSl.v]
       rw[hvv] at hc
       have hbk:=(HB.out es[k] (List.getElem_mem hlt)).frN hf
       rw[hts,List.length_append] at hle2
       have hl' :(catP es).length≤1000000:=by rw[←Hn.out];exact hl
       have Hts:=Lib.hid hts
       have HV:=Lib.hid hv
       have HK:=Lib.hid hbk
       obtain ⟨d,hd⟩:∃d,d=es[k].d:=⟨_,rfl⟩
       obtain ⟨c,hcc⟩:∃c,c=catP (es.take k):=⟨_,rfl⟩
       rw[←hd] at hc HK Hts hle2
       rw[←hcc] at HV Hts hle2 ⊢
       clear hts hvv hv hbk hd hcc hle
       go_wp2_with (at_builtin;refine wpList_append_vec rfl _ _ _ _ rfl rfl HV.out _ _ _ Tryz.underlying24 inf_Pair rfl _ d.length (d.flatMap eltCells) rfl (HK.out.src (P:=Tryz.prog) Tryz.underlying24) (by unfold maxLen;omega) (by omega) ?_)
       intro a4 c4 w4 hv4 hf4 _
       have f4:=frN_newb w wr hf4 hf
       have hv4:Vec (newb w w4) w4 2 a4 (catP (es.take (k+1))).length c4 ((catP (es.take (k+1))).flatMap eltCells):=by
        rw[Hts.out,List.length_append,List.flatMap_append]
        exact hv4.mono (grow_newb w wr w4 hf.size hf4.size)
       go_wp2_with fail
       go_roundw
       case rel=>exact ⟨k+1,a4,c4,by omega,by go_num,by rw[Hts.out,List.length_append],hv4,f4⟩
       case measure=>simp[intOf];omega
     · obtain rfl:k=es.length:=by omega
       rw[List.take_length] at*
       go_wp2_with fail
       go_ret
       exact ⟨a',cap',rfl,hf,hv⟩
def Summed (s:List Col) (l r:List Pr) (e:Nat) (out:List Pr):Prop:=
 if zCheck s l≠0 then e=zCheck s l∧out=[] else if zCheck s r≠0 then e=zCheck s r∧out=[] else Collected s (l++r) e out
set_option maxRecDepth 100000 in
set_option maxHeartbeats 4000000 in
theorem zsum_any (S R:Nat→Prop) (w:World) (a b c:Option Addr) (ca cb cc:Nat) (s:List Col) (l r:List Pr) (hs:SV rCol 2 S w a ca s) (hl:SV rPr 2 R w b cb l) (hr:SV rPr 2 R w c cc r) (hL:Laid w) (h0:s.length≤lim) (h1:l.length≤400000) (h2:r.length≤400000) (hS:∀k,S k→k<w.heap.size) (hR:∀k,R k→k<w.heap.size):
 Calls Tryz.prog 20 #[.slice a s.length ca, .slice b l.length cb, .slice c r.length cc] w fun e w' =>∃en out ao co,e= .returned (.tuple #[.slice ao out.length co, .int .i64 (en:Nat)])∧Summed s l r en out∧Fr nob w w' ∧SV rPr 2 (newb w w') w' ao co out∧(en≠0→ao=none∧co=0):=by
 obtain ⟨w1,hw1⟩:∃w1,w1=w.alloc (.cells #[.slice b l.length cb, .slice c r.length cc] 24 (0,0)):=⟨_,rfl⟩
 have hf1:Fr nob w w1:=by rw[hw1];exact (Fr.refl nob w).alloc _
 have ck1:=zcheck_any S R w1 a b ca cb s l (hs.frN rCol_ok hf1) (hl.frN rPr_ok hf1) (hL.frN hf1) h0 (by unfold lim;omega)
 have ck2:=fun v (hv:Fr nob w1 v)=>zcheck_any S R v a c ca cc s r (hs.frN rCol_ok (hf1.andN hv)) (hr.frN rPr_ok (hf1.andN hv)) (hL.frN (hf1.andN hv)) h0 (by unfold lim;omega)
 have hB:=heap_new w (.cells #[.slice b l.length cb, .slice c r.length cc] 24 (0,0))
 have k0:=cell_of hB 0
 have k1:=cell_of hB 1
 simp at k0 k1
 have HB:=Lib.hid hB
 have HS:=Lib.hid hs
 have HL:=Lib.hid hl
 have HR:=Lib.hid hr
 have HLA:=Lib.hid hL
 have HSo:=Lib.hid hS
 have HRo:=Lib.hid hR
 have HLIM:=Lib.hid h0
 have HW:=Lib.hid hw1
 clear hB hs hl hr hL hS hR h0 hw1
 go_enter Tryz.func20,Tryz.ntmps20
 go_wp2_with fail
 rw[←HW.out]
 clear k0 k1
 have K0:=Lib.hid (show w1.cell? ⟨w.heap.size,0,none⟩=some (.slice b l.length cb) by rw[HW.out];rw[cell_of HB.out 0];rfl)
 have K1:=Lib.hid (show w1.cell? ⟨w.heap.size,1,none⟩=some (.slice c r.length cc) by rw[HW.out];rw[cell_of HB.out 1];rfl)
 obtain ⟨z,hz⟩:∃z,z=w.heap.size:=⟨_,rfl⟩
 rw[←hz] at K0 K1 ⊢
 have HZ:=Lib.hid hz
 clear hz
 have CK1:=Lib.hid (fun v (hv:Fr nob w1 v)=>zcheck_any S R v a b ca cb s l (HS.out.frN rCol_ok (hf1.andN hv)) (HL.out.frN rPr_ok (hf1.andN hv)) (HLA.out.frN (hf1.andN hv)) HLIM.out (by unfold lim;omega))
 have CK2:=Lib.hid ck2
 clear ck1 ck2
 go_loopw [15] (fun v15 wr=>∃k:Nat,k≤2∧v15= .int .i64 k∧(0<k→zCheck s l=0)∧(1<k→zCheck s r=0)∧Fr nob w1 wr) (fun v15 _=>2 - (intOf v15).toNat)
 case atStart=>exact ⟨0,by omega,rfl,fun h=>by omega,fun h=>by omega,Fr.refl _ _⟩
 case round=>
  obtain ⟨k,hk,rfl,hz1,hz2,hf⟩:=hrel
  have HF:=Lib.hid hf
  by_cases hk0:k=0
  · subst hk0
    have k0:=hf.cell K0.out id
    have hc:=CK1.out _ hf
    clear hz1 hz2 hf
    by_cases h0:zCheck s l=0
    · rw[h0] at hc
      have H0:=Lib.hid h0
      clear h0
      go_wp2_with fail
      refine hc.mono ?_
      rintro e w2 ⟨rfl,hf2⟩
      clear k0 hc
      go_wp2_with fail
      go_roundw
      case rel=>exact ⟨1,by omega,by go_num,fun _=>H0.out,fun h=>by omega,HF.out.andN hf2⟩
      case measure=>simp[intOf]
    · have HC:=Lib.hid (show Summed s l r (zCheck s l) [] by unfold Summed;rw[if_pos h0];exact ⟨rfl,rfl⟩)
      have d:=intne h0
      clear h0
      generalize zCheck s l=en at hc d HC
      go_wp2_with fail
      refine hc.mono ?_
      rintro e w2 ⟨rfl,hf2⟩
      clear k0 hc
      go_wp2_with fail
      go_ret2
      exact ⟨en,[],none,0,rfl,HC.out,hf1.andN (HF.out.andN hf2),SV.nil _ _ _ _,fun _=>⟨rfl,rfl⟩⟩
  · by_cases hk1:k=1
    · subst hk1
      have k1:=hf.cell K1.out id
      have hc:=CK2.out _ hf
      have HZ1:=Lib.hid (hz1 (by omega))
      clear hz1 hz2 hf
      by_cases h0:zCheck s r=0
      · rw[h0] at hc
        have H0:=Lib.hid h0
        clear h0
        go_wp2_with fail
        refine hc.mono ?_
        rintro e w2 ⟨rfl,hf2⟩
        clear k1 hc
        go_wp2_with fail
        go_roundw
        case rel=>exact ⟨2,by omega,by go_num,fun _=>HZ1.out,fun _=>H0.out,HF.out.andN hf2⟩
        case measure=>simp[intOf]
      · have HC:=Lib.hid (show Summed s l r (zCheck s r) [] by unfold Summed;rw[if_neg (by rw[HZ1.out];omega),if_pos h0];exact ⟨rfl,rfl⟩)
        have d:=intne h0
        clear h0
        generalize zCheck s r=en at hc d HC
        go_wp2_with fail
        refine hc.mono ?_
        rintro e w2 ⟨rfl,hf2⟩
        clear k1 hc
        go_wp2_with fail
        go_ret2
        exact ⟨en,[],none,0,rfl,HC.out,hf1.andN (HF.out.andN hf2),SV.nil _ _ _ _,fun _=>⟨rfl,rfl⟩⟩
    · obtain rfl:k=2:=by omega
      have HZ1:=Lib.hid (hz1 (by omega))
      have HZ2:=Lib.hid (hz2 (by omega))
      have g:=hf1.andN hf
      obtain ⟨d1,hd1,hv1,hr1⟩:=elts_of (HL.out.frN rPr_ok g)
      obtain ⟨d2,hd2,hv2,hr2⟩:=elts_of (HR.out.frN rPr_ok g)
      have l1:d1.length=l.length:=by rw[←hd1];simp
      have l2:d2.length=r.length:=by rw[←hd2];simp
      obtain ⟨w3,hw3⟩:∃w3,w3=wr.alloc (.cells #[.slice b l.length cb, .slice c r.length cc] 24 (0,0)):=⟨_,rfl⟩
      have hf3:Fr nob wr w3:=by rw[hw3];exact (Fr.refl nob wr).alloc _
      have hcat:catP [⟨b,cb,d1⟩,⟨c,cc,d2⟩]=d1++d2:=by simp[catP]
      have hcc:=concatPairs_any (newb wr w3) R w3 (some ⟨wr.heap.size,0,none⟩) 2 [⟨b,cb,d1⟩,⟨c,cc,d2⟩] (by
       rw[hw3]
       have h:=Vec.newrow wr #[.slice b l.length cb, .slice c r.length cc] 24 (size:=1) (n:=2) rfl (by unfold maxLen;omega) (by intro u hu;simp at hu;rcases hu with rfl | rfl<;>rfl)
       simpa [PSl.v,l1,l2] using h) (by
       intro e he
       simp only[List.mem_cons,List.not_mem_nil,or_false] at he
       rcases he with rfl | rfl
       · exact hv1.frN hf3
       · exact hv2.frN hf3) (by simp) (by rw[hcat,List.length_append];omega)
      rw[hcat] at hcc
      have hcc:Calls Tryz.prog 66 #[.slice (some ⟨wr.heap.size,0,none⟩) 2 2] w3 _:=hcc
      have HD:=Lib.hid (⟨hd1,hd2,hr1,hr2,l1,l2,hf3,g⟩:_∧_∧_∧_∧_∧_∧_∧_)
      have HW3:=Lib.hid hw3
      clear hz1 hz2 hf hd1 hd2 hr1 hr2 l1 l2 hv1 hv2 hw3 hf3 g hcat
      go_wp2_with fail
      rw[←HW3.out]
      refine hcc.mono ?_
      rintro e w4 ⟨a4,c4,rfl,hf4,hv4⟩
      clear hcc
      have hg:Fr nob w w4:=by obtain ⟨_,_,_,_,_,_,hf3,g⟩:=HD.out;exact g.andN (hf3.andN hf4)
      have hsv:SV rPr 2 (fun k=>k<w4.heap.size) w4 a4 c4 ((d1++d2).map (·.p)):=by
       obtain ⟨_,_,hr1,hr2,_,_,hf3,g⟩:=HD.out
       refine elts_back (T:=R) hv4 (fun x hx=>?_) _ (fun k h=>h.2) (fun k h=>Nat.lt_of_lt_of_le (HRo.out k h) hg.size)
       rcases List.mem_append.1 hx with hx | hx
       · exact ((hr1 x hx).frN hf3).frN hf4
       · exact ((hr2 x hx).frN hf3).frN hf4
      have hll:((d1++d2).map (·.p))=l++r:=by obtain ⟨hd1,hd2,_⟩:=HD.out;rw[List.map_append,hd1,hd2]
      have hlen:(d1++d2).length=(l++r).length:=by rw[←hll];simp
      rw[hll] at hsv
      have hcol:=collect_any S (fun k=>k<w4.heap.size) w4 a a4 ca c4 s (l++r) (HS.out.frN rCol_ok hg) hsv (HLA.out.frN hg) HLIM.out (by rw[List.length_append];omega) (fun k h=>Nat.lt_of_lt_of_le (HSo.out k h) hg.size) (fun k h=>h)
      rw[hlen]
      have HG:=Lib.hid hg
      clear hsv hll hlen hv4 hf4 hg
      generalize (l++r).length=n at hcol ⊢
      go_wp2_with fail
      refine hcol.mono ?_
      rintro e w5 ⟨en,out,ao,co,rfl,hcol',hf5,hsv5,he0⟩
      have HX:=Lib.hid (⟨hcol',hf5,hsv5,he0⟩:_∧_∧_∧_)
      clear hcol hcol' hf5 hsv5 he0
      go_wp2_with fail
      go_ret2
      obtain ⟨hcol',hf5,hsv5,he0⟩:=HX.out
      refine ⟨en,out,ao,co,rfl,?_,HG.out.andN hf5,hsv5.mono rPr_ok (fun k h=>⟨by have:=h.1;have:=HG.out.size;omega,h.2⟩),he0⟩
      unfold Summed
      rw[if_neg (by rw[HZ1.out];omega),if_neg (by rw[HZ2.out];omega)]
      exact hcol'
theorem sv_ok {S:Nat→Prop} {w:World} {a:Option Addr} {cap:Nat} {l:List Pr} (h:SV rPr 2 S w a cap l):PrOk l:=fun p hp=>by
 obtain ⟨d,rfl,_,hr⟩:=elts_of h
 obtain ⟨x,hx,rfl⟩:=List.mem_map.1 hp
 exact ⟨(hr x hx).1,cels_num (hr x hx).2.2⟩
section
variable {s:List Col} {l r out c:List Pr} {e:Nat}
theorem rowsCheck_append (h1:rowsCheck s l=0) (h2:rowsCheck s r=0):rowsCheck s (l++r)=0:=by
 induction l with
 | nil=>exact h2
 | cons p l ih=>
   simp only[rowsCheck,List.cons_append] at*
   by_cases h0:rowCheck s p.row=0
   · rw[if_pos h0] at h1 ⊢;exact ih h1
   · rw[if_neg h0] at h1;exact absurd h1 h0
theorem rowsCheck_of (h:∀p∈l,rowCheck s p.row=0):rowsCheck s l=0:=by
 induction l with
 | nil=>rfl
 | cons p l ih=>
   simp only[rowsCheck]
   rw[if_pos (h p (by simp))]
   exact ih (fun q hq=>h q (List.mem_cons_of_mem _ hq))
theorem canon_rows (h:Canon s l):rowsCheck s l=0:=rowsCheck_of (fun p hp=>(h.rows p hp).1)
theorem wt_mem {row:List Cel} (h:wt l row≠0):∃p∈l,p.row=row:=by
 apply Classical.byContradiction
 intro hn
 exact h (wt_none (fun p hp e=>hn ⟨p,hp,e⟩))
theorem Canon.wt_at (h:Canon s l) {p:Pr} (hp:p∈l):wt l p.row=p.weight:=by
 induction l with
 | nil=>simp at hp
 | cons q l ih=>
   simp only[wt]
   rcases List.mem_cons.1 hp with rfl | hp
   · rw[if_pos rfl,h.head_none];omega
   · have hne:q.row≠p.row:=fun e=>rowCmp_ne (h.rows q (by simp)) ((List.pairwise_cons.1 h.lt).1 p hp) e.symm
     rw[if_neg hne,ih h.tail hp];omega
theorem Canon.fit (h:Canon s l) (row:List Cel):I64 (wt l row):=by
 by_cases h0:wt l row=0
 · rw[h0];unfold I64;omega
 · obtain ⟨p,hp,rfl⟩:=wt_mem h0
   rw[h.wt_at hp];exact h.i64 p hp
theorem collected_zero (h:Collected s l 0 out):schemaCheck s=0∧rowsCheck s l=0∧Canon s out∧out.length≤1024∧∀row,wt out row=wt l row:=by
 unfold Collected at h
 by_cases h1:schemaCheck s≠0
 · rw[if_pos h1] at h;exact absurd h.1.symm h1
 · rw[if_neg h1] at h
   by_cases h2:rowsCheck s l≠0
   · rw[if_pos h2] at h;exact absurd h.1.symm h2
   · rw[if_neg h2] at h
     rcases h with ⟨_,h,_⟩ | ⟨_,c,hc,hw,h⟩
     · omega
     · rcases h with ⟨_,h,_⟩ | ⟨hl,_,rfl⟩
       · omega
       · exact ⟨by omega,by omega,hc,hl,hw⟩
theorem collected_of (h0:schemaCheck s=0) (hr:rowsCheck s l=0) (hc:Canon s c) (hw:∀row,wt c row=wt l row) (hl:c.length≤1024) (h:Collected s l e out):e=0∧out=c:=by
 unfold Collected at h
 rw[if_neg (by omega),if_neg (by omega)] at h
 rcases h with ⟨⟨row,h⟩,_⟩ | ⟨_,c',hc',hw',h⟩
 · exact absurd (by rw[←hw];exact hc.fit row) h
 · have e:=canon_ext hc' hc (fun row=>by rw[hw,hw'])
   subst e
   rcases h with ⟨h,_⟩ | ⟨_,h1,h2⟩
   · omega
   · exact ⟨h1,h2⟩
theorem collected_det {e' :Nat} {out' :List Pr} (h:Collected s l e out) (h' :Collected s l e' out'):e=e' ∧out=out' :=by
 unfold Collected at h h'
 by_cases h1:schemaCheck s≠0
 · rw[if_pos h1] at h h';exact ⟨h.1.trans h'.1.symm,h.2.trans h'.2.symm⟩
 · rw[if_neg h1] at h h'
   by_cases h2:rowsCheck s l≠0
   · rw[if_pos h2] at h h';exact ⟨h.1.trans h'.1.symm,h.2.trans h'.2.symm⟩
   · rw[if_neg h2] at h h'
     rcases h with ⟨⟨row,hn⟩,h⟩ | ⟨hf,c,hc,hw,h⟩<;>rcases h' with ⟨⟨row',hn'⟩,h'⟩ | ⟨hf',c',hc',hw',h'⟩
     · exact ⟨h.1.trans h'.1.symm,h.2.trans h'.2.symm⟩
     · exact absurd (hf' row) hn
     · exact absurd (hf row') hn'
     · have e:=canon_ext hc hc' (fun row=>by rw[hw,hw'])
       subst e
       rcases h with ⟨g,h⟩ | ⟨g,h⟩<;>rcases h' with ⟨g',h'⟩ | ⟨g',h'⟩
       · exact ⟨h.1.trans h'.1.symm,h.2.trans h'.2.symm⟩
       · omega
       · omega
       · exact ⟨h.1.trans h'.1.symm,h.2.trans h'.2.symm⟩
theorem collected_err (h0:schemaCheck s=0) (hr:rowsCheck s l=0) (h:Collected s l e out):e=0∨e=12∨e=13:=by
 unfold Collected at h
 rw[if_neg (by omega),if_neg (by omega)] at h
 rcases h with ⟨_,h,_⟩ | ⟨_,c,_,_,h⟩
 · exact Or.inr (Or.inl h)
 · rcases h with ⟨_,h,_⟩ | ⟨_,h,_⟩
   · exact Or.inr (Or.inr h)
   · exact Or.inl h
theorem summed_is (h1:zCheck s l=0) (h2:zCheck s r=0):Summed s l r e out↔Collected s (l++r) e out:=by
 unfold Summed
 rw[if_neg (by omega),if_neg (by omega)]
end
theorem collected_len {s:List Col} {l out:List Pr} {e:Nat} (h:Collected s l e out):out.length≤1024∧(e≠0→out=[]):=by
 unfold Collected at h
 split at h
 · rw[h.2];simp
 · split at h
   · rw[h.2];simp
   · rcases h with ⟨_,_,rfl⟩ | ⟨_,c,_,_,h⟩
     · simp
     · rcases h with ⟨_,_,rfl⟩ | ⟨h,h1,rfl⟩
       · simp
       · exact ⟨h,fun h=>absurd h1 h⟩
def entryCheck (s:List Col) (kind seq:Int) (l:List Pr):Nat:=
 if schemaCheck s≠0 then schemaCheck s else if kind<0∨2≤kind then 10 else if seq<0∨281474976710656<seq then 3 else zCheck s l
set_option maxRecDepth 100000 in
set_option maxHeartbeats 4000000 in
theorem entryCheck_any (S R:Nat→Prop) (w:World) (a b:Option Addr) (ca cb:Nat) (s:List Col) (kind seq:Int) (l:List Pr) (hs:SV rCol 2 S w a ca s) (hl:SV rPr 2 R w b cb l) (hL:Laid w) (h0:s.length≤lim) (h1:l.length≤lim):
 Calls Tryz.prog 84 #[.slice a s.length ca, .agg #[.int .i64 kind, .int .i64 seq, .slice b l.length cb]] w fun e w' =>e= .returned (.int .i64 (entryCheck s kind seq l))∧Fr nob w w' :=by
 obtain ⟨w1,hw1⟩:∃w1,w1=w.alloc (.cells #[.int .i64 kind, .int .i64 seq, .slice b l.length cb] 40 (0,0)):=⟨_,rfl⟩
 have hf1:Fr nob w w1:=by rw[hw1];exact (Fr.refl nob w).alloc _
 have hB:=heap_new w (.cells #[.int .i64 kind, .int .i64 seq, .slice b l.length cb] 40 (0,0))
 rw[←hw1] at hB
 have hc:=schema_any S w1 a ca s (hs.frN rCol_ok hf1) (hL.frN hf1) h0
 have HZC:=Lib.hid (fun v (hv:Fr nob w1 v)=>zcheck_any S R v a b ca cb s l (hs.frN rCol_ok (hf1.andN hv)) (hl.frN rPr_ok (hf1.andN hv)) (hL.frN (hf1.andN hv)) h0 h1)
 have HB:=Lib.hid hB
 have HW:=Lib.hid hw1
 obtain ⟨E,hE⟩:∃E,E=entryCheck s kind seq l:=⟨_,rfl⟩
 rw[←hE]
 have HE:=Lib.hid hE
 obtain ⟨z,hz⟩:∃z,z=w.heap.size:=⟨_,rfl⟩
 rw[←hz] at HB
 have HZ:=Lib.hid hz
 clear hs hl hL h0 h1 hB hw1 hE hz
 by_cases hs0:schemaCheck s=0
 · rw[hs0] at hc
   have HE1:=Lib.hid (show E=if kind<0∨2≤kind then 10 else if seq<0∨281474976710656<seq then 3 else zCheck s l by rw[HE.out];unfold entryCheck;rw[if_neg (by omega)])
   clear HE hs0
   by_cases hk:kind<0∨2≤kind
   · have HEE:=Lib.hid (show E=10 by rw[HE1.out,if_pos hk])
     clear HE1
     rcases hk with hk | hk
     · go_enter Tryz.func84,Tryz.ntmps84
       go_wp2_with fail
       rw[←HW.out,←HZ.out]
       refine hc.mono ?_
       rintro e w2 ⟨rfl,hf2⟩
       have k0:w2.cell? ⟨z,0,none⟩=_:=cell_of (hf2.heap HB.out id) 0
       simp at k0
       clear hc
       go_wp2_with fail
       go_ret
       exact ⟨by rw[HEE.out];rfl,hf1.andN hf2⟩
     · have hk' :¬kind<0:=by omega
       go_enter Tryz.func84,Tryz.ntmps84
       go_wp2_with fail
       rw[←HW.out,←HZ.out]
       refine hc.mono ?_
       rintro e w2 ⟨rfl,hf2⟩
       have k0:w2.cell? ⟨z,0,none⟩=_:=cell_of (hf2.heap HB.out id) 0
       simp at k0
       clear hc
       go_wp2_with fail
       go_ret
       exact ⟨by rw[HEE.out];rfl,hf1.andN hf2⟩
   · have HE2:=Lib.hid (show E=if seq<0∨281474976710656<seq then 3 else zCheck s l by rw[HE1.out,if_neg hk])
     have hk1:¬kind<0:=by omega
     have hk2:¬2≤kind:=by omega
     clear HE1 hk
     by_cases hq:seq<0∨281474976710656<seq
     · have HEE:=Lib.hid (show E=3 by rw[HE2.out,if_pos hq])
       clear HE2
       rcases hq with hq | hq
       · go_enter Tryz.func84,Tryz.ntmps84
         go_wp2_with fail
         rw[←HW.out,←HZ.out]
         refine hc.mono ?_
         rintro e w2 ⟨rfl,hf2⟩
         have k0:w2.cell? ⟨z,0,none⟩=_:=cell_of (hf2.heap HB.out id) 0
         have k1:w2.cell? ⟨z,1,none⟩=_:=cell_of (hf2.heap HB.out id) 1
         simp at k0 k1
         clear hc
         go_wp2_with fail
         go_ret
         exact ⟨by rw[HEE.out];rfl,hf1.andN hf2⟩
       · have hq' :¬seq<0:=by omega
         go_enter Tryz.func84,Tryz.ntmps84
         go_wp2_with fail
         rw[←HW.out,←HZ.out]
         refine hc.mono ?_
         rintro e w2 ⟨rfl,hf2⟩
         have k0:w2.cell? ⟨z,0,none⟩=_:=cell_of (hf2.heap HB.out id) 0
         have k1:w2.cell? ⟨z,1,none⟩=_:=cell_of (hf2.heap HB.out id) 1
         simp at k0 k1
         clear hc
         go_wp2_with fail
         go_ret
         exact ⟨by rw[HEE.out];rfl,hf1.andN hf2⟩
     · have HEE:=Lib.hid (show E=zCheck s l by rw[HE2.out,if_neg hq])
       have hq1:¬seq<0:=by omega
       have hq2:¬281474976710656<seq:=by omega
       clear HE2 hq
       go_enter Tryz.func84,Tryz.ntmps84
       go_wp2_with fail
       rw[←HW.out,←HZ.out]
       refine hc.mono ?_
       rintro e w2 ⟨rfl,hf2⟩
       have k0:w2.cell? ⟨z,0,none⟩=_:=cell_of (hf2.heap HB.out id) 0
       have k1:w2.cell? ⟨z,1,none⟩=_:=cell_of (hf2.heap HB.out id) 1
       have k2:w2.cell? ⟨z,2,none⟩=_:=cell_of (hf2.heap HB.out id) 2
       simp at k0 k1 k2
       have hcc:=HZC.out w2 hf2
       clear hc
       go_wp2_with fail
       refine hcc.mono ?_
       rintro e w3 ⟨rfl,hf3⟩
       clear hcc
       go_wp2_with fail
       go_ret
       exact ⟨by rw[HEE.out];rfl,hf1.andN (hf2.andN hf3)⟩
 · have HEE:=Lib.hid (show E=schemaCheck s by rw[HE.out];unfold entryCheck;rw[if_pos hs0])
   have d:=intne hs0
   clear hs0 HE
   go_enter Tryz.func84,Tryz.ntmps84
   go_wp2_with fail
   rw[←HW.out]
   refine hc.mono ?_
   rintro e w2 ⟨rfl,hf2⟩
   clear hc
   go_wp2_with fail
   go_ret
   exact ⟨by rw[HEE.out];rfl,hf1.andN hf2⟩
def Applied (s:List Col) (seq:Int) (view:List Pr) (kind eseq:Int) (l:List Pr) (n:Int) (out:List Pr) (en:Nat):Prop:=
 if zCheck s view≠0 then n=0∧out=[]∧en=zCheck s view
 else if seq<0∨281474976710656<seq then n=0∧out=[]∧en=3
 else if entryCheck s kind eseq l≠0 then n=0∧out=[]∧en=entryCheck s kind eseq l
 else if kind=1 then (if eseq≠seq then n=0∧out=[]∧en=14 else if view=l then n=seq∧out=view∧en=0 else n=0∧out=[]∧en=15)
 else if eseq≠seq+1 then n=0∧out=[]∧en=14
 else Summed s view l en out∧n=(if en=0 then seq+1 else 0)
theorem entryCheck_zero {s:List Col} {kind seq:Int} {l:List Pr} (h:entryCheck s kind seq l=0):schemaCheck s=0∧¬(kind<0∨2≤kind)∧¬(seq<0∨281474976710656<seq)∧zCheck s l=0:=by
 unfold entryCheck at h
 by_cases h1:schemaCheck s≠0
 · rw[if_pos h1] at h;exact absurd h h1
 · rw[if_neg h1] at h
   by_cases h2:kind<0∨2≤kind
   · rw[if_pos h2] at h;omega
   · rw[if_neg h2] at h
     by_cases h3:seq<0∨281474976710656<seq
     · rw[if_pos h3] at h;omega
     · rw[if_neg h3] at h
       exact ⟨by omega,h2,h3,h⟩
set_option maxRecDepth 100000 in
set_option maxHeartbeats 8000000 in
theorem apply_any2 (S R:Nat→Prop) (w:World) (a v b:Option Addr) (ca cv cb:Nat) (s:List Col) (seq:Int) (view:List Pr) (kind eseq:Int) (l:List Pr) (hs:SV rCol 2 S w a ca s) (hv:SV rPr 2 R w v cv view) (hl:SV rPr 2 R w b cb l) (hL:Laid w) (h0:s.length≤lim) (h1:view.length≤lim) (h2:l.length≤lim) (hS:∀k,S k→k<w.heap.size) (hR:∀k,R k→k<w.heap.size) (h64:I64 seq):
 Calls Tryz.prog 112 #[.slice a s.length ca, .int .i64 seq, .slice v view.length cv, .agg #[.int .i64 kind, .int .i64 eseq, .slice b l.length cb]] w fun e w' =>∃n en out ao co,e= .returned (.tuple #[.int .i64 n, .slice ao out.length co, .int .i64 (en:Nat)])∧Applied s seq view kind eseq l n out en∧Fr nob w w' ∧SV rPr 2 (fun k=>R k∨newb w w' k) w' ao co out∧(kind=1→en=0→ao=v∧co=cv):=by
 obtain ⟨w1,hw1⟩:∃w1,w1=w.alloc (.cells #[.int .i64 kind, .int .i64 eseq, .slice b l.length cb] 40 (0,0)):=⟨_,rfl⟩
 have hf1:Fr nob w w1:=by rw[hw1];exact (Fr.refl nob w).alloc _
 have hB:=heap_new w (.cells #[.int .i64 kind, .int .i64 eseq, .slice b l.length cb] 40 (0,0))
 rw[←hw1] at hB
 have hc:=zcheck_any S R w1 a v ca cv s view (hs.frN rCol_ok hf1) (hv.frN rPr_ok hf1) (hL.frN hf1) h0 h1
 have HEC:=Lib.hid (fun u (hu:Fr nob w1 u)=>entryCheck_any S R u a b ca cb s kind eseq l (hs.frN rCol_ok (hf1.andN hu)) (hl.frN rPr_ok (hf1.andN hu)) (hL.frN (hf1.andN hu)) h0 h2)
 have HSM:=Lib.hid (fun u (hu:Fr nob w1 u)=>zsame_any R R u v b cv cb view l (hv.frN rPr_ok (hf1.andN hu)) (hl.frN rPr_ok (hf1.andN hu)) h1 h2)
 have HSU:=Lib.hid (fun u (hu:Fr nob w1 u) h3 h4=>zsum_any S R u a v b ca cv cb s view l (hs.frN rCol_ok (hf1.andN hu)) (hv.frN rPr_ok (hf1.andN hu)) (hl.frN rPr_ok (hf1.andN hu)) (hL.frN (hf1.andN hu)) h0 h3 h4 (fun k h=>Nat.lt_of_lt_of_le (hS k h) (hf1.andN hu).size) (fun k h=>Nat.lt_of_lt_of_le (hR k h) (hf1.andN hu).size))
 have HV:=Lib.hid (fun u (hu:Fr nob w1 u)=>((hv.frN rPr_ok (hf1.andN hu)).mono rPr_ok (fun k h=>Or.inl h):SV rPr 2 (fun k=>R k∨newb w u k) u v cv view))
 have HB:=Lib.hid hB
 have HW:=Lib.hid hw1
 obtain ⟨z,hz⟩:∃z,z=w.heap.size:=⟨_,rfl⟩
 rw[←hz] at HB
 have HZ:=Lib.hid hz
 clear hs hv hl hL h0 h1 h2 hS hR hB hw1 hz
 by_cases z1:zCheck s view=0
 · rw[z1] at hc
   have Z1:=Lib.hid z1
   clear z1
   by_cases q:seq<0∨281474976710656<seq
   · have HA:=Lib.hid (show Applied s seq view kind eseq l 0 [] 3 by unfold Applied;rw[if_neg (by rw[Z1.out];omega),if_pos q];exact ⟨rfl,rfl,rfl⟩)
     rcases q with q | q
     · skip
       go_enter Tryz.func112,Tryz.ntmps112
       go_wp2_with fail
       rw[←HW.out]
       refine hc.mono ?_
       rintro e w2 ⟨rfl,hf2⟩
       have k0:w2.cell? ⟨z,0,none⟩=_:=cell_of (hf2.heap HB.out id) 0
       have k1:w2.cell? ⟨z,1,none⟩=_:=cell_of (hf2.heap HB.out id) 1
       have k2:w2.cell? ⟨z,2,none⟩=_:=cell_of (hf2.heap HB.out id) 2
       simp at k0 k1 k2
       rw[HZ.out] at k0 k1 k2
       clear hc
       go_wp2_with fail
       go_ret3
       exact ⟨0,3,[],none,0,rfl,HA.out,hf1.andN hf2,SV.nil _ _ _ _,fun _ h=>absurd h (by omega)⟩
     · have q' :¬seq<0:=by omega
       go_enter Tryz.func112,Tryz.ntmps112
       go_wp2_with fail
       rw[←HW.out]
       refine hc.mono ?_
       rintro e w2 ⟨rfl,hf2⟩
       have k0:w2.cell? ⟨z,0,none⟩=_:=cell_of (hf2.heap HB.out id) 0
       have k1:w2.cell? ⟨z,1,none⟩=_:=cell_of (hf2.heap HB.out id) 1
       have k2:w2.cell? ⟨z,2,none⟩=_:=cell_of (hf2.heap HB.out id) 2
       simp at k0 k1 k2
       rw[HZ.out] at k0 k1 k2
       clear hc
       go_wp2_with fail
       go_ret3
       exact ⟨0,3,[],none,0,rfl,HA.out,hf1.andN hf2,SV.nil _ _ _ _,fun _ h=>absurd h (by omega)⟩
   · have q1:¬seq<0:=by omega
     have q2:¬281474976710656<seq:=by omega
     have Q:=Lib.hid q
     clear q
     by_cases ec:entryCheck s kind eseq l=0
     · have EC0:=Lib.hid ec
       have hk:=entryCheck_zero ec
       have hlen1:=(zCheck_len Z1.out).2.1
       have hlen2:=(zCheck_len hk.2.2.2).2.1
       clear ec
       by_cases kd:kind=1
       · subst kd
         clear hk
         by_cases es:eseq=seq
         · subst es
           by_cases vw:view=l
           · have HA:=Lib.hid (show Applied s eseq view 1 eseq l eseq view 0 by unfold Applied;rw[if_neg (by rw[Z1.out];omega),if_neg Q.out,if_neg (by rw[EC0.out];omega),if_pos rfl,if_neg (by simp),if_pos vw];exact ⟨rfl,rfl,rfl⟩)
             have VW:=Lib.hid (decide_eq_true vw)
             clear vw
             go_enter Tryz.func112,Tryz.ntmps112
             go_wp2_with fail
             rw[←HW.out]
             refine hc.mono ?_
             rintro e w2 ⟨rfl,hf2⟩
             have k0:w2.cell? ⟨z,0,none⟩=_:=cell_of (hf2.heap HB.out id) 0
             have k1:w2.cell? ⟨z,1,none⟩=_:=cell_of (hf2.heap HB.out id) 1
             have k2:w2.cell? ⟨z,2,none⟩=_:=cell_of (hf2.heap HB.out id) 2
             simp at k0 k1 k2
             rw[HZ.out] at k0 k1 k2
             clear hc
             have hec:=HEC.out w2 hf2
             rw[EC0.out] at hec
             go_wp2_with fail
             refine hec.mono ?_
             rintro e w3 ⟨rfl,hf3⟩
             have k0:=hf3.cell k0 id
             have k1:=hf3.cell k1 id
             have k2:=hf3.cell k2 id
             clear hec
             have g3:=hf2.andN hf3
             have hsm:=HSM.out w3 g3
             rw[VW.out] at hsm
             go_wp2_with fail
             refine hsm.mono ?_
             rintro e w4 ⟨rfl,hf4⟩
             clear hsm
             have g4:=g3.andN hf4
             go_wp2_with fail
             go_ret3
             exact ⟨eseq,0,view,v,cv,rfl,HA.out,hf1.andN g4,HV.out w4 g4,fun _ _=>⟨rfl,rfl⟩⟩
           · have HA:=Lib.hid (show Applied s eseq view 1 eseq l 0 [] 15 by unfold Applied;rw[if_neg (by rw[Z1.out];omega),if_neg Q.out,if_neg (by rw[EC0.out];omega),if_pos rfl,if_neg (by simp),if_neg vw];exact ⟨rfl,rfl,rfl⟩)
             have VW:=Lib.hid (decide_eq_false vw)
             clear vw
             go_enter Tryz.func112,Tryz.ntmps112
             go_wp2_with fail
             rw[←HW.out]
             refine hc.mono ?_
             rintro e w2 ⟨rfl,hf2⟩
             have k0:w2.cell? ⟨z,0,none⟩=_:=cell_of (hf2.heap HB.out id) 0
             have k1:w2.cell? ⟨z,1,none⟩=_:=cell_of (hf2.heap HB.out id) 1
             have k2:w2.cell? ⟨z,2,none⟩=_:=cell_of (hf2.heap HB.out id) 2
             simp at k0 k1 k2
             rw[HZ.out] at k0 k1 k2
             clear hc
             have hec:=HEC.out w2 hf2
             rw[EC0.out] at hec
             go_wp2_with fail
             refine hec.mono ?_
             rintro e w3 ⟨rfl,hf3⟩
             have k0:=hf3.cell k0 id
             have k1:=hf3.cell k1 id
             have k2:=hf3.cell k2 id
             clear hec
             have g3:=hf2.andN hf3
             have hsm:=HSM.out w3 g3
             rw[VW.out] at hsm
             go_wp2_with fail
             refine hsm.mono ?_
             rintro e w4 ⟨rfl,hf4⟩
             clear hsm
             have g4:=g3.andN hf4
             go_wp2_with fail
             go_ret3
             exact ⟨0,15,[],none,0,rfl,HA.out,hf1.andN g4,SV.nil _ _ _ _,fun _ h=>absurd h (by omega)⟩
         · have HA:=Lib.hid (show Applied s seq view 1 eseq l 0 [] 14 by unfold Applied;rw[if_neg (by rw[Z1.out];omega),if_neg Q.out,if_neg (by rw[EC0.out];omega),if_pos rfl,if_pos es];exact ⟨rfl,rfl,rfl⟩)
           have ne:(eseq != seq)=true:=by rw[bne_iff_ne];exact es
           clear es
           go_enter Tryz.func112,Tryz.ntmps112
           go_wp2_with fail
           rw[←HW.out]
           refine hc.mono ?_
           rintro e w2 ⟨rfl,hf2⟩
           have k0:w2.cell? ⟨z,0,none⟩=_:=cell_of (hf2.heap HB.out id) 0
           have k1:w2.cell? ⟨z,1,none⟩=_:=cell_of (hf2.heap HB.out id) 1
           have k2:w2.cell? ⟨z,2,none⟩=_:=cell_of (hf2.heap HB.out id) 2
           simp at k0 k1 k2
           rw[HZ.out] at k0 k1 k2
           clear hc
           have hec:=HEC.out w2 hf2
           rw[EC0.out] at hec
           go_wp2_with fail
           refine hec.mono ?_
           rintro e w3 ⟨rfl,hf3⟩
           have k0:=hf3.cell k0 id
           have k1:=hf3.cell k1 id
           have k2:=hf3.cell k2 id
           clear hec
           have g3:=hf2.andN hf3
           go_wp2_with fail
           go_ret3
           exact ⟨0,14,[],none,0,rfl,HA.out,hf1.andN g3,SV.nil _ _ _ _,fun _ h=>absurd h (by omega)⟩
       · have kne:(kind == 1)=false:=by rw[beq_eq_false_iff_ne];exact kd
         have sw:IntKind.i64.wrap (seq+1)=seq+1:=by rw[IntWalk.i64_in _ (by omega)]
         by_cases es:eseq=seq+1
         · have HA0:=Lib.hid (show ∀en out,Summed s view l en out→Applied s seq view kind eseq l (if en=0 then seq+1 else 0) out en from fun en out h=>by unfold Applied;rw[if_neg (by rw[Z1.out];omega),if_neg Q.out,if_neg (by rw[EC0.out];omega),if_neg kd,if_neg (by simp[es])];exact ⟨h,rfl⟩)
           have ne:(eseq != seq+1)=false:=by simp[es]
           have hnil:∀en out,Summed s view l en out→en≠0→out=[]:=fun en out h hne=>by
            unfold Summed at h
            rw[if_neg (by rw[Z1.out];omega),if_neg (by rw[hk.2.2.2];omega)] at h
            unfold Collected at h
            split at h
            · exact h.2
            · split at h
              · exact h.2
              · rcases h with h | ⟨_,c,_,_,h⟩
                · exact h.2.2
                · rcases h with h | h
                  · exact h.2.2
                  · exact absurd h.2.1 hne
           have HN:=Lib.hid hnil
           clear hnil hk kd es
           go_enter Tryz.func112,Tryz.ntmps112
           go_wp2_with fail
           rw[←HW.out]
           refine hc.mono ?_
           rintro e w2 ⟨rfl,hf2⟩
           have k0:w2.cell? ⟨z,0,none⟩=_:=cell_of (hf2.heap HB.out id) 0
           have k1:w2.cell? ⟨z,1,none⟩=_:=cell_of (hf2.heap HB.out id) 1
           have k2:w2.cell? ⟨z,2,none⟩=_:=cell_of (hf2.heap HB.out id) 2
           simp at k0 k1 k2
           rw[HZ.out] at k0 k1 k2
           clear hc
           have hec:=HEC.out w2 hf2
           rw[EC0.out] at hec
           go_wp2_with fail
           refine hec.mono ?_
           rintro e w3 ⟨rfl,hf3⟩
           have k0:=hf3.cell k0 id
           have k1:=hf3.cell k1 id
           have k2:=hf3.cell k2 id
           clear hec
           have g3:=hf2.andN hf3
           have hsu:=HSU.out w3 g3 (by omega) (by omega)
           go_wp2_with fail
           refine hsu.mono ?_
           rintro e w4 ⟨en,out,ao,co,rfl,hsum,hf4,hsv,he0⟩
           have HX:=Lib.hid (⟨hsum,hf4,hsv,he0⟩:_∧_∧_∧_)
           clear hsu hsum hf4 hsv he0
           by_cases en0:en=0
           · have dz:=inteq en0
             have EN:=Lib.hid en0
             clear en0
             go_wp2_with fail
             go_ret3
             obtain ⟨hsum,hf4,hsv,_⟩:=HX.out
             have h:=HA0.out _ _ hsum
             rw[if_pos EN.out] at h
             exact ⟨seq+1,en,out,ao,co,by rw[EN.out];rfl,h,hf1.andN (g3.andN hf4),hsv.mono rPr_ok (fun k h=>Or.inr ⟨by have:=h.1;have:=(hf1.andN g3).size;omega,h.2⟩),fun h _=>by subst h;simp at kne⟩
           · have dz:=intne en0
             have EN:=Lib.hid en0
             clear en0
             go_wp2_with fail
             go_ret3
             obtain ⟨hsum,hf4,hsv,he0⟩:=HX.out
             have h:=HA0.out _ _ hsum
             rw[if_neg EN.out] at h
             have hn:=HN.out _ _ hsum EN.out
             subst hn
             exact ⟨0,en,[],none,0,rfl,h,hf1.andN (g3.andN hf4),SV.nil _ _ _ _,fun h _=>by subst h;simp at kne⟩
         · have HA:=Lib.hid (show Applied s seq view kind eseq l 0 [] 14 by unfold Applied;rw[if_neg (by rw[Z1.out];omega),if_neg Q.out,if_neg (by rw[EC0.out];omega),if_neg kd,if_pos es];exact ⟨rfl,rfl,rfl⟩)
           have ne:(eseq != seq+1)=true:=by rw[bne_iff_ne];exact es
           clear es kd hk
           go_enter Tryz.func112,Tryz.ntmps112
           go_wp2_with fail
           rw[←HW.out]
           refine hc.mono ?_
           rintro e w2 ⟨rfl,hf2⟩
           have k0:w2.cell? ⟨z,0,none⟩=_:=cell_of (hf2.heap HB.out id) 0
           have k1:w2.cell? ⟨z,1,none⟩=_:=cell_of (hf2.heap HB.out id) 1
           have k2:w2.cell? ⟨z,2,none⟩=_:=cell_of (hf2.heap HB.out id) 2
           simp at k0 k1 k2
           rw[HZ.out] at k0 k1 k2
           clear hc
           have hec:=HEC.out w2 hf2
           rw[EC0.out] at hec
           go_wp2_with fail
           refine hec.mono ?_
           rintro e w3 ⟨rfl,hf3⟩
           have k0:=hf3.cell k0 id
           have k1:=hf3.cell k1 id
           have k2:=hf3.cell k2 id
           clear hec
           have g3:=hf2.andN hf3
           go_wp2_with fail
           go_ret3
           exact ⟨0,14,[],none,0,rfl,HA.out,hf1.andN g3,SV.nil _ _ _ _,fun h _=>by subst h;simp at kne⟩
     · have HA:=Lib.hid (show Applied s seq view kind eseq l 0 [] (entryCheck s kind eseq l) by unfold Applied;rw[if_neg (by rw[Z1.out];omega),if_neg Q.out,if_pos ec];exact ⟨rfl,rfl,rfl⟩)
       have dz:=intne ec
       clear ec
       generalize entryCheck s kind eseq l=ecn at*
       go_enter Tryz.func112,Tryz.ntmps112
       go_wp2_with fail
       rw[←HW.out]
       refine hc.mono ?_
       rintro e w2 ⟨rfl,hf2⟩
       have k0:w2.cell? ⟨z,0,none⟩=_:=cell_of (hf2.heap HB.out id) 0
       have k1:w2.cell? ⟨z,1,none⟩=_:=cell_of (hf2.heap HB.out id) 1
       have k2:w2.cell? ⟨z,2,none⟩=_:=cell_of (hf2.heap HB.out id) 2
       simp at k0 k1 k2
       rw[HZ.out] at k0 k1 k2
       clear hc
       have hec:=HEC.out w2 hf2
       go_wp2_with fail
       refine hec.mono ?_
       rintro e w3 ⟨rfl,hf3⟩
       clear hec
       go_wp2_with fail
       go_ret3
       exact ⟨0,ecn,[],none,0,rfl,HA.out,hf1.andN (hf2.andN hf3),SV.nil _ _ _ _,fun _ h=>by rw[h] at dz;simp at dz⟩
 · have HA:=Lib.hid (show Applied s seq view kind eseq l 0 [] (zCheck s view) by unfold Applied;rw[if_pos z1];exact ⟨rfl,rfl,rfl⟩)
   have dz:=intne z1
   clear z1
   generalize zCheck s view=zc at*
   go_enter Tryz.func112,Tryz.ntmps112
   go_wp2_with fail
   rw[←HW.out]
   refine hc.mono ?_
   rintro e w2 ⟨rfl,hf2⟩
   have k0:w2.cell? ⟨z,0,none⟩=_:=cell_of (hf2.heap HB.out id) 0
   have k1:w2.cell? ⟨z,1,none⟩=_:=cell_of (hf2.heap HB.out id) 1
   have k2:w2.cell? ⟨z,2,none⟩=_:=cell_of (hf2.heap HB.out id) 2
   simp at k0 k1 k2
   rw[HZ.out] at k0 k1 k2
   clear hc
   go_wp2_with fail
   go_ret3
   exact ⟨0,zc,[],none,0,rfl,HA.out,hf1.andN hf2,SV.nil _ _ _ _,fun _ h=>by rw[h] at dz;simp at dz⟩
theorem apply_any (S R:Nat→Prop) (w:World) (a v b:Option Addr) (ca cv cb:Nat) (s:List Col) (seq:Int) (view:List Pr) (kind eseq:Int) (l:List Pr) (hs:SV rCol 2 S w a ca s) (hv:SV rPr 2 R w v cv view) (hl:SV rPr 2 R w b cb l) (hL:Laid w) (h0:s.length≤lim) (h1:view.length≤lim) (h2:l.length≤lim) (hS:∀k,S k→k<w.heap.size) (hR:∀k,R k→k<w.heap.size) (h64:I64 seq):
 Calls Tryz.prog 112 #[.slice a s.length ca, .int .i64 seq, .slice v view.length cv, .agg #[.int .i64 kind, .int .i64 eseq, .slice b l.length cb]] w fun e w' =>∃n en out ao co,e= .returned (.tuple #[.int .i64 n, .slice ao out.length co, .int .i64 (en:Nat)])∧Applied s seq view kind eseq l n out en∧Fr nob w w' ∧SV rPr 2 (fun k=>R k∨newb w w' k) w' ao co out:=
 (apply_any2 S R w a v b ca cv cb s seq view kind eseq l hs hv hl hL h0 h1 h2 hS hR h64).mono (fun e w' ⟨n,en,out,ao,co,he,hc,hf,hsv,_⟩=>⟨n,en,out,ao,co,he,hc,hf,hsv⟩)
end Go.Proofs.YtibpkfnfcdbiiaaGreatDoor
