/- Contract of slices.symMergeCmpFunc. Contract of slices.symMergeCmpFunc, of any two sorted parts. Rows of sorted pieces. No program in sight. Contract of slices.stableCmpFunc and SortStableFunc. Contracts of slices.Clone of pairs and of cells. The order by which zset.Collect sorts. -/
import Derived.Test.YtibpkfnfcdbiiaaGreatDoorBunF
import Derived.Test.YtibpkfnfcdbiiaaGreatDoorBunD
namespace Go.Proofs.YtibpkfnfcdbiiaaGreatDoor
set_option linter.unusedSimpArgs false
open Go.RowKit
set_option linter.unusedVariables false
set_option maxRecDepth 100000 in
set_option maxHeartbeats 16000000 in
theorem symMerge_step (bx k:Nat) (V:Elt→Prop) (cf:Elt→Elt→Int) (O:Ordr V cf) (IH:SymSpec bx V cf k) (w:World) (b off cap:Nat) (A B L R d:List Elt) (N a m e:Nat) (hk:L.length+R.length=k+1) (hl0:2≤L.length) (hr0:2≤R.length) (hd:EV w b off cap d) (he:d=A++(L++(R++B))) (hN:N=d.length) (ha:a=A.length) (hm:m=a+L.length) (hb:e=m+R.length)
 (hV:∀z∈L++R,V z) (hL:Srt cf L) (hR:Srt cf R) (hlen:N≤1099511627776) (hc:CmpC bx V cf b w):
 Calls Tryz.prog 131 #[.slice (some ⟨b,off,none⟩) N cap, .int .i64 a, .int .i64 m, .int .i64 e,cmpV bx] w
  fun r w' =>r= .returned (.tuple #[])∧(∃X',X'.Perm (L++R)∧Srt cf X' ∧EV w' b off cap (A++(X' ++B)))∧Fr (fun k=>k=b) w w' :=by
 have hNe:e≤N:=by subst hN he hb hm ha;simp only[List.length_append];omega
 obtain ⟨ll,hll⟩:∃ll,ll=L.length:=⟨_,rfl⟩
 obtain ⟨rl,hrl⟩:∃rl,rl=R.length:=⟨_,rfl⟩
 have hVi:∀i x,a≤i→i<e→d[i]? =some x→V x:=fun i x h1 h2 hx=>hV x (by
  rw[he,List.getElem?_append_right (by omega),←List.append_assoc,List.getElem?_append_left (by simp;omega)] at hx
  exact List.mem_of_getElem? hx)
 rw[←hll] at hl0 hm hk
 rw[←hrl] at hr0 hb hk
 have s1:IntKind.i64.wrap ((m:Int) - a)=(ll:Int):=i64_nat _ _ (by omega) (by omega)
 have s1' :((ll:Int) == 1)=false:=by rw[beq_eq_false_iff_ne];omega
 have s2:IntKind.i64.wrap ((e:Int) - m)=(rl:Int):=i64_nat _ _ (by omega) (by omega)
 have s2' :((rl:Int) == 1)=false:=by rw[beq_eq_false_iff_ne];omega
 obtain ⟨mid,hmid⟩:∃mid,mid=(a+e) / 2:=⟨_,rfl⟩
 obtain ⟨t1,t2,t3,t4⟩:=halve hmid (by omega)
 obtain ⟨n,hn⟩:∃n,n=mid+m:=⟨_,rfl⟩
 have s3:IntKind.i64.wrap ((mid:Int)+m)=(n:Int):=i64_nat _ _ (by omega) (by omega)
 obtain ⟨n1,hn1⟩:∃n1,n1=n - 1:=⟨_,rfl⟩
 have s4:IntKind.i64.wrap ((n:Int) - 1)=(n1:Int):=i64_nat _ _ (by omega) (by omega)
 obtain ⟨ne,hne⟩:∃ne,ne=n - e:=⟨_,rfl⟩
 obtain ⟨ae,hae⟩:∃ae,ae=a+e:=⟨_,rfl⟩
 have u1:a<mid:=by omega
 have u2:mid<e:=by omega
 obtain ⟨s0,r0,hs0⟩:∃s0 r0,(mid<m∧s0=n - e∧r0=mid)∨(m≤mid∧s0=a∧r0=m):=by
  by_cases h:mid<m
  · exact ⟨_,_,Or.inl ⟨h,rfl,rfl⟩⟩
  · exact ⟨_,_,Or.inr ⟨by omega,rfl,rfl⟩⟩
 have v1:a≤s0:=by omega
 have v2:s0≤r0:=by omega
 have v3:r0≤m:=by omega
 have v4:n - s0≤e:=by omega
 have v5:m≤n - r0:=by omega
 have v6:r0≤mid:=by omega
 have HH:=Lib.hid hs0
 have HND:=Lib.hid hn
 have HN1:=Lib.hid hn1
 rw[←hae] at t1 t2 t3
 unfold cmpV
 have HE:=Lib.hid hd
 have HDD:=Lib.hid he
 have HN:=Lib.hid hN
 have HA:=Lib.hid ha
 have HM:=Lib.hid hm
 have HB:=Lib.hid hb
 have HLL:=Lib.hid hll
 have HRL:=Lib.hid hrl
 have HV:=Lib.hid hV
 have HVI:=Lib.hid hVi
 have HL:=Lib.hid hL
 have HR:=Lib.hid hR
 have HC:=Lib.hid hc
 have HK:=Lib.hid hk
 have HMID:=Lib.hid hmid
 have HIH:=Lib.hid IH
 clear hd he hN ha hm hb hV hVi hL hR hc hll hrl hk hmid hae hn hn1 IH
 have hsr:(mid<m∧IntKind.i64.wrap ((n:Int) - e)=(s0:Int)∧r0=mid)∨(¬mid<m∧s0=a∧r0=m):=by
  have:=HND.out
  have:=HMID.out
  rcases hs0 with ⟨h1,h2,h3⟩ | h
  · exact Or.inl ⟨h1,i64_nat _ _ (by omega) (by omega),h3⟩
  · exact Or.inr ⟨by omega,h.2⟩
 clear hs0 hne ne
 go_enter Tryz.func131,Tryz.ntmps131
 rcases hsr with ⟨hmm,w1,w2⟩ | ⟨hmm,w1,w2⟩
 all_goals
  have W1:=Lib.hid w2
  go_wp2_with fail
  go_loopw [20,21,23] (fun v20 v21 v23 wr=>SrchSt cf d n s0 r0 w v20 v21 wr) (fun v20 v21 _ _=>(intOf v21).toNat - (intOf v20).toNat)
  case atStart=>exact ⟨s0,r0,by first | rfl | (rw[w1]),by rw[W1.out],v2,Nat.le_refl _,Nat.le_refl _,Or.inl rfl,Or.inl rfl,Fr.refl _ _⟩
  case round=>
   obtain ⟨s,r,rfl,rfl,hsr,hs0,hr0',hl1,hr1,hf⟩:=hrel
   have HL1:=Lib.hid hl1
   have HR1:=Lib.hid hr1
   clear hl1 hr1 w1 w2
   by_cases hlt:s<r
   · obtain ⟨c,hcc⟩:∃c,c=(s+r) / 2:=⟨_,rfl⟩
     obtain ⟨x1,x2,x3,x4⟩:=halve hcc (by omega)
     have hsc:s≤c:=by omega
     have hcr:c<r:=by omega
     obtain ⟨pc,hpc⟩:∃pc,pc=n1 - c:=⟨_,rfl⟩
     have x5:IntKind.i64.wrap ((n1:Int) - c)=(pc:Int):=i64_nat _ _ (by have:=HN1.out;have:=HND.out;omega) (by have:=HN1.out;have:=HND.out;omega)
     have hcN:c<N:=by omega
     have hpN:pc<N:=by have:=HN1.out;omega
     have hpa:a≤pc:=by have:=HN1.out;have:=HND.out;have:=HA.out;have:=HM.out;omega
     have hpe:pc<e:=by have:=HN1.out;omega
     obtain ⟨u,hu⟩:∃u,d[c]? =some u:=⟨_,List.getElem?_eq_getElem (by rw[←HN.out];exact hcN)⟩
     obtain ⟨v,hv⟩:∃v,d[pc]? =some v:=⟨_,List.getElem?_eq_getElem (by rw[←HN.out];exact hpN)⟩
     have hVu:V u:=HVI.out c u (by omega) (by omega) hu
     have hVv:V v:=HVI.out pc v hpa hpe hv
     obtain ⟨c0,c1,z0,z1⟩:=(HE.out.frN hf).cells (i:=c) (by rw[←HN.out];exact hcN)
     obtain ⟨d0,d1,y0,y1⟩:=(HE.out.frN hf).cells (i:=pc) (by rw[←HN.out];exact hpN)
     rw[(List.getElem?_eq_some_iff.1 hu).2] at c0 c1
     rw[(List.getElem?_eq_some_iff.1 hv).2] at d0 d1
     have hcall:=fun q (hq:Fr nob wr q)=>HC.out v u hVv hVu q (hf.andN hq).any
     have q0:∀q,Fr nob wr q→q.cell? ⟨b,off+c*2,none⟩=some (.slice u.a u.p.row.length u.c):=fun v hv=>hv.cell c0 id
     have q1:∀q,Fr nob wr q→q.cell? ⟨b,off+c*2+1,none⟩=some (.int .i64 u.p.weight):=fun v hv=>hv.cell c1 id
     have q2:∀q,Fr nob wr q→q.cell? ⟨b,off+pc*2,none⟩=some (.slice v.a v.p.row.length v.c):=fun v hv=>hv.cell d0 id
     have q3:∀q,Fr nob wr q→q.cell? ⟨b,off+pc*2+1,none⟩=some (.int .i64 v.p.weight):=fun v hv=>hv.cell d1 id
     unfold eltVal at hcall
     obtain ⟨cv,hcv⟩:∃cv,cv=cf v u:=⟨_,rfl⟩
     rw[←hcv] at hcall
     have HCV:=Lib.hid hcv
     have HU:=Lib.hid hu
     have HVV:=Lib.hid hv
     have HPC:=Lib.hid hpc
     obtain ⟨ij,hij⟩:∃ij,ij=s+r:=⟨_,rfl⟩
     rw[←hij] at x1 x2 x3
     clear hcc hcv hij c0 c1 z0 z1 d0 d1 y0 y1 hVu hVv hu hv hpc
     go_wp2_with fail
     refine wp_region_ord [(0,true),(1,true),(2,true),(3,true),(4,true),(5,true),(6,true),(7,true),(8,true),(9,true),(10,true),(11,false),(12,true),(13,true)] (Fr nob _) rfl (by kernel_rfl) (by kernel_rfl) (by decide) (fun c a d v w h=>by cases d<;>exact h) ((Fr.refl nob _).drew) (fun ops hops hS=>?_)
     repeat (first | (apply oF hops (by rfl) (by first | exact .plain rfl | exact .y hops rfl rfl rfl rfl);(focus (intro x hx;go_simp;rfl));go_simp) | (apply oS hops (by rfl) (by first | exact .n hops rfl rfl rfl rfl | exact .u hops rfl rfl rfl rfl);go_simp) | (apply oP hops (by rfl) (by first | exact .n hops rfl rfl rfl rfl | exact .u hops rfl rfl rfl rfl) (by assumption);go_simp))
     refine oA hops (by rfl) (by first | exact .plain rfl | exact .y hops rfl rfl rfl rfl) (fun K hK=>?_)
     go_wp2_with fail
     refine (hcall _ (Fr.refl nob wr).drew).mono ?_
     rintro q w4 ⟨rfl,hf4⟩
     have g4:Fr nob wr w4:=(Fr.refl nob wr).drew.andN hf4
     refine hK _ _ ⟨_,fun _ h=>h,g4,?_⟩
     clear hK
     go_simp
     repeat (first | (apply oF hops (by rfl) (by first | exact .plain rfl | exact .y hops rfl rfl rfl rfl);(focus (intro x hx;go_simp;rfl));go_simp) | (apply oS hops (by rfl) (by first | exact .n hops rfl rfl rfl rfl | exact .u hops rfl rfl rfl rfl);go_simp) | (apply oP hops (by rfl) (by first | exact .n hops rfl rfl rfl rfl | exact .u hops rfl rfl rfl rfl) (by assumption);go_simp))
     apply wpOrd_nil
     by_cases hlt4:cv<0
     · have dl:¬(!decide (cv<0))=true:=by simp[hlt4]
       go_wp2_with fail
       go_roundw
       case rel=>show SrchSt _ _ _ _ _ _ _ _ _;exact ⟨s,c,rfl,rfl,hsc,hs0,by omega,HL1.out,Or.inr ⟨u,v,HU.out,by have:=HPC.out;have:=HN1.out;rw[show n - 1 - c=pc by omega];exact HVV.out,by rw[←HCV.out];exact hlt4⟩,hf.andN g4⟩
       case measure=>simp[intOf];omega
     · have dl:¬(!decide (cv<0))=false:=by simp;omega
       go_wp2_with fail
       go_roundw
       case rel=>show SrchSt _ _ _ _ _ _ _ _ _;exact ⟨c+1,r,by go_num,rfl,by omega,by omega,hr0',Or.inr ⟨u,v,by rw[Nat.add_sub_cancel];exact HU.out,by have:=HPC.out;have:=HN1.out;have:=HND.out;rw[show n - (c+1)=pc by omega];exact HVV.out,by rw[←HCV.out];omega⟩,HR1.out,hf.andN g4⟩
       case measure=>simp[intOf];omega
   · obtain rfl:s=r:=by omega
     obtain ⟨en,hen⟩:∃en,en=n - s:=⟨_,rfl⟩
     have x5:IntKind.i64.wrap ((n:Int) - s)=(en:Int):=i64_nat _ _ (by have:=HND.out;omega) (by have:=HND.out;omega)
     have e1:a≤s:=by omega
     have e2:s≤m:=by omega
     have e3:m≤en:=by omega
     have e4:en≤e:=by omega
     have e5:s≤mid:=by omega
     have e6:mid≤en:=by have:=HND.out;omega
     have HVL:=Lib.hid (fun x (hx:x∈L)=>HV.out x (List.mem_append.2 (Or.inl hx)))
     have HVR:=Lib.hid (fun x (hx:x∈R)=>HV.out x (List.mem_append.2 (Or.inr hx)))
     have hcut:=sym_cut (cf:=cf) HDD.out HA.out (by rw[HM.out,HLL.out]) (by rw[HB.out,HRL.out]) e1 e2 e3 e4
      (by
       rcases HL1.out with h | ⟨u,v,hu,hv,hc⟩
       · rcases HH.out with ⟨h1,h2,h3⟩ | ⟨h1,h2,h3⟩
         · right;left;have:=HND.out;have:=HMID.out;omega
         · left;omega
       · by_cases h0:s=s0
         · rcases HH.out with ⟨h1,h2,h3⟩ | ⟨h1,h2,h3⟩
           · right;left;have:=HND.out;have:=HMID.out;omega
           · left;omega
         · right;right
           rw[←hen] at hv
           by_cases h9:en=e
           · omega
           · exact ⟨u,v,hu,hv,O.le_of_not (HVI.out en v (by omega) (by omega) hv) (HVI.out (s - 1) u (by omega) (by omega) hu) (by omega)⟩)
      (by
       rcases HR1.out with h | ⟨u,v,hu,hv,hc⟩
       · rcases HH.out with ⟨h1,h2,h3⟩ | ⟨h1,h2,h3⟩
         · left;have:=HND.out;omega
         · right;left;omega
       · right;right
         exact ⟨u,v,hu,by rw[show en - 1=n - 1 - s by omega];exact hv,by omega⟩)
     have hcut' :=hcut
     have C:=Lib.hid (⟨O,HDD.out,HN.out,hlen,HA.out,by rw[HM.out,HLL.out],by rw[HB.out,HRL.out],e1,e2,e3,e4,by have:=HND.out;omega,u1,u2,HV.out,HL.out,HR.out,hcut'⟩:Cut cf V A L R B d N a m e s en mid)
     have HX:=Lib.hid (HE.out.frN hf)
     have HF:=Lib.hid (hf.any (T:=fun k=>k=b))
     have HK' :=Lib.hid (show L.length+R.length=k+1 by rw[←HLL.out,←HRL.out];exact HK.out)
     clear hcut hcut' hen hf HL1 HR1 HV HL HR HDD HND HN1 HVL HVR HE HH HVI
     have z1:¬s<s:=by omega
     by_cases a0:s<m
     · by_cases b0:m<en
       · have hc:=C.out.stA_call (bx:=bx) HX.out a0 b0
         unfold cmpV at hc
         go_wp2_with fail
         refine hc.mono ?_
         rintro r wn ⟨rfl,hS,hF⟩
         replace HF:=Lib.hid (HF.out.trans' hF)
         have HS:=Lib.hid hS
         clear hc hS hF HX
         by_cases a1:a<s
         · by_cases b1:s<mid
           · have hc:=C.out.stB_call HK'.out HIH.out HS.out (HC.out.later HF.out) a1 b1
             unfold cmpV at hc
             go_wp2_with fail
             refine hc.mono ?_
             rintro r wn ⟨rfl,hS,hF⟩
             replace HF:=Lib.hid (HF.out.trans' hF)
             replace HS:=Lib.hid hS
             clear hc hS hF
             by_cases a2:mid<en
             · by_cases b2:en<e
               · have hc:=C.out.stC_call HK'.out HIH.out HS.out (HC.out.later HF.out) a2 b2
                 unfold cmpV at hc
                 go_wp2_with fail
                 refine hc.mono ?_
                 rintro r wn ⟨rfl,hS,hF⟩
                 replace HF:=Lib.hid (HF.out.trans' hF)
                 replace HS:=Lib.hid hS
                 clear hc hS hF
                 go_wp2_with fail
                 go_end0
                 exact ⟨rfl,HS.out,HF.out⟩
               · replace HS:=Lib.hid (C.out.stC_none HS.out (Or.inr (by have:=C.out.hmid;omega)))
                 go_wp2_with fail
                 go_end0
                 exact ⟨rfl,HS.out,HF.out⟩
             · replace HS:=Lib.hid (C.out.stC_none HS.out (Or.inl (by have:=C.out.hmid;omega)))
               go_wp2_with fail
               go_end0
               exact ⟨rfl,HS.out,HF.out⟩
           · replace HS:=Lib.hid (C.out.stB_none HS.out (Or.inr (by have:=C.out.hmid;omega)))
             by_cases a2:mid<en
             · by_cases b2:en<e
               · have hc:=C.out.stC_call HK'.out HIH.out HS.out (HC.out.later HF.out) a2 b2
                 unfold cmpV at hc
                 go_wp2_with fail
                 refine hc.mono ?_
                 rintro r wn ⟨rfl,hS,hF⟩
                 replace HF:=Lib.hid (HF.out.trans' hF)
                 replace HS:=Lib.hid hS
                 clear hc hS hF
                 go_wp2_with fail
                 go_end0
                 exact ⟨rfl,HS.out,HF.out⟩
               · replace HS:=Lib.hid (C.out.stC_none HS.out (Or.inr (by have:=C.out.hmid;omega)))
                 go_wp2_with fail
                 go_end0
                 exact ⟨rfl,HS.out,HF.out⟩
             · replace HS:=Lib.hid (C.out.stC_none HS.out (Or.inl (by have:=C.out.hmid;omega)))
               go_wp2_with fail
               go_end0
               exact ⟨rfl,HS.out,HF.out⟩
         · replace HS:=Lib.hid (C.out.stB_none HS.out (Or.inl (by have:=C.out.hmid;omega)))
           by_cases a2:mid<en
           · by_cases b2:en<e
             · have hc:=C.out.stC_call HK'.out HIH.out HS.out (HC.out.later HF.out) a2 b2
               unfold cmpV at hc
               go_wp2_with fail
               refine hc.mono ?_
               rintro r wn ⟨rfl,hS,hF⟩
               replace HF:=Lib.hid (HF.out.trans' hF)
               replace HS:=Lib.hid hS
               clear hc hS hF
               go_wp2_with fail
               go_end0
               exact ⟨rfl,HS.out,HF.out⟩
             · replace HS:=Lib.hid (C.out.stC_none HS.out (Or.inr (by have:=C.out.hmid;omega)))
               go_wp2_with fail
               go_end0
               exact ⟨rfl,HS.out,HF.out⟩
           · replace HS:=Lib.hid (C.out.stC_none HS.out (Or.inl (by have:=C.out.hmid;omega)))
             go_wp2_with fail
             go_end0
             exact ⟨rfl,HS.out,HF.out⟩
       · have HS:=Lib.hid (C.out.stA_none HX.out (Or.inr (by have:=C.out.hmid;omega)))
         by_cases a1:a<s
         · by_cases b1:s<mid
           · have hc:=C.out.stB_call HK'.out HIH.out HS.out (HC.out.later HF.out) a1 b1
             unfold cmpV at hc
             go_wp2_with fail
             refine hc.mono ?_
             rintro r wn ⟨rfl,hS,hF⟩
             replace HF:=Lib.hid (HF.out.trans' hF)
             replace HS:=Lib.hid hS
             clear hc hS hF
             by_cases a2:mid<en
             · by_cases b2:en<e
               · have hc:=C.out.stC_call HK'.out HIH.out HS.out (HC.out.later HF.out) a2 b2
                 unfold cmpV at hc
                 go_wp2_with fail
                 refine hc.mono ?_
                 rintro r wn ⟨rfl,hS,hF⟩
                 replace HF:=Lib.hid (HF.out.trans' hF)
                 replace HS:=Lib.hid hS
                 clear hc hS hF
                 go_wp2_with fail
                 go_end0
                 exact ⟨rfl,HS.out,HF.out⟩
               · replace HS:=Lib.hid (C.out.stC_none HS.out (Or.inr (by have:=C.out.hmid;omega)))
                 go_wp2_with fail
                 go_end0
                 exact ⟨rfl,HS.out,HF.out⟩
             · replace HS:=Lib.hid (C.out.stC_none HS.out (Or.inl (by have:=C.out.hmid;omega)))
               go_wp2_with fail
               go_end0
               exact ⟨rfl,HS.out,HF.out⟩
           · replace HS:=Lib.hid (C.out.stB_none HS.out (Or.inr (by have:=C.out.hmid;omega)))
             by_cases a2:mid<en
             · by_cases b2:en<e
               · have hc:=C.out.stC_call HK'.out HIH.out HS.out (HC.out.later HF.out) a2 b2
                 unfold cmpV at hc
                 go_wp2_with fail
                 refine hc.mono ?_
                 rintro r wn ⟨rfl,hS,hF⟩
                 replace HF:=Lib.hid (HF.out.trans' hF)
                 replace HS:=Lib.hid hS
                 clear hc hS hF
                 go_wp2_with fail
                 go_end0
                 exact ⟨rfl,HS.out,HF.out⟩
               · replace HS:=Lib.hid (C.out.stC_none HS.out (Or.inr (by have:=C.out.hmid;omega)))
                 go_wp2_with fail
                 go_end0
                 exact ⟨rfl,HS.out,HF.out⟩
             · replace HS:=Lib.hid (C.out.stC_none HS.out (Or.inl (by have:=C.out.hmid;omega)))
               go_wp2_with fail
               go_end0
               exact ⟨rfl,HS.out,HF.out⟩
         · replace HS:=Lib.hid (C.out.stB_none HS.out (Or.inl (by have:=C.out.hmid;omega)))
           by_cases a2:mid<en
           · by_cases b2:en<e
             · have hc:=C.out.stC_call HK'.out HIH.out HS.out (HC.out.later HF.out) a2 b2
               unfold cmpV at hc
               go_wp2_with fail
               refine hc.mono ?_
               rintro r wn ⟨rfl,hS,hF⟩
               replace HF:=Lib.hid (HF.out.trans' hF)
               replace HS:=Lib.hid hS
               clear hc hS hF
               go_wp2_with fail
               go_end0
               exact ⟨rfl,HS.out,HF.out⟩
             · replace HS:=Lib.hid (C.out.stC_none HS.out (Or.inr (by have:=C.out.hmid;omega)))
               go_wp2_with fail
               go_end0
               exact ⟨rfl,HS.out,HF.out⟩
           · replace HS:=Lib.hid (C.out.stC_none HS.out (Or.inl (by have:=C.out.hmid;omega)))
             go_wp2_with fail
             go_end0
             exact ⟨rfl,HS.out,HF.out⟩
     · have HS:=Lib.hid (C.out.stA_none HX.out (Or.inl (by have:=C.out.hmid;omega)))
       by_cases a1:a<s
       · by_cases b1:s<mid
         · have hc:=C.out.stB_call HK'.out HIH.out HS.out (HC.out.later HF.out) a1 b1
           unfold cmpV at hc
           go_wp2_with fail
           refine hc.mono ?_
           rintro r wn ⟨rfl,hS,hF⟩
           replace HF:=Lib.hid (HF.out.trans' hF)
           replace HS:=Lib.hid hS
           clear hc hS hF
           by_cases a2:mid<en
           · by_cases b2:en<e
             · have hc:=C.out.stC_call HK'.out HIH.out HS.out (HC.out.later HF.out) a2 b2
               unfold cmpV at hc
               go_wp2_with fail
               refine hc.mono ?_
               rintro r wn ⟨rfl,hS,hF⟩
               replace HF:=Lib.hid (HF.out.trans' hF)
               replace HS:=Lib.hid hS
               clear hc hS hF
               go_wp2_with fail
               go_end0
               exact ⟨rfl,HS.out,HF.out⟩
             · replace HS:=Lib.hid (C.out.stC_none HS.out (Or.inr (by have:=C.out.hmid;omega)))
               go_wp2_with fail
               go_end0
               exact ⟨rfl,HS.out,HF.out⟩
           · replace HS:=Lib.hid (C.out.stC_none HS.out (Or.inl (by have:=C.out.hmid;omega)))
             go_wp2_with fail
             go_end0
             exact ⟨rfl,HS.out,HF.out⟩
         · replace HS:=Lib.hid (C.out.stB_none HS.out (Or.inr (by have:=C.out.hmid;omega)))
           by_cases a2:mid<en
           · by_cases b2:en<e
             · have hc:=C.out.stC_call HK'.out HIH.out HS.out (HC.out.later HF.out) a2 b2
               unfold cmpV at hc
               go_wp2_with fail
               refine hc.mono ?_
               rintro r wn ⟨rfl,hS,hF⟩
               replace HF:=Lib.hid (HF.out.trans' hF)
               replace HS:=Lib.hid hS
               clear hc hS hF
               go_wp2_with fail
               go_end0
               exact ⟨rfl,HS.out,HF.out⟩
             · replace HS:=Lib.hid (C.out.stC_none HS.out (Or.inr (by have:=C.out.hmid;omega)))
               go_wp2_with fail
               go_end0
               exact ⟨rfl,HS.out,HF.out⟩
           · replace HS:=Lib.hid (C.out.stC_none HS.out (Or.inl (by have:=C.out.hmid;omega)))
             go_wp2_with fail
             go_end0
             exact ⟨rfl,HS.out,HF.out⟩
       · replace HS:=Lib.hid (C.out.stB_none HS.out (Or.inl (by have:=C.out.hmid;omega)))
         by_cases a2:mid<en
         · by_cases b2:en<e
           · have hc:=C.out.stC_call HK'.out HIH.out HS.out (HC.out.later HF.out) a2 b2
             unfold cmpV at hc
             go_wp2_with fail
             refine hc.mono ?_
             rintro r wn ⟨rfl,hS,hF⟩
             replace HF:=Lib.hid (HF.out.trans' hF)
             replace HS:=Lib.hid hS
             clear hc hS hF
             go_wp2_with fail
             go_end0
             exact ⟨rfl,HS.out,HF.out⟩
           · replace HS:=Lib.hid (C.out.stC_none HS.out (Or.inr (by have:=C.out.hmid;omega)))
             go_wp2_with fail
             go_end0
             exact ⟨rfl,HS.out,HF.out⟩
         · replace HS:=Lib.hid (C.out.stC_none HS.out (Or.inl (by have:=C.out.hmid;omega)))
           go_wp2_with fail
           go_end0
           exact ⟨rfl,HS.out,HF.out⟩
theorem symMerge_all (bx:Nat) (V:Elt→Prop) (cf:Elt→Elt→Int) (O:Ordr V cf):∀k,SymSpec bx V cf k
 | 0=>fun w b off cap A B L R d N a m e hk hl hr=>by omega
 | k+1=>fun w b off cap A B L R d N a m e hk hl hr hd he hN ha hm hb hV hL hR hlen hc=>by
   by_cases hk' :L.length+R.length≤k
   · exact symMerge_all bx V cf O k w b off cap A B L R d N a m e hk' hl hr hd he hN ha hm hb hV hL hR hlen hc
   by_cases h1:L.length=1
   · obtain ⟨x,rfl⟩:=List.length_eq_one_iff.1 h1
     exact symMerge_left w b off cap bx V cf O A B R d x N a m e hd (by rw[he];rfl) hN ha (by rw[hm];rfl) hb hV hR hlen hc
   by_cases h2:R.length=1
   · obtain ⟨y,rfl⟩:=List.length_eq_one_iff.1 h2
     refine (symMerge_right w b off cap bx V cf O A B L d y N a m e hd (by rw[he];rfl) hN ha hm (by rw[hb];rfl) h1 (fun z hz=>hV z (by simp only[List.mem_cons,List.mem_append,List.not_mem_nil,or_false] at hz ⊢;exact hz.symm)) hL hlen hc).mono ?_
     rintro r w' ⟨rfl,⟨X,hX,sX,hE⟩,hf⟩
     exact ⟨rfl,⟨X,hX.trans (List.perm_append_comm (l₁:=[y])),sX,hE⟩,hf⟩
   · exact symMerge_step bx k V cf O (symMerge_all bx V cf O k) w b off cap A B L R d N a m e (by omega) (by omega) (by omega) hd he hN ha hm hb hV hL hR hlen hc
def Cks {α:Type} (cf:α→α→Int) (z:Nat) (d:List α):Prop:=∀j,Srt cf ((d.drop (j*z)).take z)
section
variable {α:Type} {cf:α→α→Int} {z t:Nat} {D X:List α}
theorem cks_nil:Cks cf z ([]:List α):=fun j=>by simp[Srt]
theorem cks_snoc (h:Cks cf z D) (hD:D.length=t*z) (hX:Srt cf X) (hl:X.length≤z):Cks cf z (D++X):=fun j=>by
 by_cases h1:j<t
 · have h2:j*z+z≤t*z:=by rw[←Nat.succ_mul];exact Nat.mul_le_mul_right _ h1
   rw[List.drop_append_of_le_length (by omega),List.take_append_of_le_length (by rw[List.length_drop];omega)]
   exact h j
 · have h2:t*z≤j*z:=Nat.mul_le_mul_right _ (by omega)
   rw[List.drop_append,List.drop_of_length_le (by omega),List.nil_append]
   by_cases h3:j=t
   · rw[hD,h3,Nat.sub_self,List.drop_zero,List.take_of_length_le hl]
     exact hX
   · have h4:(t+1)*z≤j*z:=Nat.mul_le_mul_right _ (by omega)
     rw[Nat.succ_mul] at h4
     rw[List.drop_of_length_le (by omega)]
     simp[Srt]
theorem cks_head (h:Cks cf z D):Srt cf (D.take z):=by
 have:=h 0
 rwa [Nat.zero_mul,List.drop_zero] at this
theorem cks_tail (h:Cks cf z D):Cks cf z (D.drop z):=fun j=>by
 have:=h (j+1)
 rw[List.drop_drop,Nat.add_comm,←Nat.succ_mul]
 exact this
theorem cks_whole (h:Cks cf z D) (hl:D.length≤z):Srt cf D:=by
 have:=cks_head h
 rwa [List.take_of_length_le hl] at this
end
def Half (cf:Elt→Elt→Int) (Q:List Elt→Prop) (Z:Nat) (w wr:World) (b off cap:Nat) (d:List Elt) (a:Nat):Prop:=
 ∃(D R:List Elt) (t:Nat),EV wr b off cap (D++R)∧(D++R).Perm d∧D.length=a∧a=t*Z∧Cks cf Z D∧Q R∧Fr (fun k=>k=b) w wr
def Done (cf:Elt→Elt→Int) (Z:Nat) (w wr:World) (b off cap:Nat) (d:List Elt):Prop:=
 ∃D:List Elt,EV wr b off cap D∧D.Perm d∧Cks cf Z D∧Fr (fun k=>k=b) w wr
section
variable {w wr:World} {b off cap bx a e m z N:Nat} {V:Elt→Prop} {cf:Elt→Elt→Int} {d:List Elt}
set_option maxRecDepth 100000 in
theorem Half.ins (O:Ordr V cf) (h:Half cf (fun _=>True) 20 w wr b off cap d a) (hV:∀x∈d,V x) (hN:N=d.length) (hlen:N≤1099511627776) (hc:CmpC bx V cf b w) (he:e=a+20) (heN:e≤N):
 Calls Tryz.prog 130 #[.slice (some ⟨b,off,none⟩) N cap, .int .i64 a, .int .i64 e,cmpV bx] wr
  fun r w' =>r= .returned (.tuple #[])∧Half cf (fun _=>True) 20 w w' b off cap d e:=by
 obtain ⟨D,R,t,hE,hp,hD,ht,hk,_,hf⟩:=h
 have hl:=hp.length_eq
 rw[List.length_append] at hl
 refine (insSort_any wr b off cap bx V cf O D (R.drop 20) (R.take 20) _ N a e hE (by rw[List.take_append_drop]) (by rw[hN,List.length_append];omega) hD.symm (by rw[List.length_take];omega) (fun x hx=>hV x (hp.mem_iff.1 (List.mem_append.2 (Or.inr (List.mem_of_mem_take hx))))) hlen (hc.later hf)).mono ?_
 rintro r w' ⟨rfl,⟨X,hX,sX,hE1⟩,hf1⟩
 have hXl:=hX.length_eq
 rw[List.length_take] at hXl
 refine ⟨rfl,D++X,R.drop 20,t+1,by simpa using hE1,?_,by rw[List.length_append];omega,by omega,cks_snoc hk (by rw[hD,ht]) sX (by omega),trivial,hf.trans' hf1⟩
 refine List.Perm.trans ?_ hp
 rw[List.append_assoc]
 refine List.Perm.append_left _ ?_
 refine (List.Perm.append_right _ hX).trans ?_
 rw[List.take_append_drop]
set_option maxRecDepth 100000 in
theorem Half.insLast (O:Ordr V cf) (h:Half cf (fun _=>True) 20 w wr b off cap d a) (hV:∀x∈d,V x) (hN:N=d.length) (hlen:N≤1099511627776) (hc:CmpC bx V cf b w) (he:N<a+20):
 Calls Tryz.prog 130 #[.slice (some ⟨b,off,none⟩) N cap, .int .i64 a, .int .i64 N,cmpV bx] wr
  fun r w' =>r= .returned (.tuple #[])∧Done cf 20 w w' b off cap d:=by
 obtain ⟨D,R,t,hE,hp,hD,ht,hk,_,hf⟩:=h
 have hl:=hp.length_eq
 rw[List.length_append] at hl
 refine (insSort_any wr b off cap bx V cf O D [] R _ N a N hE (by rw[List.append_nil]) (by rw[hN,List.length_append];omega) hD.symm (by omega) (fun x hx=>hV x (hp.mem_iff.1 (List.mem_append.2 (Or.inr hx)))) hlen (hc.later hf)).mono ?_
 rintro r w' ⟨rfl,⟨X,hX,sX,hE1⟩,hf1⟩
 have hXl:=hX.length_eq
 exact ⟨rfl,D++X,by simpa using hE1,(List.Perm.append_left _ hX).trans hp,cks_snoc hk (by rw[hD,ht]) sX (by omega),hf.trans' hf1⟩
theorem Done.start (h:Done cf z w wr b off cap d):Half cf (Cks cf z) (2*z) w wr b off cap d 0:=by
 obtain ⟨D,hE,hp,hk,hf⟩:=h
 exact ⟨[],D,0,hE,hp,rfl,by rw[Nat.zero_mul],cks_nil,hk,hf⟩
set_option maxRecDepth 100000 in
theorem Half.mrg (O:Ordr V cf) (h:Half cf (Cks cf z) (2*z) w wr b off cap d a) (hV:∀x∈d,V x) (hN:N=d.length) (hlen:N≤1099511627776) (hc:CmpC bx V cf b w) (hz:0<z) (hm:m=a+z) (he:e=a+2*z) (heN:e≤N):
 Calls Tryz.prog 131 #[.slice (some ⟨b,off,none⟩) N cap, .int .i64 a, .int .i64 m, .int .i64 e,cmpV bx] wr
  fun r w' =>r= .returned (.tuple #[])∧Half cf (Cks cf z) (2*z) w w' b off cap d e:=by
 obtain ⟨D,R,t,hE,hp,hD,ht,hk,hq,hf⟩:=h
 have hl:=hp.length_eq
 rw[List.length_append] at hl
 have hsp:R=R.take z++((R.drop z).take z++(R.drop z).drop z):=by rw[List.take_append_drop,List.take_append_drop]
 refine (symMerge_all bx V cf O _ wr b off cap D ((R.drop z).drop z) (R.take z) ((R.drop z).take z) _ N a m e (Nat.le_refl _) (by rw[List.length_take];omega) (by rw[List.length_take,List.length_drop];omega) hE (by rw[←hsp]) (by rw[hN,List.length_append];omega) hD.symm (by rw[List.length_take];omega) (by rw[List.length_take,List.length_drop];omega) (fun x hx=>hV x (hp.mem_iff.1 (List.mem_append.2 (Or.inr (by
  rcases List.mem_append.1 hx with h | h
  · exact List.mem_of_mem_take h
  · exact List.mem_of_mem_drop (List.mem_of_mem_take h)))))) (cks_head hq) (cks_head (cks_tail hq)) hlen (hc.later hf)).mono ?_
 rintro r w' ⟨rfl,⟨X,hX,sX,hE1⟩,hf1⟩
 have hXl:=hX.length_eq
 simp only[List.length_append,List.length_take,List.length_drop] at hXl
 refine ⟨rfl,D++X,(R.drop z).drop z,t+1,by simpa using hE1,?_,by rw[List.length_append];omega,by rw[he,ht];exact (Nat.succ_mul _ _).symm,cks_snoc hk (by rw[hD,ht]) sX (by omega),cks_tail (cks_tail hq),hf.trans' hf1⟩
 refine List.Perm.trans ?_ hp
 rw[List.append_assoc]
 refine List.Perm.append_left _ ?_
 refine (List.Perm.append_right _ hX).trans ?_
 rw[List.append_assoc,←hsp]
set_option maxRecDepth 100000 in
theorem Half.mrgLast (O:Ordr V cf) (h:Half cf (Cks cf z) (2*z) w wr b off cap d a) (hV:∀x∈d,V x) (hN:N=d.length) (hlen:N≤1099511627776) (hc:CmpC bx V cf b w) (hz:0<z) (hm:m=a+z) (hmN:m<N) (he:N<a+2*z):
 Calls Tryz.prog 131 #[.slice (some ⟨b,off,none⟩) N cap, .int .i64 a, .int .i64 m, .int .i64 N,cmpV bx] wr
  fun r w' =>r= .returned (.tuple #[])∧Done cf (2*z) w w' b off cap d:=by
 obtain ⟨D,R,t,hE,hp,hD,ht,hk,hq,hf⟩:=h
 have hl:=hp.length_eq
 rw[List.length_append] at hl
 refine (symMerge_all bx V cf O _ wr b off cap D [] (R.take z) (R.drop z) _ N a m N (Nat.le_refl _) (by rw[List.length_take];omega) (by rw[List.length_drop];omega) hE (by rw[List.append_nil,List.take_append_drop]) (by rw[hN,List.length_append];omega) hD.symm (by rw[List.length_take];omega) (by rw[List.length_drop];omega) (fun x hx=>hV x (hp.mem_iff.1 (List.mem_append.2 (Or.inr (by
  rwa [List.take_append_drop] at hx))))) (cks_head hq) (cks_whole (cks_tail hq) (by rw[List.length_drop];omega)) hlen (hc.later hf)).mono ?_
 rintro r w' ⟨rfl,⟨X,hX,sX,hE1⟩,hf1⟩
 have hXl:=hX.length_eq
 rw[List.take_append_drop] at hX hXl
 exact ⟨rfl,D++X,by simpa using hE1,(List.Perm.append_left _ hX).trans hp,cks_snoc hk (by rw[hD,ht]) sX (by omega),hf.trans' hf1⟩
theorem Half.last (h:Half cf (Cks cf z) (2*z) w wr b off cap d a) (hN:N=d.length) (hm:m=a+z) (hmN:N≤m):Done cf (2*z) w wr b off cap d:=by
 obtain ⟨D,R,t,hE,hp,hD,ht,hk,hq,hf⟩:=h
 have hl:=hp.length_eq
 rw[List.length_append] at hl
 exact ⟨D++R,hE,hp,cks_snoc hk (by rw[hD,ht]) (cks_whole hq (by omega)) (by omega),hf⟩
end
set_option maxRecDepth 100000 in
set_option maxHeartbeats 4000000 in
theorem stable_any (w:World) (b off cap bx:Nat) (V:Elt→Prop) (cf:Elt→Elt→Int) (O:Ordr V cf) (d:List Elt) (N:Nat) (hd:EV w b off cap d) (hN:N=d.length) (hV:∀x∈d,V x) (hlen:N≤1099511627776) (hc:CmpC bx V cf b w):
 Calls Tryz.prog 98 #[.slice (some ⟨b,off,none⟩) N cap, .int .i64 N,cmpV bx] w
  fun r w' =>r= .returned (.tuple #[])∧(∃X,X.Perm d∧Srt cf X∧EV w' b off cap X)∧Fr (fun k=>k=b) w w' :=by
 have HS:=Lib.hid (⟨[],d,0,hd,List.Perm.refl _,rfl,rfl,cks_nil,trivial,Fr.refl _ _⟩:Half cf (fun _=>True) 20 w w b off cap d 0)
 have HN:=Lib.hid hN
 have HV:=Lib.hid hV
 have HC:=Lib.hid hc
 clear hd hN hV hc
 unfold cmpV
 go_enter Tryz.func98,Tryz.ntmps98
 go_wp2_with fail
 go_loopw [7,8] (fun v7 v8 wr=>∃a:Nat,v7= .int .i64 a∧v8= .int .i64 (a+20:Nat)∧a≤N∧Half cf (fun _=>True) 20 w wr b off cap d a) (fun v7 _ _=>N - (intOf v7).toNat)
 case atStart=>exact ⟨0,rfl,rfl,Nat.zero_le _,HS.out⟩
 case round=>
  obtain ⟨a,rfl,rfl,haN,hst⟩:=hrel
  obtain ⟨e,he⟩:∃e,e=a+20:=⟨_,rfl⟩
  rw[←he]
  have HST:=Lib.hid hst
  have HE:=Lib.hid he
  clear hst
  by_cases hle:e≤N
  · have hcall:=HST.out.ins O HV.out HN.out hlen HC.out he hle
    unfold cmpV at hcall
    have t1:IntKind.i64.wrap ((e:Int)+20)=((e+20:Nat):Int):=i64_nat _ _ (by omega) (by omega)
    clear he
    go_wp2_with fail
    refine hcall.mono ?_
    rintro r w1 ⟨rfl,hS⟩
    have HS1:=Lib.hid hS
    clear hS hcall
    go_wp2_with fail
    go_roundw
    case rel=>exact ⟨e,rfl,by try go_num,hle,HS1.out⟩
    case measure=>have:=HE.out;simp[intOf];omega
  · have hcall:=HST.out.insLast O HV.out HN.out hlen HC.out (by omega)
    unfold cmpV at hcall
    clear he
    go_wp2_with fail
    refine hcall.mono ?_
    rintro r w1 ⟨rfl,hS⟩
    have HS1:=Lib.hid hS
    clear hS hcall
    go_wp2_with fail
    go_loopw [6,7,8,9] (fun v6 v7 v8 v9 wr=>∃z:Nat,v6= .int .i64 z∧0<z∧z≤2199023255552∧Done cf z w wr b off cap d) (fun v6 _ _ _ _=>N - (intOf v6).toNat)
    case atStart=>exact ⟨20,rfl,by omega,by omega,HS1.out⟩
    case round=>
     obtain ⟨z,rfl,hz,hzl,hdn⟩:=hrel
     by_cases hlt:z<N
     · have HD:=Lib.hid hdn.start
       obtain ⟨z2,hz2⟩:∃z2,z2=2*z:=⟨_,rfl⟩
       have t2:IntKind.i64.wrap ((2:Int)*z)=(z2:Int):=i64_nat _ _ (by omega) (by omega)
       have t2' :IntKind.i64.wrap ((z:Int)*2)=(z2:Int):=i64_nat _ _ (by omega) (by omega)
       rw[←hz2] at HD
       have HZ2:=Lib.hid hz2
       clear hz2 hdn
       go_wp2_with fail
       go_loopw [7,8] (fun v7 v8 wr=>∃a:Nat,v7= .int .i64 a∧v8= .int .i64 (a+z2:Nat)∧a≤N∧Half cf (Cks cf z) z2 w wr b off cap d a) (fun v7 _ _=>N - (intOf v7).toNat)
       case atStart=>exact ⟨0,rfl,by rw[Nat.zero_add],Nat.zero_le _,HD.out⟩
       case round=>
        obtain ⟨a,rfl,rfl,haN,hst⟩:=hrel
        obtain ⟨e,he⟩:∃e,e=a+z2:=⟨_,rfl⟩
        obtain ⟨m,hm⟩:∃m,m=a+z:=⟨_,rfl⟩
        have t3:IntKind.i64.wrap ((a:Int)+z)=(m:Int):=i64_nat _ _ (by omega) (by omega)
        rw[←he]
        have HE:=Lib.hid he
        by_cases hle:e≤N
        · have hcall:=Half.mrg O (by rw[←HZ2.out];exact hst) HV.out HN.out hlen HC.out hz hm (by rw[←HZ2.out];exact he) hle
          rw[←HZ2.out] at hcall
          unfold cmpV at hcall
          have t1:IntKind.i64.wrap ((e:Int)+z2)=((e+z2:Nat):Int):=i64_nat _ _ (by omega) (by have:=HZ2.out;omega)
          clear he hm hst
          go_wp2_with fail
          refine hcall.mono ?_
          rintro r w1 ⟨rfl,hS⟩
          have HS1:=Lib.hid hS
          clear hS hcall
          go_wp2_with fail
          go_roundw
          case rel=>exact ⟨e,rfl,by try go_num,hle,HS1.out⟩
          case measure=>have:=HE.out;have:=HZ2.out;simp[intOf];omega
        · by_cases hmN:m<N
          · have hcall:=Half.mrgLast O (by rw[←HZ2.out];exact hst) HV.out HN.out hlen HC.out hz hm hmN (by rw[←HZ2.out];omega)
            rw[←HZ2.out] at hcall
            unfold cmpV at hcall
            clear he hm hst
            go_wp2_with fail
            refine hcall.mono ?_
            rintro r w1 ⟨rfl,hS⟩
            have HS1:=Lib.hid hS
            clear hS hcall
            go_wp2_with fail
            go_roundw
            case rel=>exact ⟨z2,rfl,by have:=HZ2.out;omega,by have:=HZ2.out;omega,HS1.out⟩
            case measure=>have:=HZ2.out;simp[intOf];omega
          · have HS1:=Lib.hid (Half.last (z:=z) (by rw[←HZ2.out];exact hst) HN.out hm (by omega))
            rw[←HZ2.out] at HS1
            clear he hm hst
            go_wp2_with fail
            go_roundw
            case rel=>exact ⟨z2,rfl,by have:=HZ2.out;omega,by have:=HZ2.out;omega,HS1.out⟩
            case measure=>have:=HZ2.out;simp[intOf];omega
     · go_wp2_with fail
       go_end0
       obtain ⟨D,hE,hp,hk,hf⟩:=hdn
       exact ⟨rfl,⟨D,hp,cks_whole hk (by have:=hp.length_eq;have:=HN.out;omega),hE⟩,hf⟩
set_option maxRecDepth 100000 in
set_option maxHeartbeats 4000000 in
theorem sortStable_any (w:World) (b off cap bx:Nat) (V:Elt→Prop) (cf:Elt→Elt→Int) (O:Ordr V cf) (d:List Elt) (N:Nat) (hd:EV w b off cap d) (hN:N=d.length) (hV:∀x∈d,V x) (hlen:N≤1099511627776) (hc:CmpC bx V cf b w):
 Calls Tryz.prog 56 #[.slice (some ⟨b,off,none⟩) N cap,cmpV bx] w
  fun r w' =>r= .returned (.tuple #[])∧(∃X,X.Perm d∧Srt cf X∧EV w' b off cap X)∧Fr (fun k=>k=b) w w' :=by
 have hcall:=stable_any w b off cap bx V cf O d N hd hN hV hlen hc
 clear hd hN hV hc O
 unfold cmpV at*
 go_enter Tryz.func56,Tryz.ntmps56
 go_wp2_with fail
 refine hcall.mono ?_
 rintro r w1 ⟨rfl,hS⟩
 have HS1:=Lib.hid hS
 clear hS hcall
 go_wp2_with fail
 go_end0
 exact ⟨rfl,HS1.out⟩
set_option maxRecDepth 100000 in
set_option maxHeartbeats 2000000 in
theorem clonePairs_any (S:Nat→Prop) (w:World) (a:Option Addr) (n cap:Nat) (cs:List Value) (h:Vec S w 2 a n cap cs) (hn:n≤1000000):
 Calls Tryz.prog 55 #[.slice a n cap] w fun e w' =>∃a' cap',e= .returned (.slice a' n cap')∧Fr nob w w' ∧Vec (newb w w') w' 2 a' n cap' cs:=by
 have H:=Lib.hid h
 cases a with
 | none=>
   have h0:=h.nil0 rfl
   have h1:=h.le
   obtain rfl:n=0:=by omega
   subst h0
   have hcs:cs=[]:=List.eq_nil_of_length_eq_zero (by have:=h.len;omega)
   subst hcs
   clear h h1
   have kq:=fun (w:World)=>Lib.run_eql_slice_nil (P:=Tryz.prog) w 24 _ none 0 0 0 0 Tryz.underlying24
   go_enter Tryz.func55,Tryz.ntmps55
   go_wp2_with fail
   go_ret
   exact ⟨none,0,by simp,Fr.refl _ _,Vec.nil _ _ _⟩
 | some a=>
   have hf0:Fr nob w (w.alloc (.cells #[] 66 (0,0))):=(Fr.refl nob w).alloc _
   have hs:=(h.frN hf0).src (P:=Tryz.prog) Tryz.underlying24
   have HS:=Lib.hid hs
   clear h hs
   have kq:=fun (w:World)=>Lib.run_eql_slice_nil (P:=Tryz.prog) w 24 _ (some a) n cap 0 0 Tryz.underlying24
   go_enter Tryz.func55,Tryz.ntmps55
   go_wp2_with (at_builtin;refine wpList_append_vec rfl _ _ _ _ rfl rfl (Vec.empty w _ 2) _ _ _ Tryz.underlying24 inf_Pair rfl _ n cs rfl HS.out (by unfold maxLen;omega) (by omega) ?_)
   intro a1 c1 w1 hv1 hf1 _
   go_wp2_with fail
   go_ret
   refine ⟨a1,c1,by simp,frN_newb _ _ hf1,?_⟩
   have h1:=hv1.mono (grow_newb w _ w1 (by simp) hf1.size)
   simpa using h1
set_option maxRecDepth 100000 in
set_option maxHeartbeats 2000000 in
theorem cloneCells_any (S:Nat→Prop) (w:World) (a:Option Addr) (n cap:Nat) (cs:List Value) (h:Vec S w 2 a n cap cs) (hn:n≤1000000):
 Calls Tryz.prog 62 #[.slice a n cap] w fun e w' =>∃a' cap',e= .returned (.slice a' n cap')∧Fr nob w w' ∧Vec (newb w w') w' 2 a' n cap' cs:=by
 have H:=Lib.hid h
 cases a with
 | none=>
   have h0:=h.nil0 rfl
   have h1:=h.le
   obtain rfl:n=0:=by omega
   subst h0
   have hcs:cs=[]:=List.eq_nil_of_length_eq_zero (by have:=h.len;omega)
   subst hcs
   clear h h1
   have kq:=fun (w:World)=>Lib.run_eql_slice_nil (P:=Tryz.prog) w 64 _ none 0 0 0 0 Tryz.underlying64
   go_enter Tryz.func62,Tryz.ntmps62
   go_wp2_with fail
   go_ret
   exact ⟨none,0,by simp,Fr.refl _ _,Vec.nil _ _ _⟩
 | some a=>
   have hf0:Fr nob w (w.alloc (.cells #[] 74 (0,0))):=(Fr.refl nob w).alloc _
   have hs:=(h.frN hf0).src (P:=Tryz.prog) Tryz.underlying64
   have HS:=Lib.hid hs
   clear h hs
   have kq:=fun (w:World)=>Lib.run_eql_slice_nil (P:=Tryz.prog) w 64 _ (some a) n cap 0 0 Tryz.underlying64
   go_enter Tryz.func62,Tryz.ntmps62
   go_wp2_with (at_builtin;refine wpList_append_vec rfl _ _ _ _ rfl rfl (Vec.empty w _ 2) _ _ _ Tryz.underlying64 inf_Cell rfl _ n cs rfl HS.out (by unfold maxLen;omega) (by omega) ?_)
   intro a1 c1 w1 hv1 hf1 _
   go_wp2_with fail
   go_ret
   refine ⟨a1,c1,by simp,frN_newb _ _ hf1,?_⟩
   have h1:=hv1.mono (grow_newb w _ w1 (by simp) hf1.size)
   simpa using h1
set_option maxRecDepth 100000 in
set_option maxHeartbeats 2000000 in
theorem pairCmp_any (S R:Nat→Prop) (w:World) (bx:Nat) (a:Option Addr) (ca:Nat) (s:List Col) (x y:Elt) (hs:SV rCol 2 S w a ca s) (hb:w.cell? ⟨bx,0,none⟩=some (.slice a s.length ca)) (hx:SV rCel 2 R w x.a x.c x.p.row) (hy:SV rCel 2 R w y.a y.c y.p.row) (hL:Laid w) (hl:s.length≤lim) (hlx:x.p.row.length≤lim) (hly:y.p.row.length≤lim):
 Calls Tryz.prog 57 #[eltVal x,eltVal y, .pointer (some ⟨bx,0,none⟩)] w fun e w' =>e= .returned (.int .i64 (rowCmp s x.p.row y.p.row))∧Fr nob w w' :=by
 obtain ⟨x,xa,xc⟩:=x
 obtain ⟨y,ya,yc⟩:=y
 simp only at*
 obtain ⟨e1,e2,f1⟩:=allocs2 w (.cells #[.slice xa x.row.length xc, .int .i64 x.weight] 66 (0,0)) (.cells #[.slice ya y.row.length yc, .int .i64 y.weight] 66 (0,0))
 obtain ⟨w2,hw2⟩:∃w2,w2=(w.alloc (.cells #[.slice xa x.row.length xc, .int .i64 x.weight] 66 (0,0))).alloc (.cells #[.slice ya y.row.length yc, .int .i64 y.weight] 66 (0,0)):=⟨_,rfl⟩
 rw[←hw2] at e1 e2 f1
 have hcmp:=fun v (hv:Fr nob w2 v)=>rowcmp_any S R R v a xa ya ca xc yc s x.row y.row (hs.frN rCol_ok (f1.andN hv)) (hx.frN rCel_ok (f1.andN hv)) (hy.frN rCel_ok (f1.andN hv)) (hL.frN (f1.andN hv)) hl hlx hly
 obtain ⟨z,hz⟩:∃z,z=w.heap.size:=⟨_,rfl⟩
 rw[←hz] at e1 e2
 have k1:=cell_of e1 0
 have k2:=cell_of e2 0
 have k3:=f1.cell hb id
 simp at k1 k2
 rw[hw2] at k1 k2 k3
 rw[hz] at k1 k2
 unfold eltVal
 simp only
 generalize rowCmp s x.row y.row=cm at*
 generalize hwx:x.weight=wx at*
 generalize hwy:y.weight=wy at*
 have HW:=Lib.hid hw2
 clear hs hx hy hL e1 e2 hwx hwy hb hw2 hz
 go_enter Tryz.func57,Tryz.ntmps57
 go_wp2_with fail
 rw[←HW.out]
 refine (hcmp _ (Fr.refl nob w2)).mono ?_
 rintro r w4 ⟨rfl,hf4⟩
 go_wp2_with fail
 go_ret
 exact ⟨rfl,f1.andN hf4⟩
end Go.Proofs.YtibpkfnfcdbiiaaGreatDoor
