/- Contract of slices.symMergeCmpFunc, where one of the two parts is one element. Contract of slices.symMergeCmpFunc, where the second part is one element. What symMergeCmpFunc does behind its search: a turn and two merges, each of them only where there is something to do. -/
import Derived.Test.YtibpkfnfcdbiiaaGreatDoorBunE
namespace Go.Proofs.YtibpkfnfcdbiiaaGreatDoor
set_option linter.unusedSimpArgs false
open Go.RowKit
set_option linter.unusedVariables false
theorem halve {i j h:Nat} (hh:h=(i+j) / 2) (hb:i+j≤4611686018427387904):IntKind.i64.wrap ((i:Int)+j)=((i+j:Nat):Int)∧IntKind.u64.wrap ((i+j:Nat):Int)=((i+j:Nat):Int)∧((i+j:Nat):Int) / 2=(h:Int)∧IntKind.i64.wrap (h:Int)=(h:Int):=by
 refine ⟨i64_nat _ _ (by omega) (by omega),IntWalk.u64_in _ (by omega),by omega,i64_nat _ _ rfl (by omega)⟩
set_option maxRecDepth 100000 in
set_option maxHeartbeats 4000000 in
theorem symMerge_left (w:World) (b off cap bx:Nat) (V:Elt→Prop) (cf:Elt→Elt→Int) (O:Ordr V cf) (A B R d:List Elt) (x:Elt) (N a m e:Nat) (hd:EV w b off cap d) (he:d=A++(x::(R++B))) (hN:N=d.length) (ha:a=A.length) (hm:m=a+1) (hb:e=m+R.length) (hV:∀y∈x::R,V y) (hR:Srt cf R) (hlen:N≤1099511627776) (hc:CmpC bx V cf b w):
 Calls Tryz.prog 131 #[.slice (some ⟨b,off,none⟩) N cap, .int .i64 a, .int .i64 m, .int .i64 e,cmpV bx] w
  fun r w' =>r= .returned (.tuple #[])∧(∃X',X'.Perm (x::R)∧Srt cf X' ∧EV w' b off cap (A++(X' ++B)))∧Fr (fun k=>k=b) w w' :=by
 have hNe:e≤N:=by subst hN he hb hm ha;simp only[List.length_append,List.length_cons];omega
 have s1:IntKind.i64.wrap ((m:Int) - a)=1:=by rw[IntWalk.i64_in _ (by omega)];omega
 unfold cmpV
 have HE:=Lib.hid hd
 have HDD:=Lib.hid he
 have HN:=Lib.hid hN
 have HA:=Lib.hid ha
 have HM:=Lib.hid hm
 have HB:=Lib.hid hb
 have HV:=Lib.hid hV
 have HR:=Lib.hid hR
 have HC:=Lib.hid hc
 clear hd he hN ha hm hb hV hR hc
 go_enter Tryz.func131,Tryz.ntmps131
 go_wp2_with fail
 go_loopw [10,11,12] (fun v10 v11 v12 wr=>∃p q:Nat,v10= .int .i64 (m+p:Nat)∧v11= .int .i64 (m+q:Nat)∧p≤q∧m+q≤e∧(p=0∨∃y,R[p - 1]? =some y∧cf y x<0)∧(q=R.length∨∃y,R[q]? =some y∧0≤cf y x)∧Fr nob w wr) (fun v10 v11 _ _=>(intOf v11).toNat - (intOf v10).toNat)
 case atStart=>exact ⟨0,R.length,by go_num,by rw[HB.out],Nat.zero_le _,by have:=HB.out;omega,Or.inl rfl,Or.inl rfl,Fr.refl _ _⟩
 case round=>
  obtain ⟨p,q,rfl,rfl,hpq,hqe,hp1,hq1,hf⟩:=hrel
  have HP1:=Lib.hid hp1
  have HQ1:=Lib.hid hq1
  clear hp1 hq1
  obtain ⟨i,hi⟩:∃i,i=m+p:=⟨_,rfl⟩
  obtain ⟨j,hj⟩:∃j,j=m+q:=⟨_,rfl⟩
  rw[←hi,←hj]
  have HI:=Lib.hid hi
  have HJ:=Lib.hid hj
  by_cases hlt:i<j
  · obtain ⟨h,hh⟩:∃h,h=(i+j) / 2:=⟨_,rfl⟩
    obtain ⟨t1,t2,t3,t4⟩:=halve hh (by omega)
    have hih:i≤h:=by omega
    have hhj:h<j:=by omega
    have hrl:h - m<R.length:=by have:=HB.out;omega
    obtain ⟨y,hy⟩:∃y,R[h - m]? =some y:=⟨_,List.getElem?_eq_getElem hrl⟩
    have hsplit:R=R.take (h - m)++y::R.drop (h - m+1):=by
     have e1:=(List.getElem?_eq_some_iff.1 hy).2
     rw[←e1,←List.drop_eq_getElem_cons hrl,List.take_append_drop]
    obtain ⟨haN,c0,c1,z0,z1⟩:=(HE.out.frN hf).at HDD.out a HA.out
    have hdd2:d=(A++(x::R.take (h - m)))++y::(R.drop (h - m+1)++B):=by
     have e1:R++B=R.take (h - m)++(y::(R.drop (h - m+1)++B)):=(congrArg (· ++B) hsplit).trans (by simp)
     rw[HDD.out,e1]
     simp
    obtain ⟨hhN,d0,d1,y0,y1⟩:=(HE.out.frN hf).at hdd2 h (by have:=HA.out;have:=HM.out;simp;omega)
    rw[←HN.out] at haN hhN
    have hVx:V x:=HV.out x (by simp)
    have hVy:V y:=HV.out y (by rw[hsplit];simp)
    have hcall:=fun v (hv:Fr nob wr v)=>HC.out y x hVy hVx v (hf.andN hv).any
    have q0:∀v,Fr nob wr v→v.cell? ⟨b,off+a*2,none⟩=some (.slice x.a x.p.row.length x.c):=fun v hv=>hv.cell c0 id
    have q1:∀v,Fr nob wr v→v.cell? ⟨b,off+a*2+1,none⟩=some (.int .i64 x.p.weight):=fun v hv=>hv.cell c1 id
    have q2:∀v,Fr nob wr v→v.cell? ⟨b,off+h*2,none⟩=some (.slice y.a y.p.row.length y.c):=fun v hv=>hv.cell d0 id
    have q3:∀v,Fr nob wr v→v.cell? ⟨b,off+h*2+1,none⟩=some (.int .i64 y.p.weight):=fun v hv=>hv.cell d1 id
    unfold eltVal at hcall
    obtain ⟨cv,hcv⟩:∃cv,cv=cf y x:=⟨_,rfl⟩
    rw[←hcv] at hcall
    have HCV:=Lib.hid hcv
    have HY:=Lib.hid hy
    obtain ⟨ij,hij⟩:∃ij,ij=i+j:=⟨_,rfl⟩
    rw[←hij] at t1 t2 t3
    clear hdd2 hi hj hh hy hcv hij c0 c1 z0 z1 d0 d1 y0 y1 hVx hVy
    have HSP:=Lib.hid hsplit
    clear hsplit
    go_wp2_with fail
    refine wp_region_ord [(0,true),(1,true),(2,true),(3,true),(4,true),(5,true),(6,true),(7,true),(8,true),(9,false),(10,true)] (Fr nob _) rfl (by kernel_rfl) (by kernel_rfl) (by decide) (fun c a d v w h=>by cases d<;>exact h) ((Fr.refl nob _).drew) (fun ops hops hS=>?_)
    repeat (first | (apply oF hops (by rfl) (by first | exact .plain rfl | exact .y hops rfl rfl rfl rfl);(focus (intro x hx;go_simp;rfl));go_simp) | (apply oS hops (by rfl) (by first | exact .n hops rfl rfl rfl rfl | exact .u hops rfl rfl rfl rfl);go_simp) | (apply oP hops (by rfl) (by first | exact .n hops rfl rfl rfl rfl | exact .u hops rfl rfl rfl rfl) (by assumption);go_simp))
    refine oA hops (by rfl) (by first | exact .plain rfl | exact .y hops rfl rfl rfl rfl) (fun K hK=>?_)
    go_wp2_with fail
    refine (hcall _ (Fr.refl nob wr).drew).mono ?_
    rintro r w4 ⟨rfl,hf4⟩
    have g4:Fr nob wr w4:=(Fr.refl nob wr).drew.andN hf4
    refine hK _ _ ⟨_,fun _ h=>h,g4,?_⟩
    clear hK
    go_simp
    repeat (first | (apply oF hops (by rfl) (by first | exact .plain rfl | exact .y hops rfl rfl rfl rfl);(focus (intro x hx;go_simp;rfl));go_simp) | (apply oS hops (by rfl) (by first | exact .n hops rfl rfl rfl rfl | exact .u hops rfl rfl rfl rfl);go_simp) | (apply oP hops (by rfl) (by first | exact .n hops rfl rfl rfl rfl | exact .u hops rfl rfl rfl rfl) (by assumption);go_simp))
    apply wpOrd_nil
    by_cases hlt4:cv<0
    · go_wp2_with fail
      go_roundw
      case rel=>exact ⟨h+1 - m,q,by have:=HI.out;rw[show m+(h+1 - m)=h+1 by omega];go_num,by rw[←HJ.out],by have:=HJ.out;omega,hqe,Or.inr ⟨y,by rw[show h+1 - m - 1=h - m by have:=HI.out;omega];exact HY.out,by rw[←HCV.out];exact hlt4⟩,HQ1.out,hf.andN g4⟩
      case measure=>simp[intOf];omega
    · go_wp2_with fail
      go_roundw
      case rel=>exact ⟨p,h - m,by rw[←HI.out],by rw[show m+(h - m)=h by have:=HI.out;omega],by have:=HI.out;omega,by have:=HI.out;have:=HJ.out;omega,HP1.out,Or.inr ⟨y,HY.out,by rw[←HCV.out];omega⟩,hf.andN g4⟩
      case measure=>simp[intOf];omega
  · have hpq' :p=q:=by omega
    have hcutp:(R.take p=[]∨∃t z,R.take p=t++[z]∧cf z x≤0):=by
     rcases HP1.out with h0 | ⟨y,hy,hlt⟩
     · left;rw[h0];rfl
     · by_cases h0:p=0
       · left;rw[h0];rfl
       right
       obtain ⟨hl,e1⟩:=List.getElem?_eq_some_iff.1 hy
       exact ⟨R.take (p - 1),y,by rw[←e1,←List.take_succ_eq_append_getElem hl,show p - 1+1=p by omega],by omega⟩
    have hcutq:(R.drop p=[]∨∃z t,R.drop p=z::t∧cf x z≤0):=by
     rcases HQ1.out with h0 | ⟨y,hy,hlt⟩
     · left;rw[hpq',h0,List.drop_length]
     · right
       rw[←hpq'] at hy
       obtain ⟨hl,e1⟩:=List.getElem?_eq_some_iff.1 hy
       exact ⟨y,R.drop (p+1),by rw[←e1,List.drop_eq_getElem_cons hl],O.le_of_not (HV.out y (by rw[←e1];simp)) (HV.out x (by simp)) (by omega)⟩
    have hsrt:=srt_insert O (HV.out x (by simp)) (fun y hy=>HV.out y (by rw[List.take_append_drop] at hy;simp[hy])) (by rw[List.take_append_drop];exact HR.out) hcutp hcutq
    have HS:=Lib.hid hsrt
    have hpR:p≤R.length:=by have:=HB.out;omega
    have hE0:EV wr b off cap (A++(R.take 0++(x::(R.drop 0++B)))):=by
     have h:=HE.out.frN hf
     rw[HDD.out] at h
     simpa using h
    have HE0:=Lib.hid hE0
    have t5:IntKind.i64.wrap ((i:Int) - 1)=((a+p:Nat):Int):=i64_nat _ _ (by have:=HM.out;have:=HI.out;omega) (by have:=HB.out;have:=HM.out;omega)
    obtain ⟨ap,hap⟩:∃ap,ap=a+p:=⟨_,rfl⟩
    rw[←hap] at t5
    have HAP:=Lib.hid hap
    obtain ⟨wo,rfl⟩:∃wo:World,wo=wr:=⟨_,rfl⟩
    clear hcutp hcutq hsrt hE0 hi hj hap hpq'
    go_wp2_with fail
    go_loopw [13] (fun v13 wr=>∃t:Nat,v13= .int .i64 (a+t:Nat)∧t≤p∧EV wr b off cap (A++(R.take t++(x::(R.drop t++B))))∧Fr (fun k=>k=b) w wr) (fun v13 _=>ap - (intOf v13).toNat)
    case atStart=>exact ⟨0,by go_num,Nat.zero_le _,HE0.out,hf.any⟩
    case round=>
     obtain ⟨t,rfl,htp,hE1,hf1⟩:=hrel
     by_cases ht:t<p
     · have htR:t<R.length:=by omega
       have hdz:A++(R.take t++(x::(R.drop t++B)))=(A++R.take t)++x::([]++R[t]::(R.drop (t+1)++B)):=by
        rw[List.drop_eq_getElem_cons htR];simp only[List.append_assoc,List.cons_append,List.nil_append]
       obtain ⟨k,hk⟩:∃k,k=a+t:=⟨_,rfl⟩
       rw[←hk]
       obtain ⟨k1,hk1⟩:∃k1,k1=k+1:=⟨_,rfl⟩
       have t6:IntKind.i64.wrap ((k:Int)+1)=(k1:Int):=i64_nat _ _ (by omega) (by have:=HB.out;have:=HM.out;omega)
       have la:k=(A++R.take t).length:=by rw[hk,HA.out];simp;omega
       have lb:k1=(A++R.take t).length+1+([]:List Elt).length:=by rw[hk1,la];rfl
       have hkN:k1<N:=by have:=HB.out;have:=HM.out;omega
       have hkN0:k<N:=by omega
       have hlenE:(A++(R.take t++(x::(R.drop t++B)))).length=N:=by rw[HN.out,HDD.out];simp;omega
       obtain ⟨_,c0,c1,z0,z1⟩:=hE1.at hdz k la
       obtain ⟨_,d0,d1,y0,y1⟩:=hE1.at (A:=(A++R.take t)++[x]) (x:=R[t]) (R:=R.drop (t+1)++B) (by rw[hdz];simp) k1 (by rw[lb];simp only[List.length_append,List.length_nil,List.length_cons])
       have g:=EV.swap (hE1.frN (Fr.refl nob wr).drew) hdz k k1 la lb
       obtain ⟨⟨x1,n1⟩,⟨x2,n2⟩,⟨x3,n3⟩⟩:=hE1.found (i:=k) (j:=k1) (by rw[hlenE];exact hkN0) (by rw[hlenE];exact hkN) R[t] (.slice x.a x.p.row.length x.c)
       have hre:(A++R.take t)++R[t]::([]++x::(R.drop (t+1)++B))=A++(R.take (t+1)++(x::(R.drop (t+1)++B))):=by
        rw[List.take_succ_eq_append_getElem htR];simp only[List.append_assoc,List.cons_append,List.nil_append]
       rw[hre] at g
       generalize R[t]=z at d0 d1 g n1 n2 n3
       have q0:∀v,Fr nob wr v→v.cell? ⟨b,off+k*2,none⟩=some (.slice x.a x.p.row.length x.c):=fun v hv=>hv.cell c0 id
       have q1:∀v,Fr nob wr v→v.cell? ⟨b,off+k*2+1,none⟩=some (.int .i64 x.p.weight):=fun v hv=>hv.cell c1 id
       have q2:∀v,Fr nob wr v→v.cell? ⟨b,off+k1*2,none⟩=some (.slice z.a z.p.row.length z.c):=fun v hv=>hv.cell d0 id
       have q3:∀v,Fr nob wr v→v.cell? ⟨b,off+k1*2+1,none⟩=some (.int .i64 z.p.weight):=fun v hv=>hv.cell d1 id
       have G:=Lib.hid g
       have hkap:k<ap:=by have:=HAP.out;omega
       have HK1:=Lib.hid hk1
       have HKK:=Lib.hid hk
       clear g hdz hre la lb hk hk1 hlenE hE1
       go_wp2_with fail
       refine wp_region3 [0,1,2,3,4,5,6,7,8,10,11,12] [9,13,14] [15,16,17] (Fr nob wr) rfl (by kernel_rfl) (fun c a d v w h=>by cases d<;>exact h) ((Fr.refl nob wr).drew) (fun ops hops=>?_)
       repeat (apply wpA3N_free _ _ (by rw[hops.out];rfl) (by first | exact Wants.plain rfl | exact Wants.yes rfl (by rw[hops.out];rfl) rfl rfl);(focus (intro x hx;go_simp;rfl));go_simp)
       apply wpA3N_nil
       repeat (apply wpX3N_free _ _ (by rw[hops.out];rfl) (by first | exact Wants.plain rfl | exact Wants.yes rfl (by rw[hops.out];rfl) rfl rfl);(focus (intro x hx;go_simp;rfl));go_simp)
       apply wpX3N_nil
       refine wpT3N_act _ (by rw[hops.out];rfl) (by first | exact Wants.plain rfl | exact Wants.yes rfl (by rw[hops.out];rfl) rfl rfl) (fun K hK=>?_)
       go_wp2_with fail
       refine wpT3N_act _ (by rw[hops.out];rfl) (by first | exact Wants.plain rfl | exact Wants.yes rfl (by rw[hops.out];rfl) rfl rfl) (fun K hK=>?_)
       go_wp2_with fail
       refine wpT3N_act _ (by rw[hops.out];rfl) (by first | exact Wants.plain rfl | exact Wants.yes rfl (by rw[hops.out];rfl) rfl rfl) (fun K hK=>?_)
       go_wp2_with fail
       apply wpT3N_nil
       go_wp2_with fail
       go_roundw
       case rel=>exact ⟨t+1,by have:=HK1.out;have:=HKK.out;rw[show a+(t+1)=k1 by omega];try go_num,by omega,G.out.1,hf1.drew.trans' G.out.2⟩
       case measure=>have:=HK1.out;simp[intOf];omega
     · have htp' :t=p:=by omega
       have HT:=Lib.hid htp'
       have hE2:=hE1
       rw[htp'] at hE2
       obtain ⟨k,hk⟩:∃k,k=a+t:=⟨_,rfl⟩
       rw[←hk]
       have hkap:¬k<ap:=by have:=HAP.out;omega
       have HE2:=Lib.hid hE2
       clear hE1 hE2 htp' hk
       go_wp2_with fail
       refine bodyPost_ret (results_none rfl _ _ _) rfl ?_
       refine ⟨rfl,⟨R.take p++([x]++R.drop p),?_,HS.out,by simpa using HE2.out⟩,hf1⟩
       refine List.Perm.trans List.perm_middle ?_
       show (x::(R.take p++R.drop p)).Perm (x::R)
       rw[List.take_append_drop]
set_option maxRecDepth 100000 in
set_option maxHeartbeats 4000000 in
theorem symMerge_right (w:World) (b off cap bx:Nat) (V:Elt→Prop) (cf:Elt→Elt→Int) (O:Ordr V cf) (A B L d:List Elt) (y:Elt) (N a m e:Nat) (hd:EV w b off cap d) (he:d=A++(L++(y::B))) (hN:N=d.length) (ha:a=A.length) (hm:m=a+L.length) (hb:e=m+1) (h1:L.length≠1) (hV:∀z∈y::L,V z) (hR:Srt cf L) (hlen:N≤1099511627776) (hc:CmpC bx V cf b w):
 Calls Tryz.prog 131 #[.slice (some ⟨b,off,none⟩) N cap, .int .i64 a, .int .i64 m, .int .i64 e,cmpV bx] w
  fun r w' =>r= .returned (.tuple #[])∧(∃X',X'.Perm (y::L)∧Srt cf X' ∧EV w' b off cap (A++(X' ++B)))∧Fr (fun k=>k=b) w w' :=by
 have hNe:e≤N:=by subst hN he hb hm ha;simp only[List.length_append,List.length_cons];omega
 obtain ⟨ll,hll⟩:∃ll,ll=L.length:=⟨_,rfl⟩
 rw[←hll] at h1 hm
 have s1:IntKind.i64.wrap ((m:Int) - a)=(ll:Int):=i64_nat _ _ (by omega) (by omega)
 have s1' :((ll:Int) == 1)=false:=by rw[beq_eq_false_iff_ne];omega
 have s2:IntKind.i64.wrap ((e:Int) - m)=1:=by rw[IntWalk.i64_in _ (by omega)];omega
 unfold cmpV
 have HE:=Lib.hid hd
 have HDD:=Lib.hid he
 have HN:=Lib.hid hN
 have HA:=Lib.hid ha
 have HM:=Lib.hid hm
 have HB:=Lib.hid hb
 have HLL:=Lib.hid hll
 have HV:=Lib.hid hV
 have HR:=Lib.hid hR
 have HC:=Lib.hid hc
 clear hd he hN ha hm hb hV hR hc hll h1
 go_enter Tryz.func131,Tryz.ntmps131
 go_wp2_with fail
 go_loopw [14,15,16] (fun v14 v15 v16 wr=>∃p q:Nat,v14= .int .i64 (a+p:Nat)∧v15= .int .i64 (a+q:Nat)∧p≤q∧a+q≤m∧(p=0∨∃z,L[p - 1]? =some z∧0≤cf y z)∧(q=L.length∨∃z,L[q]? =some z∧cf y z<0)∧Fr nob w wr) (fun v14 v15 _ _=>(intOf v15).toNat - (intOf v14).toNat)
 case atStart=>exact ⟨0,L.length,by go_num,by rw[HM.out,HLL.out],Nat.zero_le _,by have:=HM.out;have:=HLL.out;omega,Or.inl rfl,Or.inl rfl,Fr.refl _ _⟩
 case round=>
  obtain ⟨p,q,rfl,rfl,hpq,hqe,hp1,hq1,hf⟩:=hrel
  have HP1:=Lib.hid hp1
  have HQ1:=Lib.hid hq1
  clear hp1 hq1
  obtain ⟨i,hi⟩:∃i,i=a+p:=⟨_,rfl⟩
  obtain ⟨j,hj⟩:∃j,j=a+q:=⟨_,rfl⟩
  rw[←hi,←hj]
  have HI:=Lib.hid hi
  have HJ:=Lib.hid hj
  by_cases hlt:i<j
  · obtain ⟨h,hh⟩:∃h,h=(i+j) / 2:=⟨_,rfl⟩
    obtain ⟨t1,t2,t3,t4⟩:=halve hh (by have:=HB.out;have:=HJ.out;omega)
    have hih:i≤h:=by omega
    have hhj:h<j:=by omega
    have hrl:h - a<L.length:=by have:=HM.out;have:=HLL.out;have:=HJ.out;have:=HI.out;omega
    obtain ⟨z,hz⟩:∃z,L[h - a]? =some z:=⟨_,List.getElem?_eq_getElem hrl⟩
    have hsplit:L=L.take (h - a)++z::L.drop (h - a+1):=by
     have e1:=(List.getElem?_eq_some_iff.1 hz).2
     rw[←e1,←List.drop_eq_getElem_cons hrl,List.take_append_drop]
    obtain ⟨hmN,c0,c1,z0,z1⟩:=(HE.out.frN hf).at (A:=A++L) (x:=y) (R:=B) (by rw[HDD.out];simp) m (by have:=HA.out;have:=HM.out;have:=HLL.out;simp;omega)
    have hdd2:d=(A++L.take (h - a))++z::(L.drop (h - a+1)++(y::B)):=by
     have e1:L++(y::B)=L.take (h - a)++(z::(L.drop (h - a+1)++(y::B))):=(congrArg (· ++(y::B)) hsplit).trans (by simp)
     rw[HDD.out,e1]
     simp
    obtain ⟨hhN,d0,d1,y0,y1⟩:=(HE.out.frN hf).at hdd2 h (by have:=HA.out;have:=HM.out;simp;omega)
    rw[←HN.out] at hmN hhN
    have hVy:V y:=HV.out y (by simp)
    have hVz:V z:=HV.out z (by rw[hsplit];simp)
    have hcall:=fun v (hv:Fr nob wr v)=>HC.out y z hVy hVz v (hf.andN hv).any
    have q0:∀v,Fr nob wr v→v.cell? ⟨b,off+m*2,none⟩=some (.slice y.a y.p.row.length y.c):=fun v hv=>hv.cell c0 id
    have q1:∀v,Fr nob wr v→v.cell? ⟨b,off+m*2+1,none⟩=some (.int .i64 y.p.weight):=fun v hv=>hv.cell c1 id
    have q2:∀v,Fr nob wr v→v.cell? ⟨b,off+h*2,none⟩=some (.slice z.a z.p.row.length z.c):=fun v hv=>hv.cell d0 id
    have q3:∀v,Fr nob wr v→v.cell? ⟨b,off+h*2+1,none⟩=some (.int .i64 z.p.weight):=fun v hv=>hv.cell d1 id
    unfold eltVal at hcall
    obtain ⟨cv,hcv⟩:∃cv,cv=cf y z:=⟨_,rfl⟩
    rw[←hcv] at hcall
    have HCV:=Lib.hid hcv
    have HY:=Lib.hid hz
    obtain ⟨ij,hij⟩:∃ij,ij=i+j:=⟨_,rfl⟩
    rw[←hij] at t1 t2 t3
    clear hdd2 hi hj hh hz hcv hij c0 c1 z0 z1 d0 d1 y0 y1 hVy hVz
    have HSP:=Lib.hid hsplit
    clear hsplit
    go_wp2_with fail
    refine wp_region_ord [(0,true),(1,true),(2,true),(3,true),(4,true),(5,true),(6,true),(7,true),(8,true),(9,false),(10,true),(11,true)] (Fr nob _) rfl (by kernel_rfl) (by kernel_rfl) (by decide) (fun c a d v w h=>by cases d<;>exact h) ((Fr.refl nob _).drew) (fun ops hops hS=>?_)
    repeat (first | (apply oF hops (by rfl) (by first | exact .plain rfl | exact .y hops rfl rfl rfl rfl);(focus (intro x hx;go_simp;rfl));go_simp) | (apply oS hops (by rfl) (by first | exact .n hops rfl rfl rfl rfl | exact .u hops rfl rfl rfl rfl);go_simp) | (apply oP hops (by rfl) (by first | exact .n hops rfl rfl rfl rfl | exact .u hops rfl rfl rfl rfl) (by assumption);go_simp))
    refine oA hops (by rfl) (by first | exact .plain rfl | exact .y hops rfl rfl rfl rfl) (fun K hK=>?_)
    go_wp2_with fail
    refine (hcall _ (Fr.refl nob wr).drew).mono ?_
    rintro r w4 ⟨rfl,hf4⟩
    have g4:Fr nob wr w4:=(Fr.refl nob wr).drew.andN hf4
    refine hK _ _ ⟨_,fun _ h=>h,g4,?_⟩
    clear hK
    go_simp
    repeat (first | (apply oF hops (by rfl) (by first | exact .plain rfl | exact .y hops rfl rfl rfl rfl);(focus (intro x hx;go_simp;rfl));go_simp) | (apply oS hops (by rfl) (by first | exact .n hops rfl rfl rfl rfl | exact .u hops rfl rfl rfl rfl);go_simp) | (apply oP hops (by rfl) (by first | exact .n hops rfl rfl rfl rfl | exact .u hops rfl rfl rfl rfl) (by assumption);go_simp))
    apply wpOrd_nil
    by_cases hlt4:cv<0
    · have dl:¬(!decide (cv<0))=true:=by simp[hlt4]
      go_wp2_with fail
      go_roundw
      case rel=>exact ⟨p,h - a,by rw[←HI.out],by rw[show a+(h - a)=h by have:=HI.out;omega],by have:=HI.out;omega,by have:=HI.out;have:=HJ.out;omega,HP1.out,Or.inr ⟨z,HY.out,by rw[←HCV.out];omega⟩,hf.andN g4⟩
      case measure=>simp[intOf];omega
    · have dl:¬(!decide (cv<0))=false:=by simp;omega
      go_wp2_with fail
      go_roundw
      case rel=>exact ⟨h+1 - a,q,by rw[show a+(h+1 - a)=h+1 by have:=HI.out;omega];go_num,by rw[←HJ.out],by have:=HJ.out;omega,hqe,Or.inr ⟨z,by rw[show h+1 - a - 1=h - a by have:=HI.out;omega];exact HY.out,by rw[←HCV.out];omega⟩,HQ1.out,hf.andN g4⟩
      case measure=>simp[intOf];omega
  · have hpq' :p=q:=by omega
    have hcutp:(L.take p=[]∨∃t z,L.take p=t++[z]∧cf z y≤0):=by
     rcases HP1.out with h0 | ⟨z,hz,hlt⟩
     · left;rw[h0];rfl
     · by_cases h0:p=0
       · left;rw[h0];rfl
       right
       obtain ⟨hl,e1⟩:=List.getElem?_eq_some_iff.1 hz
       exact ⟨L.take (p - 1),z,by rw[←e1,←List.take_succ_eq_append_getElem hl,show p - 1+1=p by omega],O.le_of_not (HV.out y (by simp)) (HV.out z (by rw[←e1];simp)) (by omega)⟩
    have hcutq:(L.drop p=[]∨∃z t,L.drop p=z::t∧cf y z≤0):=by
     rcases HQ1.out with h0 | ⟨z,hz,hlt⟩
     · left;rw[hpq',h0,List.drop_length]
     · right
       rw[←hpq'] at hz
       obtain ⟨hl,e1⟩:=List.getElem?_eq_some_iff.1 hz
       exact ⟨z,L.drop (p+1),by rw[←e1,List.drop_eq_getElem_cons hl],by omega⟩
    have hsrt:=srt_insert O (HV.out y (by simp)) (fun z hz=>HV.out z (by rw[List.take_append_drop] at hz;simp[hz])) (by rw[List.take_append_drop];exact HR.out) hcutp hcutq
    have HS:=Lib.hid hsrt
    have hpL:p≤ll:=by have:=HM.out;omega
    have hE0:EV wr b off cap (A++(L.take ll++(y::(L.drop ll++B)))):=by
     have h:=HE.out.frN hf
     rw[HDD.out] at h
     rw[HLL.out,List.take_length,List.drop_length]
     simpa using h
    have HE0:=Lib.hid hE0
    obtain ⟨wo,rfl⟩:∃wo:World,wo=wr:=⟨_,rfl⟩
    clear hcutp hcutq hsrt hE0 hi hj hpq'
    go_wp2_with fail
    go_loopw [17] (fun v17 wr=>∃t:Nat,v17= .int .i64 (a+t:Nat)∧p≤t∧t≤ll∧EV wr b off cap (A++(L.take t++(y::(L.drop t++B))))∧Fr (fun k=>k=b) w wr) (fun v17 _=>(intOf v17).toNat)
    case atStart=>exact ⟨ll,by rw[HM.out],hpL,Nat.le_refl _,HE0.out,hf.any⟩
    case round=>
     obtain ⟨t,rfl,hpt,htl,hE1,hf1⟩:=hrel
     by_cases ht:p<t
     · obtain ⟨u,rfl⟩:∃u,t=u+1:=⟨t - 1,by omega⟩
       have hul:u<L.length:=by rw[←HLL.out];omega
       have hdz:A++(L.take (u+1)++(y::(L.drop (u+1)++B)))=(A++L.take u)++L[u]::([]++y::(L.drop (u+1)++B)):=by
        rw[List.take_succ_eq_append_getElem hul];simp only[List.append_assoc,List.cons_append,List.nil_append]
       obtain ⟨k,hk⟩:∃k,k=a+(u+1):=⟨_,rfl⟩
       rw[←hk]
       obtain ⟨k1,hk1⟩:∃k1,k1=a+u:=⟨_,rfl⟩
       have t6:IntKind.i64.wrap ((k:Int) - 1)=(k1:Int):=i64_nat _ _ (by omega) (by have:=HM.out;have:=HB.out;omega)
       have la:k1=(A++L.take u).length:=by rw[hk1,HA.out];simp;omega
       have lb:k=(A++L.take u).length+1+([]:List Elt).length:=by rw[←la,hk,hk1];rfl
       have hkN:k<N:=by have:=HB.out;have:=HM.out;omega
       have hkN0:k1<N:=by omega
       have hlenE:(A++(L.take (u+1)++(y::(L.drop (u+1)++B)))).length=N:=by rw[HN.out,HDD.out];simp;omega
       obtain ⟨_,c0,c1,z0,z1⟩:=hE1.at hdz k1 la
       obtain ⟨_,d0,d1,y0,y1⟩:=hE1.at (A:=(A++L.take u)++[L[u]]) (x:=y) (R:=L.drop (u+1)++B) (by rw[hdz];simp only[List.append_assoc,List.cons_append,List.nil_append]) k (by rw[lb];simp only[List.length_append,List.length_nil,List.length_cons])
       have g:=EV.swap' (hE1.frN (Fr.refl nob wr).drew) hdz k1 k la lb
       obtain ⟨⟨x1,n1⟩,⟨x2,n2⟩,⟨x3,n3⟩⟩:=hE1.found (i:=k) (j:=k1) (by rw[hlenE];exact hkN) (by rw[hlenE];exact hkN0) L[u] (.slice y.a y.p.row.length y.c)
       have hre:(A++L.take u)++y::([]++L[u]::(L.drop (u+1)++B))=A++(L.take u++(y::(L.drop u++B))):=by
        rw[List.drop_eq_getElem_cons hul];simp only[List.append_assoc,List.cons_append,List.nil_append]
       rw[hre] at g
       generalize L[u]=z at c0 c1 g n1 n2 n3
       have q0:∀v,Fr nob wr v→v.cell? ⟨b,off+k1*2,none⟩=some (.slice z.a z.p.row.length z.c):=fun v hv=>hv.cell c0 id
       have q1:∀v,Fr nob wr v→v.cell? ⟨b,off+k1*2+1,none⟩=some (.int .i64 z.p.weight):=fun v hv=>hv.cell c1 id
       have q2:∀v,Fr nob wr v→v.cell? ⟨b,off+k*2,none⟩=some (.slice y.a y.p.row.length y.c):=fun v hv=>hv.cell d0 id
       have q3:∀v,Fr nob wr v→v.cell? ⟨b,off+k*2+1,none⟩=some (.int .i64 y.p.weight):=fun v hv=>hv.cell d1 id
       have G:=Lib.hid g
       have hki:i<k:=by have:=HI.out;omega
       have HK1:=Lib.hid hk1
       have HKK:=Lib.hid hk
       clear g hdz hre la lb hk hk1 hlenE hE1
       go_wp2_with fail
       refine wp_region3 [0,1,2,3,4,5,6,7,8,10,11,12] [9,13,14] [15,16,17] (Fr nob wr) rfl (by kernel_rfl) (fun c a d v w h=>by cases d<;>exact h) ((Fr.refl nob wr).drew) (fun ops hops=>?_)
       repeat (apply wpA3N_free _ _ (by rw[hops.out];rfl) (by first | exact Wants.plain rfl | exact Wants.yes rfl (by rw[hops.out];rfl) rfl rfl);(focus (intro x hx;go_simp;rfl));go_simp)
       apply wpA3N_nil
       repeat (apply wpX3N_free _ _ (by rw[hops.out];rfl) (by first | exact Wants.plain rfl | exact Wants.yes rfl (by rw[hops.out];rfl) rfl rfl);(focus (intro x hx;go_simp;rfl));go_simp)
       apply wpX3N_nil
       refine wpT3N_act _ (by rw[hops.out];rfl) (by first | exact Wants.plain rfl | exact Wants.yes rfl (by rw[hops.out];rfl) rfl rfl) (fun K hK=>?_)
       go_wp2_with fail
       refine wpT3N_act _ (by rw[hops.out];rfl) (by first | exact Wants.plain rfl | exact Wants.yes rfl (by rw[hops.out];rfl) rfl rfl) (fun K hK=>?_)
       go_wp2_with fail
       refine wpT3N_act _ (by rw[hops.out];rfl) (by first | exact Wants.plain rfl | exact Wants.yes rfl (by rw[hops.out];rfl) rfl rfl) (fun K hK=>?_)
       go_wp2_with fail
       apply wpT3N_nil
       go_wp2_with fail
       go_roundw
       case rel=>exact ⟨u,by rw[←HK1.out];try go_num,by omega,by omega,G.out.1,hf1.drew.trans' G.out.2⟩
       case measure=>have:=HK1.out;have:=HKK.out;simp[intOf];omega
     · have htp' :t=p:=by omega
       have hE2:=hE1
       rw[htp'] at hE2
       obtain ⟨k,hk⟩:∃k,k=a+t:=⟨_,rfl⟩
       rw[←hk]
       have hki:¬i<k:=by have:=HI.out;omega
       have HE2:=Lib.hid hE2
       clear hE1 hE2 htp' hk
       go_wp2_with fail
       refine bodyPost_ret (results_none rfl _ _ _) rfl ?_
       refine ⟨rfl,⟨L.take p++([y]++L.drop p),?_,HS.out,by simpa using HE2.out⟩,hf1⟩
       refine List.Perm.trans List.perm_middle ?_
       show (y::(L.take p++L.drop p)).Perm (y::L)
       rw[List.take_append_drop]
theorem sym_cut {α:Type} {cf:α→α→Int} {A B L R d:List α} {a m e st en:Nat} (hd:d=A++(L++(R++B))) (ha:a=A.length) (hm:m=a+L.length) (he:e=m+R.length) (h1:a≤st) (h2:st≤m) (h3:m≤en) (h4:en≤e)
 (hl:st=a∨en=e∨∃u v,d[st - 1]? =some u∧d[en]? =some v∧cf u v≤0) (hr:en=m∨st=m∨∃u v,d[st]? =some u∧d[en - 1]? =some v∧cf v u≤0):
 (L.take (st - a)=[]∨R.drop (en - m)=[]∨∃t z u b,L.take (st - a)=t++[z]∧R.drop (en - m)=u::b∧cf z u≤0)∧(R.take (en - m)=[]∨L.drop (st - a)=[]∨∃t z u b,R.take (en - m)=t++[z]∧L.drop (st - a)=u::b∧cf z u≤0):=by
 have inL:∀i,a≤i→i<m→d[i]? =L[i - a]? :=fun i hi hi2=>by
  rw[hd,List.getElem?_append_right (by omega),←ha,List.getElem?_append_left (by omega)]
 have inR:∀i,m≤i→i<e→d[i]? =R[i - m]? :=fun i hi hi2=>by
  rw[hd,List.getElem?_append_right (by omega),←ha,List.getElem?_append_right (by omega),List.getElem?_append_left (by omega),show i - a - L.length=i - m by omega]
 have last:∀{l:List α} {k:Nat} {u:α},0<k→l[k - 1]? =some u→l.take k=l.take (k - 1)++[u]:=fun {l k u} hk h=>by
  obtain ⟨hl,e1⟩:=List.getElem?_eq_some_iff.1 h
  rw[←e1,←List.take_succ_eq_append_getElem hl,show k - 1+1=k by omega]
 have first:∀{l:List α} {k:Nat} {u:α},l[k]? =some u→l.drop k=u::l.drop (k+1):=fun {l k u} h=>by
  obtain ⟨hl,e1⟩:=List.getElem?_eq_some_iff.1 h
  rw[←e1,List.drop_eq_getElem_cons hl]
 constructor
 · by_cases c1:st=a
   · left;rw[c1,Nat.sub_self];rfl
   by_cases c2:en=e
   · right;left;exact List.drop_of_length_le (by omega)
   rcases hl with h | h | ⟨u,v,hu,hv,hc⟩
   · exact absurd h c1
   · exact absurd h c2
   · right;right
     rw[inL _ (by omega) (by omega),show st - 1 - a=st - a - 1 by omega] at hu
     rw[inR _ (by omega) (by omega)] at hv
     exact ⟨_,u,v,_,last (by omega) hu,first hv,hc⟩
 · by_cases c1:en=m
   · left;rw[c1,Nat.sub_self];rfl
   by_cases c2:st=m
   · right;left;exact List.drop_of_length_le (by omega)
   rcases hr with h | h | ⟨u,v,hu,hv,hc⟩
   · exact absurd h c1
   · exact absurd h c2
   · right;right
     rw[inL _ (by omega) (by omega)] at hu
     rw[inR _ (by omega) (by omega),show en - 1 - m=en - m - 1 by omega] at hv
     exact ⟨_,v,u,_,last (by omega) hv,first hu,hc⟩
def SymSpec (bx:Nat) (V:Elt→Prop) (cf:Elt→Elt→Int) (k:Nat):Prop:=
 ∀(w:World) (b off cap:Nat) (A B L R d:List Elt) (N a m e:Nat),L.length+R.length≤k→0<L.length→0<R.length→EV w b off cap d→d=A++(L++(R++B))→N=d.length→a=A.length→m=a+L.length→e=m+R.length→
  (∀z∈L++R,V z)→Srt cf L→Srt cf R→N≤1099511627776→CmpC bx V cf b w→
  Calls Tryz.prog 131 #[.slice (some ⟨b,off,none⟩) N cap, .int .i64 a, .int .i64 m, .int .i64 e,cmpV bx] w
   fun r w' =>r= .returned (.tuple #[])∧(∃X',X'.Perm (L++R)∧Srt cf X' ∧EV w' b off cap (A++(X' ++B)))∧Fr (fun k=>k=b) w w'
def SrchSt (cf:Elt→Elt→Int) (d:List Elt) (n s0 r0:Nat) (w:World) (v20 v21:Value) (wr:World):Prop:=
 ∃s r:Nat,v20= .int .i64 s∧v21= .int .i64 r∧s≤r∧s0≤s∧r≤r0∧(s=s0∨∃u v,d[s - 1]? =some u∧d[n - s]? =some v∧0≤cf v u)∧(r=r0∨∃u v,d[r]? =some u∧d[n - 1 - r]? =some v∧cf v u<0)∧Fr nob w wr
structure Cut (cf:Elt→Elt→Int) (V:Elt→Prop) (A L R B d:List Elt) (N a m e s en mid:Nat):Prop where
 O:Ordr V cf
 hd:d=A++(L++(R++B))
 hN:N=d.length
 hlen:N≤1099511627776
 ha:a=A.length
 hm:m=a+L.length
 he:e=m+R.length
 h1:a≤s
 h2:s≤m
 h3:m≤en
 h4:en≤e
 hmid:mid=s+(en - m)
 h5:a<mid
 h6:mid<e
 hV:∀z∈L++R,V z
 hL:Srt cf L
 hR:Srt cf R
 hcut:(L.take (s - a)=[]∨R.drop (en - m)=[]∨∃t z u b,L.take (s - a)=t++[z]∧R.drop (en - m)=u::b∧cf z u≤0)∧(R.take (en - m)=[]∨L.drop (s - a)=[]∨∃t z u b,R.take (en - m)=t++[z]∧L.drop (s - a)=u::b∧cf z u≤0)
def StA (w:World) (b off cap:Nat) (A L R B:List Elt) (p q:Nat):Prop:=EV w b off cap (A++(L.take p++(R.take q++(L.drop p++(R.drop q++B)))))
def StB (cf:Elt→Elt→Int) (w:World) (b off cap:Nat) (A L R B:List Elt) (p q:Nat):Prop:=∃X:List Elt,X.Perm (L.take p++R.take q)∧Srt cf X∧EV w b off cap (A++(X++(L.drop p++(R.drop q++B))))
def StC (cf:Elt→Elt→Int) (w:World) (b off cap:Nat) (A L R B:List Elt):Prop:=∃X' :List Elt,X'.Perm (L++R)∧Srt cf X' ∧EV w b off cap (A++(X' ++B))
section
variable {cf:Elt→Elt→Int} {V:Elt→Prop} {A L R B d:List Elt} {N a m e s en mid:Nat} {w wr:World} {b off cap bx k:Nat}
theorem four {α:Type} (A L R B:List α) (p q:Nat):A++(L++(R++B))=(A++L.take p)++(L.drop p++(R.take q++(R.drop q++B))):=by
 rw[←List.append_assoc (R.take q),List.take_append_drop]
 simp only[List.append_assoc]
 rw[←List.append_assoc (L.take p),List.take_append_drop]
theorem Cut.stA_none (c:Cut cf V A L R B d N a m e s en mid) (hE:EV w b off cap d) (h:s=m∨en=m):StA w b off cap A L R B (s - a) (en - m):=by
 unfold StA
 rw[c.hd,four A L R B (s - a) (en - m)] at hE
 have:=c.hm
 rcases h with h | h
 · rw[show L.drop (s - a)=[] from List.drop_of_length_le (by omega)] at hE ⊢
   simpa using hE
 · rw[show R.take (en - m)=[] by rw[h,Nat.sub_self];rfl] at hE ⊢
   simpa using hE
set_option maxRecDepth 100000 in
theorem Cut.stA_call (c:Cut cf V A L R B d N a m e s en mid) (hE:EV w b off cap d) (h1:s<m) (h2:m<en):
 Calls Tryz.prog 161 #[.slice (some ⟨b,off,none⟩) N cap, .int .i64 s, .int .i64 m, .int .i64 en,cmpV bx] w
  fun r w' =>r= .returned (.tuple #[])∧StA w' b off cap A L R B (s - a) (en - m)∧Fr (fun k=>k=b) w w' :=by
 have:=c.hm;have:=c.he;have:=c.ha;have:=c.h1;have:=c.h2;have:=c.h3;have:=c.h4
 have h:=rotate_any w b off cap (A++L.take (s - a)) (R.drop (en - m)++B) (L.drop (s - a)) (R.take (en - m)) d (cmpV bx) N s m en hE (by rw[c.hd];exact four _ _ _ _ _ _) c.hN (by simp;omega) (by simp;omega) (by simp;omega) (by simp;omega) (by simp;omega) c.hlen
 refine h.mono ?_
 rintro r w1 ⟨rfl,hE1,hf⟩
 exact ⟨rfl,by unfold StA;simpa using hE1,hf⟩
theorem Cut.vL (c:Cut cf V A L R B d N a m e s en mid):∀z∈L.take (s - a)++R.take (en - m),V z:=fun z hz=>c.hV z (by
 rcases List.mem_append.1 hz with h | h
 · exact List.mem_append.2 (Or.inl (List.mem_of_mem_take h))
 · exact List.mem_append.2 (Or.inr (List.mem_of_mem_take h)))
theorem Cut.vR (c:Cut cf V A L R B d N a m e s en mid):∀z∈L.drop (s - a)++R.drop (en - m),V z:=fun z hz=>c.hV z (by
 rcases List.mem_append.1 hz with h | h
 · exact List.mem_append.2 (Or.inl (List.mem_of_mem_drop h))
 · exact List.mem_append.2 (Or.inr (List.mem_of_mem_drop h)))
theorem srt_parts {l:List Elt} (h:Srt cf l) (p:Nat):Srt cf (l.take p)∧Srt cf (l.drop p):=by
 rw[←List.take_append_drop p l] at h
 exact ⟨h.left,h.right⟩
theorem Cut.stB_none (c:Cut cf V A L R B d N a m e s en mid) (hE:StA w b off cap A L R B (s - a) (en - m)) (h:s=a∨en=m):StB cf w b off cap A L R B (s - a) (en - m):=by
 refine ⟨L.take (s - a)++R.take (en - m),List.Perm.refl _,?_,by unfold StA at hE;simpa using hE⟩
 rcases h with h | h
 · rw[show L.take (s - a)=[] by rw[h,Nat.sub_self];rfl]
   exact (srt_parts c.hR _).1
 · rw[show R.take (en - m)=[] by rw[h,Nat.sub_self];rfl,List.append_nil]
   exact (srt_parts c.hL _).1
set_option maxRecDepth 100000 in
theorem Cut.stB_call (c:Cut cf V A L R B d N a m e s en mid) (hk:L.length+R.length=k+1) (IH:SymSpec bx V cf k) (hE:StA w b off cap A L R B (s - a) (en - m)) (hc:CmpC bx V cf b w) (h1:a<s) (h2:s<mid):
 Calls Tryz.prog 131 #[.slice (some ⟨b,off,none⟩) N cap, .int .i64 a, .int .i64 s, .int .i64 mid,cmpV bx] w
  fun r w' =>r= .returned (.tuple #[])∧StB cf w' b off cap A L R B (s - a) (en - m)∧Fr (fun k=>k=b) w w' :=by
 have:=c.hm;have:=c.he;have:=c.ha;have:=c.h1;have:=c.h2;have:=c.h3;have:=c.h4;have:=c.h5;have:=c.h6;have:=c.hmid
 refine (IH w b off cap A (L.drop (s - a)++(R.drop (en - m)++B)) (L.take (s - a)) (R.take (en - m)) _ N a s mid (by simp;omega) (by simp;omega) (by simp;omega) hE rfl ?_ c.ha (by simp;omega) (by simp;omega) c.vL (srt_parts c.hL _).1 (srt_parts c.hR _).1 c.hlen hc).mono ?_
 · rw[c.hN,c.hd,four A L R B (s - a) (en - m)];simp only[List.length_append,List.length_take,List.length_drop];omega
 · rintro r w1 ⟨rfl,hX,hf⟩
   exact ⟨rfl,hX,hf⟩
theorem perm_parts {α:Type} (L R:List α) (p q:Nat) {X Y:List α} (hX:X.Perm (L.take p++R.take q)) (hY:Y.Perm (L.drop p++R.drop q)):(X++Y).Perm (L++R):=by
 refine (hX.append hY).trans ?_
 have h:((L.take p++R.take q)++(L.drop p++R.drop q)).Perm ((L.take p++L.drop p)++(R.take q++R.drop q)):=by
  rw[List.append_assoc,List.append_assoc]
  refine List.Perm.append_left _ ?_
  rw[←List.append_assoc,←List.append_assoc]
  exact List.Perm.append_right _ List.perm_append_comm
 rwa [List.take_append_drop,List.take_append_drop] at h
theorem Cut.join (c:Cut cf V A L R B d N a m e s en mid) {X Y:List Elt} (hX:X.Perm (L.take (s - a)++R.take (en - m))) (hY:Y.Perm (L.drop (s - a)++R.drop (en - m))) (sX:Srt cf X) (sY:Srt cf Y):Srt cf (X++Y):=
 srt_cut c.O (L1:=L.take (s - a)) (L2:=L.drop (s - a)) (R1:=R.take (en - m)) (R2:=R.drop (en - m)) (by rw[List.take_append_drop,List.take_append_drop];exact c.hV) (by rw[List.take_append_drop];exact c.hL) (by rw[List.take_append_drop];exact c.hR) c.hcut.1 c.hcut.2 hX hY sX sY
theorem Cut.stC_none (c:Cut cf V A L R B d N a m e s en mid) (hE:StB cf w b off cap A L R B (s - a) (en - m)) (h:s=m∨en=e):StC cf w b off cap A L R B:=by
 obtain ⟨X,hX,sX,hE⟩:=hE
 have:=c.hm;have:=c.he
 have sY:Srt cf (L.drop (s - a)++R.drop (en - m)):=by
  rcases h with h | h
  · rw[show L.drop (s - a)=[] from List.drop_of_length_le (by omega)]
    exact (srt_parts c.hR _).2
  · rw[show R.drop (en - m)=[] from List.drop_of_length_le (by omega),List.append_nil]
    exact (srt_parts c.hL _).2
 exact ⟨X++(L.drop (s - a)++R.drop (en - m)),perm_parts _ _ _ _ hX (List.Perm.refl _),c.join hX (List.Perm.refl _) sX sY,by simpa using hE⟩
set_option maxRecDepth 100000 in
theorem Cut.stC_call (c:Cut cf V A L R B d N a m e s en mid) (hk:L.length+R.length=k+1) (IH:SymSpec bx V cf k) (hE:StB cf w b off cap A L R B (s - a) (en - m)) (hc:CmpC bx V cf b w) (h1:mid<en) (h2:en<e):
 Calls Tryz.prog 131 #[.slice (some ⟨b,off,none⟩) N cap, .int .i64 mid, .int .i64 en, .int .i64 e,cmpV bx] w
  fun r w' =>r= .returned (.tuple #[])∧StC cf w' b off cap A L R B∧Fr (fun k=>k=b) w w' :=by
 have:=c.hm;have:=c.he;have:=c.ha;have:=c.h1;have:=c.h2;have:=c.h3;have:=c.h4;have:=c.h5;have:=c.h6;have:=c.hmid
 obtain ⟨X,hX,sX,hE⟩:=hE
 have lX:=hX.length_eq
 simp only[List.length_append,List.length_take] at lX
 rw[←List.append_assoc] at hE
 refine (IH w b off cap (A++X) B (L.drop (s - a)) (R.drop (en - m)) _ N mid en e (by simp;omega) (by simp;omega) (by simp;omega) hE rfl ?_ (by simp;omega) (by simp;omega) (by simp;omega) c.vR (srt_parts c.hL _).2 (srt_parts c.hR _).2 c.hlen hc).mono ?_
 · rw[c.hN,c.hd];simp only[List.length_append,List.length_drop];omega
 · rintro r w1 ⟨rfl,⟨Y,hY,sY,hE1⟩,hf⟩
   exact ⟨rfl,⟨X++Y,perm_parts _ _ _ _ hX hY,c.join hX hY sX sY,by simpa using hE1⟩,hf⟩
end
end Go.Proofs.YtibpkfnfcdbiiaaGreatDoor
