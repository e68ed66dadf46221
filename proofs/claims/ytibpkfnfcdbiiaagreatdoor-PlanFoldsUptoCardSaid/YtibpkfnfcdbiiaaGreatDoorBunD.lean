/- Contract of row.Compare: a range over the function that row.orders makes. Contract of row.Compare. Contract of zset.Check. -/
import Derived.Test.YtibpkfnfcdbiiaaGreatDoorBunC
import Derived.Test.YtibpkfnfcdbiiaaGreatDoorBunA
import Derived.RangeFuncNested
import Derived.RangeFuncBound
import Derived.RangeFuncCalls
import Derived.RangeFuncLeaves
import Derived.RangeFuncFrom
import Derived.Shelf.Abstract
import Derived.Shelf.RegionOpen
import Derived.OwnWalkIn
import Derived.TacticsInMore
import Derived.LoopNIn
import Derived.LoopIn
namespace Go.Proofs.YtibpkfnfcdbiiaaGreatDoor
set_option linter.unusedSimpArgs false
open Go.RowKit Go.Shelf
attribute [local go_sem] Oper.semAt_some
set_option linter.unusedVariables false
def cmps:List Col→List Cel→List Cel→List Int
 | c::s,x::a,y::b=>cellCmp c.kind x y::cmps s a b
 | _,_,_=>[]
theorem cmps_take_succ {s:List Col} {a b:List Cel} (ha:a.length=s.length) (hb:b.length=s.length) {k:Nat} (h:k<s.length):
 (cmps s a b).take (k+1)=(cmps s a b).take k++[cellCmp s[k].kind (a[k]'(by omega)) (b[k]'(by omega))]:=by
 induction s generalizing a b k with
 | nil=>simp at h
 | cons c s ih=>
   match a,b,ha,hb with
   | x::a,y::b,ha,hb=>
     cases k with
     | zero=>simp[cmps]
     | succ k=>
       simp only[cmps,List.take_succ_cons,List.getElem_cons_succ,List.cons_append]
       rw[ih (by simpa using ha) (by simpa using hb) (by simpa using h)]
theorem cmps_len {s:List Col} {a b:List Cel} (ha:a.length=s.length) (hb:b.length=s.length):(cmps s a b).length=s.length:=by
 induction s generalizing a b with
 | nil=>simp[cmps]
 | cons c s ih=>
   match a,b,ha,hb with
   | x::a,y::b,ha,hb=>simp[cmps,ih (by simpa using ha) (by simpa using hb)]
theorem grown_fr {w w' :World} (h:Fr nob w w'):w.grownBy w' none:=⟨h.os,h.tape,h.output,h.size,fun k hk _=>h.block k hk id⟩
theorem cel_cells {S:Nat→Prop} {w v:World} {b:Nat} {off:Nat} {cap:Nat} {l:List Cel} (h:SV rCel 2 S w (some ⟨b,off,none⟩) cap l) {k:Nat} (hk:k<l.length) (hv:Fr nob w v):
 v.cell? ⟨b,off+k*2,none⟩=some (.int .u64 l[k].num)∧v.cell? ⟨b,off+k*2+1,none⟩=some (.string (bs l[k].text)):=by
 obtain ⟨b',o',e,_,_,_,c0,c1⟩:=cel_at (h.frN rCel_ok hv) hk
 cases e
 exact ⟨c0,c1⟩
set_option maxRecDepth 100000 in
set_option maxHeartbeats 2000000 in
theorem orders_stops (n:Nat) (S R R' :Nat→Prop) (w:World) (p1 p2 p3:Nat) (a b c:Option Addr) (ca cb cc:Nat) (s:List Col) (x y:List Cel) (hs:SV rCol 2 S w a ca s) (hx:SV rCel 2 R w b cb x) (hy:SV rCel 2 R' w c cc y)
 (hL:Laid w) (hl:s.length≤8) (hlx:x.length=s.length) (hly:y.length=s.length)
 (h1:w.cell? ⟨p1,0,none⟩=some (.slice a s.length ca)) (h2:w.cell? ⟨p2,0,none⟩=some (.slice b x.length cb)) (h3:w.cell? ⟨p3,0,none⟩=some (.slice c y.length cc)):
 SeqStopsK Fence.wide n Tryz.prog 132 #[.pointer (some ⟨p1,0,none⟩), .pointer (some ⟨p2,0,none⟩), .pointer (some ⟨p3,0,none⟩)] (fun v:Int=>#[.int .i64 v]) (Below w.heap.size) (fun xs=>xs=cmps s x y) (fun pre=>pre<+:cmps s x y) s.length w:=by
 have HS:=Lib.hid hs
 have HX:=Lib.hid hx
 have HY:=Lib.hid hy
 have HL:=Lib.hid hL
 have HLX:=Lib.hid hlx
 have HLY:=Lib.hid hly
 clear hs hx hy hL hlx hly
 intro l J Jx W hW hJ hJx hYi h0
 have fW:Fr nob w W:=Fr.ofBelow hW
 have a1:=fW.cell h1 id
 have a2:=fW.cell h2 id
 have a3:=fW.cell h3 id
 refine callsIn_of_wp Tryz.func132 rfl trivial ?_ rfl
 simp only[Tryz.ntmps132,List.size_toArray,List.length_cons,List.length_nil,Nat.reduceAdd,Nat.reduceSub,Array.replicate_succ,Array.replicate_zero,List.push_toArray,List.append_toArray,List.nil_append,List.cons_append]
 gi_wp2
 gi_loopw [9] (fun v9 wr=>∃k:Nat,k≤s.length∧v9= .int .i64 k∧J ((cmps s x y).take k) wr∧Fr nob w wr) (fun v9 _=>s.length - (intOf v9).toNat)
 case atStart=>exact ⟨0,Nat.zero_le _,rfl,h0,fW⟩
 case round=>
  obtain ⟨k,hk,rfl,hJk,hf⟩:=hrel
  by_cases hlt:k<s.length
  · have hlx:k<x.length:=by rw[HLX.out];exact hlt
    have hly:k<y.length:=by rw[HLY.out];exact hlt
    obtain ⟨b1,o1,rfl,_,_,_,c0,c1⟩:=col_at (HS.out.frN rCol_ok hf) hlt
    obtain ⟨w2,hw2⟩:∃w2,w2=wr.alloc (.cells #[.string (bs s[k].name), .int .i64 s[k].kind] 71 (0,0)):=⟨_,rfl⟩
    have hB:=heap_new wr (.cells #[.string (bs s[k].name), .int .i64 s[k].kind] 71 (0,0))
    have hf2:Fr nob wr w2:=by rw[hw2];exact (Fr.refl nob wr).alloc _
    rw[←hw2] at hB
    have g2:=hf.andN hf2
    obtain ⟨b2,o2,rfl,_,hn2,ht2,d0,d1⟩:=cel_at (HX.out.frN rCel_ok g2) hlx
    obtain ⟨b3,o3,rfl,_,hn3,ht3,e0,e1⟩:=cel_at (HY.out.frN rCel_ok g2) hly
    have hcc:=fun w hw=>cellCmp_any s[k].kind x[k] y[k] w ht2 ht3 hn2 hn3 hw
    have hct:=cmps_take_succ HLX.out HLY.out hlt
    obtain ⟨z,hz⟩:∃z,z=wr.heap.size:=⟨_,rfl⟩
    rw[←hz] at hB
    have q1:∀v,Fr nob w2 v→v.cell? ⟨z,1,none⟩=some (.int .i64 s[k].kind):=fun v hv=>by have:=cell_of (hv.heap hB id) 1;simpa using this
    have q2:∀v,Fr nob w2 v→v.cell? ⟨b2,o2+k*2,none⟩=some (.int .u64 x[k].num):=fun v hv=>(cel_cells HX.out hlx (g2.andN hv)).1
    have q3:∀v,Fr nob w2 v→v.cell? ⟨b2,o2+k*2+1,none⟩=some (.string (bs x[k].text)):=fun v hv=>(cel_cells HX.out hlx (g2.andN hv)).2
    have q4:∀v,Fr nob w2 v→v.cell? ⟨b3,o3+k*2,none⟩=some (.int .u64 y[k].num):=fun v hv=>(cel_cells HY.out hly (g2.andN hv)).1
    have q5:∀v,Fr nob w2 v→v.cell? ⟨b3,o3+k*2+1,none⟩=some (.string (bs y[k].text)):=fun v hv=>(cel_cells HY.out hly (g2.andN hv)).2
    have q6:∀v,Fr nob w2 v→v.cell? ⟨p2,0,none⟩=some (.slice (some ⟨b2,o2,none⟩) x.length cb):=fun v hv=>(g2.andN hv).cell h2 id
    have q7:∀v,Fr nob w2 v→v.cell? ⟨p3,0,none⟩=some (.slice (some ⟨b3,o3,none⟩) y.length cc):=fun v hv=>(g2.andN hv).cell h3 id
    have HLw:=Lib.hid (HL.out.frN g2)
    have HCT:=Lib.hid hct
    have HJ:=Lib.hid hJk
    unfold celVal at hcc
    clear hct hB d0 d1 e0 e1 hn2 hn3 ht2 ht3 h2 h3 a1 a2 a3 hJk
    generalize cellCmp s[k].kind x[k] y[k]=cv at hcc HCT
    generalize s[k].kind=kd at hcc c1 hw2 q1
    generalize x[k].num=xn at hcc q2
    generalize x[k].text=xt at hcc q3
    generalize y[k].num=yn at hcc q4
    generalize y[k].text=yt at hcc q5
    generalize s[k].name=sn at c0 hw2
    gi_wp2
    rw[←hz,←hw2]
    clear hw2 hz c0 c1
    refine wpIn_region3 rfl (fun _=>trivial) [0] [1,2,3,4,5,6,7,8,9,10] [11,12,13] (Fr nob w2) rfl (by kernel_rfl) (fun c a d v w h=>by cases d<;>exact h) ((Fr.refl nob w2).drew) (fun ops hops=>?_)
    apply wpA3_free _ _ (by rw[hops.out];rfl) (Wants.plain rfl)
    focus (intro x hx;go_simp;rfl)
    go_simp
    apply wpA3_nil
    repeat (apply wpX3_free _ _ (by rw[hops.out];rfl) (Wants.plain rfl);(focus (intro x hx;go_simp;rfl));go_simp)
    apply wpX3_nil
    refine wpT3_act _ (by rw[hops.out];rfl) (Wants.plain rfl) (fun K hK=>?_)
    gi_wp2_with fail
    refine ⟨trivial,(fun h=>by cases h),?_⟩
    refine (callsIn_wide.2 (hcc _ (HLw.out.frN (Fr.refl nob w2).drew))).mono ?_
    rintro e w3 ⟨rfl,hf3⟩
    have g3:Fr nob w2 w3:=(Fr.refl nob w2).drew.andN hf3
    refine hK _ _ ?_
    clear hK hcc
    go_simp
    have hJ3:J ((cmps s x y).take k) w3:=hJ _ _ _ none HJ.out (grown_fr (hf2.andN g3)) (fun r e=>by cases e)
    have hlen:((cmps s x y).take k).length<s.length:=by rw[List.length_take];omega
    obtain ⟨fn,tmps,assign,body,hyy,hR⟩:=hYi _ cv w3 hJ3 hlen
    refine wpT3_act _ (by rw[hops.out];rfl) (Wants.plain rfl) (fun K hK=>?_)
    gi_wp2_with fail
    refine ⟨(fun h=>by cases h),hR.mono ?_⟩
    rintro e w4 (⟨rfl,hJ4,hk4⟩ | ⟨rfl,hJx4⟩)
    · have f3:=g2.andN g3
      have f34:Fr nob w w4:=⟨hk4.os.trans f3.os,hk4.tape.trans f3.tape,hk4.output.trans f3.output,Nat.le_trans f3.size hk4.size,fun j hj _=>(hk4.block j hj).trans (f3.block j hj id)⟩
      refine hK _ _ ?_
      clear hK
      go_simp
      refine wpT3_act _ (by rw[hops.out];rfl) (Wants.plain rfl) (fun K hK=>?_)
      gi_wp2
      apply wpT3_nil
      gi_wp2
      go_roundw
      case rel=>exact ⟨k+1,by omega,by go_num,by rw[HCT.out];exact hJ4,f34⟩
      case measure=>simp[intOf];omega
    · refine hK _ _ ?_
      clear hK
      go_simp
      refine wpT3_act _ (by rw[hops.out];rfl) (Wants.plain rfl) (fun K hK=>?_)
      gi_wp2
      apply wpT3_nil
      gi_wp2
      refine bodyPost_ret (results_none rfl _ _ _) rfl ?_
      exact ⟨⟨_,rfl⟩, .inr ⟨_,by rw[←HCT.out];exact List.take_prefix _ _,hJx4⟩⟩
  · gi_wp2
    go_end0
    refine ⟨⟨_,rfl⟩,Or.inl ⟨_,rfl,?_⟩⟩
    rw[List.take_of_length_le (by rw[cmps_len HLX.out HLY.out];omega)] at hJk
    exact hJk
end Go.Proofs.YtibpkfnfcdbiiaaGreatDoor
namespace Go.Proofs.YtibpkfnfcdbiiaaGreatDoor
set_option linter.unusedSimpArgs false
open Go.RowKit Go.Shelf
attribute [local go_sem] Oper.semAt_some
set_option linter.unusedVariables false
def firstNZ:List Int→Int
 | []=>0
 | x::r=>if x=0 then firstNZ r else x
theorem firstNZ_zero {l:List Int} (h:∀x∈l,x=0):firstNZ l=0:=by
 induction l with
 | nil=>rfl
 | cons x l ih=>unfold firstNZ;rw[if_pos (h x (by simp))];exact ih (fun y hy=>h y (List.mem_cons_of_mem _ hy))
theorem firstNZ_append {l r:List Int} (h:∀x∈l,x=0):firstNZ (l++r)=firstNZ r:=by
 induction l with
 | nil=>rfl
 | cons x l ih=>rw[List.cons_append];conv=>lhs;unfold firstNZ
                rw[if_pos (h x (by simp))];exact ih (fun y hy=>h y (List.mem_cons_of_mem _ hy))
theorem firstNZ_prefix {l r:List Int} (h:l<+:r) (hn:firstNZ l≠0):firstNZ r=firstNZ l:=by
 obtain ⟨t,rfl⟩:=h
 induction l with
 | nil=>exact absurd rfl hn
 | cons x l ih=>
   rw[List.cons_append]
   unfold firstNZ at hn ⊢
   split
   · rename_i h0;rw[if_pos h0] at hn;exact ih hn
   · rfl
def rowCmp (s:List Col) (a b:List Cel):Int:=if rowCheck s a=0∧rowCheck s b=0 then firstNZ (cmps s a b) else 0
theorem fnrun (n:Nat) (w:World):(Instr.makeFunc (Fn.func 132) #[] #[.pointer (some ⟨n,0,none⟩), .pointer (some ⟨n+1,0,none⟩), .pointer (some ⟨n+1+1,0,none⟩)]).run Tryz.prog w= .ok (.func (.func 132) #[] #[.pointer (some ⟨n,0,none⟩), .pointer (some ⟨n+1,0,none⟩), .pointer (some ⟨n+1+1,0,none⟩)]) w:=rfl
set_option maxRecDepth 100000 in
theorem orders_any (w:World) (u v x:Value) (hu:u.oneCell' =true) (hv:v.oneCell' =true) (hx:x.oneCell' =true) (au av ax:Option Addr) (nu cu nv cv nx cx:Nat) (eu:u= .slice au nu cu) (ev:v= .slice av nv cv) (ex:x= .slice ax nx cx):
 Calls Tryz.prog 99 #[u,v,x] w fun e w' =>e= .returned (.func (.func 132) #[] #[.pointer (some ⟨w.heap.size,0,none⟩), .pointer (some ⟨w.heap.size+1,0,none⟩), .pointer (some ⟨w.heap.size+1+1,0,none⟩)])∧
  Fr nob w w' ∧w'.cell? ⟨w.heap.size,0,none⟩=some u∧w'.cell? ⟨w.heap.size+1,0,none⟩=some v∧w'.cell? ⟨w.heap.size+1+1,0,none⟩=some x∧w'.heap.size=w.heap.size+3:=by
 subst eu ev ex
 have hr:=fnrun w.heap.size
 go_enter Tryz.func99,Tryz.ntmps99
 go_wp2_with fail
 go_ret
 refine ⟨rfl,(((Fr.refl nob w).alloc _).alloc _).alloc _,?_,?_,?_,by simp⟩
 · exact (cell_of (heap_old (heap_old (heap_new w _) _) _) 0)
 · have:=heap_new (w.alloc (.cells #[.slice au nu cu] 22 (0,0))) (.cells #[.slice av nv cv] 64 (0,0))
   rw[show (w.alloc (.cells #[.slice au nu cu] 22 (0,0))).heap.size=w.heap.size+1 by simp] at this
   exact (cell_of (heap_old this _) 0)
 · have:=heap_new ((w.alloc (.cells #[.slice au nu cu] 22 (0,0))).alloc (.cells #[.slice av nv cv] 64 (0,0))) (.cells #[.slice ax nx cx] 64 (0,0))
   rw[show ((w.alloc (.cells #[.slice au nu cu] 22 (0,0))).alloc (.cells #[.slice av nv cv] 64 (0,0))).heap.size=w.heap.size+1+1 by simp] at this
   exact (cell_of this 0)
set_option maxRecDepth 100000 in
set_option maxHeartbeats 2000000 in
theorem rowcmp_ok (S R R' :Nat→Prop) (w:World) (a b c:Option Addr) (ca cb cc:Nat) (s:List Col) (x y:List Cel) (hs:SV rCol 2 S w a ca s) (hx:SV rCel 2 R w b cb x) (hy:SV rCel 2 R' w c cc y)
 (hL:Laid w) (hl:s.length≤lim) (hlx:x.length≤lim) (hly:y.length≤lim) (h1:rowCheck s x=0) (h2:rowCheck s y=0) (l8:s.length≤8) (lx:x.length=s.length) (ly:y.length=s.length):
 Calls Tryz.prog 58 #[.slice a s.length ca, .slice b x.length cb, .slice c y.length cc] w fun e w' =>e= .returned (.int .i64 (firstNZ (cmps s x y)))∧Fr nob w w' :=by
 obtain ⟨w0,hw0⟩:∃w0,w0=w.alloc (.cells #[.int .i64 0] 3 (0,0)):=⟨_,rfl⟩
 have hZ:=heap_new w (.cells #[.int .i64 0] 3 (0,0))
 have hf0:Fr nob w w0:=by rw[hw0];exact (Fr.refl nob w).alloc _
 obtain ⟨z,hz⟩:∃z,z=w.heap.size:=⟨_,rfl⟩
 rw[←hw0,←hz] at hZ
 have c1:=fun v (hv:Fr nob w v)=>row_any S R v a b ca cb s x (hs.frN rCol_ok hv) (hx.frN rCel_ok hv) (hL.frN hv) hl hlx
 have c2:=fun v (hv:Fr nob w v)=>row_any S R' v a c ca cc s y (hs.frN rCol_ok hv) (hy.frN rCel_ok hv) (hL.frN hv) hl hly
 rw[h1] at c1
 rw[h2] at c2
 have HS:=Lib.hid hs
 have HX:=Lib.hid hx
 have HY:=Lib.hid hy
 have HL:=Lib.hid hL
 have HZ:=Lib.hid hZ
 have HLX:=Lib.hid lx
 have HLY:=Lib.hid ly
 have Hz:=Lib.hid hz
 clear hs hx hy hL hZ lx ly h1 h2
 refine (callsIn_wide (n:=3)).1 ?_
 refine callsIn_of_wp_marks Tryz.func58 rfl trivial ?_ rfl
 simp only[Tryz.ntmps58,List.size_toArray,List.length_cons,List.length_nil,Nat.reduceAdd,Nat.reduceSub,Array.replicate_succ,Array.replicate_zero,List.push_toArray,List.append_toArray,List.nil_append,List.cons_append]
 gi_wp2_with fail
 rw[←hz,←hw0]
 clear hw0 hz
 refine ⟨trivial,?_⟩
 refine (callsIn_wide.2 (c1 _ hf0)).mono ?_
 rintro e w1 ⟨rfl,hf1⟩
 gi_wp2_with fail
 refine ⟨trivial,?_⟩
 refine (callsIn_wide.2 (c2 _ (hf0.andN hf1))).mono ?_
 rintro e w2 ⟨rfl,hf2⟩
 clear c1 c2
 gi_wp2_with fail
 refine ⟨trivial,?_⟩
 refine (callsIn_wide.2 (orders_any w2 _ _ _ rfl rfl rfl _ _ _ _ _ _ _ _ _ rfl rfl rfl)).mono ?_
 rintro e w3 ⟨rfl,hf3,k1,k2,k3,hsz⟩
 have f3:=(hf0.andN hf1).andN (hf2.andN hf3)
 have hB0:Below w.heap.size w w3:=f3.below
 have hz3:=f3.size
 have hZ3:=(hf1.andN (hf2.andN hf3)).heap HZ.out id
 have cz:=cell_of hZ3 0
 have fz:=frozen_of hZ3 0
 simp at cz
 have HZ3:=heap_lt hZ3
 have Hcz:=Lib.hid cz
 have Hfz:=Lib.hid fz
 have K1:=Lib.hid k1
 have K2:=Lib.hid k2
 have K3:=Lib.hid k3
 clear cz fz k1 k2 k3 hZ3
 gi_wp2_with fail
 refine wpIn_rangeFunc_ownF rfl (by omega) (gf:=132) (lb:=#[.pointer (some ⟨w2.heap.size,0,none⟩), .pointer (some ⟨w2.heap.size+1,0,none⟩), .pointer (some ⟨w2.heap.size+1+1,0,none⟩)]) rfl trivial (enters_of Tryz.func132 (by kernel_rfl) rfl)
  (orders_stops _ S R R' w3 _ _ _ a b c ca cb cc s x y (HS.out.frN rCol_ok f3) (HX.out.frN rCel_ok f3) (HY.out.frN rCel_ok f3) (HL.out.frN f3) l8 HLX.out HLY.out K1.out K2.out K3.out) belowK_t (belowK_b (Nat.le_refl _)) (Below.refl _ _) (fun _=>rfl)
  (fun pre W=>((∀v∈pre,v=0)∧W.cell? ⟨z,0,none⟩=some (.int .i64 0)∧W.frozen? ⟨z,0,none⟩=false)∧Below w.heap.size w W)
  (fun cd pre W=>(cd= .ret∧firstNZ pre≠0∧W.cell? ⟨z,0,none⟩=some (.int .i64 (firstNZ pre)))∧Below w.heap.size w W)
  (OwnFrom.and (Own.from (fun s A B row hs hg hr=>⟨hs.1,cell_kept hs.2.1 hg hr,(frozen_kept hs.2.1 hg hr).trans hs.2.2⟩) _) (ownFrom_below (Nat.le_refl _) hz3))
  (fun c=>OwnFrom.and (Own.from (fun s A B row hs hg hr=>⟨hs.1,hs.2.1,cell_kept hs.2.2 hg hr⟩) _) (ownFrom_below (Nat.le_refl _) hz3))
  ⟨⟨by simp,Hcz.out,Hfz.out⟩,hB0⟩
  (fun v=>{tmps:=#[.slice a s.length ca, .slice b x.length cb, .slice c y.length cc,undef,undef,undef, .pointer (some ⟨z,0,none⟩), .int .i64 v, .slice a s.length ca, .slice b x.length cb, .int .i64 0, .bool false, .bool false, .slice a s.length ca, .slice c y.length cc, .int .i64 0, .bool false, .bool false, .slice a s.length ca, .slice b x.length cb, .slice c y.length cc, .func (.func 132) #[] #[.pointer (some ⟨w2.heap.size,0,none⟩), .pointer (some ⟨w2.heap.size+1,0,none⟩), .pointer (some ⟨w2.heap.size+1+1,0,none⟩)], .int .i64 v,undef,undef,undef],defers:=[]}) ?assign ?body ?done ?stop
 case assign=>
  intro l v W K hK
  gi_wp2
  exact hK
 case body=>
  rintro l pre v W ⟨⟨hp,hcr,hfr⟩,hB⟩ _
  by_cases hv:v=0
  · subst hv
    gi_wp2
    exact ⟨KeepsOthers.refl _,Below.refl _ _,⟨fun y hy=>(List.mem_append.1 hy).elim (hp y) (fun e=>by simpa using e),hcr,hfr⟩,hB⟩
  · have hd:(v != 0)=true:=by rw[bne_iff_ne];exact hv
    have hnz:firstNZ (pre++[v])=v:=by rw[firstNZ_append hp];unfold firstNZ;rw[if_neg hv]
    have Hnz:=Lib.hid hnz
    clear hnz
    gi_wp2
    exact ⟨KeepsOthers.setCell _ _ _,⟨rfl,by rw[Hnz.out];exact hv,by rw[Hnz.out];exact World.cell?_setCell_same' _ _ _ (by rw[hcr];rfl)⟩,hB.setCell (p:=⟨z,0,none⟩) (by rw[Hz.out];exact Nat.le_refl _) _⟩
 case done=>
  rintro D ys W hD rfl ⟨⟨hne,hcr,hfr⟩,hB⟩ hK
  have hE:=firstNZ_zero hne
  have HE:=Lib.hid hE
  clear hE
  gi_wp2
  have hK' :=(KeepsOthers.setCell W ⟨z,0,none⟩ (.int .i64 0)).same D _ hK rfl
  refine ⟨by simp, .inl ⟨_,_,rfl,run_takeDeferred hK',?_⟩⟩
  have hc5:=cell_kept (World.cell?_setCell_same' W ⟨z,0,none⟩ (.int .i64 0) (by rw[hcr];rfl)) (grownBy_putObj' _ D (.deferred none)) (fun r e=>by cases e;exact ⟨_,hK',rfl⟩)
  refine ⟨.int .i64 0,?_,by rw[HE.out],Fr.ofBelow ((hB.setCell (p:=⟨z,0,none⟩) (by rw[Hz.out];exact Nat.le_refl _) _).trans (belowK_b (w:=w) (Nat.le_refl _) _ D _ _ (by omega) hK' rfl rfl))⟩
  simp[results,Tryz.f58,go_sem,hc5]
 case stop=>
  rintro D cd pre W hD hpre ⟨⟨rfl,hin,hcr⟩,hB⟩ hK
  have hE:=firstNZ_prefix hpre hin
  have HE:=Lib.hid hE
  clear hE
  gi_wp2
  refine ⟨by simp, .inl ⟨_,_,rfl,run_takeDeferred hK,?_⟩⟩
  have hc5:=cell_kept hcr (grownBy_putObj' _ D (.deferred none)) (fun r e=>by cases e;exact ⟨_,hK,rfl⟩)
  refine ⟨.int .i64 (firstNZ pre),?_,by rw[HE.out],Fr.ofBelow (hB.trans (belowK_b (w:=w) (Nat.le_refl _) W D _ _ (by omega) hK rfl rfl))⟩
  simp[results,Tryz.f58,go_sem,hc5]
theorem schemaCheck_le {s:List Col} (h:schemaCheck s=0):s.length≠0∧s.length≤8:=by
 unfold schemaCheck at h
 split at h
 · cases h
 · split at h
   · cases h
   · exact ⟨by omega,by omega⟩
theorem rowCheck_zero {s:List Col} {r:List Cel} (h:rowCheck s r=0):schemaCheck s=0∧r.length=s.length∧rowGo s r=0:=by
 unfold rowCheck at h
 split at h
 · rename_i h1
   split at h
   · rename_i h2;exact ⟨h1,h2,h⟩
   · cases h
 · rename_i h1;exact absurd h h1
set_option maxRecDepth 100000 in
set_option maxHeartbeats 2000000 in
theorem rowcmp_any (S R R' :Nat→Prop) (w:World) (a b c:Option Addr) (ca cb cc:Nat) (s:List Col) (x y:List Cel) (hs:SV rCol 2 S w a ca s) (hx:SV rCel 2 R w b cb x) (hy:SV rCel 2 R' w c cc y)
 (hL:Laid w) (hl:s.length≤lim) (hlx:x.length≤lim) (hly:y.length≤lim):
 Calls Tryz.prog 58 #[.slice a s.length ca, .slice b x.length cb, .slice c y.length cc] w fun e w' =>e= .returned (.int .i64 (rowCmp s x y))∧Fr nob w w' :=by
 have c1:=fun v (hv:Fr nob w v)=>row_any S R v a b ca cb s x (hs.frN rCol_ok hv) (hx.frN rCel_ok hv) (hL.frN hv) hl hlx
 have c2:=fun v (hv:Fr nob w v)=>row_any S R' v a c ca cc s y (hs.frN rCol_ok hv) (hy.frN rCel_ok hv) (hL.frN hv) hl hly
 have hZ:=heap_new w (.cells #[.int .i64 0] 3 (0,0))
 have hf0:=(Fr.refl nob w).alloc (.cells #[.int .i64 0] 3 (0,0))
 by_cases h1:rowCheck s x=0
 · by_cases h2:rowCheck s y=0
   · have e:rowCmp s x y=firstNZ (cmps s x y):=by unfold rowCmp;rw[if_pos ⟨h1,h2⟩]
     rw[e]
     have g1:=rowCheck_zero h1
     have g2:=rowCheck_zero h2
     exact rowcmp_ok S R R' w a b c ca cb cc s x y hs hx hy hL hl hlx hly h1 h2 (schemaCheck_le g1.1).2 g1.2.1 g2.2.1
   · have e:rowCmp s x y=0:=by unfold rowCmp;rw[if_neg (fun h=>h2 h.2)]
     rw[e]
     have d2:=intne h2
     rw[h1] at c1
     clear hs hx hy hL h1 h2 e
     go_enter Tryz.func58,Tryz.ntmps58
     go_wp2_with fail
     refine (c1 _ hf0).mono ?_
     rintro e w1 ⟨rfl,hf1⟩
     go_wp2_with fail
     refine (c2 _ (hf0.andN hf1)).mono ?_
     rintro e w2 ⟨rfl,hf2⟩
     have hB:=(hf1.andN hf2).heap hZ id
     have k0:=cell_of hB 0
     have z0:=frozen_of hB 0
     simp at k0
     clear c1 c2
     go_wp2_with fail
     refine bodyPost_ret (v:= .int .i64 0) ?_ rfl ⟨rfl,((hf0.andN (hf1.andN hf2)).setCell (Or.inr (Nat.le_refl _)) _)⟩
     have hc:=cell_of (heap_set hB 0 (.int .i64 0)) 0
     simp at hc
     simp[results,Tryz.f58,go_sem,hc]
 · have e:rowCmp s x y=0:=by unfold rowCmp;rw[if_neg (fun h=>h1 h.1)]
   rw[e]
   have d1:=intne h1
   clear hs hx hy hL h1 e c2
   go_enter Tryz.func58,Tryz.ntmps58
   go_wp2_with fail
   refine (c1 _ hf0).mono ?_
   rintro e w1 ⟨rfl,hf1⟩
   have hB:=hf1.heap hZ id
   have k0:=cell_of hB 0
   have z0:=frozen_of hB 0
   simp at k0
   clear c1
   go_wp2_with fail
   refine bodyPost_ret (v:= .int .i64 0) ?_ rfl ⟨rfl,((hf0.andN hf1).setCell (Or.inr (Nat.le_refl _)) _)⟩
   have hc:=cell_of (heap_set hB 0 (.int .i64 0)) 0
   simp at hc
   simp[results,Tryz.f58,go_sem,hc]
end Go.Proofs.YtibpkfnfcdbiiaaGreatDoor
namespace Go.Proofs.YtibpkfnfcdbiiaaGreatDoor
set_option linter.unusedSimpArgs false
open Go.RowKit
set_option linter.unusedVariables false
def zGo (s:List Col):Option (List Cel)→List Pr→Nat
 | _,[]=>0
 | prev,p::l=>if rowCheck s p.row=0 then (if p.weight=0 then 2 else if (match prev with | some q=>decide (0≤rowCmp s q p.row) | none=>false)=true then 9 else zGo s (some p.row) l) else rowCheck s p.row
def zCheck (s:List Col) (l:List Pr):Nat:=if schemaCheck s=0 then (if 1024<l.length then 13 else zGo s none l) else schemaCheck s
def prevRow (l:List Pr):Nat→Option (List Cel)
 | 0=>none
 | k+1=>l[k]?.map (·.row)
set_option maxRecDepth 100000 in
set_option maxHeartbeats 4000000 in
theorem zcheck_any (S R:Nat→Prop) (w:World) (a b:Option Addr) (ca cb:Nat) (s:List Col) (l:List Pr) (hs:SV rCol 2 S w a ca s) (hr:SV rPr 2 R w b cb l) (hL:Laid w) (hl:s.length≤lim) (hll:l.length≤lim):
 Calls Tryz.prog 65 #[.slice a s.length ca, .slice b l.length cb] w fun e w' =>e= .returned (.int .i64 (zCheck s l))∧Fr nob w w' :=by
 obtain ⟨E,hE⟩:∃E,E=zCheck s l:=⟨_,rfl⟩
 rw[←hE]
 have hc:=schema_any S w a ca s hs hL hl
 have HE:=Lib.hid hE
 have HS:=Lib.hid hs
 have HR:=Lib.hid hr
 have HL:=Lib.hid hL
 have HLIM:=Lib.hid hl
 unfold lim at hl hll
 clear hE hs hr hL
 by_cases h1:schemaCheck s=0
 · rw[h1] at hc
   by_cases h2:1024<l.length
   · have hEE:E=13:=by rw[HE.out];unfold zCheck;rw[if_pos h1,if_pos h2]
     clear HE h1
     subst hEE
     go_enter Tryz.func65,Tryz.ntmps65
     go_wp2_with fail
     refine hc.mono ?_
     rintro e w1 ⟨rfl,hf1⟩
     go_wp2_with fail
     go_ret
     exact ⟨rfl,hf1⟩
   · have hEE:E=zGo s (prevRow l 0) (l.drop 0):=by rw[HE.out];unfold zCheck;rw[if_pos h1,if_neg h2];rfl
     have HEE:=Lib.hid hEE
     clear HE hEE h1
     go_enter Tryz.func65,Tryz.ntmps65
     go_wp2_with fail
     refine hc.mono ?_
     rintro e w1 ⟨rfl,hf1⟩
     go_wp2_with fail
     go_loopw [19] (fun v19 wr=>∃k:Nat,k≤l.length∧v19= .int .i64 k∧E=zGo s (prevRow l k) (l.drop k)∧Fr nob w wr) (fun v19 _=>l.length - (intOf v19).toNat)
     case atStart=>exact ⟨0,Nat.zero_le _,rfl,HEE.out,hf1⟩
     case round=>
      obtain ⟨k,hk,rfl,hEk,hf⟩:=hrel
      have HEk:=Lib.hid hEk
      clear hEk HEE hc
      by_cases hlt:k<l.length
      · have hE2:E=if rowCheck s l[k].row=0 then (if l[k].weight=0 then 2 else if (match prevRow l k with | some q=>decide (0≤rowCmp s q l[k].row) | none=>false)=true then 9 else zGo s (prevRow l (k+1)) (l.drop (k+1))) else rowCheck s l[k].row:=by
         rw[HEk.out,List.drop_eq_getElem_cons hlt,show prevRow l (k+1)=some l[k].row by simp[prevRow,hlt]]
         simp only[zGo]
        have HE2:=Lib.hid hE2
        obtain ⟨b1,o1,ra,rc,rfl,_,hw64,hrl,hrow,c0,c1⟩:=pr_at (HR.out.frN rPr_ok hf) hlt
        have hprev:0<k→∃pa pc q,prevRow l k=some q∧SV rCel 2 R wr pa pc q∧q.length≤lim∧wr.cell? ⟨b1,o1+(k - 1)*2,none⟩=some (.slice pa q.length pc):=fun hpos=>by
         obtain ⟨b2,o2,pa,pc,e2,_,_,hpl,hp,d0,_⟩:=pr_at (k:=k - 1) (HR.out.frN rPr_ok hf) (by omega)
         cases e2
         refine ⟨pa,pc,_,?_,hp,hpl,d0⟩
         obtain ⟨m,rfl⟩:∃m,k=m+1:=⟨k - 1,by omega⟩
         simp[prevRow,show m<l.length by omega]
        obtain ⟨w2,hw2⟩:∃w2,w2=wr.alloc (.cells #[.slice ra l[k].row.length rc, .int .i64 l[k].weight] 66 (0,0)):=⟨_,rfl⟩
        have hB:=heap_new wr (.cells #[.slice ra l[k].row.length rc, .int .i64 l[k].weight] 66 (0,0))
        have hf2:Fr nob wr w2:=by rw[hw2];exact (Fr.refl nob wr).alloc _
        rw[←hw2] at hB
        have g2:=hf.andN hf2
        have hck:=fun v (hv:Fr nob w2 v)=>row_any S R v a ra ca rc s l[k].row (HS.out.frN rCol_ok (g2.andN hv)) (hrow.frN rCel_ok (hf2.andN hv)) (HL.out.frN (g2.andN hv)) HLIM.out hrl
        have HROW:=Lib.hid hrow
        have HRL:=Lib.hid hrl
        obtain ⟨z,hz⟩:∃z,z=wr.heap.size:=⟨_,rfl⟩
        rw[←hz] at hB
        have Hz:=Lib.hid hz
        unfold lim at hrl
        have HP:=Lib.hid hprev
        clear hE2 HEk hrow hprev
        generalize l[k].row=row at hck hrl HE2 c0 hw2 hB HROW HRL HP
        generalize hwt:l[k].weight=wt at HE2 c1 hw2 hB hw64
        clear hwt
        generalize rowCheck s row=cc at hck HE2
        unfold I64 at hw64
        have k0:=cell_of hB 0
        have k1:=cell_of hB 1
        simp at k0 k1
        go_wp2_with fail
        rw[←hz,←hw2]
        clear hw2 hz
        refine (hck _ (Fr.refl nob w2)).mono ?_
        rintro e w3 ⟨rfl,hf3⟩
        have g3:=g2.andN hf3
        have hB3:=hf3.heap hB id
        have k0:=cell_of hB3 0
        have k1:=cell_of hB3 1
        simp at k0 k1
        clear hck hB c0 c1
        by_cases hcz:cc=0
        · have dz:=inteq hcz
          by_cases hw0:wt=0
          · have hEE:E=2:=by rw[HE2.out,if_pos hcz,if_pos hw0]
            have HEE' :=Lib.hid hEE
            subst hw0
            clear hEE HE2 hcz
            go_wp2_with fail
            go_ret
            exact ⟨by rw[HEE'.out];rfl,g3⟩
          · have hE3:E=if (match prevRow l k with | some q=>decide (0≤rowCmp s q row) | none=>false)=true then 9 else zGo s (prevRow l (k+1)) (l.drop (k+1)):=by rw[HE2.out,if_pos hcz,if_neg hw0]
            have HE3:=Lib.hid hE3
            have dw:(wt == 0)=false:=by rw[beq_eq_false_iff_ne];exact hw0
            clear hE3 HE2 hcz hw0
            by_cases hk0:k=0
            · subst hk0
              have hE4:E=zGo s (prevRow l 1) (l.drop 1):=by rw[HE3.out];simp[prevRow]
              have HE4:=Lib.hid hE4
              clear hE4 HE3
              go_wp2_with fail
              refine wp_region_ord [(0,true),(1,true),(2,true),(3,true),(4,true),(5,true),(6,true),(7,true),(8,true),(9,true),(10,true),(11,true),(12,false),(13,true),(14,true),(15,true)] (Fr nob _) rfl (by kernel_rfl) (by kernel_rfl) (by decide) (fun c a d v w h=>by cases d<;>exact h) ((Fr.refl nob _).drew) (fun ops hops hS=>?_)
              repeat (first | (apply oF hops (by rfl) (by first | exact .plain rfl | exact .y hops rfl rfl rfl rfl);(focus (intro x hx;go_simp;rfl));go_simp) | (apply oS hops (by rfl) (by first | exact .n hops rfl rfl rfl rfl | exact .u hops rfl rfl rfl rfl);go_simp) | (apply oP hops (by rfl) (by first | exact .n hops rfl rfl rfl rfl | exact .u hops rfl rfl rfl rfl) (by assumption);go_simp))
              apply wpOrd_nil
              go_wp2_with fail
              go_roundw
              case rel=>exact ⟨1,by omega,by go_num,HE4.out,g3.drew⟩
              case measure=>simp[intOf];omega
            · obtain ⟨pa,pc,q,hq,hpv,hql,d0⟩:=HP.out (by omega)
              have hcmp:=fun v (hv:Fr nob w3 v)=>rowcmp_any S R R v a pa ra ca pc rc s q row (HS.out.frN rCol_ok (g3.andN hv)) (hpv.frN rCel_ok (hf2.andN (hf3.andN hv))) (HROW.out.frN rCel_ok (hf2.andN (hf3.andN hv))) (HL.out.frN (g3.andN hv)) HLIM.out hql HRL.out
              have hE4:E=if 0≤rowCmp s q row then 9 else zGo s (prevRow l (k+1)) (l.drop (k+1)):=by rw[HE3.out,hq];simp
              have HE4:=Lib.hid hE4
              clear hE4 HE3
              generalize rowCmp s q row=cm at hcmp HE4
              have hd:decide (0<k)=true:=decide_eq_true (by omega)
              have hk1:IntKind.i64.wrap ((k:Int) - 1)=((k - 1:Nat):Int):=by rw[IntWalk.i64_in _ (by omega)];omega
              obtain ⟨m,hm⟩:∃m,m=k - 1:=⟨_,rfl⟩
              rw[←hm] at hk1 d0
              have hml:m<l.length:=by omega
              have q0:∀v,Fr nob w3 v→v.cell? ⟨b1,o1+m*2,none⟩=some (.slice pa q.length pc):=fun v hv=>(hf2.andN (hf3.andN hv)).cell d0 id
              have q1:∀v,Fr nob w3 v→v.cell? ⟨z,0,none⟩=some (.slice ra row.length rc):=fun v hv=>hv.cell k0 id
              clear hpv hql hq d0 HP hB3 hm
              go_wp2_with fail
              refine wp_region_ord [(0,true),(1,true),(2,true),(3,true),(4,true),(5,true),(6,true),(7,true),(8,true),(9,true),(10,true),(11,true),(12,false),(13,true),(14,true),(15,true)] (Fr nob _) rfl (by kernel_rfl) (by kernel_rfl) (by decide) (fun c a d v w h=>by cases d<;>exact h) ((Fr.refl nob _).drew) (fun ops hops hS=>?_)
              repeat (first | (apply oF hops (by rfl) (by first | exact .plain rfl | exact .y hops rfl rfl rfl rfl);(focus (intro x hx;go_simp;rfl));go_simp) | (apply oS hops (by rfl) (by first | exact .n hops rfl rfl rfl rfl | exact .u hops rfl rfl rfl rfl);go_simp) | (apply oP hops (by rfl) (by first | exact .n hops rfl rfl rfl rfl | exact .u hops rfl rfl rfl rfl) (by assumption);go_simp))
              refine oA hops (by rfl) (by first | exact .plain rfl | exact .y hops rfl rfl rfl rfl) (fun K hK=>?_)
              go_wp2_with fail
              refine (hcmp _ (Fr.refl nob w3).drew).mono ?_
              rintro e w4 ⟨rfl,hf4⟩
              have g4:Fr nob w3 w4:=(Fr.refl nob w3).drew.andN hf4
              refine hK _ _ ⟨_,fun _ h=>h,g4,?_⟩
              clear hK
              go_simp
              repeat (first | (apply oF hops (by rfl) (by first | exact .plain rfl | exact .y hops rfl rfl rfl rfl);(focus (intro x hx;go_simp;rfl));go_simp) | (apply oS hops (by rfl) (by first | exact .n hops rfl rfl rfl rfl | exact .u hops rfl rfl rfl rfl);go_simp) | (apply oP hops (by rfl) (by first | exact .n hops rfl rfl rfl rfl | exact .u hops rfl rfl rfl rfl) (by assumption);go_simp))
              apply wpOrd_nil
              by_cases hcm:0≤cm
              · have hEE:E=9:=by rw[HE4.out,if_pos hcm]
                have HEE' :=Lib.hid hEE
                have dd:decide (0≤cm)=true:=decide_eq_true hcm
                have dd2:decide (cm<0)=false:=decide_eq_false (by omega)
                clear hEE HE4
                go_wp2_with fail
                go_ret
                exact ⟨by rw[HEE'.out];rfl,g3.andN g4⟩
              · have hEE:E=zGo s (prevRow l (k+1)) (l.drop (k+1)):=by rw[HE4.out,if_neg hcm]
                have HEE' :=Lib.hid hEE
                have dd:decide (0≤cm)=false:=decide_eq_false hcm
                have dd2:decide (cm<0)=true:=decide_eq_true (by omega)
                clear hEE HE4
                go_wp2_with fail
                go_roundw
                case rel=>exact ⟨k+1,by omega,by go_num,HEE'.out,g3.andN g4⟩
                case measure=>simp[intOf];omega
        · have hEE:E=cc:=by rw[HE2.out,if_neg hcz]
          have HEE' :=Lib.hid hEE
          have dz:=intne hcz
          clear hEE HE2
          go_wp2_with fail
          go_ret
          exact ⟨by rw[HEE'.out];rfl,g3⟩
      · have hEE:E=0:=by rw[HEk.out,List.drop_of_length_le (by omega)];rfl
        have HEE' :=Lib.hid hEE
        clear hEE HEk
        go_wp2_with fail
        go_ret
        exact ⟨by rw[HEE'.out];rfl,hf⟩
 · have hEE:E=schemaCheck s:=by rw[HE.out];unfold zCheck;rw[if_neg h1]
   have HEE:=Lib.hid hEE
   have d1:=intne h1
   clear HE hEE
   go_enter Tryz.func65,Tryz.ntmps65
   go_wp2_with fail
   refine hc.mono ?_
   rintro e w1 ⟨rfl,hf1⟩
   go_wp2_with fail
   go_ret
   exact ⟨by rw[HEE.out];rfl,hf1⟩
end Go.Proofs.YtibpkfnfcdbiiaaGreatDoor
