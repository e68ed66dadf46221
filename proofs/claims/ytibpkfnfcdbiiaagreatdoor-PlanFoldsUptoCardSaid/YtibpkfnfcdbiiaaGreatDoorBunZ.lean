/- Two cursors compared, whatever numbers they hold. decklelaw18.alive. Contracts of cursor.Find, Valid, Start and Last. Contracts of cursor.Start and Last. A written trace's places are found, and no others. No program in sight. -/
import Derived.Test.YtibpkfnfcdbiiaaGreatDoorChecked
import Derived.Test.YtibpkfnfcdbiiaaGreatDoorBunA
import Derived.Test.YtibpkfnfcdbiiaaGreatDoorBunX
import Derived.Test.YtibpkfnfcdbiiaaGreatDoorBunV
import Derived.Test.YtibpkfnfcdbiiaaGreatDoorBunW
namespace Go.Proofs.YtibpkfnfcdbiiaaGreatDoor
set_option linter.unusedSimpArgs false
open Go.RowKit
set_option linter.unusedVariables false
set_option maxRecDepth 100000 in
theorem curI_eqIn (d:Nat) (s o p s' o' p' :Int) (w:World):(Op.equalIn (d+1+1) 53 (.agg #[.int .i64 s, .int .i64 o, .int .u32 p]) (.agg #[.int .i64 s', .int .i64 o', .int .u32 p'])).run Tryz.prog w= .ok (decide (s=s' ∧o=o' ∧p=p')) w:=by
 simp[Op.equalIn,run_underlying Tryz.underlying53,part,isAgg,run_underlying Tryz.underlying2,run_underlying Tryz.underlying51]
 by_cases h1:s=s' <;>by_cases h2:o=o' <;>by_cases h3:p=p' <;>simp[h1,h2,h3]
theorem curI_equal (s o p s' o' p' :Int) (w:World):(Op.equal 53 (.agg #[.int .i64 s, .int .i64 o, .int .u32 p]) (.agg #[.int .i64 s', .int .i64 o', .int .u32 p'])).run Tryz.prog w= .ok (decide (s=s' ∧o=o' ∧p=p')) w:=curI_eqIn 9998 s o p s' o' p' w
theorem curI_eql (s o p s' o' p' :Int) (w:World):(binOp .eql 53 (.agg #[.int .i64 s, .int .i64 o, .int .u32 p]) (.agg #[.int .i64 s', .int .i64 o', .int .u32 p'])).run Tryz.prog w= .ok (.bool (decide (s=s' ∧o=o' ∧p=p'))) w:=by
 have h:=curI_equal s o p s' o' p' w
 simp only[binOp]
 simp[h]
theorem curI_neq (s o p s' o' p' :Int) (w:World):(binOp .neq 53 (.agg #[.int .i64 s, .int .i64 o, .int .u32 p]) (.agg #[.int .i64 s', .int .i64 o', .int .u32 p'])).run Tryz.prog w= .ok (.bool (!decide (s=s' ∧o=o' ∧p=p'))) w:=by
 have h:=curI_equal s o p s' o' p' w
 simp only[binOp]
 simp[h]
theorem curBytes_alive:curBytes 1 30 5=[67,1,30,5,0,0,0]:=by
 unfold curBytes
 rw[uv_small (by omega),uv_small (by omega)]
 rfl
set_option maxRecDepth 100000 in
set_option maxHeartbeats 2000000 in
theorem cursor_alive (w:World):Calls Tryz.prog 21 #[] w fun e w' =>e= .returned (.bool true)∧Fr nob w w' :=by
 have hlen:(crcSeal (curBytes 1 30 5)).length≤1099511627776:=by rw[curBytes_alive];simp[crcSeal,crcPut_len]
 have hop:=crcOpen_seal (curBytes 1 30 5)
 have hrd:=curAns_inr (curRead_write (s:=1) (o:=30) (p:=5) (by omega) (by omega) (by omega))
 have HOP:=Lib.hid hop
 have HRD:=Lib.hid hrd
 obtain ⟨t,ht⟩:∃t,t=crcSeal (curBytes 1 30 5):=⟨_,rfl⟩
 have hw:=curwrite_any 1 30 5 (by omega) (by omega) (by omega) w
 rw[←ht] at hlen HOP HRD hw
 clear hop hrd ht
 go_enter Tryz.func21,Tryz.ntmps21
 go_wp2_with fail
 refine hw.mono ?_
 rintro e w1 ⟨a1,c1,rfl,hf1,v1⟩
 clear hw
 go_wp2_with fail
 refine (open_any _ _ _ _ t v1 hlen).mono ?_
 intro e w2 hp
 unfold OpenPost at hp
 obtain ⟨hf2,hp⟩:=hp
 rw[HOP.out] at hp
 obtain ⟨a2,c2,rfl,v2⟩:=hp
 go_wp2_with fail
 refine (curread_any _ _ _ _ t (v1.frN hf2) hlen).mono ?_
 rintro e w3 ⟨rfl,hf3⟩
 rw[HRD.out]
 unfold curAgg
 have q:∀o,(convert 27 9 (.slice a2 (curBytes 1 30 5).length c2)).run Tryz.prog (w3.alloc o)= .ok (.string ⟨#[67,1,30,5,0,0,0]⟩) (w3.alloc o):=fun o=>by
  have h:=str_of ((v2.frN hf3).frN ((Fr.refl nob w3).alloc o))
  have e:bs (curBytes 1 30 5)=⟨#[67,1,30,5,0,0,0]⟩:=by rw[curBytes_alive];rfl
  rw[e] at h
  exact h
 go_wp2_with fail
 go_ret
 exact ⟨by simp,((hf1.andN hf2).andN hf3).alloc _⟩
def findGo (q o p:Int):Nat→List Mark→Nat×Nat
 | _,[]=>(0,16)
 | k,m::r=>if m.q=q∧m.o=o∧(m.p:Int)=p then (k,0) else findGo q o p (k+1) r
def findF (D:Dec) (q o p:Int):Nat×Nat:=if D.err=0 then findGo q o p 0 D.marks else (0,D.err)
theorem findGo_at {q o p:Int}:∀(l:List Mark) (k i:Nat) (m:Mark),l[i]? =some m→m.q=q∧m.o=o∧(m.p:Int)=p→(∀j,j<i→∀x,l[j]? =some x→¬(x.q=q∧x.o=o∧(x.p:Int)=p))→findGo q o p k l=(k+i,0)
 | [],_,_,_,h,_,_=>by simp at h
 | x::r,k,0,m,h,hm,_=>by
   simp at h
   subst h
   unfold findGo
   rw[if_pos hm,Nat.add_zero]
 | x::r,k,i+1,m,h,hm,hj=>by
   unfold findGo
   rw[if_neg (hj 0 (by omega) x rfl),findGo_at r (k+1) i m (by simpa using h) hm (fun j hj' y hy=>hj (j+1) (by omega) y (by simpa using hy))]
   rw[Nat.add_right_comm,Nat.add_assoc]
theorem findGo_none {q o p:Int}:∀(l:List Mark) (k:Nat),(∀x∈l,¬(x.q=q∧x.o=o∧(x.p:Int)=p))→findGo q o p k l=(0,16)
 | [],_,_=>rfl
 | x::r,k,h=>by
   unfold findGo
   rw[if_neg (h x (List.mem_cons_self ..)),findGo_none r (k+1) (fun y hy=>h y (List.mem_cons_of_mem _ hy))]
theorem mark_at {S:Nat→Prop} {w:World} {a:Option Addr} {cap:Nat} {l:List Mark} (h:SV rMark 3 S w a cap l) {k:Nat} (hk:k<l.length):
 ∃b off,a=some ⟨b,off,none⟩∧S b∧MarkFit l[k]∧w.cell? ⟨b,off+k*3,none⟩=some (.int .i64 l[k].q)∧w.cell? ⟨b,off+k*3+1,none⟩=some (.int .i64 l[k].o)∧w.cell? ⟨b,off+k*3+2,none⟩=some (.int .u32 l[k].p):=by
 obtain ⟨b,off,c,ha,hS,⟨h1,rfl⟩,_,hc⟩:=h.get rMark_ok hk
 exact ⟨b,off,ha,hS,h1,by simpa [markCells] using hc 0 (by simp[markCells]),by simpa [markCells] using hc 1 (by simp[markCells]),by simpa [markCells] using hc 2 (by simp[markCells])⟩
theorem results_c1 {fn:Func} {b:Tmp} {ty:TypeId} (h:fn.results=#[.cell b ty]) (tmps:Array Value) (P:Program) (w:World) (p:Addr) (v:Value) (hp:tmps.getD b undef= .pointer (some p)) (hl:(loadVar ty p).run P w= .ok v w):
 (results fn tmps).run P w= .ok v w:=by
 have h1:(asAddr (tmps.getD b undef)).run P w= .ok p w:=by rw[hp];rfl
 simp only[Array.getD_eq_getD_getElem?] at h1 ⊢
 simp[results,h,h1,hl,Result.andThen]
theorem load_cur {w:World} {x:Nat} {q o p:Int} {t:TypeId} {fr:Nat×Nat} (h:w.heap[x]? =some (.cells #[.int .i64 q, .int .i64 o, .int .u32 p] t fr)):(loadVar 53 ⟨x,0,none⟩).run Tryz.prog w= .ok (.agg #[.int .i64 q, .int .i64 o, .int .u32 p]) w:=by
 have k0:=cell_of h 0
 have k1:=cell_of h 1
 have k2:=cell_of h 2
 simp at k0 k1 k2
 simp[go_sem,k0,k1,k2]
set_option maxRecDepth 100000 in
set_option maxHeartbeats 8000000 in
theorem find_any (S:Nat→Prop) (w:World) (hS:∀k,S k→k<w.heap.size) (a:Option Addr) (cap:Nat) (b:List UInt8) (hb:BV S w a cap b) (hn:b.length≤1099511627776) (hL:Laid w) (hF:Frames w) (q o p:Int):
 Calls Tryz.prog 27 #[.slice a b.length cap, .agg #[.int .i64 q, .int .i64 o, .int .u32 p]] w fun e w' =>e= .returned (.tuple #[.int .i64 ((findF (decF b) q o p).1:Nat), .int .i64 ((findF (decF b) q o p).2:Nat)])∧Fr nob w w' :=by
 obtain ⟨w1,hw1⟩:∃x1,x1=w.alloc (.cells #[.int .i64 q, .int .i64 o, .int .u32 p] 53 (0,0)):=⟨_,rfl⟩
 obtain ⟨z,hz⟩:∃x1,x1=w.heap.size:=⟨_,rfl⟩
 have hf1:Fr nob w w1:=by rw[hw1];exact (Fr.refl nob w).alloc _
 have hb1:=heap_new w (.cells #[.int .i64 q, .int .i64 o, .int .u32 p] 53 (0,0))
 rw[←hw1,←hz] at hb1
 have hm:=marks_any S w1 (fun k hk=>Nat.lt_of_lt_of_le (hS k hk) hf1.size) a cap b (hb.frN hf1) hn (hL.frN hf1) (hF.frN hf1)
 obtain ⟨D,hD⟩:∃D,D=decF b:=⟨_,rfl⟩
 rw[←hD] at hm ⊢
 obtain ⟨E,hE⟩:∃E,E=findF D q o p:=⟨_,rfl⟩
 rw[←hE]
 obtain ⟨sch,ents,marks,at_,err⟩:=D
 unfold findF at hE
 simp only at hm hE
 have HX:=Lib.hid (⟨hf1,hb1⟩:_∧_)
 have QZ:=Lib.hid (fun y (hy:Fr nob w1 y)=>hy.heap hb1 id)
 clear hb hL hF hS hf1 hb1 hD
 go_enter Tryz.func27,Tryz.ntmps27
 go_wp2_with fail
 rw[←hw1,←hz]
 clear hw1 hz
 refine hm.mono ?_
 rintro e u2 ⟨ma,mc,rfl,hf2,hv2⟩
 clear hm
 by_cases he:err=0
 · subst he
   rw[if_pos rfl] at hE
   have HE:=Lib.hid hE
   have H2:=Lib.hid hf2
   have HV:=Lib.hid (fun y (hy:Fr nob u2 y)=>hv2.frN rMark_ok hy)
   have hml:marks.length≤9223372036854775807:=by
    obtain ⟨_,_,h,_⟩:=hv2
    have h2:=h.le
    have:=h.max
    unfold maxLen at this
    omega
   clear hE hf2 hv2
   go_wp2_with fail
   go_loopw [22] (fun v22 wr=>∃k:Nat,v22= .int .i64 k∧k≤marks.length∧E=findGo q o p k (marks.drop k)∧Fr nob u2 wr) (fun v22 _=>marks.length - (intOf v22).toNat)
   case atStart=>exact ⟨0,rfl,Nat.zero_le _,by rw[List.drop_zero];exact HE.out,Fr.refl _ _⟩
   case round=>
    obtain ⟨k,rfl,hk,hEk,hfr⟩:=hrel
    by_cases hlt:k<marks.length
    · obtain ⟨b1,off,rfl,_,_,c0,c1,c2⟩:=mark_at (HV.out _ hfr) hlt
      rw[List.drop_eq_getElem_cons hlt] at hEk
      unfold findGo at hEk
      generalize marks[k]=m at hEk c0 c1 c2
      obtain ⟨mq,mo,mp⟩:=m
      simp only at hEk c0 c1 c2
      obtain ⟨w3,hw3⟩:∃x1,x1=wr.alloc (.cells #[.int .i64 mq, .int .i64 mo, .int .u32 mp] 53 (0,0)):=⟨_,rfl⟩
      have hf3:Fr nob wr w3:=by rw[hw3];exact (Fr.refl nob _).alloc _
      have hb3:=heap_new wr (.cells #[.int .i64 mq, .int .i64 mo, .int .u32 mp] 53 (0,0))
      rw[←hw3] at hb3
      have hbz:=QZ.out _ (H2.out.andN (hfr.andN hf3))
      rw[hw3] at hbz hb3
      have k0:=cell_of hb3 0
      have k1:=cell_of hb3 1
      have k2:=cell_of hb3 2
      have z0:=cell_of hbz 0
      have z1:=cell_of hbz 1
      have z2:=cell_of hbz 2
      simp at k0 k1 k2 z0 z1 z2
      have HF:=Lib.hid (⟨hfr,hf3⟩:_∧_)
      have qe:=curI_eql mq mo mp q o p
      clear hb3 hbz hf3 hfr
      by_cases hc:mq=q∧mo=o∧(mp:Int)=p
      · rw[if_pos hc] at hEk
        rw[decide_eq_true hc] at qe
        have HEk:=Lib.hid hEk
        clear hEk hc
        go_wp2_with fail
        go_ret2
        rw[HEk.out]
        exact ⟨rfl,by rw[←hw3];exact HX.out.1.andN (H2.out.andN (HF.out.1.andN HF.out.2))⟩
      · rw[if_neg hc] at hEk
        rw[decide_eq_false hc] at qe
        have HEk:=Lib.hid hEk
        clear hEk hc
        go_wp2_with fail
        rw[←hw3]
        go_roundw
        case rel=>exact ⟨k+1,by go_num,by omega,HEk.out,HF.out.1.andN HF.out.2⟩
        case measure=>simp[intOf];omega
    · obtain rfl:k=marks.length:=by omega
      rw[List.drop_length] at hEk
      have HEk:=Lib.hid hEk
      have HF:=Lib.hid hfr
      clear hEk hfr
      go_wp2_with fail
      go_ret2
      rw[HEk.out]
      exact ⟨rfl,HX.out.1.andN (H2.out.andN HF.out)⟩
 · rw[if_neg he] at hE
   have HE:=Lib.hid hE
   have H2:=Lib.hid hf2
   have d1:=intne he
   clear hE hf2 hv2 he
   go_wp2_with fail
   go_ret2
   rw[HE.out]
   exact ⟨rfl,HX.out.1.andN H2.out⟩
theorem cur_put {w:World} {z:Nat} {a0 b0 c0:Value} {t:TypeId} (h:w.heap[z]? =some (.cells #[a0,b0,c0] t (0,0))) (u0 u1 u2:Value):
 (((w.setCell ⟨z,0,none⟩ u0).setCell ⟨z,1,none⟩ u1).setCell ⟨z,2,none⟩ u2).heap[z]? =some (.cells #[u0,u1,u2] t (0,0))∧Fr (fun k=>k=z) w (((w.setCell ⟨z,0,none⟩ u0).setCell ⟨z,1,none⟩ u1).setCell ⟨z,2,none⟩ u2):=by
 refine ⟨?_,(((Fr.self z w).set1 0 _).set1 1 _).set1 2 _⟩
 have h1:=heap_set h 0 u0
 have h2:=heap_set h1 1 u1
 have h3:=heap_set h2 2 u2
 simpa using h3
def curOf (l:List UInt8):Nat×Nat×Nat:=match curRead l with
 | .inl _=>(0,0,0)
 | .inr x=>x
def curErr (l:List UInt8):Nat:=match curRead l with
 | .inl e=>e
 | .inr _=>0
theorem curAns_is (l:List UInt8):curAns l= .returned (.tuple #[.agg #[.int .i64 (curOf l).1, .int .i64 (curOf l).2.1, .int .u32 (curOf l).2.2], .int .i64 (curErr l)]):=by
 unfold curAns curOf curErr
 cases curRead l with
 | inl e=>rfl
 | inr x=>obtain ⟨s,o,p⟩:=x;rfl
def validF (D:Dec) (l:List UInt8):(Nat×Nat×Nat)×Nat×Nat:=
 if (findF D (curOf l).1 (curOf l).2.1 (curOf l).2.2).2≠0 then ((0,0,0),0,(findF D (curOf l).1 (curOf l).2.1 (curOf l).2.2).2)
 else if curErr l≠0 then ((0,0,0),0,16) else (curOf l,(findF D (curOf l).1 (curOf l).2.1 (curOf l).2.2).1,0)
set_option maxRecDepth 100000 in
set_option maxHeartbeats 8000000 in
theorem curvalid_any (S R:Nat→Prop) (w:World) (hS:∀k,S k→k<w.heap.size) (a:Option Addr) (cap:Nat) (b:List UInt8) (hb:BV S w a cap b) (hn:b.length≤1099511627776) (c:Option Addr) (cc:Nat) (l:List UInt8) (hl:BV R w c cc l) (hn2:l.length≤1099511627776) (hL:Laid w) (hF:Frames w):
 Calls Tryz.prog 26 #[.slice a b.length cap, .slice c l.length cc] w fun e w' =>e= .returned (.tuple #[.agg #[.int .i64 (validF (decF b) l).1.1, .int .i64 (validF (decF b) l).1.2.1, .int .u32 (validF (decF b) l).1.2.2], .int .i64 (validF (decF b) l).2.1, .int .i64 (validF (decF b) l).2.2])∧Fr nob w w' :=by
 obtain ⟨w1,hw1⟩:∃x1,x1=w.alloc (.cells #[.int .i64 0, .int .i64 0, .int .u32 0] 53 (0,0)):=⟨_,rfl⟩
 obtain ⟨z,hz⟩:∃x1,x1=w.heap.size:=⟨_,rfl⟩
 have hf1:Fr nob w w1:=by rw[hw1];exact (Fr.refl nob w).alloc _
 have hb1:=heap_new w (.cells #[.int .i64 0, .int .i64 0, .int .u32 0] 53 (0,0))
 rw[←hw1,←hz] at hb1
 have hrd:=curread_any R w1 c cc l (hl.frN hf1) hn2
 rw[curAns_is] at hrd
 have HFD:=Lib.hid (fun y (hy:Fr nob w1 y) q o p=>find_any S y (fun k hk=>Nat.lt_of_lt_of_le (hS k hk) (hf1.andN hy).size) a cap b (hb.frN (hf1.andN hy)) hn (hL.frN (hf1.andN hy)) (hF.frN (hf1.andN hy)) q o p)
 obtain ⟨E,hE⟩:∃E,E=validF (decF b) l:=⟨_,rfl⟩
 rw[←hE]
 unfold validF at hE
 obtain ⟨C,hC⟩:∃C,C=curOf l:=⟨_,rfl⟩
 obtain ⟨ce,hce⟩:∃C,C=curErr l:=⟨_,rfl⟩
 rw[←hC,←hce] at hE hrd
 obtain ⟨q,o,p⟩:=C
 simp only at hE hrd
 have hfd:=fun y hy=>HFD.out y hy (q:Int) (o:Int) (p:Int)
 obtain ⟨X,hXX⟩:∃X,X=findF (decF b) (q:Int) (o:Int) (p:Int):=⟨_,rfl⟩
 rw[←hXX] at hE hfd
 obtain ⟨i,fe⟩:=X
 simp only at hE hfd
 have HFD:=Lib.hid hfd
 have QZ:=Lib.hid (fun y (hy:Fr nob w1 y)=>hy.heap hb1 id)
 have HX:=Lib.hid (⟨hz,hf1⟩:_∧_)
 clear hb hL hF hS hl hf1 hb1 hC hce hXX hfd
 go_enter Tryz.func26,Tryz.ntmps26
 go_wp2_with fail
 rw[←hw1,←hz]
 clear hw1 hz
 refine hrd.mono ?_
 rintro e u2 ⟨rfl,hf2⟩
 clear hrd
 obtain ⟨w3,hw3⟩:∃x1,x1=u2.alloc (.cells #[.int .i64 q, .int .i64 o, .int .u32 p] 53 (0,0)):=⟨_,rfl⟩
 have hf3:Fr nob u2 w3:=by rw[hw3];exact (Fr.refl nob _).alloc _
 have hb3:=heap_new u2 (.cells #[.int .i64 q, .int .i64 o, .int .u32 p] 53 (0,0))
 rw[←hw3] at hb3
 have hfd:=HFD.out w3 (hf2.andN hf3)
 have HC3:=Lib.hid hb3
 have H3:=Lib.hid (⟨hf2,hf3⟩:_∧_)
 clear hf2 hf3 hb3
 go_wp2_with fail
 rw[←hw3]
 refine hfd.mono ?_
 rintro e u4 ⟨rfl,hf4⟩
 clear hfd
 have HB:=Lib.hid (QZ.out u4 ((H3.out.1.andN H3.out.2).andN hf4))
 have k0:=cell_of HB.out 0
 have k1:=cell_of HB.out 1
 have k2:=cell_of HB.out 2
 have z0:=frozen_of HB.out 0
 have z1:=frozen_of HB.out 1
 have z2:=frozen_of HB.out 2
 have hc3:=hf4.heap HC3.out id
 have c0:=cell_of hc3 0
 have c1:=cell_of hc3 1
 have c2:=cell_of hc3 2
 simp at k0 k1 k2 c0 c1 c2
 replace HX:=Lib.hid (⟨HX.out.1,HX.out.2.andN ((H3.out.1.andN H3.out.2).andN hf4)⟩:z=w.heap.size∧Fr nob w u4)
 clear hc3 hf4 hw3
 by_cases h1:fe≠0
 · rw[if_pos h1] at hE
   have HE:=Lib.hid hE
   have d1:=intne h1
   clear hE h1
   go_wp2_with fail
   (try simp only[Exit.inBlock,Exit.then])
   obtain ⟨e3,f3⟩:=cur_put HB.out (.int .i64 0) (.int .i64 0) (.int .u32 0)
   refine bodyPost_ret (results_c3 rfl _ _ _ ⟨z,0,none⟩ _ rfl (load_cur e3)) rfl ?_
   rw[HE.out]
   exact ⟨rfl,HX.out.2.trans f3 (fun k hk e=>absurd hk (by have:=HX.out.1;omega))⟩
 rw[if_neg h1] at hE
 obtain rfl:fe=0:=by omega
 by_cases h2:ce≠0
 · rw[if_pos h2] at hE
   have HE:=Lib.hid hE
   have d1:=intne h2
   clear hE h1 h2
   go_wp2_with fail
   (try simp only[Exit.inBlock,Exit.then])
   obtain ⟨e3,f3⟩:=cur_put HB.out (.int .i64 0) (.int .i64 0) (.int .u32 0)
   refine bodyPost_ret (results_c3 rfl _ _ _ ⟨z,0,none⟩ _ rfl (load_cur e3)) rfl ?_
   rw[HE.out]
   exact ⟨rfl,HX.out.2.trans f3 (fun k hk e=>absurd hk (by have:=HX.out.1;omega))⟩
 rw[if_neg h2] at hE
 obtain rfl:ce=0:=by omega
 have HE:=Lib.hid hE
 clear hE h1 h2
 go_wp2_with fail
 (try simp only[Exit.inBlock,Exit.then])
 obtain ⟨e3,f3⟩:=cur_put HB.out (.int .i64 q) (.int .i64 o) (.int .u32 p)
 refine bodyPost_ret (results_c3 rfl _ _ _ ⟨z,0,none⟩ _ rfl (load_cur e3)) rfl ?_
 rw[HE.out]
 exact ⟨rfl,HX.out.2.trans f3 (fun k hk e=>absurd hk (by have:=HX.out.1;omega))⟩
set_option maxRecDepth 100000 in
set_option maxHeartbeats 8000000 in
theorem place_any (F:FuncId) (hF' :∀args w,(callFunc F args).run Tryz.prog w= .ok (.enter F args) w) (S:Nat→Prop) (w:World) (hS:∀k,S k→k<w.heap.size) (a:Option Addr) (cap:Nat) (b:List UInt8) (hb:BV S w a cap b) (hn:b.length≤1099511627776) (hL:Laid w) (hF:Frames w) (m:Mark) (he:(decF b).err=0)
 (hc:∀u ma mc,SV rMark 3 (fun k=>k<u.heap.size) u ma mc (decF b).marks→Calls Tryz.prog F #[.slice ma (decF b).marks.length mc] u fun e u' =>e= .returned (.agg #[.int .i64 m.q, .int .i64 m.o, .int .u32 m.p])∧Fr nob u u'):
 Calls Tryz.prog 77 #[.slice a b.length cap, .func (.func F) #[] #[]] w fun e w' =>e= .returned (.tuple #[.agg #[.int .i64 m.q, .int .i64 m.o, .int .u32 m.p], .int .i64 0])∧Fr nob w w' :=by
 obtain ⟨w1,hw1⟩:∃x1,x1=w.alloc (.cells #[.int .i64 0, .int .i64 0, .int .u32 0] 53 (0,0)):=⟨_,rfl⟩
 obtain ⟨z,hz⟩:∃x1,x1=w.heap.size:=⟨_,rfl⟩
 have hf1:Fr nob w w1:=by rw[hw1];exact (Fr.refl nob w).alloc _
 have hb1:=heap_new w (.cells #[.int .i64 0, .int .i64 0, .int .u32 0] 53 (0,0))
 rw[←hw1,←hz] at hb1
 have hm:=marks_any S w1 (fun k hk=>Nat.lt_of_lt_of_le (hS k hk) hf1.size) a cap b (hb.frN hf1) hn (hL.frN hf1) (hF.frN hf1)
 rw[he] at hm
 have HC:=Lib.hid hc
 generalize (decF b).marks=ms at hm HC
 generalize (decF b).at_=at_ at hm
 have HX:=Lib.hid (⟨hz,hf1,hb1⟩:_∧_∧_)
 clear hb hL hF hS hf1 hb1 hc he
 go_enter Tryz.func77,Tryz.ntmps77
 go_wp2_with fail
 rw[←hw1,←hz]
 clear hw1 hz
 refine hm.mono ?_
 rintro e u2 ⟨ma,mc,rfl,hf2,hv⟩
 clear hm
 have hcl:=HC.out u2 ma mc (hv.mono rMark_ok (fun k hk=>hk.2))
 have H2:=Lib.hid hf2
 clear hf2 hv
 go_wp2_with fail
 refine hcl.mono ?_
 rintro e u3 ⟨rfl,hf3⟩
 clear hcl
 have HB:=Lib.hid (hf3.heap (H2.out.heap HX.out.2.2 id) id)
 have k0:=cell_of HB.out 0
 have k1:=cell_of HB.out 1
 have k2:=cell_of HB.out 2
 have z0:=frozen_of HB.out 0
 have z1:=frozen_of HB.out 1
 have z2:=frozen_of HB.out 2
 simp at k0 k1 k2
 have H3:=Lib.hid hf3
 clear hf3
 go_wp2_with fail
 (try simp only[Exit.inBlock,Exit.then])
 obtain ⟨e3,f3⟩:=cur_put HB.out (.int .i64 m.q) (.int .i64 m.o) (.int .u32 m.p)
 refine bodyPost_ret (results_c2 rfl _ _ _ ⟨z,0,none⟩ _ rfl (load_cur e3)) rfl ?_
 exact ⟨rfl,(HX.out.2.1.andN (H2.out.andN H3.out)).trans f3 (fun k hk e=>absurd hk (by have:=HX.out.1;omega))⟩
set_option maxRecDepth 100000 in
set_option maxHeartbeats 4000000 in
theorem curstart_cl (S:Nat→Prop) (w:World) (a:Option Addr) (cap:Nat) (ms:List Mark) (h:SV rMark 3 S w a cap ms) (h0:0<ms.length) (hl:ms.length≤1099511627776) (m:Mark) (hm:ms[0]? =some m):
 Calls Tryz.prog 78 #[.slice a ms.length cap] w fun e w' =>e= .returned (.agg #[.int .i64 m.q, .int .i64 m.o, .int .u32 m.p])∧Fr nob w w' :=by
 obtain ⟨w1,hw1⟩:∃x1,x1=w.alloc (.cells #[.int .i64 0, .int .i64 0, .int .u32 0] 53 (0,0)):=⟨_,rfl⟩
 obtain ⟨z,hz⟩:∃x1,x1=w.heap.size:=⟨_,rfl⟩
 have hf1:Fr nob w w1:=by rw[hw1];exact (Fr.refl nob w).alloc _
 have hb1:=heap_new w (.cells #[.int .i64 0, .int .i64 0, .int .u32 0] 53 (0,0))
 rw[←hw1,←hz] at hb1
 have hk:0<ms.length:=by omega
 obtain ⟨b,off,rfl,_,_,c0,c1,c2⟩:=mark_at (h.frN rMark_ok hf1) hk
 rw[List.getElem?_eq_getElem hk] at hm
 rw[Option.some.inj hm] at c0 c1 c2
 have hw5:IntKind.i64.wrap ((ms.length:Int) - 1)=((ms.length - 1:Nat):Int):=by rw[IntWalk.i64_in _ (by omega)];omega
 try simp at c0 c1 c2
 rw[hw1] at c0 c1 c2
 clear h hm hf1 hb1
 go_enter Tryz.func78,Tryz.ntmps78
 go_wp2_with fail
 (try simp only[Exit.inBlock,Exit.then])
 refine bodyPost_ret (results_c1 rfl _ _ _ ⟨w.heap.size,0,none⟩ _ rfl (load_cur (heap_new w (.cells #[.int .i64 m.q, .int .i64 m.o, .int .u32 m.p] 53 (0,0))))) rfl ?_
 exact ⟨rfl,(Fr.refl nob w).alloc _⟩
set_option maxRecDepth 100000 in
set_option maxHeartbeats 4000000 in
theorem curstart_any (S:Nat→Prop) (w:World) (hS:∀k,S k→k<w.heap.size) (a:Option Addr) (cap:Nat) (b:List UInt8) (hb:BV S w a cap b) (hn:b.length≤1099511627776) (hL:Laid w) (hF:Frames w) (ms:List Mark) (hms:(decF b).marks=ms) (m:Mark) (he:(decF b).err=0) (h0:0<ms.length) (hl:ms.length≤1099511627776) (hm:ms[0]? =some m):
 Calls Tryz.prog 28 #[.slice a b.length cap] w fun e w' =>e= .returned (.tuple #[.agg #[.int .i64 m.q, .int .i64 m.o, .int .u32 m.p], .int .i64 0])∧Fr nob w w' :=by
 obtain ⟨w1,hw1⟩:∃x1,x1=w.alloc (.cells #[.int .i64 0, .int .i64 0, .int .u32 0] 53 (0,0)):=⟨_,rfl⟩
 obtain ⟨z,hz⟩:∃x1,x1=w.heap.size:=⟨_,rfl⟩
 have hf1:Fr nob w w1:=by rw[hw1];exact (Fr.refl nob w).alloc _
 have hb1:=heap_new w (.cells #[.int .i64 0, .int .i64 0, .int .u32 0] 53 (0,0))
 rw[←hw1,←hz] at hb1
 have hp:=place_any 78 (fun _ _=>rfl) S w1 (fun k hk=>Nat.lt_of_lt_of_le (hS k hk) hf1.size) a cap b (hb.frN hf1) hn (hL.frN hf1) (hF.frN hf1) m he (fun u ma mc hv=>by
  rw[hms] at hv ⊢
  exact curstart_cl _ u ma mc ms hv h0 hl m hm)
 have HX:=Lib.hid (⟨hz,hf1,hb1⟩:_∧_∧_)
 clear hb hL hF hS hms he h0 hl hm hf1 hb1
 go_enter Tryz.func28,Tryz.ntmps28
 go_wp2_with fail
 rw[←hw1,←hz]
 clear hw1 hz
 refine hp.mono ?_
 rintro e u2 ⟨rfl,hf2⟩
 clear hp
 have HB:=Lib.hid (hf2.heap HX.out.2.2 id)
 have k0:=cell_of HB.out 0
 have k1:=cell_of HB.out 1
 have k2:=cell_of HB.out 2
 have z0:=frozen_of HB.out 0
 have z1:=frozen_of HB.out 1
 have z2:=frozen_of HB.out 2
 simp at k0 k1 k2
 have H2:=Lib.hid hf2
 clear hf2
 go_wp2_with fail
 (try simp only[Exit.inBlock,Exit.then])
 obtain ⟨e3,f3⟩:=cur_put HB.out (.int .i64 m.q) (.int .i64 m.o) (.int .u32 m.p)
 refine bodyPost_ret (results_c2 rfl _ _ _ ⟨z,0,none⟩ _ rfl (load_cur e3)) rfl ?_
 exact ⟨rfl,(HX.out.2.1.andN H2.out).trans f3 (fun k hk e=>absurd hk (by have:=HX.out.1;omega))⟩
set_option maxRecDepth 100000 in
set_option maxHeartbeats 4000000 in
theorem curlast_cl (S:Nat→Prop) (w:World) (a:Option Addr) (cap:Nat) (ms:List Mark) (h:SV rMark 3 S w a cap ms) (h0:0<ms.length) (hl:ms.length≤1099511627776) (m:Mark) (hm:ms[(ms.length - 1)]? =some m):
 Calls Tryz.prog 79 #[.slice a ms.length cap] w fun e w' =>e= .returned (.agg #[.int .i64 m.q, .int .i64 m.o, .int .u32 m.p])∧Fr nob w w' :=by
 obtain ⟨w1,hw1⟩:∃x1,x1=w.alloc (.cells #[.int .i64 0, .int .i64 0, .int .u32 0] 53 (0,0)):=⟨_,rfl⟩
 obtain ⟨z,hz⟩:∃x1,x1=w.heap.size:=⟨_,rfl⟩
 have hf1:Fr nob w w1:=by rw[hw1];exact (Fr.refl nob w).alloc _
 have hb1:=heap_new w (.cells #[.int .i64 0, .int .i64 0, .int .u32 0] 53 (0,0))
 rw[←hw1,←hz] at hb1
 have hk:(ms.length - 1)<ms.length:=by omega
 obtain ⟨b,off,rfl,_,_,c0,c1,c2⟩:=mark_at (h.frN rMark_ok hf1) hk
 rw[List.getElem?_eq_getElem hk] at hm
 rw[Option.some.inj hm] at c0 c1 c2
 have hw5:IntKind.i64.wrap ((ms.length:Int) - 1)=((ms.length - 1:Nat):Int):=by rw[IntWalk.i64_in _ (by omega)];omega
 try simp at c0 c1 c2
 rw[hw1] at c0 c1 c2
 clear h hm hf1 hb1
 go_enter Tryz.func79,Tryz.ntmps79
 go_wp2_with fail
 (try simp only[Exit.inBlock,Exit.then])
 refine bodyPost_ret (results_c1 rfl _ _ _ ⟨w.heap.size,0,none⟩ _ rfl (load_cur (heap_new w (.cells #[.int .i64 m.q, .int .i64 m.o, .int .u32 m.p] 53 (0,0))))) rfl ?_
 exact ⟨rfl,(Fr.refl nob w).alloc _⟩
set_option maxRecDepth 100000 in
set_option maxHeartbeats 4000000 in
theorem curlast_any (S:Nat→Prop) (w:World) (hS:∀k,S k→k<w.heap.size) (a:Option Addr) (cap:Nat) (b:List UInt8) (hb:BV S w a cap b) (hn:b.length≤1099511627776) (hL:Laid w) (hF:Frames w) (ms:List Mark) (hms:(decF b).marks=ms) (m:Mark) (he:(decF b).err=0) (h0:0<ms.length) (hl:ms.length≤1099511627776) (hm:ms[(ms.length - 1)]? =some m):
 Calls Tryz.prog 29 #[.slice a b.length cap] w fun e w' =>e= .returned (.tuple #[.agg #[.int .i64 m.q, .int .i64 m.o, .int .u32 m.p], .int .i64 0])∧Fr nob w w' :=by
 obtain ⟨w1,hw1⟩:∃x1,x1=w.alloc (.cells #[.int .i64 0, .int .i64 0, .int .u32 0] 53 (0,0)):=⟨_,rfl⟩
 obtain ⟨z,hz⟩:∃x1,x1=w.heap.size:=⟨_,rfl⟩
 have hf1:Fr nob w w1:=by rw[hw1];exact (Fr.refl nob w).alloc _
 have hb1:=heap_new w (.cells #[.int .i64 0, .int .i64 0, .int .u32 0] 53 (0,0))
 rw[←hw1,←hz] at hb1
 have hp:=place_any 79 (fun _ _=>rfl) S w1 (fun k hk=>Nat.lt_of_lt_of_le (hS k hk) hf1.size) a cap b (hb.frN hf1) hn (hL.frN hf1) (hF.frN hf1) m he (fun u ma mc hv=>by
  rw[hms] at hv ⊢
  exact curlast_cl _ u ma mc ms hv h0 hl m hm)
 have HX:=Lib.hid (⟨hz,hf1,hb1⟩:_∧_∧_)
 clear hb hL hF hS hms he h0 hl hm hf1 hb1
 go_enter Tryz.func29,Tryz.ntmps29
 go_wp2_with fail
 rw[←hw1,←hz]
 clear hw1 hz
 refine hp.mono ?_
 rintro e u2 ⟨rfl,hf2⟩
 clear hp
 have HB:=Lib.hid (hf2.heap HX.out.2.2 id)
 have k0:=cell_of HB.out 0
 have k1:=cell_of HB.out 1
 have k2:=cell_of HB.out 2
 have z0:=frozen_of HB.out 0
 have z1:=frozen_of HB.out 1
 have z2:=frozen_of HB.out 2
 simp at k0 k1 k2
 have H2:=Lib.hid hf2
 clear hf2
 go_wp2_with fail
 (try simp only[Exit.inBlock,Exit.then])
 obtain ⟨e3,f3⟩:=cur_put HB.out (.int .i64 m.q) (.int .i64 m.o) (.int .u32 m.p)
 refine bodyPost_ret (results_c2 rfl _ _ _ ⟨z,0,none⟩ _ rfl (load_cur e3)) rfl ?_
 exact ⟨rfl,(HX.out.2.1.andN H2.out).trans f3 (fun k hk e=>absurd hk (by have:=HX.out.1;omega))⟩
noncomputable def markN (s:List Col) (l:List Ent) (k:Nat):Mark:=⟨(encF s (l.take k)).2.2.2.q,(offF s l k:Nat),schemaPrint s⟩
theorem mark_end (s:List Col) (l:List Ent):(markN s l l.length).o=((encF s l).2.2.1.length:Nat):=by
 unfold markN
 rw[offF_end]
section
variable {s:List Col} {l:List Ent} (hp:∀x∈l,PrOk x.prs) (h:(encF s l).1=0)
include h
theorem marks_get {k:Nat} (hk:k≤l.length):(marksOf s l)[k]? =some (markN s l k):=marksOf_at h hk
theorem marks_has {j:Nat} {x:Mark} (hx:(marksOf s l)[j]? =some x):j≤l.length∧x=markN s l j:=by
 have hj:j<(marksOf s l).length:=by
  rcases Nat.lt_or_ge j (marksOf s l).length with h | h
  · exact h
  · rw[List.getElem?_eq_none h] at hx;cases hx
 rw[marksOf_len] at hj
 rw[marks_get h (by omega)] at hx
 exact ⟨by omega,(Option.some.inj hx).symm⟩
theorem mark_zero:markN s l 0=⟨0,(headBytes s).length,schemaPrint s⟩:=by
 have h1:=marks_get h (Nat.zero_le _)
 exact (Option.some.inj h1).symm
theorem mark_same {j k:Nat} (hj:j≤l.length) (hk:k≤l.length) (ho:(markN s l j).o=(markN s l k).o):j=k:=by
 have h3:((offF s l j:Nat):Int)=(offF s l k:Nat):=ho
 rcases Nat.lt_trichotomy j k with h1 | h1 | h1
 · have:=offF_lt h (i:=j) k h1 hk;omega
 · exact h1
 · have:=offF_lt h (i:=k) j h1 hj;omega
include hp
theorem mark_ok (k:Nat):0≤(markN s l k).q∧(markN s l k).q≤281474976710656:=seq_at hp h k
theorem find_mark {k:Nat} (hk:k≤l.length):findF (decF (encF s l).2.2.1) (markN s l k).q (markN s l k).o (markN s l k).p=(k,0):=by
 rw[decF_backM hp h]
 unfold findF
 simp only[if_true]
 rw[findGo_at (marksOf s l) 0 k _ (marks_get h hk) ⟨rfl,rfl,rfl⟩ (fun j hj x hx he=>?_),Nat.zero_add]
 obtain ⟨h1,rfl⟩:=marks_has h hx
 have h2:=offF_lt h k hj hk
 have h3:((offF s l j:Nat):Int)=(offF s l k:Nat):=he.2.1
 omega
theorem find_not {q o p:Int} (hno:∀k,k≤l.length→¬((markN s l k).q=q∧(markN s l k).o=o∧((markN s l k).p:Int)=p)):findF (decF (encF s l).2.2.1) q o p=(0,16):=by
 rw[decF_backM hp h]
 unfold findF
 simp only[if_true]
 refine findGo_none _ _ (fun x hx=>?_)
 obtain ⟨j,hj⟩:=List.getElem?_of_mem hx
 obtain ⟨h1,rfl⟩:=marks_has h hj
 exact hno j h1
theorem find_beside {k:Nat} (hk:k≤l.length) {b:Int} (hb0:b≠0) (hb: -2147483648≤b∧b≤2147483647):
 findF (decF (encF s l).2.2.1) (markN s l k).q (markN s l k).o ((((markN s l k).p:Int)+b)%4294967296)=(0,16)∧
 findF (decF (encF s l).2.2.1) ((markN s l k).q+b) (markN s l k).o (markN s l k).p=(0,16)∧
 findF (decF (encF s l).2.2.1) (markN s l k).q ((markN s l k).o+1) (markN s l k).p=(0,16):=by
 refine ⟨find_not hp h (fun j hj e=>?_),find_not hp h (fun j hj e=>?_),find_not hp h (fun j hj e=>?_)⟩
 · have h1:((schemaPrint s:Nat):Int)=(((schemaPrint s:Nat):Int)+b)%4294967296:=e.2.2
   have:=schemaPrint_lt s
   omega
 · obtain rfl:=mark_same h hj hk e.2.1
   omega
 · have h3:((offF s l j:Nat):Int)=(offF s l k:Nat)+1:=e.2.1
   rcases Nat.lt_trichotomy j k with h1 | h1 | h1
   · have:=offF_lt h (i:=j) k h1 hk;omega
   · subst h1;omega
   · have:=offF_lt h (i:=k) j h1 hj;omega
end
end Go.Proofs.YtibpkfnfcdbiiaaGreatDoor
