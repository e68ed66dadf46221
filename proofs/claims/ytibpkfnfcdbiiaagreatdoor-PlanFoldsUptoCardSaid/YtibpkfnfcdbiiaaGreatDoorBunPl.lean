/- What plan reckons, in plain words; rows of whole numbers in memory. Contract of plan.of: what a file's frames cost. Contracts of plan.sum, Sizes and Bytes. Contracts of plan.Sizes and plan.Bytes. Contract of plan.Best. Contract of plan.Changes, of entries that may be. decklelaw19's example in plain words; a written trace is read without an error. No program in sight. -/
import Derived.Test.YtibpkfnfcdbiiaaGreatDoorBunV
import Derived.Test.YtibpkfnfcdbiiaaGreatDoorBunZ
import Derived.Test.YtibpkfnfcdbiiaaGreatDoorBunW
import Derived.Test.YtibpkfnfcdbiiaaGreatDoorEvA
namespace Go.Proofs.YtibpkfnfcdbiiaaGreatDoor
set_option linter.unusedSimpArgs false
open Go.RowKit
set_option linter.unusedVariables false
def costAt (D:Dec) (i:Nat):Int:=(D.marks.getD (i+1) default).o - (D.marks.getD i default).o
def delAt (D:Dec) (i:Nat):Int:=if (D.ents.getD i default).kind=1 then 0 else costAt D i
def ints (f:Nat→Int) (n:Nat):List Int:=(List.range n).map f
theorem ints_len (f:Nat→Int) (n:Nat):(ints f n).length=n:=by simp[ints]
theorem ints_succ (f:Nat→Int) (n:Nat):ints f (n+1)=ints f n++[f n]:=by simp[ints,List.range_succ]
theorem ints_at (f:Nat→Int) {n k:Nat} (h:k<n):(ints f n)[k]? =some (f k):=by simp[ints,h]
def iv (l:List Int):List Value:=l.map fun x=> .int .i64 x
def IV (S:Nat→Prop) (w:World) (a:Option Addr) (cap:Nat) (l:List Int):Prop:=Vec S w 1 a l.length cap (iv l)
section
variable {S T:Nat→Prop} {w w' :World} {a:Option Addr} {cap:Nat} {l:List Int}
theorem IV.fr (h:IV S w a cap l) (hf:Fr T w w') (hT:∀k,S k→¬T k):IV S w' a cap l:=Vec.fr h hf hT
theorem IV.frN (h:IV S w a cap l) (hf:Fr nob w w'):IV S w' a cap l:=Vec.frN h hf
theorem IV.mono (h:IV S w a cap l) (hS:∀k,S k→T k):IV T w a cap l:=Vec.mono h hS
theorem IV.get (h:IV S w a cap l) {i:Nat} (hi:i<l.length):∃b off,a=some ⟨b,off,none⟩∧S b∧w.cell? ⟨b,off+i,none⟩=some (.int .i64 l[i]):=by
 have hv:Vec S w 1 a l.length cap (iv l):=h
 obtain ⟨b,off,e,hS,_,_,r3⟩:=hv.addr (by have:=hv.le;omega)
 exact ⟨b,off,e,hS,by rw[r3 i (by omega)];simp[iv,hi]⟩
end
theorem inf_int:((Tryz.prog).info? 3).map (fun i=>(i.zero,i.size,i.bytes))=some (some (.int .i64 0),1,8):=by kernel_rfl
theorem results_cct {fn:Func} {b c u:Tmp} {ty ty' :TypeId} (h:fn.results=#[.cell b ty, .cell c ty', .tmp u]) (tmps:Array Value) (P:Program) (w:World) (p p' :Addr) (v v' :Value) (hp:tmps.getD b undef= .pointer (some p)) (hp' :tmps.getD c undef= .pointer (some p')) (hl:(loadVar ty p).run P w= .ok v w) (hl' :(loadVar ty' p').run P w= .ok v' w):
 (results fn tmps).run P w= .ok (.tuple #[v,v',tmps.getD u undef]) w:=by
 have h1:(asAddr (tmps.getD b undef)).run P w= .ok p w:=by rw[hp];rfl
 have h2:(asAddr (tmps.getD c undef)).run P w= .ok p' w:=by rw[hp'];rfl
 simp only[Array.getD_eq_getD_getElem?] at h1 h2 ⊢
 simp[results,h,h1,h2,hl,hl',Result.andThen]
theorem load_costs {w:World} {x:Nat} {a b:Option Addr} {n c m d:Nat} {t:TypeId} {fr:Nat×Nat} (h:w.heap[x]? =some (.cells #[.slice a n c, .slice b m d] t fr)):(loadVar 150 ⟨x,0,none⟩).run Tryz.prog w= .ok (.agg #[.slice a n c, .slice b m d]) w:=by
 have k0:=cell_of h 0
 have k1:=cell_of h 1
 simp at k0 k1
 simp[go_sem,k0,k1]
structure CoSt (z:Nat) (w4 wr:World) (D:Dec) (k:Nat) (a1:Option Addr) (c1:Nat) (a2:Option Addr) (c2:Nat) (O1 O2:Nat→Prop):Prop where
 c:wr.heap[z]? =some (.cells #[.slice a1 k c1, .slice a2 k c2] 150 (0,0))
 v1:Vec O1 wr 1 a1 k c1 (iv (ints (costAt D) k))
 v2:Vec O2 wr 1 a2 k c2 (iv (ints (delAt D) k))
 fr:Fr (fun j=>j=z) w4 wr
 o1:∀j,O1 j→w4.heap.size≤j∧j<wr.heap.size
 o2:∀j,O2 j→w4.heap.size≤j∧j<wr.heap.size
 dis:∀j,O1 j→¬O2 j
structure DecGood (D:Dec):Prop where
 err:D.err=0
 marks:D.marks.length=D.ents.length+1
 off:∀m∈D.marks,0≤m.o∧m.o≤1099511627776
 many:D.ents.length≤4096
theorem costAt_le {D:Dec} (h:DecGood D) (k:Nat): -1099511627776≤costAt D k∧costAt D k≤1099511627776:=by
 have g:∀i,0≤(D.marks.getD i default).o∧(D.marks.getD i default).o≤1099511627776:=fun i=>by
  rw[List.getD_eq_getElem?_getD]
  cases e:D.marks[i]? with
  | none=>exact ⟨by decide,by decide⟩
  | some m=>exact h.off m (List.mem_of_getElem? e)
 have h1:=g k
 have h2:=g (k+1)
 unfold costAt
 omega
set_option maxRecDepth 100000 in
set_option maxHeartbeats 16000000 in
theorem planOf_any (S:Nat→Prop) (w:World) (hS:∀k,S k→k<w.heap.size) (a:Option Addr) (cap:Nat) (b:List UInt8) (hb:BV S w a cap b) (hn:b.length≤1099511627776) (hL:Laid w) (hF:Frames w) (hD:DecGood (decF b)):
 Calls Tryz.prog 86 #[.slice a b.length cap] w fun e w' =>∃a1 c1 a2 c2 sa sc ea ec,e= .returned (.tuple #[.agg #[.slice a1 (decF b).ents.length c1, .slice a2 (decF b).ents.length c2], .agg #[.slice sa (decF b).sch.length sc, .slice ea (decF b).ents.length ec], .int .i64 0])∧Fr nob w w' ∧IV (newb w w') w' a1 c1 (ints (costAt (decF b)) (decF b).ents.length)∧IV (newb w w') w' a2 c2 (ints (delAt (decF b)) (decF b).ents.length)∧SV rCol 2 (newb w w') w' sa sc (decF b).sch∧SV rEnt 3 (newb w w') w' ea ec (decF b).ents:=by
 obtain ⟨w1,hw1⟩:∃x1,x1=(w.alloc (.cells #[.slice none 0 0, .slice none 0 0] 150 (0,0))).alloc (.cells #[.slice none 0 0, .slice none 0 0] 36 (0,0)):=⟨_,rfl⟩
 obtain ⟨z,hz⟩:∃x1,x1=w.heap.size:=⟨_,rfl⟩
 obtain ⟨zt,hzt⟩:∃x1,x1=z+1:=⟨_,rfl⟩
 have hf1:Fr nob w w1:=by rw[hw1];exact ((Fr.refl nob w).alloc _).alloc _
 have hs1:w1.heap.size=z+2:=by rw[hw1,hz];simp
 have hbc:w1.heap[z]? =some (.cells #[.slice none 0 0, .slice none 0 0] 150 (0,0)):=by rw[hw1,hz];exact heap_old (heap_new w _) _
 have hbt:w1.heap[zt]? =some (.cells #[.slice none 0 0, .slice none 0 0] 36 (0,0)):=by
  have:=heap_new (w.alloc (.cells #[.slice none 0 0, .slice none 0 0] 150 (0,0))) (.cells #[.slice none 0 0, .slice none 0 0] 36 (0,0))
  rw[←hw1] at this
  simpa [hzt,hz] using this
 have hde:=decode_any S w1 (fun k hk=>Nat.lt_of_lt_of_le (hS k hk) hf1.size) a cap b (hb.frN hf1) hn (hL.frN hf1) (hF.frN hf1)
 have HMK:=Lib.hid (fun y (T:Nat→Prop) (hy:Fr T w1 y) (hT:∀k,k<w.heap.size→¬T k)=>marks_any S y (fun k hk=>Nat.lt_of_lt_of_le (hS k hk) (Nat.le_trans hf1.size hy.size)) a cap b ((hb.frN hf1).fr hy (fun k hk=>hT k (hS k hk))) hn (hL.frN (hf1.trans hy (T:=nob) (fun k hk h=>hT k hk h))) (hF.frN (hf1.trans hy (T:=nob) (fun k hk h=>hT k hk h))))
 obtain ⟨D,hDD⟩:∃D,D=decF b:=⟨_,rfl⟩
 rw[←hDD] at hD hde HMK ⊢
 have HG:=Lib.hid hD
 have hcost:=Lib.hid (fun k=>costAt_le hD k)
 obtain ⟨he,hml,_,hmn⟩:=hD
 rw[he] at hde HMK
 have hml1:D.marks.length≤D.ents.length+1:=by omega
 have hml2:D.ents.length+1≤D.marks.length:=by omega
 have hzs:z=w.heap.size∧zt=z+1:=⟨hz,hzt⟩
 have HX0:=Lib.hid (⟨hzs.1,hzs.2,hs1,hf1,hbc,hbt⟩:_∧_∧_∧_∧_∧_)
 clear hb hL hF hS hf1 hs1 hbc hbt hDD he hml hzs
 go_enter Tryz.func86,Tryz.ntmps86
 go_wp2_with fail
 rw[←hw1,←hz,←hzt]
 clear hw1 hz hzt
 refine hde.mono ?_
 rintro e u2 ⟨sa,sc,ea,ec,rfl,hf2,hv1,hv2⟩
 clear hde
 obtain ⟨zf0,zc0,yc1,zf1,zc1,hh,hfr⟩:=trace_put (hf2.heap HX0.out.2.2.2.2.2 id) (.slice sa D.sch.length sc) (.slice ea D.ents.length ec)
 obtain ⟨w3,hw3⟩:∃y,y=(u2.setCell ⟨zt,0,none⟩ (.slice sa D.sch.length sc)).setCell ⟨zt,1,none⟩ (.slice ea D.ents.length ec):=⟨_,rfl⟩
 rw[←hw3] at hh hfr
 have hmk:=HMK.out w3 (fun k=>k=zt) (hf2.any.trans' hfr) (fun k hk e=>by have:=HX0.out;omega)
 have HV:=Lib.hid (⟨hv1,hv2⟩:_∧_)
 have H3:=Lib.hid (⟨hf2,hfr,hh⟩:_∧_∧_)
 have HW3:=Lib.hid hw3
 clear hv1 hv2 hh hfr hf2 hw3
 go_wp2_with fail
 rw[←HW3.out]
 clear zf0 zc0 yc1 zf1 zc1
 refine hmk.mono ?_
 rintro e u4 ⟨ma,mc,rfl,hf4,hvm⟩
 clear hmk
 have ht4:=hf4.heap H3.out.2.2 id
 have t1:=cell_of ht4 1
 simp at t1
 have hx:=HX0.out
 obtain ⟨hf2,hfr,_⟩:=H3.out
 have hzu2:z+2≤u2.heap.size:=by have:=hf2.size;omega
 have hz4:z+2≤u4.heap.size:=by have:=hfr.size;have:=hf4.size;omega
 have hc4:u4.heap[z]? =some (.cells #[.slice none 0 0, .slice none 0 0] 150 (0,0)):=hf4.heap (hfr.heap (hf2.heap hx.2.2.2.2.1 id) (by omega)) id
 have HF04:Hid (Fr nob w u4):=Lib.hid ((hx.2.2.2.1.andN hf2).trans hfr (T:=nob) (fun k hk e=>by omega) |>.andN hf4)
 have HVE:=Lib.hid (((HV.out.2.fr rEnt_ok hfr (fun k hk e=>by have:=hk.1;omega)).frN rEnt_ok hf4).mono rEnt_ok (T:=fun k=>z+2≤k∧k<u4.heap.size) (fun k hk=>⟨by have:=hk.1;omega,by have:=hk.2;have:=hfr.size;have:=hf4.size;omega⟩))
 have HVC:=Lib.hid (((HV.out.1.fr rCol_ok hfr (fun k hk e=>by have:=hk.1;omega)).frN rCol_ok hf4).mono rCol_ok (T:=fun k=>z+2≤k∧k<u4.heap.size) (fun k hk=>⟨by have:=hk.1;omega,by have:=hk.2;have:=hfr.size;have:=hf4.size;omega⟩))
 have HVM:=Lib.hid (hvm.mono rMark_ok (T:=fun k=>z+2≤k∧k<u4.heap.size) (fun k hk=>⟨by have:=hk.1;have:=hfr.size;omega,hk.2⟩))
 have HT4:=Lib.hid ht4
 have HC4:=Lib.hid hc4
 clear hvm hf2 hfr hf4 ht4 hc4 HV H3 HMK hzu2 hx
 go_wp2_with fail
 clear t1
 go_loopw [35] (fun v35 wr=>∃(k:Nat) (a1:Option Addr) (c1:Nat) (a2:Option Addr) (c2:Nat) (O1 O2:Nat→Prop),v35= .int .i64 k∧k≤D.ents.length∧CoSt z u4 wr D k a1 c1 a2 c2 O1 O2) (fun v35 _=>D.ents.length - (intOf v35).toNat)
 case atStart=>exact ⟨0,none,0,none,0,nob,nob,rfl,Nat.zero_le _,⟨HC4.out,Vec.nil _ _ _,Vec.nil _ _ _,Fr.refl _ _,fun j h=>h.elim,fun j h=>h.elim,fun j h=>h.elim⟩⟩
 case round=>
  obtain ⟨k,a1,c1,a2,c2,O1,O2,rfl,hk,hst⟩:=hrel
  obtain ⟨wo,rfl⟩:∃x1,x1=wr:=⟨_,rfl⟩
  have HST:=Lib.hid hst
  clear hst
  have hfo:=HST.out.fr
  have hso:=hfo.size
  have hz4' :=hz4
  have hvm:=HVM.out.fr rMark_ok hfo (fun j hj e=>by have:=hj.1;omega)
  by_cases hlt:k<D.ents.length
  · obtain ⟨b1,off,ra,rc,rfl,_,h64,hpl,hp,e0,e1,e2⟩:=ent_at (HVE.out.fr rEnt_ok hfo (fun j hj e=>by have:=hj.1;omega)) hlt
    have hm0:k<D.marks.length:=by omega
    have hm1:k+1<D.marks.length:=by omega
    obtain ⟨b2,off2,rfl,_,_,_,m0,_⟩:=mark_at hvm hm0
    obtain ⟨b3,off3,he3,_,_,_,m1,_⟩:=mark_at hvm hm1
    cases he3
    have hcc:D.marks[k+1].o - D.marks[k].o=costAt D k:=by unfold costAt;simp[List.getD_eq_getElem?_getD,hm0,hm1]
    have hcb:=hcost.out k
    have hdd:delAt D k=if D.ents[k].kind=1 then 0 else costAt D k:=by unfold delAt;simp[List.getD_eq_getElem?_getD,hlt]
    have hw2:IntKind.i64.wrap (D.marks[k+1].o - D.marks[k].o)=costAt D k:=by rw[hcc,IntWalk.i64_in _ (by omega)]
    have hw1:IntKind.i64.wrap ((k:Int)+1)=((k+1:Nat):Int):=by rw[IntWalk.i64_in _ (by omega)];omega
    generalize D.marks[k+1].o=o1 at m1 hw2
    generalize D.marks[k].o=o0 at m0 hw2
    generalize D.ents[k].prs=prs at e2
    generalize D.ents[k].seq=sq at e1
    generalize D.ents[k].kind=kd at e0 hdd
    obtain ⟨c,hc⟩:∃c,c=costAt D k:=⟨_,rfl⟩
    rw[←hc] at hw2 hdd
    have HCC:=Lib.hid (⟨hc,hdd⟩:_∧_)
    clear hcc hp hpl h64 hc hdd hcb hvm
    obtain ⟨w5,hw5⟩:∃x1,x1=wo.alloc (.cells #[.int .i64 kd, .int .i64 sq, .slice ra prs.length rc] 40 (0,0)):=⟨_,rfl⟩
    obtain ⟨z5,hz5⟩:∃x1,x1=wo.heap.size:=⟨_,rfl⟩
    have hf5:Fr nob wo w5:=by rw[hw5];exact (Fr.refl nob _).alloc _
    have hb5:=heap_new wo (.cells #[.int .i64 kd, .int .i64 sq, .slice ra prs.length rc] 40 (0,0))
    rw[←hw5,←hz5] at hb5
    have q0:∀y,Fr nob w5 y→y.cell? ⟨b2,off2+k*3+1,none⟩=some (.int .i64 o0):=fun y hy=>(hf5.andN hy).cell m0 id
    have q1:∀y,Fr nob w5 y→y.cell? ⟨b2,off2+(k+1)*3+1,none⟩=some (.int .i64 o1):=fun y hy=>(hf5.andN hy).cell m1 id
    have hbd1:0≤(k:Int)+1:=by omega
    have hbd2:(k:Int)+1<(D.marks.length:Int):=by omega
    have HW5:=Lib.hid (⟨hw5,hz5⟩:_∧_)
    have H5:=Lib.hid hb5
    have E1:=Lib.hid (Ev.of hf5 (nob_lt _))
    have G1:=Lib.hid hf5
    clear m0 m1 hw5 hz5 hf5 hb5
    go_wp2_with fail
    rw[←HW5.out.1,←HW5.out.2]
    clear e0 e1 e2
    refine wp_region_ord [(0,true),(1,true),(2,true),(3,true),(4,true),(5,true),(6,true),(7,true),(8,true),(9,true),(10,true),(11,true),(12,true)] (Fr nob w5) rfl (by kernel_rfl) (by kernel_rfl) (by decide) (fun c a d v w h=>by cases d<;>exact h) ((Fr.refl nob w5).drew) (fun ops hops hS=>?_)
    obtain ⟨d2,hdw⟩:∃d,d=w5.drew:=⟨_,rfl⟩
    rw[←hdw] at hS ⊢
    have G2:Hid (Fr nob w5 d2):=Lib.hid (by rw[hdw];exact (Fr.refl nob w5).drew)
    have E2:=Lib.hid (Ev.of G2.out E1.out.lt)
    clear hdw
    repeat (first | (apply oF hops (by rfl) (by first | exact .plain rfl | exact .y hops rfl rfl rfl rfl);(focus (intro x hx;go_simp;rfl));go_simp) | (apply oS hops (by rfl) (by first | exact .n hops rfl rfl rfl rfl | exact .u hops rfl rfl rfl rfl);go_simp) | (apply oP hops (by rfl) (by first | exact .n hops rfl rfl rfl rfl | exact .u hops rfl rfl rfl rfl) (by assumption);go_simp))
    apply wpOrd_nil
    clear q0 q1
    have GD:=Lib.hid (G1.out.andN G2.out)
    have H5D:=Lib.hid ((G2.out).heap H5.out id)
    have HZD:=Lib.hid (GD.out.heap HST.out.c id)
    have zk:=cell_of HZD.out 0
    simp at zk
    have hlit:=Vec.newrow d2 #[.int .i64 c] 3 (size:=1) (n:=1) rfl (by unfold maxLen;omega) (by simp[Value.oneCell'])
    have hsrc:=hlit.src (P:=Tryz.prog) Tryz.underlying93
    skip
    have HSRC:=Lib.hid hsrc
    obtain ⟨x7,hx3⟩:∃y,y=d2.alloc (.cells #[.int .i64 c] 3 (0,0)):=⟨_,rfl⟩
    have hfl:Fr nob d2 x7:=by rw[hx3];exact (Fr.refl nob _).alloc _
    have hva:=(HST.out.v1.frN GD.out).frN hfl
    rw[hx3] at hva
    have HVA:=Lib.hid hva
    have HX:=Lib.hid (⟨hx3,hfl⟩:_∧_)
    clear hlit hsrc hva hx3 hfl
    go_wp2_with (at_builtin;refine wpList_append_vec rfl _ _ _ _ rfl rfl HVA.out _ _ _ Tryz.underlying93 inf_int rfl _ 1 _ rfl HSRC.out (by unfold maxLen;omega) (by omega) ?_)
    intro a8 c8 w8 hv8 hf8 _
    rw[←HX.out.1] at hv8 hf8
    have hO1z:¬O1 z:=fun h=>by have:=(HST.out.o1 z h).1;omega
    have hO2z:¬O2 z:=fun h=>by have:=(HST.out.o2 z h).1;omega
    have hz8:=hf8.heap (HX.out.2.heap HZD.out id) hO1z
    have h58:=hf8.heap (HX.out.2.heap H5D.out id) (fun h=>by have:=(HST.out.o1 z5 h).2;have:=HW5.out.2;omega)
    have zf:=frozen_of hz8 0
    have zc:=cell_of hz8 0
    simp at zc
    have hv28:=(((HST.out.v2.frN GD.out).frN HX.out.2).fr hf8 (fun j hj h=>HST.out.dis j h hj))
    have f9:=(Fr.self z w8).set1 0 (.slice a8 (k+1) c8)
    have h9:=heap_set hz8 0 (.slice a8 (k+1) c8)
    simp at h9
    have h59:=f9.heap h58 (fun e=>by have:=HW5.out.2;omega)
    have e0:=cell_of h59 0
    have zc1:=cell_of h9 1
    simp at e0 zc1
    have hv29:=hv28.fr f9 (fun j hj e=>hO2z (e ▸ hj))
    have H8:=Lib.hid (⟨hv8,hf8,f9,h9,HX.out.2⟩:_∧_∧_∧_∧_)
    clear hv8 hf8 hz8 h58 f9 h9 h59 hv28 HX
    have hsz9:(w8.setCell ⟨z,0,none⟩ (.slice a8 (k+1) c8)).heap.size=w8.heap.size:=by simp
    by_cases hk1:kd=1
    · subst hk1
      rw[if_pos rfl] at HCC
      have hlit:=Vec.newrow (w8.setCell ⟨z,0,none⟩ (.slice a8 (k+1) c8)) #[.int .i64 0] 3 (size:=1) (n:=1) rfl (by unfold maxLen;omega) (by simp[Value.oneCell'])
      have hsrc:=hlit.src (P:=Tryz.prog) Tryz.underlying93
      rw[hsz9] at hsrc
      have HSRC:=Lib.hid hsrc
      obtain ⟨x10,hx3⟩:∃y,y=(w8.setCell ⟨z,0,none⟩ (.slice a8 (k+1) c8)).alloc (.cells #[.int .i64 0] 3 (0,0)):=⟨_,rfl⟩
      have hfl:Fr nob (w8.setCell ⟨z,0,none⟩ (.slice a8 (k+1) c8)) x10:=by rw[hx3];exact (Fr.refl nob _).alloc _
      have hva:=(hv29).frN hfl
      rw[hx3] at hva
      have HVA:=Lib.hid hva
      have HX:=Lib.hid (⟨hx3,hfl⟩:_∧_)
      clear hlit hsrc hva hx3 hfl
      go_wp2_with (at_builtin;refine wpList_append_vec rfl _ _ _ _ rfl rfl HVA.out _ _ _ Tryz.underlying93 inf_int rfl _ 1 _ rfl HSRC.out (by unfold maxLen;omega) (by omega) ?_)
      intro a11 c11 w11 hv11 hf11 _
      rw[←HX.out.1] at hv11 hf11
      have hz11:=hf11.heap (HX.out.2.heap H8.out.2.2.2.1 id) hO2z
      have zf11:=frozen_of hz11 1
      have zc11:=cell_of hz11 1
      simp at zc11
      have f12:=(Fr.self z w11).set1 1 (.slice a11 (k+1) c11)
      have h12:=heap_set hz11 1 (.slice a11 (k+1) c11)
      simp at h12
      have H11:=Lib.hid (⟨hv11,hf11,f12,h12,HX.out.2⟩:_∧_∧_∧_∧_)
      clear hv11 hf11 hz11 f12 h12 HX
      go_wp2_with fail
      go_roundw
      case rel=>
       obtain ⟨hv8,hf8,f9,h9,hx7⟩:=H8.out
       obtain ⟨hv11,hf11,f12,h12,hx10⟩:=H11.out
       have s0:=GD.out.size
       have s7:=hx7.size
       have s8:=hf8.size
       have s10:=hx10.size
       have s11:=hf11.size
       have s12:=f12.size
       have hO1:=HST.out.o1
       have hO2:=HST.out.o2
       have hN1:∀j,grow O1 x7 w8 j→O1 j∨(x7.heap.size≤j∧j<w8.heap.size):=fun j hj=>hj
       have hN2:∀j,grow O2 x10 w11 j→O2 j∨(x10.heap.size≤j∧j<w11.heap.size):=fun j hj=>hj
       have hz1:∀j,grow O1 x7 w8 j→j≠z:=fun j hj e=>(hN1 j hj).elim (fun h=>hO1z (e ▸ h)) (fun h=>by omega)
       have hz2:∀j,grow O2 x10 w11 j→j≠z:=fun j hj e=>(hN2 j hj).elim (fun h=>hO2z (e ▸ h)) (fun h=>by omega)
       refine ⟨k+1,a8,c8,a11,c11,grow O1 x7 w8,grow O2 x10 w11,by go_num,by omega,⟨h12,?_,?_,?_,fun j hj=>?_,fun j hj=>?_,fun j hj h=>?_⟩⟩
       · rw[ints_succ,←HCC.out.1]
         have h:=(((hv8.fr f9 (fun j hj e=>hz1 j hj e)).frN hx10).fr hf11 (fun j hj h=>(hN1 j hj).elim (fun g=>HST.out.dis j g h) (fun g=>by have:=(hO2 j h).2;omega))).fr f12 (fun j hj e=>hz1 j hj e)
         simpa [iv] using h
       · rw[ints_succ,HCC.out.2]
         have h:=hv11.fr f12 (fun j hj e=>hz2 j hj e)
         simpa [iv] using h
       · exact (((((((HST.out.fr.andN GD.out).andN hx7).trans hf8 (fun j hj h=>by have:=(hO1 j h).1;omega)).trans' f9).andN hx10).trans hf11 (fun j hj h=>by have:=(hO2 j h).1;omega)).trans' f12)
       · rcases hN1 j hj with h | h
         · have:=hO1 j h;omega
         · omega
       · rcases hN2 j hj with h | h
         · have:=hO2 j h;omega
         · omega
       · rcases hN1 j hj with h1 | h1
         · rcases hN2 j h with h2 | h2
           · exact HST.out.dis j h1 h2
           · have:=(hO1 j h1).2;omega
         · rcases hN2 j h with h2 | h2
           · have:=(hO2 j h2).2;omega
           · omega
      case measure=>simp[intOf];omega
    · have dk:=beq_eq_false_iff_ne.2 hk1
      rw[if_neg hk1] at HCC
      have hlit:=Vec.newrow (w8.setCell ⟨z,0,none⟩ (.slice a8 (k+1) c8)) #[.int .i64 c] 3 (size:=1) (n:=1) rfl (by unfold maxLen;omega) (by simp[Value.oneCell'])
      have hsrc:=hlit.src (P:=Tryz.prog) Tryz.underlying93
      rw[hsz9] at hsrc
      have HSRC:=Lib.hid hsrc
      obtain ⟨x10,hx3⟩:∃y,y=(w8.setCell ⟨z,0,none⟩ (.slice a8 (k+1) c8)).alloc (.cells #[.int .i64 c] 3 (0,0)):=⟨_,rfl⟩
      have hfl:Fr nob (w8.setCell ⟨z,0,none⟩ (.slice a8 (k+1) c8)) x10:=by rw[hx3];exact (Fr.refl nob _).alloc _
      have hva:=(hv29).frN hfl
      rw[hx3] at hva
      have HVA:=Lib.hid hva
      have HX:=Lib.hid (⟨hx3,hfl⟩:_∧_)
      clear hlit hsrc hva hx3 hfl
      go_wp2_with (at_builtin;refine wpList_append_vec rfl _ _ _ _ rfl rfl HVA.out _ _ _ Tryz.underlying93 inf_int rfl _ 1 _ rfl HSRC.out (by unfold maxLen;omega) (by omega) ?_)
      intro a11 c11 w11 hv11 hf11 _
      rw[←HX.out.1] at hv11 hf11
      have hz11:=hf11.heap (HX.out.2.heap H8.out.2.2.2.1 id) hO2z
      have zf11:=frozen_of hz11 1
      have zc11:=cell_of hz11 1
      simp at zc11
      have f12:=(Fr.self z w11).set1 1 (.slice a11 (k+1) c11)
      have h12:=heap_set hz11 1 (.slice a11 (k+1) c11)
      simp at h12
      have H11:=Lib.hid (⟨hv11,hf11,f12,h12,HX.out.2⟩:_∧_∧_∧_∧_)
      clear hv11 hf11 hz11 f12 h12 HX
      go_wp2_with fail
      go_roundw
      case rel=>
       obtain ⟨hv8,hf8,f9,h9,hx7⟩:=H8.out
       obtain ⟨hv11,hf11,f12,h12,hx10⟩:=H11.out
       have s0:=GD.out.size
       have s7:=hx7.size
       have s8:=hf8.size
       have s10:=hx10.size
       have s11:=hf11.size
       have s12:=f12.size
       have hO1:=HST.out.o1
       have hO2:=HST.out.o2
       have hN1:∀j,grow O1 x7 w8 j→O1 j∨(x7.heap.size≤j∧j<w8.heap.size):=fun j hj=>hj
       have hN2:∀j,grow O2 x10 w11 j→O2 j∨(x10.heap.size≤j∧j<w11.heap.size):=fun j hj=>hj
       have hz1:∀j,grow O1 x7 w8 j→j≠z:=fun j hj e=>(hN1 j hj).elim (fun h=>hO1z (e ▸ h)) (fun h=>by omega)
       have hz2:∀j,grow O2 x10 w11 j→j≠z:=fun j hj e=>(hN2 j hj).elim (fun h=>hO2z (e ▸ h)) (fun h=>by omega)
       refine ⟨k+1,a8,c8,a11,c11,grow O1 x7 w8,grow O2 x10 w11,by go_num,by omega,⟨h12,?_,?_,?_,fun j hj=>?_,fun j hj=>?_,fun j hj h=>?_⟩⟩
       · rw[ints_succ,←HCC.out.1]
         have h:=(((hv8.fr f9 (fun j hj e=>hz1 j hj e)).frN hx10).fr hf11 (fun j hj h=>(hN1 j hj).elim (fun g=>HST.out.dis j g h) (fun g=>by have:=(hO2 j h).2;omega))).fr f12 (fun j hj e=>hz1 j hj e)
         simpa [iv] using h
       · rw[ints_succ,HCC.out.2]
         have h:=hv11.fr f12 (fun j hj e=>hz2 j hj e)
         simpa [iv] using h
       · exact (((((((HST.out.fr.andN GD.out).andN hx7).trans hf8 (fun j hj h=>by have:=(hO1 j h).1;omega)).trans' f9).andN hx10).trans hf11 (fun j hj h=>by have:=(hO2 j h).1;omega)).trans' f12)
       · rcases hN1 j hj with h | h
         · have:=hO1 j h;omega
         · omega
       · rcases hN2 j hj with h | h
         · have:=hO2 j h;omega
         · omega
       · rcases hN1 j hj with h1 | h1
         · rcases hN2 j h with h2 | h2
           · exact HST.out.dis j h1 h2
           · have:=(hO1 j h1).2;omega
         · rcases hN2 j h with h2 | h2
           · have:=(hO2 j h2).2;omega
           · omega
      case measure=>simp[intOf];omega
  · obtain rfl:k=D.ents.length:=by omega
    have hcz:=HST.out.c
    have htz:=hfo.heap HT4.out (by have:=HX0.out;omega)
    obtain ⟨n,hnn⟩:∃n,n=D.ents.length:=⟨_,rfl⟩
    obtain ⟨m,hmm⟩:∃n,n=D.sch.length:=⟨_,rfl⟩
    rw[←hnn] at hcz htz ⊢
    rw[←hmm] at htz ⊢
    obtain ⟨Sx,hSx⟩:∃Sx:World→Prop,Sx=fun y=>Fr (fun j=>j=z∨j=zt) wo y∧y.heap[z]? =some (.cells #[.slice a1 n c1, .slice a2 n c2] 150 (0,0))∧y.heap[zt]? =some (.cells #[.slice sa m sc, .slice ea n ec] 36 (0,0)):=⟨_,rfl⟩
    have HSx:=Lib.hid hSx
    have hS0:Sx wo.drew:=by rw[hSx];exact ⟨(Fr.refl _ wo).drew,(Fr.refl nob wo).drew.heap hcz id,(Fr.refl nob wo).drew.heap htz id⟩
    have HN:=Lib.hid (⟨hnn,hmm⟩:_∧_)
    clear hSx hcz htz hvm hlt hnn hmm
    go_wp2_with fail
    refine wp_region_ord [(0,true),(1,true),(2,false),(3,false),(4,true)] Sx rfl (by kernel_rfl) (by kernel_rfl) (by decide) (fun c a d v w h=>by cases d<;>exact h) hS0 (fun ops hops hS=>?_)
    obtain ⟨d,hdw⟩:∃d,d=wo.drew:=⟨_,rfl⟩
    rw[←hdw] at hS ⊢
    clear hdw hS0
    apply oF hops (by rfl) (.plain rfl)
    focus (intro x hx;rw[HSx.out] at hx;have q0:=cell_of hx.2.1 0;have q1:=cell_of hx.2.1 1;simp at q0 q1;go_simp;rfl)
    go_simp
    apply oF hops (by rfl) (.plain rfl)
    focus (intro x hx;rw[HSx.out] at hx;have q0:=cell_of hx.2.2 0;have q1:=cell_of hx.2.2 1;simp at q0 q1;go_simp;rfl)
    go_simp
    rw[HSx.out] at hS
    obtain ⟨hfd,hcd,htd⟩:=hS
    obtain ⟨zf0,zc0,yc1,zf1,zc1,hh,hfr⟩:=trace_put hcd (.slice a1 n c1) (.slice a2 n c2)
    obtain ⟨y1,hy1⟩:∃y,y=(d.setCell ⟨z,0,none⟩ (.slice a1 n c1)).setCell ⟨z,1,none⟩ (.slice a2 n c2):=⟨_,rfl⟩
    rw[←hy1] at hh hfr
    have htd1:=hfr.heap htd (by have:=HX0.out;omega)
    have H1:=Lib.hid (⟨hfd.trans' (hfr.mono (T:=fun j=>j=z∨j=zt) (fun j _ h=>Or.inl h)),hh,htd1⟩:_∧_∧_)
    clear hfd hcd htd hh hfr htd1
    refine oA hops (by rfl) (.plain rfl) (fun K hK=>?_)
    go_wp2_with fail
    rw[←hy1]
    refine ⟨Sx,fun _ h=>h,by rw[HSx.out];exact H1.out,?_⟩
    clear zf0 zc0 yc1 zf1 zc1 hy1
    obtain ⟨zf0,zc0,yc1,zf1,zc1,hh,hfr⟩:=trace_put H1.out.2.2 (.slice sa m sc) (.slice ea n ec)
    obtain ⟨y2,hy2⟩:∃y,y=(y1.setCell ⟨zt,0,none⟩ (.slice sa m sc)).setCell ⟨zt,1,none⟩ (.slice ea n ec):=⟨_,rfl⟩
    rw[←hy2] at hh hfr
    have hcd2:=hfr.heap H1.out.2.1 (by have:=HX0.out;omega)
    have H2:=Lib.hid (⟨H1.out.1.trans' (hfr.mono (T:=fun j=>j=z∨j=zt) (fun j _ h=>Or.inr h)),hcd2,hh⟩:_∧_∧_)
    clear hh hfr hcd2
    refine oA hops (by rfl) (.plain rfl) (fun K hK=>?_)
    go_wp2_with fail
    rw[←hy2]
    refine ⟨Sx,fun _ h=>h,by rw[HSx.out];exact H2.out,?_⟩
    clear zf0 zc0 yc1 zf1 zc1 hy2
    repeat (first | (apply oF hops (by rfl) (by first | exact .plain rfl | exact .y hops rfl rfl rfl rfl);(focus (intro x hx;go_simp;rfl));go_simp) | (apply oS hops (by rfl) (by first | exact .n hops rfl rfl rfl rfl | exact .u hops rfl rfl rfl rfl);go_simp) | (apply oP hops (by rfl) (by first | exact .n hops rfl rfl rfl rfl | exact .u hops rfl rfl rfl rfl) (by assumption);go_simp))
    apply wpOrd_nil
    go_wp2_with fail
    (try simp only[Exit.inBlock,Exit.then])
    refine bodyPost_ret (results_cct rfl _ _ _ ⟨z,0,none⟩ ⟨zt,0,none⟩ _ _ rfl rfl (load_costs H2.out.2.1) (load_trace H2.out.2.2)) rfl ?_
    have hx:=HX0.out
    have g2:=H2.out.1
    have gs:=g2.size
    have gw:Fr nob w y2:=(HF04.out.trans HST.out.fr (T:=nob) (fun j hj e=>by omega)).trans g2 (T:=nob) (fun j hj e=>by omega)
    have gT:∀j,z+2≤j→¬(j=z∨j=zt):=fun j hj e=>by omega
    have hO1:=HST.out.o1
    have hO2:=HST.out.o2
    have hU:∀j,z+2≤j∧j<u4.heap.size→newb w y2 j:=fun j hj=>⟨by omega,by have:=hj.2;omega⟩
    obtain ⟨hnn,hmm⟩:=HN.out
    have v1:=(HST.out.v1.fr g2 (fun j hj=>gT j (by have:=hO1 j hj;omega))).mono (T:=newb w y2) (fun j hj=>⟨by have:=hO1 j hj;omega,by have:=hO1 j hj;omega⟩)
    have v2:=(HST.out.v2.fr g2 (fun j hj=>gT j (by have:=hO2 j hj;omega))).mono (T:=newb w y2) (fun j hj=>⟨by have:=hO2 j hj;omega,by have:=hO2 j hj;omega⟩)
    refine ⟨a1,c1,a2,c2,sa,sc,ea,ec,by rw[←hnn,←hmm];rfl,gw,?_,?_,?_,?_⟩
    · unfold IV;rw[ints_len];exact v1
    · unfold IV;rw[ints_len];exact v2
    · exact ((HVC.out.fr rCol_ok HST.out.fr (fun j hj e=>by have:=hj.1;omega)).fr rCol_ok g2 (fun j hj=>gT j hj.1)).mono rCol_ok hU
    · exact ((HVE.out.fr rEnt_ok HST.out.fr (fun j hj e=>by have:=hj.1;omega)).fr rEnt_ok g2 (fun j hj=>gT j hj.1)).mono rEnt_ok hU
def Small (l:List Int):Prop:=l.length≤4096∧∀x∈l, -1099511627776≤x∧x≤1099511627776
theorem Small.sums {l:List Int} (h:Small l):∀k,k≤l.length→ -1099511627776*(k:Int)≤(l.take k).sum∧(l.take k).sum≤1099511627776*(k:Int)
 | 0,_=>by simp
 | k+1,hk=>by
   have ih:=h.sums k (by omega)
   have hx:=h.2 l[k] (List.getElem_mem _)
   rw[List.take_succ_eq_append_getElem (by omega),List.sum_append]
   simp only[List.sum_cons,List.sum_nil]
   omega
theorem Small.sum {l:List Int} (h:Small l): -4503599627370496≤l.sum∧l.sum≤4503599627370496:=by
 have h1:=h.sums l.length (Nat.le_refl _)
 rw[List.take_length] at h1
 have:=h.1
 omega
theorem small_ints {f:Nat→Int} (hf:∀k, -1099511627776≤f k∧f k≤1099511627776) {n:Nat} (hn:n≤4096):Small (ints f n):=
 ⟨by rw[ints_len];exact hn,fun x hx=>by obtain ⟨k,_,rfl⟩:=List.mem_map.1 hx;exact hf k⟩
theorem Small.drop {l:List Int} (h:Small l) (i:Nat):Small (l.drop i):=⟨by rw[List.length_drop];have:=h.1;omega,fun x hx=>h.2 x (List.mem_of_mem_drop hx)⟩
theorem Small.take {l:List Int} (h:Small l) (i:Nat):Small (l.take i):=⟨by rw[List.length_take];have:=h.1;omega,fun x hx=>h.2 x (mem_take hx)⟩
theorem delAt_le {D:Dec} (h:DecGood D) (k:Nat): -1099511627776≤delAt D k∧delAt D k≤1099511627776:=by
 have:=costAt_le h k
 unfold delAt
 split<;>omega
set_option maxRecDepth 100000 in
set_option maxHeartbeats 4000000 in
theorem sum_any (S:Nat→Prop) (w:World) (a:Option Addr) (cap:Nat) (l:List Int) (h:IV S w a cap l) (hs:Small l):
 Calls Tryz.prog 87 #[.slice a l.length cap] w fun e w' =>e= .returned (.int .i64 l.sum)∧w' =w:=by
 have HS:=Lib.hid hs
 have hl:=hs.1
 have H:=Lib.hid h
 clear h hs
 go_enter Tryz.func87,Tryz.ntmps87
 go_wp2_with fail
 go_loop [3,8] (fun v3 v8=>∃k:Nat,k≤l.length∧v3= .int .i64 (l.take k).sum∧v8= .int .i64 k) (fun _ v8=>l.length - (intOf v8).toNat)
 case atStart=>exact ⟨0,Nat.zero_le _,by simp,rfl⟩
 case round=>
  obtain ⟨k,hk,rfl,rfl⟩:=hrel
  by_cases hlt:k<l.length
  · obtain ⟨b,off,rfl,_,c0⟩:=H.out.get hlt
    have h1:=HS.out.sums k hk
    have hx:=HS.out.2 l[k] (List.getElem_mem _)
    have hsu:(l.take (k+1)).sum=(l.take k).sum+l[k]:=by rw[List.take_succ_eq_append_getElem hlt,List.sum_append];simp
    generalize l[k]=x at c0 hx hsu
    have HSU:=Lib.hid hsu
    clear hsu
    generalize (l.take k).sum=y at h1 HSU
    have hw:IntKind.i64.wrap (y+x)=y+x:=IntWalk.i64_in _ (by omega)
    go_wp2_with fail
    go_round
    case rel=>exact ⟨k+1,by omega,by rw[HSU.out],by go_num⟩
    case measure=>simp[intOf];omega
  · obtain rfl:k=l.length:=by omega
    rw[List.take_length]
    go_wp2_with fail
    go_ret
    exact ⟨rfl,rfl⟩
theorem IV.sub {S:Nat→Prop} {w:World} {a:Option Addr} {cap:Nat} {l:List Int} (h:IV S w a cap l) (lo hi' mx:Option Value) (x y m:Nat) (hb:∀w',(Instr.sliceBounds true l.length cap lo hi' mx).run Tryz.prog w' = .ok (x,y,m) w') (h1:x≤y) (h2:y≤l.length) (h3:y≤m) (h4:m≤cap):
 ∃a',(∀w',(Instr.slice 93 (.slice a l.length cap) lo hi' mx).run Tryz.prog w' = .ok (.slice a' (y - x) (m - x)) w')∧IV S w a' (m - x) ((l.drop x).take (y - x)):=by
 obtain ⟨i,hi,_,hsz,_⟩:=info_parts inf_int
 obtain ⟨a',r1,r2,_,_⟩:=run_slice_vec (P:=Tryz.prog) h 93 3 i Tryz.underlying93 hi hsz lo hi' mx x y m hb h1 h2 h3 h4
 refine ⟨a',r1,?_⟩
 have hl:((l.drop x).take (y - x)).length=y - x:=by simp;omega
 unfold IV
 rw[hl]
 have:iv ((l.drop x).take (y - x))=((iv l).drop (x*1)).take ((y - x)*1):=by simp[iv,List.map_drop,List.map_take]
 rw[this]
 exact r2
def fromF (D:Dec) (i:Nat):Int:=((ints (delAt D) D.ents.length).drop i).sum
def betwF (D:Dec) (i j:Nat):Int:=(((ints (delAt D) D.ents.length).drop i).take (j - i)).sum
section
variable {S:Nat→Prop} {w:World} (hS:∀k,S k→k<w.heap.size) {a:Option Addr} {cap:Nat} {b:List UInt8} (hb:BV S w a cap b) (hn:b.length≤1099511627776) (hL:Laid w) (hF:Frames w) (hD:DecGood (decF b))
include hS hb hn hL hF hD
set_option maxRecDepth 100000 in
set_option maxHeartbeats 4000000 in
theorem sizes_any:Calls Tryz.prog 42 #[.slice a b.length cap] w fun e w' =>∃a1 c1,e= .returned (.tuple #[.slice a1 (decF b).ents.length c1, .int .i64 0])∧Fr nob w w' ∧IV (newb w w') w' a1 c1 (ints (costAt (decF b)) (decF b).ents.length):=by
 have hp:=planOf_any S w hS a cap b hb hn hL hF hD
 generalize decF b=D at hp
 clear hS hb hL hF hD
 go_enter Tryz.func42,Tryz.ntmps42
 go_wp2_with fail
 refine hp.mono ?_
 rintro e u2 ⟨a1,c1,a2,c2,sa,sc,ea,ec,rfl,hf2,hv1,_,_,_⟩
 have H:=Lib.hid (⟨hf2,hv1⟩:_∧_)
 clear hp hf2 hv1
 go_wp2_with fail
 go_ret2
 have g:Fr nob u2 ((u2.alloc (.cells #[.slice a1 D.ents.length c1, .slice a2 D.ents.length c2] 150 (0,0))).alloc (.cells #[.slice sa D.sch.length sc, .slice ea D.ents.length ec] 36 (0,0))):=((Fr.refl nob u2).alloc _).alloc _
 exact ⟨a1,c1,rfl,H.out.1.andN g,(H.out.2.frN g).mono (fun k hk=>⟨hk.1,Nat.lt_of_lt_of_le hk.2 g.size⟩)⟩
set_option maxRecDepth 100000 in
set_option maxHeartbeats 4000000 in
theorem bytes_any (x y:Nat) (hx:x≤y) (hy:y≤(decF b).ents.length):Calls Tryz.prog 44 #[.slice a b.length cap, .int .i64 x, .int .i64 y] w fun e w' =>e= .returned (.tuple #[.int .i64 (betwF (decF b) x y), .int .i64 0])∧Fr nob w w' :=by
 have hp:=planOf_any S w hS a cap b hb hn hL hF hD
 have hsm:=(small_ints (f:=delAt (decF b)) (delAt_le hD) hD.many)
 unfold betwF
 generalize decF b=D at hp hsm hy
 have HSM:=Lib.hid hsm
 clear hS hb hL hF hD hsm
 go_enter Tryz.func44,Tryz.ntmps44
 go_wp2_with fail
 refine hp.mono ?_
 rintro e u2 ⟨a1,c1,a2,c2,sa,sc,ea,ec,rfl,hf2,_,hv2,_,_⟩
 have hc2:D.ents.length≤c2:=by have h:Vec _ _ _ _ _ _ _:=hv2;have:=h.le;rw[ints_len] at this;exact this
 obtain ⟨a3,q3,hv3⟩:=hv2.sub (some (.int .i64 (x:Int))) (some (.int .i64 (y:Int))) none x y c2 (fun w' =>bounds_lh .i64 .i64 x y _ _ rfl rfl hx (by omega) w') hx (by rw[ints_len];exact hy) (by omega) (Nat.le_refl _)
 rw[ints_len] at q3
 obtain ⟨u4,hu4⟩:∃u,u=(u2.alloc (.cells #[.slice a1 D.ents.length c1, .slice a2 D.ents.length c2] 150 (0,0))).alloc (.cells #[.slice sa D.sch.length sc, .slice ea D.ents.length ec] 36 (0,0)):=⟨_,rfl⟩
 have g:Fr nob u2 u4:=by rw[hu4];exact ((Fr.refl nob u2).alloc _).alloc _
 have hsu:=sum_any _ u4 a3 (c2 - x) _ (hv3.frN g) ((HSM.out.drop x).take (y - x))
 rw[List.length_take,List.length_drop,ints_len,Nat.min_eq_left (by omega)] at hsu
 have H:=Lib.hid (⟨hf2,g⟩:_∧_)
 have HU:=Lib.hid hu4
 have d1:¬(x:Int)<0:=by omega
 have d2:¬(y:Int)<(x:Int):=by omega
 have d3:¬(D.ents.length:Int)<(y:Int):=by omega
 clear hp hf2 hv2 hv3 g hu4 hx hy hc2
 go_wp2_with fail
 rw[←HU.out]
 refine hsu.mono ?_
 rintro e u5 ⟨rfl,rfl⟩
 clear hsu
 go_wp2_with fail
 go_ret2
 exact ⟨rfl,H.out.1.andN H.out.2⟩
end
def bestGo (D:Dec):Nat→Nat→Int→Int→Int×Int
 | 0,_,b,m=>(b,m)
 | f+1,i,b,m=>if (D.ents.getD i default).kind=1∧costAt D i+fromF D i<m then bestGo D f (i+1) i (costAt D i+fromF D i) else bestGo D f (i+1) b m
def bestF (D:Dec) (i:Nat):Int×Int:=bestGo D (D.ents.length - i) i (-1) (fromF D i)
set_option maxRecDepth 100000 in
set_option maxHeartbeats 4000000 in
theorem hold_any (w:World) (zl zb:Nat) (i n m b:Int) (hne:zb≠zl) (hl:w.heap[zl]? =some (.cells #[.int .i64 m] 3 (0,0))) (hb:w.heap[zb]? =some (.cells #[.int .i64 b] 3 (0,0))):
 Calls Tryz.prog 88 #[.int .i64 i, .int .i64 n, .pointer (some ⟨zl,0,none⟩), .pointer (some ⟨zb,0,none⟩)] w fun e w' =>e= .returned (.tuple #[])∧Fr (fun k=>k=zl∨k=zb) w w' ∧w'.heap[zl]? =some (.cells #[.int .i64 (if n<m then n else m)] 3 (0,0))∧w'.heap[zb]? =some (.cells #[.int .i64 (if n<m then i else b)] 3 (0,0)):=by
 have k0:=cell_of hl 0
 have k1:=cell_of hb 0
 have z1:=frozen_of hb 0
 simp at k0 k1
 by_cases h:n<m
 · rw[if_pos h,if_pos h]
   have f1:=(Fr.self zb w).set1 0 (.int .i64 i)
   have h1:=heap_set hb 0 (.int .i64 i)
   have h2:=f1.heap hl (fun e=>hne e.symm)
   have z0:=frozen_of h2 0
   have k2:=cell_of h2 0
   have f2:=(Fr.self zl (w.setCell ⟨zb,0,none⟩ (.int .i64 i))).set1 0 (.int .i64 n)
   have h3:=heap_set h2 0 (.int .i64 n)
   have h4:=f2.heap h1 hne
   simp at h1 h3 h4 k2
   have H:=Lib.hid (⟨(f1.mono (T:=fun k=>k=zl∨k=zb) (fun k _ h=>Or.inr h)).trans' (f2.mono (T:=fun k=>k=zl∨k=zb) (fun k _ h=>Or.inl h)),h3,h4⟩:_∧_∧_)
   clear f1 f2 h1 h2 h3 h4 hl hb
   go_enter Tryz.func88,Tryz.ntmps88
   go_wp2_with fail
   go_end0
   exact ⟨rfl,H.out⟩
 · rw[if_neg h,if_neg h]
   have H:=Lib.hid (⟨hl,hb⟩:_∧_)
   clear hl hb
   go_enter Tryz.func88,Tryz.ntmps88
   go_wp2_with fail
   go_end0
   exact ⟨rfl,Fr.refl _ _,H.out⟩
theorem drop_ents {S:Nat→Prop} {w:World} {a:Option Addr} {cap:Nat} {l:List Ent} (h:SV rEnt 3 S w a cap l) (x:Nat) (hx:x≤l.length):
 ∃a',(∀w',(Instr.slice 34 (.slice a l.length cap) (some (.int .i64 (x:Int))) none none).run Tryz.prog w' = .ok (.slice a' (l.length - x) (cap - x)) w')∧SV rEnt 3 S w a' (cap - x) (l.drop x):=by
 have hle:l.length≤cap:=by obtain ⟨_,_,hv,_⟩:=h;exact hv.le
 obtain ⟨inf,hinf,_,hsz,_⟩:=info_parts inf_Ent
 obtain ⟨a',r1,r2⟩:=h.sub (P:=Tryz.prog) rEnt_ok 34 40 inf Tryz.underlying34 hinf hsz (some (.int .i64 (x:Int))) none none x l.length cap (fun w' =>bounds_l .i64 x _ rfl hx w') hx (Nat.le_refl _) hle (Nat.le_refl _)
 rw[List.take_of_length_le (by rw[List.length_drop];omega)] at r2
 exact ⟨a',r1,r2⟩
theorem IV.from {S:Nat→Prop} {w:World} {a:Option Addr} {cap:Nat} {l:List Int} (h:IV S w a cap l) (z:Int) (x:Nat) (hz:z=x) (hx:x≤l.length):
 ∃a',(∀w',(Instr.slice 93 (.slice a l.length cap) (some (.int .i64 z)) none none).run Tryz.prog w' = .ok (.slice a' (l.length - x) (cap - x)) w')∧IV S w a' (cap - x) (l.drop x):=by
 have hle:l.length≤cap:=by have h:Vec _ _ _ _ _ _ _:=h;exact h.le
 obtain ⟨a',r1,r2⟩:=h.sub (some (.int .i64 z)) none none x l.length cap (fun w' =>bounds_l .i64 x _ hz hx w') hx (Nat.le_refl _) hle (Nat.le_refl _)
 rw[List.take_of_length_le (by rw[List.length_drop];omega)] at r2
 exact ⟨a',r1,r2⟩
theorem fromF_le {D:Dec} (h:DecGood D) (i:Nat): -4503599627370496≤fromF D i∧fromF D i≤4503599627370496:=((small_ints (f:=delAt D) (delAt_le h) h.many).drop i).sum
set_option maxRecDepth 100000 in
set_option maxHeartbeats 16000000 in
theorem best_any (S:Nat→Prop) (w:World) (hS:∀k,S k→k<w.heap.size) (a:Option Addr) (cap:Nat) (b:List UInt8) (hb:BV S w a cap b) (hn:b.length≤1099511627776) (hL:Laid w) (hF:Frames w) (hD:DecGood (decF b)) (x:Nat) (hx:x≤(decF b).ents.length):
 Calls Tryz.prog 43 #[.slice a b.length cap, .int .i64 x] w fun e w' =>e= .returned (.tuple #[.int .i64 (bestF (decF b) x).1, .int .i64 (bestF (decF b) x).2, .int .i64 0])∧Fr nob w w' :=by
 have hp:=planOf_any S w hS a cap b hb hn hL hF hD
 generalize decF b=D at hp hD hx
 have HD:=Lib.hid hD
 have HB:=Lib.hid (⟨fun i=>fromF_le hD i,fun i=>costAt_le hD i,(small_ints (f:=delAt D) (delAt_le hD) hD.many)⟩:_∧_∧_)
 have hmany:=hD.many
 obtain ⟨R,hR⟩:∃R,R=bestF D x:=⟨_,rfl⟩
 rw[←hR]
 have HR:=Lib.hid hR
 clear hS hb hL hF hD hR
 go_enter Tryz.func43,Tryz.ntmps43
 go_wp2_with fail
 refine hp.mono ?_
 rintro e u2 ⟨a1,c1,a2,c2,sa,sc,ea,ec,rfl,hf2,hv1,hv2,_,hve⟩
 clear hp
 obtain ⟨a3,q3,hv3⟩:=hv2.from (x:Int) x rfl (by rw[ints_len];exact hx)
 rw[ints_len] at q3
 obtain ⟨a5,q5,hv5⟩:=drop_ents hve x hx
 obtain ⟨u4,hu4⟩:∃u,u=(u2.alloc (.cells #[.slice a1 D.ents.length c1, .slice a2 D.ents.length c2] 150 (0,0))).alloc (.cells #[.slice sa D.sch.length sc, .slice ea D.ents.length ec] 36 (0,0)):=⟨_,rfl⟩
 obtain ⟨zc,hzc⟩:∃u,u=u2.heap.size:=⟨_,rfl⟩
 have g:Fr nob u2 u4:=by rw[hu4];exact ((Fr.refl nob u2).alloc _).alloc _
 have hcz:u4.heap[zc]? =some (.cells #[.slice a1 D.ents.length c1, .slice a2 D.ents.length c2] 150 (0,0)):=by rw[hu4,hzc];exact heap_old (heap_new u2 _) _
 have hs4:u4.heap.size=zc+2:=by rw[hu4,hzc];simp
 have hsu:=sum_any _ u4 a3 (c2 - x) _ (hv3.frN g) (HB.out.2.2.drop x)
 rw[List.length_drop,ints_len] at hsu
 have hsu:Calls Tryz.prog 87 #[.slice a3 (D.ents.length - x) (c2 - x)] u4 fun e w' =>e= .returned (.int .i64 (fromF D x))∧w' =u4:=hsu
 have H:=Lib.hid (⟨hf2,g,hcz,hs4,hzc⟩:_∧_∧_∧_∧_)
 have HV:=Lib.hid (⟨hv1,hv2,hv5⟩:_∧_∧_)
 have HU:=Lib.hid (⟨hu4,hzc⟩:_∧_)
 have d1:¬(x:Int)<0:=by omega
 have d3:¬(D.ents.length:Int)<(x:Int):=by omega
 have hmb:=HB.out.1 x
 clear hf2 hv1 hv2 hv3 hve hv5 g hu4 hcz hs4 hzc
 go_wp2_with fail
 rw[←HU.out.1]
 refine hsu.mono ?_
 rintro e u5 ⟨rfl,h5⟩
 rw[h5]
 clear hsu h5
 obtain ⟨hf2,g,hcz,hs4,hzc⟩:=H.out
 obtain ⟨w6,hw6⟩:∃u,u=(u4.alloc (.cells #[.int .i64 (-1)] 3 (0,0))).alloc (.cells #[.int .i64 (fromF D x)] 3 (0,0)):=⟨_,rfl⟩
 obtain ⟨zb,hzb⟩:∃u,u=u4.heap.size:=⟨_,rfl⟩
 obtain ⟨zl,hzl⟩:∃u,u=zb+1:=⟨_,rfl⟩
 have g6:Fr nob u4 w6:=by rw[hw6];exact ((Fr.refl nob u4).alloc _).alloc _
 have hbb:w6.heap[zb]? =some (.cells #[.int .i64 (-1)] 3 (0,0)):=by rw[hw6,hzb];exact heap_old (heap_new u4 _) _
 have hbl:w6.heap[zl]? =some (.cells #[.int .i64 (fromF D x)] 3 (0,0)):=by
  have:=heap_new (u4.alloc (.cells #[.int .i64 (-1)] 3 (0,0))) (.cells #[.int .i64 (fromF D x)] 3 (0,0))
  rw[←hw6] at this
  simpa [hzl,hzb] using this
 have htz:u4.heap[zc+1]? =some (.cells #[.slice sa D.sch.length sc, .slice ea D.ents.length ec] 36 (0,0)):=by
  have:=heap_new (u2.alloc (.cells #[.slice a1 D.ents.length c1, .slice a2 D.ents.length c2] 150 (0,0))) (.cells #[.slice sa D.sch.length sc, .slice ea D.ents.length ec] 36 (0,0))
  rw[←HU.out.1] at this
  simpa [hzc] using this
 have ht6:=g6.heap htz id
 rw[hw6] at ht6
 have t1:=cell_of ht6 1
 simp at t1
 rw[hzc] at t1
 have H6:=Lib.hid (⟨hf2.andN (g.andN g6),g6.heap hcz id,hbb,hbl,by omega,by have:=g6.size;have:w6.heap.size=u4.heap.size+2:=by rw[hw6];simp
                                                                            omega⟩:Fr nob w w6∧_∧_∧_∧zb=zc+2∧w6.heap.size=zc+4)
 have HV6:=Lib.hid (⟨(HV.out.1.frN g).frN g6,(HV.out.2.1.frN g).frN g6,(HV.out.2.2.frN rEnt_ok g).frN rEnt_ok g6⟩:_∧_∧_)
 have hmf:∀(fn:Fn) (first cap:Array Value) (w:World),(Instr.makeFunc fn first cap).run Tryz.prog w= .ok (.func fn first cap) w:=fun _ _ _ _=>rfl
 clear ht6 htz hbb hbl g6 hf2 g hcz hs4 hzc
 go_wp2_with fail
 rw[←hw6,←HU.out.2,←hzb,←hzl]
 clear hmf t1
 have HZ6:=Lib.hid H6.out.2.2.2.2.1
 have HZL:=Lib.hid hzl
 have HMB:=Lib.hid hmb
 clear hw6 hzb hzl hmb
 go_loopw [47] (fun v47 wr=>∃(k:Nat) (bs ms:Int),v47= .int .i64 k∧k≤D.ents.length - x∧wr.heap[zb]? =some (.cells #[.int .i64 bs] 3 (0,0))∧wr.heap[zl]? =some (.cells #[.int .i64 ms] 3 (0,0))∧bestGo D (D.ents.length - x - k) (x+k) bs ms=R∧Fr (fun j=>j=zl∨j=zb) w6 wr) (fun v47 _=>D.ents.length - x - (intOf v47).toNat)
 case atStart=>exact ⟨0, -1,fromF D x,rfl,Nat.zero_le _,H6.out.2.2.1,H6.out.2.2.2.1,HR.out.symm,Fr.refl _ _⟩
 case round=>
  obtain ⟨k,bs,ms,rfl,hk,hb1,hb2,hgo,hfr⟩:=hrel
  obtain ⟨wo,rfl⟩:∃x1,x1=wr:=⟨_,rfl⟩
  have HFR:=Lib.hid hfr
  have HBB:=Lib.hid (⟨hb1,hb2⟩:_∧_)
  by_cases hlt:k<D.ents.length - x
  · have hxk:x+k<D.ents.length:=by omega
    have hT:∀j,newb w u2 j→¬(j=zl∨j=zb):=fun j hj e=>by have:=hj.2;have:=HU.out.2;have:=HZL.out;have:=HZ6.out;omega
    obtain ⟨b1,off,ra,rc,rfl,_,_,_,_,e0,e1,e2⟩:=ent_at (HV6.out.2.2.fr rEnt_ok hfr hT) (show k<(D.ents.drop x).length by rw[List.length_drop];exact hlt)
    rw[List.getElem_drop] at e0 e1 e2
    have hkd:(D.ents.getD (x+k) default).kind=D.ents[x+k].kind:=by simp[List.getD_eq_getElem?_getD,hxk]
    have hf:D.ents.length - x - k=(D.ents.length - x - (k+1))+1:=by omega
    rw[hf] at hgo
    simp only[bestGo] at hgo
    rw[hkd] at hgo
    generalize D.ents[x+k].prs=prs at e2
    generalize D.ents[x+k].seq=sq at e1
    generalize D.ents[x+k].kind=kd at e0 hgo
    obtain ⟨w7,hw7⟩:∃x1,x1=wo.alloc (.cells #[.int .i64 kd, .int .i64 sq, .slice ra prs.length rc] 40 (0,0)):=⟨_,rfl⟩
    have hf7:Fr nob wo w7:=by rw[hw7];exact (Fr.refl nob _).alloc _
    have H7:=Lib.hid (⟨hf7,hw7⟩:_∧_)
    have hw1:IntKind.i64.wrap ((x:Int)+k)=(x:Int)+k:=IntWalk.i64_in _ (by omega)
    by_cases hk1:kd=1
    · subst hk1
      obtain ⟨b9,off9,ha1,hb9,cc⟩:=(HV6.out.1.fr hfr hT).get (i:=x+k) (by rw[ints_len];exact hxk)
      have hgi:(ints (costAt D) D.ents.length)[x+k]'(by rw[ints_len];exact hxk)=costAt D (x+k):=by simp[ints]
      rw[hgi] at cc
      subst ha1
      have hb9T:=hT b9 hb9
      have hv2o:=HV6.out.2.1.fr hfr hT
      obtain ⟨a6,q6,hv6⟩:=hv2o.from ((x:Int)+k) (x+k) (by omega) (by rw[ints_len];omega)
      rw[ints_len] at q6
      have hzT:¬(zc=zl∨zc=zb):=fun e=>by have:=HZL.out;have:=HZ6.out;omega
      have hne:zb≠zl:=by have:=HZL.out;omega
      have hco:=hfr.heap H6.out.2.1 hzT
      have hcb:=HB.out.2.1 (x+k)
      have hfb:=HB.out.1 (x+k)
      have hsum:∀y,Fr (fun j=>j=zl∨j=zb) w7 y→Calls Tryz.prog 87 #[.slice a6 (D.ents.length - (x+k)) (c2 - (x+k))] y fun e w' =>e= .returned (.int .i64 (fromF D (x+k)))∧w' =y:=fun y hy=>by
       have h:=sum_any _ y a6 (c2 - (x+k)) _ ((hv6.frN hf7).fr hy hT) (HB.out.2.2.drop (x+k))
       rw[List.length_drop,ints_len] at h
       exact h
      have q0:∀y,Fr (fun j=>j=zl∨j=zb) w7 y→y.cell? ⟨zc,0,none⟩=some (.slice (some ⟨b9,off9,none⟩) D.ents.length c1):=fun y hy=>by have:=cell_of (hy.heap (hf7.heap hco id) hzT) 0;simpa using this
      have q1:∀y,Fr (fun j=>j=zl∨j=zb) w7 y→y.cell? ⟨zc,1,none⟩=some (.slice a2 D.ents.length c2):=fun y hy=>by have:=cell_of (hy.heap (hf7.heap hco id) hzT) 1;simpa using this
      have q2:∀y,Fr (fun j=>j=zl∨j=zb) w7 y→y.cell? ⟨b9,off9+((x:Int)+(k:Int)).toNat,none⟩=some (.int .i64 (costAt D (x+k))):=fun y hy=>by rw[show ((x:Int)+(k:Int)).toNat=x+k by omega];exact hy.cell (hf7.cell cc id) hb9T
      have HSUM:=Lib.hid hsum
      have HGO:=Lib.hid hgo
      have HNE:=Lib.hid (⟨hne,hf7.heap HBB.out.1 id,hf7.heap HBB.out.2 id⟩:_∧_∧_)
      generalize costAt D (x+k)=c at*
      generalize fromF D (x+k)=f at*
      have hwa:IntKind.i64.wrap (c+f)=c+f:=IntWalk.i64_in _ (by omega)
      have hbd1:0≤(x:Int)+k:=by omega
      have hbd2:(x:Int)+k<(D.ents.length:Int):=by omega
      clear hgo hfr hb1 hb2 hf7 hw7 hkd hf hsum hv6 hv2o hco cc hgi hb9 hne
      go_wp2_with fail
      rw[←H7.out.2]
      clear e0 e1 e2
      refine wp_region_ord [(0,true),(1,true),(2,true),(3,true),(4,true),(5,true),(6,true),(7,true),(8,true),(9,true),(10,true),(11,false),(12,true),(13,false)] (Fr (fun j=>j=zl∨j=zb) w7) rfl (by kernel_rfl) (by kernel_rfl) (by decide) (fun c a d v w h=>by cases d<;>exact h) ((Fr.refl _ w7).drew) (fun ops hops hS=>?_)
      obtain ⟨d,hdw⟩:∃d,d=w7.drew:=⟨_,rfl⟩
      have GD:Hid (Fr nob w7 d):=Lib.hid (by rw[hdw];exact (Fr.refl nob _).drew)
      rw[←hdw] at hS ⊢
      clear hdw
      repeat (first | (apply oF hops (by rfl) (by first | exact .plain rfl | exact .y hops rfl rfl rfl rfl);(focus (intro x hx;go_simp;rfl));go_simp) | (apply oS hops (by rfl) (by first | exact .n hops rfl rfl rfl rfl | exact .u hops rfl rfl rfl rfl);go_simp) | (apply oP hops (by rfl) (by first | exact .n hops rfl rfl rfl rfl | exact .u hops rfl rfl rfl rfl) (by assumption);go_simp))
      refine oA hops (by rfl) (.plain rfl) (fun K hK=>?_)
      go_wp2_with fail
      refine (HSUM.out d hS).mono ?_
      rintro e d2 ⟨rfl,h2⟩
      rw[h2]
      refine hK _ _ ⟨_,fun _ h=>h,hS,?_⟩
      clear hK h2
      go_simp
      repeat (first | (apply oF hops (by rfl) (by first | exact .plain rfl | exact .y hops rfl rfl rfl rfl);(focus (intro x hx;go_simp;rfl));go_simp) | (apply oS hops (by rfl) (by first | exact .n hops rfl rfl rfl rfl | exact .u hops rfl rfl rfl rfl);go_simp) | (apply oP hops (by rfl) (by first | exact .n hops rfl rfl rfl rfl | exact .u hops rfl rfl rfl rfl) (by assumption);go_simp))
      refine oA hops (by rfl) (.plain rfl) (fun K hK=>?_)
      go_wp2_with fail
      refine (hold_any d zl zb ((x:Int)+k) (c+f) ms bs HNE.out.1 (GD.out.heap HNE.out.2.2 id) (GD.out.heap HNE.out.2.1 id)).mono ?_
      rintro e u9 ⟨rfl,hf9,hl9,hb9⟩
      have H9:=Lib.hid (⟨hS.trans' hf9,hl9,hb9⟩:_∧_∧_)
      refine hK _ _ ⟨_,fun _ h=>h,H9.out.1,?_⟩
      clear hK hf9 hl9 hb9 q0 q1 q2 q6
      go_simp
      apply wpOrd_nil
      go_wp2_with fail
      go_roundw
      case rel=>
       have hgo:=HGO.out
       have hfe:=HFR.out.trans' (H7.out.1.any.trans' H9.out.1)
       by_cases hc:c+f<ms
       · rw[if_pos ⟨trivial,hc⟩] at hgo
         have g1:=H9.out.2.1
         have g2:=H9.out.2.2
         rw[if_pos hc] at g1 g2
         exact ⟨k+1,(x:Int)+k,c+f,by go_num,by omega,g2,g1,by rw[←hgo];rfl,hfe⟩
       · rw[if_neg (fun h=>hc h.2)] at hgo
         have g1:=H9.out.2.1
         have g2:=H9.out.2.2
         rw[if_neg hc] at g1 g2
         exact ⟨k+1,bs,ms,by go_num,by omega,g2,g1,hgo,hfe⟩
      case measure=>simp[intOf];omega
    · rw[if_neg (fun h=>hk1 h.1)] at hgo
      have HGO:=Lib.hid hgo
      have dk:=beq_eq_false_iff_ne.2 hk1
      clear hgo hfr hb1 hb2 hf7 hw7 hkd hf
      go_wp2_with fail
      rw[←H7.out.2]
      go_roundw
      case rel=>exact ⟨k+1,bs,ms,by go_num,by omega,H7.out.1.heap HBB.out.1 id,H7.out.1.heap HBB.out.2 id,HGO.out,HFR.out.andN H7.out.1⟩
      case measure=>simp[intOf];omega
  · obtain rfl:k=D.ents.length - x:=by omega
    rw[Nat.sub_self] at hgo
    simp only[bestGo] at hgo
    have q0:∀y,Fr nob wo y→y.cell? ⟨zb,0,none⟩=some (.int .i64 bs):=fun y hy=>by have:=cell_of (hy.heap HBB.out.1 id) 0;simpa using this
    have q1:∀y,Fr nob wo y→y.cell? ⟨zl,0,none⟩=some (.int .i64 ms):=fun y hy=>by have:=cell_of (hy.heap HBB.out.2 id) 0;simpa using this
    have HGO:=Lib.hid hgo
    clear hgo hfr hb1 hb2
    go_wp2_with fail
    refine wp_region_ord [(0,true),(1,true),(2,true),(3,true),(4,true)] (Fr nob wo) rfl (by kernel_rfl) (by kernel_rfl) (by decide) (fun c a d v w h=>by cases d<;>exact h) ((Fr.refl nob wo).drew) (fun ops hops hS=>?_)
    obtain ⟨d1,hdw⟩:∃d,d=wo.drew:=⟨_,rfl⟩
    rw[←hdw] at hS ⊢
    have G1:Hid (Fr nob wo d1):=Lib.hid (by rw[hdw];exact (Fr.refl nob wo).drew)
    have E1:=Lib.hid (Ev.of G1.out (nob_lt _))
    clear hdw
    repeat (first | (apply oF hops (by rfl) (by first | exact .plain rfl | exact .y hops rfl rfl rfl rfl);(focus (intro x hx;go_simp;rfl));go_simp) | (apply oS hops (by rfl) (by first | exact .n hops rfl rfl rfl rfl | exact .u hops rfl rfl rfl rfl);go_simp) | (apply oP hops (by rfl) (by first | exact .n hops rfl rfl rfl rfl | exact .u hops rfl rfl rfl rfl) (by assumption);go_simp))
    apply wpOrd_nil
    go_wp2_with fail
    go_ret3
    rw[←HGO.out]
    refine ⟨rfl,(H6.out.1.trans HFR.out (T:=nob) (fun j hj e=>?_)).andN G1.out⟩
    have:=HU.out.2
    have:=HZL.out
    have:=HZ6.out
    have:=H.out.1.size
    omega
noncomputable def sumF (s:List Col) (l r:List Pr):Nat×List Pr:=open Classical in if h:∃p:Nat×List Pr,Summed s l r p.1 p.2 then Classical.choose h else (0,[])
theorem sumF_of {s:List Col} {l r:List Pr} {e:Nat} {out:List Pr} (h:Summed s l r e out):sumF s l r=(e,out):=by
 unfold sumF
 have h0:∃p:Nat×List Pr,Summed s l r p.1 p.2:=⟨(e,out),h⟩
 rw[dif_pos h0]
 obtain ⟨h1,h2⟩:=summedT_det (Classical.choose_spec h0) h
 exact Prod.ext h1 h2
noncomputable def foldF (s:List Col):List Pr→Nat→List Ent→List Pr×Nat
 | t,n,[]=>(t,n)
 | t,n,x::r=>if x.kind=0 then (if (sumF s t x.prs).1=0 then foldF s (sumF s t x.prs).2 (n+1) r else (t,n)) else foldF s t (n+1) r
theorem summed_len2 {s:List Col} {l r out:List Pr} {e:Nat} (h:Summed s l r e out):out.length≤1024:=by
 unfold Summed at h
 split at h
 · rw[h.2];simp
 · split at h
   · rw[h.2];simp
   · exact (collected_len h).1
theorem ents_take {S:Nat→Prop} {w:World} {a:Option Addr} {cap:Nat} {l:List Ent} (h:SV rEnt 3 S w a cap l) (z:Int) (i:Nat) (hz:z=i) (hi:i≤l.length):
 ∃a',(∀w',(Instr.slice 34 (.slice a l.length cap) none (some (.int .i64 z)) none).run Tryz.prog w' = .ok (.slice a' i cap) w')∧SV rEnt 3 S w a' cap (l.take i):=by
 have hle:l.length≤cap:=by obtain ⟨_,_,hv,_⟩:=h;exact hv.le
 obtain ⟨inf,hinf,_,hsz,_⟩:=info_parts inf_Ent
 obtain ⟨a',r1,r2⟩:=h.sub (P:=Tryz.prog) rEnt_ok 34 40 inf Tryz.underlying34 hinf hsz none (some (.int .i64 z)) none 0 i cap (bounds_h .i64 i z hz (by omega)) (Nat.zero_le _) hi (by omega) (Nat.le_refl _)
 rw[List.drop_zero,Nat.sub_zero] at r2
 simp only[Nat.sub_zero] at r1 r2
 exact ⟨a',r1,r2⟩
set_option maxRecDepth 100000 in
set_option maxHeartbeats 1000000 in
theorem clip_any (S:Nat→Prop) (w:World) (a:Option Addr) (cap:Nat) (l:List Pr) (h:SV rPr 2 S w a cap l):
 Calls Tryz.prog 85 #[.slice a l.length cap] w fun e w' =>∃a' c',e= .returned (.slice a' l.length c')∧w' =w∧SV rPr 2 S w a' c' l:=by
 have hle:l.length≤cap:=by obtain ⟨_,_,hv,_⟩:=h;exact hv.le
 obtain ⟨inf,hinf,_,hsz,_⟩:=info_parts inf_Pair
 obtain ⟨a',r1,r2⟩:=h.sub (P:=Tryz.prog) rPr_ok 24 66 inf Tryz.underlying24 hinf hsz none (some (.int .i64 (l.length:Int))) (some (.int .i64 (l.length:Int))) 0 l.length l.length (fun w' =>bounds_hm .i64 .i64 l.length l.length _ _ rfl rfl (Nat.le_refl _) hle w') (Nat.zero_le _) (Nat.le_refl _) (Nat.le_refl _) hle
 rw[List.drop_zero,Nat.sub_zero,List.take_length] at r2
 simp only[Nat.sub_zero] at r1
 have H:=Lib.hid r2
 clear h r2
 go_enter Tryz.func85,Tryz.ntmps85
 go_wp2_with fail
 go_ret
 exact ⟨a',l.length,rfl,rfl,H.out⟩
set_option maxRecDepth 100000 in
set_option maxHeartbeats 8000000 in
theorem changes_any (w:World) (sa:Option Addr) (sc:Nat) (s:List Col) (hs:SV rCol 2 (free w nob) w sa sc s) (la:Option Addr) (lc:Nat) (l:List Ent) (hl:SV rEnt 3 (free w nob) w la lc l) (hL:Laid w) (h0:s.length≤lim) (hn:l.length≤4096) (h00:schemaCheck s=0) (hck:∀x∈l,entryCheck s x.kind x.seq x.prs=0) (most:Nat) (hm:most≤4096):
 Calls Tryz.prog 39 #[.slice sa s.length sc, .int .i64 most, .slice la l.length lc] w fun e w' =>∃a c,e= .returned (.tuple #[.slice a (foldF s [] 0 (l.take most)).1.length c, .int .i64 (foldF s [] 0 (l.take most)).2, .int .i64 0])∧Fr nob w w' ∧SV rPr 2 (free w' nob) w' a c (foldF s [] 0 (l.take most)).1:=by
 obtain ⟨R,hR⟩:∃R,R=foldF s [] 0 (l.take most):=⟨_,rfl⟩
 rw[←hR]
 have HR:=Lib.hid hR
 have HC:=Lib.hid (⟨h00,hck⟩:_∧_)
 have hsch:=schema_any _ w sa sc s hs hL h0
 rw[h00] at hsch
 rw[show ((0:Nat):Int)=0 from rfl] at hsch
 have HS:=Lib.hid (SV.keep rCol_ok hs)
 clear hs
 have HL:=Lib.hid (SV.keep rEnt_ok hl)
 clear hl
 have HLA:=Lib.hid (hL.keep)
 clear hR hL hck h00
 go_enter Tryz.func39,Tryz.ntmps39
 have d0:¬(most:Int)<0:=by omega
 go_wp2_with fail
 refine (hsch).mono ?_
 rintro e u1 ⟨rfl,hfr⟩
 have E1:=Lib.hid (Ev.of hfr (nob_lt _))
 have G1:=Lib.hid hfr
 clear hfr
 clear hsch
 have HEV:=Lib.hid E1.out
 go_wp2_with fail
 go_loopw [28] (fun v28 wr=>∃k:Nat,v28= .int .i64 k∧k≤l.length∧Fr nob u1 wr) (fun v28 _=>l.length - (intOf v28).toNat)
 case atStart=>exact ⟨0,rfl,Nat.zero_le _,Fr.refl _ _⟩
 case round=>
  obtain ⟨k,rfl,hk,hfr⟩:=hrel
  obtain ⟨wo,rfl⟩:∃x1,x1=wr:=⟨_,rfl⟩
  have HEW:=Lib.hid (HEV.out.trans (Ev.of hfr (nob_lt _)))
  have HFR:=Lib.hid hfr
  clear hfr
  by_cases hlt:k<l.length
  · have hck:=HC.out.2 l[k] (List.getElem_mem hlt)
    obtain ⟨b1,off,ra,rc,rfl,_,_,hpl,hp,e0,e1,e2⟩:=ent_at (HL.out _ _ HEW.out) hlt
    generalize l[k]=x at hck hpl hp e0 e1 e2
    obtain ⟨xk,xq,xp⟩:=x
    simp only at hck hpl hp e0 e1 e2
    obtain ⟨w3,hw3⟩:∃x1,x1=wo.alloc (.cells #[.int .i64 xk, .int .i64 xq, .slice ra xp.length rc] 40 (0,0)):=⟨_,rfl⟩
    have hf3:Fr nob wo w3:=by rw[hw3];exact (Fr.refl nob _).alloc _
    have HP:=Lib.hid (SV.keep rPr_ok hp)
    clear hp
    have E2:=Lib.hid (Ev.of hf3 HEW.out.lt)
    have G2:=Lib.hid hf3
    have hec:=entryCheck_any _ _ w3 sa ra sc rc s xk xq xp (HS.out _ _ (HEW.out.trans E2.out)) (HP.out _ _ E2.out) (HLA.out _ _ (HEW.out.trans E2.out)) h0 hpl
    rw[hck,show ((0:Nat):Int)=0 from rfl] at hec
    clear hck hpl hf3
    go_wp2_with fail
    rw[←hw3]
    refine hec.mono ?_
    rintro e u4 ⟨rfl,hf4⟩
    have E3:=Lib.hid (Ev.of hf4 E2.out.lt)
    have G3:=Lib.hid hf4
    clear hec hf4 hw3 e0 e1 e2
    go_wp2_with fail
    go_roundw
    case rel=>exact ⟨k+1,by go_num,by omega,HFR.out.andN (G2.out.andN G3.out)⟩
    case measure=>simp[intOf];omega
  · obtain rfl:k=l.length:=by omega
    obtain ⟨j,hj⟩:∃j,j=min most l.length:=⟨_,rfl⟩
    have hmin:min (most:Int) (l.length:Int)=(j:Int):=by omega
    have hjl:j≤l.length:=by omega
    have htk:l.take most=l.take j:=by
     rcases Nat.le_total most l.length with h | h
     · rw[show j=most by omega]
     · rw[List.take_of_length_le h,List.take_of_length_le (by omega)]
    obtain ⟨a3,q3,hv3⟩:=ents_take (HL.out _ _ HEW.out) (j:Int) j rfl hjl
    have HJ:=Lib.hid htk
    clear hj htk
    have HT:=Lib.hid (SV.keep rEnt_ok hv3)
    clear hv3
    rw[HJ.out] at HR
    go_wp2_with fail
    go_loopw [13,14,46] (fun v13 v14 v46 wr=>∃(k:Nat) (t:List Pr) (ta:Option Addr) (tc:Nat),v46= .int .i64 k∧v14= .int .i64 k∧v13= .slice ta t.length tc∧k≤j∧t.length≤1024∧SV rPr 2 (free wr nob) wr ta tc t∧foldF s t k ((l.take j).drop k)=R∧Fr nob wo wr) (fun _ _ v46 _=>j - (intOf v46).toNat)
    case atStart=>exact ⟨0,[],none,0,rfl,rfl,rfl,Nat.zero_le _,by simp,SV.nil _ _ _ _,by rw[List.drop_zero];exact HR.out.symm,Fr.refl _ _⟩
    case round=>
     obtain ⟨k,t,ta,tc,rfl,rfl,rfl,hk,htl,hsv,hgo,hfr⟩:=hrel
     obtain ⟨wi,rfl⟩:∃x1,x1=wr:=⟨_,rfl⟩
     have HEI:=Lib.hid (HEW.out.trans (Ev.of hfr (nob_lt _)))
     have HFI:=Lib.hid hfr
     clear hfr
     have HTT:=Lib.hid (SV.keep rPr_ok hsv)
     clear hsv
     by_cases hlt:k<j
     · have hlt' :k<(l.take j).length:=by rw[List.length_take];omega
       have hck:=HC.out.2 _ (mem_take (List.getElem_mem hlt'))
       obtain ⟨b1,off,ra,rc,rfl,_,_,_,hp,e0,e1,e2⟩:=ent_at (HT.out _ _ (Ev.of HFI.out (nob_lt _))) hlt'
       rw[List.drop_eq_getElem_cons hlt'] at hgo
       simp only[foldF] at hgo
       generalize (l.take j)[k]=x at hck hp e0 e1 e2 hgo
       obtain ⟨xk,xq,xp⟩:=x
       simp only at hck hp e0 e1 e2 hgo
       have hpl:xp.length≤1024:=(zCheck_len (entryCheck_zero hck).2.2.2).2.1
       obtain ⟨w5,hw5⟩:∃x1,x1=wi.alloc (.cells #[.int .i64 xk, .int .i64 xq, .slice ra xp.length rc] 40 (0,0)):=⟨_,rfl⟩
       have hf5:Fr nob wi w5:=by rw[hw5];exact (Fr.refl nob _).alloc _
       have HP:=Lib.hid (SV.keep rPr_ok hp)
       clear hp
       have E4:=Lib.hid (Ev.of hf5 HEI.out.lt)
       have G4:=Lib.hid hf5
       clear hck hf5
       by_cases hk0:xk=0
       · subst hk0
         rw[if_pos rfl] at hgo
         have HGO:=Lib.hid hgo
         clear hgo
         go_wp2_with fail
         rw[←hw5]
         refine (zsum_o (HS.out _ _ (HEI.out.trans E4.out)) (HTT.out _ _ E4.out) (HP.out _ _ E4.out) (HLA.out _ _ (HEI.out.trans E4.out)) h0 (by omega) (by omega) E4.out.lt).mono ?_
         rintro e u6 ⟨en,out,ao,co,rfl,hsum,hf6,hsv6,_⟩
         have hgo:=HGO.out
         rw[sumF_of hsum] at hgo
         have hol:=summed_len2 hsum
         simp only at hgo
         have E5:=Lib.hid (Ev.of hf6 E4.out.lt)
         have G5:=Lib.hid hf6
         clear hsum hf6 hw5 e0 e1 e2
         by_cases hen:en=0
         · subst hen
           rw[if_pos rfl] at hgo
           have HGO:=Lib.hid hgo
           have HSV6:=Lib.hid hsv6
           clear hgo hsv6
           go_wp2_with fail
           go_roundw
           case rel=>exact ⟨k+1,out,ao,co,by go_num,by go_num,rfl,by omega,hol,HSV6.out,HGO.out,HFI.out.andN (G4.out.andN G5.out)⟩
           case measure=>simp[intOf];omega
         · rw[if_neg hen] at hgo
           have d1:=intne hen
           clear hen hsv6
           go_wp2_with fail
           refine (clip_any _ _ ta tc t (HTT.out _ _ (E4.out.trans E5.out))).mono ?_
           rintro e w9 ⟨a9,c9,rfl,h9,hv9⟩
           rw[h9]
           have HV9:=Lib.hid hv9
           have HGO:=Lib.hid hgo
           clear h9 hv9 hgo
           go_wp2_with fail
           go_ret3
           rw[←HGO.out]
           exact ⟨a9,c9,rfl,((HEI.out.trans (E4.out.trans E5.out))).toN,HV9.out⟩
       · rw[if_neg hk0] at hgo
         have dk:=beq_eq_false_iff_ne.2 hk0
         have HGO:=Lib.hid hgo
         clear hgo
         go_wp2_with fail
         rw[←hw5]
         go_roundw
         case rel=>exact ⟨k+1,t,ta,tc,by go_num,by go_num,rfl,by omega,htl,(HTT.out _ _ E4.out),HGO.out,HFI.out.andN G4.out⟩
         case measure=>simp[intOf];omega
     · obtain rfl:k=j:=by omega
       rw[List.drop_of_length_le (by rw[List.length_take];omega)] at hgo
       simp only[foldF] at hgo
       go_wp2_with fail
       refine (clip_any _ _ ta tc t (HTT.out _ _ (Ev.refl HEI.out.lt))).mono ?_
       rintro e w9 ⟨a9,c9,rfl,h9,hv9⟩
       rw[h9]
       have HV9:=Lib.hid hv9
       have HGO:=Lib.hid hgo
       clear h9 hv9 hgo
       go_wp2_with fail
       go_ret3
       rw[←HGO.out]
       exact ⟨a9,c9,rfl,(HEI.out).toN,HV9.out⟩
theorem dec_good {s:List Col} {l:List Ent} (hp:∀x∈l,PrOk x.prs) (h:(encF s l).1=0):DecGood (decF (encF s l).2.2.1):=by
 obtain ⟨h1,h2,_⟩:=encF_ok hp h
 have h3:=h1.m
 have hlen:=encF_len s l
 rw[decF_backM hp h]
 refine ⟨rfl,marksOf_len s l,fun m hm=>?_,by show l.length≤4096;omega⟩
 obtain ⟨j,hj⟩:=List.getElem?_of_mem hm
 obtain ⟨h4,rfl⟩:=marks_has h hj
 have:=offF_le h h4
 show 0≤((offF s l j:Nat):Int)∧((offF s l j:Nat):Int)≤_
 omega
theorem costAt_enc {s:List Col} {l:List Ent} (hp:∀x∈l,PrOk x.prs) (h:(encF s l).1=0) {k:Nat} (hk:k<l.length):costAt (decF (encF s l).2.2.1) k=(offF s l (k+1):Nat) - (offF s l k:Nat):=by
 rw[decF_backM hp h]
 unfold costAt
 simp only[List.getD_eq_getElem?_getD]
 rw[marks_get h (by omega:k+1≤l.length),marks_get h (by omega:k≤l.length)]
 rfl
theorem coll0 {s:List Col} {l c:List Pr} (h0:schemaCheck s=0) (hr:rowsCheck s l=0) (hok:PrOk l) (hc:Canon s c) (hw:∀row,wt c row=wt l row) (hl:c.length≤1024):Collected s l 0 c:=by
 obtain ⟨e,out,h⟩:=collected_ex s hok
 obtain ⟨rfl,rfl⟩:=collected_of h0 hr hc hw hl h
 exact h
theorem takeF_delta {s:List Col} {t:TSt} {x:Ent} {out:List Pr} (h0:schemaCheck s=0) (hok:TOk s t) (hm:t.m<4096) (hq:t.q<281474976710656) (hk:x.kind=0) (hs:x.seq=t.q+1) (hx:Canon s x.prs) (hxl:x.prs.length≤1024) (hc:Collected s (t.l++x.prs) 0 out):takeF s t x=(0,⟨t.q+1,out,t.m+1⟩):=by
 obtain ⟨n,o,en,ha⟩:=applied_ex s t.q x.kind x.seq (canon_ok hok.can) (canon_ok hx)
 have ha2:=ha
 rw[hk,hs] at ha2
 obtain ⟨h1,h2⟩:=applied_change h0 hok.can hok.len hx hxl ⟨hok.q.1,hq⟩ ha2
 obtain ⟨rfl,rfl⟩:=collected_det h1 hc
 rw[if_pos rfl] at h2
 subst h2
 unfold takeF
 rw[if_neg (by omega),applyF_of ha,if_pos rfl]
def exN:List Pr:=[⟨exR, -1⟩]
def exL:List Ent:=[⟨0,1,exA⟩,⟨0,2,exN⟩]
theorem exN_canon:Canon exS exN:=by
 refine ⟨fun p hp=>?_,fun p hp=>?_,fun p hp=>?_,by simp[exN]⟩
 · obtain rfl:p=⟨exR, -1⟩:=by simpa [exN] using hp
   exact ⟨ex_row,by decide⟩
 · obtain rfl:p=⟨exR, -1⟩:=by simpa [exN] using hp
   decide
 · obtain rfl:p=⟨exR, -1⟩:=by simpa [exN] using hp
   exact ⟨by decide,by decide⟩
theorem exN_rows:rowsCheck exS (exA++exN)=0:=rowsCheck_append (canon_rows ex_canon) (canon_rows exN_canon)
theorem ex_coll1:Collected exS ([]++exA) 0 exA:=coll0 ex_schema (canon_rows ex_canon) (canon_ok ex_canon) ex_canon (fun _=>rfl) (by decide)
theorem ex_coll2:Collected exS (exA++exN) 0 []:=coll0 ex_schema exN_rows (fun p hp=>(List.mem_append.1 hp).elim (canon_ok ex_canon p) (canon_ok exN_canon p)) (canon_nil _) (fun row=>by
 simp only[exA,exN,List.cons_append,List.nil_append,wt]
 split<;>omega) (by decide)
theorem exL_ok:∀x∈exL,PrOk x.prs:=fun x hx=>by
 simp only[exL,List.mem_cons,List.not_mem_nil,or_false] at hx
 rcases hx with rfl | rfl
 · exact canon_ok ex_canon
 · exact canon_ok exN_canon
theorem exL_check:∀x∈exL,entryCheck exS x.kind x.seq x.prs=0:=fun x hx=>by
 simp only[exL,List.mem_cons,List.not_mem_nil,or_false] at hx
 rcases hx with rfl | rfl
 · unfold entryCheck
   rw[if_neg (by rw[ex_schema];omega),if_neg (by decide),if_neg (by decide)]
   exact of_canon ex_schema ex_canon (by decide)
 · unfold entryCheck
   rw[if_neg (by rw[ex_schema];omega),if_neg (by decide),if_neg (by decide)]
   exact of_canon ex_schema exN_canon (by decide)
theorem exL_enc:(encF exS exL).1=0:=by
 have t1:takeF exS .zero ⟨0,1,exA⟩=(0,⟨1,exA,1⟩):=takeF_delta (t:= .zero) (x:=⟨0,1,exA⟩) ex_schema (TOk.zero exS) (by decide) (by decide) rfl rfl ex_canon (by decide) ex_coll1
 have t2:takeF exS ⟨1,exA,1⟩ ⟨0,2,exN⟩=(0,⟨2,[],2⟩):=takeF_delta (t:=⟨1,exA,1⟩) (x:=⟨0,2,exN⟩) ex_schema ⟨ex_canon,by decide,by decide,by decide⟩ (by decide) (by decide) rfl rfl exN_canon (by decide) ex_coll2
 have e1:entryErr exS 0 1 exA=0:=entry_small (exL_check ⟨0,1,exA⟩ (by simp[exL])) (canon_ok ex_canon) (by decide)
 have e2:entryErr exS 0 2 exN=0:=entry_small (exL_check ⟨0,2,exN⟩ (by simp[exL])) (canon_ok exN_canon) (by decide)
 unfold encF exL
 rw[if_pos ex_schema]
 simp only[encGo,t1,t2,e1,e2,if_true]
theorem exL_fold:foldF exS [] 0 (exL.take 5)=([],2):=by
 have s1:sumF exS [] exA=(0,exA):=sumF_of ((summed_is (of_canon ex_schema (canon_nil _) (by decide)) (of_canon ex_schema ex_canon (by decide))).2 ex_coll1)
 have s2:sumF exS exA exN=(0,[]):=sumF_of ((summed_is (of_canon ex_schema ex_canon (by decide)) (of_canon ex_schema exN_canon (by decide))).2 ex_coll2)
 show foldF exS [] 0 [⟨0,1,exA⟩,⟨0,2,exN⟩]=_
 simp only[foldF,s1,s2,if_true]
theorem exL_best:bestF (decF (encF exS exL).2.2.1) 0=(-1,fromF (decF (encF exS exL).2.2.1) 0)∧betwF (decF (encF exS exL).2.2.1) 0 2=fromF (decF (encF exS exL).2.2.1) 0∧0<fromF (decF (encF exS exL).2.2.1) 0:=by
 have c0:=costAt_enc exL_ok exL_enc (k:=0) (by decide)
 have c1:=costAt_enc exL_ok exL_enc (k:=1) (by decide)
 have o0:=offF_lt exL_enc (i:=0) 1 (by omega) (by decide)
 have o1:=offF_lt exL_enc (i:=1) 2 (by omega) (by decide)
 rw[decF_backM exL_ok exL_enc] at c0 c1 ⊢
 generalize marksOf exS exL=ms at*
 generalize (encF exS exL).2.2.1.length=n at*
 generalize offF exS exL=f at*
 have c0:costAt ⟨exS,exL,ms,n,0⟩ 0=((f 1:Nat):Int) - (f 0:Nat):=c0
 have c1:costAt ⟨exS,exL,ms,n,0⟩ 1=((f 2:Nat):Int) - (f 1:Nat):=c1
 refine ⟨rfl,rfl,?_⟩
 have h:fromF ⟨exS,exL,ms,n,0⟩ 0=costAt ⟨exS,exL,ms,n,0⟩ 0+(costAt ⟨exS,exL,ms,n,0⟩ 1+0):=rfl
 rw[h,c0,c1]
 omega
end Go.Proofs.YtibpkfnfcdbiiaaGreatDoor
