/- cursor.Read's inner closure: what it reads. cursor.Read's inner closure: the walk. Contract of cursor.Read. Contract of cursor.Check. Contract of slices.Grow of no bytes. Contract of slices.Concat of bytes. Contract of cursor.Write. What a cursor's bytes are, in plain numbers. -/
import Derived.Test.YtibpkfnfcdbiiaaGreatDoorBunL
import Derived.Test.YtibpkfnfcdbiiaaGreatDoorBunU
import Derived.Test.YtibpkfnfcdbiiaaGreatDoorBunB
import Derived.Lib.AppendZerosOnto
import Derived.Test.YtibpkfnfcdbiiaaGreatDoorBunA
namespace Go.Proofs.YtibpkfnfcdbiiaaGreatDoor
set_option linter.unusedSimpArgs false
open Go.RowKit
set_option linter.unusedVariables false
theorem maxseq_any (w:World):Calls Tryz.prog 110 #[] w fun e w' =>e= .returned (.int .i64 281474976710656)∧w' =w:=by
 go_enter Tryz.func110,Tryz.ntmps110
 go_wp2
 go_ret
 exact ⟨rfl,rfl⟩
def rdU (x:List UInt8) (i:Nat):Nat ⊕ (Nat×Nat):=
 if (getUv 0 0 (x.drop i)).2.2≠0 then .inl (getUv 0 0 (x.drop i)).2.2
 else if 281474976710656<(getUv 0 0 (x.drop i)).1 then .inl 3 else .inr ((getUv 0 0 (x.drop i)).1,i+(getUv 0 0 (x.drop i)).2.1)
def byteAt (x:List UInt8) (i:Nat):Nat:=(x.getD i 0).toNat
def curParse (x:List UInt8):Nat ⊕ (Nat×Nat×Nat×Nat):=
 if x.length=0 then .inl 5 else if byteAt x 0≠67 then .inl 6 else match rdU x 1 with
 | .inl e=> .inl e
 | .inr (s,i)=>match rdU x i with
   | .inl e=> .inl e
   | .inr (o,j)=>if x.length<j+4 then .inl 5 else .inr (s,o,byteAt x j+byteAt x (j+1)*256+byteAt x (j+2)*65536+byteAt x (j+3)*16777216,j+4)
theorem rdU_le {x:List UInt8} {i s j:Nat} (h:rdU x i= .inr (s,j)) (hi:i≤x.length):j≤x.length∧s≤281474976710656:=by
 unfold rdU at h
 split at h
 · cases h
 · split at h
   · cases h
   · cases h
     have:=@getUv_n (x.drop i)
     simp at this
     omega
theorem byteAt_lt (x:List UInt8) (i:Nat):byteAt x i<256:=UInt8.toNat_lt _
theorem byteAt_get {x:List UInt8} {i:Nat} (h:i<x.length):x[i].toNat=byteAt x i:=by simp[byteAt,h]
theorem uint_rd (S:Nat→Prop) (r:Nat) (a:Option Addr) (cap i:Nat) (l:List UInt8) (w:World) (h:Rd w r a l.length cap i true) (hb:BV S w a cap l) (hn:l.length≤1099511627776) (hi:i≤l.length):
 Calls Tryz.prog 109 #[.pointer (some ⟨r,0,none⟩), .int .u64 281474976710656] w fun e w' =>
  (∃z j,rdU l i= .inr (z,j)∧e= .returned (.int .u64 z)∧Fr (fun x=>x=r) w w' ∧Rd w' r a l.length cap j true)∨(∃err,rdU l i= .inl err∧err≠0∧err<256∧e= .panicked (broken r err)∧Fr nob w w'):=by
 obtain ⟨z,k,e0,hg⟩:∃z k e0,getUv 0 0 (l.drop i)=(z,k,e0):=⟨_,_,_,rfl⟩
 have herr:=getUv_err (l.drop i) 0 0
 rw[hg] at herr
 have hr:rdU l i=if e0≠0 then .inl e0 else if 281474976710656<z then .inl 3 else .inr (z,i+k):=by unfold rdU;rw[hg]
 by_cases he:e0=0
 · subst he
   by_cases hz:281474976710656<z
   · refine (uint_over S r a cap i l 281474976710656 z k w h hb hn hi (by omega) hg hz).mono ?_
     rintro e w' ⟨rfl,hf⟩
     exact Or.inr ⟨3,by rw[hr,if_neg (by simp),if_pos hz],by omega,by omega,rfl,hf⟩
   · refine (uint_ok S r a cap i l 281474976710656 z k w h hb hn hi (by omega) hg (by omega)).mono ?_
     rintro e w' ⟨rfl,hf,hr'⟩
     exact Or.inl ⟨z,i+k,by rw[hr,if_neg (by simp),if_neg hz],rfl,hf,hr'⟩
 · refine (uint_bad S r a cap i l 281474976710656 z k w h hb hn hi (by omega) e0 hg he (by simp at herr;omega)).mono ?_
   rintro e w' ⟨rfl,hf⟩
   exact Or.inr ⟨e0,by rw[hr,if_pos he],he,by simp at herr;omega,rfl,hf⟩
theorem byte_rd (S:Nat→Prop) (r:Nat) (a:Option Addr) (cap i:Nat) (l:List UInt8) (w:World) (h:Rd w r a l.length cap i true) (hb:BV S w a cap l) (hn:l.length≤1099511627776) (hi:i≤l.length) (hr:¬S r):
 Calls Tryz.prog 108 #[.pointer (some ⟨r,0,none⟩)] w fun e w' =>
  (i<l.length∧e= .returned (.int .u8 (byteAt l i))∧Fr (fun x=>x=r) w w' ∧Rd w' r a l.length cap (i+1) true)∨(i=l.length∧e= .panicked (broken r 5)∧Fr nob w w'):=by
 by_cases h' :i<l.length
 · refine (byte_ok S r a cap i l w h hb hn h' hr).mono ?_
   rintro e w' ⟨rfl,hf,hr⟩
   exact Or.inl ⟨h',by rw[byteAt_get h'],hf,hr⟩
 · refine (byte_bad r a cap i l w h hn (by omega)).mono ?_
   rintro e w' ⟨rfl,hf⟩
   exact Or.inr ⟨by omega,rfl,hf⟩
theorem bits_or32 (a b:Nat) (ha:a<4294967296) (hb:b<4294967296):bits BinOp.or IntKind.u32 (a:Int) (b:Int)=((a ||| b:Nat):Int):=by
 have h:a ||| b<2 ^ 32:=Nat.or_lt_two_pow (by omega) (by omega)
 simp only[bits]
 rw[show (BitVec.ofInt IntKind.u32.bits (a:Int) ||| BitVec.ofInt IntKind.u32.bits (b:Int)).toNat=a ||| b from by
  show (BitVec.ofInt 32 (a:Int) ||| BitVec.ofInt 32 (b:Int)).toNat=a ||| b
  simp only[BitVec.toNat_or,BitVec.ofInt_natCast,BitVec.toNat_ofNat]
  rw[Nat.mod_eq_of_lt (by omega),Nat.mod_eq_of_lt (by omega)]]
 exact IntWalk.u32_in _ (by omega)
theorem or_sum32 (n M x v:Nat) (hM:M=2 ^ n) (hx:x<M) (hv:v*M<4294967296) (hM2:M<4294967296):bits BinOp.or IntKind.u32 (x:Int) ((v*M:Nat):Int)=((x+v*M:Nat):Int):=by
 rw[bits_or32 x (v*M) (by omega) hv]
 subst hM
 rw[Nat.or_comm,Nat.mul_comm,←Nat.two_pow_add_eq_or_of_lt hx,Nat.add_comm]
def curCells (s o p:Nat):Array Value:=#[.int .i64 s, .int .i64 o, .int .u32 p]
def ReadPost (r c:Nat) (w1:World) (a:Option Addr) (cap:Nat) (x:List UInt8) (e:Ending) (w2:World):Prop:=
 Fr (fun k=>k=r∨k=c) w1 w2∧
     ((e= .returned (.tuple #[])∧∃i,i≤x.length∧Rd w2 r a x.length cap i true∧∃s o p,curParse x= .inr (s,o,p,i)∧s≤281474976710656∧o≤281474976710656∧w2.heap[c]? =some (.cells (curCells s o p) 53 (0,0)))∨
      (∃err i,err≠0∧err<256∧e= .panicked (broken r err)∧Rd w2 r a x.length cap i true∧curParse x= .inl err))
set_option maxRecDepth 100000 in
set_option maxHeartbeats 2000000 in
theorem read1_any (S:Nat→Prop) (r c:Nat) (w1:World) (a:Option Addr) (cap:Nat) (x:List UInt8) (hb:BV S w1 a cap x) (hx:x.length≤1099511627776) (hr:Rd w1 r a x.length cap 0 true) (hc:w1.heap[c]? =some (.cells (curCells 0 0 0) 53 (0,0)))
 (hrS:¬S r) (hcS:¬S c) (hrc:r≠c):
 Calls Tryz.prog 106 #[.pointer (some ⟨r,0,none⟩), .pointer (some ⟨c,0,none⟩)] w1 (ReadPost r c w1 a cap x):=by
 have frc:∀{w w'},Fr (fun k=>k=r) w w' →Fr (fun k=>k=r∨k=c) w w' :=fun h=>h.mono (fun _ _ h=>Or.inl h)
 have frn:∀{w w'},Fr nob w w' →Fr (fun k=>k=r∨k=c) w w' :=fun h=>h.mono (fun _ _ h=>h.elim)
 have hrS' :∀k,S k→¬k=r:=fun k h e=>hrS (e ▸ h)
 have hcS' :∀k,S k→¬k=c:=fun k h e=>hcS (e ▸ h)
 have hrc' :¬c=r:=fun e=>hrc e.symm
 have hSS:∀k,S k→¬(k=r∨k=c):=fun k h e=>by rcases e with e | e;exact hrS (e ▸ h);exact hcS (e ▸ h)
 obtain ⟨Q,hQ⟩:∃Q,Q=ReadPost r c w1 a cap x:=⟨_,rfl⟩
 rw[←hQ]
 have HQ:=Lib.hid hQ
 have HB:=Lib.hid hb
 have HC:=Lib.hid hc
 have HR:=Lib.hid hr
 clear hb hc hr hQ
 go_enter Tryz.func106,Tryz.ntmps106
 go_wp2_with fail
 refine (byte_rd S r a cap 0 x w1 HR.out HB.out hx (by omega) hrS).mono ?_
 rintro e w2 (⟨h0,rfl,hf2,hr2⟩ | ⟨h0,rfl,hf2⟩)
 case inr=>
  go_wp2_with fail
  refine ⟨rfl,?_⟩
  rw[HQ.out]
  exact ⟨frn hf2,Or.inr ⟨5,0,by omega,by omega,rfl,HR.out.fr hf2 id,by unfold curParse;rw[if_pos (by omega)]⟩⟩
 have HR2:Hid (Rd _ _ _ _ _ _ _):=Lib.hid hr2
 clear hr2
 obtain ⟨k,hk⟩:∃k,k=byteAt x 0:=⟨_,rfl⟩
 have hk255:k<256:=hk ▸ byteAt_lt x 0
 rw[←hk]
 have Hk:=Lib.hid hk
 clear hk
 by_cases h67:k=67
 case neg=>
  have hd:((k:Int) == 67)=false:=by simp;omega
  clear h67
  go_wp2_with fail
  refine (must_bad r a x.length cap _ 6 w2 HR2.out (by omega) (by omega)).mono ?_
  rintro e w3 ⟨rfl,rfl⟩
  go_wp2_with fail
  refine ⟨rfl,?_⟩
  rw[HQ.out]
  exact ⟨frc hf2,Or.inr ⟨6,_,by omega,by omega,rfl,HR2.out,by unfold curParse;rw[if_neg (by omega),if_pos (by rw[←Hk.out];simp at hd;omega)]⟩⟩
 subst h67
 go_wp2_with fail
 refine (must_ok r a x.length cap _ true 6 w2 HR2.out (Or.inl rfl)).mono ?_
 rintro e wm ⟨rfl,rfl⟩
 go_wp2_with fail
 refine (maxseq_any wm).mono ?_
 rintro e wn ⟨rfl,rfl⟩
 go_wp2_with fail
 refine (uint_rd S r a cap 1 x wn HR2.out (HB.out.fr hf2 hrS') hx (by omega)).mono ?_
 rintro e w3 (⟨s,i1,hs,rfl,hf3,hr3⟩ | ⟨err,hs,he,he2,rfl,hf3⟩)
 case inr=>
  go_wp2_with fail
  refine ⟨rfl,?_⟩
  rw[HQ.out]
  exact ⟨(frc hf2).trans' (frn hf3),Or.inr ⟨err,_,he,he2,rfl,HR2.out.fr hf3 id,by unfold curParse;rw[if_neg (by omega),if_neg (by rw[←Hk.out];simp),hs]⟩⟩
 obtain ⟨hi1,hs48⟩:=rdU_le hs (by omega)
 have f3:=(frc hf2).trans' (frc hf3)
 have fr3:=hf2.trans' hf3
 have HR3:Hid (Rd _ _ _ _ _ _ _):=Lib.hid hr3
 have HC3:=Lib.hid (fr3.heap HC.out hrc')
 have c0:=cell_of HC3.out 0
 have z0:=frozen_of HC3.out 0
 simp[curCells] at c0
 have Hs:=Lib.hid hs
 clear hs hr3
 go_wp2_with fail
 have f4:Fr (fun k=>k=c) w3 (w3.setCell ⟨c,0,none⟩ (.int .i64 s)):=(Fr.self c w3).set1 0 _
 have e4:(w3.setCell ⟨c,0,none⟩ (.int .i64 s)).heap[c]? =some (.cells (curCells s 0 0) 53 (0,0)):=by
  have:=heap_set HC3.out 0 (.int .i64 s)
  simpa [curCells] using this
 obtain ⟨w4,hw4⟩:∃w4,w4=w3.setCell ⟨c,0,none⟩ (.int .i64 s):=⟨_,rfl⟩
 rw[←hw4] at f4 e4
 rw[←hw4]
 have HC4:=Lib.hid e4
 have HR4:Hid (Rd _ _ _ _ _ _ _):=Lib.hid (HR3.out.fr f4 hrc)
 clear hw4 c0 z0 e4
 refine (uint_rd S r a cap i1 x w4 HR4.out ((HB.out.fr fr3 hrS').fr f4 hcS') hx hi1).mono ?_
 rintro e w5 (⟨o,i2,ho,rfl,hf5,hr5⟩ | ⟨err,ho,he,he2,rfl,hf5⟩)
 case inr=>
  go_wp2_with fail
  refine ⟨rfl,?_⟩
  rw[HQ.out]
  exact ⟨(f3.trans f4 (fun _ _ h=>Or.inr h)).trans' (frn hf5),Or.inr ⟨err,_,he,he2,rfl,HR4.out.fr hf5 id,by unfold curParse;rw[if_neg (by omega),if_neg (by rw[←Hk.out];simp),Hs.out];simp only[ho]⟩⟩
 obtain ⟨hi2,ho48⟩:=rdU_le ho (by omega)
 have HR5:Hid (Rd _ _ _ _ _ _ _):=Lib.hid hr5
 have HC5:=Lib.hid (hf5.heap HC4.out hrc')
 have c0:=cell_of HC5.out 1
 have z0:=frozen_of HC5.out 1
 simp[curCells] at c0
 have Ho:=Lib.hid ho
 clear ho hr5
 have F5:=(f3.trans f4 (fun _ _ h=>Or.inr h)).trans' (frc hf5)
 go_wp2_with fail
 have f6:Fr (fun k=>k=c) w5 (w5.setCell ⟨c,1,none⟩ (.int .i64 o)):=(Fr.self c w5).set1 1 _
 obtain ⟨p0,hp0⟩:∃p0:Nat,p0=0:=⟨_,rfl⟩
 have HC0:Hid ((w5.setCell ⟨c,1,none⟩ (.int .i64 o)).heap[c]? =some (.cells (curCells s o p0) 53 (0,0))):=Lib.hid (by
  have:=heap_set HC5.out 1 (.int .i64 o)
  rw[hp0]
  simpa [curCells] using this)
 have b0:p0<1:=by omega
 have Hp0:=Lib.hid hp0
 have F0:=F5.trans f6 (fun _ _ h=>Or.inr h)
 obtain ⟨v0,hv0⟩:∃v0,v0=w5.setCell ⟨c,1,none⟩ (.int .i64 o):=⟨_,rfl⟩
 rw[←hv0] at f6 HC0 F0
 rw[←hv0]
 have HR0:Hid (Rd v0 r a x.length cap (i2+0) true):=Lib.hid (HR5.out.fr f6 hrc)
 have i2len:i2+0≤x.length:=by omega
 clear hp0 hv0 c0 z0 hf2 hf3 hf5 f3 f4 f6 fr3 F5 HC HC3 HC4 HC5 HR HR2 HR3 HR4 HR5
 refine wp_loop_rounds 5 ?_
 rw[rounds_succ]
 go_wp2_with fail
 have c0:=cell_of HC0.out 2
 simp[curCells] at c0
 have q0:∀y,Fr (fun k=>k=r) v0 y→y.cell? ⟨c,2,none⟩=some (.int .u32 p0):=fun y hy=>hy.cell c0 hrc'
 clear c0
 refine wp_region_ord2 10 [(0,true),(1,true),(2,true),(5,true),(6,true),(3,false),(4,true),(7,true),(8,true),(9,true)] [(10,false)] (Fr (fun k=>k=r) v0) rfl (by kernel_rfl) (by kernel_rfl) (by kernel_rfl) (by decide) (fun c a d v w h=>by cases d<;>exact h) ((Fr.refl _ v0).drew) (fun ops hops hS=>?_)
 repeat (apply wpOrdB_free _ _ (by rw[hops.out];rfl) (by first | exact Wants.plain rfl | exact Wants.yes rfl (by rw[hops.out];rfl) rfl rfl);(focus (intro x hx;go_simp;rfl));go_simp)
 refine wpOrdB_act _ (by rw[hops.out];rfl) (by first | exact Wants.plain rfl | exact Wants.yes rfl (by rw[hops.out];rfl) rfl rfl) (fun K hK=>?_)
 go_wp2_with fail
 refine (byte_rd S r a cap (i2+0) x _ (HR0.out.fr (Fr.refl nob v0).drew id) ((HB.out.fr F0 hSS).frN (Fr.refl nob v0).drew) hx i2len hrS).mono ?_
 rintro e u0 (⟨hj0,rfl,hfu0,hru0⟩ | ⟨hj0,rfl,hfu0⟩)
 case inr=>
  go_wp2_with fail
  refine ⟨rfl,?_⟩
  rw[HQ.out]
  exact ⟨F0.trans' (frn ((Fr.refl nob v0).drew.trans' hfu0)),Or.inr ⟨5,_,by omega,by omega,rfl,(HR0.out.fr (Fr.refl nob v0).drew id).fr hfu0 id,by unfold curParse;rw[if_neg (by omega),if_neg (by rw[←Hk.out];simp),Hs.out];simp only[Ho.out];rw[if_pos (by omega)]⟩⟩
 have g0:Fr (fun k=>k=r) v0 u0:=(Fr.refl _ v0).drew.trans' hfu0
 refine hK _ _ ⟨_,fun _ h=>h,g0,?_⟩
 clear hK
 obtain ⟨bk,hbk⟩:∃bk,bk=byteAt x (i2+0):=⟨_,rfl⟩
 have bk255:bk<256:=hbk ▸ byteAt_lt x _
 rw[←hbk]
 obtain ⟨p1,hp1⟩:∃p1,p1=p0+bk*1:=⟨_,rfl⟩
 have b1:p1<256:=by omega
 have hO:bits BinOp.or IntKind.u32 (p0:Int) (bk:Int)=(p1:Int):=by
  rw[hp1,←or_sum32 0 1 p0 bk rfl b0 (by omega) (by omega)]
  rw[Nat.mul_one]
 have Hp1:Hid (p1=p0+byteAt x (i2+0)*1):=Lib.hid (by rw[←hbk];exact hp1)
 clear hbk hp1
 go_simp
 repeat (apply wpOrdB_free _ _ (by rw[hops.out];rfl) (by first | exact Wants.plain rfl | exact Wants.yes rfl (by rw[hops.out];rfl) rfl rfl);(focus (intro x hx;go_simp;rfl));go_simp)
 refine wpOrdB_nil (fun _=>True) trivial ?_
 clear hS
 have HCu:=Lib.hid (g0.heap HC0.out hrc')
 have zu:=frozen_of HCu.out 2
 have cu:=cell_of HCu.out 2
 simp[curCells] at cu
 refine oA hops (by rfl) (by first | exact .plain rfl | exact .y hops rfl rfl rfl rfl) (fun K hK=>?_)
 go_wp2_with fail
 have HO:=Lib.hid hO
 have HC1:Hid ((u0.setCell ⟨c,2,none⟩ (.int .u32 p1)).heap[c]? =some (.cells (curCells s o p1) 53 (0,0))):=Lib.hid (by
  have:=heap_set HCu.out 2 (.int .u32 p1)
  simpa [curCells] using this)
 have fs:Fr (fun k=>k=c) u0 (u0.setCell ⟨c,2,none⟩ (.int .u32 p1)):=(Fr.self c u0).set1 2 _
 have F1:=(F0.trans' (frc g0)).trans fs (fun _ _ h=>Or.inr h)
 have HR1:Hid (Rd _ r a x.length cap (i2+0+1) true):=Lib.hid (hru0.fr fs hrc)
 refine ⟨_,fun _ h=>h,trivial,wpOrd_nil ?_⟩
 rw[hO]
 obtain ⟨v1,hv⟩:∃v1,v1=u0.setCell ⟨c,2,none⟩ (.int .u32 p1):=⟨_,rfl⟩
 rw[←hv] at HC1 F1 HR1
 rw[←hv]
 clear hv hO HO zu cu HCu hfu0 hru0 g0 fs q0 F0 HC0 HR0 hops ops
 have i2len:i2+0+1≤x.length:=by omega
 go_wp2_with fail
 rw[rounds_succ]
 go_wp2_with fail
 have c1:=cell_of HC1.out 2
 simp[curCells] at c1
 have q1:∀y,Fr (fun k=>k=r) v1 y→y.cell? ⟨c,2,none⟩=some (.int .u32 p1):=fun y hy=>hy.cell c1 hrc'
 clear c1
 refine wp_region_ord2 10 [(0,true),(1,true),(2,true),(5,true),(6,true),(3,false),(4,true),(7,true),(8,true),(9,true)] [(10,false)] (Fr (fun k=>k=r) v1) rfl (by kernel_rfl) (by kernel_rfl) (by kernel_rfl) (by decide) (fun c a d v w h=>by cases d<;>exact h) ((Fr.refl _ v1).drew) (fun ops hops hS=>?_)
 repeat (apply wpOrdB_free _ _ (by rw[hops.out];rfl) (by first | exact Wants.plain rfl | exact Wants.yes rfl (by rw[hops.out];rfl) rfl rfl);(focus (intro x hx;go_simp;rfl));go_simp)
 refine wpOrdB_act _ (by rw[hops.out];rfl) (by first | exact Wants.plain rfl | exact Wants.yes rfl (by rw[hops.out];rfl) rfl rfl) (fun K hK=>?_)
 go_wp2_with fail
 refine (byte_rd S r a cap (i2+1) x _ (HR1.out.fr (Fr.refl nob v1).drew id) ((HB.out.fr F1 hSS).frN (Fr.refl nob v1).drew) hx i2len hrS).mono ?_
 rintro e u1 (⟨hj1,rfl,hfu1,hru1⟩ | ⟨hj1,rfl,hfu1⟩)
 case inr=>
  go_wp2_with fail
  refine ⟨rfl,?_⟩
  rw[HQ.out]
  exact ⟨F1.trans' (frn ((Fr.refl nob v1).drew.trans' hfu1)),Or.inr ⟨5,_,by omega,by omega,rfl,(HR1.out.fr (Fr.refl nob v1).drew id).fr hfu1 id,by unfold curParse;rw[if_neg (by omega),if_neg (by rw[←Hk.out];simp),Hs.out];simp only[Ho.out];rw[if_pos (by omega)]⟩⟩
 have g1:Fr (fun k=>k=r) v1 u1:=(Fr.refl _ v1).drew.trans' hfu1
 refine hK _ _ ⟨_,fun _ h=>h,g1,?_⟩
 clear hK
 obtain ⟨bk,hbk⟩:∃bk,bk=byteAt x (i2+1):=⟨_,rfl⟩
 have bk255:bk<256:=hbk ▸ byteAt_lt x _
 rw[←hbk]
 obtain ⟨p2,hp2⟩:∃p2,p2=p1+bk*256:=⟨_,rfl⟩
 have b2:p2<65536:=by omega
 have hO:bits BinOp.or IntKind.u32 (p1:Int) ((bk:Int)*256)=(p2:Int):=by
  rw[hp2,←or_sum32 8 256 p1 bk rfl b1 (by omega) (by omega)]
  rw[Int.natCast_mul];rfl
 have Hp2:Hid (p2=p1+byteAt x (i2+1)*256):=Lib.hid (by rw[←hbk];exact hp2)
 clear hbk hp2
 go_simp
 repeat (apply wpOrdB_free _ _ (by rw[hops.out];rfl) (by first | exact Wants.plain rfl | exact Wants.yes rfl (by rw[hops.out];rfl) rfl rfl);(focus (intro x hx;go_simp;rfl));go_simp)
 refine wpOrdB_nil (fun _=>True) trivial ?_
 clear hS
 have HCu:=Lib.hid (g1.heap HC1.out hrc')
 have zu:=frozen_of HCu.out 2
 have cu:=cell_of HCu.out 2
 simp[curCells] at cu
 refine oA hops (by rfl) (by first | exact .plain rfl | exact .y hops rfl rfl rfl rfl) (fun K hK=>?_)
 go_wp2_with fail
 have HO:=Lib.hid hO
 have HC2:Hid ((u1.setCell ⟨c,2,none⟩ (.int .u32 p2)).heap[c]? =some (.cells (curCells s o p2) 53 (0,0))):=Lib.hid (by
  have:=heap_set HCu.out 2 (.int .u32 p2)
  simpa [curCells] using this)
 have fs:Fr (fun k=>k=c) u1 (u1.setCell ⟨c,2,none⟩ (.int .u32 p2)):=(Fr.self c u1).set1 2 _
 have F2:=(F1.trans' (frc g1)).trans fs (fun _ _ h=>Or.inr h)
 have HR2:Hid (Rd _ r a x.length cap (i2+1+1) true):=Lib.hid (hru1.fr fs hrc)
 refine ⟨_,fun _ h=>h,trivial,wpOrd_nil ?_⟩
 rw[hO]
 obtain ⟨v2,hv⟩:∃v2,v2=u1.setCell ⟨c,2,none⟩ (.int .u32 p2):=⟨_,rfl⟩
 rw[←hv] at HC2 F2 HR2
 rw[←hv]
 clear hv hO HO zu cu HCu hfu1 hru1 g1 fs q1 F1 HC1 HR1 hops ops
 have i2len:i2+1+1≤x.length:=by omega
 go_wp2_with fail
 rw[rounds_succ]
 go_wp2_with fail
 have c2:=cell_of HC2.out 2
 simp[curCells] at c2
 have q2:∀y,Fr (fun k=>k=r) v2 y→y.cell? ⟨c,2,none⟩=some (.int .u32 p2):=fun y hy=>hy.cell c2 hrc'
 clear c2
 refine wp_region_ord2 10 [(0,true),(1,true),(2,true),(5,true),(6,true),(3,false),(4,true),(7,true),(8,true),(9,true)] [(10,false)] (Fr (fun k=>k=r) v2) rfl (by kernel_rfl) (by kernel_rfl) (by kernel_rfl) (by decide) (fun c a d v w h=>by cases d<;>exact h) ((Fr.refl _ v2).drew) (fun ops hops hS=>?_)
 repeat (apply wpOrdB_free _ _ (by rw[hops.out];rfl) (by first | exact Wants.plain rfl | exact Wants.yes rfl (by rw[hops.out];rfl) rfl rfl);(focus (intro x hx;go_simp;rfl));go_simp)
 refine wpOrdB_act _ (by rw[hops.out];rfl) (by first | exact Wants.plain rfl | exact Wants.yes rfl (by rw[hops.out];rfl) rfl rfl) (fun K hK=>?_)
 go_wp2_with fail
 refine (byte_rd S r a cap (i2+2) x _ (HR2.out.fr (Fr.refl nob v2).drew id) ((HB.out.fr F2 hSS).frN (Fr.refl nob v2).drew) hx i2len hrS).mono ?_
 rintro e u2 (⟨hj2,rfl,hfu2,hru2⟩ | ⟨hj2,rfl,hfu2⟩)
 case inr=>
  go_wp2_with fail
  refine ⟨rfl,?_⟩
  rw[HQ.out]
  exact ⟨F2.trans' (frn ((Fr.refl nob v2).drew.trans' hfu2)),Or.inr ⟨5,_,by omega,by omega,rfl,(HR2.out.fr (Fr.refl nob v2).drew id).fr hfu2 id,by unfold curParse;rw[if_neg (by omega),if_neg (by rw[←Hk.out];simp),Hs.out];simp only[Ho.out];rw[if_pos (by omega)]⟩⟩
 have g2:Fr (fun k=>k=r) v2 u2:=(Fr.refl _ v2).drew.trans' hfu2
 refine hK _ _ ⟨_,fun _ h=>h,g2,?_⟩
 clear hK
 obtain ⟨bk,hbk⟩:∃bk,bk=byteAt x (i2+2):=⟨_,rfl⟩
 have bk255:bk<256:=hbk ▸ byteAt_lt x _
 rw[←hbk]
 obtain ⟨p3,hp3⟩:∃p3,p3=p2+bk*65536:=⟨_,rfl⟩
 have b3:p3<16777216:=by omega
 have hO:bits BinOp.or IntKind.u32 (p2:Int) ((bk:Int)*65536)=(p3:Int):=by
  rw[hp3,←or_sum32 16 65536 p2 bk rfl b2 (by omega) (by omega)]
  rw[Int.natCast_mul];rfl
 have Hp3:Hid (p3=p2+byteAt x (i2+2)*65536):=Lib.hid (by rw[←hbk];exact hp3)
 clear hbk hp3
 go_simp
 repeat (apply wpOrdB_free _ _ (by rw[hops.out];rfl) (by first | exact Wants.plain rfl | exact Wants.yes rfl (by rw[hops.out];rfl) rfl rfl);(focus (intro x hx;go_simp;rfl));go_simp)
 refine wpOrdB_nil (fun _=>True) trivial ?_
 clear hS
 have HCu:=Lib.hid (g2.heap HC2.out hrc')
 have zu:=frozen_of HCu.out 2
 have cu:=cell_of HCu.out 2
 simp[curCells] at cu
 refine oA hops (by rfl) (by first | exact .plain rfl | exact .y hops rfl rfl rfl rfl) (fun K hK=>?_)
 go_wp2_with fail
 have HO:=Lib.hid hO
 have HC3:Hid ((u2.setCell ⟨c,2,none⟩ (.int .u32 p3)).heap[c]? =some (.cells (curCells s o p3) 53 (0,0))):=Lib.hid (by
  have:=heap_set HCu.out 2 (.int .u32 p3)
  simpa [curCells] using this)
 have fs:Fr (fun k=>k=c) u2 (u2.setCell ⟨c,2,none⟩ (.int .u32 p3)):=(Fr.self c u2).set1 2 _
 have F3:=(F2.trans' (frc g2)).trans fs (fun _ _ h=>Or.inr h)
 have HR3:Hid (Rd _ r a x.length cap (i2+2+1) true):=Lib.hid (hru2.fr fs hrc)
 refine ⟨_,fun _ h=>h,trivial,wpOrd_nil ?_⟩
 rw[hO]
 obtain ⟨v3,hv⟩:∃v3,v3=u2.setCell ⟨c,2,none⟩ (.int .u32 p3):=⟨_,rfl⟩
 rw[←hv] at HC3 F3 HR3
 rw[←hv]
 clear hv hO HO zu cu HCu hfu2 hru2 g2 fs q2 F2 HC2 HR2 hops ops
 have i2len:i2+2+1≤x.length:=by omega
 go_wp2_with fail
 rw[rounds_succ]
 go_wp2_with fail
 have c3:=cell_of HC3.out 2
 simp[curCells] at c3
 have q3:∀y,Fr (fun k=>k=r) v3 y→y.cell? ⟨c,2,none⟩=some (.int .u32 p3):=fun y hy=>hy.cell c3 hrc'
 clear c3
 refine wp_region_ord2 10 [(0,true),(1,true),(2,true),(5,true),(6,true),(3,false),(4,true),(7,true),(8,true),(9,true)] [(10,false)] (Fr (fun k=>k=r) v3) rfl (by kernel_rfl) (by kernel_rfl) (by kernel_rfl) (by decide) (fun c a d v w h=>by cases d<;>exact h) ((Fr.refl _ v3).drew) (fun ops hops hS=>?_)
 repeat (apply wpOrdB_free _ _ (by rw[hops.out];rfl) (by first | exact Wants.plain rfl | exact Wants.yes rfl (by rw[hops.out];rfl) rfl rfl);(focus (intro x hx;go_simp;rfl));go_simp)
 refine wpOrdB_act _ (by rw[hops.out];rfl) (by first | exact Wants.plain rfl | exact Wants.yes rfl (by rw[hops.out];rfl) rfl rfl) (fun K hK=>?_)
 go_wp2_with fail
 refine (byte_rd S r a cap (i2+3) x _ (HR3.out.fr (Fr.refl nob v3).drew id) ((HB.out.fr F3 hSS).frN (Fr.refl nob v3).drew) hx i2len hrS).mono ?_
 rintro e u3 (⟨hj3,rfl,hfu3,hru3⟩ | ⟨hj3,rfl,hfu3⟩)
 case inr=>
  go_wp2_with fail
  refine ⟨rfl,?_⟩
  rw[HQ.out]
  exact ⟨F3.trans' (frn ((Fr.refl nob v3).drew.trans' hfu3)),Or.inr ⟨5,_,by omega,by omega,rfl,(HR3.out.fr (Fr.refl nob v3).drew id).fr hfu3 id,by unfold curParse;rw[if_neg (by omega),if_neg (by rw[←Hk.out];simp),Hs.out];simp only[Ho.out];rw[if_pos (by omega)]⟩⟩
 have g3:Fr (fun k=>k=r) v3 u3:=(Fr.refl _ v3).drew.trans' hfu3
 refine hK _ _ ⟨_,fun _ h=>h,g3,?_⟩
 clear hK
 obtain ⟨bk,hbk⟩:∃bk,bk=byteAt x (i2+3):=⟨_,rfl⟩
 have bk255:bk<256:=hbk ▸ byteAt_lt x _
 rw[←hbk]
 obtain ⟨p4,hp4⟩:∃p4,p4=p3+bk*16777216:=⟨_,rfl⟩
 have b4:p4<4294967296:=by omega
 have hO:bits BinOp.or IntKind.u32 (p3:Int) ((bk:Int)*16777216)=(p4:Int):=by
  rw[hp4,←or_sum32 24 16777216 p3 bk rfl b3 (by omega) (by omega)]
  rw[Int.natCast_mul];rfl
 have Hp4:Hid (p4=p3+byteAt x (i2+3)*16777216):=Lib.hid (by rw[←hbk];exact hp4)
 clear hbk hp4
 go_simp
 repeat (apply wpOrdB_free _ _ (by rw[hops.out];rfl) (by first | exact Wants.plain rfl | exact Wants.yes rfl (by rw[hops.out];rfl) rfl rfl);(focus (intro x hx;go_simp;rfl));go_simp)
 refine wpOrdB_nil (fun _=>True) trivial ?_
 clear hS
 have HCu:=Lib.hid (g3.heap HC3.out hrc')
 have zu:=frozen_of HCu.out 2
 have cu:=cell_of HCu.out 2
 simp[curCells] at cu
 refine oA hops (by rfl) (by first | exact .plain rfl | exact .y hops rfl rfl rfl rfl) (fun K hK=>?_)
 go_wp2_with fail
 have HO:=Lib.hid hO
 have HC4:Hid ((u3.setCell ⟨c,2,none⟩ (.int .u32 p4)).heap[c]? =some (.cells (curCells s o p4) 53 (0,0))):=Lib.hid (by
  have:=heap_set HCu.out 2 (.int .u32 p4)
  simpa [curCells] using this)
 have fs:Fr (fun k=>k=c) u3 (u3.setCell ⟨c,2,none⟩ (.int .u32 p4)):=(Fr.self c u3).set1 2 _
 have F4:=(F3.trans' (frc g3)).trans fs (fun _ _ h=>Or.inr h)
 have HR4:Hid (Rd _ r a x.length cap (i2+3+1) true):=Lib.hid (hru3.fr fs hrc)
 refine ⟨_,fun _ h=>h,trivial,wpOrd_nil ?_⟩
 rw[hO]
 obtain ⟨v4,hv⟩:∃v4,v4=u3.setCell ⟨c,2,none⟩ (.int .u32 p4):=⟨_,rfl⟩
 rw[←hv] at HC4 F4 HR4
 rw[←hv]
 clear hv hO HO zu cu HCu hfu3 hru3 g3 fs q3 F3 HC3 HR3 hops ops
 have i2len:i2+3+1≤x.length:=by omega
 go_wp2_with fail
 rw[rounds_succ]
 go_wp2_with fail
 go_end0
 rw[HQ.out]
 refine ⟨F4,Or.inl ⟨rfl,i2+4,by omega,HR4.out,s,o,p4,?_,hs48,ho48,HC4.out⟩⟩
 unfold curParse
 rw[if_neg (by omega),if_neg (by rw[←Hk.out];simp),Hs.out]
 simp only[Ho.out]
 rw[if_neg (by omega)]
 have e1:=Hp1.out
 have e2:=Hp2.out
 have e3:=Hp3.out
 have e4:=Hp4.out
 have e0:=Hp0.out
 have:p4=byteAt x i2+byteAt x (i2+1)*256+byteAt x (i2+2)*65536+byteAt x (i2+3)*16777216:=by
  simp only[Nat.add_zero] at e1
  omega
 rw[this]
def curRead (l:List UInt8):Nat ⊕ (Nat×Nat×Nat):=
 match crcOpen l with
 | none=> .inl 8
 | some x=>match curParse x with
   | .inl e=> .inl e
   | .inr (s,o,p,i)=>if i<x.length then .inl 7 else .inr (s,o,p)
def curAgg (s o p:Nat):Value:= .agg #[.int .i64 s, .int .i64 o, .int .u32 p]
def curAns (l:List UInt8):Ending:=match curRead l with
 | .inl e=> .returned (.tuple #[curAgg 0 0 0, .int .i64 e])
 | .inr (s,o,p)=> .returned (.tuple #[curAgg s o p, .int .i64 0])
theorem crcOpen_len {l x:List UInt8} (h:crcOpen l=some x):l.length=x.length+4:=by
 rw[crcOpen_some h];simp[crcSeal,crcPut_len]
theorem store3 {w:World} {z:Nat} {s0 o0 p0:Nat} (h:w.heap[z]? =some (.cells (curCells s0 o0 p0) 53 (0,0))) (s o p:Nat):
 (((w.setCell ⟨z,0,none⟩ (.int .i64 s)).setCell ⟨z,1,none⟩ (.int .i64 o)).setCell ⟨z,2,none⟩ (.int .u32 p)).heap[z]? =some (.cells (curCells s o p) 53 (0,0))∧
 Fr (fun k=>k=z) w (((w.setCell ⟨z,0,none⟩ (.int .i64 s)).setCell ⟨z,1,none⟩ (.int .i64 o)).setCell ⟨z,2,none⟩ (.int .u32 p)):=by
 refine ⟨?_,(((Fr.self z w).set1 0 _).set1 1 _).set1 2 _⟩
 have h1:=heap_set h 0 (.int .i64 s)
 have h2:=heap_set h1 1 (.int .i64 o)
 have h3:=heap_set h2 2 (.int .u32 p)
 simpa [curCells] using h3
set_option maxRecDepth 100000 in
theorem cur_results {w:World} {z:Nat} {s o p err:Nat} {tmps:Array Value} (h:w.heap[z]? =some (.cells (curCells s o p) 53 (0,0))) (h2:tmps.getD 2 undef= .pointer (some ⟨z,0,none⟩)) (h3:tmps.getD 3 undef= .int .i64 err):
 (results Tryz.f68 tmps).run Tryz.prog w= .ok (.tuple #[curAgg s o p, .int .i64 err]) w:=by
 have k0:=cell_of h 0
 have k1:=cell_of h 1
 have k2:=cell_of h 2
 simp[curCells] at k0 k1 k2
 rw[Array.getD_eq_getD_getElem?] at h2 h3
 simp[results,Tryz.results68,go_sem,h2,h3,k0,k1,k2,curAgg]
theorem curRead_none {l:List UInt8} (h:crcOpen l=none):curRead l= .inl 8:=by unfold curRead;rw[h]
theorem curRead_bad {l x:List UInt8} {e:Nat} (h:crcOpen l=some x) (hp:curParse x= .inl e):curRead l= .inl e:=by unfold curRead;rw[h];simp only[hp]
theorem curRead_more {l x:List UInt8} {s o p i:Nat} (h:crcOpen l=some x) (hp:curParse x= .inr (s,o,p,i)) (hi:i<x.length):curRead l= .inl 7:=by unfold curRead;rw[h];simp only[hp];rw[if_pos hi]
theorem curRead_ok {l x:List UInt8} {s o p i:Nat} (h:crcOpen l=some x) (hp:curParse x= .inr (s,o,p,i)) (hi:¬i<x.length):curRead l= .inr (s,o,p):=by unfold curRead;rw[h];simp only[hp];rw[if_neg hi]
theorem curAns_inl {l:List UInt8} {e:Nat} (h:curRead l= .inl e):curAns l= .returned (.tuple #[curAgg 0 0 0, .int .i64 e]):=by unfold curAns;rw[h]
theorem curAns_inr {l:List UInt8} {s o p:Nat} (h:curRead l= .inr (s,o,p)):curAns l= .returned (.tuple #[curAgg s o p, .int .i64 0]):=by unfold curAns;rw[h]
set_option maxRecDepth 100000 in
set_option maxHeartbeats 2000000 in
theorem curread_any (S:Nat→Prop) (w:World) (a:Option Addr) (cap:Nat) (l:List UInt8) (h:BV S w a cap l) (hl:l.length≤1099511627776):
 Calls Tryz.prog 68 #[.slice a l.length cap] w fun e w' =>e=curAns l∧Fr nob w w' :=by
 have hmf:∀(fn:Fn) (first cap:Array Value) (w:World),(Instr.makeFunc fn first cap).run Tryz.prog w= .ok (.func fn first cap) w:=fun _ _ _ _=>rfl
 obtain ⟨E,hE⟩:∃E,E=curAns l:=⟨_,rfl⟩
 rw[←hE]
 have HE:=Lib.hid hE
 have H:=Lib.hid h
 clear h hE
 have hB:=heap_new w (.cells #[.int .i64 0, .int .i64 0, .int .u32 0] 53 (0,0))
 have hf0:=(Fr.refl nob w).alloc (.cells #[.int .i64 0, .int .i64 0, .int .u32 0] 53 (0,0))
 go_enter Tryz.func68,Tryz.ntmps68
 go_wp2_with fail
 obtain ⟨z,hz⟩:∃z,z=w.heap.size:=⟨_,rfl⟩
 obtain ⟨w0,hw0⟩:∃w0,w0=w.alloc (.cells #[.int .i64 0, .int .i64 0, .int .u32 0] 53 (0,0)):=⟨_,rfl⟩
 rw[←hz,←hw0]
 rw[←hz,←hw0] at hB
 rw[←hw0] at hf0
 have HZ:=Lib.hid hz
 clear hz hw0
 refine (open_any _ _ _ _ l (H.out.frN hf0) hl).mono ?_
 intro e w1 hp
 unfold OpenPost at hp
 obtain ⟨hf1,hp⟩:=hp
 have hB:=hf1.heap hB id
 have HB:=Lib.hid hB
 have k0:=cell_of hB 0
 have k1:=cell_of hB 1
 have k2:=cell_of hB 2
 have z0:=frozen_of hB 0
 have z1:=frozen_of hB 1
 have z2:=frozen_of hB 2
 simp at k0 k1 k2
 clear hB
 cases hx:crcOpen l with
 | none=>
   rw[hx] at hp
   cases hp
   have hEE:E= .returned (.tuple #[curAgg 0 0 0, .int .i64 8]):=HE.out.trans (curAns_inl (curRead_none hx))
   have HEE:=Lib.hid hEE
   clear hEE
   go_wp2_with fail
   obtain ⟨e3,f3⟩:=store3 (z:=z) HB.out 0 0 0
   refine bodyPost_ret (cur_results e3 rfl rfl) rfl ⟨HEE.out.symm,?_⟩
   exact ((hf0.andN hf1).trans f3 (fun k hk e=>absurd hk (by have:=HZ.out;omega)))
 | some x=>
   rw[hx] at hp
   obtain ⟨a1,cap1,rfl,hv1⟩:=hp
   have HX:=Lib.hid hx
   have HV:=Lib.hid hv1
   have hxl:x.length≤1099511627776:=by
    have h1:=crcOpen_len hx
    omega
   clear hx hv1
   go_wp2_with fail
   have hC:=heap_new w1 (.cells (curCells 0 0 0) 53 (0,0))
   have hf2:=(Fr.refl nob w1).alloc (.cells (curCells 0 0 0) 53 (0,0))
   obtain ⟨c,hc⟩:∃c,c=w1.heap.size:=⟨_,rfl⟩
   obtain ⟨w2,hw2⟩:∃w2,w2=w1.alloc (.cells (curCells 0 0 0) 53 (0,0)):=⟨_,rfl⟩
   have hw2' :w1.alloc (.cells #[.int .i64 0, .int .i64 0, .int .u32 0] 53 (0,0))=w2:=hw2.symm
   rw[←hc,←hw2] at hC
   rw[←hw2] at hf2
   rw[←hc,hw2']
   have hcl:=heap_lt hC
   have HVc:Hid (∀k,newb w0 w1 k→¬k=c):=Lib.hid (fun k hk e=>by have:=hk.2;omega)
   have HC:=Lib.hid hC
   have HCs:=Lib.hid hc
   clear hw2 hw2' hc
   refine (run_any 106 #[.pointer (some ⟨c,0,none⟩)] (fun k=>k=c) (newb w0 w1) w2 a1 cap1 x (HV.out.frN hf2) hxl (fun _ _=>rfl)
    (fun i w' =>∃s o p,curParse x= .inr (s,o,p,i)∧s≤281474976710656∧o≤281474976710656∧w'.heap[c]? =some (.cells (curCells s o p) 53 (0,0))) (fun e w' =>curParse x= .inl e) (fun k hk=>hk ▸ hcl) ?_).mono ?_
   · intro r w3 hf3 hzr hr
     refine (read1_any (newb w0 w1) r c w3 a1 cap1 x ((HV.out.frN hf2).frN hf3) hxl hr (hf3.heap HC.out id) (fun hk=>by have:=hk.2;have:=hf2.size;omega) (fun hk=>HVc.out c hk rfl) (by omega)).mono ?_
     rintro e w4 ⟨hf4,hh⟩
     exact ⟨hf4,hh⟩
   · rintro e w3 ⟨i,err,w4,rfl,hf3,hsame,hh⟩
     have hzc:z≠c:=by have:=HZ.out;have:=heap_lt HB.out;have:=HCs.out;omega
     have hBz:=hf3.heap (hf2.heap HB.out id) hzc
     have hBc:=hsame c hcl
     have HB3:=Lib.hid hBz
     have k0:=cell_of hBz 0
     have k1:=cell_of hBz 1
     have k2:=cell_of hBz 2
     have z0:=frozen_of hBz 0
     have z1:=frozen_of hBz 1
     have z2:=frozen_of hBz 2
     simp at k0 k1 k2
     have F3:Fr nob w w3:=((hf0.andN hf1).andN hf2).trans hf3 (fun k hk e=>absurd hk (by have:=hf0.size;have:=hf1.size;have:=HCs.out;omega))
     clear hBz hsame
     rcases hh with ⟨hi,⟨s,o,p,hp,hs,ho,hc4⟩,herr⟩ | ⟨he,hbad⟩
     · by_cases hlt:i<x.length
       · rw[if_pos hlt] at herr
         subst herr
         have hEE:=HE.out.trans (curAns_inl (curRead_more HX.out hp hlt))
         have HEE:=Lib.hid hEE
         clear hEE hp hBc hc4
         go_wp2_with fail
         obtain ⟨e5,f5⟩:=store3 (z:=z) HB3.out 0 0 0
         refine bodyPost_ret (cur_results e5 rfl rfl) rfl ⟨HEE.out.symm,?_⟩
         exact F3.trans f5 (fun k hk e=>absurd hk (by have:=HZ.out;omega))
       · rw[if_neg hlt] at herr
         subst herr
         have hEE:=HE.out.trans (curAns_inr (curRead_ok HX.out hp hlt))
         have HEE:=Lib.hid hEE
         rw[hc4] at hBc
         have c0:=cell_of hBc 0
         have c1:=cell_of hBc 1
         have c2:=cell_of hBc 2
         simp[curCells] at c0 c1 c2
         clear hEE hp hBc hc4
         go_wp2_with fail
         obtain ⟨e5,f5⟩:=store3 (z:=z) HB3.out s o p
         refine bodyPost_ret (cur_results e5 rfl rfl) rfl ⟨HEE.out.symm,?_⟩
         exact F3.trans f5 (fun k hk e=>absurd hk (by have:=HZ.out;omega))
     · have hEE:=HE.out.trans (curAns_inl (curRead_bad HX.out hbad))
       have HEE:=Lib.hid hEE
       have hd:((err:Int) != 0)=true:=by simp;omega
       clear hEE hbad hBc
       go_wp2_with fail
       obtain ⟨e5,f5⟩:=store3 (z:=z) HB3.out 0 0 0
       have hres:=fun tmps=>@cur_results _ z 0 0 0 err tmps e5
       refine bodyPost_ret (hres _ rfl rfl) rfl ?_
       refine ⟨HEE.out.symm,?_⟩
       exact F3.trans f5 (fun k hk e=>absurd hk (by have:=HZ.out;omega))
def curBad (s o:Int):Prop:=s<0∨281474976710656<s∨o<0∨281474976710656<o
instance (s o:Int):Decidable (curBad s o):=by unfold curBad;infer_instance
def curVal (s o p:Int):Value:= .agg #[.int .i64 s, .int .i64 o, .int .u32 p]
set_option maxRecDepth 100000 in
set_option maxHeartbeats 2000000 in
theorem check_any (s o p:Int) (w:World):
 Calls Tryz.prog 72 #[curVal s o p] w fun e w' =>e= .returned (.int .i64 (if curBad s o then 3 else 0))∧Fr nob w w' :=by
 obtain ⟨E,hE⟩:∃E,E=(if curBad s o then 3 else 0:Int):=⟨_,rfl⟩
 rw[←hE]
 have HE:=Lib.hid hE
 clear hE
 unfold curVal
 have hB:=heap_new w (.cells #[.int .i64 s, .int .i64 o, .int .u32 p] 53 (0,0))
 have hf0:=(Fr.refl nob w).alloc (.cells #[.int .i64 s, .int .i64 o, .int .u32 p] 53 (0,0))
 go_enter Tryz.func72,Tryz.ntmps72
 go_wp2_with fail
 obtain ⟨z,hz⟩:∃z,z=w.heap.size:=⟨_,rfl⟩
 obtain ⟨w0,hw0⟩:∃w0,w0=w.alloc (.cells #[.int .i64 s, .int .i64 o, .int .u32 p] 53 (0,0)):=⟨_,rfl⟩
 rw[←hz,←hw0]
 rw[←hz,←hw0] at hB
 rw[←hw0] at hf0
 have k0:=cell_of hB 0
 have k1:=cell_of hB 1
 simp at k0 k1
 have q0:∀y,Fr nob w0 y→y.cell? ⟨z,0,none⟩=some (.int .i64 s):=fun y hy=>hy.cell k0 id
 have q1:∀y,Fr nob w0 y→y.cell? ⟨z,1,none⟩=some (.int .i64 o):=fun y hy=>hy.cell k1 id
 clear hz hw0 hB k0 k1
 have fd:Fr nob w w0.drew:=hf0.drew
 by_cases c0:s<0
 · have hEE:E=3:=by rw[HE.out,if_pos (by unfold curBad;omega)]
   clear HE
   subst hEE
   refine wp_region_ord [(0,true),(1,true),(2,true),(3,true),(4,true),(5,true),(6,false),(7,true),(8,true),(9,true),(10,true),(11,true),(12,true),(13,true),(14,true),(15,true),(16,true),(17,true),(18,true)] (Fr nob w0) rfl (by kernel_rfl) (by kernel_rfl) (by decide) (fun c a d v w h=>by cases d<;>exact h) ((Fr.refl nob w0).drew) (fun ops hops hS=>?_)
   repeat (first | (apply oF hops (by rfl) (by first | exact .plain rfl | exact .y hops rfl rfl rfl rfl);(focus (intro x hx;go_simp;rfl));go_simp) | (apply oS hops (by rfl) (by first | exact .n hops rfl rfl rfl rfl | exact .u hops rfl rfl rfl rfl);go_simp) | (apply oP hops (by rfl) (by first | exact .n hops rfl rfl rfl rfl | exact .u hops rfl rfl rfl rfl) (by assumption);go_simp))
   apply wpOrd_nil
   go_wp2_with fail
   go_ret
   exact ⟨rfl,fd⟩
 · by_cases c1:281474976710656<s
   · have hEE:E=3:=by rw[HE.out,if_pos (by unfold curBad;omega)]
     clear HE
     subst hEE
     refine wp_region_ord [(0,true),(1,true),(2,true),(3,true),(4,true),(5,true),(6,false),(7,true),(8,true),(9,true),(10,true),(11,true),(12,true),(13,true),(14,true),(15,true),(16,true),(17,true),(18,true)] (Fr nob w0) rfl (by kernel_rfl) (by kernel_rfl) (by decide) (fun c a d v w h=>by cases d<;>exact h) ((Fr.refl nob w0).drew) (fun ops hops hS=>?_)
     repeat (first | (apply oF hops (by rfl) (by first | exact .plain rfl | exact .y hops rfl rfl rfl rfl);(focus (intro x hx;go_simp;rfl));go_simp) | (apply oS hops (by rfl) (by first | exact .n hops rfl rfl rfl rfl | exact .u hops rfl rfl rfl rfl);go_simp) | (apply oP hops (by rfl) (by first | exact .n hops rfl rfl rfl rfl | exact .u hops rfl rfl rfl rfl) (by assumption);go_simp))
     refine oA hops (by rfl) (by first | exact .plain rfl | exact .y hops rfl rfl rfl rfl) (fun K hK=>?_)
     go_wp2_with fail
     refine (maxseq_any _).mono ?_
     rintro e w1 ⟨rfl,rfl⟩
     refine hK _ _ ⟨_,fun _ h=>h,?_,?_⟩
     · exact hS
     go_simp
     repeat (first | (apply oF hops (by rfl) (by first | exact .plain rfl | exact .y hops rfl rfl rfl rfl);(focus (intro x hx;go_simp;rfl));go_simp) | (apply oS hops (by rfl) (by first | exact .n hops rfl rfl rfl rfl | exact .u hops rfl rfl rfl rfl);go_simp) | (apply oP hops (by rfl) (by first | exact .n hops rfl rfl rfl rfl | exact .u hops rfl rfl rfl rfl) (by assumption);go_simp))
     apply wpOrd_nil
     go_wp2_with fail
     go_ret
     exact ⟨rfl,fd⟩
   · have d1:decide (281474976710656<s)=false:=decide_eq_false c1
     by_cases c2:o<0
     · have hEE:E=3:=by rw[HE.out,if_pos (by unfold curBad;omega)]
       clear HE
       subst hEE
       refine wp_region_ord [(0,true),(1,true),(2,true),(3,true),(4,true),(5,true),(6,false),(7,true),(8,true),(9,true),(10,true),(11,true),(12,true),(13,true),(14,true),(15,true),(16,true),(17,true),(18,true)] (Fr nob w0) rfl (by kernel_rfl) (by kernel_rfl) (by decide) (fun c a d v w h=>by cases d<;>exact h) ((Fr.refl nob w0).drew) (fun ops hops hS=>?_)
       repeat (first | (apply oF hops (by rfl) (by first | exact .plain rfl | exact .y hops rfl rfl rfl rfl);(focus (intro x hx;go_simp;rfl));go_simp) | (apply oS hops (by rfl) (by first | exact .n hops rfl rfl rfl rfl | exact .u hops rfl rfl rfl rfl);go_simp) | (apply oP hops (by rfl) (by first | exact .n hops rfl rfl rfl rfl | exact .u hops rfl rfl rfl rfl) (by assumption);go_simp))
       refine oA hops (by rfl) (by first | exact .plain rfl | exact .y hops rfl rfl rfl rfl) (fun K hK=>?_)
       go_wp2_with fail
       refine (maxseq_any _).mono ?_
       rintro e w1 ⟨rfl,rfl⟩
       refine hK _ _ ⟨_,fun _ h=>h,?_,?_⟩
       · exact hS
       go_simp
       repeat (first | (apply oF hops (by rfl) (by first | exact .plain rfl | exact .y hops rfl rfl rfl rfl);(focus (intro x hx;go_simp;rfl));go_simp) | (apply oS hops (by rfl) (by first | exact .n hops rfl rfl rfl rfl | exact .u hops rfl rfl rfl rfl);go_simp) | (apply oP hops (by rfl) (by first | exact .n hops rfl rfl rfl rfl | exact .u hops rfl rfl rfl rfl) (by assumption);go_simp))
       apply wpOrd_nil
       go_wp2_with fail
       go_ret
       exact ⟨rfl,fd⟩
     · have d2:decide (o<0)=false:=decide_eq_false c2
       by_cases c3:281474976710656<o
       · have hEE:E=3:=by rw[HE.out,if_pos (by unfold curBad;omega)]
         clear HE
         subst hEE
         refine wp_region_ord [(0,true),(1,true),(2,true),(3,true),(4,true),(5,true),(6,false),(7,true),(8,true),(9,true),(10,true),(11,true),(12,true),(13,true),(14,true),(15,true),(16,true),(17,true),(18,true)] (Fr nob w0) rfl (by kernel_rfl) (by kernel_rfl) (by decide) (fun c a d v w h=>by cases d<;>exact h) ((Fr.refl nob w0).drew) (fun ops hops hS=>?_)
         repeat (first | (apply oF hops (by rfl) (by first | exact .plain rfl | exact .y hops rfl rfl rfl rfl);(focus (intro x hx;go_simp;rfl));go_simp) | (apply oS hops (by rfl) (by first | exact .n hops rfl rfl rfl rfl | exact .u hops rfl rfl rfl rfl);go_simp) | (apply oP hops (by rfl) (by first | exact .n hops rfl rfl rfl rfl | exact .u hops rfl rfl rfl rfl) (by assumption);go_simp))
         refine oA hops (by rfl) (by first | exact .plain rfl | exact .y hops rfl rfl rfl rfl) (fun K hK=>?_)
         go_wp2_with fail
         refine (maxseq_any _).mono ?_
         rintro e w1 ⟨rfl,rfl⟩
         refine hK _ _ ⟨_,fun _ h=>h,?_,?_⟩
         · exact hS
         go_simp
         repeat (first | (apply oF hops (by rfl) (by first | exact .plain rfl | exact .y hops rfl rfl rfl rfl);(focus (intro x hx;go_simp;rfl));go_simp) | (apply oS hops (by rfl) (by first | exact .n hops rfl rfl rfl rfl | exact .u hops rfl rfl rfl rfl);go_simp) | (apply oP hops (by rfl) (by first | exact .n hops rfl rfl rfl rfl | exact .u hops rfl rfl rfl rfl) (by assumption);go_simp))
         apply wpOrd_nil
         go_wp2_with fail
         go_ret
         exact ⟨rfl,fd⟩
       · have d3:decide (281474976710656<o)=false:=decide_eq_false c3
         have hEE:E=0:=by rw[HE.out,if_neg (by unfold curBad;omega)]
         clear HE
         subst hEE
         refine wp_region_ord [(0,true),(1,true),(2,true),(3,true),(4,true),(5,true),(6,false),(7,true),(8,true),(9,true),(10,true),(11,true),(12,true),(13,true),(14,true),(15,true),(16,true),(17,true),(18,true)] (Fr nob w0) rfl (by kernel_rfl) (by kernel_rfl) (by decide) (fun c a d v w h=>by cases d<;>exact h) ((Fr.refl nob w0).drew) (fun ops hops hS=>?_)
         repeat (first | (apply oF hops (by rfl) (by first | exact .plain rfl | exact .y hops rfl rfl rfl rfl);(focus (intro x hx;go_simp;rfl));go_simp) | (apply oS hops (by rfl) (by first | exact .n hops rfl rfl rfl rfl | exact .u hops rfl rfl rfl rfl);go_simp) | (apply oP hops (by rfl) (by first | exact .n hops rfl rfl rfl rfl | exact .u hops rfl rfl rfl rfl) (by assumption);go_simp))
         refine oA hops (by rfl) (by first | exact .plain rfl | exact .y hops rfl rfl rfl rfl) (fun K hK=>?_)
         go_wp2_with fail
         refine (maxseq_any _).mono ?_
         rintro e w1 ⟨rfl,rfl⟩
         refine hK _ _ ⟨_,fun _ h=>h,?_,?_⟩
         · exact hS
         go_simp
         repeat (first | (apply oF hops (by rfl) (by first | exact .plain rfl | exact .y hops rfl rfl rfl rfl);(focus (intro x hx;go_simp;rfl));go_simp) | (apply oS hops (by rfl) (by first | exact .n hops rfl rfl rfl rfl | exact .u hops rfl rfl rfl rfl);go_simp) | (apply oP hops (by rfl) (by first | exact .n hops rfl rfl rfl rfl | exact .u hops rfl rfl rfl rfl) (by assumption);go_simp))
         apply wpOrd_nil
         go_wp2_with fail
         go_ret
         exact ⟨rfl,fd⟩
theorem wpList_append_runB {P:Program} {ops:Array Oper} {rest:List Oper} {o:Oper} {ac:Act} {Q:Exit→Act→World→Prop} {w:World} (hgd:o.guard=none) (s x:Operand) (t tx:TypeId)
 (ho:o.op= .call {callee:= .builtin .append,args:=#[s,x],argTypes:=#[t,tx]}) {sv xv v:Value} {w' :World} (hv:ac.eval s=sv) (hx:ac.eval x=xv)
 (hrun:∀ty,(Builtin.append_ #[t,tx] ty #[sv,xv]).run P w= .ok v w') (hK:wpList P ops Q rest (ac.put o.dst v) w'):wpList P ops Q (o::rest) ac w:=by
 refine wpList_plain hgd fun K hK' =>?_
 have hrun:=hrun o.type
 unfold Oper.wp
 simp[execOp,ho,resolve,invoke,builtin,hv,hx,hrun,Result.andThen]
 exact hK' _ _ hK
theorem zero_bytes (k:Nat):(Builtin.zeroCells (Value.int .u8 0).cells k).size=k∧∀u∈(Builtin.zeroCells (Value.int .u8 0).cells k).toList,u.oneCell' =true:=by
 have hc:(Value.int .u8 0).cells=#[.int .u8 0]:=rfl
 refine ⟨by rw[size_zeroCells,hc];simp,fun u hu=>?_⟩
 simp only[Builtin.zeroCells,Array.toList_map,List.mem_map] at hu
 obtain ⟨b,_,rfl⟩:=hu
 have:b%(Value.int .u8 0).cells.size=0:=by rw[hc];exact Nat.mod_one b
 rw[this]
 rfl
set_option maxRecDepth 100000 in
set_option maxHeartbeats 2000000 in
theorem grow_any (n:Nat) (hn:n≤1099511627776) (w:World):
 Calls Tryz.prog 113 #[.slice none 0 0, .int .i64 n] w fun e w' =>∃a' cap',e= .returned (.slice a' 0 cap')∧Fr nob w w' ∧BV (newb w w') w' a' cap' []:=by
 by_cases h0:n=0
 · subst h0
   go_enter Tryz.func113,Tryz.ntmps113
   go_wp2
   go_ret
   exact ⟨none,0,rfl,Fr.refl _ _,BV.nil _ _⟩
 · obtain ⟨i,hi,hz,hsize,hby⟩:=info_parts inf_u8
   have hold:(Builtin.firstCells i.size 0 (.slice none 0 0)).run Tryz.prog w.drew= .ok ([]:List Value).toArray w.drew:=run_firstCells_none w.drew i.size 0 0 0
   have hrun:∀ty,(Builtin.append_ #[27,3] ty #[.slice none 0 0, .int .i64 n]).run Tryz.prog w=_:=fun ty=>
    Lib.run_append_grow_zeros w 27 3 ty 5 i (.int .u8 0) .i64 .i64 Tryz.underlying27 Tryz.underlying3 hi hz none 0 0 [] hold n (by omega) (by rw[hsize];omega) (by omega) (by omega) (by rw[hby];omega) (by rw[hby];exact growslice_fits (by omega) (by omega))
   simp only[Nat.zero_add] at hrun
   have hge:=grownCap_ge w n 0 5
   have hle:=grownCap_le_maxLen w n 0 5 (by unfold maxLen;omega)
   obtain ⟨G,hG⟩:∃G,G=grownCap w n 0 5:=⟨_,rfl⟩
   rw[←hG] at hrun hge hle
   obtain ⟨row,hrow⟩:∃row,row=(([]:List Value).toArray++Builtin.zeroCells (Value.int .u8 0).cells (n - 0)++Builtin.zeroCells (Value.int .u8 0).cells (G - n)):=⟨_,rfl⟩
   have hrs:row.size=G*1:=by rw[hrow];simp[(zero_bytes n).1,(zero_bytes (G - n)).1];omega
   have hV:Vec (newb w (w.drew.alloc (.cells row 5))) (w.drew.alloc (.cells row 5)) 1 (some ⟨w.heap.size,0,none⟩) n G ((row.toList.take (n*1))):=by
    refine Vec.whole (heap_new w.drew _) ⟨Nat.le_refl _,by simp⟩ hge hle hrs rfl ?_
    intro u hu
    have hu:=List.mem_of_mem_take hu
    rw[hrow] at hu
    simp at hu
    rcases hu with hu | hu
    · exact (zero_bytes n).2 u (by simpa using hu)
    · exact (zero_bytes (G - n)).2 u (by simpa using hu)
   have hrun' :∀ty,(Builtin.append_ #[27,3] ty #[.slice none 0 0, .int .i64 n]).run Tryz.prog w= .ok (.slice (some ⟨w.heap.size,0,none⟩) n G) (w.drew.alloc (.cells row 5)):=fun ty=>by rw[hrow];exact hrun ty
   obtain ⟨w1,hw1⟩:∃w1,w1=w.drew.alloc (.cells row 5):=⟨_,rfl⟩
   have hf1:Fr nob w w1:=hw1 ▸ (Fr.refl nob w).drew.alloc _
   rw[←hw1] at hrun' hV
   obtain ⟨i',hi',hz',hsize',hby'⟩:=info_parts inf_u8
   obtain ⟨a2,q2,hv2,hn2⟩:=run_slice_vec (P:=Tryz.prog) hV 27 5 i' Tryz.underlying27 hi' hsize' none (some (.int .i64 0)) none 0 0 G (bounds_h .i64 0 0 rfl (by omega)) (Nat.le_refl _) (by omega) (by omega) (by omega)
   simp only[Nat.sub_zero,Nat.zero_mul,List.take_zero] at q2 hv2
   obtain ⟨a1,q1,_,hn1⟩:=run_slice_vec (P:=Tryz.prog) (Vec.nil nob w 1) 27 5 i' Tryz.underlying27 hi' hsize' none (some (.int .i64 0)) none 0 0 0 (bounds_h .i64 0 0 rfl (by omega)) (Nat.le_refl _) (by omega) (by omega) (by omega)
   have e1:=hn1.2.2 rfl
   subst e1
   simp only[Nat.sub_zero] at q1
   clear hold hrun hrow hrs hV hG hi hz hsize hby hi' hz' hsize' hby' hw1 hn1 hn2
   obtain ⟨z,hz⟩:∃z,z=w.heap.size:=⟨_,rfl⟩
   rw[←hz] at q2 hrun'
   clear hz
   have hpos:(0:Int)<n:=by omega
   go_enter Tryz.func113,Tryz.ntmps113
   go_wp2_with (at_builtin;refine wpList_append_runB rfl _ _ _ _ rfl rfl rfl hrun' ?_)
   go_wp2
   go_ret
   exact ⟨a2,G,rfl,hf1,hv2⟩
structure BSl where
 a:Option Addr
 cap:Nat
 l:List UInt8
def BSl.v (e:BSl):Value:= .slice e.a e.l.length e.cap
def cat (es:List BSl):List UInt8:=(es.map BSl.l).flatten
theorem cat_take {es:List BSl} {k:Nat} (h:k<es.length):cat (es.take (k+1))=cat (es.take k)++es[k].l:=by
 unfold cat
 rw[List.take_succ_eq_append_getElem h,List.map_append,List.flatten_append];simp
theorem cat_take_le {es:List BSl} (k:Nat):(cat (es.take k)).length≤(cat es).length:=by
 have:cat es=cat (es.take k)++cat (es.drop k):=by
  unfold cat
  rw[←List.flatten_append,←List.map_append,List.take_append_drop]
 rw[this];simp
theorem vec_getB {S:Nat→Prop} {w:World} {a:Option Addr} {n cap:Nat} {cs:List Value} (h:Vec S w 1 a n cap cs) {j:Nat} (hj:j<n):∃b off,a=some ⟨b,off,none⟩∧S b∧w.cell? ⟨b,off+j,none⟩=cs[j]? :=by
 obtain ⟨b,off,e,hS,_,_,r⟩:=h.addr (by have:=h.le;omega)
 exact ⟨b,off,e,hS,r j (by omega)⟩
set_option maxRecDepth 100000 in
set_option maxHeartbeats 2000000 in
theorem concat_any (So S:Nat→Prop) (w:World) (a:Option Addr) (cap:Nat) (es:List BSl) (h:Vec So w 1 a es.length cap (es.map BSl.v)) (hb:∀e∈es,BV S w e.a e.cap e.l) (hn:es.length≤1099511627776) (hl:(cat es).length≤1099511627776):
 Calls Tryz.prog 73 #[.slice a es.length cap] w fun e w' =>∃a' cap',e= .returned (.slice a' (cat es).length cap')∧Fr nob w w' ∧BV (newb w w') w' a' cap' (cat es):=by
 have H:=Lib.hid h
 have HB:=Lib.hid hb
 clear h hb
 go_enter Tryz.func73,Tryz.ntmps73
 go_wp2_with fail
 go_loop [3,11] (fun v3 v11=>∃k:Nat,k≤es.length∧v11= .int .i64 k∧v3= .int .i64 ((cat (es.take k)).length:Nat)) (fun _ v11=>es.length - (intOf v11).toNat)
 case atStart=>exact ⟨0,Nat.zero_le _,rfl,rfl⟩
 case round=>
  obtain ⟨k,hk,rfl,rfl⟩:=hrel
  have hle:=cat_take_le (es:=es) k
  by_cases hlt:k<es.length
  · obtain ⟨b,off,rfl,hSb,hc⟩:=vec_getB H.out hlt
    have hts:=cat_take hlt
    have hle2:=cat_take_le (es:=es) (k+1)
    have hv:(es.map BSl.v)[k]? =some (.slice es[k].a es[k].l.length es[k].cap):=by simp[hlt,BSl.v]
    rw[hv] at hc
    rw[hts,List.length_append] at hle2
    have hts' :=congrArg List.length hts
    rw[List.length_append] at hts'
    have Hts:=Lib.hid hts'
    generalize (cat (es.take k)).length=c at*
    generalize es[k].l.length=d at*
    generalize (cat es).length=n at*
    clear hts hts' hv
    go_wp2_with fail
    go_round
    case rel=>exact ⟨k+1,by omega,by go_num,by rw[Hts.out];go_num⟩
    case measure=>simp[intOf];omega
  · obtain rfl:k=es.length:=by omega
    rw[List.take_length] at*
    obtain ⟨n,hnn⟩:∃n,n=(cat es).length:=⟨_,rfl⟩
    rw[←hnn] at hl ⊢
    have Hn:=Lib.hid hnn
    clear hnn hle
    go_wp2_with fail
    refine (grow_any n hl w).mono ?_
    rintro e w1 ⟨a1,cap1,rfl,hf1,hv1⟩
    go_wp2_with fail
    rw[Hn.out]
    go_loopw [6,27] (fun v6 v27 wr=>∃(k:Nat) (a' :Option Addr) (cap' :Nat),k≤es.length∧v27= .int .i64 k∧v6= .slice a' (cat (es.take k)).length cap' ∧BV (newb w wr) wr a' cap' (cat (es.take k))∧Fr nob w wr) (fun _ v27 _=>es.length - (intOf v27).toNat)
    case atStart=>exact ⟨0,a1,cap1,Nat.zero_le _,rfl,rfl,hv1,hf1⟩
    case round=>
     obtain ⟨k,a',cap',hk,rfl,rfl,hv,hf⟩:=hrel
     have hle:=cat_take_le (es:=es) k
     by_cases hlt:k<es.length
     · obtain ⟨b,off,rfl,hSb,hc⟩:=vec_getB (H.out.frN hf) hlt
       have hts:=cat_take hlt
       have hle2:=cat_take_le (es:=es) (k+1)
       have hvv:(es.map BSl.v)[k]? =some (.slice es[k].a es[k].l.length es[k].cap):=by simp[hlt,BSl.v]
       rw[hvv] at hc
       have hbk:=(HB.out es[k] (List.getElem_mem hlt)).frN hf
       rw[hts,List.length_append] at hle2
       have hl' :(cat es).length≤1099511627776:=by rw[←Hn.out];exact hl
       have Hts:=Lib.hid hts
       have HV:=Lib.hid hv
       have HK:=Lib.hid hbk
       obtain ⟨d,hd⟩:∃d,d=es[k].l:=⟨_,rfl⟩
       obtain ⟨c,hcc⟩:∃c,c=cat (es.take k):=⟨_,rfl⟩
       rw[←hd] at hc HK Hts hle2
       rw[←hcc] at HV Hts hle2 ⊢
       clear hts hvv hv hbk hd hcc hle
       go_wp2_with (at_builtin;refine wpList_append_vec rfl _ _ _ _ rfl rfl HV.out _ _ _ Tryz.underlying27 inf_u8 rfl _ d.length (bv d) rfl (BV.src HK.out Tryz.underlying27) (by unfold maxLen;omega) (by omega) ?_)
       intro a4 c4 w4 hv4 hf4 _
       have f4:=frN_newb w wr hf4 hf
       have hv4:BV (newb w w4) w4 a4 c4 (cat (es.take (k+1))):=by
        unfold BV
        rw[Hts.out,List.length_append,bv_append]
        exact hv4.mono (grow_newb w wr w4 hf.size hf4.size)
       go_wp2_with fail
       go_roundw
       case rel=>exact ⟨k+1,a4,c4,by omega,by go_num,by rw[Hts.out,List.length_append],hv4,f4⟩
       case measure=>simp[intOf];omega
     · obtain rfl:k=es.length:=by omega
       rw[List.take_length] at*
       go_wp2_with fail
       go_ret
       exact ⟨a',cap',rfl,hf,hv⟩
def curBytes (s o p:Nat):List UInt8:=[67]++(uv s++(uv o++crcPut p))
set_option maxRecDepth 100000 in
set_option maxHeartbeats 2000000 in
theorem curwrite_bad (s o p:Int) (hbad:curBad s o) (w:World):
 Calls Tryz.prog 25 #[curVal s o p] w fun e w' =>e= .returned (.tuple #[.slice none 0 0, .int .i64 3])∧Fr nob w w' :=by
 have hB:=heap_new w (.cells #[.int .i64 s, .int .i64 o, .int .u32 p] 53 (0,0))
 have hf0:=(Fr.refl nob w).alloc (.cells #[.int .i64 s, .int .i64 o, .int .u32 p] 53 (0,0))
 unfold curVal
 go_enter Tryz.func25,Tryz.ntmps25
 go_wp2_with fail
 have hc:=check_any s o p (w.alloc (.cells #[.int .i64 s, .int .i64 o, .int .u32 p] 53 (0,0)))
 rw[if_pos hbad] at hc
 unfold curVal at hc
 refine hc.mono ?_
 rintro e w1 ⟨rfl,hf1⟩
 clear hc
 go_wp2_with fail
 go_ret2
 exact ⟨rfl,hf0.andN hf1⟩
set_option maxRecDepth 100000 in
set_option maxHeartbeats 4000000 in
theorem curwrite_any (s o p:Nat) (hs:s≤281474976710656) (ho:o≤281474976710656) (hp:p<4294967296) (w:World):
 Calls Tryz.prog 25 #[curVal s o p] w fun e w' =>∃a' cap',e= .returned (.tuple #[.slice a' (crcSeal (curBytes s o p)).length cap', .int .i64 0])∧Fr nob w w' ∧BV (newb w w') w' a' cap' (crcSeal (curBytes s o p)):=by
 have hB:=heap_new w (.cells #[.int .i64 s, .int .i64 o, .int .u32 p] 53 (0,0))
 have hf0:=(Fr.refl nob w).alloc (.cells #[.int .i64 s, .int .i64 o, .int .u32 p] 53 (0,0))
 unfold curVal
 go_enter Tryz.func25,Tryz.ntmps25
 go_wp2_with fail
 have hc:=check_any s o p (w.alloc (.cells #[.int .i64 s, .int .i64 o, .int .u32 p] 53 (0,0)))
 rw[if_neg (by unfold curBad;omega)] at hc
 unfold curVal at hc
 refine hc.mono ?_
 rintro e w1 ⟨rfl,hf1⟩
 clear hc
 have hB1:=hf1.heap hB id
 obtain ⟨z,hz⟩:∃z,z=w.heap.size:=⟨_,rfl⟩
 rw[←hz] at hB1 ⊢
 have k0:=cell_of hB1 0
 have k1:=cell_of hB1 1
 have k2:=cell_of hB1 2
 simp at k0 k1 k2
 have f1:=hf0.andN hf1
 clear hz hB hB1 hf0 hf1
 go_wp2_with fail
 have q0:∀y,Fr nob w1 y→y.cell? ⟨z,0,none⟩=some (.int .i64 s):=fun y hy=>hy.cell k0 id
 have q1:∀y,Fr nob w1 y→y.cell? ⟨z,1,none⟩=some (.int .i64 o):=fun y hy=>hy.cell k1 id
 have q2:∀y,Fr nob w1 y→y.cell? ⟨z,2,none⟩=some (.int .u32 p):=fun y hy=>hy.cell k2 id
 clear k0 k1 k2
 refine wp_region_T (.free 1 (.free 2 (.free 3 (.free 5 (.free 6 (.free 7 (.free 9 (.free 10 (.two 0 (.line [(4,false),(8,false),(11,false),(12,false),(13,false),(14,true)]) 4 (.two 0 (.line [(8,false),(11,false),(12,false),(13,false),(14,true)]) 8 (.two 0 (.line [(11,false),(12,false),(13,false),(14,true)]) 11 (.line [(0,false),(12,false),(13,false),(14,true)])))))))))))) (Fr nob w1) rfl (by kernel_rfl) (by kernel_rfl) (by decide) (fun c a d v w h=>by cases d<;>exact h) (Fr.refl nob w1).drew (fun ops hops hS=>?_)
 repeat (apply wpT_free _ _ (by rw[hops.out];rfl) (by first | exact Wants.plain rfl | exact Wants.yes rfl (by rw[hops.out];rfl) rfl rfl);(focus (intro x hx;go_simp;rfl));go_simp)
 have W:=Lib.hid hs
 refine wpT_two _ _ (by rw[hops.out];rfl) (Wants.plain rfl) (by rw[hops.out];rfl) (Wants.plain rfl) (fun K hK=>?_) (fun K hK=>?_)
 · go_wp2_with fail
   have h0f:Fr nob w1 (w1.alloc (.cells #[.int .u8 67] 5)).drew:=((Fr.refl nob w1).alloc _).drew
   have v0:BV (newb w1 (w1.alloc (.cells #[.int .u8 67] 5)).drew) (w1.alloc (.cells #[.int .u8 67] 5)).drew (some ⟨w1.heap.size,0,none⟩) 1 [67]:=by
    have h:=lit_of w1.drew [67] (by simp)
    simp[bv] at h
    exact h
   obtain ⟨wax,hwa⟩:∃wax,wax=(w1.alloc (.cells #[.int .u8 67] 5)).drew:=⟨_,rfl⟩
   obtain ⟨z1,hz1⟩:∃z1,z1=w1.heap.size:=⟨_,rfl⟩
   rw[←hwa,←hz1] at v0 ⊢
   rw[←hwa] at h0f
   clear hwa hz1
   have g0:Fr nob w1 wax:=h0f
   refine ⟨_,fun _ h=>h,g0,wpT_line ?_⟩
   refine oA hops (by rfl) (by first | exact .plain rfl | exact .y hops rfl rfl rfl rfl) (fun K hK=>?_)
   go_wp2_with fail
   refine (uint_any s (by omega) _).mono ?_
   rintro e wbx ⟨a1,c1,rfl,h1f,v1⟩
   have g1:Fr nob w1 wbx:=g0.andN h1f
   refine hK _ _ ⟨_,fun _ h=>h,g1,?_⟩
   clear hK
   go_simp
   refine oA hops (by rfl) (by first | exact .plain rfl | exact .y hops rfl rfl rfl rfl) (fun K hK=>?_)
   go_wp2_with fail
   refine (uint_any o (by omega) _).mono ?_
   rintro e wcx ⟨a2,c2,rfl,h2f,v2⟩
   have g2:Fr nob w1 wcx:=g1.andN h2f
   refine hK _ _ ⟨_,fun _ h=>h,g2,?_⟩
   clear hK
   go_simp
   refine oA hops (by rfl) (by first | exact .plain rfl | exact .y hops rfl rfl rfl rfl) (fun K hK=>?_)
   go_wp2_with fail
   refine (put_any p hp _).mono ?_
   rintro e wdx ⟨a3,rfl,h3f,v3⟩
   have g3:Fr nob w1 wdx:=g2.andN h3f
   refine hK _ _ ⟨_,fun _ h=>h,g3,?_⟩
   clear hK
   go_simp
   refine oA hops (by rfl) (by first | exact .plain rfl | exact .y hops rfl rfl rfl rfl) (fun K hK=>?_)
   go_wp2_with fail
   have gx:=g3.alloc (.cells #[.slice (some ⟨z1,0,none⟩) 1 1, .slice a1 (uv s).length c1, .slice a2 (uv o).length c2, .slice (some ⟨a3,0,none⟩) 4 4] 27)
   have vx:=Vec.newrow wdx #[.slice (some ⟨z1,0,none⟩) 1 1, .slice a1 (uv s).length c1, .slice a2 (uv o).length c2, .slice (some ⟨a3,0,none⟩) 4 4] 27 (size:=1) (n:=4) rfl (by unfold maxLen;omega) (by simp[Value.oneCell'])
   have fx:=(Fr.refl nob wdx).alloc (.cells #[.slice (some ⟨z1,0,none⟩) 1 1, .slice a1 (uv s).length c1, .slice a2 (uv o).length c2, .slice (some ⟨a3,0,none⟩) 4 4] 27)
   obtain ⟨wx,hwx⟩:∃wx,wx=wdx.alloc (.cells #[.slice (some ⟨z1,0,none⟩) 1 1, .slice a1 (uv s).length c1, .slice a2 (uv o).length c2, .slice (some ⟨a3,0,none⟩) 4 4] 27):=⟨_,rfl⟩
   obtain ⟨zx,hzx⟩:∃zx,zx=wdx.heap.size:=⟨_,rfl⟩
   rw[←hwx] at gx vx fx ⊢
   rw[←hzx] at vx
   rw[←hzx]
   clear hwx hzx
   obtain ⟨es,hes⟩:∃es:List BSl,es=[⟨some ⟨z1,0,none⟩,1,[67]⟩,⟨a1,c1,uv s⟩,⟨a2,c2,uv o⟩,⟨some ⟨a3,0,none⟩,4,crcPut p⟩]:=⟨_,rfl⟩
   have hlen:es.length=4:=by rw[hes];rfl
   have hcat:cat es=curBytes s o p:=by rw[hes];simp[cat,curBytes]
   have hvs:Vec (newb wdx wx) wx 1 (some ⟨zx,0,none⟩) es.length 4 (es.map BSl.v):=by
    rw[hlen,hes]
    simpa [BSl.v,crcPut_len] using vx
   have l0:=h0f.size
   have l1:=h1f.size
   have l2:=h2f.size
   have l3:=h3f.size
   have lx:=fx.size
   have ldr:w1.drew.heap.size=w1.heap.size:=rfl
   have hbs:∀e∈es,BV (newb w1 wx) wx e.a e.cap e.l:=by
    rw[hes]
    simp only[List.mem_cons,List.not_mem_nil,or_false]
    rintro e (rfl | rfl | rfl | rfl)
    · exact ((((v0.frN h1f).frN h2f).frN h3f).frN fx).mono (fun k hk=>⟨by have:=hk.1;omega,by have:=hk.2;omega⟩)
    · exact (((v1.frN h2f).frN h3f).frN fx).mono (fun k hk=>⟨by have:=hk.1;omega,by have:=hk.2;omega⟩)
    · exact ((v2.frN h3f).frN fx).mono (fun k hk=>⟨by have:=hk.1;omega,by have:=hk.2;omega⟩)
    · exact (v3.frN fx).mono (fun k hk=>⟨by have:=hk.1;omega,by have:=hk.2;omega⟩)
   have hcl:(cat es).length≤1099511627776:=by
    have e1:=uv_len10 (x:=s) (by omega)
    have e2:=uv_len10 (x:=o) (by omega)
    rw[hcat]
    simp[curBytes,crcPut_len]
    omega
   have hcc:=concat_any (newb wdx wx) (newb w1 wx) wx _ 4 es hvs hbs (by omega) hcl
   rw[hlen,hcat] at hcc
   have hcl' :(curBytes s o p).length≤1099511627776:=hcat ▸ hcl
   have FX:=f1.andN gx
   clear hvs hbs vx v0 v1 v2 v3 hcat hlen hes l0 l1 l2 l3 lx ldr fx h0f h1f h2f h3f
   refine ⟨_,fun _ h=>h,gx,?_⟩
   refine oA hops (by rfl) (by first | exact .plain rfl | exact .y hops rfl rfl rfl rfl) (fun K hK=>?_)
   go_wp2_with fail
   refine hcc.mono ?_
   rintro e wy ⟨ay,cy,rfl,hfy,vy⟩
   have gy:=gx.andN hfy
   have FY:=FX.andN hfy
   refine hK _ _ ⟨_,fun _ h=>h,gy,?_⟩
   clear hK hcc
   go_simp
   repeat (apply oF hops (by rfl) (by first | exact .plain rfl | exact .y hops rfl rfl rfl rfl);(focus (intro x hx;go_simp;rfl));go_simp)
   apply wpOrd_nil
   go_wp2_with fail
   refine (seal_any _ _ _ _ _ vy hcl').mono ?_
   rintro e wz ⟨az,cz,rfl,hfz,vz⟩
   go_wp2_with fail
   go_ret2
   have l1:=FY.size
   exact ⟨az,cz,rfl,FY.andN hfz,vz.mono (fun k hk=>⟨by have:=hk.1;omega,hk.2⟩)⟩
 · go_wp2_with fail
   refine (uint_any s (by omega) _).mono ?_
   rintro e wax ⟨a1,c1,rfl,h1f,v1⟩
   have g0:Fr nob w1 wax:=(Fr.refl nob w1).drew.andN h1f
   refine hK _ _ ⟨_,fun _ h=>h,g0,?_⟩
   clear hK
   go_simp
   refine wpT_two _ _ (by rw[hops.out];rfl) (Wants.plain rfl) (by rw[hops.out];rfl) (Wants.plain rfl) (fun K hK=>?_) (fun K hK=>?_)
   · go_wp2_with fail
     have h0f:Fr nob wax (wax.alloc (.cells #[.int .u8 67] 5)):=((Fr.refl nob wax).alloc _)
     have v0:BV (newb wax (wax.alloc (.cells #[.int .u8 67] 5))) (wax.alloc (.cells #[.int .u8 67] 5)) (some ⟨wax.heap.size,0,none⟩) 1 [67]:=by
      have h:=lit_of wax [67] (by simp)
      simp[bv] at h
      exact h
     obtain ⟨wbx,hwa⟩:∃wbx,wbx=(wax.alloc (.cells #[.int .u8 67] 5)):=⟨_,rfl⟩
     obtain ⟨z1,hz1⟩:∃z1,z1=wax.heap.size:=⟨_,rfl⟩
     rw[←hwa,←hz1] at v0 ⊢
     rw[←hwa] at h0f
     clear hwa hz1
     have g1:Fr nob w1 wbx:=g0.andN h0f
     refine ⟨_,fun _ h=>h,g1,wpT_line ?_⟩
     refine oA hops (by rfl) (by first | exact .plain rfl | exact .y hops rfl rfl rfl rfl) (fun K hK=>?_)
     go_wp2_with fail
     refine (uint_any o (by omega) _).mono ?_
     rintro e wcx ⟨a2,c2,rfl,h2f,v2⟩
     have g2:Fr nob w1 wcx:=g1.andN h2f
     refine hK _ _ ⟨_,fun _ h=>h,g2,?_⟩
     clear hK
     go_simp
     refine oA hops (by rfl) (by first | exact .plain rfl | exact .y hops rfl rfl rfl rfl) (fun K hK=>?_)
     go_wp2_with fail
     refine (put_any p hp _).mono ?_
     rintro e wdx ⟨a3,rfl,h3f,v3⟩
     have g3:Fr nob w1 wdx:=g2.andN h3f
     refine hK _ _ ⟨_,fun _ h=>h,g3,?_⟩
     clear hK
     go_simp
     refine oA hops (by rfl) (by first | exact .plain rfl | exact .y hops rfl rfl rfl rfl) (fun K hK=>?_)
     go_wp2_with fail
     have gx:=g3.alloc (.cells #[.slice (some ⟨z1,0,none⟩) 1 1, .slice a1 (uv s).length c1, .slice a2 (uv o).length c2, .slice (some ⟨a3,0,none⟩) 4 4] 27)
     have vx:=Vec.newrow wdx #[.slice (some ⟨z1,0,none⟩) 1 1, .slice a1 (uv s).length c1, .slice a2 (uv o).length c2, .slice (some ⟨a3,0,none⟩) 4 4] 27 (size:=1) (n:=4) rfl (by unfold maxLen;omega) (by simp[Value.oneCell'])
     have fx:=(Fr.refl nob wdx).alloc (.cells #[.slice (some ⟨z1,0,none⟩) 1 1, .slice a1 (uv s).length c1, .slice a2 (uv o).length c2, .slice (some ⟨a3,0,none⟩) 4 4] 27)
     obtain ⟨wx,hwx⟩:∃wx,wx=wdx.alloc (.cells #[.slice (some ⟨z1,0,none⟩) 1 1, .slice a1 (uv s).length c1, .slice a2 (uv o).length c2, .slice (some ⟨a3,0,none⟩) 4 4] 27):=⟨_,rfl⟩
     obtain ⟨zx,hzx⟩:∃zx,zx=wdx.heap.size:=⟨_,rfl⟩
     rw[←hwx] at gx vx fx ⊢
     rw[←hzx] at vx
     rw[←hzx]
     clear hwx hzx
     obtain ⟨es,hes⟩:∃es:List BSl,es=[⟨some ⟨z1,0,none⟩,1,[67]⟩,⟨a1,c1,uv s⟩,⟨a2,c2,uv o⟩,⟨some ⟨a3,0,none⟩,4,crcPut p⟩]:=⟨_,rfl⟩
     have hlen:es.length=4:=by rw[hes];rfl
     have hcat:cat es=curBytes s o p:=by rw[hes];simp[cat,curBytes]
     have hvs:Vec (newb wdx wx) wx 1 (some ⟨zx,0,none⟩) es.length 4 (es.map BSl.v):=by
      rw[hlen,hes]
      simpa [BSl.v,crcPut_len] using vx
     have l0:=h0f.size
     have l1:=h1f.size
     have l2:=h2f.size
     have l3:=h3f.size
     have lx:=fx.size
     have ldr:w1.drew.heap.size=w1.heap.size:=rfl
     have hbs:∀e∈es,BV (newb w1 wx) wx e.a e.cap e.l:=by
      rw[hes]
      simp only[List.mem_cons,List.not_mem_nil,or_false]
      rintro e (rfl | rfl | rfl | rfl)
      · exact (((v0.frN h2f).frN h3f).frN fx).mono (fun k hk=>⟨by have:=hk.1;omega,by have:=hk.2;omega⟩)
      · exact ((((v1.frN h0f).frN h2f).frN h3f).frN fx).mono (fun k hk=>⟨by have:=hk.1;omega,by have:=hk.2;omega⟩)
      · exact ((v2.frN h3f).frN fx).mono (fun k hk=>⟨by have:=hk.1;omega,by have:=hk.2;omega⟩)
      · exact (v3.frN fx).mono (fun k hk=>⟨by have:=hk.1;omega,by have:=hk.2;omega⟩)
     have hcl:(cat es).length≤1099511627776:=by
      have e1:=uv_len10 (x:=s) (by omega)
      have e2:=uv_len10 (x:=o) (by omega)
      rw[hcat]
      simp[curBytes,crcPut_len]
      omega
     have hcc:=concat_any (newb wdx wx) (newb w1 wx) wx _ 4 es hvs hbs (by omega) hcl
     rw[hlen,hcat] at hcc
     have hcl' :(curBytes s o p).length≤1099511627776:=hcat ▸ hcl
     have FX:=f1.andN gx
     clear hvs hbs vx v0 v1 v2 v3 hcat hlen hes l0 l1 l2 l3 lx ldr fx h0f h1f h2f h3f
     refine ⟨_,fun _ h=>h,gx,?_⟩
     refine oA hops (by rfl) (by first | exact .plain rfl | exact .y hops rfl rfl rfl rfl) (fun K hK=>?_)
     go_wp2_with fail
     refine hcc.mono ?_
     rintro e wy ⟨ay,cy,rfl,hfy,vy⟩
     have gy:=gx.andN hfy
     have FY:=FX.andN hfy
     refine hK _ _ ⟨_,fun _ h=>h,gy,?_⟩
     clear hK hcc
     go_simp
     repeat (apply oF hops (by rfl) (by first | exact .plain rfl | exact .y hops rfl rfl rfl rfl);(focus (intro x hx;go_simp;rfl));go_simp)
     apply wpOrd_nil
     go_wp2_with fail
     refine (seal_any _ _ _ _ _ vy hcl').mono ?_
     rintro e wz ⟨az,cz,rfl,hfz,vz⟩
     go_wp2_with fail
     go_ret2
     have l1:=FY.size
     exact ⟨az,cz,rfl,FY.andN hfz,vz.mono (fun k hk=>⟨by have:=hk.1;omega,hk.2⟩)⟩
   · go_wp2_with fail
     refine (uint_any o (by omega) _).mono ?_
     rintro e wbx ⟨a2,c2,rfl,h2f,v2⟩
     have g1:Fr nob w1 wbx:=g0.andN h2f
     refine hK _ _ ⟨_,fun _ h=>h,g1,?_⟩
     clear hK
     go_simp
     refine wpT_two _ _ (by rw[hops.out];rfl) (Wants.plain rfl) (by rw[hops.out];rfl) (Wants.plain rfl) (fun K hK=>?_) (fun K hK=>?_)
     · go_wp2_with fail
       have h0f:Fr nob wbx (wbx.alloc (.cells #[.int .u8 67] 5)):=((Fr.refl nob wbx).alloc _)
       have v0:BV (newb wbx (wbx.alloc (.cells #[.int .u8 67] 5))) (wbx.alloc (.cells #[.int .u8 67] 5)) (some ⟨wbx.heap.size,0,none⟩) 1 [67]:=by
        have h:=lit_of wbx [67] (by simp)
        simp[bv] at h
        exact h
       obtain ⟨wcx,hwa⟩:∃wcx,wcx=(wbx.alloc (.cells #[.int .u8 67] 5)):=⟨_,rfl⟩
       obtain ⟨z1,hz1⟩:∃z1,z1=wbx.heap.size:=⟨_,rfl⟩
       rw[←hwa,←hz1] at v0 ⊢
       rw[←hwa] at h0f
       clear hwa hz1
       have g2:Fr nob w1 wcx:=g1.andN h0f
       refine ⟨_,fun _ h=>h,g2,wpT_line ?_⟩
       refine oA hops (by rfl) (by first | exact .plain rfl | exact .y hops rfl rfl rfl rfl) (fun K hK=>?_)
       go_wp2_with fail
       refine (put_any p hp _).mono ?_
       rintro e wdx ⟨a3,rfl,h3f,v3⟩
       have g3:Fr nob w1 wdx:=g2.andN h3f
       refine hK _ _ ⟨_,fun _ h=>h,g3,?_⟩
       clear hK
       go_simp
       refine oA hops (by rfl) (by first | exact .plain rfl | exact .y hops rfl rfl rfl rfl) (fun K hK=>?_)
       go_wp2_with fail
       have gx:=g3.alloc (.cells #[.slice (some ⟨z1,0,none⟩) 1 1, .slice a1 (uv s).length c1, .slice a2 (uv o).length c2, .slice (some ⟨a3,0,none⟩) 4 4] 27)
       have vx:=Vec.newrow wdx #[.slice (some ⟨z1,0,none⟩) 1 1, .slice a1 (uv s).length c1, .slice a2 (uv o).length c2, .slice (some ⟨a3,0,none⟩) 4 4] 27 (size:=1) (n:=4) rfl (by unfold maxLen;omega) (by simp[Value.oneCell'])
       have fx:=(Fr.refl nob wdx).alloc (.cells #[.slice (some ⟨z1,0,none⟩) 1 1, .slice a1 (uv s).length c1, .slice a2 (uv o).length c2, .slice (some ⟨a3,0,none⟩) 4 4] 27)
       obtain ⟨wx,hwx⟩:∃wx,wx=wdx.alloc (.cells #[.slice (some ⟨z1,0,none⟩) 1 1, .slice a1 (uv s).length c1, .slice a2 (uv o).length c2, .slice (some ⟨a3,0,none⟩) 4 4] 27):=⟨_,rfl⟩
       obtain ⟨zx,hzx⟩:∃zx,zx=wdx.heap.size:=⟨_,rfl⟩
       rw[←hwx] at gx vx fx ⊢
       rw[←hzx] at vx
       rw[←hzx]
       clear hwx hzx
       obtain ⟨es,hes⟩:∃es:List BSl,es=[⟨some ⟨z1,0,none⟩,1,[67]⟩,⟨a1,c1,uv s⟩,⟨a2,c2,uv o⟩,⟨some ⟨a3,0,none⟩,4,crcPut p⟩]:=⟨_,rfl⟩
       have hlen:es.length=4:=by rw[hes];rfl
       have hcat:cat es=curBytes s o p:=by rw[hes];simp[cat,curBytes]
       have hvs:Vec (newb wdx wx) wx 1 (some ⟨zx,0,none⟩) es.length 4 (es.map BSl.v):=by
        rw[hlen,hes]
        simpa [BSl.v,crcPut_len] using vx
       have l0:=h0f.size
       have l1:=h1f.size
       have l2:=h2f.size
       have l3:=h3f.size
       have lx:=fx.size
       have ldr:w1.drew.heap.size=w1.heap.size:=rfl
       have hbs:∀e∈es,BV (newb w1 wx) wx e.a e.cap e.l:=by
        rw[hes]
        simp only[List.mem_cons,List.not_mem_nil,or_false]
        rintro e (rfl | rfl | rfl | rfl)
        · exact ((v0.frN h3f).frN fx).mono (fun k hk=>⟨by have:=hk.1;omega,by have:=hk.2;omega⟩)
        · exact ((((v1.frN h2f).frN h0f).frN h3f).frN fx).mono (fun k hk=>⟨by have:=hk.1;omega,by have:=hk.2;omega⟩)
        · exact (((v2.frN h0f).frN h3f).frN fx).mono (fun k hk=>⟨by have:=hk.1;omega,by have:=hk.2;omega⟩)
        · exact (v3.frN fx).mono (fun k hk=>⟨by have:=hk.1;omega,by have:=hk.2;omega⟩)
       have hcl:(cat es).length≤1099511627776:=by
        have e1:=uv_len10 (x:=s) (by omega)
        have e2:=uv_len10 (x:=o) (by omega)
        rw[hcat]
        simp[curBytes,crcPut_len]
        omega
       have hcc:=concat_any (newb wdx wx) (newb w1 wx) wx _ 4 es hvs hbs (by omega) hcl
       rw[hlen,hcat] at hcc
       have hcl' :(curBytes s o p).length≤1099511627776:=hcat ▸ hcl
       have FX:=f1.andN gx
       clear hvs hbs vx v0 v1 v2 v3 hcat hlen hes l0 l1 l2 l3 lx ldr fx h0f h1f h2f h3f
       refine ⟨_,fun _ h=>h,gx,?_⟩
       refine oA hops (by rfl) (by first | exact .plain rfl | exact .y hops rfl rfl rfl rfl) (fun K hK=>?_)
       go_wp2_with fail
       refine hcc.mono ?_
       rintro e wy ⟨ay,cy,rfl,hfy,vy⟩
       have gy:=gx.andN hfy
       have FY:=FX.andN hfy
       refine hK _ _ ⟨_,fun _ h=>h,gy,?_⟩
       clear hK hcc
       go_simp
       repeat (apply oF hops (by rfl) (by first | exact .plain rfl | exact .y hops rfl rfl rfl rfl);(focus (intro x hx;go_simp;rfl));go_simp)
       apply wpOrd_nil
       go_wp2_with fail
       refine (seal_any _ _ _ _ _ vy hcl').mono ?_
       rintro e wz ⟨az,cz,rfl,hfz,vz⟩
       go_wp2_with fail
       go_ret2
       have l1:=FY.size
       exact ⟨az,cz,rfl,FY.andN hfz,vz.mono (fun k hk=>⟨by have:=hk.1;omega,hk.2⟩)⟩
     · go_wp2_with fail
       refine (put_any p hp _).mono ?_
       rintro e wcx ⟨a3,rfl,h3f,v3⟩
       have g2:Fr nob w1 wcx:=g1.andN h3f
       refine hK _ _ ⟨_,fun _ h=>h,g2,?_⟩
       clear hK
       go_simp
       refine wpT_line ?_
       refine oA hops (by rfl) (by first | exact .plain rfl | exact .y hops rfl rfl rfl rfl) (fun K hK=>?_)
       go_wp2_with fail
       have h0f:Fr nob wcx (wcx.alloc (.cells #[.int .u8 67] 5)):=((Fr.refl nob wcx).alloc _)
       have v0:BV (newb wcx (wcx.alloc (.cells #[.int .u8 67] 5))) (wcx.alloc (.cells #[.int .u8 67] 5)) (some ⟨wcx.heap.size,0,none⟩) 1 [67]:=by
        have h:=lit_of wcx [67] (by simp)
        simp[bv] at h
        exact h
       obtain ⟨wdx,hwa⟩:∃wdx,wdx=(wcx.alloc (.cells #[.int .u8 67] 5)):=⟨_,rfl⟩
       obtain ⟨z1,hz1⟩:∃z1,z1=wcx.heap.size:=⟨_,rfl⟩
       rw[←hwa,←hz1] at v0 ⊢
       rw[←hwa] at h0f
       clear hwa hz1
       have g3:Fr nob w1 wdx:=g2.andN h0f
       refine ⟨_,fun _ h=>h,g3,?_⟩
       refine oA hops (by rfl) (by first | exact .plain rfl | exact .y hops rfl rfl rfl rfl) (fun K hK=>?_)
       go_wp2_with fail
       have gx:=g3.alloc (.cells #[.slice (some ⟨z1,0,none⟩) 1 1, .slice a1 (uv s).length c1, .slice a2 (uv o).length c2, .slice (some ⟨a3,0,none⟩) 4 4] 27)
       have vx:=Vec.newrow wdx #[.slice (some ⟨z1,0,none⟩) 1 1, .slice a1 (uv s).length c1, .slice a2 (uv o).length c2, .slice (some ⟨a3,0,none⟩) 4 4] 27 (size:=1) (n:=4) rfl (by unfold maxLen;omega) (by simp[Value.oneCell'])
       have fx:=(Fr.refl nob wdx).alloc (.cells #[.slice (some ⟨z1,0,none⟩) 1 1, .slice a1 (uv s).length c1, .slice a2 (uv o).length c2, .slice (some ⟨a3,0,none⟩) 4 4] 27)
       obtain ⟨wx,hwx⟩:∃wx,wx=wdx.alloc (.cells #[.slice (some ⟨z1,0,none⟩) 1 1, .slice a1 (uv s).length c1, .slice a2 (uv o).length c2, .slice (some ⟨a3,0,none⟩) 4 4] 27):=⟨_,rfl⟩
       obtain ⟨zx,hzx⟩:∃zx,zx=wdx.heap.size:=⟨_,rfl⟩
       rw[←hwx] at gx vx fx ⊢
       rw[←hzx] at vx
       rw[←hzx]
       clear hwx hzx
       obtain ⟨es,hes⟩:∃es:List BSl,es=[⟨some ⟨z1,0,none⟩,1,[67]⟩,⟨a1,c1,uv s⟩,⟨a2,c2,uv o⟩,⟨some ⟨a3,0,none⟩,4,crcPut p⟩]:=⟨_,rfl⟩
       have hlen:es.length=4:=by rw[hes];rfl
       have hcat:cat es=curBytes s o p:=by rw[hes];simp[cat,curBytes]
       have hvs:Vec (newb wdx wx) wx 1 (some ⟨zx,0,none⟩) es.length 4 (es.map BSl.v):=by
        rw[hlen,hes]
        simpa [BSl.v,crcPut_len] using vx
       have l0:=h0f.size
       have l1:=h1f.size
       have l2:=h2f.size
       have l3:=h3f.size
       have lx:=fx.size
       have ldr:w1.drew.heap.size=w1.heap.size:=rfl
       have hbs:∀e∈es,BV (newb w1 wx) wx e.a e.cap e.l:=by
        rw[hes]
        simp only[List.mem_cons,List.not_mem_nil,or_false]
        rintro e (rfl | rfl | rfl | rfl)
        · exact (v0.frN fx).mono (fun k hk=>⟨by have:=hk.1;omega,by have:=hk.2;omega⟩)
        · exact ((((v1.frN h2f).frN h3f).frN h0f).frN fx).mono (fun k hk=>⟨by have:=hk.1;omega,by have:=hk.2;omega⟩)
        · exact (((v2.frN h3f).frN h0f).frN fx).mono (fun k hk=>⟨by have:=hk.1;omega,by have:=hk.2;omega⟩)
        · exact ((v3.frN h0f).frN fx).mono (fun k hk=>⟨by have:=hk.1;omega,by have:=hk.2;omega⟩)
       have hcl:(cat es).length≤1099511627776:=by
        have e1:=uv_len10 (x:=s) (by omega)
        have e2:=uv_len10 (x:=o) (by omega)
        rw[hcat]
        simp[curBytes,crcPut_len]
        omega
       have hcc:=concat_any (newb wdx wx) (newb w1 wx) wx _ 4 es hvs hbs (by omega) hcl
       rw[hlen,hcat] at hcc
       have hcl' :(curBytes s o p).length≤1099511627776:=hcat ▸ hcl
       have FX:=f1.andN gx
       clear hvs hbs vx v0 v1 v2 v3 hcat hlen hes l0 l1 l2 l3 lx ldr fx h0f h1f h2f h3f
       refine ⟨_,fun _ h=>h,gx,?_⟩
       refine oA hops (by rfl) (by first | exact .plain rfl | exact .y hops rfl rfl rfl rfl) (fun K hK=>?_)
       go_wp2_with fail
       refine hcc.mono ?_
       rintro e wy ⟨ay,cy,rfl,hfy,vy⟩
       have gy:=gx.andN hfy
       have FY:=FX.andN hfy
       refine hK _ _ ⟨_,fun _ h=>h,gy,?_⟩
       clear hK hcc
       go_simp
       repeat (apply oF hops (by rfl) (by first | exact .plain rfl | exact .y hops rfl rfl rfl rfl);(focus (intro x hx;go_simp;rfl));go_simp)
       apply wpOrd_nil
       go_wp2_with fail
       refine (seal_any _ _ _ _ _ vy hcl').mono ?_
       rintro e wz ⟨az,cz,rfl,hfz,vz⟩
       go_wp2_with fail
       go_ret2
       have l1:=FY.size
       exact ⟨az,cz,rfl,FY.andN hfz,vz.mono (fun k hk=>⟨by have:=hk.1;omega,hk.2⟩)⟩
theorem rdU_uv {x r:List UInt8} {i y:Nat} (hx:x.drop i=uv y++r) (hy:y≤281474976710656):rdU x i= .inr (y,i+(uv y).length):=by
 have h:=getUv_uv r y 0 0 (by simp;omega) (Or.inl rfl) (by omega)
 unfold rdU
 rw[hx,h]
 simp
 omega
theorem curParse_bytes {s o p:Nat} (hs:s≤281474976710656) (ho:o≤281474976710656) (hp:p<4294967296):curParse (curBytes s o p)= .inr (s,o,p,(curBytes s o p).length):=by
 have hlen:(curBytes s o p).length=1+(uv s).length+(uv o).length+4:=by simp[curBytes,crcPut_len];omega
 have h0:byteAt (curBytes s o p) 0=67:=by simp[byteAt,curBytes]
 have d1:(curBytes s o p).drop 1=uv s++(uv o++crcPut p):=by simp[curBytes]
 have d2:(curBytes s o p).drop (1+(uv s).length)=uv o++crcPut p:=by
  rw[←List.drop_drop,d1,List.drop_left]
 have d3:(curBytes s o p).drop (1+(uv s).length+(uv o).length)=crcPut p:=by
  rw[←List.drop_drop,d2,List.drop_left]
 have hb:∀k,byteAt (curBytes s o p) (1+(uv s).length+(uv o).length+k)=((crcPut p).getD k 0).toNat:=fun k=>by
  unfold byteAt
  rw[←d3]
  simp[List.getD_eq_getElem?_getD,List.getElem?_drop]
 unfold curParse
 rw[if_neg (by omega),if_neg (by omega),rdU_uv d1 hs]
 simp only
 rw[rdU_uv d2 ho]
 simp only
 rw[if_neg (by omega)]
 have b0:=hb 0
 rw[Nat.add_zero] at b0
 rw[b0,hb 1,hb 2,hb 3,hlen]
 simp[crcPut]
 omega
theorem curRead_write {s o p:Nat} (hs:s≤281474976710656) (ho:o≤281474976710656) (hp:p<4294967296):curRead (crcSeal (curBytes s o p))= .inr (s,o,p):=
 curRead_ok (crcOpen_seal _) (curParse_bytes hs ho hp) (by omega)
theorem four_of {l:List UInt8} (h:l.length=4):∃c0 c1 c2 c3,l=[c0,c1,c2,c3]:=by
 match l,h with
 | [c0,c1,c2,c3],_=>exact ⟨c0,c1,c2,c3,rfl⟩
theorem rdU_inv {x:List UInt8} {i y j:Nat} (h:rdU x i= .inr (y,j)):∃r,x.drop i=uv y++r∧j=i+(uv y).length∧y≤281474976710656:=by
 unfold rdU at h
 split at h
 · cases h
 · rename_i he
   split at h
   · cases h
   · rename_i hm
     simp only[Sum.inr.injEq,Prod.mk.injEq] at h
     obtain ⟨rfl,rfl⟩:=h
     obtain ⟨h1,h2,r,h3⟩:=(@getUv_iff (x.drop i) (getUv 0 0 (x.drop i)).1 (getUv 0 0 (x.drop i)).2.1).1 (Prod.ext rfl (Prod.ext rfl (by simpa using he)))
     exact ⟨r,h3,by omega,by omega⟩
theorem crcPut_of (c0 c1 c2 c3:UInt8):crcPut (c0.toNat+c1.toNat*256+c2.toNat*65536+c3.toNat*16777216)=[c0,c1,c2,c3]:=by
 have h0:=UInt8.toNat_lt c0
 have h1:=UInt8.toNat_lt c1
 have h2:=UInt8.toNat_lt c2
 have h3:=UInt8.toNat_lt c3
 exact (put4.2 ⟨by omega,by omega,by omega,by omega⟩).symm
theorem curParse_inv {x:List UInt8} {s o p i:Nat} (h:curParse x= .inr (s,o,p,i)) (hi:¬i<x.length):x=curBytes s o p∧s≤281474976710656∧o≤281474976710656∧p<4294967296:=by
 unfold curParse at h
 split at h
 · cases h
 · rename_i h0
   split at h
   · cases h
   · rename_i h67
     cases h1:rdU x 1 with
     | inl e=>rw[h1] at h;cases h
     | inr q=>
       obtain ⟨s',i1⟩:=q
       rw[h1] at h
       simp only at h
       cases h2:rdU x i1 with
       | inl e=>rw[h2] at h;cases h
       | inr q=>
         obtain ⟨o',j⟩:=q
         rw[h2] at h
         simp only at h
         split at h
         · cases h
         · rename_i hj
           simp only[Sum.inr.injEq,Prod.mk.injEq] at h
           obtain ⟨es,eo,hp,ei⟩:=h
           subst es eo
           have hi:¬j+4<x.length:=by rw[ei];exact hi
           clear ei
           obtain ⟨r1,e1,rfl,b1⟩:=rdU_inv h1
           obtain ⟨r2,e2,rfl,b2⟩:=rdU_inv h2
           have e3:r1=uv o' ++r2:=by
            rw[←e2,←List.drop_drop,e1,List.drop_left]
           obtain ⟨c,t,rfl⟩:∃c t,x=c::t:=List.exists_cons_of_ne_nil (fun e=>h0 (by rw[e];rfl))
           have hc:c=67:=by
            have:c.toNat=67:=by simpa [byteAt] using h67
            exact UInt8.toNat_inj.1 (by simpa using this)
           simp only[List.drop_succ_cons,List.drop_zero] at e1
           have hr2:r2.length=4:=by
            have:=congrArg List.length e1
            rw[e3] at this
            simp at this hi hj
            omega
           obtain ⟨c0,c1,c2,c3,rfl⟩:=four_of hr2
           have hx:c::t=[67]++(uv s' ++(uv o' ++[c0,c1,c2,c3])):=by rw[e1,e3,hc];rfl
           have d3:(c::t).drop (1+(uv s').length+(uv o').length)=[c0,c1,c2,c3]:=by
            rw[←List.drop_drop,e2,List.drop_left]
           have hb:∀k,byteAt (c::t) (1+(uv s').length+(uv o').length+k)=(([c0,c1,c2,c3]:List UInt8).getD k 0).toNat:=fun k=>by
            unfold byteAt
            rw[←d3]
            simp[List.getD_eq_getElem?_getD,List.getElem?_drop]
           have b0:=hb 0
           rw[Nat.add_zero] at b0
           rw[b0,hb 1,hb 2,hb 3] at hp
           simp at hp
           have t0:=UInt8.toNat_lt c0
           have t1:=UInt8.toNat_lt c1
           have t2:=UInt8.toNat_lt c2
           have t3:=UInt8.toNat_lt c3
           refine ⟨?_,b1,b2,by omega⟩
           rw[hx,curBytes,←hp,crcPut_of]
theorem curRead_inv {l:List UInt8} {s o p:Nat} (h:curRead l= .inr (s,o,p)):l=crcSeal (curBytes s o p)∧s≤281474976710656∧o≤281474976710656∧p<4294967296:=by
 unfold curRead at h
 split at h
 · cases h
 · rename_i x hx
   split at h
   · cases h
   · rename_i s' o' p' i hp
     split at h
     · cases h
     · rename_i hi
       simp only[Sum.inr.injEq,Prod.mk.injEq] at h
       obtain ⟨rfl,rfl,rfl⟩:=h
       obtain ⟨rfl,h2⟩:=curParse_inv hp hi
       exact ⟨crcOpen_some hx,h2⟩
end Go.Proofs.YtibpkfnfcdbiiaaGreatDoor
