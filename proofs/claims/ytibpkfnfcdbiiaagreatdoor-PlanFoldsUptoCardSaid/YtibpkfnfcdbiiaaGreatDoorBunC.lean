/- Contracts of package cell. Contracts of cell.rank, cmp.Compare, cmp.Or, strings.Compare, cell.Compare. Contract of row.Check. Contracts of package weight. Contracts of slices.Equal over cells, row.Same. -/
import Derived.Test.YtibpkfnfcdbiiaaGreatDoorBunB
import Derived.Test.YtibpkfnfcdbiiaaGreatDoorBunA
import Derived.Test.YtibpkfnfcdbiiaaGreatDoorShelf
namespace Go.Proofs.YtibpkfnfcdbiiaaGreatDoor
set_option linter.unusedSimpArgs false
open Go.RowKit Go.Lib
set_option linter.unusedVariables false
def celVal (c:Cel):Value:= .agg #[.int .u64 c.num, .string (bs c.text)]
def cellKind (k:Int):Bool:=decide (-1<k)&&decide (k≤5)
def textyB (k:Int):Bool:=k == 3 || k == 4
theorem cellKind_any (k:Int) (w:World):Calls Tryz.prog 127 #[.int .i64 k] w fun e w' =>e= .returned (.bool (cellKind k))∧w' =w:=by
 by_cases h: -1<k
 · go_enter Tryz.func127,Tryz.ntmps127
   go_wp2
   go_ret
   exact ⟨by simp[cellKind,h],rfl⟩
 · have hd:decide (-1<k)=false:=decide_eq_false h
   go_enter Tryz.func127,Tryz.ntmps127
   go_wp2
   go_ret
   exact ⟨by simp[cellKind,hd],rfl⟩
theorem texty_any (k:Int) (w:World):Calls Tryz.prog 128 #[.int .i64 k] w fun e w' =>e= .returned (.bool (textyB k))∧w' =w:=by
 cases h:k == 3
 · go_enter Tryz.func128,Tryz.ntmps128
   go_wp2
   go_ret
   exact ⟨by simp[textyB,h],rfl⟩
 · go_enter Tryz.func128,Tryz.ntmps128
   go_wp2
   go_ret
   exact ⟨by simp[textyB,h],rfl⟩
def cellCheck (k:Int) (c:Cel):Nat:=
 if cellKind k=false then 10
 else if (textyB k&&decide (c.num≠0) || !textyB k&&!c.text.isEmpty || k == 2&&decide (1<c.num) || k == 4&&!validD c.text)=true then 11
 else if 256<c.text.length then 7 else 0
set_option maxRecDepth 100000 in
set_option maxHeartbeats 4000000 in
theorem cell_any (k:Int) (c:Cel) (w:World) (hc:c.text.length≤lim) (hL:Laid w):
 Calls Tryz.prog 97 #[.int .i64 k,celVal c] w fun e w' =>e= .returned (.int .i64 (cellCheck k c))∧Fr nob w w' :=by
 obtain ⟨n,l⟩:=c
 obtain ⟨E,hE⟩:∃E,E=cellCheck k ⟨n,l⟩:=⟨_,rfl⟩
 rw[←hE]
 unfold cellCheck at hE
 simp only at hE hc
 have HE:=Lib.hid hE
 have hT:=valid_any l hc _ (hL.frN ((Fr.refl nob w).alloc (.cells #[.int .u64 n, .string (bs l)] 74 (0,0))))
 unfold celVal
 have hsz:=bs_size l
 unfold lim at hc
 cases hk:cellKind k
 · have hEE:E=10:=by rw[HE.out,if_pos hk]
   have hx:=cellKind_any k
   rw[hk] at hx
   subst hEE
   clear HE hE hT
   go_enter Tryz.func97,Tryz.ntmps97
   go_wp2_with fail
   refine (hx _).mono ?_
   rintro e w1 ⟨rfl,rfl⟩
   go_wp2_with fail
   go_ret
   exact ⟨rfl,(Fr.refl nob w).alloc _⟩
 have hx:=cellKind_any k
 rw[hk] at hx hE
 have hE1:=hE
 rw[if_neg (by simp)] at hE1
 have HE1:=Lib.hid hE1
 have hkk:k=0∨k=1∨k=2∨k=3∨k=4∨k=5:=by
  simp[cellKind] at hk;omega
 have ht:=texty_any k
 have hemp:(bs l).toList.isEmpty=l.isEmpty:=bs_isEmpty l
 have hemp2:((bs l).toList == [])=l.isEmpty:=by rw[bs_toList];cases l<;>rfl
 clear HE hE hE1
 cases hem:l.isEmpty<;>rw[hem] at hemp hemp2<;>have HM:=Lib.hid hem<;>clear hem
 all_goals
  rcases hkk with rfl | rfl | rfl | rfl | rfl | rfl
  all_goals
   have HK:=Lib.hid hk
   clear hk
   go_enter Tryz.func97,Tryz.ntmps97
   go_wp2_with fail
   refine (hx _).mono ?_
   rintro e w1 ⟨rfl,rfl⟩
   go_wp2_with (first
    | (go_at_call 128;refine (ht _).mono ?_;rintro e w1 ⟨rfl,rfl⟩)
    | (go_at_call 129;refine hT.mono ?_;rintro e w1 ⟨rfl,hf⟩;have b1:=cell_of (hf.heap (heap_new w (.cells #[.int .u64 n, .string (bs l)] 74 (0,0))) id) 1;simp at b1))
 all_goals
  go_ret
  refine ⟨?_,by first | exact (Fr.refl nob w).alloc _ | exact ((Fr.refl nob w).alloc _).andN hf⟩
  rw[HE1.out]
  simp[textyB,HM.out, *]
  try first
   | omega
   | (rw[if_neg (by omega)];rfl)
   | (rw[if_neg (by intro h0;subst h0;simp at*)];rfl)
   | ((repeat' split)<;>first | omega | (exfalso;simp at*;omega))
end Go.Proofs.YtibpkfnfcdbiiaaGreatDoor
namespace Go.Proofs.YtibpkfnfcdbiiaaGreatDoor
set_option linter.unusedSimpArgs false
open Go.RowKit Go.Lib Go.Shelf
set_option linter.unusedVariables false
theorem allocs2 (w:World) (A B:Obj):((w.alloc A).alloc B).heap[w.heap.size]? =some A∧((w.alloc A).alloc B).heap[w.heap.size+1]? =some B∧Fr nob w ((w.alloc A).alloc B):=by
 refine ⟨heap_old (heap_new w A) B,?_,((Fr.refl nob w).alloc A).alloc B⟩
 have:=heap_new (w.alloc A) B
 rwa [show (w.alloc A).heap.size=w.heap.size+1 by simp] at this
theorem bits_xor64 (a b:Nat) (ha:a<18446744073709551616) (hb:b<18446744073709551616):bits BinOp.xor IntKind.u64 (a:Int) (b:Int)=((a ^^^ b:Nat):Int):=by
 have h:a ^^^ b<2 ^ 64:=Nat.xor_lt_two_pow (by omega) (by omega)
 simp only[bits]
 rw[show (BitVec.ofInt IntKind.u64.bits (a:Int) ^^^ BitVec.ofInt IntKind.u64.bits (b:Int)).toNat=a ^^^ b from by
  show (BitVec.ofInt 64 (a:Int) ^^^ BitVec.ofInt 64 (b:Int)).toNat=a ^^^ b
  simp only[BitVec.toNat_xor,BitVec.ofInt_natCast,BitVec.toNat_ofNat]
  rw[Nat.mod_eq_of_lt (by omega),Nat.mod_eq_of_lt (by omega)]]
 exact IntWalk.u64_in _ (by omega)
theorem xor_top (m:Nat) (h:m<9223372036854775808):m ^^^ 9223372036854775808=m+9223372036854775808:=by
 apply Nat.eq_of_testBit_eq
 intro i
 rw[Nat.testBit_xor,Nat.add_comm,show (9223372036854775808:Nat)=2 ^ 63 from rfl,Nat.testBit_two_pow]
 rcases Nat.lt_trichotomy i 63 with hi | rfl | hi
 · rw[Nat.testBit_two_pow_add_gt hi];have:¬63=i:=by omega
   simp[this]
 · rw[Nat.testBit_two_pow_add_eq];simp
 · rw[Nat.testBit_lt_two_pow (x:=2 ^ 63+m),Nat.testBit_lt_two_pow (x:=m)]
   · have:¬63=i:=by omega
     simp[this]
   · exact Nat.lt_of_lt_of_le (by omega:m<2 ^ 63) (Nat.pow_le_pow_right (by omega) (by omega))
   · exact Nat.lt_of_lt_of_le (by omega:2 ^ 63+m<2 ^ 64) (Nat.pow_le_pow_right (by omega) (by omega))
def topTurn (n:Nat):Nat:=(n+9223372036854775808)%18446744073709551616
theorem xor_top64 (n:Nat) (h:n<18446744073709551616):bits BinOp.xor IntKind.u64 (n:Int) 9223372036854775808=((topTurn n:Nat):Int):=by
 rw[show (9223372036854775808:Int)=((9223372036854775808:Nat):Int) by omega,bits_xor64 _ _ h (by omega)]
 refine congrArg (fun x:Nat=>(x:Int)) ?_
 unfold topTurn
 by_cases h0:n<9223372036854775808
 · rw[xor_top n h0];omega
 · have:=xor_top (n - 9223372036854775808) (by omega)
   rw[show n - 9223372036854775808+9223372036854775808=n by omega] at this
   rw[←this,Nat.xor_assoc,Nat.xor_self,Nat.xor_zero,this];omega
theorem not64 (s:Nat) (h:s<18446744073709551616):bits BinOp.xor IntKind.u64 IntKind.u64.max (s:Int)=((18446744073709551615 - s:Nat):Int):=by
 rw[show IntKind.u64.max=((18446744073709551615:Nat):Int) from rfl,bits_xor64 _ s (by omega) h]
 congr 1
 apply Nat.eq_of_testBit_eq
 intro i
 rw[show 18446744073709551615 - s=2 ^ 64 - (s+1) by omega,Nat.testBit_two_pow_sub_succ (by omega),Nat.testBit_xor,show (18446744073709551615:Nat)=2 ^ 64 - 1 from rfl,Nat.testBit_two_pow_sub_one]
 by_cases hi:i<64
 · simp[hi]
 · rw[Nat.testBit_lt_two_pow (Nat.lt_of_lt_of_le (show s<2 ^ 64 by omega) (Nat.pow_le_pow_right (by omega) (by omega)))]
   simp[hi]
def rankN (k:Int) (n:Nat):Nat:=if k=0 then topTurn n else if k=5 then (if n<9223372036854775808 then topTurn n else 18446744073709551615 - n) else n
theorem rankN_lt (k:Int) (n:Nat) (h:n<18446744073709551616):rankN k n<18446744073709551616:=by
 unfold rankN topTurn
 repeat' split
 all_goals omega
set_option maxRecDepth 100000 in
theorem rank_any (k:Int) (n:Nat) (hn:n<18446744073709551616) (w:World):Calls Tryz.prog 164 #[.int .i64 k, .int .u64 n] w fun e w' =>e= .returned (.int .u64 (rankN k n))∧w' =w:=by
 have hx:=xor_top64 n hn
 have hx2:=not64 n hn
 unfold rankN
 by_cases h0:k=0
 · subst h0
   rw[if_pos rfl]
   go_enter Tryz.func164,Tryz.ntmps164
   go_wp2
   go_ret
   exact ⟨rfl,rfl⟩
 have d0:(k == 0)=false:=by rw[beq_eq_false_iff_ne];exact h0
 rw[if_neg h0]
 by_cases h5:k=5
 · subst h5
   rw[if_pos rfl]
   by_cases hl:n<9223372036854775808
   · rw[if_pos hl]
     have dl:decide ((n:Int)<9223372036854775808)=true:=decide_eq_true (by omega)
     clear hl hn hx2
     go_enter Tryz.func164,Tryz.ntmps164
     go_wp2
     go_ret
     exact ⟨rfl,rfl⟩
   · rw[if_neg hl]
     have dl:decide ((n:Int)<9223372036854775808)=false:=decide_eq_false (by omega)
     clear hl hn hx
     generalize 18446744073709551615 - n=v at hx2 ⊢
     have hx3:bits BinOp.xor IntKind.u64 (if IntKind.u64.signed=true then (-1:Int) else IntKind.u64.max) (n:Int)=(v:Int):=by rw[if_neg (by decide)];exact hx2
     have HX:=Lib.hid hx3
     clear hx2 hx3
     go_enter Tryz.func164,Tryz.ntmps164
     repeat go_step
     go_ret
     exact ⟨congrArg (fun x=>Ending.returned (Value.int .u64 x)) HX.out,rfl⟩
 · have d5:(k == 5)=false:=by rw[beq_eq_false_iff_ne];exact h5
   rw[if_neg h5]
   go_enter Tryz.func164,Tryz.ntmps164
   go_wp2
   go_ret
   exact ⟨rfl,rfl⟩
def cmpN (x y:Nat):Int:=if x<y then -1 else if y<x then 1 else 0
theorem isNaN_any (x:Nat) (w:World):Calls Tryz.prog 185 #[.int .u64 x] w fun e w' =>e= .returned (.bool false)∧w' =w:=by
 go_enter Tryz.func185,Tryz.ntmps185
 go_wp2
 go_ret
 exact ⟨by simp,rfl⟩
theorem cmpN_any (x y:Nat) (w:World):Calls Tryz.prog 163 #[.int .u64 x, .int .u64 y] w fun e w' =>e= .returned (.int .i64 (cmpN x y))∧w' =w:=by
 go_enter Tryz.func163,Tryz.ntmps163
 go_wp2_with (go_at_call 185;refine (isNaN_any _ _).mono ?_;rintro e w1 ⟨rfl,rfl⟩)
 all_goals
  go_ret
  refine ⟨?_,rfl⟩
  unfold cmpN
  first
   | (rw[if_pos (by omega)];rfl)
   | (rw[if_neg (by omega),if_pos (by omega)];rfl)
   | (rw[if_neg (by omega),if_neg (by omega)];rfl)
theorem scmp_any (a b:List UInt8) (w:World):Calls Tryz.prog 165 #[.string (bs a), .string (bs b)] w fun e w' =>e= .returned (.int .i64 (compareBytes a b))∧w' =w:=
 Any.strings_Compare Tryz.lays106 (bs a) (bs b) w
theorem or_any (x y:Int) (b:Nat) (w:World) (h0:w.cell? ⟨b,0,none⟩=some (.int .i64 x)) (h1:w.cell? ⟨b,1,none⟩=some (.int .i64 y)):
 Calls Tryz.prog 162 #[.slice (some ⟨b,0,none⟩) 2 2] w fun e w' =>e= .returned (.int .i64 (if x=0 then y else x))∧w' =w:=by
 by_cases hx:x=0
 · subst hx
   rw[if_pos rfl]
   by_cases hy:y=0
   · subst hy
     go_enter Tryz.func162,Tryz.ntmps162
     go_wp2
     go_loop [8] (fun v8=>∃k:Nat,k≤2∧v8= .int .i64 k) (fun v8=>2 - (RowKit.intOf v8).toNat)
     case atStart=>exact ⟨0,by omega,rfl⟩
     case round=>
      obtain ⟨k,hk,rfl⟩:=hrel
      rcases (show k=0∨k=1∨k=2 by omega) with rfl | rfl | rfl
      · go_wp2
        go_round
        case rel=>exact ⟨1,by omega,by go_num⟩
        case measure=>simp[RowKit.intOf]
      · go_wp2
        go_round
        case rel=>exact ⟨2,by omega,by go_num⟩
        case measure=>simp[RowKit.intOf]
      · go_wp2
        go_ret
        exact ⟨rfl,rfl⟩
   · have d:(y != 0)=true:=by rw[bne_iff_ne];exact hy
     go_enter Tryz.func162,Tryz.ntmps162
     go_wp2
     go_loop [8] (fun v8=>∃k:Nat,k≤1∧v8= .int .i64 k) (fun v8=>2 - (RowKit.intOf v8).toNat)
     case atStart=>exact ⟨0,by omega,rfl⟩
     case round=>
      obtain ⟨k,hk,rfl⟩:=hrel
      rcases (show k=0∨k=1 by omega) with rfl | rfl
      · go_wp2
        go_round
        case rel=>exact ⟨1,by omega,by go_num⟩
        case measure=>simp[RowKit.intOf]
      · go_wp2
        go_ret
        exact ⟨rfl,rfl⟩
 · have d:(x != 0)=true:=by rw[bne_iff_ne];exact hx
   rw[if_neg hx]
   go_enter Tryz.func162,Tryz.ntmps162
   go_wp2
   go_loop [8] (fun v8=>v8= .int .i64 0) (fun v8=>2 - (RowKit.intOf v8).toNat)
   case atStart=>rfl
   case round=>
    subst hrel
    go_wp2
    go_ret
    exact ⟨rfl,rfl⟩
def cellCmp (k:Int) (a b:Cel):Int:=
 if cellCheck k a≠0∨cellCheck k b≠0 then 0 else if cmpN (rankN k a.num) (rankN k b.num)=0 then compareBytes a.text b.text else cmpN (rankN k a.num) (rankN k b.num)
set_option maxRecDepth 100000 in
set_option maxHeartbeats 2000000 in
theorem cellCmp_any (k:Int) (a b:Cel) (w:World) (ha:a.text.length≤lim) (hb:b.text.length≤lim) (na:a.num<18446744073709551616) (nb:b.num<18446744073709551616) (hL:Laid w):
 Calls Tryz.prog 133 #[.int .i64 k,celVal a,celVal b] w fun e w' =>e= .returned (.int .i64 (cellCmp k a b))∧Fr nob w w' :=by
 have ca:=fun w hw=>cell_any k a w ha hw
 have cb:=fun w hw=>cell_any k b w hb hw
 obtain ⟨E,hE⟩:∃E,E=cellCmp k a b:=⟨_,rfl⟩
 rw[←hE]
 unfold cellCmp at hE
 have HE:=Lib.hid hE
 have HL:=Lib.hid hL
 unfold celVal at*
 obtain ⟨hA,hB,hf0⟩:=allocs2 w (.cells #[.int .u64 a.num, .string (bs a.text)] 74 (0,0)) (.cells #[.int .u64 b.num, .string (bs b.text)] 74 (0,0))
 have ra:=fun w=>rank_any k a.num na w
 have rb:=fun w=>rank_any k b.num nb w
 have la:=rankN_lt k a.num na
 generalize rankN k a.num=xa at ra hE HE
 generalize rankN k b.num=xb at rb hE HE
 have rc:=fun w=>cmpN_any xa xb w
 have rs:=fun w=>scmp_any a.text b.text w
 generalize cmpN xa xb=c at rc hE HE
 generalize compareBytes a.text b.text=d at rs hE HE
 clear hE hL na nb ha hb la
 go_enter Tryz.func133,Tryz.ntmps133
 go_wp2_with fail
 refine (ca _ (HL.out.frN hf0)).mono ?_
 rintro e w1 ⟨rfl,hf1⟩
 have hA1:=hf1.heap hA id
 have hB1:=hf1.heap hB id
 have k0:=cell_of hB1 0
 have k1:=cell_of hB1 1
 simp at k0 k1
 have f1:=hf0.andN hf1
 clear hA hB hf0 hf1 ca
 cases h1:(cellCheck k a:Nat) with
 | succ n1=>
   have hEE:E=0:=by rw[HE.out,if_pos (by rw[h1];omega)]
   have d1:(((n1+1:Nat):Int) != 0)=true:=by rw[bne_iff_ne];omega
   clear HE h1
   subst hEE
   go_wp2_with fail
   go_ret
   exact ⟨rfl,f1⟩
 | zero=>
   go_wp2_with fail
   refine (cb _ (HL.out.frN f1)).mono ?_
   rintro e w2 ⟨rfl,hf2⟩
   have hA2:=hf2.heap hA1 id
   have hB2:=hf2.heap hB1 id
   have f2:=f1.andN hf2
   clear k0 k1 hA1 hB1 f1 hf2 cb
   cases h2:(cellCheck k b:Nat) with
   | succ n1=>
     have hEE:E=0:=by rw[HE.out,if_pos (by rw[h2];omega)]
     have d1:(((n1+1:Nat):Int) != 0)=true:=by rw[bne_iff_ne];omega
     clear HE h1 h2
     subst hEE
     go_wp2_with fail
     go_ret
     exact ⟨rfl,f2⟩
   | zero=>
     have hEE:E=if c=0 then d else c:=by rw[HE.out,if_neg (by rw[h1,h2];omega)]
     have HEE:=Lib.hid hEE
     clear HE h1 h2 hEE
     obtain ⟨z,hz⟩:∃z,z=w.heap.size:=⟨_,rfl⟩
     rw[←hz] at hA2 hB2
     have qa0:∀y,Fr nob w2 y→y.cell? ⟨z,0,none⟩=some (.int .u64 a.num):=fun y hy=>by have:=cell_of (hy.heap hA2 id) 0;simpa using this
     have qa1:∀y,Fr nob w2 y→y.cell? ⟨z,1,none⟩=some (.string (bs a.text)):=fun y hy=>by have:=cell_of (hy.heap hA2 id) 1;simpa using this
     have qb0:∀y,Fr nob w2 y→y.cell? ⟨z+1,0,none⟩=some (.int .u64 b.num):=fun y hy=>by have:=cell_of (hy.heap hB2 id) 0;simpa using this
     have qb1:∀y,Fr nob w2 y→y.cell? ⟨z+1,1,none⟩=some (.string (bs b.text)):=fun y hy=>by have:=cell_of (hy.heap hB2 id) 1;simpa using this
     clear hA2 hB2
     go_wp2_with fail
     rw[←hz]
     clear hz
     refine wp_region_ord [(0,true),(1,true),(2,true),(4,true),(5,true),(6,true),(9,true),(10,true),(11,true),(12,true),(3,false),(7,false),(8,false),(13,false),(14,false),(15,false),(16,true)] (Fr nob _) rfl (by kernel_rfl) (by kernel_rfl) (by decide) (fun c a d v w h=>by cases d<;>exact h) ((Fr.refl nob _).drew) (fun ops hops hS=>?_)
     repeat (first | (apply oF hops (by rfl) (by first | exact .plain rfl | exact .y hops rfl rfl rfl rfl);(focus (intro x hx;go_simp;rfl));go_simp) | (apply oS hops (by rfl) (by first | exact .n hops rfl rfl rfl rfl | exact .u hops rfl rfl rfl rfl);go_simp) | (apply oP hops (by rfl) (by first | exact .n hops rfl rfl rfl rfl | exact .u hops rfl rfl rfl rfl) (by assumption);go_simp))
     refine oA hops (by rfl) (by first | exact .plain rfl | exact .y hops rfl rfl rfl rfl) (fun K hK=>?_)
     go_wp2_with fail
     refine (ra _).mono ?_
     rintro e w1 ⟨rfl,rfl⟩
     refine hK _ _ ⟨_,fun _ h=>h,hS,?_⟩
     clear hK
     go_simp
     repeat (first | (apply oF hops (by rfl) (by first | exact .plain rfl | exact .y hops rfl rfl rfl rfl);(focus (intro x hx;go_simp;rfl));go_simp) | (apply oS hops (by rfl) (by first | exact .n hops rfl rfl rfl rfl | exact .u hops rfl rfl rfl rfl);go_simp) | (apply oP hops (by rfl) (by first | exact .n hops rfl rfl rfl rfl | exact .u hops rfl rfl rfl rfl) (by assumption);go_simp))
     refine oA hops (by rfl) (by first | exact .plain rfl | exact .y hops rfl rfl rfl rfl) (fun K hK=>?_)
     go_wp2_with fail
     refine (rb _).mono ?_
     rintro e w1 ⟨rfl,rfl⟩
     refine hK _ _ ⟨_,fun _ h=>h,hS,?_⟩
     clear hK
     go_simp
     repeat (first | (apply oF hops (by rfl) (by first | exact .plain rfl | exact .y hops rfl rfl rfl rfl);(focus (intro x hx;go_simp;rfl));go_simp) | (apply oS hops (by rfl) (by first | exact .n hops rfl rfl rfl rfl | exact .u hops rfl rfl rfl rfl);go_simp) | (apply oP hops (by rfl) (by first | exact .n hops rfl rfl rfl rfl | exact .u hops rfl rfl rfl rfl) (by assumption);go_simp))
     refine oA hops (by rfl) (by first | exact .plain rfl | exact .y hops rfl rfl rfl rfl) (fun K hK=>?_)
     go_wp2_with fail
     refine (rc _).mono ?_
     rintro e w1 ⟨rfl,rfl⟩
     refine hK _ _ ⟨_,fun _ h=>h,hS,?_⟩
     clear hK
     go_simp
     repeat (first | (apply oF hops (by rfl) (by first | exact .plain rfl | exact .y hops rfl rfl rfl rfl);(focus (intro x hx;go_simp;rfl));go_simp) | (apply oS hops (by rfl) (by first | exact .n hops rfl rfl rfl rfl | exact .u hops rfl rfl rfl rfl);go_simp) | (apply oP hops (by rfl) (by first | exact .n hops rfl rfl rfl rfl | exact .u hops rfl rfl rfl rfl) (by assumption);go_simp))
     refine oA hops (by rfl) (by first | exact .plain rfl | exact .y hops rfl rfl rfl rfl) (fun K hK=>?_)
     go_wp2_with fail
     refine (rs _).mono ?_
     rintro e w1 ⟨rfl,rfl⟩
     refine hK _ _ ⟨_,fun _ h=>h,hS,?_⟩
     clear hK
     go_simp
     repeat (first | (apply oF hops (by rfl) (by first | exact .plain rfl | exact .y hops rfl rfl rfl rfl);(focus (intro x hx;go_simp;rfl));go_simp) | (apply oS hops (by rfl) (by first | exact .n hops rfl rfl rfl rfl | exact .u hops rfl rfl rfl rfl);go_simp) | (apply oP hops (by rfl) (by first | exact .n hops rfl rfl rfl rfl | exact .u hops rfl rfl rfl rfl) (by assumption);go_simp))
     have fb:=((Fr.refl nob w2).drew).alloc (.cells #[.int .i64 c, .int .i64 d] 3 (0,0))
     have hC:=heap_new w2.drew (.cells #[.int .i64 c, .int .i64 d] 3 (0,0))
     have c0:=cell_of hC 0
     have c1:=cell_of hC 1
     simp at c0 c1
     refine oA hops (by rfl) (by first | exact .plain rfl | exact .y hops rfl rfl rfl rfl) (fun K hK=>?_)
     go_wp2_with fail
     refine ⟨Fr nob _,fun x hx=>fb.andN hx,Fr.refl nob _,?_⟩
     repeat (first | (apply oF hops (by rfl) (by first | exact .plain rfl | exact .y hops rfl rfl rfl rfl);(focus (intro x hx;go_simp;rfl));go_simp) | (apply oS hops (by rfl) (by first | exact .n hops rfl rfl rfl rfl | exact .u hops rfl rfl rfl rfl);go_simp) | (apply oP hops (by rfl) (by first | exact .n hops rfl rfl rfl rfl | exact .u hops rfl rfl rfl rfl) (by assumption);go_simp))
     refine oA hops (by rfl) (by first | exact .plain rfl | exact .y hops rfl rfl rfl rfl) (fun K hK=>?_)
     go_wp2_with fail
     refine (or_any c d _ _ c0 c1).mono ?_
     rintro e w1 ⟨rfl,rfl⟩
     refine hK _ _ ⟨_,fun _ h=>h,Fr.refl nob _,?_⟩
     clear hK
     go_simp
     rw[←HEE.out]
     repeat (first | (apply oF hops (by rfl) (by first | exact .plain rfl | exact .y hops rfl rfl rfl rfl);(focus (intro x hx;go_simp;rfl));go_simp) | (apply oS hops (by rfl) (by first | exact .n hops rfl rfl rfl rfl | exact .u hops rfl rfl rfl rfl);go_simp) | (apply oP hops (by rfl) (by first | exact .n hops rfl rfl rfl rfl | exact .u hops rfl rfl rfl rfl) (by assumption);go_simp))
     apply wpOrd_nil
     go_wp2_with fail
     go_ret
     exact ⟨rfl,f2.andN fb⟩
end Go.Proofs.YtibpkfnfcdbiiaaGreatDoor
namespace Go.Proofs.YtibpkfnfcdbiiaaGreatDoor
set_option linter.unusedSimpArgs false
open Go.RowKit
set_option linter.unusedVariables false
def rowGo:List Col→List Cel→Nat
 | c::s,x::r=>if cellCheck c.kind x=0 then rowGo s r else cellCheck c.kind x
 | _,_=>0
def rowCheck (s:List Col) (r:List Cel):Nat:=if schemaCheck s=0 then (if r.length=s.length then rowGo s r else 2) else schemaCheck s
theorem intne {n:Nat} (h:n≠0):((n:Int) != 0)=true:=by rw[bne_iff_ne];omega
theorem inteq {n:Nat} (h:n=0):((n:Int) != 0)=false:=by subst h;rfl
set_option maxRecDepth 100000 in
set_option maxHeartbeats 2000000 in
theorem row_any (S R:Nat→Prop) (w:World) (a b:Option Addr) (ca cb:Nat) (s:List Col) (r:List Cel) (hs:SV rCol 2 S w a ca s) (hr:SV rCel 2 R w b cb r) (hL:Laid w) (hl:s.length≤lim) (hlr:r.length≤lim):
 Calls Tryz.prog 54 #[.slice a s.length ca, .slice b r.length cb] w fun e w' =>e= .returned (.int .i64 (rowCheck s r))∧Fr nob w w' :=by
 obtain ⟨E,hE⟩:∃E,E=rowCheck s r:=⟨_,rfl⟩
 rw[←hE]
 have hc:=schema_any S w a ca s hs hL hl
 have HE:=Lib.hid hE
 have HS:=Lib.hid hs
 have HR:=Lib.hid hr
 have HL:=Lib.hid hL
 unfold lim at hl hlr
 clear hE hs hr hL
 go_enter Tryz.func54,Tryz.ntmps54
 go_wp2_with fail
 refine hc.mono ?_
 rintro e w1 ⟨rfl,hf1⟩
 clear hc
 by_cases h1:schemaCheck s=0
 · have d1:=inteq h1
   by_cases h2:r.length=s.length
   · have hEE:E=rowGo (s.drop 0) (r.drop 0):=by rw[HE.out];unfold rowCheck;rw[if_pos h1,if_pos h2];rfl
     have HEE:=Lib.hid hEE
     have d2:((r.length:Int) != s.length)=false:=by rw[h2];simp
     have H2:=Lib.hid h2
     clear HE hEE h1 h2
     go_wp2_with fail
     go_loopw [21] (fun v21 wr=>∃k:Nat,k≤s.length∧v21= .int .i64 k∧E=rowGo (s.drop k) (r.drop k)∧Fr nob w wr) (fun v21 _=>s.length - (intOf v21).toNat)
     case atStart=>exact ⟨0,Nat.zero_le _,rfl,HEE.out,hf1⟩
     case round=>
      obtain ⟨k,hk,rfl,hEk,hf⟩:=hrel
      have HEk:=Lib.hid hEk
      clear hEk
      by_cases hlt:k<s.length
      · have hltr:k<r.length:=by rw[H2.out];exact hlt
        have hE2:E=if cellCheck s[k].kind r[k]=0 then rowGo (s.drop (k+1)) (r.drop (k+1)) else cellCheck s[k].kind r[k]:=by
         rw[HEk.out,List.drop_eq_getElem_cons hlt,List.drop_eq_getElem_cons hltr];rfl
        have HE2:=Lib.hid hE2
        obtain ⟨b1,o1,rfl,hS1,hi,hnl,c0,c1⟩:=col_at (HS.out.frN rCol_ok hf) hlt
        obtain ⟨w2,hw2⟩:∃w2,w2=wr.alloc (.cells #[.string (bs s[k].name), .int .i64 s[k].kind] 71 (0,0)):=⟨_,rfl⟩
        have hB:=heap_new wr (.cells #[.string (bs s[k].name), .int .i64 s[k].kind] 71 (0,0))
        have hf2:Fr nob wr w2:=by rw[hw2];exact (Fr.refl nob wr).alloc _
        rw[←hw2] at hB
        obtain ⟨b2,o2,rfl,hS2,hn2,ht2,d0,d1'⟩:=cel_at (HR.out.frN rCel_ok (hf.andN hf2)) hltr
        have hcc:=fun w hw=>cell_any s[k].kind r[k] w ht2 hw
        obtain ⟨z,hz⟩:∃z,z=wr.heap.size:=⟨_,rfl⟩
        rw[←hz] at hB
        have q1:∀y,Fr nob w2 y→y.cell? ⟨z,1,none⟩=some (.int .i64 s[k].kind):=fun y hy=>by have:=cell_of (hy.heap hB id) 1;simpa using this
        have q2:∀y,Fr nob w2 y→y.cell? ⟨b2,o2+k*2,none⟩=some (.int .u64 r[k].num):=fun y hy=>hy.cell d0 id
        have q3:∀y,Fr nob w2 y→y.cell? ⟨b2,o2+k*2+1,none⟩=some (.string (bs r[k].text)):=fun y hy=>hy.cell d1' id
        unfold celVal at hcc
        have HLw:=Lib.hid (HL.out.frN (hf.andN hf2))
        clear hB hE2 HEk d0 d1' hS1 hS2 hn2 ht2 hi hnl
        generalize cellCheck s[k].kind r[k]=cc at hcc HE2
        generalize s[k].kind=kd at hcc c1 hw2 q1
        generalize r[k].num=rn at hcc q2
        generalize r[k].text=rt at hcc q3
        generalize s[k].name=sn at c0 hw2
        go_wp2_with fail
        rw[←hz,←hw2]
        clear hw2 hz c0 c1
        refine wp_region_ord [(0,true),(1,true),(2,true),(3,true),(4,true),(5,true),(6,false),(7,true)] (Fr nob _) rfl (by kernel_rfl) (by kernel_rfl) (by decide) (fun c a d v w h=>by cases d<;>exact h) ((Fr.refl nob _).drew) (fun ops hops hS=>?_)
        repeat (first | (apply oF hops (by rfl) (by first | exact .plain rfl | exact .y hops rfl rfl rfl rfl);(focus (intro x hx;go_simp;rfl));go_simp) | (apply oS hops (by rfl) (by first | exact .n hops rfl rfl rfl rfl | exact .u hops rfl rfl rfl rfl);go_simp) | (apply oP hops (by rfl) (by first | exact .n hops rfl rfl rfl rfl | exact .u hops rfl rfl rfl rfl) (by assumption);go_simp))
        refine oA hops (by rfl) (by first | exact .plain rfl | exact .y hops rfl rfl rfl rfl) (fun K hK=>?_)
        go_wp2_with fail
        refine (hcc _ (HLw.out.frN (Fr.refl nob w2).drew)).mono ?_
        rintro e w3 ⟨rfl,hf3⟩
        have g3:Fr nob w2 w3:=(Fr.refl nob w2).drew.andN hf3
        refine hK _ _ ⟨_,fun _ h=>h,g3,?_⟩
        clear hK
        go_simp
        repeat (first | (apply oF hops (by rfl) (by first | exact .plain rfl | exact .y hops rfl rfl rfl rfl);(focus (intro x hx;go_simp;rfl));go_simp) | (apply oS hops (by rfl) (by first | exact .n hops rfl rfl rfl rfl | exact .u hops rfl rfl rfl rfl);go_simp) | (apply oP hops (by rfl) (by first | exact .n hops rfl rfl rfl rfl | exact .u hops rfl rfl rfl rfl) (by assumption);go_simp))
        apply wpOrd_nil
        by_cases hcz:cc=0
        · have hEE:E=rowGo (s.drop (k+1)) (r.drop (k+1)):=by rw[HE2.out,if_pos hcz]
          have HEE' :=Lib.hid hEE
          have dz:=inteq hcz
          clear hEE HE2
          go_wp2_with fail
          go_roundw
          case rel=>exact ⟨k+1,by omega,by go_num,HEE'.out,(hf.andN hf2).andN g3⟩
          case measure=>simp[intOf];omega
        · have hEE:E=cc:=by rw[HE2.out,if_neg hcz]
          have HEE' :=Lib.hid hEE
          have dz:=intne hcz
          clear hEE HE2
          go_wp2_with fail
          go_ret
          exact ⟨by rw[HEE'.out];rfl,(hf.andN hf2).andN g3⟩
      · have hEE:E=0:=by rw[HEk.out,List.drop_of_length_le (by omega)];rfl
        have HEE' :=Lib.hid hEE
        clear hEE HEk
        go_wp2_with fail
        go_ret
        exact ⟨by rw[HEE'.out];rfl,hf⟩
   · have hEE:E=2:=by rw[HE.out];unfold rowCheck;rw[if_pos h1,if_neg h2]
     have d2:((r.length:Int) != s.length)=true:=by rw[bne_iff_ne];omega
     clear HE h1 h2
     subst hEE
     go_wp2_with fail
     go_ret
     exact ⟨rfl,hf1⟩
 · have hEE:E=schemaCheck s:=by rw[HE.out];unfold rowCheck;rw[if_neg h1]
   have HEE:=Lib.hid hEE
   have d1:=intne h1
   clear HE hEE
   go_wp2_with fail
   go_ret
   exact ⟨by rw[HEE.out];rfl,hf1⟩
open Go.RowKit Go.Shelf
def loN (x:Int):Nat:=(x%18446744073709551616).toNat
def hiN (x:Int):Nat:=(x / 18446744073709551616%18446744073709551616).toNat
theorem loN_lt (x:Int):loN x<18446744073709551616:=by unfold loN;omega
theorem hiN_lt (x:Int):hiN x<18446744073709551616:=by unfold hiN;omega
theorem wrap_lo (v:Int):IntKind.u64.wrap v=(loN v:Int):=by rw[IntKind.wrap_u64];unfold loN;omega
theorem add_lo (x v:Int):(loN x+loN v+0)%18446744073709551616=loN (x+v):=by unfold loN;omega
theorem add_hi (x v:Int) (hv:I64 v) (q:Int) (hq:q=v / 9223372036854775808):(hiN x+loN q+(loN x+loN v+0) / 18446744073709551616)%18446744073709551616=hiN (x+v):=by
 unfold I64 at hv
 unfold loN hiN
 omega
theorem carry_le (x v:Int):(loN x+loN v+0) / 18446744073709551616≤1:=by have:=loN_lt x;have:=loN_lt v;omega
theorem add64_any (x y c:Nat) (hc:c≤1) (w:World):(callFunc 134 #[.int .u64 x, .int .u64 y, .int .u64 c]).run Tryz.prog w= .ok (.value (.tuple #[.int .u64 (((x+y+c)%18446744073709551616:Nat):Int), .int .u64 (((x+y+c) / 18446744073709551616:Nat):Int)])) w:=
 Any7.bits_Add64 Tryz.lays7n25 x y c hc w
def wideVal (x:Int):Value:= .agg #[.int .u64 (loN x), .int .u64 (hiN x)]
set_option maxRecDepth 100000 in
theorem plus_any (x v:Int) (hv:I64 v) (w:World):
 Calls Tryz.prog 101 #[wideVal x, .int .i64 v] w fun e w' =>e= .returned (wideVal (x+v))∧Fr nob w w' :=by
 unfold wideVal
 obtain ⟨c,hc⟩:∃c,c=(loN x+loN v+0) / 18446744073709551616:=⟨_,rfl⟩
 have h1:=fun w=>add64_any (loN x) (loN v) 0 (by omega) w
 rw[add_lo,←hc,←wrap_lo] at h1
 obtain ⟨q,hq⟩:∃q,q=v / 9223372036854775808:=⟨_,rfl⟩
 have h2:=fun w=>add64_any (hiN x) (loN q) c (hc ▸ carry_le x v) w
 rw[hc,add_hi x v hv q hq,←hc,←wrap_lo] at h2
 generalize ((hiN x+loN q+c) / 18446744073709551616)=d at h2
 have h1:∀w,(callFunc 134 #[.int .u64 (loN x), .int .u64 (IntKind.u64.wrap v), .int .u64 0]).run Tryz.prog w= .ok (.value (.tuple #[.int .u64 (loN (x+v)), .int .u64 c])) w:=h1
 rw[hq] at h2
 clear hq hc
 generalize loN x=lx at h1 ⊢
 generalize hiN x=hx at h2 ⊢
 generalize loN (x+v)=ly at h1 ⊢
 generalize hiN (x+v)=hy at h2 ⊢
 go_enter Tryz.func101,Tryz.ntmps101
 go_wp2_with fail
 exact bodyPost_ret (v:= .agg #[.int .u64 ly, .int .u64 hy]) (by simp[results,Tryz.results101,go_sem]) rfl ⟨rfl,((Fr.refl nob w).alloc _).alloc _⟩
theorem i64_lo (x:Int) (h:I64 x):IntKind.i64.wrap (loN x:Int)=x:=by
 unfold I64 at h
 unfold loN
 simp only[IntKind.wrap,IntKind.bits,IntKind.signed]
 simp
 omega
theorem fits_wide (x t:Int) (hx: -170141183460469231731687303715884105728≤x∧x<170141183460469231731687303715884105728) (ht:t=IntKind.i64.wrap (loN x:Int)):(hiN x:Int)=IntKind.u64.wrap (t / 9223372036854775808)↔I64 x:=by
 rw[wrap_lo]
 subst ht
 simp only[IntKind.wrap,IntKind.bits,IntKind.signed]
 unfold I64 hiN loN
 simp
 omega
set_option maxRecDepth 100000 in
theorem weight_any (x:Int) (hx: -170141183460469231731687303715884105728≤x∧x<170141183460469231731687303715884105728) (w:World):
 Calls Tryz.prog 102 #[wideVal x] w fun e w' =>Fr nob w w' ∧(I64 x→e= .returned (.tuple #[.int .i64 x, .int .i64 0]))∧(¬I64 x→e= .returned (.tuple #[.int .i64 0, .int .i64 12])):=by
 obtain ⟨t,ht⟩:∃t,t=IntKind.i64.wrap (loN x:Int):=⟨_,rfl⟩
 have hf:=fits_wide x t hx ht
 have hi:=i64_lo x
 rw[←ht] at hi
 have Ht:=Lib.hid ht.symm
 unfold wideVal
 generalize loN x=lx at ht Ht ⊢
 generalize hiN x=hxx at hf ⊢
 clear hx ht
 have ht:=Ht.out
 by_cases h:I64 x
 · have hd:((hxx:Int) != IntKind.u64.wrap (t / 9223372036854775808))=false:=by rw[bne_eq_false_iff_eq];exact hf.2 h
   obtain rfl:=hi h
   have H:=Lib.hid h
   clear hf hi h
   go_enter Tryz.func102,Tryz.ntmps102
   go_wp2_with fail
   go_ret2
   exact ⟨(Fr.refl nob w).alloc _,fun _=>rfl,fun h=>absurd H.out h⟩
 · have hd:((hxx:Int) != IntKind.u64.wrap (t / 9223372036854775808))=true:=by rw[bne_iff_ne];exact fun e=>h (hf.1 e)
   have H:=Lib.hid h
   clear hf hi h
   go_enter Tryz.func102,Tryz.ntmps102
   go_wp2_with fail
   go_ret2
   exact ⟨(Fr.refl nob w).alloc _,fun h=>absurd h H.out,fun _=>rfl⟩
def Tot (w:World) (r:Nat) (x:Int) (n:Nat):Prop:=w.heap[r]? =some (.cells #[.int .u64 (loN x), .int .u64 (hiN x), .int .i64 n] 122 (0,0))
theorem Tot.zero (w:World):Tot (w.alloc (.cells #[.int .u64 0, .int .u64 0, .int .i64 0] 122 (0,0))) w.heap.size 0 0:=heap_new w _
set_option maxRecDepth 100000 in
theorem totAdd_any (r:Nat) (x v:Int) (n:Nat) (hv:I64 v) (hn:n≤1000000) (w:World) (h:Tot w r x n):
 Calls Tryz.prog 60 #[.pointer (some ⟨r,0,none⟩), .int .i64 v] w fun e w' =>e= .returned (.int .i64 0)∧Tot w' r (x+v) (n+1)∧Fr (fun k=>k=r) w w' :=by
 have hp:=fun w=>plus_any x v hv w
 unfold wideVal at hp
 unfold Tot at*
 have k0:=cell_of h 0
 have k1:=cell_of h 1
 simp at k0 k1
 have H:=Lib.hid h
 clear h hv
 generalize loN x=lx at hp k0 H
 generalize hiN x=hx at hp k1 H
 generalize loN (x+v)=ly at hp ⊢
 generalize hiN (x+v)=hy at hp ⊢
 go_enter Tryz.func60,Tryz.ntmps60
 go_wp2_with fail
 refine (hp _).mono ?_
 rintro e w1 ⟨rfl,hf1⟩
 have H1:=hf1.heap H.out id
 have k0:=cell_of H1 0
 have k1:=cell_of H1 1
 have k2:=cell_of H1 2
 have z0:=frozen_of H1 0
 have z1:=frozen_of H1 1
 have z2:=frozen_of H1 2
 simp at k0 k1 k2
 have HH:=Lib.hid H1
 clear H1 hp
 go_wp2_with fail
 go_ret
 have e1:=heap_set HH.out 0 (.int .u64 ly)
 have e2:=heap_set e1 1 (.int .u64 hy)
 have e3:=heap_set e2 2 (.int .i64 ((n:Int)+1))
 refine ⟨rfl,?_,hf1.nthen (((Fr.self r w1).set1 0 _).set1 1 _ |>.set1 2 _)⟩
 simpa using e3
set_option maxRecDepth 100000 in
theorem totSum_any (r:Nat) (x:Int) (n:Nat) (hx: -170141183460469231731687303715884105728≤x∧x<170141183460469231731687303715884105728) (w:World) (h:Tot w r x n):
 Calls Tryz.prog 61 #[.pointer (some ⟨r,0,none⟩)] w fun e w' =>Fr nob w w' ∧(I64 x→e= .returned (.tuple #[.int .i64 x, .int .i64 0]))∧(¬I64 x→e= .returned (.tuple #[.int .i64 0, .int .i64 12])):=by
 have hp:=fun w=>weight_any x hx w
 unfold wideVal at hp
 unfold Tot at h
 have k0:=cell_of h 0
 have k1:=cell_of h 1
 simp at k0 k1
 clear h hx
 generalize loN x=lx at hp k0
 generalize hiN x=hx at hp k1
 by_cases h:I64 x
 · have hp:∀w,Calls Tryz.prog 102 #[.agg #[.int .u64 lx, .int .u64 hx]] w fun e w' =>e= .returned (.tuple #[.int .i64 x, .int .i64 0])∧Fr nob w w' :=fun w=>(hp w).mono fun e w' hh=>⟨hh.2.1 h,hh.1⟩
   have H:=Lib.hid h
   clear h
   go_enter Tryz.func61,Tryz.ntmps61
   go_wp2_with fail
   refine (hp _).mono ?_
   rintro e w1 ⟨rfl,hf1⟩
   go_wp2_with fail
   go_ret2
   exact ⟨hf1,fun _=>rfl,fun h=>absurd H.out h⟩
 · have hp:∀w,Calls Tryz.prog 102 #[.agg #[.int .u64 lx, .int .u64 hx]] w fun e w' =>e= .returned (.tuple #[.int .i64 0, .int .i64 12])∧Fr nob w w' :=fun w=>(hp w).mono fun e w' hh=>⟨hh.2.2 h,hh.1⟩
   have H:=Lib.hid h
   clear h
   go_enter Tryz.func61,Tryz.ntmps61
   go_wp2_with fail
   refine (hp _).mono ?_
   rintro e w1 ⟨rfl,hf1⟩
   go_wp2_with fail
   go_ret2
   exact ⟨hf1,fun h=>absurd h H.out,fun _=>rfl⟩
end Go.Proofs.YtibpkfnfcdbiiaaGreatDoor
namespace Go.Proofs.YtibpkfnfcdbiiaaGreatDoor
set_option linter.unusedSimpArgs false
open Go.RowKit
set_option linter.unusedVariables false
set_option maxRecDepth 100000 in
theorem cel_eqIn (d:Nat) (a b:Cel) (w:World):(Op.equalIn (d+1+1) 74 (celVal a) (celVal b)).run Tryz.prog w= .ok (decide (a=b)) w:=by
 obtain ⟨n,l⟩:=a
 obtain ⟨m,k⟩:=b
 unfold celVal
 simp[Op.equalIn,run_underlying Tryz.underlying74,part,isAgg,run_underlying Tryz.underlying72,run_underlying Tryz.underlying9,bs_beq]
 by_cases h1:n=m<;>by_cases h2:l=k<;>simp[h1,h2,Int.ofNat_inj]
theorem cel_eql (a b:Cel) (w:World):(binOp .eql 74 (celVal a) (celVal b)).run Tryz.prog w= .ok (.bool (decide (a=b))) w:=by
 have h:(Op.equal 74 (celVal a) (celVal b)).run Tryz.prog w= .ok (decide (a=b)) w:=cel_eqIn 9998 a b w
 unfold celVal at*
 simp only[binOp]
 simp[h]
theorem cel_neq (a b:Cel) (w:World):(binOp .neq 74 (celVal a) (celVal b)).run Tryz.prog w= .ok (.bool (!decide (a=b))) w:=by
 have h:(Op.equal 74 (celVal a) (celVal b)).run Tryz.prog w= .ok (decide (a=b)) w:=cel_eqIn 9998 a b w
 unfold celVal at*
 simp only[binOp]
 simp[h]
set_option maxRecDepth 100000 in
set_option maxHeartbeats 2000000 in
theorem eqcells_any (S R:Nat→Prop) (w:World) (a b:Option Addr) (ca cb:Nat) (s r:List Cel) (hs:SV rCel 2 S w a ca s) (hr:SV rCel 2 R w b cb r) (hl:s.length≤lim) (hlr:r.length≤lim):
 Calls Tryz.prog 100 #[.slice a s.length ca, .slice b r.length cb] w fun e w' =>e= .returned (.bool (decide (s=r)))∧Fr nob w w' :=by
 obtain ⟨E,hE⟩:∃E,E=decide (s=r):=⟨_,rfl⟩
 rw[←hE]
 have HE:=Lib.hid hE
 have HS:=Lib.hid hs
 have HR:=Lib.hid hr
 unfold lim at hl hlr
 clear hE hs hr
 by_cases h2:s.length=r.length
 · have hEE:E=decide (s.drop 0=r.drop 0):=HE.out
   have HEE:=Lib.hid hEE
   have d2:((s.length:Int) != r.length)=false:=by rw[h2];simp
   have H2:=Lib.hid h2
   clear HE hEE h2
   go_enter Tryz.func100,Tryz.ntmps100
   go_wp2_with fail
   go_loopw [13] (fun v13 wr=>∃k:Nat,k≤s.length∧v13= .int .i64 k∧E=decide (s.drop k=r.drop k)∧Fr nob w wr) (fun v13 _=>s.length - (intOf v13).toNat)
   case atStart=>exact ⟨0,Nat.zero_le _,rfl,HEE.out,Fr.refl _ _⟩
   case round=>
    obtain ⟨k,hk,rfl,hEk,hf⟩:=hrel
    have HEk:=Lib.hid hEk
    clear hEk HEE
    by_cases hlt:k<s.length
    · have hltr:k<r.length:=by rw[←H2.out];exact hlt
      have hE2:E=(decide (s[k]=r[k])&&decide (s.drop (k+1)=r.drop (k+1))):=by
       rw[HEk.out,List.drop_eq_getElem_cons hlt,List.drop_eq_getElem_cons hltr,Bool.eq_iff_iff]
       simp only[decide_eq_true_eq,Bool.and_eq_true,List.cons.injEq]
      have HE2:=Lib.hid hE2
      obtain ⟨b1,o1,rfl,_,hn1,ht1,c0,c1⟩:=cel_at (HS.out.frN rCel_ok hf) hlt
      obtain ⟨b2,o2,rfl,_,hn2,ht2,d0,d1⟩:=cel_at (HR.out.frN rCel_ok hf) hltr
      have q0:∀y,Fr nob wr y→y.cell? ⟨b1,o1+k*2,none⟩=some (.int .u64 s[k].num):=fun y hy=>hy.cell c0 id
      have q1:∀y,Fr nob wr y→y.cell? ⟨b1,o1+k*2+1,none⟩=some (.string (bs s[k].text)):=fun y hy=>hy.cell c1 id
      have q2:∀y,Fr nob wr y→y.cell? ⟨b2,o2+k*2,none⟩=some (.int .u64 r[k].num):=fun y hy=>hy.cell d0 id
      have q3:∀y,Fr nob wr y→y.cell? ⟨b2,o2+k*2+1,none⟩=some (.string (bs r[k].text)):=fun y hy=>hy.cell d1 id
      have hq:=cel_neq s[k] r[k]
      unfold celVal at hq
      clear hE2 HEk c0 c1 d0 d1 hn1 hn2 ht1 ht2
      generalize decide (s[k]=r[k])=dd at hq HE2
      generalize s[k].num=x1 at q0 hq
      generalize s[k].text=x2 at q1 hq
      generalize r[k].num=x3 at q2 hq
      generalize r[k].text=x4 at q3 hq
      go_wp2_with fail
      refine wp_region_ord [(0,true),(1,true),(2,true),(3,true),(4,true),(5,true),(6,true),(7,true),(8,true)] (Fr nob _) rfl (by kernel_rfl) (by kernel_rfl) (by decide) (fun c a d v w h=>by cases d<;>exact h) ((Fr.refl nob _).drew) (fun ops hops hS=>?_)
      repeat (first | (apply oF hops (by rfl) (by first | exact .plain rfl | exact .y hops rfl rfl rfl rfl);(focus (intro x hx;go_simp;rfl));go_simp) | (apply oS hops (by rfl) (by first | exact .n hops rfl rfl rfl rfl | exact .u hops rfl rfl rfl rfl);go_simp) | (apply oP hops (by rfl) (by first | exact .n hops rfl rfl rfl rfl | exact .u hops rfl rfl rfl rfl) (by assumption);go_simp))
      apply wpOrd_nil
      cases dd
      · have hEE:E=false:=by rw[HE2.out];rfl
        subst hEE
        go_wp2_with fail
        go_ret
        exact ⟨rfl,hf.drew⟩
      · have hEE:E=decide (s.drop (k+1)=r.drop (k+1)):=by rw[HE2.out];simp
        have HEE' :=Lib.hid hEE
        clear hEE HE2
        go_wp2_with fail
        go_roundw
        case rel=>exact ⟨k+1,by omega,by go_num,HEE'.out,hf.drew⟩
        case measure=>simp[intOf];omega
    · have hEE:E=true:=by rw[HEk.out,List.drop_of_length_le (by omega),List.drop_of_length_le (by have:=H2.out;omega)];simp
      subst hEE
      clear HEk
      go_wp2_with fail
      go_ret
      exact ⟨rfl,hf⟩
 · have hEE:E=false:=by rw[HE.out];simp;intro e;exact h2 (by rw[e])
   have d2:((s.length:Int) != r.length)=true:=by rw[bne_iff_ne];omega
   clear HE
   subst hEE
   go_enter Tryz.func100,Tryz.ntmps100
   go_wp2_with fail
   go_ret
   exact ⟨rfl,Fr.refl _ _⟩
theorem rowSame_any (S R:Nat→Prop) (w:World) (a b:Option Addr) (ca cb:Nat) (s r:List Cel) (hs:SV rCel 2 S w a ca s) (hr:SV rCel 2 R w b cb r) (hl:s.length≤lim) (hlr:r.length≤lim):
 Calls Tryz.prog 59 #[.slice a s.length ca, .slice b r.length cb] w fun e w' =>e= .returned (.bool (decide (s=r)))∧Fr nob w w' :=by
 have h:=eqcells_any S R w a b ca cb s r hs hr hl hlr
 generalize decide (s=r)=d at h ⊢
 clear hs hr
 go_enter Tryz.func59,Tryz.ntmps59
 go_wp2_with fail
 refine h.mono ?_
 rintro e w1 ⟨rfl,hf⟩
 go_wp2_with fail
 go_ret
 exact ⟨rfl,hf⟩
end Go.Proofs.YtibpkfnfcdbiiaaGreatDoor
