/- Contract of wire.GetUint: a round is walked at each place. Contracts of the reader's small methods. Contracts of the reader's Byte and Uint. Contract of the reader's Uint. The deferred closure of reader.Run. Contract of reader.Run and of its deferred closure. -/
import Derived.Test.YtibpkfnfcdbiiaaGreatDoorBunK
import Derived.OwnWalk
import Derived.Test.YtibpkfnfcdbiiaaGreatDoorBunB
import Derived.Test.YtibpkfnfcdbiiaaGreatDoorBunA
import Derived.Defers
import Derived.Recover
import Derived.Laws.Pointers
import Derived.Tactics2
namespace Go.Proofs.YtibpkfnfcdbiiaaGreatDoor
set_option linter.unusedSimpArgs false
open Go.RowKit
set_option linter.unusedVariables false
theorem bits_or64 (a b:Nat) (ha:a<18446744073709551616) (hb:b<18446744073709551616):bits BinOp.or IntKind.u64 (a:Int) (b:Int)=((a ||| b:Nat):Int):=by
 have h:a ||| b<2 ^ 64:=Nat.or_lt_two_pow (by omega) (by omega)
 simp only[bits]
 rw[show (BitVec.ofInt IntKind.u64.bits (a:Int) ||| BitVec.ofInt IntKind.u64.bits (b:Int)).toNat=a ||| b from by
  show (BitVec.ofInt 64 (a:Int) ||| BitVec.ofInt 64 (b:Int)).toNat=a ||| b
  simp only[BitVec.toNat_or,BitVec.ofInt_natCast,BitVec.toNat_ofNat]
  rw[Nat.mod_eq_of_lt (by omega),Nat.mod_eq_of_lt (by omega)]]
 exact IntWalk.u64_in _ (by omega)
theorem or_sum (n M x v:Nat) (hM:M=2 ^ n) (hx:x<M) (hv:v*M<18446744073709551616) (hM2:M<18446744073709551616):bits BinOp.or IntKind.u64 (x:Int) ((v*M:Nat):Int)=((x+v*M:Nat):Int):=by
 rw[bits_or64 x (v*M) (by omega) hv]
 subst hM
 rw[Nat.or_comm,Nat.mul_comm,←Nat.two_pow_add_eq_or_of_lt hx,Nat.add_comm]
theorem wrap_u64 (z:Int):IntKind.u64.wrap z=z%18446744073709551616:=by
 first | rfl | (simp[IntKind.wrap,IntKind.bits];done)
theorem getUv10 (x:Nat) (r:List UInt8):getUv 10 x r=(0,0,7):=by cases r<;>simp[getUv]
set_option maxHeartbeats 8000000 in
set_option maxRecDepth 100000 in
theorem getuint_any (S:Nat→Prop) (w:World) (a:Option Addr) (cap:Nat) (l:List UInt8) (h:BV S w a cap l) (hl:l.length≤1099511627776):
 Calls Tryz.prog 140 #[.slice a l.length cap] w fun e w' =>e= .returned (.tuple #[.int .u64 (getUv 0 0 l).1, .int .i64 (getUv 0 0 l).2.1, .int .i64 (getUv 0 0 l).2.2])∧w' =w:=by
 have H:=Lib.hid h
 clear h
 go_enter Tryz.func140,Tryz.ntmps140
 go_wp2_with fail
 all_goals
  rename_i hlen
  go_loop [5,12] (fun v5 v12=>∃k x:Nat,k≤10∧k≤l.length∧v12= .int .i64 k∧v5= .int .u64 x∧x<128 ^ k∧getUv 0 0 l=getUv k x (l.drop k)) (fun _ v12=>10 - (intOf v12).toNat)
  case atStart=>exact ⟨0,0,by omega,by omega,rfl,rfl,by omega,rfl⟩
  case round=>
   obtain ⟨k,x,hk10,hkl,rfl,rfl,hx,hg⟩:=hrel
   by_cases hlt:k<10∧k<l.length
   · obtain ⟨hlt,hkl'⟩:=hlt
     obtain ⟨b,off,rfl,hSb,hc⟩:=H.out.get hkl'
     rw[List.drop_eq_getElem_cons hkl'] at hg
     obtain ⟨c,hcc⟩:∃c,c=l[k].toNat:=⟨_,rfl⟩
     have hc255:c<256:=by rw[hcc];exact UInt8.toNat_lt _
     simp only[getUv,←hcc] at hg
     rw[←hcc] at hc
     rw[if_neg (by omega)] at hg
     have Hg:=Lib.hid hg
     have Hc:=Lib.hid hcc
     have hA:=andNot128 c (by omega) (by omega)
     clear hg hcc
     obtain rfl | hne0:k=0∨k≠0:=by omega
     · have hx:x<1:=by simpa using hx
       have hO:bits BinOp.or IntKind.u64 (x:Int) ((c:Int)%128)=((x+c%128*1:Nat):Int):=by
        have h:=or_sum 0 1 x (c%128) rfl hx (by omega) (by omega)
        rw[←h];congr 1;omega
       rw[Nat.add_zero] at hc
       have HO:=Lib.hid hO
       clear hO
       by_cases h128:128≤c
       · go_wp2_with fail
         go_round
         case rel=>exact ⟨1,x+c%128*1,by omega,by omega,by go_num,congrArg (Value.int .u64) HO.out,by simp;omega,by rw[Hg.out,if_pos h128,show c - 128=c%128 by omega]⟩
         case measure=>simp[intOf]
       · by_cases h0:c=0
         · subst h0
           obtain rfl:x=0:=by omega
           go_wp2_with fail
           go_ret3
           refine ⟨?_,rfl⟩
           rw[Hg.out]
           rfl
         · go_wp2_with fail
           all_goals first | (go_ret3;refine ⟨?_,rfl⟩;rw[Hg.out,if_neg h128,if_neg (by omega),if_neg (by omega)];show Ending.returned (.tuple #[.int .u64 (bits BinOp.or IntKind.u64 (x:Int) ((c:Int)%128)), .int .i64 1, .int .i64 0])=_;rw[HO.out];simp;omega) | (exfalso;rename_i hb _ _;simp at hb;omega) | (exfalso;rename_i hb _;simp at hb;omega) | (exfalso;rename_i hb;simp at hb;omega) | trace_state
     obtain rfl | hne1:k=1∨k≠1:=by omega
     · have hx:x<128:=by simpa using hx
       have hO:bits BinOp.or IntKind.u64 (x:Int) ((c:Int)%128*128)=((x+c%128*128:Nat):Int):=by
        have h:=or_sum 7 128 x (c%128) rfl hx (by omega) (by omega)
        rw[←h];congr 1
       have HO:=Lib.hid hO
       clear hO
       by_cases h128:128≤c
       · go_wp2_with fail
         go_round
         case rel=>exact ⟨2,x+c%128*128,by omega,by omega,by go_num,congrArg (Value.int .u64) HO.out,by simp;omega,by rw[Hg.out,if_pos h128,show c - 128=c%128 by omega]⟩
         case measure=>simp[intOf]
       · go_wp2_with fail
         · go_ret3
           refine ⟨?_,rfl⟩
           rw[Hg.out,if_neg h128,if_neg (by omega),if_pos ⟨by omega,by omega⟩]
           rfl
         · go_ret3
           refine ⟨?_,rfl⟩
           rw[Hg.out,if_neg h128,if_neg (by omega),if_neg (by omega)]
           show Ending.returned (.tuple #[.int .u64 (bits BinOp.or IntKind.u64 (x:Int) ((c:Int)%128*128)), .int .i64 2, .int .i64 0])=_
           rw[HO.out]
           simp
           omega
     obtain rfl | hne2:k=2∨k≠2:=by omega
     · have hx:x<16384:=by simpa using hx
       have hO:bits BinOp.or IntKind.u64 (x:Int) ((c:Int)%128*16384)=((x+c%128*16384:Nat):Int):=by
        have h:=or_sum 14 16384 x (c%128) rfl hx (by omega) (by omega)
        rw[←h];congr 1
       have HO:=Lib.hid hO
       clear hO
       by_cases h128:128≤c
       · go_wp2_with fail
         go_round
         case rel=>exact ⟨3,x+c%128*16384,by omega,by omega,by go_num,congrArg (Value.int .u64) HO.out,by simp;omega,by rw[Hg.out,if_pos h128,show c - 128=c%128 by omega]⟩
         case measure=>simp[intOf]
       · go_wp2_with fail
         · go_ret3
           refine ⟨?_,rfl⟩
           rw[Hg.out,if_neg h128,if_neg (by omega),if_pos ⟨by omega,by omega⟩]
           rfl
         · go_ret3
           refine ⟨?_,rfl⟩
           rw[Hg.out,if_neg h128,if_neg (by omega),if_neg (by omega)]
           show Ending.returned (.tuple #[.int .u64 (bits BinOp.or IntKind.u64 (x:Int) ((c:Int)%128*16384)), .int .i64 3, .int .i64 0])=_
           rw[HO.out]
           simp
           omega
     obtain rfl | hne3:k=3∨k≠3:=by omega
     · have hx:x<2097152:=by simpa using hx
       have hO:bits BinOp.or IntKind.u64 (x:Int) ((c:Int)%128*2097152)=((x+c%128*2097152:Nat):Int):=by
        have h:=or_sum 21 2097152 x (c%128) rfl hx (by omega) (by omega)
        rw[←h];congr 1
       have HO:=Lib.hid hO
       clear hO
       by_cases h128:128≤c
       · go_wp2_with fail
         go_round
         case rel=>exact ⟨4,x+c%128*2097152,by omega,by omega,by go_num,congrArg (Value.int .u64) HO.out,by simp;omega,by rw[Hg.out,if_pos h128,show c - 128=c%128 by omega]⟩
         case measure=>simp[intOf]
       · go_wp2_with fail
         · go_ret3
           refine ⟨?_,rfl⟩
           rw[Hg.out,if_neg h128,if_neg (by omega),if_pos ⟨by omega,by omega⟩]
           rfl
         · go_ret3
           refine ⟨?_,rfl⟩
           rw[Hg.out,if_neg h128,if_neg (by omega),if_neg (by omega)]
           show Ending.returned (.tuple #[.int .u64 (bits BinOp.or IntKind.u64 (x:Int) ((c:Int)%128*2097152)), .int .i64 4, .int .i64 0])=_
           rw[HO.out]
           simp
           omega
     obtain rfl | hne4:k=4∨k≠4:=by omega
     · have hx:x<268435456:=by simpa using hx
       have hO:bits BinOp.or IntKind.u64 (x:Int) ((c:Int)%128*268435456)=((x+c%128*268435456:Nat):Int):=by
        have h:=or_sum 28 268435456 x (c%128) rfl hx (by omega) (by omega)
        rw[←h];congr 1
       have HO:=Lib.hid hO
       clear hO
       by_cases h128:128≤c
       · go_wp2_with fail
         go_round
         case rel=>exact ⟨5,x+c%128*268435456,by omega,by omega,by go_num,congrArg (Value.int .u64) HO.out,by simp;omega,by rw[Hg.out,if_pos h128,show c - 128=c%128 by omega]⟩
         case measure=>simp[intOf]
       · go_wp2_with fail
         · go_ret3
           refine ⟨?_,rfl⟩
           rw[Hg.out,if_neg h128,if_neg (by omega),if_pos ⟨by omega,by omega⟩]
           rfl
         · go_ret3
           refine ⟨?_,rfl⟩
           rw[Hg.out,if_neg h128,if_neg (by omega),if_neg (by omega)]
           show Ending.returned (.tuple #[.int .u64 (bits BinOp.or IntKind.u64 (x:Int) ((c:Int)%128*268435456)), .int .i64 5, .int .i64 0])=_
           rw[HO.out]
           simp
           omega
     obtain rfl | hne5:k=5∨k≠5:=by omega
     · have hx:x<34359738368:=by simpa using hx
       have hO:bits BinOp.or IntKind.u64 (x:Int) ((c:Int)%128*34359738368)=((x+c%128*34359738368:Nat):Int):=by
        have h:=or_sum 35 34359738368 x (c%128) rfl hx (by omega) (by omega)
        rw[←h];congr 1
       have HO:=Lib.hid hO
       clear hO
       by_cases h128:128≤c
       · go_wp2_with fail
         go_round
         case rel=>exact ⟨6,x+c%128*34359738368,by omega,by omega,by go_num,congrArg (Value.int .u64) HO.out,by simp;omega,by rw[Hg.out,if_pos h128,show c - 128=c%128 by omega]⟩
         case measure=>simp[intOf]
       · go_wp2_with fail
         · go_ret3
           refine ⟨?_,rfl⟩
           rw[Hg.out,if_neg h128,if_neg (by omega),if_pos ⟨by omega,by omega⟩]
           rfl
         · go_ret3
           refine ⟨?_,rfl⟩
           rw[Hg.out,if_neg h128,if_neg (by omega),if_neg (by omega)]
           show Ending.returned (.tuple #[.int .u64 (bits BinOp.or IntKind.u64 (x:Int) ((c:Int)%128*34359738368)), .int .i64 6, .int .i64 0])=_
           rw[HO.out]
           simp
           omega
     obtain rfl | hne6:k=6∨k≠6:=by omega
     · have hx:x<4398046511104:=by simpa using hx
       have hO:bits BinOp.or IntKind.u64 (x:Int) ((c:Int)%128*4398046511104)=((x+c%128*4398046511104:Nat):Int):=by
        have h:=or_sum 42 4398046511104 x (c%128) rfl hx (by omega) (by omega)
        rw[←h];congr 1
       have HO:=Lib.hid hO
       clear hO
       by_cases h128:128≤c
       · go_wp2_with fail
         go_round
         case rel=>exact ⟨7,x+c%128*4398046511104,by omega,by omega,by go_num,congrArg (Value.int .u64) HO.out,by simp;omega,by rw[Hg.out,if_pos h128,show c - 128=c%128 by omega]⟩
         case measure=>simp[intOf]
       · go_wp2_with fail
         · go_ret3
           refine ⟨?_,rfl⟩
           rw[Hg.out,if_neg h128,if_neg (by omega),if_pos ⟨by omega,by omega⟩]
           rfl
         · go_ret3
           refine ⟨?_,rfl⟩
           rw[Hg.out,if_neg h128,if_neg (by omega),if_neg (by omega)]
           show Ending.returned (.tuple #[.int .u64 (bits BinOp.or IntKind.u64 (x:Int) ((c:Int)%128*4398046511104)), .int .i64 7, .int .i64 0])=_
           rw[HO.out]
           simp
           omega
     obtain rfl | hne7:k=7∨k≠7:=by omega
     · have hx:x<562949953421312:=by simpa using hx
       have hO:bits BinOp.or IntKind.u64 (x:Int) ((c:Int)%128*562949953421312)=((x+c%128*562949953421312:Nat):Int):=by
        have h:=or_sum 49 562949953421312 x (c%128) rfl hx (by omega) (by omega)
        rw[←h];congr 1
       have HO:=Lib.hid hO
       clear hO
       by_cases h128:128≤c
       · go_wp2_with fail
         go_round
         case rel=>exact ⟨8,x+c%128*562949953421312,by omega,by omega,by go_num,congrArg (Value.int .u64) HO.out,by simp;omega,by rw[Hg.out,if_pos h128,show c - 128=c%128 by omega]⟩
         case measure=>simp[intOf]
       · go_wp2_with fail
         · go_ret3
           refine ⟨?_,rfl⟩
           rw[Hg.out,if_neg h128,if_neg (by omega),if_pos ⟨by omega,by omega⟩]
           rfl
         · go_ret3
           refine ⟨?_,rfl⟩
           rw[Hg.out,if_neg h128,if_neg (by omega),if_neg (by omega)]
           show Ending.returned (.tuple #[.int .u64 (bits BinOp.or IntKind.u64 (x:Int) ((c:Int)%128*562949953421312)), .int .i64 8, .int .i64 0])=_
           rw[HO.out]
           simp
           omega
     obtain rfl | hne8:k=8∨k≠8:=by omega
     · have hx:x<72057594037927936:=by simpa using hx
       have hO:bits BinOp.or IntKind.u64 (x:Int) ((c:Int)%128*72057594037927936)=((x+c%128*72057594037927936:Nat):Int):=by
        have h:=or_sum 56 72057594037927936 x (c%128) rfl hx (by omega) (by omega)
        rw[←h];congr 1
       have HO:=Lib.hid hO
       clear hO
       by_cases h128:128≤c
       · go_wp2_with fail
         go_round
         case rel=>exact ⟨9,x+c%128*72057594037927936,by omega,by omega,by go_num,congrArg (Value.int .u64) HO.out,by simp;omega,by rw[Hg.out,if_pos h128,show c - 128=c%128 by omega]⟩
         case measure=>simp[intOf]
       · go_wp2_with fail
         · go_ret3
           refine ⟨?_,rfl⟩
           rw[Hg.out,if_neg h128,if_neg (by omega),if_pos ⟨by omega,by omega⟩]
           rfl
         · go_ret3
           refine ⟨?_,rfl⟩
           rw[Hg.out,if_neg h128,if_neg (by omega),if_neg (by omega)]
           show Ending.returned (.tuple #[.int .u64 (bits BinOp.or IntKind.u64 (x:Int) ((c:Int)%128*72057594037927936)), .int .i64 9, .int .i64 0])=_
           rw[HO.out]
           simp
           omega
     obtain rfl:k=9:=by omega
     · have hx:x<9223372036854775808:=by simpa using hx
       have hO:bits BinOp.or IntKind.u64 (x:Int) ((c:Int)%128*9223372036854775808%18446744073709551616)=((x+c%2*9223372036854775808:Nat):Int):=by
        have h:=or_sum 63 9223372036854775808 x (c%2) rfl hx (by omega) (by omega)
        rw[←h];congr 1;omega
       have hw:IntKind.u64.wrap ((c:Int)%128*9223372036854775808)=(c%2:Nat)*9223372036854775808:=by rw[wrap_u64];omega
       have HW:=Lib.hid hw
       clear hw
       have HO:=Lib.hid hO
       clear hO
       by_cases h128:128≤c
       · go_wp2_with fail
         go_round
         case rel=>exact ⟨10,x+c%2*9223372036854775808,by omega,by omega,by go_num,congrArg (Value.int .u64) HO.out,by simp;omega,by rw[Hg.out,if_pos h128,getUv10,getUv10]⟩
         case measure=>simp[intOf]
       · by_cases h1:1<c
         · go_wp2_with fail
           all_goals first | (go_ret3;refine ⟨?_,rfl⟩;rw[Hg.out,if_neg h128,if_pos ⟨by omega,h1⟩];rfl) | (exfalso;rename_i hb _ _;rw[HW.out] at hb;simp at hb;omega) | (exfalso;rename_i hb _;simp at hb;omega) | (exfalso;rename_i hb;simp at hb;omega) | trace_state
         · go_wp2_with fail
           · go_ret3
             refine ⟨?_,rfl⟩
             rw[Hg.out,if_neg h128,if_neg (fun h=>h1 h.2),if_pos ⟨by omega,by omega⟩]
             rfl
           · have hO1:bits BinOp.or IntKind.u64 (x:Int) ((c:Int)%128*9223372036854775808)=((x+c*9223372036854775808:Nat):Int):=by
              have h:=or_sum 63 9223372036854775808 x c rfl hx (by omega) (by omega)
              have e:(c:Int)%128*9223372036854775808=((c*9223372036854775808:Nat):Int):=by omega
              rw[e];exact h
             go_ret3
             refine ⟨?_,rfl⟩
             rw[Hg.out,if_neg h128,if_neg (fun h=>h1 h.2),if_neg (by omega)]
             show Ending.returned (.tuple #[.int .u64 (bits BinOp.or IntKind.u64 (x:Int) ((c:Int)%128*9223372036854775808)), .int .i64 10, .int .i64 0])=_
             rw[hO1]
             simp
   · have hg2:getUv 0 0 l=if 10≤l.length then (0,0,7) else (0,0,5):=by
      rw[hg]
      by_cases hk:k=10
      · subst hk
        rw[getUv10,if_pos (by omega)]
      · rw[List.drop_eq_nil_of_le (by omega),getUv,if_neg (by omega),if_neg (by omega)]
     by_cases h10:10≤l.length
     · rw[if_pos h10] at hg2
       have Hg2:=Lib.hid hg2
       clear hg hg2
       go_wp2_with fail
       all_goals first | (go_ret3;refine ⟨?_,rfl⟩;rw[Hg2.out];rfl) | trace_state
     · rw[if_neg h10] at hg2
       have Hg2:=Lib.hid hg2
       clear hg hg2
       go_wp2_with fail
       all_goals first | (go_ret3;refine ⟨?_,rfl⟩;rw[Hg2.out];rfl) | trace_state
def Rd (w:World) (r:Nat) (a:Option Addr) (n cap i:Nat) (lv:Bool):Prop:=w.heap[r]? =some (.cells #[.slice a n cap, .int .i64 i, .bool lv] 209 (0,0))
theorem Rd.c0 {w:World} {r:Nat} {a:Option Addr} {n cap i:Nat} {lv:Bool} (h:Rd w r a n cap i lv):w.cell? ⟨r,0,none⟩=some (.slice a n cap):=by
 have:=cell_of h 0;simpa using this
theorem Rd.c1 {w:World} {r:Nat} {a:Option Addr} {n cap i:Nat} {lv:Bool} (h:Rd w r a n cap i lv):w.cell? ⟨r,1,none⟩=some (.int .i64 i):=by
 have:=cell_of h 1;simpa using this
theorem Rd.c2 {w:World} {r:Nat} {a:Option Addr} {n cap i:Nat} {lv:Bool} (h:Rd w r a n cap i lv):w.cell? ⟨r,2,none⟩=some (.bool lv):=by
 have:=cell_of h 2;simpa using this
theorem live_any (r:Nat) (a:Option Addr) (n cap i:Nat) (lv:Bool) (w:World) (h:Rd w r a n cap i lv):
 Calls Tryz.prog 137 #[.pointer (some ⟨r,0,none⟩)] w fun e w' =>e= .returned (.bool lv)∧w' =w:=by
 have k2:=h.c2
 clear h
 go_enter Tryz.func137,Tryz.ntmps137
 go_wp2
 go_ret
 exact ⟨rfl,rfl⟩
theorem left_any (r:Nat) (a:Option Addr) (n cap i:Nat) (w:World) (h:Rd w r a n cap i true) (hn:n≤1099511627776) (hi:i≤n):
 Calls Tryz.prog 138 #[.pointer (some ⟨r,0,none⟩)] w fun e w' =>e= .returned (.int .i64 (n - i:Int))∧Fr nob w w' :=by
 have k0:=h.c0
 have k1:=h.c1
 have hlv:=live_any r a n cap i true w h
 clear h
 go_enter Tryz.func138,Tryz.ntmps138
 go_wp2_with fail
 refine hlv.mono ?_
 rintro e w1 ⟨rfl,rfl⟩
 go_wp2_with fail
 have q0:∀x,Fr nob w1 x→x.cell? ⟨r,0,none⟩=some (.slice a n cap):=fun x hx=>hx.cell k0 id
 have q1:∀x,Fr nob w1 x→x.cell? ⟨r,1,none⟩=some (.int .i64 i):=fun x hx=>hx.cell k1 id
 clear k0 k1 hlv
 refine wp_region_ord [(0,true),(1,true),(2,true),(3,true),(4,true),(5,true),(6,true),(7,true),(8,true),(9,true),(10,true)] (Fr nob w1) rfl (by kernel_rfl) (by kernel_rfl) (by decide) (fun c a d v w h=>by cases d<;>exact h) ((Fr.refl nob w1).drew) (fun ops hops hS=>?_)
 repeat (apply oF hops (by rfl) (by first | exact .plain rfl | exact .y hops rfl rfl rfl rfl);(focus (intro x hx;go_simp;rfl));go_simp)
 apply wpOrd_nil
 go_wp2_with fail
 go_ret
 refine ⟨?_,(Fr.refl nob w1).drew⟩
 show Ending.returned (.int .i64 (IntKind.i64.wrap ((n:Int) - i)))=_
 rw[IntWalk.i64_in _ (by omega)]
def broken (r:Nat) (err:Nat):List PanicEntry:=[{v:= .iface 211 (.agg #[.pointer (some ⟨r,0,none⟩), .int .i64 err]),recovered:=false}]
theorem must_ok (r:Nat) (a:Option Addr) (n cap i:Nat) (ok:Bool) (err:Nat) (w:World) (h:Rd w r a n cap i true) (hok:ok=true∨err=0):
 Calls Tryz.prog 107 #[.pointer (some ⟨r,0,none⟩), .bool ok, .int .i64 err] w fun e w' =>e= .returned (.tuple #[])∧w' =w:=by
 have hlv:=live_any r a n cap i true w h
 clear h
 cases ok
 · have he:err=0:=hok.resolve_left (by simp)
   subst he
   go_enter Tryz.func107,Tryz.ntmps107
   go_wp2_with fail
   refine hlv.mono ?_
   rintro e w1 ⟨rfl,rfl⟩
   go_wp2_with fail
   go_end0
   exact ⟨rfl,rfl⟩
 · go_enter Tryz.func107,Tryz.ntmps107
   go_wp2_with fail
   refine hlv.mono ?_
   rintro e w1 ⟨rfl,rfl⟩
   go_wp2_with fail
   go_end0
   exact ⟨rfl,rfl⟩
theorem must_bad (r:Nat) (a:Option Addr) (n cap i:Nat) (err:Nat) (w:World) (h:Rd w r a n cap i true) (he:err≠0) (he2:err<256):
 Calls Tryz.prog 107 #[.pointer (some ⟨r,0,none⟩), .bool false, .int .i64 err] w fun e w' =>e= .panicked (broken r err)∧w' =w:=by
 have hlv:=live_any r a n cap i true w h
 have hd:((err:Int) != 0)=true:=by simp;omega
 clear h
 go_enter Tryz.func107,Tryz.ntmps107
 go_wp2_with fail
 refine hlv.mono ?_
 rintro e w1 ⟨rfl,rfl⟩
 go_wp2_with fail
 exact ⟨rfl,rfl,rfl⟩
theorem Rd.setAt {w:World} {r:Nat} {a:Option Addr} {n cap i:Nat} {lv:Bool} (h:Rd w r a n cap i lv) (j:Nat):Rd (w.setCell ⟨r,1,none⟩ (.int .i64 j)) r a n cap j lv:=by
 have:=heap_set h 1 (.int .i64 j)
 simpa [Rd] using this
theorem Rd.fr {T:Nat→Prop} {w w' :World} {r:Nat} {a:Option Addr} {n cap i:Nat} {lv:Bool} (h:Rd w r a n cap i lv) (hf:Fr T w w') (hr:¬T r):Rd w' r a n cap i lv:=by
 exact hf.heap h hr
theorem take_ok (r:Nat) (a:Option Addr) (n cap i k:Nat) (w:World) (h:Rd w r a n cap i true) (hn:n≤1099511627776) (hi:i+k≤n):
 Calls Tryz.prog 139 #[.pointer (some ⟨r,0,none⟩), .int .i64 k, .int .i64 0] w fun e w' =>e= .returned (.tuple #[])∧Fr (fun x=>x=r) w w' ∧Rd w' r a n cap (i+k) true:=by
 have hm:=must_ok r a n cap i true 0 w h (Or.inl rfl)
 have k1:=h.c1
 have z1:=frozen_of h 1
 have H:=Lib.hid h
 clear h
 go_enter Tryz.func139,Tryz.ntmps139
 go_wp2_with fail
 refine hm.mono ?_
 rintro e w1 ⟨rfl,rfl⟩
 go_wp2_with fail
 go_end0
 exact ⟨rfl,(Fr.self r w1).set1 1 _,by simpa using H.out.setAt (i+k)⟩
theorem take_bad (r:Nat) (a:Option Addr) (n cap i k err:Nat) (w:World) (h:Rd w r a n cap i true) (he:err≠0) (he2:err<256):
 Calls Tryz.prog 139 #[.pointer (some ⟨r,0,none⟩), .int .i64 k, .int .i64 err] w fun e w' =>e= .panicked (broken r err)∧w' =w:=by
 have hm:=must_bad r a n cap i err w h he he2
 have hd:((err:Int) == 0)=false:=by simp;omega
 clear h
 go_enter Tryz.func139,Tryz.ntmps139
 go_wp2_with fail
 refine hm.mono ?_
 rintro e w1 ⟨rfl,rfl⟩
 go_wp2_with fail
 exact ⟨rfl,rfl,rfl⟩
set_option maxRecDepth 100000 in
set_option maxHeartbeats 1000000 in
theorem byte_ok (S:Nat→Prop) (r:Nat) (a:Option Addr) (cap i:Nat) (l:List UInt8) (w:World) (h:Rd w r a l.length cap i true) (hb:BV S w a cap l) (hn:l.length≤1099511627776) (hi:i<l.length) (hr:¬S r):
 Calls Tryz.prog 108 #[.pointer (some ⟨r,0,none⟩)] w fun e w' =>e= .returned (.int .u8 l[i].toNat)∧Fr (fun x=>x=r) w w' ∧Rd w' r a l.length cap (i+1) true:=by
 have hlv:=live_any r a l.length cap i true w h
 have hlf:=left_any r a l.length cap i w h hn (by omega)
 have hd:decide ((l.length:Int) - i>0)=true:=by simp;omega
 obtain ⟨b,off,rfl,hSb,hc⟩:=hb.get hi
 have H:=Lib.hid h
 obtain ⟨n,hnn⟩:∃n,n=l.length:=⟨_,rfl⟩
 have HC:=Lib.hid hc
 have c255:l[i].toNat<256:=UInt8.toNat_lt _
 obtain ⟨c,hcc⟩:∃c,c=l[i].toNat:=⟨_,rfl⟩
 rw[←hcc] at HC c255 ⊢
 clear h hb hc hcc
 rw[←hnn] at hlf hd H hn hi ⊢
 clear hnn
 go_enter Tryz.func108,Tryz.ntmps108
 go_wp2_with fail
 refine hlv.mono ?_
 rintro e w0 ⟨rfl,rfl⟩
 go_wp2_with fail
 refine hlf.mono ?_
 rintro e w1 ⟨rfl,hf1⟩
 have H1:Hid (Rd w1 r (some ⟨b,off,none⟩) n cap i true):=Lib.hid (H.out.fr hf1 id)
 go_wp2_with fail
 refine (must_ok r _ _ _ _ true 5 w1 H1.out (Or.inl rfl)).mono ?_
 rintro e w2 ⟨rfl,rfl⟩
 have k0:=H1.out.c0
 have k1:=H1.out.c1
 have q0:∀x,Fr nob w2 x→x.cell? ⟨r,0,none⟩=some (.slice (some ⟨b,off,none⟩) n cap):=fun x hx=>hx.cell k0 id
 have q1:∀x,Fr nob w2 x→x.cell? ⟨r,1,none⟩=some (.int .i64 i):=fun x hx=>hx.cell k1 id
 have q2:∀x,Fr nob w2 x→x.cell? ⟨b,off+i,none⟩=some (.int .u8 c):=fun x hx=>(hf1.andN hx).cell HC.out id
 clear k0 k1 hlv hlf
 go_wp2_with fail
 refine wp_region_ord [(0,true),(1,true),(2,true),(3,true),(4,true),(5,true),(6,true),(7,true),(8,true),(9,true),(10,true)] (Fr nob w2) rfl (by kernel_rfl) (by kernel_rfl) (by decide) (fun c a d v w h=>by cases d<;>exact h) ((Fr.refl nob w2).drew) (fun ops hops hS=>?_)
 repeat (apply oF hops (by rfl) (by first | exact .plain rfl | exact .y hops rfl rfl rfl rfl);(focus (intro x hx;go_simp;rfl));go_simp)
 apply wpOrd_nil
 go_wp2_with fail
 have H2:Rd w2.drew r (some ⟨b,off,none⟩) n cap i true:=H1.out.fr (Fr.refl nob w2).drew id
 refine (take_ok r _ _ _ _ 1 _ H2 hn (by omega)).mono ?_
 rintro e w3 ⟨rfl,hf3,H3⟩
 go_wp2_with fail
 go_ret
 exact ⟨rfl,(hf1.mono (fun _ _ h=>h.elim)).trans ((Fr.refl _ w2).drew.trans hf3 (fun _ _ h=>h)) (fun _ _ h=>h),H3⟩
theorem byte_bad (r:Nat) (a:Option Addr) (cap i:Nat) (l:List UInt8) (w:World) (h:Rd w r a l.length cap i true) (hn:l.length≤1099511627776) (hi:i=l.length):
 Calls Tryz.prog 108 #[.pointer (some ⟨r,0,none⟩)] w fun e w' =>e= .panicked (broken r 5)∧Fr nob w w' :=by
 have hlv:=live_any r a l.length cap i true w h
 have hlf:=left_any r a l.length cap i w h hn (by omega)
 have hd:decide ((l.length:Int) - i>0)=false:=by simp;omega
 have H:=Lib.hid h
 have hi' :(l.length:Int) - i=0:=by omega
 rw[hi'] at hlf
 clear h hi hi' hd
 go_enter Tryz.func108,Tryz.ntmps108
 go_wp2_with fail
 refine hlv.mono ?_
 rintro e w0 ⟨rfl,rfl⟩
 go_wp2_with fail
 refine hlf.mono ?_
 rintro e w1 ⟨rfl,hf1⟩
 have H1:Hid (Rd w1 r a l.length cap i true):=Lib.hid (H.out.fr hf1 id)
 go_wp2_with fail
 refine (must_bad r _ _ _ _ 5 w1 H1.out (by omega) (by omega)).mono ?_
 rintro e w2 ⟨rfl,rfl⟩
 go_wp2_with fail
 exact ⟨rfl,rfl,hf1⟩
theorem getUv_lt {l:List UInt8}:(getUv 0 0 l).1<18446744073709551616:=by
 rcases getUv_err l 0 0 with h | h
 · have:=(@getUv_iff l (getUv 0 0 l).1 (getUv 0 0 l).2.1).1 (Prod.ext rfl (Prod.ext rfl h))
   exact this.1
 · rw[h.1];omega
theorem getUv_n {l:List UInt8}:(getUv 0 0 l).2.1≤l.length:=by
 rcases getUv_err l 0 0 with h | h
 · obtain ⟨_,h2,r,h3⟩:=(@getUv_iff l (getUv 0 0 l).1 (getUv 0 0 l).2.1).1 (Prod.ext rfl (Prod.ext rfl h))
   have:=congrArg List.length h3
   simp at this
   omega
 · rw[h.2.1];omega
set_option maxRecDepth 100000 in
set_option maxHeartbeats 1000000 in
theorem uint_ok (S:Nat→Prop) (r:Nat) (a:Option Addr) (cap i:Nat) (l:List UInt8) (most z k:Nat) (w:World) (h:Rd w r a l.length cap i true) (hb:BV S w a cap l) (hn:l.length≤1099511627776) (hi:i≤l.length) (hm:most<18446744073709551616)
 (hg:getUv 0 0 (l.drop i)=(z,k,0)) (hz:z≤most):
 Calls Tryz.prog 109 #[.pointer (some ⟨r,0,none⟩), .int .u64 most] w fun e w' =>e= .returned (.int .u64 z)∧Fr (fun x=>x=r) w w' ∧Rd w' r a l.length cap (i+k) true:=by
 have hlv:=live_any r a l.length cap i true w h
 obtain ⟨a',qs,hbs,_⟩:=sub_from hb .i64 (i:Int) i rfl hi
 have hlen:(l.drop i).length=l.length - i:=by simp
 obtain ⟨d,hd⟩:∃d,d=l.drop i:=⟨_,rfl⟩
 rw[←hd] at qs hbs hg hlen
 have hk:k≤d.length:=by have:=@getUv_n d;rw[hg] at this;exact this
 have H:=Lib.hid h
 have HB:=Lib.hid hbs
 have HG:=Lib.hid hg
 have hik:i+k≤l.length:=by omega
 have hdl:d.length≤1099511627776:=by omega
 have k0:=h.c0
 have k1:=h.c1
 have q0:∀x,Fr nob w x→x.cell? ⟨r,0,none⟩=some (.slice a l.length cap):=fun x hx=>hx.cell k0 id
 have q1:∀x,Fr nob w x→x.cell? ⟨r,1,none⟩=some (.int .i64 i):=fun x hx=>hx.cell k1 id
 clear k0 k1 h hb hbs hg hlen hk hd
 go_enter Tryz.func109,Tryz.ntmps109
 go_wp2_with fail
 refine hlv.mono ?_
 rintro e w0 ⟨rfl,rfl⟩
 clear hlv
 go_wp2_with fail
 refine wp_region_ord [(0,true),(1,true),(2,true),(3,true),(4,true),(5,true),(6,true),(7,true),(8,true),(9,false),(10,true),(11,true),(12,true),(13,true),(14,true),(15,true),(16,true)] (Fr nob w0) rfl (by kernel_rfl) (by kernel_rfl) (by decide) (fun c a d v w h=>by cases d<;>exact h) ((Fr.refl nob w0).drew) (fun ops hops hS=>?_)
 repeat (apply oF hops (by rfl) (by first | exact .plain rfl | exact .y hops rfl rfl rfl rfl);(focus (intro x hx;go_simp;rfl));go_simp)
 refine oA hops (by rfl) (by first | exact .plain rfl | exact .y hops rfl rfl rfl rfl) (fun K hK=>?_)
 go_wp2_with fail
 refine (getuint_any _ _ _ _ d (HB.out.frN (Fr.refl nob w0).drew) hdl).mono ?_
 rintro e w1 ⟨rfl,rfl⟩
 rw[HG.out]
 refine hK _ _ ⟨_,fun _ h=>h,?_,?_⟩
 · exact (Fr.refl nob w0).drew
 repeat (apply oF hops (by rfl) (by first | exact .plain rfl | exact .y hops rfl rfl rfl rfl);(focus (intro x hx;go_simp;rfl));go_simp)
 apply wpOrd_nil
 go_wp2_with fail
 refine (take_ok r _ _ _ i k _ (H.out.fr (Fr.refl nob w0).drew id) hn hik).mono ?_
 rintro e w3 ⟨rfl,hf3,H3⟩
 go_wp2_with fail
 go_ret
 exact ⟨rfl,(Fr.refl _ w0).drew.trans hf3 (fun _ _ h=>h),H3⟩
set_option maxRecDepth 100000 in
set_option maxHeartbeats 1000000 in
theorem uint_over (S:Nat→Prop) (r:Nat) (a:Option Addr) (cap i:Nat) (l:List UInt8) (most z k:Nat) (w:World) (h:Rd w r a l.length cap i true) (hb:BV S w a cap l) (hn:l.length≤1099511627776) (hi:i≤l.length) (hm:most<18446744073709551616)
 (hg:getUv 0 0 (l.drop i)=(z,k,0)) (hz:most<z):
 Calls Tryz.prog 109 #[.pointer (some ⟨r,0,none⟩), .int .u64 most] w fun e w' =>e= .panicked (broken r 3)∧Fr nob w w' :=by
 have hlv:=live_any r a l.length cap i true w h
 obtain ⟨a',qs,hbs,_⟩:=sub_from hb .i64 (i:Int) i rfl hi
 have hlen:(l.drop i).length=l.length - i:=by simp
 obtain ⟨d,hd⟩:∃d,d=l.drop i:=⟨_,rfl⟩
 rw[←hd] at qs hbs hg hlen
 have hk:k≤d.length:=by have:=@getUv_n d;rw[hg] at this;exact this
 have H:=Lib.hid h
 have HB:=Lib.hid hbs
 have HG:=Lib.hid hg
 have hdl:d.length≤1099511627776:=by omega
 have k0:=h.c0
 have k1:=h.c1
 have q0:∀x,Fr nob w x→x.cell? ⟨r,0,none⟩=some (.slice a l.length cap):=fun x hx=>hx.cell k0 id
 have q1:∀x,Fr nob w x→x.cell? ⟨r,1,none⟩=some (.int .i64 i):=fun x hx=>hx.cell k1 id
 clear k0 k1 h hb hbs hg hlen hk hd
 go_enter Tryz.func109,Tryz.ntmps109
 go_wp2_with fail
 refine hlv.mono ?_
 rintro e w0 ⟨rfl,rfl⟩
 clear hlv
 go_wp2_with fail
 refine wp_region_ord [(0,true),(1,true),(2,true),(3,true),(4,true),(5,true),(6,true),(7,true),(8,true),(9,false),(10,true),(11,true),(12,true),(13,true),(14,true),(15,true),(16,true)] (Fr nob w0) rfl (by kernel_rfl) (by kernel_rfl) (by decide) (fun c a d v w h=>by cases d<;>exact h) ((Fr.refl nob w0).drew) (fun ops hops hS=>?_)
 repeat (apply oF hops (by rfl) (by first | exact .plain rfl | exact .y hops rfl rfl rfl rfl);(focus (intro x hx;go_simp;rfl));go_simp)
 refine oA hops (by rfl) (by first | exact .plain rfl | exact .y hops rfl rfl rfl rfl) (fun K hK=>?_)
 go_wp2_with fail
 refine (getuint_any _ _ _ _ d (HB.out.frN (Fr.refl nob w0).drew) hdl).mono ?_
 rintro e w1 ⟨rfl,rfl⟩
 rw[HG.out]
 refine hK _ _ ⟨_,fun _ h=>h,?_,?_⟩
 · exact (Fr.refl nob w0).drew
 repeat (apply oF hops (by rfl) (by first | exact .plain rfl | exact .y hops rfl rfl rfl rfl);(focus (intro x hx;go_simp;rfl));go_simp)
 apply wpOrd_nil
 go_wp2_with fail
 refine (take_bad r _ _ _ i k 3 _ (H.out.fr (Fr.refl nob w0).drew id) (by omega) (by omega)).mono ?_
 rintro e w3 ⟨rfl,rfl⟩
 go_wp2_with fail
 exact ⟨rfl,rfl,(Fr.refl nob w0).drew⟩
set_option maxRecDepth 100000 in
set_option maxHeartbeats 1000000 in
theorem uint_bad (S:Nat→Prop) (r:Nat) (a:Option Addr) (cap i:Nat) (l:List UInt8) (most z k:Nat) (w:World) (h:Rd w r a l.length cap i true) (hb:BV S w a cap l) (hn:l.length≤1099511627776) (hi:i≤l.length) (hm:most<18446744073709551616)
 (e0:Nat) (hg:getUv 0 0 (l.drop i)=(z,k,e0)) (he:e0≠0) (he2:e0<256):
 Calls Tryz.prog 109 #[.pointer (some ⟨r,0,none⟩), .int .u64 most] w fun e w' =>e= .panicked (broken r e0)∧Fr nob w w' :=by
 have hlv:=live_any r a l.length cap i true w h
 obtain ⟨a',qs,hbs,_⟩:=sub_from hb .i64 (i:Int) i rfl hi
 have hlen:(l.drop i).length=l.length - i:=by simp
 obtain ⟨d,hd⟩:∃d,d=l.drop i:=⟨_,rfl⟩
 rw[←hd] at qs hbs hg hlen
 have hk:k≤d.length:=by have:=@getUv_n d;rw[hg] at this;exact this
 have H:=Lib.hid h
 have HB:=Lib.hid hbs
 have HG:=Lib.hid hg
 have hde:((e0:Int) == 0)=false:=by simp;omega
 have hdl:d.length≤1099511627776:=by omega
 have k0:=h.c0
 have k1:=h.c1
 have q0:∀x,Fr nob w x→x.cell? ⟨r,0,none⟩=some (.slice a l.length cap):=fun x hx=>hx.cell k0 id
 have q1:∀x,Fr nob w x→x.cell? ⟨r,1,none⟩=some (.int .i64 i):=fun x hx=>hx.cell k1 id
 clear k0 k1 h hb hbs hg hlen hk hd
 go_enter Tryz.func109,Tryz.ntmps109
 go_wp2_with fail
 refine hlv.mono ?_
 rintro e w0 ⟨rfl,rfl⟩
 clear hlv
 go_wp2_with fail
 refine wp_region_ord [(0,true),(1,true),(2,true),(3,true),(4,true),(5,true),(6,true),(7,true),(8,true),(9,false),(10,true),(11,true),(12,true),(13,true),(14,true),(15,true),(16,true)] (Fr nob w0) rfl (by kernel_rfl) (by kernel_rfl) (by decide) (fun c a d v w h=>by cases d<;>exact h) ((Fr.refl nob w0).drew) (fun ops hops hS=>?_)
 repeat (apply oF hops (by rfl) (by first | exact .plain rfl | exact .y hops rfl rfl rfl rfl);(focus (intro x hx;go_simp;rfl));go_simp)
 refine oA hops (by rfl) (by first | exact .plain rfl | exact .y hops rfl rfl rfl rfl) (fun K hK=>?_)
 go_wp2_with fail
 refine (getuint_any _ _ _ _ d (HB.out.frN (Fr.refl nob w0).drew) hdl).mono ?_
 rintro e w1 ⟨rfl,rfl⟩
 rw[HG.out]
 refine hK _ _ ⟨_,fun _ h=>h,?_,?_⟩
 · exact (Fr.refl nob w0).drew
 repeat (apply oF hops (by rfl) (by first | exact .plain rfl | exact .y hops rfl rfl rfl rfl);(focus (intro x hx;go_simp;rfl));go_simp)
 apply wpOrd_nil
 go_wp2_with fail
 refine (take_bad r _ _ _ i k e0 _ (H.out.fr (Fr.refl nob w0).drew id) (by omega) (by omega)).mono ?_
 rintro e w3 ⟨rfl,rfl⟩
 go_wp2_with fail
 exact ⟨rfl,rfl,(Fr.refl nob w0).drew⟩
theorem eqIn_self (d:Nat) (p:Addr) (w:World):(Op.equalIn (d+1) 178 (.pointer (some p)) (.pointer (some p))).run Tryz.prog w= .ok true w:=by
 simp[Op.equalIn,run_underlying Tryz.underlying178,sameAddr]
theorem neq_self (p:Addr) (w:World):(binOp .neq 178 (.pointer (some p)) (.pointer (some p))).run Tryz.prog w= .ok (.bool false) w:=by
 have h:(Op.equal 178 (.pointer (some p)) (.pointer (some p))).run Tryz.prog w= .ok true w:=eqIn_self 9999 p w
 simp only[binOp]
 simp[h]
theorem wp_hiddenP {P:Program} {c:Code} {Q:Exit→Act→World→Prop} {a:Act} {w:World} (hP:∀c a d v w,Q (.panic c) (Act.put a d v) w→Q (.panic c) a w)
 (h:∀Q' :Exit→Act→World→Prop,(∀e a w,Q e a w→Q' e a w)→(∀c a d v w,Q' (.panic c) (Act.put a d v) w→Q' (.panic c) a w)→c.wp P Q' a w):c.wp P Q a w:=h Q (fun _ _ _ h=>h) hP
theorem wp_hidden {P:Program} {c:Code} {Q:Exit→Act→World→Prop} {a:Act} {w:World} (h:∀Q' :Exit→Act→World→Prop,(∀e a w,Q e a w→Q' e a w)→c.wp P Q' a w):c.wp P Q a w:=h Q (fun _ _ _ h=>h)
set_option maxRecDepth 100000 in
set_option maxHeartbeats 1000000 in
theorem runD_idle (r p6 b4 b5:Nat) (a:Option Addr) (n cap i:Nat) (w:World) (h:Rd w r a n cap i true) (h6:w.heap[p6]? =some (.cells #[.pointer (some ⟨r,0,none⟩)] 178 (0,0))):
 CallsD Tryz.prog 136 #[.pointer (some ⟨p6,0,none⟩), .pointer (some ⟨b4,0,none⟩), .pointer (some ⟨b5,0,none⟩)] .returning w fun e u' w' =>
  e= .returned (.tuple #[])∧u' = .returning∧w' =w.setCell ⟨r,2,none⟩ (.bool false):=by
 have k6:=cell_of h6 0
 simp at k6
 have k2:=h.c2
 have z2:=frozen_of h 2
 clear h h6
 refine callsD_of_wpS Tryz.func136 rfl fun c₀ cs hu=>?_
 simp only[Tryz.ntmps136,List.size_toArray,List.length_cons,List.length_nil,Nat.reduceAdd,Nat.reduceSub,Array.replicate_succ,Array.replicate_zero,List.push_toArray,List.append_toArray,List.nil_append,List.cons_append]
 apply wpS_seq
 apply wpS_region
 simp[wpOpsS,go_sem,Exit.thenS,k6,k2,z2]
 apply wpS_seq
 apply wpS_region
 simp[wpOpsS,go_sem,recoverD,hu,Exit.thenS]
 refine wpS_of_wp ?_
 have hq:∀w,(binOp .eql 20 .nilIface .nilIface).run Tryz.prog w= .ok (.bool true) w:=fun w=>by rfl
 refine wp_hidden (fun Q' hQ=>?_)
 have HQ:=Lib.hid hQ
 clear hQ
 go_wp2_with fail
 refine HQ.out _ _ _ ?_
 clear HQ
 cases c₀
 simp_all [bodyPostS,results,Tryz.results136]
set_option maxRecDepth 100000 in
set_option maxHeartbeats 1000000 in
theorem runD_panic (r p6 b4 b5 err x4 x5:Nat) (a:Option Addr) (n cap i:Nat) (older:List PanicEntry) (w:World) (h:Rd w r a n cap i true) (h6:w.heap[p6]? =some (.cells #[.pointer (some ⟨r,0,none⟩)] 178 (0,0)))
 (h4:w.heap[b4]? =some (.cells #[.int .i64 x4] 3 (0,0))) (h5:w.heap[b5]? =some (.cells #[.int .i64 x5] 28 (0,0))) (n46:b4≠p6) (n4r:b4≠r) (n5r:b5≠r) (n45:b4≠b5) (n6r:p6≠r):
 CallsD Tryz.prog 136 #[.pointer (some ⟨p6,0,none⟩), .pointer (some ⟨b4,0,none⟩), .pointer (some ⟨b5,0,none⟩)] (.panicking (broken r err++older)) w fun e u' w' =>
  e= .returned (.tuple #[])∧u' = .panicking ({v:= .iface 211 (.agg #[.pointer (some ⟨r,0,none⟩), .int .i64 err]),recovered:=true}::older)∧Fr (fun x=>x=r∨x=b4∨x=b5) w w' ∧
  w'.heap[b4]? =some (.cells #[.int .i64 i] 3 (0,0))∧w'.heap[b5]? =some (.cells #[.int .i64 err] 28 (0,0)):=by
 have k6:=cell_of h6 0
 simp at k6
 have k2:=h.c2
 have z2:=frozen_of h 2
 have H:=Lib.hid h
 have H4:=Lib.hid h4
 have H5:=Lib.hid h5
 have H6:=Lib.hid h6
 clear h h6 h4 h5
 refine callsD_of_wpS Tryz.func136 rfl fun c₀ cs hu=>?_
 simp only[Tryz.ntmps136,List.size_toArray,List.length_cons,List.length_nil,Nat.reduceAdd,Nat.reduceSub,Array.replicate_succ,Array.replicate_zero,List.push_toArray,List.append_toArray,List.nil_append,List.cons_append]
 apply wpS_seq
 apply wpS_region
 simp[wpOpsS,go_sem,Exit.thenS,k6,k2,z2]
 apply wpS_seq
 apply wpS_region
 simp[wpOpsS,go_sem,recoverD,hu,Exit.thenS,broken]
 refine wpS_of_wp ?_
 obtain ⟨w1,hw1⟩:∃w1,w1=w.setCell ⟨r,2,none⟩ (.bool false):=⟨_,rfl⟩
 have hf1:Fr (fun x=>x=r∨x=b4∨x=b5) w w1:=hw1 ▸ (Fr.refl _ w).setCell (Or.inl (Or.inl rfl)) _
 have e6:w1.heap[p6]? =some (.cells #[.pointer (some ⟨r,0,none⟩)] 178 (0,0)):=by
  rw[hw1];exact heap_set_other H6.out n6r 2 _
 have e4:w1.heap[b4]? =some (.cells #[.int .i64 x4] 3 (0,0)):=by rw[hw1];exact heap_set_other H4.out n4r 2 _
 have e5:w1.heap[b5]? =some (.cells #[.int .i64 x5] 28 (0,0)):=by rw[hw1];exact heap_set_other H5.out n5r 2 _
 have er:Rd w1 r a n cap i false:=by
  have:=heap_set H.out 2 (.bool false)
  rw[hw1];simpa [Rd] using this
 rw[←hw1]
 have HW:=Lib.hid hw1
 clear hw1 k6 k2 z2
 have hq:∀w v,(binOp .eql 20 (.iface 211 v) .nilIface).run Tryz.prog w= .ok (.bool false) w:=fun w v=>by rfl
 have hta:∀w v,(Instr.typeAssert (.iface 211 v) 20 211 true).run Tryz.prog w= .ok (.tuple #[v, .bool true]) w:=fun w v=>by rfl
 refine wp_hiddenP (fun c a d v w h=>by cases d<;>exact h) (fun Q' hQ hP=>?_)
 have HQ:=Lib.hid hQ
 clear hQ
 have k6:=cell_of e6 0
 simp at k6
 have k1:=er.c1
 have hpn:=neq_self ⟨r,0,none⟩
 have l6:p6<w1.heap.size:=heap_lt e6
 have lr:r<w1.heap.size:=heap_lt er
 have d6:p6≠w1.heap.size:=by omega
 have dr:r≠w1.heap.size:=by omega
 have E4:=Lib.hid e4
 have E5:=Lib.hid e5
 clear e4 e5 er e6
 go_wp2_with fail
 have hB:=heap_new w1 (.cells #[.pointer (some ⟨r,0,none⟩), .int .i64 err] 211 (0,0))
 have hf2:=(Fr.refl nob w1).alloc (.cells #[.pointer (some ⟨r,0,none⟩), .int .i64 err] 211 (0,0))
 obtain ⟨B,hBB⟩:∃B,B=w1.heap.size:=⟨_,rfl⟩
 rw[←hBB] at hB
 obtain ⟨w2,hw2⟩:∃w2,w2=w1.alloc (.cells #[.pointer (some ⟨r,0,none⟩), .int .i64 err] 211 (0,0)):=⟨_,rfl⟩
 rw[←hw2] at hB hf2
 rw[←hBB,←hw2]
 have k6' :=hf2.cell k6 id
 have k1' :=hf2.cell k1 id
 have e4' :=hf2.heap E4.out id
 have e5' :=hf2.heap E5.out id
 have kB:=cell_of hB 1
 simp at kB
 have l4:=heap_lt E4.out
 have q6:∀x,Fr (fun k=>k=b4) w2 x→x.cell? ⟨p6,0,none⟩=some (.pointer (some ⟨r,0,none⟩)):=fun x hx=>hx.cell k6' (fun e=>n46 e.symm)
 have q1:∀x,Fr (fun k=>k=b4) w2 x→x.cell? ⟨r,1,none⟩=some (.int .i64 i):=fun x hx=>hx.cell k1' (fun e=>n4r e.symm)
 have qB:∀x,Fr (fun k=>k=b4) w2 x→x.cell? ⟨B,1,none⟩=some (.int .i64 err):=fun x hx=>hx.cell kB (fun e=>by simp at e;omega)
 have k4:=cell_of e4' 0
 simp at k4
 have z4:=frozen_of e4' 0
 clear hw2 hBB hB k6 k1 k6' k1' kB d6 dr l6 lr
 refine wp_region_ord2 7 [(0,true),(1,true),(2,true),(3,true),(4,true),(5,true),(6,false)] [(7,false)] (Fr (fun k=>k=b4) w2) rfl (by kernel_rfl) (by kernel_rfl) (by kernel_rfl) (by decide) (fun c a d v w h=>hP c a d v w h) (Fr.refl _ w2).drew (fun ops hops hS=>?_)
 repeat (apply wpOrdB_free _ _ (by rw[hops.out];rfl) (by first | exact Wants.plain rfl | exact Wants.yes rfl (by rw[hops.out];rfl) rfl rfl);(focus (intro x hx;go_simp;rfl));go_simp)
 refine wpOrdB_act _ (by rw[hops.out];rfl) (by first | exact Wants.plain rfl | exact Wants.yes rfl (by rw[hops.out];rfl) rfl rfl) (fun K hK=>?_)
 go_wp2_with fail
 have f3:Fr (fun k=>k=b4) w2 (w2.drew.setCell ⟨b4,0,none⟩ (.int .i64 i)):=(Fr.refl _ w2).drew.set1 0 _
 have g4:(w2.drew.setCell ⟨b4,0,none⟩ (.int .i64 i)).heap[b4]? =some (.cells #[.int .i64 i] 3 (0,0)):=by
  have:=heap_set (w:=w2.drew) (d:=b4) e4' 0 (.int .i64 i)
  simpa using this
 have g5:=f3.heap e5' (fun e=>n45 e.symm)
 obtain ⟨w3,hw3⟩:∃w3,w3=w2.drew.setCell ⟨b4,0,none⟩ (.int .i64 i):=⟨_,rfl⟩
 refine ⟨_,fun _ h=>h,f3,?_⟩
 rw[←hw3] at f3 g4 g5
 have hw3' :(w2.setCell ⟨b4,0,none⟩ (.int .i64 i)).drew=w3:=by rw[hw3];rfl
 rw[hw3']
 clear hw3 hw3' hS
 have k5:=cell_of g5 0
 simp at k5
 have z5:=frozen_of g5 0
 refine wpOrdB_nil (fun _=>True) trivial ?_
 repeat (apply oF hops (by rfl) (by first | exact .plain rfl | exact .y hops rfl rfl rfl rfl);(focus (intro x hx;go_simp;rfl));go_simp)
 refine oA hops (by rfl) (by first | exact .plain rfl | exact .y hops rfl rfl rfl rfl) (fun K hK=>?_)
 go_wp2_with fail
 refine ⟨_,fun _ h=>h,trivial,wpOrd_nil ?_⟩
 refine HQ.out _ _ _ ?_
 have f4:Fr (fun x=>x=r∨x=b4∨x=b5) w (w3.setCell ⟨b5,0,none⟩ (.int .i64 err)):=
  (((hf1.andN hf2).trans f3 (fun k _ h=>Or.inr (Or.inl h))).trans ((Fr.self b5 w3).set1 0 _) (fun k _ h=>Or.inr (Or.inr h)))
 have r4:=heap_set_other (d:=b5) g4 n45 0 (.int .i64 err)
 have r5:(w3.setCell ⟨b5,0,none⟩ (.int .i64 err)).heap[b5]? =some (.cells #[.int .i64 err] 28 (0,0)):=by
  have:=heap_set g5 0 (.int .i64 err)
  simpa using this
 clear HQ
 cases c₀
 refine ⟨rfl,_,rfl, .tuple #[],results_none rfl _ _ _,rfl,rfl,f4,r4,r5⟩
def noP (Q:Exit→Act→World→Prop):Exit→Act→World→Prop:=fun e a w=>match e with
 | .panic _=>False
 | e=>Q e a w
theorem noP_normal {Q:Exit→Act→World→Prop} {a:Act} {w:World} (h:Q .normal a w):noP Q .normal a w:=h
theorem wp_noP {P:Program} {c:Code} {Q:Exit→Act→World→Prop} {a:Act} {w:World} (h:c.wp P (noP Q) a w):c.wp P Q a w:=
 wp_mono h (fun e a w h=>by cases e<;>first | exact h | exact h.elim)
theorem allocs4 (w:World) (A B C D:Obj):let w1:=(((w.alloc A).alloc B).alloc C).alloc D
 w1.heap[w.heap.size]? =some A∧w1.heap[w.heap.size+1]? =some B∧w1.heap[w.heap.size+1+1]? =some C∧w1.heap[w.heap.size+1+1+1]? =some D∧Fr nob w w1:=by
 refine ⟨heap_old (heap_old (heap_old (heap_new w A) B) C) D,?_,?_,?_,(((Fr.refl nob w).alloc A).alloc B).alloc C |>.alloc D⟩
 · have:=heap_new (w.alloc A) B
   rw[show (w.alloc A).heap.size=w.heap.size+1 by simp] at this
   exact heap_old (heap_old this C) D
 · have:=heap_new ((w.alloc A).alloc B) C
   rw[show ((w.alloc A).alloc B).heap.size=w.heap.size+1+1 by simp] at this
   exact heap_old this D
 · have:=heap_new (((w.alloc A).alloc B).alloc C) D
   rw[show (((w.alloc A).alloc B).alloc C).heap.size=w.heap.size+1+1+1 by simp] at this
   exact this
def RunPost (T:Nat→Prop) (w:World) (n:Nat) (Good Bad:Nat→World→Prop) (e:Ending) (w' :World):Prop:=
 ∃(i err:Nat) (w2:World),e= .returned (.tuple #[.int .i64 i, .int .i64 err])∧Fr T w w' ∧(∀k,k<w.heap.size→w'.heap[k]? =w2.heap[k]?)∧
  ((i≤n∧Good i w2∧err=(if i<n then 7 else 0))∨(err≠0∧Bad err w2))
def runb (w:World):Nat→Prop:=fun k=>w.heap.size≤k∧k<w.heap.size+4
def RunPostI (T:Nat→Prop) (w:World) (n:Nat) (Good:Nat→World→Prop) (Bad:Nat→Nat→World→Prop) (e:Ending) (w' :World):Prop:=
 ∃(i err:Nat) (w2:World),e= .returned (.tuple #[.int .i64 i, .int .i64 err])∧Fr T w w' ∧((∀k,k<w.heap.size→w'.heap[k]? =w2.heap[k]?)∧Fr (runb w) w2 w')∧
  ((i≤n∧Good i w2∧err=(if i<n then 7 else 0))∨(err≠0∧Bad i err w2))
set_option maxRecDepth 100000 in
set_option maxHeartbeats 1000000 in
theorem run_anyI (F:FuncId) (caps:Array Value) (T S:Nat→Prop) (w:World) (a:Option Addr) (cap:Nat) (l:List UInt8) (h:BV S w a cap l) (hl:l.length≤1099511627776)
 (hF:∀args w,(callFunc F args).run Tryz.prog w= .ok (.enter F args) w)
 (Good:Nat→World→Prop) (Bad:Nat→Nat→World→Prop)
 (hT:∀k,T k→k<w.heap.size)
 (B:∀r w1,Fr nob w w1→w.heap.size≤r→w1.heap.size=w.heap.size+4→Rd w1 r a l.length cap 0 true→Calls Tryz.prog F (#[.pointer (some ⟨r,0,none⟩)]++caps) w1 (fun e w2=>Fr (fun x=>x=r∨T x) w1 w2∧
  ((e= .returned (.tuple #[])∧∃i,i≤l.length∧Rd w2 r a l.length cap i true∧Good i w2)∨(∃err i,err≠0∧err<256∧e= .panicked (broken r err)∧Rd w2 r a l.length cap i true∧Bad i err w2)))):
 Calls Tryz.prog 105 #[.slice a l.length cap, .func (.func F) #[] caps] w (RunPostI T w l.length Good Bad):=by
 have hmf:∀(fn:Fn) (first cap:Array Value) (w:World),(Instr.makeFunc fn first cap).run Tryz.prog w= .ok (.func fn first cap) w:=fun _ _ _ _=>rfl
 have hne:∀w,(binOp .eql 182 (.func (.func F) #[] caps) .nilFunc).run Tryz.prog w= .ok (.bool false) w:=fun w=>by rfl
 go_enter_defers Tryz.func105,Tryz.ntmps105
 go_wp2_with fail
 obtain ⟨h4,h5,hr,h6,hf1⟩:=allocs4 w (.cells #[.int .i64 0] 3 (0,0)) (.cells #[.int .i64 0] 28 (0,0)) (.cells #[.slice a l.length cap, .int .i64 0, .bool true] 209 (0,0)) (.cells #[.pointer (some ⟨w.heap.size+1+1,0,none⟩)] 178 (0,0))
 obtain ⟨w1,hw1⟩:∃w1,w1=(((w.alloc (.cells #[.int .i64 0] 3 (0,0))).alloc (.cells #[.int .i64 0] 28 (0,0))).alloc (.cells #[.slice a l.length cap, .int .i64 0, .bool true] 209 (0,0))).alloc (.cells #[.pointer (some ⟨w.heap.size+1+1,0,none⟩)] 178 (0,0)):=⟨_,rfl⟩
 rw[←hw1] at h4 h5 hr h6 hf1
 have hs1:w1.heap.size=w.heap.size+4:=by rw[hw1];simp
 rw[←hw1]
 obtain ⟨z,hz⟩:∃z,z=w.heap.size:=⟨_,rfl⟩
 rw[←hz] at h4 h5 hr h6 ⊢
 have HZ:=Lib.hid hz
 clear hz hw1
 have fo:∀{x:Nat} {a b:World},Fr (fun k=>k=x) a b→z≤x→x<z+4→Fr (runb w) a b:=fun h h1 h2=>h.mono (fun k _ e=>by subst e;have:=HZ.out;unfold runb;omega)
 have hT' :∀k,z≤k→¬T k:=fun k hk hk' =>by have:=hT k hk';have:=HZ.out;omega
 refine (B (z+1+1) w1 hf1 (by have:=HZ.out;omega) hs1 hr).mono ?_
 rintro e w2 ⟨hf2,hh⟩
 have h4:w2.heap[z]? =some (.cells #[.int .i64 0] 3 (0,0)):=hf2.heap h4 (fun h=>by rcases h with h | h;omega;exact hT' _ (by omega) h)
 have h5:w2.heap[z+1]? =some (.cells #[.int .i64 0] 28 (0,0)):=hf2.heap h5 (fun h=>by rcases h with h | h;omega;exact hT' _ (by omega) h)
 have h6:w2.heap[z+1+1+1]? =some (.cells #[.pointer (some ⟨z+1+1,0,none⟩)] 178 (0,0)):=hf2.heap h6 (fun h=>by rcases h with h | h;omega;exact hT' _ (by omega) h)
 have hfT:Fr T w w2:=hf1.mono (fun _ _ h=>h.elim) |>.trans hf2 (fun k hk h=>by rcases h with h | h;(have:=HZ.out;omega);exact h)
 clear hf1 hf2 B hr hs1
 rcases hh with ⟨rfl,i,hi,hr,hgood⟩ | ⟨err,i,he,he2,rfl,hr,hbad⟩
 · have Hr:=Lib.hid hr
   have H4:=Lib.hid h4
   have H5:=Lib.hid h5
   have H6:=Lib.hid h6
   have k1:=hr.c1
   have k6:=cell_of h6 0
   have k5:=cell_of h5 0
   have z5:=frozen_of h5 0
   simp at k6 k5
   clear h4 h5 h6 hr
   by_cases hlt:i<l.length
   · go_wp2_with fail
     clear k1 k6 k5 z5
     have f2:=(Fr.self (z+1) w2).set1 0 (.int .i64 7)
     have H5:Hid ((w2.setCell ⟨z+1,0,none⟩ (.int .i64 7)).heap[z+1]? =some (.cells #[.int .i64 7] 28 (0,0))):=Lib.hid (by
      have:=heap_set H5.out 0 (.int .i64 7)
      simpa using this)
     have H4:=Lib.hid (f2.heap H4.out (fun e=>by omega))
     have H6:=Lib.hid (f2.heap H6.out (fun e=>by omega))
     have Hr:Hid (Rd _ _ _ _ _ _ _):=Lib.hid (f2.heap Hr.out (fun e=>by omega))
     obtain ⟨wx,hwx⟩:∃wx,wx=w2.setCell ⟨z+1,0,none⟩ (.int .i64 7):=⟨_,rfl⟩
     rw[←hwx] at f2 H4 H5 H6 Hr
     rw[←hwx]
     clear hwx
     have k1:=Hr.out.c1
     have k6:=cell_of H6.out 0
     have k5:=cell_of H5.out 0
     have k4:=cell_of H4.out 0
     have z4:=frozen_of H4.out 0
     simp at k6 k5 k4
     have q6:∀x,Fr (fun k=>k=z) wx x→x.cell? ⟨z+1+1+1,0,none⟩=some (.pointer (some ⟨z+1+1,0,none⟩)):=fun x hx=>hx.cell k6 (fun e=>by simp at e;omega)
     have q1:∀x,Fr (fun k=>k=z) wx x→x.cell? ⟨z+1+1,1,none⟩=some (.int .i64 i):=fun x hx=>hx.cell k1 (fun e=>by simp at e;omega)
     have q5:∀x,Fr (fun k=>k=z) wx x→x.cell? ⟨z+1,0,none⟩=some (.int .i64 7):=fun x hx=>hx.cell k5 (fun e=>by simp at e)
     clear k1 k6 k5
     refine wp_noP ?_
     refine wp_region_ord2 6 [(0,true),(1,true),(2,true),(3,true),(4,true),(5,false)] [(6,false)] (Fr (fun k=>k=z) wx) rfl (by kernel_rfl) (by kernel_rfl) (by kernel_rfl) (by decide) (fun c a d v w h=>h) (Fr.refl _ wx).drew (fun ops hops hS=>?_)
     repeat (apply wpOrdB_free _ _ (by rw[hops.out];rfl) (by first | exact Wants.plain rfl | exact Wants.yes rfl (by rw[hops.out];rfl) rfl rfl);(focus (intro x hx;go_simp;rfl));go_simp)
     refine wpOrdB_act _ (by rw[hops.out];rfl) (by first | exact Wants.plain rfl | exact Wants.yes rfl (by rw[hops.out];rfl) rfl rfl) (fun K hK=>?_)
     go_wp2_with fail
     have f3:Fr (fun k=>k=z) wx (wx.drew.setCell ⟨z,0,none⟩ (.int .i64 i)):=(Fr.refl _ wx).drew.set1 0 _
     have g4:(wx.drew.setCell ⟨z,0,none⟩ (.int .i64 i)).heap[z]? =some (.cells #[.int .i64 i] 3 (0,0)):=by
      have:=heap_set (w:=wx.drew) (d:=z) H4.out 0 (.int .i64 i)
      simpa using this
     obtain ⟨w3,hw3⟩:∃w3,w3=wx.drew.setCell ⟨z,0,none⟩ (.int .i64 i):=⟨_,rfl⟩
     refine ⟨_,fun _ h=>h,f3,?_⟩
     rw[←hw3] at f3 g4
     have hw3' :(wx.setCell ⟨z,0,none⟩ (.int .i64 i)).drew=w3:=by rw[hw3];rfl
     rw[hw3']
     clear hw3 hw3' hS k4 z4
     have g5:=f3.heap H5.out (fun e=>by omega)
     have g6:=f3.heap H6.out (fun e=>by omega)
     have gr:=f3.heap Hr.out (fun e=>by omega)
     have k5:=cell_of g5 0
     simp at k5
     have z5:=frozen_of g5 0
     refine wpOrdB_nil (fun _=>True) trivial ?_
     repeat (apply oF hops (by rfl) (by first | exact .plain rfl | exact .y hops rfl rfl rfl rfl);(focus (intro x hx;go_simp;rfl));go_simp)
     refine oA hops (by rfl) (by first | exact .plain rfl | exact .y hops rfl rfl rfl rfl) (fun K hK=>?_)
     go_wp2_with fail
     refine ⟨_,fun _ h=>h,trivial,wpOrd_nil ?_⟩
     refine noP_normal ?_
     have f4:=(Fr.self (z+1) w3).set1 0 (.int .i64 7)
     have r5:(w3.setCell ⟨z+1,0,none⟩ (.int .i64 7)).heap[z+1]? =some (.cells #[.int .i64 7] 28 (0,0)):=by
      have:=heap_set g5 0 (.int .i64 7)
      simpa using this
     have r4:=f4.heap g4 (fun e=>by omega)
     have r6:=f4.heap g6 (fun e=>by omega)
     have rr:=f4.heap gr (fun e=>by omega)
     obtain ⟨w4,hw4⟩:∃w4,w4=w3.setCell ⟨z+1,0,none⟩ (.int .i64 7):=⟨_,rfl⟩
     rw[←hw4] at f4 r4 r5 r6 rr
     rw[←hw4]
     clear hw4 k5 z5 g4 g5 g6 gr q6 q1 q5 hops ops
     go_wp2_with fail
     refine leaves_cons (f:=136) (args:=#[.pointer (some ⟨z+1+1+1,0,none⟩), .pointer (some ⟨z,0,none⟩), .pointer (some ⟨z+1,0,none⟩)]) (by simp) (by simp[go_sem]) ?_
     refine (runD_idle (z+1+1) (z+1+1+1) z (z+1) a l.length cap i w4 rr r6).mono ?_
     rintro e u' w5 ⟨rfl,rfl,rfl⟩
     have f5:=(Fr.self (z+1+1) w4).set1 2 (.bool false)
     have k4:=cell_of (f5.heap r4 (fun e=>by omega)) 0
     have k5:=cell_of (f5.heap r5 (fun e=>by omega)) 0
     simp at k4 k5
     simp[Leaves,settle,results,go_sem,Tryz.results105,k4,k5]
     refine ⟨i,7,w2,rfl,?_,?_,Or.inl ⟨hi,hgood,?_⟩⟩
     · exact (((hfT.trans f2 (fun k hk e=>absurd hk (by have:=HZ.out;omega))).trans f3 (fun k hk e=>absurd hk (by have:=HZ.out;omega))).trans f4 (fun k hk e=>absurd hk (by have:=HZ.out;omega))).trans f5 (fun k hk e=>absurd hk (by have:=HZ.out;omega))
     · refine ⟨?_,(((fo f2 (by omega) (by omega)).trans' (fo f3 (by omega) (by omega))).trans' (fo f4 (by omega) (by omega))).trans' (fo f5 (by omega) (by omega))⟩
       intro k hk
       have l2:=hfT.size
       have l3:=f3.size
       have l4:=f4.size
       have lx:=f2.size
       rw[f5.block k (by omega) (by have:=HZ.out;omega),f4.block k (by omega) (by have:=HZ.out;omega),f3.block k (by omega) (by have:=HZ.out;omega),f2.block k (by omega) (by have:=HZ.out;omega)]
     · rw[if_pos hlt]
   · go_wp2_with fail
     clear k1 k6 k5 z5
     have k1:=Hr.out.c1
     have k6:=cell_of H6.out 0
     have k5:=cell_of H5.out 0
     have k4:=cell_of H4.out 0
     have z4:=frozen_of H4.out 0
     simp at k6 k5 k4
     have q6:∀x,Fr (fun k=>k=z) w2 x→x.cell? ⟨z+1+1+1,0,none⟩=some (.pointer (some ⟨z+1+1,0,none⟩)):=fun x hx=>hx.cell k6 (fun e=>by simp at e;omega)
     have q1:∀x,Fr (fun k=>k=z) w2 x→x.cell? ⟨z+1+1,1,none⟩=some (.int .i64 i):=fun x hx=>hx.cell k1 (fun e=>by simp at e;omega)
     have q5:∀x,Fr (fun k=>k=z) w2 x→x.cell? ⟨z+1,0,none⟩=some (.int .i64 0):=fun x hx=>hx.cell k5 (fun e=>by simp at e)
     clear k1 k6 k5
     refine wp_noP ?_
     refine wp_region_ord2 6 [(0,true),(1,true),(2,true),(3,true),(4,true),(5,false)] [(6,false)] (Fr (fun k=>k=z) w2) rfl (by kernel_rfl) (by kernel_rfl) (by kernel_rfl) (by decide) (fun c a d v w h=>h) (Fr.refl _ w2).drew (fun ops hops hS=>?_)
     repeat (apply wpOrdB_free _ _ (by rw[hops.out];rfl) (by first | exact Wants.plain rfl | exact Wants.yes rfl (by rw[hops.out];rfl) rfl rfl);(focus (intro x hx;go_simp;rfl));go_simp)
     refine wpOrdB_act _ (by rw[hops.out];rfl) (by first | exact Wants.plain rfl | exact Wants.yes rfl (by rw[hops.out];rfl) rfl rfl) (fun K hK=>?_)
     go_wp2_with fail
     have f3:Fr (fun k=>k=z) w2 (w2.drew.setCell ⟨z,0,none⟩ (.int .i64 i)):=(Fr.refl _ w2).drew.set1 0 _
     have g4:(w2.drew.setCell ⟨z,0,none⟩ (.int .i64 i)).heap[z]? =some (.cells #[.int .i64 i] 3 (0,0)):=by
      have:=heap_set (w:=w2.drew) (d:=z) H4.out 0 (.int .i64 i)
      simpa using this
     obtain ⟨w3,hw3⟩:∃w3,w3=w2.drew.setCell ⟨z,0,none⟩ (.int .i64 i):=⟨_,rfl⟩
     refine ⟨_,fun _ h=>h,f3,?_⟩
     rw[←hw3] at f3 g4
     have hw3' :(w2.setCell ⟨z,0,none⟩ (.int .i64 i)).drew=w3:=by rw[hw3];rfl
     rw[hw3']
     clear hw3 hw3' hS k4 z4
     have g5:=f3.heap H5.out (fun e=>by omega)
     have g6:=f3.heap H6.out (fun e=>by omega)
     have gr:=f3.heap Hr.out (fun e=>by omega)
     have k5:=cell_of g5 0
     simp at k5
     have z5:=frozen_of g5 0
     refine wpOrdB_nil (fun _=>True) trivial ?_
     repeat (apply oF hops (by rfl) (by first | exact .plain rfl | exact .y hops rfl rfl rfl rfl);(focus (intro x hx;go_simp;rfl));go_simp)
     refine oA hops (by rfl) (by first | exact .plain rfl | exact .y hops rfl rfl rfl rfl) (fun K hK=>?_)
     go_wp2_with fail
     refine ⟨_,fun _ h=>h,trivial,wpOrd_nil ?_⟩
     refine noP_normal ?_
     have f4:=(Fr.self (z+1) w3).set1 0 (.int .i64 0)
     have r5:(w3.setCell ⟨z+1,0,none⟩ (.int .i64 0)).heap[z+1]? =some (.cells #[.int .i64 0] 28 (0,0)):=by
      have:=heap_set g5 0 (.int .i64 0)
      simpa using this
     have r4:=f4.heap g4 (fun e=>by omega)
     have r6:=f4.heap g6 (fun e=>by omega)
     have rr:=f4.heap gr (fun e=>by omega)
     obtain ⟨w4,hw4⟩:∃w4,w4=w3.setCell ⟨z+1,0,none⟩ (.int .i64 0):=⟨_,rfl⟩
     rw[←hw4] at f4 r4 r5 r6 rr
     rw[←hw4]
     clear hw4 k5 z5 g4 g5 g6 gr q6 q1 q5 hops ops
     go_wp2_with fail
     refine leaves_cons (f:=136) (args:=#[.pointer (some ⟨z+1+1+1,0,none⟩), .pointer (some ⟨z,0,none⟩), .pointer (some ⟨z+1,0,none⟩)]) (by simp) (by simp[go_sem]) ?_
     refine (runD_idle (z+1+1) (z+1+1+1) z (z+1) a l.length cap i w4 rr r6).mono ?_
     rintro e u' w5 ⟨rfl,rfl,rfl⟩
     have f5:=(Fr.self (z+1+1) w4).set1 2 (.bool false)
     have k4:=cell_of (f5.heap r4 (fun e=>by omega)) 0
     have k5:=cell_of (f5.heap r5 (fun e=>by omega)) 0
     simp at k4 k5
     simp[Leaves,settle,results,go_sem,Tryz.results105,k4,k5]
     refine ⟨i,0,w2,rfl,?_,?_,Or.inl ⟨hi,hgood,?_⟩⟩
     · exact (((hfT).trans f3 (fun k hk e=>absurd hk (by have:=HZ.out;omega))).trans f4 (fun k hk e=>absurd hk (by have:=HZ.out;omega))).trans f5 (fun k hk e=>absurd hk (by have:=HZ.out;omega))
     · refine ⟨?_,((fo f3 (by omega) (by omega)).trans' (fo f4 (by omega) (by omega))).trans' (fo f5 (by omega) (by omega))⟩
       intro k hk
       have l2:=hfT.size
       have l3:=f3.size
       have l4:=f4.size
       rw[f5.block k (by omega) (by have:=HZ.out;omega),f4.block k (by omega) (by have:=HZ.out;omega),f3.block k (by omega) (by have:=HZ.out;omega)]
     · rw[if_neg hlt]
 · refine leaves_cons (f:=136) (args:=#[.pointer (some ⟨z+1+1+1,0,none⟩), .pointer (some ⟨z,0,none⟩), .pointer (some ⟨z+1,0,none⟩)]) (by simp) (by simp[go_sem]) ?_
   refine (runD_panic (z+1+1) (z+1+1+1) z (z+1) err 0 0 a l.length cap i [] w2 hr h6 h4 h5 (by omega) (by omega) (by omega) (by omega) (by omega)).mono ?_
   rintro e u' w3 ⟨rfl,rfl,hf3,r4,r5⟩
   have k4:=cell_of r4 0
   have k5:=cell_of r5 0
   simp at k4 k5
   simp[Leaves,settle,results,go_sem,Tryz.results105,k4,k5]
   refine ⟨i,err,w2,rfl,hfT.trans hf3 (fun k hk e=>absurd hk (by have:=HZ.out;omega)),⟨?_,hf3.mono (fun k _ e=>by have:=HZ.out;unfold runb;omega)⟩,Or.inr ⟨he,hbad⟩⟩
   intro k hk
   have l2:=hfT.size
   exact hf3.block k (by omega) (by have:=HZ.out;omega)
theorem run_any (F:FuncId) (caps:Array Value) (T S:Nat→Prop) (w:World) (a:Option Addr) (cap:Nat) (l:List UInt8) (h:BV S w a cap l) (hl:l.length≤1099511627776)
 (hF:∀args w,(callFunc F args).run Tryz.prog w= .ok (.enter F args) w)
 (Good:Nat→World→Prop) (Bad:Nat→World→Prop)
 (hT:∀k,T k→k<w.heap.size)
 (B:∀r w1,Fr nob w w1→w.heap.size≤r→Rd w1 r a l.length cap 0 true→Calls Tryz.prog F (#[.pointer (some ⟨r,0,none⟩)]++caps) w1 (fun e w2=>Fr (fun x=>x=r∨T x) w1 w2∧
  ((e= .returned (.tuple #[])∧∃i,i≤l.length∧Rd w2 r a l.length cap i true∧Good i w2)∨(∃err i,err≠0∧err<256∧e= .panicked (broken r err)∧Rd w2 r a l.length cap i true∧Bad err w2)))):
 Calls Tryz.prog 105 #[.slice a l.length cap, .func (.func F) #[] caps] w (RunPost T w l.length Good Bad):=
 (run_anyI F caps T S w a cap l h hl hF Good (fun _=>Bad) hT (fun r w1 h1 h2 _ h3=>B r w1 h1 h2 h3)).mono (fun e w' ⟨i,err,w2,h1,h2,h3,h4⟩=>⟨i,err,w2,h1,h2,h3.1,h4⟩)
end Go.Proofs.YtibpkfnfcdbiiaaGreatDoor
