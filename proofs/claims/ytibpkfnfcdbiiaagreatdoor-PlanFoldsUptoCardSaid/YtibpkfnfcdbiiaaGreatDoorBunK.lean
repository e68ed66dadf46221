/- The sum of bytes, in plain numbers; that a step of it loses nothing. Contracts of the package crc. A number's bytes, in plain numbers: written, and read. Contracts of the package wire. Contract of wire.Uint: written out for each length. Contract of wire.Bytes; strings as bytes. -/
import Derived.WalkKit
import Derived.Test.YtibpkfnfcdbiiaaGreatDoorBunB
import Derived.Lib.Tables
import Derived.Lib.BitFns
import Derived.Laws.IdiomStrings
namespace Go.Proofs.YtibpkfnfcdbiiaaGreatDoor
set_option linter.unusedSimpArgs false
open Go.RowKit
set_option linter.unusedVariables false
theorem bits_xor32 (a b:Nat) (ha:a<4294967296) (hb:b<4294967296):bits BinOp.xor IntKind.u32 (a:Int) (b:Int)=((a ^^^ b:Nat):Int):=by
 have h:a ^^^ b<2 ^ 32:=Nat.xor_lt_two_pow (by omega) (by omega)
 simp only[bits]
 rw[show (BitVec.ofInt IntKind.u32.bits (a:Int) ^^^ BitVec.ofInt IntKind.u32.bits (b:Int)).toNat=a ^^^ b from by
  show (BitVec.ofInt 32 (a:Int) ^^^ BitVec.ofInt 32 (b:Int)).toNat=a ^^^ b
  simp only[BitVec.toNat_xor,BitVec.ofInt_natCast,BitVec.toNat_ofNat]
  rw[Nat.mod_eq_of_lt (by omega),Nat.mod_eq_of_lt (by omega)]]
 exact IntWalk.u32_in _ (by omega)
theorem bits_and32 (a b:Nat) (ha:a<4294967296) (hb:b<4294967296):bits BinOp.and IntKind.u32 (a:Int) (b:Int)=((a&&& b:Nat):Int):=by
 have h:a&&& b<2 ^ 32:=Nat.and_lt_two_pow _ (by omega)
 simp only[bits]
 rw[show (BitVec.ofInt IntKind.u32.bits (a:Int)&&& BitVec.ofInt IntKind.u32.bits (b:Int)).toNat=a&&& b from by
  show (BitVec.ofInt 32 (a:Int)&&& BitVec.ofInt 32 (b:Int)).toNat=a&&& b
  simp only[BitVec.toNat_and,BitVec.ofInt_natCast,BitVec.toNat_ofNat]
  rw[Nat.mod_eq_of_lt (by omega),Nat.mod_eq_of_lt (by omega)]]
 exact IntWalk.u32_in _ (by omega)
def crcBit (s:Nat):Nat:=(s / 2) ^^^ (if s%2=1 then 2197175160 else 0)
def crcBits:Nat→Nat→Nat
 | 0,s=>s
 | k+1,s=>crcBit (crcBits k s)
def crcStep (s c:Nat):Nat:=crcBits 8 (s ^^^ c)
def crcRun (s:Nat) (l:List UInt8):Nat:=l.foldl (fun s c=>crcStep s c.toNat) s
def crcSum (l:List UInt8):Nat:=4294967295 - crcRun 4294967295 l
theorem crcBit_lt {s:Nat} (h:s<4294967296):crcBit s<4294967296:=by
 unfold crcBit
 exact Nat.xor_lt_two_pow (n:=32) (by omega) (by split<;>omega)
theorem crcBits_lt {s:Nat} (h:s<4294967296):∀k,crcBits k s<4294967296
 | 0=>h
 | k+1=>crcBit_lt (crcBits_lt h k)
theorem crcStep_lt {s c:Nat} (h:s<4294967296) (hc:c<256):crcStep s c<4294967296:=crcBits_lt (Nat.xor_lt_two_pow (n:=32) (by omega) (by omega)) 8
theorem crcRun_lt {s:Nat} (h:s<4294967296):∀l,crcRun s l<4294967296
 | []=>h
 | c::l=>crcRun_lt (s:=crcStep s c.toNat) (crcStep_lt h (UInt8.toNat_lt c)) l
theorem crcRun_append (s:Nat) (a b:List UInt8):crcRun s (a++b)=crcRun (crcRun s a) b:=by simp[crcRun]
theorem crcSum_lt (l:List UInt8):crcSum l<4294967296:=by unfold crcSum;omega
theorem crcBit_walk (s:Nat) (h:s<4294967296):bits BinOp.xor IntKind.u32 ((s:Int) / 2) (bits BinOp.and IntKind.u32 2197175160 (-bits BinOp.and IntKind.u32 (s:Int) 1%4294967296))=((crcBit s:Nat):Int):=by
 have h1:bits BinOp.and IntKind.u32 (s:Int) 1=((s%2:Nat):Int):=by
  have:=bits_and32 s 1 h (by omega)
  rw[Nat.and_one_is_mod] at this
  exact this
 rw[h1,show ((s:Int) / 2)=((s / 2:Nat):Int) by omega]
 unfold crcBit
 rcases Nat.mod_two_eq_zero_or_one s with h0 | h0
 · rw[h0,if_neg (by omega),show (-((0:Nat):Int)%4294967296)=((0:Nat):Int) by omega,show (2197175160:Int)=((2197175160:Nat):Int) from rfl,bits_and32 _ _ (by omega) (by omega),bits_xor32 _ _ (by omega) (by simp)]
   simp
 · rw[h0,if_pos rfl,show (-((1:Nat):Int)%4294967296)=((4294967295:Nat):Int) by omega,show (2197175160:Int)=((2197175160:Nat):Int) from rfl,bits_and32 _ _ (by omega) (by omega),show (2197175160&&& 4294967295:Nat)=2197175160 by decide,bits_xor32 _ _ (by omega) (by omega)]
theorem crcBit_inj {a b:Nat} (ha:a<4294967296) (hb:b<4294967296) (h:crcBit a=crcBit b):a=b:=by
 have top:∀s,s<4294967296→(crcBit s).testBit 31=decide (s%2=1):=fun s hs=>by
  unfold crcBit
  rw[Nat.testBit_xor,Nat.testBit_lt_two_pow (show s / 2<2 ^ 31 by omega)]
  split
  · rename_i h0;simp[h0];decide
  · rename_i h0;simp[h0]
 have ht:=congrArg (fun x=>Nat.testBit x 31) h
 simp only[top a ha,top b hb] at ht
 have hm:a%2=b%2:=by
  rcases Nat.mod_two_eq_zero_or_one a with h0 | h0<;>rcases Nat.mod_two_eq_zero_or_one b with h1 | h1<;>simp[h0,h1] at ht ⊢
 have hd:a / 2=b / 2:=by
  unfold crcBit at h
  rw[hm] at h
  have:=congrArg (fun x=>x ^^^ (if b%2=1 then 2197175160 else 0)) h
  simpa [Nat.xor_assoc] using this
 omega
theorem crcBits_inj {a b:Nat} (ha:a<4294967296) (hb:b<4294967296):∀k,crcBits k a=crcBits k b→a=b
 | 0,h=>h
 | k+1,h=>crcBits_inj ha hb k (crcBit_inj (crcBits_lt ha k) (crcBits_lt hb k) h)
theorem xor_cancel {a b c:Nat} (h:a ^^^ c=b ^^^ c):a=b:=by
 have:=congrArg (fun x=>x ^^^ c) h
 simpa [Nat.xor_assoc] using this
theorem crcStep_inj {s t c:Nat} (hs:s<4294967296) (ht:t<4294967296) (hc:c<256) (h:crcStep s c=crcStep t c):s=t:=
 xor_cancel (crcBits_inj (Nat.xor_lt_two_pow (n:=32) (by omega) (by omega)) (Nat.xor_lt_two_pow (n:=32) (by omega) (by omega)) 8 h)
theorem crcStep_injc {s c d:Nat} (hs:s<4294967296) (hc:c<256) (hd:d<256) (h:crcStep s c=crcStep s d):c=d:=by
 have:=crcBits_inj (Nat.xor_lt_two_pow (n:=32) (by omega) (by omega)) (Nat.xor_lt_two_pow (n:=32) (by omega) (by omega)) 8 h
 rw[Nat.xor_comm s c,Nat.xor_comm s d] at this
 exact xor_cancel this
theorem crcRun_inj {s t:Nat} (hs:s<4294967296) (ht:t<4294967296):∀(l:List UInt8),crcRun s l=crcRun t l→s=t:=by
 intro l
 induction l generalizing s t with
 | nil=>exact id
 | cons c l ih=>
   intro h
   exact crcStep_inj hs ht (UInt8.toNat_lt c) (ih (crcStep_lt hs (UInt8.toNat_lt c)) (crcStep_lt ht (UInt8.toNat_lt c)) h)
theorem crcSum_byte (a b:List UInt8) (c d:UInt8) (h:crcSum (a++c::b)=crcSum (a++d::b)):c=d:=by
 unfold crcSum at h
 have l1:=crcRun_lt (s:=4294967295) (by omega) (a++c::b)
 have l2:=crcRun_lt (s:=4294967295) (by omega) (a++d::b)
 have h' :crcRun 4294967295 (a++c::b)=crcRun 4294967295 (a++d::b):=by omega
 rw[crcRun_append,crcRun_append] at h'
 have la:=crcRun_lt (s:=4294967295) (by omega) a
 have:=crcRun_inj (crcStep_lt la (UInt8.toNat_lt c)) (crcStep_lt la (UInt8.toNat_lt d)) b h'
 exact UInt8.toNat_inj.1 (crcStep_injc la (UInt8.toNat_lt c) (UInt8.toNat_lt d) this)
def crcPut (s:Nat):List UInt8:=[UInt8.ofNat (s%256),UInt8.ofNat (s / 256%256),UInt8.ofNat (s / 65536%256),UInt8.ofNat (s / 16777216%256)]
def crcSeal (l:List UInt8):List UInt8:=l++crcPut (crcSum l)
def crcOpen (l:List UInt8):Option (List UInt8):=
 if 4≤l.length∧l.drop (l.length - 4)=crcPut (crcSum (l.take (l.length - 4))) then some (l.take (l.length - 4)) else none
theorem crcPut_len (s:Nat):(crcPut s).length=4:=rfl
theorem crcPut_inj {s t:Nat} (hs:s<4294967296) (ht:t<4294967296) (h:crcPut s=crcPut t):s=t:=by
 simp only[crcPut,List.cons.injEq,and_true] at h
 have e:∀x y:Nat,x<256→y<256→UInt8.ofNat x=UInt8.ofNat y→x=y:=fun x y hx hy h=>by
  have:=congrArg UInt8.toNat h
  simp at this
  omega
 have h0:=e _ _ (by omega) (by omega) h.1
 have h1:=e _ _ (by omega) (by omega) h.2.1
 have h2:=e _ _ (by omega) (by omega) h.2.2.1
 have h3:=e _ _ (by omega) (by omega) h.2.2.2
 omega
theorem crcOpen_seal (l:List UInt8):crcOpen (crcSeal l)=some l:=by
 have h:(crcSeal l).length - 4=l.length:=by simp[crcSeal,crcPut_len]
 unfold crcOpen
 rw[h]
 simp[crcSeal,crcPut_len]
theorem crcOpen_some {l x:List UInt8} (h:crcOpen l=some x):l=crcSeal x:=by
 unfold crcOpen at h
 split at h
 · rename_i h0
   obtain rfl:l.take (l.length - 4)=x:=by simpa using h
   unfold crcSeal
   rw[←h0.2,List.take_append_drop]
 · simp at h
theorem step_any (s c:Nat) (hs:s<4294967296) (hc:c<256) (w:World):
 Calls Tryz.prog 167 #[.int .u32 s, .int .u8 c] w fun e w' =>e= .returned (.int .u32 (crcStep s c:Nat))∧w=w' :=by
 have hx:=Nat.xor_lt_two_pow (x:=s) (y:=c) (n:=32) (by omega) (by omega)
 have hxe:=bits_xor32 s c hs (by omega)
 go_enter Tryz.func167,Tryz.ntmps167
 go_wp2
 go_loop [0,9] (fun v0 v9=>∃k:Nat,k≤8∧v9= .int .i64 k∧v0= .int .u32 (crcBits k (s ^^^ c):Nat)) (fun _ v9=>8 - (intOf v9).toNat)
 case atStart=>exact ⟨0,by omega,rfl,by simp[crcBits]⟩
 case round=>
  obtain ⟨k,hk,rfl,rfl⟩:=hrel
  have hlt0:=crcBits_lt (s:=s ^^^ c) (by omega) k
  by_cases hlt:k<8
  · have hb:=crcBit_walk _ hlt0
    obtain ⟨n,hn⟩:∃n,n=crcBits k (s ^^^ c):=⟨_,rfl⟩
    have e1:crcBits (k+1) (s ^^^ c)=crcBit n:=by rw[hn];rfl
    rw[←hn] at hb hlt0 ⊢
    have Hb:=Lib.hid hb
    have He:=Lib.hid e1
    clear hb hn e1 hxe
    go_wp2
    go_round
    case rel=>exact ⟨k+1,by omega,by go_num,by rw[He.out,Hb.out]⟩
    case measure=>simp[intOf];omega
  · have:k=8:=by omega
    subst this
    have h8:crcBits 8 (s ^^^ c)=crcStep s c:=rfl
    rw[h8] at hlt0 ⊢
    go_wp2
    go_ret
    exact ⟨rfl,rfl⟩
theorem more1_any (b:Nat) (s c:Nat) (hs:s<4294967296) (hc:c<256) (w:World) (hb:w.heap[b]? =some (.cells #[.int .u32 s] 51 (0,0))):
 Calls Tryz.prog 166 #[.int .u8 c, .pointer (some ⟨b,0,none⟩)] w fun e w' =>e= .returned (.tuple #[])∧Fr (fun k=>k=b) w w' ∧w'.heap[b]? =some (.cells #[.int .u32 (crcStep s c:Nat)] 51 (0,0)):=by
 have c0:=cell_of hb 0
 have z0:=frozen_of hb 0
 simp at c0
 have Hb:=Lib.hid hb
 clear hb
 go_enter Tryz.func166,Tryz.ntmps166
 go_wp2_with (go_at_call 167;refine (step_any _ _ hs hc _).mono ?_;rintro e w1 ⟨rfl,rfl⟩)
 go_end0
 exact ⟨rfl,(Fr.self b w).set1 0 _,by simpa using heap_set Hb.out 0 (.int .u32 (crcStep s c:Nat))⟩
theorem not32 (s:Nat) (h:s<4294967296):bits BinOp.xor IntKind.u32 IntKind.u32.max (s:Int)=((4294967295 - s:Nat):Int):=by
 rw[show IntKind.u32.max=((4294967295:Nat):Int) from rfl,bits_xor32 _ s (by omega) h]
 congr 1
 have h2:(4294967295:Nat)=2 ^ 32 - 1:=by decide
 rw[h2]
 apply Nat.eq_of_testBit_eq
 intro i
 rw[show 2 ^ 32 - 1 - s=2 ^ 32 - (s+1) by omega,Nat.testBit_two_pow_sub_succ (by omega),Nat.testBit_xor,Nat.testBit_two_pow_sub_one]
 by_cases hi:i<32
 · simp[hi]
 · have:s.testBit i=false:=Nat.testBit_lt_two_pow (Nat.lt_of_lt_of_le (by omega:s<2 ^ 32) (Nat.pow_le_pow_right (by omega) (by omega)))
   simp[hi,this]
theorem crcmore_any (S:Nat→Prop) (w:World) (a:Option Addr) (cap:Nat) (l:List UInt8) (h:BV S w a cap l) (hl:l.length≤1099511627776):
 Calls Tryz.prog 135 #[.int .u32 0, .slice a l.length cap] w fun e w' =>e= .returned (.int .u32 (crcSum l:Nat))∧Fr nob w w' :=by
 have hmf:∀(fn:Fn) (first cap:Array Value) (w:World),(Instr.makeFunc fn first cap).run Tryz.prog w= .ok (.func fn first cap) w:=fun _ _ _ _=>rfl
 have H:=Lib.hid h
 clear h
 go_enter Tryz.func135,Tryz.ntmps135
 go_wp2_with fail
 have hB:=heap_new w (.cells #[.int .u32 (bits BinOp.xor IntKind.u32 IntKind.u32.max 0)] 51 (0,0))
 have hf0:=(Fr.refl nob w).alloc (.cells #[.int .u32 (bits BinOp.xor IntKind.u32 IntKind.u32.max 0)] 51 (0,0))
 obtain ⟨B,hBB⟩:∃B,B=w.heap.size:=⟨_,rfl⟩
 rw[←hBB] at hB
 obtain ⟨w0,hw0⟩:∃w0,w0=w.alloc (.cells #[.int .u32 (bits BinOp.xor IntKind.u32 IntKind.u32.max 0)] 51 (0,0)):=⟨_,rfl⟩
 rw[←hw0] at hB hf0
 rw[show bits BinOp.xor IntKind.u32 IntKind.u32.max 0=((4294967295:Nat):Int) from not32 0 (by omega)] at hB
 have HBB:=Lib.hid hBB
 rw[←hBB,←hw0]
 clear hBB hw0
 go_loopw [14] (fun v14 wr=>∃k:Nat,k≤l.length∧v14= .int .i64 k∧wr.heap[B]? =some (.cells #[.int .u32 (crcRun 4294967295 (l.take k):Nat)] 51 (0,0))∧Fr nob w wr) (fun v14 _=>l.length - (intOf v14).toNat)
 case atStart=>exact ⟨0,Nat.zero_le _,rfl,hB,hf0⟩
 case round=>
  obtain ⟨k,hk,rfl,hb,hf⟩:=hrel
  obtain ⟨wo,rfl⟩:∃wo:World,wo=wr:=⟨_,rfl⟩
  have hlt0:=crcRun_lt (s:=4294967295) (by omega) (l.take k)
  by_cases hlt:k<l.length
  · obtain ⟨b,off,rfl,hSb,hc⟩:=(H.out.frN hf).get hlt
    have hts:crcRun 4294967295 (l.take (k+1))=crcStep (crcRun 4294967295 (l.take k)) l[k].toNat:=by
     rw[List.take_succ_eq_append_getElem hlt,crcRun_append];rfl
    obtain ⟨c,hcc⟩:∃c,c=l[k].toNat:=⟨_,rfl⟩
    have hc255:c<256:=by rw[hcc];exact UInt8.toNat_lt _
    rw[←hcc] at hc hts
    generalize crcRun 4294967295 (l.take k)=s at*
    have Hts:=Lib.hid hts
    have Hb:=Lib.hid hb
    clear hts hcc hb
    go_wp2_with fail
    refine (more1_any B s c hlt0 hc255 _ Hb.out).mono ?_
    rintro e w1 ⟨rfl,hf1,hb1⟩
    go_wp2_with fail
    go_roundw
    case rel=>exact ⟨k+1,by omega,by go_num,by rw[Hts.out];exact hb1,hf.trans hf1 (fun j hj e=>by have:=HBB.out;omega)⟩
    case measure=>simp[intOf];omega
  · obtain rfl:k=l.length:=by omega
    rw[List.take_length] at hb hlt0
    have c0:=cell_of hb 0
    simp at c0
    have hn:=not32 _ hlt0
    have hsum:crcSum l=4294967295 - crcRun 4294967295 l:=rfl
    generalize crcRun 4294967295 l=s at*
    have Hsum:=Lib.hid hsum
    clear hsum hb
    go_wp2_with fail
    go_ret
    refine ⟨?_,hf⟩
    rw[Hsum.out,←hn]
    simp
theorem crcsum_any (S:Nat→Prop) (w:World) (a:Option Addr) (cap:Nat) (l:List UInt8) (h:BV S w a cap l) (hl:l.length≤1099511627776):
 Calls Tryz.prog 104 #[.slice a l.length cap] w fun e w' =>e= .returned (.int .u32 (crcSum l:Nat))∧Fr nob w w' :=by
 have H:=Lib.hid h
 clear h
 go_enter Tryz.func104,Tryz.ntmps104
 go_wp2_with (go_at_call 135;refine (crcmore_any _ _ _ _ l H.out hl).mono ?_)
 rintro e w1 ⟨rfl,hf⟩
 go_wp2
 go_ret
 exact ⟨rfl,hf⟩
theorem put_any (s:Nat) (hs:s<4294967296) (w:World):
 Calls Tryz.prog 75 #[.int .u32 s] w fun e w' =>∃a',e= .returned (.slice (some ⟨a',0,none⟩) 4 4)∧Fr nob w w' ∧BV (newb w w') w' (some ⟨a',0,none⟩) 4 (crcPut s):=by
 have hmk:∀w,(Instr.makeSlice 27 (.int .i64 4) (.int .i64 4)).run Tryz.prog w= .ok (.slice (some ⟨w.heap.size,0,none⟩) 4 4) (w.alloc (.cells #[.int .u8 0, .int .u8 0, .int .u8 0, .int .u8 0] 5)):=fun _=>by kernel_rfl
 go_enter Tryz.func75,Tryz.ntmps75
 go_wp2
 refine wp_loop_rounds 5 ?_
 rw[rounds_succ]
 go_wp2
 rw[rounds_succ]
 go_wp2
 rw[rounds_succ]
 go_wp2
 rw[rounds_succ]
 go_wp2
 rw[rounds_succ]
 go_wp2
 go_ret
 refine ⟨w.heap.size,rfl,(Fr.refl nob w).alloc _,?_⟩
 have h:=lit_of w (crcPut s) (by rw[crcPut_len];omega)
 rw[crcPut_len] at h
 have e:(bv (crcPut s)).toArray=#[.int .u8 ((s:Int)%256), .int .u8 ((s:Int) / 256%256), .int .u8 ((s:Int) / 65536%256), .int .u8 ((s:Int) / 16777216)]:=by
  simp[bv,crcPut]
  omega
 rw[e] at h
 exact h
def uv (x:Nat):List UInt8:=if h:x<128 then [UInt8.ofNat x] else UInt8.ofNat (x%128+128)::uv (x / 128)
termination_by x
decreasing_by omega
theorem uv_small {x:Nat} (h:x<128):uv x=[UInt8.ofNat x]:=by rw[uv];simp[h]
theorem uv_great {x:Nat} (h:¬x<128):uv x=UInt8.ofNat (x%128+128)::uv (x / 128):=by rw[uv];simp[h]
theorem uv_pos (x:Nat):0<(uv x).length:=by
 by_cases h:x<128
 · rw[uv_small h];simp
 · rw[uv_great h];simp
theorem uv_len_le:∀(n x:Nat),x<128 ^ (n+1)→(uv x).length≤n+1
 | 0,x,h=>by rw[uv_small (by simpa using h)];simp
 | n+1,x,h=>by
   by_cases h0:x<128
   · rw[uv_small h0];simp
   · rw[uv_great h0,List.length_cons]
     have:=uv_len_le n (x / 128) (by rw[Nat.pow_succ] at h;omega)
     omega
theorem uv_len10 {x:Nat} (h:x<18446744073709551616):(uv x).length≤10:=uv_len_le 9 x (by omega)
def getUv (i x:Nat):List UInt8→Nat×Nat×Nat
 | []=>if i=10 then (0,0,7) else (0,0,5)
 | c::r=>if i=10 then (0,0,7) else if 128≤c.toNat then getUv (i+1) (x+(c.toNat - 128)*128 ^ i) r
   else if i=9∧1<c.toNat then (0,0,7) else if c.toNat=0∧0<i then (0,0,6) else (x+c.toNat*128 ^ i,i+1,0)
theorem pow128:(128:Nat) ^ 9=9223372036854775808:=by decide
theorem pow_le9 {i:Nat} (h:i≤9):128 ^ i≤9223372036854775808:=by rw[←pow128];exact Nat.pow_le_pow_right (by omega) h
theorem toNat_ofNat8 {x:Nat} (h:x<256):(UInt8.ofNat x).toNat=x:=by simp;omega
theorem getUv_uv (r:List UInt8):∀(y i x:Nat),y*128 ^ i<18446744073709551616→(i=0∨0<y)→i≤9→getUv i x (uv y++r)=(x+y*128 ^ i,i+(uv y).length,0):=by
 intro y
 induction y using Nat.strongRecOn with
 | _ y ih=>
   intro i x hy hi h9
   by_cases h:y<128
   · have ht:=toNat_ofNat8 (x:=y) (by omega)
     rw[uv_small h]
     simp only[List.singleton_append,getUv,ht]
     have h2:¬(i=9∧1<y):=by
      rintro ⟨rfl,h1⟩
      rw[pow128] at hy
      omega
     rw[if_neg (by omega),if_neg (by omega),if_neg h2,if_neg (by omega)]
     simp
   · rw[uv_great h]
     have ht:=toNat_ofNat8 (x:=y%128+128) (by omega)
     simp only[List.cons_append,getUv,ht,List.length_cons]
     have hd:y / 128*128 ^ (i+1)≤y*128 ^ i:=by
      rw[Nat.pow_succ,Nat.mul_comm (128 ^ i),←Nat.mul_assoc]
      exact Nat.mul_le_mul_right _ (Nat.div_mul_le_self y 128)
     have hi9:i+1≤9:=by
      rcases Nat.lt_or_ge (i+1) 10 with h' | h'
      · omega
      · exfalso
        have hi' :i=9:=by omega
        subst hi'
        rw[pow128] at hy
        omega
     rw[if_neg (by omega),if_pos (by omega),ih (y / 128) (by omega) (i+1) _ (by omega) (Or.inr (by omega)) hi9]
     have e:y%128*128 ^ i+y / 128*128 ^ (i+1)=y*128 ^ i:=by
      rw[Nat.pow_succ,Nat.mul_comm (128 ^ i),←Nat.mul_assoc,←Nat.add_mul]
      congr 1;omega
     rw[show y%128+128 - 128=y%128 by omega]
     simp only[Prod.mk.injEq,and_true]
     refine ⟨by omega,by omega⟩
theorem getUv_inv:∀(l:List UInt8) (i x z n:Nat),i≤9→getUv i x l=(z,n,0)→
 ∃y r,l=uv y++r∧z=x+y*128 ^ i∧n=i+(uv y).length∧(i=0∨0<y)∧y*128 ^ i<18446744073709551616:=by
 intro l
 induction l with
 | nil=>intro i x z n h9 h;simp only[getUv] at h;split at h<;>simp at h
 | cons c r ih=>
   intro i x z n h9 h
   have hc:=UInt8.toNat_lt c
   have hp:=pow_le9 h9
   simp only[getUv] at h
   rw[if_neg (by omega)] at h
   split at h
   · rename_i h128
     by_cases hi:i+1≤9
     · obtain ⟨y',r',rfl,rfl,rfl,hy',hb⟩:=ih (i+1) _ z n hi h
       have hy0:0<y' :=hy'.resolve_left (by omega)
       refine ⟨c.toNat - 128+128*y',r',?_,?_,?_,Or.inr (by omega),?_⟩
       · rw[uv_great (x:=c.toNat - 128+128*y') (by omega),show (c.toNat - 128+128*y')%128=c.toNat - 128 by omega,show (c.toNat - 128+128*y') / 128=y' by omega,show c.toNat - 128+128=c.toNat by omega]
         simp
       · rw[Nat.pow_succ,Nat.add_mul,Nat.mul_comm 128 y',Nat.mul_comm (128 ^ i) 128,←Nat.mul_assoc,Nat.add_assoc]
       · rw[uv_great (x:=c.toNat - 128+128*y') (by omega),show (c.toNat - 128+128*y') / 128=y' by omega,List.length_cons];omega
       · rw[Nat.add_mul,Nat.mul_comm 128 y',Nat.mul_assoc,show 128*128 ^ i=128 ^ (i+1) by rw[Nat.pow_succ,Nat.mul_comm]]
         have hdvd:128 ^ (i+1) ∣ 18446744073709551616:=by
          have:(18446744073709551616:Nat)=2*128 ^ 9:=by decide
          rw[this]
          exact Nat.dvd_trans (Nat.pow_dvd_pow 128 hi) (Nat.dvd_mul_left _ _)
         obtain ⟨q,hq⟩:=hdvd
         have hlt:y' <q:=by
          rcases Nat.lt_or_ge y' q with h' | h'
          · exact h'
          · have:=Nat.mul_le_mul_right (128 ^ (i+1)) h'
            rw[Nat.mul_comm q,←hq] at this
            omega
         have hle:(y' +1)*128 ^ (i+1)≤q*128 ^ (i+1):=Nat.mul_le_mul_right _ hlt
         rw[Nat.mul_comm q,←hq,Nat.succ_mul] at hle
         have hs:(c.toNat - 128)*128 ^ i<128*128 ^ i:=Nat.mul_lt_mul_of_pos_right (by omega) (by exact Nat.pow_pos (by omega))
         rw[show 128*128 ^ i=128 ^ (i+1) by rw[Nat.pow_succ,Nat.mul_comm]] at hs
         omega
     · obtain rfl:i=9:=by omega
       cases r with
       | nil=>simp[getUv] at h
       | cons c' r' =>simp[getUv] at h
   · rename_i h128
     split at h
     · simp at h
     · rename_i h9'
       split at h
       · simp at h
       · rename_i h0
         simp only[Prod.mk.injEq,and_true] at h
         obtain ⟨rfl,rfl⟩:=h
         refine ⟨c.toNat,r,by rw[uv_small (by omega)];simp,rfl,by rw[uv_small (by omega)];simp,by omega,?_⟩
         by_cases hi9:i=9
         · subst hi9
           rw[pow128]
           have:c.toNat≤1:=by omega
           omega
         · have h8:i+1≤9:=by omega
           have:=pow_le9 h8
           rw[Nat.pow_succ] at this
           have hm:c.toNat*128 ^ i≤128*128 ^ i:=Nat.mul_le_mul_right _ (by omega)
           rw[Nat.mul_comm] at this
           omega
theorem getUv_iff {l:List UInt8} {z n:Nat}:getUv 0 0 l=(z,n,0)↔z<18446744073709551616∧n=(uv z).length∧∃r,l=uv z++r:=by
 constructor
 · intro h
   obtain ⟨y,r,h1,h2,h3,h4,h5⟩:=getUv_inv l 0 0 z n (by omega) h
   simp at h2 h3 h5
   subst h2
   exact ⟨h5,h3,r,h1⟩
 · rintro ⟨h1,rfl,r,rfl⟩
   have:=getUv_uv r z 0 0 (by simpa using h1) (Or.inl rfl) (by omega)
   simpa using this
theorem getUv_err (l:List UInt8):∀(i x:Nat),(getUv i x l).2.2=0∨((getUv i x l).1=0∧(getUv i x l).2.1=0∧((getUv i x l).2.2=5∨(getUv i x l).2.2=6∨(getUv i x l).2.2=7)):=by
 induction l with
 | nil=>intro i x;simp only[getUv];split<;>simp
 | cons c r ih=>
   intro i x
   simp only[getUv]
   split
   · simp
   · split
     · exact ih _ _
     · split
       · simp
       · split<;>simp
set_option maxRecDepth 100000 in
theorem len8tab_size:(Lib.len8tab.size:Int)=256:=by
 have:Lib.len8tab.size=256:=by decide
 omega
theorem wrap_add (k a b:Nat) (hk:k≤56) (ha:a≤8) (hb:b=k+a):RowKit.wrap64 ((k:Int)+RowKit.wrap64 (a:Int))=(b:Int):=by
 unfold RowKit.wrap64
 omega
theorem wrap_wrap (a:Nat) (ha:a≤8):RowKit.wrap64 (RowKit.wrap64 (a:Int))=(a:Int):=by
 unfold RowKit.wrap64
 omega
theorem wrap_one (a:Nat) (ha:a≤8):RowKit.wrap64 (a:Int)=(a:Int):=by
 unfold RowKit.wrap64
 omega
theorem len8_get (y:Int) (h:y.toNat<Lib.len8tab.size):((Lib.len8tab[y.toNat]'h).toNat:Int)=Lib.len8 y:=by
 unfold Lib.len8
 rw[getElem?_pos Lib.len8tab y.toNat h]
 rfl
set_option maxHeartbeats 4000000 in
set_option maxRecDepth 100000 in
theorem len64_any (y:Nat) (hy:y<18446744073709551616) (w:World):
 Calls Tryz.prog 141 #[.int .u64 y] w fun e w' =>e= .returned (.int .i64 (Lib.bitLen y))∧w' =w:=by
 obtain ⟨x,hx⟩:∃x:Int,x=y:=⟨_,rfl⟩
 have h0:0≤x:=by omega
 have h1:x≤18446744073709551615:=by omega
 have hyx:y=x.toNat:=by omega
 rw[←hx,hyx]
 clear hx hyx hy
 go_enter Tryz.func141,Tryz.ntmps141
 go_wp2
 all_goals first
  | (go_ret;refine ⟨congrArg Ending.returned (congrArg (Value.int IntKind.i64) ?_),rfl⟩)
  | (exfalso
     have hs:=len8tab_size
     omega)
 all_goals first
  | (rw[len8_get (x / 4294967296 / 65536 / 256) _,Lib.len8_of (x / 4294967296 / 65536 / 256) (by omega) (by omega)]
     have e:(x / 4294967296 / 65536 / 256).toNat=x.toNat / 72057594037927936:=by omega
     have l:=Lib.bitLen_le8' (x / 4294967296 / 65536 / 256) (by omega) (by omega)
     have s:=Lib.bitLen_shift56 x.toNat (by omega) (by omega)
     rw[e] at l ⊢
     exact wrap_add 56 _ _ (by decide) l s)
  | (rw[len8_get (x / 4294967296 / 65536) _,Lib.len8_of (x / 4294967296 / 65536) (by omega) (by omega)]
     have e:(x / 4294967296 / 65536).toNat=x.toNat / 281474976710656:=by omega
     have l:=Lib.bitLen_le8' (x / 4294967296 / 65536) (by omega) (by omega)
     have s:=Lib.bitLen_shift48 x.toNat (by omega) (by omega)
     rw[e] at l ⊢
     exact wrap_add 48 _ _ (by decide) l s)
  | (rw[len8_get (x / 4294967296 / 256) _,Lib.len8_of (x / 4294967296 / 256) (by omega) (by omega)]
     have e:(x / 4294967296 / 256).toNat=x.toNat / 1099511627776:=by omega
     have l:=Lib.bitLen_le8' (x / 4294967296 / 256) (by omega) (by omega)
     have s:=Lib.bitLen_shift40 x.toNat (by omega) (by omega)
     rw[e] at l ⊢
     exact wrap_add 40 _ _ (by decide) l s)
  | (rw[len8_get (x / 4294967296) _,Lib.len8_of (x / 4294967296) (by omega) (by omega)]
     have e:(x / 4294967296).toNat=x.toNat / 4294967296:=by omega
     have l:=Lib.bitLen_le8' (x / 4294967296) (by omega) (by omega)
     have s:=Lib.bitLen_shift32 x.toNat (by omega) (by omega)
     rw[e] at l ⊢
     exact wrap_add 32 _ _ (by decide) l s)
  | (rw[len8_get (x / 65536 / 256) _,Lib.len8_of (x / 65536 / 256) (by omega) (by omega)]
     have e:(x / 65536 / 256).toNat=x.toNat / 16777216:=by omega
     have l:=Lib.bitLen_le8' (x / 65536 / 256) (by omega) (by omega)
     have s:=Lib.bitLen_shift24 x.toNat (by omega) (by omega)
     rw[e] at l ⊢
     exact wrap_add 24 _ _ (by decide) l s)
  | (rw[len8_get (x / 65536) _,Lib.len8_of (x / 65536) (by omega) (by omega)]
     have e:(x / 65536).toNat=x.toNat / 65536:=by omega
     have l:=Lib.bitLen_le8' (x / 65536) (by omega) (by omega)
     have s:=Lib.bitLen_shift16 x.toNat (by omega) (by omega)
     rw[e] at l ⊢
     exact wrap_add 16 _ _ (by decide) l s)
  | (rw[len8_get (x / 256) _,Lib.len8_of (x / 256) (by omega) (by omega)]
     have e:(x / 256).toNat=x.toNat / 256:=by omega
     have l:=Lib.bitLen_le8' (x / 256) (by omega) (by omega)
     have s:=Lib.bitLen_shift8 x.toNat (by omega) (by omega)
     rw[e] at l ⊢
     exact wrap_add 8 _ _ (by decide) l s)
  | (rw[len8_get (x) _,Lib.len8_of (x) (by omega) (by omega)]
     have l:=Lib.bitLen_le8' (x) (by omega) (by omega)
     first | exact wrap_wrap _ l | exact wrap_add 0 _ _ (by decide) l (by omega) | exact wrap_one _ l)
theorem bitLen_le64 {x:Nat} (h:x<18446744073709551616):Lib.bitLen x≤64:=Lib.bitLen_le x 64 (by omega) (by simpa using h)
theorem bitLen_pos {x:Nat} (h:0<x) (hx:x<18446744073709551616):0<Lib.bitLen x:=by
 rw[Lib.bitLen_half x (by omega) (by simpa using hx)];omega
theorem uv_len (x:Nat) (h:x<18446744073709551616):(uv x).length=(max 1 (Lib.bitLen x)+6) / 7:=by
 induction x using Nat.strongRecOn with
 | _ x ih=>
   by_cases h0:x<128
   · rw[uv_small h0]
     have:=Lib.bitLen_le x 7 (by omega) (by simpa using h0)
     simp;omega
   · rw[uv_great h0,List.length_cons,ih (x / 128) (by omega) (by omega)]
     have s:=Lib.bitLen_shift 7 x (by omega) (by simpa using h)
     have p:=bitLen_pos (x:=x / 128) (by omega) (by omega)
     rw[show x / 2 ^ 7=x / 128 by rfl] at s
     omega
theorem size_any (y:Nat) (hy:y<18446744073709551616) (w:World):
 Calls Tryz.prog 114 #[.int .u64 y] w fun e w' =>e= .returned (.int .i64 ((uv y).length:Nat))∧w' =w:=by
 have hl:=bitLen_le64 hy
 have e:=uv_len y hy
 go_enter Tryz.func114,Tryz.ntmps114
 go_wp2_with fail
 refine (len64_any y hy _).mono ?_
 rintro e1 w1 ⟨rfl,rfl⟩
 generalize Lib.bitLen y=b at*
 have E:=Lib.hid e
 clear e
 go_wp2
 all_goals
  go_ret
  refine ⟨?_,rfl⟩
  rw[E.out]
  first
   | (show Ending.returned (.int .i64 ((↑b+7 - 1) / 7))=_;congr 2;omega)
   | (show Ending.returned (.int .i64 ((max 1 (b:Int)+7 - 1) / 7))=_;congr 2;omega)
   | (rw[show (max 1 b+6) / 7=1 by omega];rfl)
theorem or128 (v:Int) (h0:0≤v) (h1:v<256):bits .or .u8 v 128=v%128+128:=by
 have h:∀n:Fin 256,bits .or .u8 (n.val:Int) 128=(n.val:Int)%128+128:=by decide+kernel
 have:=h ⟨v.toNat,by omega⟩
 rw[show ((v.toNat:Nat):Int)=v by omega] at this
 exact this
theorem andNot128 (v:Int) (h0:0≤v) (h1:v<256):bits .andNot .u8 v 128=v%128:=by
 have h:∀n:Fin 256,bits .andNot .u8 (n.val:Int) 128=(n.val:Int)%128:=by decide+kernel
 have:=h ⟨v.toNat,by omega⟩
 rw[show ((v.toNat:Nat):Int)=v by omega] at this
 exact this
theorem uv_is1 (y:Nat) (h0:0≤y) (h1:y<128):uv y=[UInt8.ofNat (y / 1)]:=by
 rw[uv_small (x:=y) (by omega)]
 simp
set_option maxHeartbeats 4000000 in
set_option maxRecDepth 100000 in
theorem uint1 (y:Nat) (h0:0≤y) (h1:y<128) (w:World):
 Calls Tryz.prog 74 #[.int .u64 y] w fun e w' =>∃a',e= .returned (.slice (some ⟨a',0,none⟩) 1 1)∧Fr nob w w' ∧BV (newb w w') w' (some ⟨a',0,none⟩) 1 (uv y):=by
 have hl:(uv y).length=1:=by rw[uv_is1 y h0 (by omega)];rfl
 have hmk:∀w,(Instr.makeSlice 27 (.int .i64 1) (.int .i64 1)).run Tryz.prog w= .ok (.slice (some ⟨w.heap.size,0,none⟩) 1 1) (w.alloc (.cells #[.int .u8 0] 5)):=fun _=>by kernel_rfl
 have hs:=size_any y (by omega) w
 rw[hl] at hs
 have Hl:=Lib.hid hl
 clear hl
 go_enter Tryz.func74,Tryz.ntmps74
 go_wp2_with fail
 refine hs.mono ?_
 rintro e w1 ⟨rfl,rfl⟩
 clear hs
 go_wp2
 refine wp_loop_rounds 2 ?_
 rw[rounds_succ]
 go_wp2
 rw[rounds_succ]
 go_wp2
 go_ret
 refine ⟨w1.heap.size,rfl,(Fr.refl nob w1).alloc _,?_⟩
 have b0:bits .andNot .u8 (bits .or .u8 (y:Int) 128) 128=(y:Int):=by rw[or128 _ (by omega) (by omega),andNot128 _ (by omega) (by omega)];omega
 rw[b0]
 have h:=lit_of w1 (uv y) (by rw[Hl.out];omega)
 rw[Hl.out] at h
 have e:(bv (uv y)).toArray=#[.int .u8 (y:Int)]:=by
  rw[uv_is1 y h0 (by omega)]
  simp[bv]
  omega
 rw[e] at h
 exact h
theorem uv_is2 (y:Nat) (h0:128≤y) (h1:y<16384):uv y=[UInt8.ofNat (y / 1%128+128),UInt8.ofNat (y / 128)]:=by
 rw[uv_great (x:=y) (by omega)]
 rw[uv_small (x:=(y / 128)) (by omega)]
 simp
set_option maxHeartbeats 4000000 in
set_option maxRecDepth 100000 in
theorem uint2 (y:Nat) (h0:128≤y) (h1:y<16384) (w:World):
 Calls Tryz.prog 74 #[.int .u64 y] w fun e w' =>∃a',e= .returned (.slice (some ⟨a',0,none⟩) 2 2)∧Fr nob w w' ∧BV (newb w w') w' (some ⟨a',0,none⟩) 2 (uv y):=by
 have hl:(uv y).length=2:=by rw[uv_is2 y h0 (by omega)];rfl
 have hmk:∀w,(Instr.makeSlice 27 (.int .i64 2) (.int .i64 2)).run Tryz.prog w= .ok (.slice (some ⟨w.heap.size,0,none⟩) 2 2) (w.alloc (.cells #[.int .u8 0, .int .u8 0] 5)):=fun _=>by kernel_rfl
 have hs:=size_any y (by omega) w
 rw[hl] at hs
 have Hl:=Lib.hid hl
 clear hl
 go_enter Tryz.func74,Tryz.ntmps74
 go_wp2_with fail
 refine hs.mono ?_
 rintro e w1 ⟨rfl,rfl⟩
 clear hs
 go_wp2
 refine wp_loop_rounds 3 ?_
 rw[rounds_succ]
 go_wp2
 rw[rounds_succ]
 go_wp2
 rw[rounds_succ]
 go_wp2
 go_ret
 refine ⟨w1.heap.size,rfl,(Fr.refl nob w1).alloc _,?_⟩
 have b0:bits .or .u8 ((y:Int)%256) 128=(y:Int)%128+128:=by rw[or128 _ (by omega) (by omega)];omega
 have b1:bits .andNot .u8 (bits .or .u8 ((y:Int) / 128) 128) 128=((y:Int) / 128):=by rw[or128 _ (by omega) (by omega),andNot128 _ (by omega) (by omega)];omega
 rw[b0,b1]
 have h:=lit_of w1 (uv y) (by rw[Hl.out];omega)
 rw[Hl.out] at h
 have e:(bv (uv y)).toArray=#[.int .u8 ((y:Int)%128+128), .int .u8 ((y:Int) / 128)]:=by
  rw[uv_is2 y h0 (by omega)]
  simp[bv]
  omega
 rw[e] at h
 exact h
theorem uv_is3 (y:Nat) (h0:16384≤y) (h1:y<2097152):uv y=[UInt8.ofNat (y / 1%128+128),UInt8.ofNat (y / 128%128+128),UInt8.ofNat (y / 16384)]:=by
 rw[uv_great (x:=y) (by omega)]
 rw[uv_great (x:=(y / 128)) (by omega)]
 rw[show y / 128 / 128=y / 16384 by omega]
 rw[uv_small (x:=(y / 16384)) (by omega)]
 simp
set_option maxHeartbeats 4000000 in
set_option maxRecDepth 100000 in
theorem uint3 (y:Nat) (h0:16384≤y) (h1:y<2097152) (w:World):
 Calls Tryz.prog 74 #[.int .u64 y] w fun e w' =>∃a',e= .returned (.slice (some ⟨a',0,none⟩) 3 3)∧Fr nob w w' ∧BV (newb w w') w' (some ⟨a',0,none⟩) 3 (uv y):=by
 have hl:(uv y).length=3:=by rw[uv_is3 y h0 (by omega)];rfl
 have hmk:∀w,(Instr.makeSlice 27 (.int .i64 3) (.int .i64 3)).run Tryz.prog w= .ok (.slice (some ⟨w.heap.size,0,none⟩) 3 3) (w.alloc (.cells #[.int .u8 0, .int .u8 0, .int .u8 0] 5)):=fun _=>by kernel_rfl
 have hs:=size_any y (by omega) w
 rw[hl] at hs
 have Hl:=Lib.hid hl
 clear hl
 go_enter Tryz.func74,Tryz.ntmps74
 go_wp2_with fail
 refine hs.mono ?_
 rintro e w1 ⟨rfl,rfl⟩
 clear hs
 go_wp2
 refine wp_loop_rounds 4 ?_
 rw[rounds_succ]
 go_wp2
 rw[rounds_succ]
 go_wp2
 rw[rounds_succ]
 go_wp2
 rw[rounds_succ]
 go_wp2
 go_ret
 refine ⟨w1.heap.size,rfl,(Fr.refl nob w1).alloc _,?_⟩
 have b0:bits .or .u8 ((y:Int)%256) 128=(y:Int)%128+128:=by rw[or128 _ (by omega) (by omega)];omega
 have b1:bits .or .u8 (((y:Int) / 128)%256) 128=((y:Int) / 128)%128+128:=by rw[or128 _ (by omega) (by omega)];omega
 have b2:bits .andNot .u8 (bits .or .u8 ((y:Int) / 16384) 128) 128=((y:Int) / 16384):=by rw[or128 _ (by omega) (by omega),andNot128 _ (by omega) (by omega)];omega
 rw[b0,b1,b2]
 have h:=lit_of w1 (uv y) (by rw[Hl.out];omega)
 rw[Hl.out] at h
 have e:(bv (uv y)).toArray=#[.int .u8 ((y:Int)%128+128), .int .u8 (((y:Int) / 128)%128+128), .int .u8 ((y:Int) / 16384)]:=by
  rw[uv_is3 y h0 (by omega)]
  simp[bv]
  omega
 rw[e] at h
 exact h
theorem uv_is4 (y:Nat) (h0:2097152≤y) (h1:y<268435456):uv y=[UInt8.ofNat (y / 1%128+128),UInt8.ofNat (y / 128%128+128),UInt8.ofNat (y / 16384%128+128),UInt8.ofNat (y / 2097152)]:=by
 rw[uv_great (x:=y) (by omega)]
 rw[uv_great (x:=(y / 128)) (by omega)]
 rw[show y / 128 / 128=y / 16384 by omega]
 rw[uv_great (x:=(y / 16384)) (by omega)]
 rw[show y / 16384 / 128=y / 2097152 by omega]
 rw[uv_small (x:=(y / 2097152)) (by omega)]
 simp
set_option maxHeartbeats 4000000 in
set_option maxRecDepth 100000 in
theorem uint4 (y:Nat) (h0:2097152≤y) (h1:y<268435456) (w:World):
 Calls Tryz.prog 74 #[.int .u64 y] w fun e w' =>∃a',e= .returned (.slice (some ⟨a',0,none⟩) 4 4)∧Fr nob w w' ∧BV (newb w w') w' (some ⟨a',0,none⟩) 4 (uv y):=by
 have hl:(uv y).length=4:=by rw[uv_is4 y h0 (by omega)];rfl
 have hmk:∀w,(Instr.makeSlice 27 (.int .i64 4) (.int .i64 4)).run Tryz.prog w= .ok (.slice (some ⟨w.heap.size,0,none⟩) 4 4) (w.alloc (.cells #[.int .u8 0, .int .u8 0, .int .u8 0, .int .u8 0] 5)):=fun _=>by kernel_rfl
 have hs:=size_any y (by omega) w
 rw[hl] at hs
 have Hl:=Lib.hid hl
 clear hl
 go_enter Tryz.func74,Tryz.ntmps74
 go_wp2_with fail
 refine hs.mono ?_
 rintro e w1 ⟨rfl,rfl⟩
 clear hs
 go_wp2
 refine wp_loop_rounds 5 ?_
 rw[rounds_succ]
 go_wp2
 rw[rounds_succ]
 go_wp2
 rw[rounds_succ]
 go_wp2
 rw[rounds_succ]
 go_wp2
 rw[rounds_succ]
 go_wp2
 go_ret
 refine ⟨w1.heap.size,rfl,(Fr.refl nob w1).alloc _,?_⟩
 have b0:bits .or .u8 ((y:Int)%256) 128=(y:Int)%128+128:=by rw[or128 _ (by omega) (by omega)];omega
 have b1:bits .or .u8 (((y:Int) / 128)%256) 128=((y:Int) / 128)%128+128:=by rw[or128 _ (by omega) (by omega)];omega
 have b2:bits .or .u8 (((y:Int) / 16384)%256) 128=((y:Int) / 16384)%128+128:=by rw[or128 _ (by omega) (by omega)];omega
 have b3:bits .andNot .u8 (bits .or .u8 ((y:Int) / 2097152) 128) 128=((y:Int) / 2097152):=by rw[or128 _ (by omega) (by omega),andNot128 _ (by omega) (by omega)];omega
 rw[b0,b1,b2,b3]
 have h:=lit_of w1 (uv y) (by rw[Hl.out];omega)
 rw[Hl.out] at h
 have e:(bv (uv y)).toArray=#[.int .u8 ((y:Int)%128+128), .int .u8 (((y:Int) / 128)%128+128), .int .u8 (((y:Int) / 16384)%128+128), .int .u8 ((y:Int) / 2097152)]:=by
  rw[uv_is4 y h0 (by omega)]
  simp[bv]
  omega
 rw[e] at h
 exact h
theorem uv_is5 (y:Nat) (h0:268435456≤y) (h1:y<34359738368):uv y=[UInt8.ofNat (y / 1%128+128),UInt8.ofNat (y / 128%128+128),UInt8.ofNat (y / 16384%128+128),UInt8.ofNat (y / 2097152%128+128),UInt8.ofNat (y / 268435456)]:=by
 rw[uv_great (x:=y) (by omega)]
 rw[uv_great (x:=(y / 128)) (by omega)]
 rw[show y / 128 / 128=y / 16384 by omega]
 rw[uv_great (x:=(y / 16384)) (by omega)]
 rw[show y / 16384 / 128=y / 2097152 by omega]
 rw[uv_great (x:=(y / 2097152)) (by omega)]
 rw[show y / 2097152 / 128=y / 268435456 by omega]
 rw[uv_small (x:=(y / 268435456)) (by omega)]
 simp
set_option maxHeartbeats 4000000 in
set_option maxRecDepth 100000 in
theorem uint5 (y:Nat) (h0:268435456≤y) (h1:y<34359738368) (w:World):
 Calls Tryz.prog 74 #[.int .u64 y] w fun e w' =>∃a',e= .returned (.slice (some ⟨a',0,none⟩) 5 5)∧Fr nob w w' ∧BV (newb w w') w' (some ⟨a',0,none⟩) 5 (uv y):=by
 have hl:(uv y).length=5:=by rw[uv_is5 y h0 (by omega)];rfl
 have hmk:∀w,(Instr.makeSlice 27 (.int .i64 5) (.int .i64 5)).run Tryz.prog w= .ok (.slice (some ⟨w.heap.size,0,none⟩) 5 5) (w.alloc (.cells #[.int .u8 0, .int .u8 0, .int .u8 0, .int .u8 0, .int .u8 0] 5)):=fun _=>by kernel_rfl
 have hs:=size_any y (by omega) w
 rw[hl] at hs
 have Hl:=Lib.hid hl
 clear hl
 go_enter Tryz.func74,Tryz.ntmps74
 go_wp2_with fail
 refine hs.mono ?_
 rintro e w1 ⟨rfl,rfl⟩
 clear hs
 go_wp2
 refine wp_loop_rounds 6 ?_
 rw[rounds_succ]
 go_wp2
 rw[rounds_succ]
 go_wp2
 rw[rounds_succ]
 go_wp2
 rw[rounds_succ]
 go_wp2
 rw[rounds_succ]
 go_wp2
 rw[rounds_succ]
 go_wp2
 go_ret
 refine ⟨w1.heap.size,rfl,(Fr.refl nob w1).alloc _,?_⟩
 have b0:bits .or .u8 ((y:Int)%256) 128=(y:Int)%128+128:=by rw[or128 _ (by omega) (by omega)];omega
 have b1:bits .or .u8 (((y:Int) / 128)%256) 128=((y:Int) / 128)%128+128:=by rw[or128 _ (by omega) (by omega)];omega
 have b2:bits .or .u8 (((y:Int) / 16384)%256) 128=((y:Int) / 16384)%128+128:=by rw[or128 _ (by omega) (by omega)];omega
 have b3:bits .or .u8 (((y:Int) / 2097152)%256) 128=((y:Int) / 2097152)%128+128:=by rw[or128 _ (by omega) (by omega)];omega
 have b4:bits .andNot .u8 (bits .or .u8 ((y:Int) / 268435456) 128) 128=((y:Int) / 268435456):=by rw[or128 _ (by omega) (by omega),andNot128 _ (by omega) (by omega)];omega
 rw[b0,b1,b2,b3,b4]
 have h:=lit_of w1 (uv y) (by rw[Hl.out];omega)
 rw[Hl.out] at h
 have e:(bv (uv y)).toArray=#[.int .u8 ((y:Int)%128+128), .int .u8 (((y:Int) / 128)%128+128), .int .u8 (((y:Int) / 16384)%128+128), .int .u8 (((y:Int) / 2097152)%128+128), .int .u8 ((y:Int) / 268435456)]:=by
  rw[uv_is5 y h0 (by omega)]
  simp[bv]
  omega
 rw[e] at h
 exact h
theorem uv_is6 (y:Nat) (h0:34359738368≤y) (h1:y<4398046511104):uv y=[UInt8.ofNat (y / 1%128+128),UInt8.ofNat (y / 128%128+128),UInt8.ofNat (y / 16384%128+128),UInt8.ofNat (y / 2097152%128+128),UInt8.ofNat (y / 268435456%128+128),UInt8.ofNat (y / 34359738368)]:=by
 rw[uv_great (x:=y) (by omega)]
 rw[uv_great (x:=(y / 128)) (by omega)]
 rw[show y / 128 / 128=y / 16384 by omega]
 rw[uv_great (x:=(y / 16384)) (by omega)]
 rw[show y / 16384 / 128=y / 2097152 by omega]
 rw[uv_great (x:=(y / 2097152)) (by omega)]
 rw[show y / 2097152 / 128=y / 268435456 by omega]
 rw[uv_great (x:=(y / 268435456)) (by omega)]
 rw[show y / 268435456 / 128=y / 34359738368 by omega]
 rw[uv_small (x:=(y / 34359738368)) (by omega)]
 simp
set_option maxHeartbeats 4000000 in
set_option maxRecDepth 100000 in
theorem uint6 (y:Nat) (h0:34359738368≤y) (h1:y<4398046511104) (w:World):
 Calls Tryz.prog 74 #[.int .u64 y] w fun e w' =>∃a',e= .returned (.slice (some ⟨a',0,none⟩) 6 6)∧Fr nob w w' ∧BV (newb w w') w' (some ⟨a',0,none⟩) 6 (uv y):=by
 have hl:(uv y).length=6:=by rw[uv_is6 y h0 (by omega)];rfl
 have hmk:∀w,(Instr.makeSlice 27 (.int .i64 6) (.int .i64 6)).run Tryz.prog w= .ok (.slice (some ⟨w.heap.size,0,none⟩) 6 6) (w.alloc (.cells #[.int .u8 0, .int .u8 0, .int .u8 0, .int .u8 0, .int .u8 0, .int .u8 0] 5)):=fun _=>by kernel_rfl
 have hs:=size_any y (by omega) w
 rw[hl] at hs
 have Hl:=Lib.hid hl
 clear hl
 go_enter Tryz.func74,Tryz.ntmps74
 go_wp2_with fail
 refine hs.mono ?_
 rintro e w1 ⟨rfl,rfl⟩
 clear hs
 go_wp2
 refine wp_loop_rounds 7 ?_
 rw[rounds_succ]
 go_wp2
 rw[rounds_succ]
 go_wp2
 rw[rounds_succ]
 go_wp2
 rw[rounds_succ]
 go_wp2
 rw[rounds_succ]
 go_wp2
 rw[rounds_succ]
 go_wp2
 rw[rounds_succ]
 go_wp2
 go_ret
 refine ⟨w1.heap.size,rfl,(Fr.refl nob w1).alloc _,?_⟩
 have b0:bits .or .u8 ((y:Int)%256) 128=(y:Int)%128+128:=by rw[or128 _ (by omega) (by omega)];omega
 have b1:bits .or .u8 (((y:Int) / 128)%256) 128=((y:Int) / 128)%128+128:=by rw[or128 _ (by omega) (by omega)];omega
 have b2:bits .or .u8 (((y:Int) / 16384)%256) 128=((y:Int) / 16384)%128+128:=by rw[or128 _ (by omega) (by omega)];omega
 have b3:bits .or .u8 (((y:Int) / 2097152)%256) 128=((y:Int) / 2097152)%128+128:=by rw[or128 _ (by omega) (by omega)];omega
 have b4:bits .or .u8 (((y:Int) / 268435456)%256) 128=((y:Int) / 268435456)%128+128:=by rw[or128 _ (by omega) (by omega)];omega
 have b5:bits .andNot .u8 (bits .or .u8 ((y:Int) / 34359738368) 128) 128=((y:Int) / 34359738368):=by rw[or128 _ (by omega) (by omega),andNot128 _ (by omega) (by omega)];omega
 rw[b0,b1,b2,b3,b4,b5]
 have h:=lit_of w1 (uv y) (by rw[Hl.out];omega)
 rw[Hl.out] at h
 have e:(bv (uv y)).toArray=#[.int .u8 ((y:Int)%128+128), .int .u8 (((y:Int) / 128)%128+128), .int .u8 (((y:Int) / 16384)%128+128), .int .u8 (((y:Int) / 2097152)%128+128), .int .u8 (((y:Int) / 268435456)%128+128), .int .u8 ((y:Int) / 34359738368)]:=by
  rw[uv_is6 y h0 (by omega)]
  simp[bv]
  omega
 rw[e] at h
 exact h
theorem uv_is7 (y:Nat) (h0:4398046511104≤y) (h1:y<562949953421312):uv y=[UInt8.ofNat (y / 1%128+128),UInt8.ofNat (y / 128%128+128),UInt8.ofNat (y / 16384%128+128),UInt8.ofNat (y / 2097152%128+128),UInt8.ofNat (y / 268435456%128+128),UInt8.ofNat (y / 34359738368%128+128),UInt8.ofNat (y / 4398046511104)]:=by
 rw[uv_great (x:=y) (by omega)]
 rw[uv_great (x:=(y / 128)) (by omega)]
 rw[show y / 128 / 128=y / 16384 by omega]
 rw[uv_great (x:=(y / 16384)) (by omega)]
 rw[show y / 16384 / 128=y / 2097152 by omega]
 rw[uv_great (x:=(y / 2097152)) (by omega)]
 rw[show y / 2097152 / 128=y / 268435456 by omega]
 rw[uv_great (x:=(y / 268435456)) (by omega)]
 rw[show y / 268435456 / 128=y / 34359738368 by omega]
 rw[uv_great (x:=(y / 34359738368)) (by omega)]
 rw[show y / 34359738368 / 128=y / 4398046511104 by omega]
 rw[uv_small (x:=(y / 4398046511104)) (by omega)]
 simp
set_option maxHeartbeats 4000000 in
set_option maxRecDepth 100000 in
theorem uint7 (y:Nat) (h0:4398046511104≤y) (h1:y<562949953421312) (w:World):
 Calls Tryz.prog 74 #[.int .u64 y] w fun e w' =>∃a',e= .returned (.slice (some ⟨a',0,none⟩) 7 7)∧Fr nob w w' ∧BV (newb w w') w' (some ⟨a',0,none⟩) 7 (uv y):=by
 have hl:(uv y).length=7:=by rw[uv_is7 y h0 (by omega)];rfl
 have hmk:∀w,(Instr.makeSlice 27 (.int .i64 7) (.int .i64 7)).run Tryz.prog w= .ok (.slice (some ⟨w.heap.size,0,none⟩) 7 7) (w.alloc (.cells #[.int .u8 0, .int .u8 0, .int .u8 0, .int .u8 0, .int .u8 0, .int .u8 0, .int .u8 0] 5)):=fun _=>by kernel_rfl
 have hs:=size_any y (by omega) w
 rw[hl] at hs
 have Hl:=Lib.hid hl
 clear hl
 go_enter Tryz.func74,Tryz.ntmps74
 go_wp2_with fail
 refine hs.mono ?_
 rintro e w1 ⟨rfl,rfl⟩
 clear hs
 go_wp2
 refine wp_loop_rounds 8 ?_
 rw[rounds_succ]
 go_wp2
 rw[rounds_succ]
 go_wp2
 rw[rounds_succ]
 go_wp2
 rw[rounds_succ]
 go_wp2
 rw[rounds_succ]
 go_wp2
 rw[rounds_succ]
 go_wp2
 rw[rounds_succ]
 go_wp2
 rw[rounds_succ]
 go_wp2
 go_ret
 refine ⟨w1.heap.size,rfl,(Fr.refl nob w1).alloc _,?_⟩
 have b0:bits .or .u8 ((y:Int)%256) 128=(y:Int)%128+128:=by rw[or128 _ (by omega) (by omega)];omega
 have b1:bits .or .u8 (((y:Int) / 128)%256) 128=((y:Int) / 128)%128+128:=by rw[or128 _ (by omega) (by omega)];omega
 have b2:bits .or .u8 (((y:Int) / 16384)%256) 128=((y:Int) / 16384)%128+128:=by rw[or128 _ (by omega) (by omega)];omega
 have b3:bits .or .u8 (((y:Int) / 2097152)%256) 128=((y:Int) / 2097152)%128+128:=by rw[or128 _ (by omega) (by omega)];omega
 have b4:bits .or .u8 (((y:Int) / 268435456)%256) 128=((y:Int) / 268435456)%128+128:=by rw[or128 _ (by omega) (by omega)];omega
 have b5:bits .or .u8 (((y:Int) / 34359738368)%256) 128=((y:Int) / 34359738368)%128+128:=by rw[or128 _ (by omega) (by omega)];omega
 have b6:bits .andNot .u8 (bits .or .u8 ((y:Int) / 4398046511104) 128) 128=((y:Int) / 4398046511104):=by rw[or128 _ (by omega) (by omega),andNot128 _ (by omega) (by omega)];omega
 rw[b0,b1,b2,b3,b4,b5,b6]
 have h:=lit_of w1 (uv y) (by rw[Hl.out];omega)
 rw[Hl.out] at h
 have e:(bv (uv y)).toArray=#[.int .u8 ((y:Int)%128+128), .int .u8 (((y:Int) / 128)%128+128), .int .u8 (((y:Int) / 16384)%128+128), .int .u8 (((y:Int) / 2097152)%128+128), .int .u8 (((y:Int) / 268435456)%128+128), .int .u8 (((y:Int) / 34359738368)%128+128), .int .u8 ((y:Int) / 4398046511104)]:=by
  rw[uv_is7 y h0 (by omega)]
  simp[bv]
  omega
 rw[e] at h
 exact h
theorem uv_is8 (y:Nat) (h0:562949953421312≤y) (h1:y<72057594037927936):uv y=[UInt8.ofNat (y / 1%128+128),UInt8.ofNat (y / 128%128+128),UInt8.ofNat (y / 16384%128+128),UInt8.ofNat (y / 2097152%128+128),UInt8.ofNat (y / 268435456%128+128),UInt8.ofNat (y / 34359738368%128+128),UInt8.ofNat (y / 4398046511104%128+128),UInt8.ofNat (y / 562949953421312)]:=by
 rw[uv_great (x:=y) (by omega)]
 rw[uv_great (x:=(y / 128)) (by omega)]
 rw[show y / 128 / 128=y / 16384 by omega]
 rw[uv_great (x:=(y / 16384)) (by omega)]
 rw[show y / 16384 / 128=y / 2097152 by omega]
 rw[uv_great (x:=(y / 2097152)) (by omega)]
 rw[show y / 2097152 / 128=y / 268435456 by omega]
 rw[uv_great (x:=(y / 268435456)) (by omega)]
 rw[show y / 268435456 / 128=y / 34359738368 by omega]
 rw[uv_great (x:=(y / 34359738368)) (by omega)]
 rw[show y / 34359738368 / 128=y / 4398046511104 by omega]
 rw[uv_great (x:=(y / 4398046511104)) (by omega)]
 rw[show y / 4398046511104 / 128=y / 562949953421312 by omega]
 rw[uv_small (x:=(y / 562949953421312)) (by omega)]
 simp
set_option maxHeartbeats 4000000 in
set_option maxRecDepth 100000 in
theorem uint8 (y:Nat) (h0:562949953421312≤y) (h1:y<72057594037927936) (w:World):
 Calls Tryz.prog 74 #[.int .u64 y] w fun e w' =>∃a',e= .returned (.slice (some ⟨a',0,none⟩) 8 8)∧Fr nob w w' ∧BV (newb w w') w' (some ⟨a',0,none⟩) 8 (uv y):=by
 have hl:(uv y).length=8:=by rw[uv_is8 y h0 (by omega)];rfl
 have hmk:∀w,(Instr.makeSlice 27 (.int .i64 8) (.int .i64 8)).run Tryz.prog w= .ok (.slice (some ⟨w.heap.size,0,none⟩) 8 8) (w.alloc (.cells #[.int .u8 0, .int .u8 0, .int .u8 0, .int .u8 0, .int .u8 0, .int .u8 0, .int .u8 0, .int .u8 0] 5)):=fun _=>by kernel_rfl
 have hs:=size_any y (by omega) w
 rw[hl] at hs
 have Hl:=Lib.hid hl
 clear hl
 go_enter Tryz.func74,Tryz.ntmps74
 go_wp2_with fail
 refine hs.mono ?_
 rintro e w1 ⟨rfl,rfl⟩
 clear hs
 go_wp2
 refine wp_loop_rounds 9 ?_
 rw[rounds_succ]
 go_wp2
 rw[rounds_succ]
 go_wp2
 rw[rounds_succ]
 go_wp2
 rw[rounds_succ]
 go_wp2
 rw[rounds_succ]
 go_wp2
 rw[rounds_succ]
 go_wp2
 rw[rounds_succ]
 go_wp2
 rw[rounds_succ]
 go_wp2
 rw[rounds_succ]
 go_wp2
 go_ret
 refine ⟨w1.heap.size,rfl,(Fr.refl nob w1).alloc _,?_⟩
 have b0:bits .or .u8 ((y:Int)%256) 128=(y:Int)%128+128:=by rw[or128 _ (by omega) (by omega)];omega
 have b1:bits .or .u8 (((y:Int) / 128)%256) 128=((y:Int) / 128)%128+128:=by rw[or128 _ (by omega) (by omega)];omega
 have b2:bits .or .u8 (((y:Int) / 16384)%256) 128=((y:Int) / 16384)%128+128:=by rw[or128 _ (by omega) (by omega)];omega
 have b3:bits .or .u8 (((y:Int) / 2097152)%256) 128=((y:Int) / 2097152)%128+128:=by rw[or128 _ (by omega) (by omega)];omega
 have b4:bits .or .u8 (((y:Int) / 268435456)%256) 128=((y:Int) / 268435456)%128+128:=by rw[or128 _ (by omega) (by omega)];omega
 have b5:bits .or .u8 (((y:Int) / 34359738368)%256) 128=((y:Int) / 34359738368)%128+128:=by rw[or128 _ (by omega) (by omega)];omega
 have b6:bits .or .u8 (((y:Int) / 4398046511104)%256) 128=((y:Int) / 4398046511104)%128+128:=by rw[or128 _ (by omega) (by omega)];omega
 have b7:bits .andNot .u8 (bits .or .u8 ((y:Int) / 562949953421312) 128) 128=((y:Int) / 562949953421312):=by rw[or128 _ (by omega) (by omega),andNot128 _ (by omega) (by omega)];omega
 rw[b0,b1,b2,b3,b4,b5,b6,b7]
 have h:=lit_of w1 (uv y) (by rw[Hl.out];omega)
 rw[Hl.out] at h
 have e:(bv (uv y)).toArray=#[.int .u8 ((y:Int)%128+128), .int .u8 (((y:Int) / 128)%128+128), .int .u8 (((y:Int) / 16384)%128+128), .int .u8 (((y:Int) / 2097152)%128+128), .int .u8 (((y:Int) / 268435456)%128+128), .int .u8 (((y:Int) / 34359738368)%128+128), .int .u8 (((y:Int) / 4398046511104)%128+128), .int .u8 ((y:Int) / 562949953421312)]:=by
  rw[uv_is8 y h0 (by omega)]
  simp[bv]
  omega
 rw[e] at h
 exact h
theorem uv_is9 (y:Nat) (h0:72057594037927936≤y) (h1:y<9223372036854775808):uv y=[UInt8.ofNat (y / 1%128+128),UInt8.ofNat (y / 128%128+128),UInt8.ofNat (y / 16384%128+128),UInt8.ofNat (y / 2097152%128+128),UInt8.ofNat (y / 268435456%128+128),UInt8.ofNat (y / 34359738368%128+128),UInt8.ofNat (y / 4398046511104%128+128),UInt8.ofNat (y / 562949953421312%128+128),UInt8.ofNat (y / 72057594037927936)]:=by
 rw[uv_great (x:=y) (by omega)]
 rw[uv_great (x:=(y / 128)) (by omega)]
 rw[show y / 128 / 128=y / 16384 by omega]
 rw[uv_great (x:=(y / 16384)) (by omega)]
 rw[show y / 16384 / 128=y / 2097152 by omega]
 rw[uv_great (x:=(y / 2097152)) (by omega)]
 rw[show y / 2097152 / 128=y / 268435456 by omega]
 rw[uv_great (x:=(y / 268435456)) (by omega)]
 rw[show y / 268435456 / 128=y / 34359738368 by omega]
 rw[uv_great (x:=(y / 34359738368)) (by omega)]
 rw[show y / 34359738368 / 128=y / 4398046511104 by omega]
 rw[uv_great (x:=(y / 4398046511104)) (by omega)]
 rw[show y / 4398046511104 / 128=y / 562949953421312 by omega]
 rw[uv_great (x:=(y / 562949953421312)) (by omega)]
 rw[show y / 562949953421312 / 128=y / 72057594037927936 by omega]
 rw[uv_small (x:=(y / 72057594037927936)) (by omega)]
 simp
set_option maxHeartbeats 4000000 in
set_option maxRecDepth 100000 in
theorem uint9 (y:Nat) (h0:72057594037927936≤y) (h1:y<9223372036854775808) (w:World):
 Calls Tryz.prog 74 #[.int .u64 y] w fun e w' =>∃a',e= .returned (.slice (some ⟨a',0,none⟩) 9 9)∧Fr nob w w' ∧BV (newb w w') w' (some ⟨a',0,none⟩) 9 (uv y):=by
 have hl:(uv y).length=9:=by rw[uv_is9 y h0 (by omega)];rfl
 have hmk:∀w,(Instr.makeSlice 27 (.int .i64 9) (.int .i64 9)).run Tryz.prog w= .ok (.slice (some ⟨w.heap.size,0,none⟩) 9 9) (w.alloc (.cells #[.int .u8 0, .int .u8 0, .int .u8 0, .int .u8 0, .int .u8 0, .int .u8 0, .int .u8 0, .int .u8 0, .int .u8 0] 5)):=fun _=>by kernel_rfl
 have hs:=size_any y (by omega) w
 rw[hl] at hs
 have Hl:=Lib.hid hl
 clear hl
 go_enter Tryz.func74,Tryz.ntmps74
 go_wp2_with fail
 refine hs.mono ?_
 rintro e w1 ⟨rfl,rfl⟩
 clear hs
 go_wp2
 refine wp_loop_rounds 10 ?_
 rw[rounds_succ]
 go_wp2
 rw[rounds_succ]
 go_wp2
 rw[rounds_succ]
 go_wp2
 rw[rounds_succ]
 go_wp2
 rw[rounds_succ]
 go_wp2
 rw[rounds_succ]
 go_wp2
 rw[rounds_succ]
 go_wp2
 rw[rounds_succ]
 go_wp2
 rw[rounds_succ]
 go_wp2
 rw[rounds_succ]
 go_wp2
 go_ret
 refine ⟨w1.heap.size,rfl,(Fr.refl nob w1).alloc _,?_⟩
 have b0:bits .or .u8 ((y:Int)%256) 128=(y:Int)%128+128:=by rw[or128 _ (by omega) (by omega)];omega
 have b1:bits .or .u8 (((y:Int) / 128)%256) 128=((y:Int) / 128)%128+128:=by rw[or128 _ (by omega) (by omega)];omega
 have b2:bits .or .u8 (((y:Int) / 16384)%256) 128=((y:Int) / 16384)%128+128:=by rw[or128 _ (by omega) (by omega)];omega
 have b3:bits .or .u8 (((y:Int) / 2097152)%256) 128=((y:Int) / 2097152)%128+128:=by rw[or128 _ (by omega) (by omega)];omega
 have b4:bits .or .u8 (((y:Int) / 268435456)%256) 128=((y:Int) / 268435456)%128+128:=by rw[or128 _ (by omega) (by omega)];omega
 have b5:bits .or .u8 (((y:Int) / 34359738368)%256) 128=((y:Int) / 34359738368)%128+128:=by rw[or128 _ (by omega) (by omega)];omega
 have b6:bits .or .u8 (((y:Int) / 4398046511104)%256) 128=((y:Int) / 4398046511104)%128+128:=by rw[or128 _ (by omega) (by omega)];omega
 have b7:bits .or .u8 (((y:Int) / 562949953421312)%256) 128=((y:Int) / 562949953421312)%128+128:=by rw[or128 _ (by omega) (by omega)];omega
 have b8:bits .andNot .u8 (bits .or .u8 ((y:Int) / 72057594037927936) 128) 128=((y:Int) / 72057594037927936):=by rw[or128 _ (by omega) (by omega),andNot128 _ (by omega) (by omega)];omega
 rw[b0,b1,b2,b3,b4,b5,b6,b7,b8]
 have h:=lit_of w1 (uv y) (by rw[Hl.out];omega)
 rw[Hl.out] at h
 have e:(bv (uv y)).toArray=#[.int .u8 ((y:Int)%128+128), .int .u8 (((y:Int) / 128)%128+128), .int .u8 (((y:Int) / 16384)%128+128), .int .u8 (((y:Int) / 2097152)%128+128), .int .u8 (((y:Int) / 268435456)%128+128), .int .u8 (((y:Int) / 34359738368)%128+128), .int .u8 (((y:Int) / 4398046511104)%128+128), .int .u8 (((y:Int) / 562949953421312)%128+128), .int .u8 ((y:Int) / 72057594037927936)]:=by
  rw[uv_is9 y h0 (by omega)]
  simp[bv]
  omega
 rw[e] at h
 exact h
theorem uv_is10 (y:Nat) (h0:9223372036854775808≤y) (h1:y<1180591620717411303424):uv y=[UInt8.ofNat (y / 1%128+128),UInt8.ofNat (y / 128%128+128),UInt8.ofNat (y / 16384%128+128),UInt8.ofNat (y / 2097152%128+128),UInt8.ofNat (y / 268435456%128+128),UInt8.ofNat (y / 34359738368%128+128),UInt8.ofNat (y / 4398046511104%128+128),UInt8.ofNat (y / 562949953421312%128+128),UInt8.ofNat (y / 72057594037927936%128+128),UInt8.ofNat (y / 9223372036854775808)]:=by
 rw[uv_great (x:=y) (by omega)]
 rw[uv_great (x:=(y / 128)) (by omega)]
 rw[show y / 128 / 128=y / 16384 by omega]
 rw[uv_great (x:=(y / 16384)) (by omega)]
 rw[show y / 16384 / 128=y / 2097152 by omega]
 rw[uv_great (x:=(y / 2097152)) (by omega)]
 rw[show y / 2097152 / 128=y / 268435456 by omega]
 rw[uv_great (x:=(y / 268435456)) (by omega)]
 rw[show y / 268435456 / 128=y / 34359738368 by omega]
 rw[uv_great (x:=(y / 34359738368)) (by omega)]
 rw[show y / 34359738368 / 128=y / 4398046511104 by omega]
 rw[uv_great (x:=(y / 4398046511104)) (by omega)]
 rw[show y / 4398046511104 / 128=y / 562949953421312 by omega]
 rw[uv_great (x:=(y / 562949953421312)) (by omega)]
 rw[show y / 562949953421312 / 128=y / 72057594037927936 by omega]
 rw[uv_great (x:=(y / 72057594037927936)) (by omega)]
 rw[show y / 72057594037927936 / 128=y / 9223372036854775808 by omega]
 rw[uv_small (x:=(y / 9223372036854775808)) (by omega)]
 simp
set_option maxHeartbeats 4000000 in
set_option maxRecDepth 100000 in
theorem uint10 (y:Nat) (h0:9223372036854775808≤y) (h1:y<18446744073709551616) (w:World):
 Calls Tryz.prog 74 #[.int .u64 y] w fun e w' =>∃a',e= .returned (.slice (some ⟨a',0,none⟩) 10 10)∧Fr nob w w' ∧BV (newb w w') w' (some ⟨a',0,none⟩) 10 (uv y):=by
 have hl:(uv y).length=10:=by rw[uv_is10 y h0 (by omega)];rfl
 have hmk:∀w,(Instr.makeSlice 27 (.int .i64 10) (.int .i64 10)).run Tryz.prog w= .ok (.slice (some ⟨w.heap.size,0,none⟩) 10 10) (w.alloc (.cells #[.int .u8 0, .int .u8 0, .int .u8 0, .int .u8 0, .int .u8 0, .int .u8 0, .int .u8 0, .int .u8 0, .int .u8 0, .int .u8 0] 5)):=fun _=>by kernel_rfl
 have hs:=size_any y (by omega) w
 rw[hl] at hs
 have Hl:=Lib.hid hl
 clear hl
 go_enter Tryz.func74,Tryz.ntmps74
 go_wp2_with fail
 refine hs.mono ?_
 rintro e w1 ⟨rfl,rfl⟩
 clear hs
 go_wp2
 refine wp_loop_rounds 11 ?_
 rw[rounds_succ]
 go_wp2
 rw[rounds_succ]
 go_wp2
 rw[rounds_succ]
 go_wp2
 rw[rounds_succ]
 go_wp2
 rw[rounds_succ]
 go_wp2
 rw[rounds_succ]
 go_wp2
 rw[rounds_succ]
 go_wp2
 rw[rounds_succ]
 go_wp2
 rw[rounds_succ]
 go_wp2
 rw[rounds_succ]
 go_wp2
 rw[rounds_succ]
 go_wp2
 go_ret
 refine ⟨w1.heap.size,rfl,(Fr.refl nob w1).alloc _,?_⟩
 have b0:bits .or .u8 ((y:Int)%256) 128=(y:Int)%128+128:=by rw[or128 _ (by omega) (by omega)];omega
 have b1:bits .or .u8 (((y:Int) / 128)%256) 128=((y:Int) / 128)%128+128:=by rw[or128 _ (by omega) (by omega)];omega
 have b2:bits .or .u8 (((y:Int) / 16384)%256) 128=((y:Int) / 16384)%128+128:=by rw[or128 _ (by omega) (by omega)];omega
 have b3:bits .or .u8 (((y:Int) / 2097152)%256) 128=((y:Int) / 2097152)%128+128:=by rw[or128 _ (by omega) (by omega)];omega
 have b4:bits .or .u8 (((y:Int) / 268435456)%256) 128=((y:Int) / 268435456)%128+128:=by rw[or128 _ (by omega) (by omega)];omega
 have b5:bits .or .u8 (((y:Int) / 34359738368)%256) 128=((y:Int) / 34359738368)%128+128:=by rw[or128 _ (by omega) (by omega)];omega
 have b6:bits .or .u8 (((y:Int) / 4398046511104)%256) 128=((y:Int) / 4398046511104)%128+128:=by rw[or128 _ (by omega) (by omega)];omega
 have b7:bits .or .u8 (((y:Int) / 562949953421312)%256) 128=((y:Int) / 562949953421312)%128+128:=by rw[or128 _ (by omega) (by omega)];omega
 have b8:bits .or .u8 (((y:Int) / 72057594037927936)%256) 128=((y:Int) / 72057594037927936)%128+128:=by rw[or128 _ (by omega) (by omega)];omega
 have b8:bits .or .u8 ((y:Int) / 72057594037927936) 128=((y:Int) / 72057594037927936)%128+128:=or128 _ (by omega) (by omega)
 have b9:bits .andNot .u8 (bits .or .u8 ((y:Int) / 9223372036854775808) 128) 128=((y:Int) / 9223372036854775808):=by rw[or128 _ (by omega) (by omega),andNot128 _ (by omega) (by omega)];omega
 rw[b0,b1,b2,b3,b4,b5,b6,b7,b8,b9]
 have h:=lit_of w1 (uv y) (by rw[Hl.out];omega)
 rw[Hl.out] at h
 have e:(bv (uv y)).toArray=#[.int .u8 ((y:Int)%128+128), .int .u8 (((y:Int) / 128)%128+128), .int .u8 (((y:Int) / 16384)%128+128), .int .u8 (((y:Int) / 2097152)%128+128), .int .u8 (((y:Int) / 268435456)%128+128), .int .u8 (((y:Int) / 34359738368)%128+128), .int .u8 (((y:Int) / 4398046511104)%128+128), .int .u8 (((y:Int) / 562949953421312)%128+128), .int .u8 (((y:Int) / 72057594037927936)%128+128), .int .u8 ((y:Int) / 9223372036854775808)]:=by
  rw[uv_is10 y h0 (by omega)]
  simp[bv]
  omega
 rw[e] at h
 exact h
theorem uint_any (y:Nat) (hy:y<18446744073709551616) (w:World):
 Calls Tryz.prog 74 #[.int .u64 y] w fun e w' =>∃a' cap',e= .returned (.slice a' (uv y).length cap')∧Fr nob w w' ∧BV (newb w w') w' a' cap' (uv y):=by
 have K:∀n,(uv y).length=n→Calls Tryz.prog 74 #[.int .u64 y] w (fun e w' =>∃a',e= .returned (.slice (some ⟨a',0,none⟩) n n)∧Fr nob w w' ∧BV (newb w w') w' (some ⟨a',0,none⟩) n (uv y))→
  Calls Tryz.prog 74 #[.int .u64 y] w fun e w' =>∃a' cap',e= .returned (.slice a' (uv y).length cap')∧Fr nob w w' ∧BV (newb w w') w' a' cap' (uv y):=by
  rintro n rfl h
  refine h.mono ?_
  rintro e w' ⟨a',rfl,h2,h3⟩
  exact ⟨_,_,rfl,h2,h3⟩
 by_cases h1:y<128
 · exact K 1 (by rw[uv_is1 y (by omega) (by omega)];rfl) (uint1 y (by omega) (by omega) w)
 by_cases h2:y<16384
 · exact K 2 (by rw[uv_is2 y (by omega) (by omega)];rfl) (uint2 y (by omega) (by omega) w)
 by_cases h3:y<2097152
 · exact K 3 (by rw[uv_is3 y (by omega) (by omega)];rfl) (uint3 y (by omega) (by omega) w)
 by_cases h4:y<268435456
 · exact K 4 (by rw[uv_is4 y (by omega) (by omega)];rfl) (uint4 y (by omega) (by omega) w)
 by_cases h5:y<34359738368
 · exact K 5 (by rw[uv_is5 y (by omega) (by omega)];rfl) (uint5 y (by omega) (by omega) w)
 by_cases h6:y<4398046511104
 · exact K 6 (by rw[uv_is6 y (by omega) (by omega)];rfl) (uint6 y (by omega) (by omega) w)
 by_cases h7:y<562949953421312
 · exact K 7 (by rw[uv_is7 y (by omega) (by omega)];rfl) (uint7 y (by omega) (by omega) w)
 by_cases h8:y<72057594037927936
 · exact K 8 (by rw[uv_is8 y (by omega) (by omega)];rfl) (uint8 y (by omega) (by omega) w)
 by_cases h9:y<9223372036854775808
 · exact K 9 (by rw[uv_is9 y (by omega) (by omega)];rfl) (uint9 y (by omega) (by omega) w)
 exact K 10 (by rw[uv_is10 y (by omega) (by omega)];rfl) (uint10 y (by omega) (by omega) w)
def lenBytes (l:List UInt8):List UInt8:=uv l.length++l
set_option maxRecDepth 100000 in
set_option maxHeartbeats 2000000 in
theorem wireBytes_any (S:Nat→Prop) (w:World) (a:Option Addr) (cap:Nat) (l:List UInt8) (h:BV S w a cap l) (hl:l.length≤1099511627776):
 Calls Tryz.prog 116 #[.slice a l.length cap] w fun e w' =>∃a' cap',e= .returned (.slice a' (lenBytes l).length cap')∧Fr nob w w' ∧BV (newb w w') w' a' cap' (lenBytes l):=by
 have H:=Lib.hid h
 clear h
 have hu:=fun w=>uint_any l.length (by omega) w
 have hcv:IntKind.u64.wrap (l.length:Int)=(l.length:Int):=by rw[IntKind.wrap_u64];omega
 have hul:=uv_len10 (x:=l.length) (by omega)
 go_enter Tryz.func116,Tryz.ntmps116
 go_wp2_with fail
 refine (hu _).mono ?_
 rintro e w1 ⟨a1,c1,rfl,hf1,hv1⟩
 clear hu
 have hs:=BV.src (H.out.frN hf1) (P:=Tryz.prog) Tryz.underlying27
 have HS:=Lib.hid hs
 have HV:=Lib.hid hv1
 clear hs hv1
 go_wp2_with (at_builtin;refine wpList_append_vec rfl _ _ _ _ rfl rfl HV.out.vec _ _ _ Tryz.underlying27 inf_u8 rfl _ l.length (bv l) rfl HS.out (by unfold maxLen;omega) (by omega) ?_)
 intro a2 c2 w2 hv2 hf2 _
 go_wp2_with fail
 go_ret
 refine ⟨a2,c2,by simp[lenBytes],hf1.trans hf2 (fun k hk hk' =>absurd hk'.1 (by omega)),?_⟩
 unfold BV lenBytes
 rw[List.length_append,bv_append]
 exact hv2.mono (grow_newb w w1 w2 hf1.size hf2.size)
theorem bytes_of (w:World) (l:List UInt8) (hl:l.length≤1099511627776):∃a' cap' w',(convert 9 27 (.string (bs l))).run Tryz.prog w= .ok (.slice a' l.length cap') w' ∧Fr nob w w' ∧BV (newb w w') w' a' cap' l:=by
 have hr:=run_bytes_of_string (P:=Tryz.prog) w 9 27 5 (bs l) Tryz.underlying9 Tryz.underlying27 Tryz.underlying5
 rw[bs_size] at hr
 have hge:=grownCap_ge w l.length 0 5
 have hcm:=grownCap_le_maxLen w l.length 0 5 (by unfold maxLen;omega)
 generalize grownCap w l.length 0 5=g at hr hge hcm
 have hbs:(bs l).size=l.length:=rfl
 have hsz:(bytesRow (bs l) g).size=g:=by
  unfold bytesRow
  rw[hbs]
  simp[bs]
  omega
 have htl:(bytesRow (bs l) g).toList.take l.length=bv l:=by
  have:(bytesRow (bs l) g).toList=bv l++List.replicate (g - l.length) (.int .u8 0):=by
   unfold bytesRow
   rw[hbs]
   simp[bs,bv]
  rw[this,List.take_append_of_le_length (by simp),List.take_of_length_le (by simp)]
 rw[hsz] at hr
 refine ⟨_,_,_,hr,(Fr.refl nob w).drew.alloc _,?_⟩
 refine Vec.whole' (heap_new w.drew _) (fun j hj=>?_) ⟨Nat.le_refl _,by simp⟩ hge hcm (by rw[hsz];omega) (by rw[Nat.mul_one];exact htl) (bv_one l)
 have hh:=heap_new w.drew (.cells (bytesRow (bs l) g) 5 (g,g+1))
 simp only[World.frozen?]
 rw[show (w.drew.alloc (.cells (bytesRow (bs l) g) 5 (g,g+1))).heap[w.heap.size]? =_ from hh]
 simp
 omega
end Go.Proofs.YtibpkfnfcdbiiaaGreatDoor
