/- Reading bytes, in plain words: what is taken, and what is left; or what is wrong, and what was left then. Numbers of either sign, and bytes, written and read. Bytes taken off bytes: wire.GetBytes, and the reader's Bytes. -/
import Derived.Test.YtibpkfnfcdbiiaaGreatDoorBunL
import Derived.Test.YtibpkfnfcdbiiaaGreatDoorBunC
import Derived.Test.YtibpkfnfcdbiiaaGreatDoorEvo
import Derived.OwnWalk
namespace Go.Proofs.YtibpkfnfcdbiiaaGreatDoor
set_option linter.unusedSimpArgs false
open Go.RowKit
set_option linter.unusedVariables false
inductive Res (α:Type) where
 | ok (v:α) (d:List UInt8)
 | bad (e:Nat) (d:List UInt8)
def Res.pre {α:Type} (l:List α):Res (List α)→Res (List α)
 | .ok v d=> .ok (l++v) d
 | .bad e d=> .bad e d
theorem Res.pre_nil {α:Type} (x:Res (List α)):x.pre []=x:=by cases x<;>rfl
theorem Res.pre_pre {α:Type} (l m:List α) (x:Res (List α)):(x.pre m).pre l=x.pre (l++m):=by cases x<;>simp[Res.pre]
theorem Res.pre_ok {α:Type} {l v:List α} {x:Res (List α)} {d:List UInt8}:x.pre l= .ok v d↔∃v',v=l++v' ∧x= .ok v' d:=by
 cases x
 · simp only[Res.pre,Res.ok.injEq]
   constructor
   · rintro ⟨rfl,rfl⟩;exact ⟨_,rfl,rfl,rfl⟩
   · rintro ⟨v',rfl,rfl,rfl⟩;exact ⟨rfl,rfl⟩
 · simp[Res.pre]
abbrev m64:Nat:=18446744073709551615
def pUint (most:Nat) (d:List UInt8):Res Nat:=
 if (getUv 0 0 d).2.2=0 then (if (getUv 0 0 d).1≤most then .ok (getUv 0 0 d).1 (d.drop (getUv 0 0 d).2.1) else .bad 3 d) else .bad (getUv 0 0 d).2.2 d
theorem pUint_ok {most z:Nat} {d r:List UInt8}:pUint most d= .ok z r↔z<18446744073709551616∧z≤most∧d=uv z++r:=by
 obtain ⟨g,hg⟩:∃g,g=getUv 0 0 d:=⟨_,rfl⟩
 obtain ⟨x,n,e⟩:=g
 unfold pUint
 rw[←hg]
 constructor
 · intro h
   dsimp only at h
   split at h
   · rename_i he
     subst he
     split at h
     · cases h
       obtain ⟨h1,h2,r',h3⟩:=getUv_iff.1 hg.symm
       subst h3
       refine ⟨h1,by assumption,?_⟩
       rw[h2,List.drop_left]
     · cases h
   · cases h
 · rintro ⟨h1,h2,h3⟩
   have:=(getUv_iff (l:=d) (z:=z) (n:=(uv z).length)).2 ⟨h1,rfl,r,h3⟩
   rw[←hg] at this
   cases this
   dsimp only
   rw[if_pos rfl,if_pos h2,h3,List.drop_left]
def zig (x:Int):Nat:=if 0≤x then (2*x).toNat else (-2*x - 1).toNat
def zag (n:Nat):Int:=if n%2=0 then (n / 2:Nat) else -((n / 2:Nat):Int) - 1
theorem zag_zig (x:Int):zag (zig x)=x:=by
 unfold zag zig
 split
 · rw[if_pos (by omega)];omega
 · rw[if_neg (by omega)];omega
theorem zig_zag (n:Nat):zig (zag n)=n:=by
 unfold zag
 split
 · unfold zig;rw[if_pos (by omega)];omega
 · unfold zig;rw[if_neg (by omega)];omega
theorem zig_lt {x:Int} (h:I64 x):zig x<18446744073709551616:=by
 obtain ⟨h1,h2⟩:=h
 unfold zig;split<;>omega
theorem zag_I64 {n:Nat} (h:n<18446744073709551616):I64 (zag n):=by
 unfold zag I64;split<;>omega
def pInt (d:List UInt8):Res Int:=match pUint m64 d with
 | .ok z r=> .ok (zag z) r
 | .bad e r=> .bad e r
def wInt (x:Int):List UInt8:=uv (zig x)
theorem pInt_ok {x:Int} {d r:List UInt8}:pInt d= .ok x r↔I64 x∧d=wInt x++r:=by
 unfold pInt wInt
 constructor
 · intro h
   split at h
   · rename_i z r' hz
     cases h
     obtain ⟨h1,h2,h3⟩:=pUint_ok.1 hz
     exact ⟨zag_I64 h1,by rw[zig_zag];exact h3⟩
   · cases h
 · rintro ⟨h1,h2⟩
   rw[pUint_ok.2 ⟨zig_lt h1,by have:=zig_lt h1;unfold m64;omega,h2⟩]
   simp only[zag_zig]
def pByte:List UInt8→Res UInt8
 | []=> .bad 5 []
 | c::r=> .ok c r
theorem pByte_ok {c:UInt8} {d r:List UInt8}:pByte d= .ok c r↔d=c::r:=by
 cases d<;>simp[pByte]
def getBs (most:Nat) (d:List UInt8):List UInt8×Nat×Nat:=
 if (getUv 0 0 d).2.2=0 then (if most<(getUv 0 0 d).1 then ([],0,13) else if d.length - (getUv 0 0 d).2.1<(getUv 0 0 d).1 then ([],0,5) else ((d.drop (getUv 0 0 d).2.1).take (getUv 0 0 d).1,(getUv 0 0 d).2.1+(getUv 0 0 d).1,0)) else ([],0,(getUv 0 0 d).2.2)
def pBytes (most:Nat) (d:List UInt8):Res (List UInt8):=if (getBs most d).2.2=0 then .ok (getBs most d).1 (d.drop (getBs most d).2.1) else .bad (getBs most d).2.2 d
theorem pBytes_ok {most:Nat} {b d r:List UInt8}:pBytes most d= .ok b r↔b.length<18446744073709551616∧b.length≤most∧d=lenBytes b++r:=by
 unfold pBytes getBs lenBytes
 obtain ⟨g,hg⟩:∃g,g=getUv 0 0 d:=⟨_,rfl⟩
 obtain ⟨x,n,e⟩:=g
 rw[←hg]
 dsimp only
 constructor
 · intro h
   by_cases he:e=0
   · subst he
     simp only[if_true] at h
     by_cases hm:most<x
     · simp[hm] at h
     · by_cases hs:d.length - n<x
       · simp[hm,hs] at h
       · simp only[if_neg hm,if_neg hs,if_true] at h
         cases h
         obtain ⟨h1,h2,r',h3⟩:=getUv_iff.1 hg.symm
         subst h3
         have hl:((((uv x)++r').drop n).take x).length=x:=by
          rw[List.length_take,List.length_drop];omega
         rw[hl]
         refine ⟨h1,by omega,?_⟩
         rw[←List.drop_drop,h2,List.drop_left,List.append_assoc,List.take_append_drop]
   · simp[he] at h
 · rintro ⟨h1,h2,h3⟩
   have:=(getUv_iff (l:=d) (z:=b.length) (n:=(uv b.length).length)).2 ⟨h1,rfl,b++r,by rw[h3,List.append_assoc]⟩
   rw[←hg] at this
   cases this
   have hd:d.length=(uv b.length).length+b.length+r.length:=by rw[h3];simp;omega
   simp only[if_true]
   rw[if_neg (show ¬most<b.length by omega),if_neg (show ¬d.length - (uv b.length).length<b.length by omega),if_pos rfl]
   dsimp only
   rw[h3,←List.drop_drop,List.append_assoc,List.drop_left,List.take_left,List.drop_left]
theorem xor_ones64 (a:Nat) (ha:a<18446744073709551616):a ^^^ 18446744073709551615=18446744073709551615 - a:=by
 have h:(BitVec.ofNat 64 a ^^^ BitVec.allOnes 64).toNat=18446744073709551615 - a:=by
  rw[BitVec.xor_allOnes,BitVec.toNat_not,BitVec.toNat_ofNat,Nat.mod_eq_of_lt (by omega)]
 rw[BitVec.toNat_xor,BitVec.toNat_ofNat,Nat.mod_eq_of_lt (by omega)] at h
 simpa using h
theorem zig_walk {x:Int} (h:I64 x):bits BinOp.xor IntKind.u64 (IntKind.u64.wrap (IntKind.i64.wrap (x*2))) (IntKind.u64.wrap (x / 9223372036854775808))=((zig x:Nat):Int):=by
 obtain ⟨h1,h2⟩:=h
 have hw:IntKind.u64.wrap (IntKind.i64.wrap (x*2))=(x*2)%18446744073709551616:=by
  rw[IntKind.wrap_u64,IntKind.wrap_i64];omega
 rw[hw]
 by_cases h0:0≤x
 · rw[show x / 9223372036854775808=0 by omega,show IntKind.u64.wrap 0=((0:Nat):Int) from rfl,show x*2%18446744073709551616=(((2*x).toNat:Nat):Int) by omega,bits_xor64 _ _ (by omega) (by omega),Nat.xor_zero]
   unfold zig;rw[if_pos h0]
 · rw[show x / 9223372036854775808= -1 by omega,show IntKind.u64.wrap (-1)=((18446744073709551615:Nat):Int) from rfl,show x*2%18446744073709551616=(((x*2%18446744073709551616).toNat:Nat):Int) by omega,bits_xor64 _ _ (by omega) (by omega),xor_ones64 _ (by omega)]
   unfold zig;rw[if_neg h0];omega
theorem zag_walk {n:Nat} (h:n<18446744073709551616):bits BinOp.xor IntKind.i64 ((n:Int) / 2) (IntKind.i64.wrap (-IntKind.i64.wrap (bits BinOp.and IntKind.u64 (n:Int) 1)))=zag n:=by
 have ha:bits BinOp.and IntKind.u64 (n:Int) 1=((n%2:Nat):Int):=by
  simp only[bits]
  rw[show (BitVec.ofInt IntKind.u64.bits (n:Int)&&& BitVec.ofInt IntKind.u64.bits (1:Int)).toNat=n%2 from by
   show (BitVec.ofInt 64 (n:Int)&&& BitVec.ofInt 64 ((1:Nat):Int)).toNat=n%2
   simp only[BitVec.toNat_and,BitVec.ofInt_natCast,BitVec.toNat_ofNat]
   rw[Nat.mod_eq_of_lt (show n<2 ^ 64 by omega)]
   exact Nat.and_one_is_mod n]
  exact IntWalk.u64_in _ (by omega)
 rw[ha]
 unfold zag
 rcases Nat.mod_two_eq_zero_or_one n with h0 | h0
 · rw[h0,if_pos rfl]
   simp only[bits]
   rw[show (BitVec.ofInt IntKind.i64.bits ((n:Int) / 2) ^^^ BitVec.ofInt IntKind.i64.bits (IntKind.i64.wrap (-IntKind.i64.wrap ((0:Nat):Int)))).toNat=n / 2 from by
    show (BitVec.ofInt 64 (((n / 2:Nat)):Int) ^^^ BitVec.ofInt 64 (((0:Nat)):Int)).toNat=n / 2
    simp only[BitVec.toNat_xor,BitVec.ofInt_natCast,BitVec.toNat_ofNat]
    rw[Nat.mod_eq_of_lt (show n / 2<2 ^ 64 by omega)]
    simp]
   rw[IntKind.wrap_i64];omega
 · rw[h0,if_neg (by omega)]
   simp only[bits]
   rw[show (BitVec.ofInt IntKind.i64.bits ((n:Int) / 2) ^^^ BitVec.ofInt IntKind.i64.bits (IntKind.i64.wrap (-IntKind.i64.wrap ((1:Nat):Int)))).toNat=18446744073709551615 - n / 2 from by
    show (BitVec.ofInt 64 (((n / 2:Nat)):Int) ^^^ BitVec.allOnes 64).toNat=18446744073709551615 - n / 2
    rw[BitVec.toNat_xor,BitVec.ofInt_natCast,BitVec.toNat_ofNat,Nat.mod_eq_of_lt (show n / 2<2 ^ 64 by omega)]
    exact xor_ones64 _ (by omega)]
   rw[IntKind.wrap_i64];omega
theorem zig_any (x:Int) (hx:I64 x) (w:World):Calls Tryz.prog 144 #[.int .i64 x] w fun e w' =>e= .returned (.int .u64 (zig x))∧w' =w:=by
 have hz:=Lib.hid (zig_walk hx)
 rw[IntWalk.i64_left] at hz
 obtain ⟨h1,h2⟩:=hx
 go_enter Tryz.func144,Tryz.ntmps144
 go_wp2_with fail
 go_ret
 exact ⟨congrArg (fun z=>Ending.returned (Value.int .u64 z)) hz.out,rfl⟩
theorem zag_any (n:Nat) (hn:n<18446744073709551616) (w:World):Calls Tryz.prog 190 #[.int .u64 n] w fun e w' =>e= .returned (.int .i64 (zag n))∧w' =w:=by
 have hz:=Lib.hid (zag_walk hn)
 rw[IntWalk.i64_left,IntWalk.i64_left] at hz
 go_enter Tryz.func190,Tryz.ntmps190
 go_wp2_with fail
 go_ret
 exact ⟨congrArg (fun z=>Ending.returned (Value.int .i64 z)) hz.out,rfl⟩
theorem wireInt_any (x:Int) (hx:I64 x) (w:World):
 Calls Tryz.prog 120 #[.int .i64 x] w fun e w' =>∃a' cap',e= .returned (.slice a' (wInt x).length cap')∧Fr nob w w' ∧BV (newb w w') w' a' cap' (wInt x):=by
 have hz:=zig_any x hx w
 have hu:=uint_any (zig x) (zig_lt hx) w
 go_enter Tryz.func120,Tryz.ntmps120
 go_wp2_with fail
 refine hz.mono ?_
 rintro e w1 ⟨rfl,rfl⟩
 go_wp2_with fail
 refine hu.mono ?_
 rintro e w1 ⟨a1,c1,rfl,hf1,hv1⟩
 have HV:=Lib.hid hv1
 clear hv1
 go_wp2_with fail
 go_ret
 exact ⟨a1,c1,rfl,hf1,HV.out⟩
def At (w:World) (r:Nat) (a:Option Addr) (l:List UInt8) (cap:Nat) (d:List UInt8):Prop:=(∃p,l=p++d)∧Rd w r a l.length cap (l.length - d.length) true
theorem At.le {w:World} {r:Nat} {a:Option Addr} {l:List UInt8} {cap:Nat} {d:List UInt8} (h:At w r a l cap d):d.length≤l.length:=by
 obtain ⟨⟨p,rfl⟩,_⟩:=h;simp
theorem At.drop {w:World} {r:Nat} {a:Option Addr} {l:List UInt8} {cap:Nat} {d:List UInt8} (h:At w r a l cap d):l.drop (l.length - d.length)=d:=by
 obtain ⟨⟨p,rfl⟩,_⟩:=h
 rw[show (p++d).length - d.length=p.length by simp,List.drop_left]
theorem At.fr {T:Nat→Prop} {w w' :World} {r:Nat} {a:Option Addr} {l:List UInt8} {cap:Nat} {d:List UInt8} (h:At w r a l cap d) (hf:Fr T w w') (hr:¬T r):At w' r a l cap d:=⟨h.1,h.2.fr hf hr⟩
theorem At.next {w w' :World} {r:Nat} {a:Option Addr} {l:List UInt8} {cap:Nat} {d:List UInt8} (h:At w r a l cap d) {k:Nat} (hk:k≤d.length) (hw:Rd w' r a l.length cap (l.length - d.length+k) true):At w' r a l cap (d.drop k):=by
 have hle:=h.le
 obtain ⟨⟨p,rfl⟩,_⟩:=h
 refine ⟨⟨p++d.take k,by rw[List.append_assoc,List.take_append_drop]⟩,?_⟩
 rw[show (p++d).length - (d.drop k).length=(p++d).length - d.length+k by simp;omega]
 exact hw
def ROut {α:Type} (T:Nat→Prop) (w w' :World) (r:Nat) (a:Option Addr) (l:List UInt8) (cap:Nat) (o:Res α) (V:α→Ending→Prop) (e:Ending):Prop:=
 Fr T w w' ∧match o with
  | .ok v d=>V v e∧At w' r a l cap d
  | .bad c d=>e= .panicked (broken r c)∧c≠0∧c<256∧At w' r a l cap d
theorem ROut.ok {α:Type} {T:Nat→Prop} {w w' :World} {r:Nat} {a:Option Addr} {l:List UInt8} {cap:Nat} {o:Res α} {V:α→Ending→Prop} {e:Ending} (h:ROut T w w' r a l cap o V e) {v:α} {d:List UInt8} (ho:o= .ok v d):V v e∧Fr T w w' ∧At w' r a l cap d:=by
 subst ho;exact ⟨h.2.1,h.1,h.2.2⟩
theorem ROut.bad {α:Type} {T:Nat→Prop} {w w' :World} {r:Nat} {a:Option Addr} {l:List UInt8} {cap:Nat} {o:Res α} {V:α→Ending→Prop} {e:Ending} (h:ROut T w w' r a l cap o V e) {c:Nat} {d:List UInt8} (ho:o= .bad c d):e= .panicked (broken r c)∧Fr T w w' ∧At w' r a l cap d∧c≠0∧c<256:=by
 subst ho;exact ⟨h.2.1,h.1,h.2.2.2.2,h.2.2.1,h.2.2.2.1⟩
theorem rUint_o (S:Nat→Prop) (w:World) (r:Nat) (a:Option Addr) (cap:Nat) (l d:List UInt8) (hA:At w r a l cap d) (hb:BV S w a cap l) (hn:l.length≤1099511627776) (most:Nat) (hm:most<18446744073709551616):
 Calls Tryz.prog 109 #[.pointer (some ⟨r,0,none⟩), .int .u64 most] w fun e w' =>ROut (fun k=>k=r) w w' r a l cap (pUint most d) (fun z e=>e= .returned (.int .u64 z)) e:=by
 have hd:=hA.drop
 have hle:=hA.le
 have hgn:=@getUv_n d
 obtain ⟨g,hg⟩:∃g,g=getUv 0 0 d:=⟨_,rfl⟩
 have he:=getUv_err d 0 0
 unfold pUint
 rw[←hg] at hgn he ⊢
 obtain ⟨x,n,e0⟩:=g
 dsimp only at hgn he ⊢
 by_cases h0:e0=0
 · subst h0
   by_cases hz:x≤most
   · rw[if_pos rfl,if_pos hz]
     refine (uint_ok S r a cap _ l most x n w hA.2 hb hn (by omega) hm (by rw[hd];exact hg.symm) hz).mono ?_
     rintro e w' ⟨rfl,hf,hr⟩
     exact ⟨hf,rfl,hA.next hgn hr⟩
   · rw[if_pos rfl,if_neg hz]
     refine (uint_over S r a cap _ l most x n w hA.2 hb hn (by omega) hm (by rw[hd];exact hg.symm) (by omega)).mono ?_
     rintro e w' ⟨rfl,hf⟩
     exact ⟨hf.any,rfl,by omega,by omega,hA.fr hf id⟩
 · rw[if_neg h0]
   refine (uint_bad S r a cap _ l most x n w hA.2 hb hn (by omega) hm e0 (by rw[hd];exact hg.symm) h0 (by omega)).mono ?_
   rintro e w' ⟨rfl,hf⟩
   exact ⟨hf.any,rfl,by omega,by omega,hA.fr hf id⟩
theorem rInt_o (S:Nat→Prop) (w:World) (r:Nat) (a:Option Addr) (cap:Nat) (l d:List UInt8) (hA:At w r a l cap d) (hb:BV S w a cap l) (hn:l.length≤1099511627776):
 Calls Tryz.prog 179 #[.pointer (some ⟨r,0,none⟩)] w fun e w' =>ROut (fun k=>k=r) w w' r a l cap (pInt d) (fun z e=>e= .returned (.int .i64 z)) e:=by
 have hc:=rUint_o S w r a cap l d hA hb hn m64 (by unfold m64;omega)
 unfold pInt
 cases ho:pUint m64 d with
 | ok z d' =>
   have hz:=(pUint_ok.1 ho).1
   rw[ho] at hc
   go_enter Tryz.func179,Tryz.ntmps179
   go_wp2_with fail
   refine hc.mono ?_
   intro e w1 hr
   obtain ⟨rfl,hf,hA1⟩:=hr.ok rfl
   have HA:=Lib.hid hA1
   clear hr hA1 hc
   go_wp2_with fail
   refine (zag_any z hz w1).mono ?_
   rintro e w2 ⟨rfl,rfl⟩
   go_wp2_with fail
   go_ret
   exact ⟨hf,rfl,HA.out⟩
 | bad c d' =>
   rw[ho] at hc
   go_enter Tryz.func179,Tryz.ntmps179
   go_wp2_with fail
   refine hc.mono ?_
   intro e w1 hr
   obtain ⟨rfl,hf,hA1,h1,h2⟩:=hr.bad rfl
   have HA:=Lib.hid hA1
   have H12:=Lib.hid (⟨h1,h2⟩:_∧_)
   clear hr hA1 hc h1 h2
   go_wp2_with fail
   exact ⟨rfl,hf,rfl,H12.out.1,H12.out.2,HA.out⟩
theorem rByte_o (S:Nat→Prop) (w:World) (r:Nat) (hSr:¬S r) (a:Option Addr) (cap:Nat) (l d:List UInt8) (hA:At w r a l cap d) (hb:BV S w a cap l) (hn:l.length≤1099511627776):
 Calls Tryz.prog 108 #[.pointer (some ⟨r,0,none⟩)] w fun e w' =>ROut (fun k=>k=r) w w' r a l cap (pByte d) (fun z e=>e= .returned (.int .u8 z.toNat)) e:=by
 have hd:=hA.drop
 have hle:=hA.le
 cases d with
 | nil=>
   refine (byte_bad r a cap _ l w hA.2 hn (by simp)).mono ?_
   rintro e w' ⟨rfl,hf⟩
   exact ⟨hf.any,rfl,by omega,by omega,hA.fr hf id⟩
 | cons c d=>
   have hlt:l.length - (c::d).length<l.length:=by simp at hle ⊢;omega
   have hc:l[l.length - (c::d).length]=c:=by
    rw[List.drop_eq_getElem_cons hlt] at hd
    exact (List.cons.inj hd).1
   refine (byte_ok S r a cap _ l w hA.2 hb hn hlt hSr).mono ?_
   rintro e w' ⟨rfl,hf,hr⟩
   rw[hc]
   exact ⟨hf,rfl,hA.next (k:=1) (by simp) hr⟩
theorem getBs_n (most:Nat) (d:List UInt8):(getBs most d).2.1≤d.length:=by
 have:=@getUv_n d
 unfold getBs
 split
 · split
   · simp
   · split
     · simp
     · dsimp only;omega
 · simp
theorem getBs_len (most:Nat) (d:List UInt8):(getBs most d).1.length≤d.length:=by
 unfold getBs
 split
 · split
   · simp
   · split
     · simp
     · dsimp only;rw[List.length_take,List.length_drop];omega
 · simp
theorem getBs_err (most:Nat) (d:List UInt8):(getBs most d).2.2<256:=by
 have:=getUv_err d 0 0
 unfold getBs
 split
 · split
   · dsimp only;omega
   · split<;>(dsimp only;omega)
 · dsimp only;omega
def GBPost (w w' :World) (g:List UInt8×Nat×Nat) (e:Ending):Prop:=∃a' c',e= .returned (.tuple #[.slice a' g.1.length c', .int .i64 g.2.1, .int .i64 g.2.2])∧Fr nob w w' ∧BV (newb w w') w' a' c' g.1
set_option maxRecDepth 100000 in
set_option maxHeartbeats 4000000 in
theorem getBytes_any (S:Nat→Prop) (w:World) (a:Option Addr) (cap:Nat) (d:List UInt8) (h:BV S w a cap d) (hl:d.length≤1099511627776) (most:Nat) (hm:most≤1099511627776):
 Calls Tryz.prog 146 #[.slice a d.length cap, .int .i64 most] w fun e w' =>GBPost w w' (getBs most d) e:=by
 have hg:=getuint_any S w a cap d h hl
 obtain ⟨g,hgg⟩:∃g,g=getUv 0 0 d:=⟨_,rfl⟩
 have hn:=@getUv_n d
 have hx:=@getUv_lt d
 have he:=getUv_err d 0 0
 obtain ⟨R,hR⟩:∃R,R=getBs most d:=⟨_,rfl⟩
 rw[←hR]
 unfold getBs at hR
 rw[←hgg] at hg hn hx he hR
 obtain ⟨x,n,e0⟩:=g
 dsimp only at hg hn hx he hR
 have H:=Lib.hid h
 clear h hgg
 by_cases h0:e0=0
 · subst h0
   rw[if_pos rfl] at hR
   by_cases h1:most<x
   · rw[if_pos h1] at hR
     subst hR
     have hx' :¬(x:Int)≤most:=by omega
     go_enter Tryz.func146,Tryz.ntmps146
     go_wp2_with fail
     refine hg.mono ?_
     rintro e w1 ⟨rfl,rfl⟩
     go_wp2_with fail
     go_ret3
     exact ⟨none,0,rfl,Fr.refl _ _,BV.nil _ _⟩
   · rw[if_neg h1] at hR
     have hx' :(x:Int)≤most:=by omega
     by_cases h2:d.length - n<x
     · rw[if_pos h2] at hR
       subst hR
       have hx2:(d.length:Int) - n<x:=by omega
       go_enter Tryz.func146,Tryz.ntmps146
       go_wp2_with fail
       refine hg.mono ?_
       rintro e w1 ⟨rfl,rfl⟩
       go_wp2_with fail
       go_ret3
       exact ⟨none,0,rfl,Fr.refl _ _,BV.nil _ _⟩
     · rw[if_neg h2] at hR
       have hx2:¬(d.length:Int) - n<x:=by omega
       have hcap:=H.out.vec.le
       obtain ⟨a',hs,hv,_⟩:=sub_of H.out (some (.int .i64 (n:Int))) (some (.int .i64 ((n:Int)+x))) none n (n+x) cap (fun w' =>bounds_lh .i64 .i64 n (n+x) _ _ rfl (by omega) (by omega) (by omega) w') (by omega) (by omega) (by omega) (Nat.le_refl _)
       rw[show n+x - n=x by omega] at hs hv
       have HR:=Lib.hid hR
       have HV:=Lib.hid hv
       have hlen:((d.drop n).take x).length=x:=by rw[List.length_take,List.length_drop];omega
       have HLEN:=Lib.hid hlen
       clear hR hv hlen
       go_enter Tryz.func146,Tryz.ntmps146
       go_wp2_with fail
       refine hg.mono ?_
       rintro e w1 ⟨rfl,rfl⟩
       have hsrc:=BV.src (HV.out.frN ((Fr.refl nob w1).alloc (.cells #[] 5 (0,0)))) (P:=Tryz.prog) Tryz.underlying27
       rw[HLEN.out] at hsrc
       have HSRC:=Lib.hid hsrc
       clear hsrc
       go_wp2_with (at_builtin;refine wpList_append_vec rfl _ _ _ _ rfl rfl (Vec.empty w1 _ 1) _ _ _ Tryz.underlying27 inf_u8 rfl _ x _ rfl HSRC.out (by unfold maxLen;omega) (by omega) ?_)
       intro a2 c2 w2 hv2 hf2 _
       have HV2:=Lib.hid hv2
       clear hv2
       go_wp2_with fail
       go_ret3
       rw[HR.out]
       refine ⟨a2,c2,by dsimp only;rw[HLEN.out];simp,frN_newb w1 _ hf2,?_⟩
       unfold BV
       have h:=Vec.mono HV2.out (grow_newb w1 _ _ ((Fr.refl nob w1).alloc _).size hf2.size)
       dsimp only
       rw[HLEN.out]
       simpa using h
 · rw[if_neg h0] at hR
   subst hR
   have hx' :((e0:Int) != 0)=true:=by simp;omega
   go_enter Tryz.func146,Tryz.ntmps146
   go_wp2_with fail
   refine hg.mono ?_
   rintro e w1 ⟨rfl,rfl⟩
   go_wp2_with fail
   go_ret3
   exact ⟨none,0,rfl,Fr.refl _ _,BV.nil _ _⟩
set_option maxRecDepth 100000 in
set_option maxHeartbeats 4000000 in
theorem rBytes_o (S:Nat→Prop) (w:World) (r:Nat) (hSr:¬S r) (a:Option Addr) (cap:Nat) (l d:List UInt8) (hA:At w r a l cap d) (hb:BV S w a cap l) (hn:l.length≤1099511627776) (most:Nat) (hm:most≤1099511627776) (hr:r<w.heap.size):
 Calls Tryz.prog 148 #[.pointer (some ⟨r,0,none⟩), .int .i64 most] w fun e w' =>ROut (fun k=>k=r) w w' r a l cap (pBytes most d) (fun b e=>∃a' c',e= .returned (.slice a' b.length c')∧BV (newb w w') w' a' c' b) e:=by
 have hd:=hA.drop
 have hle:=hA.le
 obtain ⟨i,hi⟩:∃i,i=l.length - d.length:=⟨_,rfl⟩
 have hRd:=hA.2
 rw[←hi] at hd hRd
 have hil:i≤l.length:=by omega
 have hlv:=live_any r a l.length cap i true w hRd
 obtain ⟨a',qs,hbs,_⟩:=sub_from hb .i64 (i:Int) i rfl hil
 rw[hd] at qs hbs
 have hid:i+d.length=l.length:=by omega
 have hgn:=getBs_n most d
 have hge:=getBs_err most d
 have H:=Lib.hid hRd
 have HA:=Lib.hid hA
 have HB:=Lib.hid hbs
 have k0:=hRd.c0
 have k1:=hRd.c1
 have q0:∀x,Fr nob w x→x.cell? ⟨r,0,none⟩=some (.slice a l.length cap):=fun x hx=>hx.cell k0 id
 have q1:∀x,Fr nob w x→x.cell? ⟨r,1,none⟩=some (.int .i64 i):=fun x hx=>hx.cell k1 id
 unfold pBytes
 have hdl:d.length≤1099511627776:=by omega
 have hgb:=fun x (hx:Fr nob w x)=>getBytes_any S x a' (cap - i) d (hbs.frN hx) hdl most hm
 obtain ⟨g,hg⟩:∃g,g=getBs most d:=⟨_,rfl⟩
 rw[←hg] at hgn hge hgb ⊢
 have HN:=Lib.hid (⟨hid,hgn,hge,hr⟩:_∧_∧_∧_)
 have HI:=Lib.hid hi
 clear k0 k1 hbs hA hRd hd hle hi hid hgn hge hg hil hb
 obtain ⟨b,n,e0⟩:=g
 go_enter Tryz.func148,Tryz.ntmps148
 go_wp2_with fail
 refine hlv.mono ?_
 rintro e w0 ⟨rfl,rfl⟩
 clear hlv
 go_wp2_with fail
 refine wp_region_ord [(0,true),(1,true),(2,true),(3,true),(4,true),(5,true),(6,true),(7,true),(8,true),(9,true),(10,false),(11,true),(12,true),(13,true),(14,true),(15,true),(16,true),(17,true)] (Fr nob w0) rfl (by kernel_rfl) (by kernel_rfl) (by decide) (fun c a d v w h=>by cases d<;>exact h) ((Fr.refl nob w0).drew) (fun ops hops hS=>?_)
 repeat (apply oF hops (by rfl) (by first | exact .plain rfl | exact .y hops rfl rfl rfl rfl);(focus (intro x hx;go_simp;rfl));go_simp)
 refine oA hops (by rfl) (by first | exact .plain rfl | exact .y hops rfl rfl rfl rfl) (fun K hK=>?_)
 go_wp2_with fail
 refine (hgb _ (Fr.refl nob w0).drew).mono ?_
 rintro e w1 ⟨a2,c2,rfl,hf1,hv1⟩
 have HV:=Lib.hid hv1
 clear hv1
 have hf1' :Fr nob w0 w1:=(Fr.refl nob w0).drew.andN hf1
 refine hK _ _ ⟨_,fun _ h=>h,?_,?_⟩
 · exact hf1'
 repeat (apply oF hops (by rfl) (by first | exact .plain rfl | exact .y hops rfl rfl rfl rfl);(focus (intro x hx;go_simp;rfl));go_simp)
 apply wpOrd_nil
 by_cases h0:e0=0
 · subst h0
   go_wp2_with fail
   refine (take_ok r _ _ _ i n _ (H.out.fr hf1' id) hn (by have h1:=HN.out.1;have h2:n≤d.length:=HN.out.2.1;omega)).mono ?_
   rintro e w3 ⟨rfl,hf3,H3⟩
   have H3' :=Lib.hid H3
   clear H3
   go_wp2_with fail
   go_ret
   refine ⟨hf1'.any.trans' hf3,?_⟩
   have hA1:=HA.out.fr hf1' id
   refine ⟨⟨a2,c2,rfl,?_⟩,hA1.next HN.out.2.1 (by rw[←HI.out];exact H3'.out)⟩
   have hs:=hf1'.size
   exact (HV.out.fr hf3 (fun k hk he=>by have h1:w0.heap.size≤k:=hk.1;have h2:=HN.out.2.2.2;omega)).mono (fun k hk=>⟨hk.1,Nat.lt_of_lt_of_le hk.2 hf3.size⟩)
 · have hx' :((e0:Int) == 0)=false:=by simp;omega
   go_wp2_with fail
   refine (take_bad r _ _ _ i n e0 _ (H.out.fr hf1' id) h0 HN.out.2.2.1).mono ?_
   rintro e w3 ⟨rfl,rfl⟩
   go_wp2_with fail
   refine ⟨rfl,hf1'.any,?_⟩
   exact ⟨rfl,h0,HN.out.2.2.1,HA.out.fr hf1' id⟩
end Go.Proofs.YtibpkfnfcdbiiaaGreatDoor
