/- Texts of a column, in plain words. column.Shared, walked. writeTexts, walked. takeTexts, walked. -/
import Derived.Test.YtibpkfnfcdbiiaaGreatDoorBunO
namespace Go.Proofs.YtibpkfnfcdbiiaaGreatDoor
set_option linter.unusedSimpArgs false
open Go.RowKit Go.Lib
set_option linter.unusedVariables false
def shared:List UInt8→List UInt8→Nat
 | x::a,y::b=>if x=y then shared a b+1 else 0
 | _,_=>0
theorem shared_le:∀(a b:List UInt8),shared a b≤a.length∧shared a b≤b.length
 | [],_=>by simp[shared]
 | _::_,[]=>by simp[shared]
 | x::a,y::b=>by
   have h:=shared_le a b
   simp only[shared,List.length_cons]
   split<;>omega
theorem shared_take:∀(a b:List UInt8),a.take (shared a b)=b.take (shared a b)
 | [],b=>by simp[shared]
 | x::a,[]=>by simp[shared]
 | x::a,y::b=>by
   have h:=shared_take a b
   simp only[shared]
   split
   · rename_i h2;rw[List.take_succ_cons,List.take_succ_cons,h,h2]
   · simp
theorem shared_go:∀(k:Nat) (a b:List UInt8),a.take k=b.take k→k≤a.length→k≤b.length→shared a b=k+shared (a.drop k) (b.drop k)
 | 0,a,b,_,_,_=>by simp
 | k+1,[],b,_,h,_=>by simp at h
 | k+1,x::a,[],_,_,h=>by simp at h
 | k+1,x::a,y::b,h,h1,h2=>by
   rw[List.take_succ_cons,List.take_succ_cons] at h
   obtain ⟨h3,h4⟩:=List.cons.inj h
   simp only[List.length_cons] at h1 h2
   simp only[shared,if_pos h3,List.drop_succ_cons]
   rw[shared_go k a b h4 (by omega) (by omega)];omega
def Texts (strict:Bool) (l:List Cel):Prop:=∀c∈l,c.num=0∧c.text.length≤256∧(strict=true→validD c.text=true)
def wTexts (last:List UInt8):List Cel→List UInt8
 | []=>[]
 | c::l=>uv (shared last c.text)++lenBytes (c.text.drop (shared last c.text))++wTexts c.text l
def pText (strict:Bool) (last:List UInt8) (d:List UInt8):Res (List UInt8):=
 match pUint last.length d with
 | .bad e r=> .bad e r
 | .ok k r=>match pBytes (256 - k) r with
   | .bad e r=> .bad e r
   | .ok b r=>if shared last (last.take k++b)=k then (if (!strict || validD (last.take k++b))=true then .ok (last.take k++b) r else .bad 11 r) else .bad 6 r
def pTexts (strict:Bool) (last:List UInt8):Nat→List UInt8→Res (List Cel)
 | 0,d=> .ok [] d
 | n+1,d=>match pText strict last d with
   | .bad e r=> .bad e r
   | .ok t r=>(pTexts strict t n r).pre [⟨0,t⟩]
theorem pText_ok {strict:Bool} {last d t r:List UInt8} (hl:last.length≤256):pText strict last d= .ok t r↔t.length≤256∧(strict=true→validD t=true)∧d=uv (shared last t)++lenBytes (t.drop (shared last t))++r:=by
 unfold pText
 constructor
 · intro h
   split at h
   · cases h
   · rename_i k r1 h1
     split at h
     · cases h
     · rename_i b r2 h2
       split at h
       · rename_i hs
         split at h
         · rename_i hv
           cases h
           obtain ⟨_,hk,h3⟩:=pUint_ok.1 h1
           obtain ⟨_,hb,h4⟩:=pBytes_ok.1 h2
           rw[hs]
           have hkl:(last.take k).length=k:=by rw[List.length_take];omega
           refine ⟨by rw[List.length_append,hkl];omega,?_,?_⟩
           · intro hst;rw[hst] at hv;simpa using hv
           · rw[List.drop_append_of_le_length (by omega),List.drop_of_length_le (by omega),List.nil_append,h3,h4,List.append_assoc]
         · cases h
       · cases h
 · rintro ⟨h1,h2,h3⟩
   obtain ⟨hk1,hk2⟩:=shared_le last t
   have htk:=shared_take last t
   obtain ⟨k,hk⟩:∃k,k=shared last t:=⟨_,rfl⟩
   rw[←hk] at hk1 hk2 htk h3
   have e1:pUint last.length d= .ok k (lenBytes (t.drop k)++r):=pUint_ok.2 ⟨by omega,hk1,by rw[h3,List.append_assoc]⟩
   have e2:pBytes (256 - k) (lenBytes (t.drop k)++r)= .ok (t.drop k) r:=pBytes_ok.2 ⟨by rw[List.length_drop];omega,by rw[List.length_drop];omega,rfl⟩
   rw[e1]
   simp only[e2]
   rw[htk,List.take_append_drop,if_pos hk.symm,if_pos]
   cases strict
   · rfl
   · simpa using h2 rfl
theorem pTexts_ok (strict:Bool):∀(n:Nat) (last d r:List UInt8) (l:List Cel),last.length≤256→(pTexts strict last n d= .ok l r↔l.length=n∧Texts strict l∧d=wTexts last l++r)
 | 0,last,d,r,l,hl=>by
   constructor
   · intro h;cases h;exact ⟨rfl,by simp[Texts],rfl⟩
   · rintro ⟨h1,_,h3⟩
     obtain rfl:=List.length_eq_zero_iff.1 h1
     subst h3;rfl
 | n+1,last,d,r,l,hl=>by
   unfold pTexts
   constructor
   · intro h
     split at h
     · cases h
     · rename_i t r1 h1
       obtain ⟨h2,h3,h4⟩:=(pText_ok hl).1 h1
       obtain ⟨l',rfl,h5⟩:=Res.pre_ok.1 h
       obtain ⟨h6,h7,h8⟩:=(pTexts_ok strict n t r1 r l' h2).1 h5
       refine ⟨by simp[h6],?_,?_⟩
       · intro c hc
         rcases List.mem_cons.1 hc with rfl | hc
         · exact ⟨rfl,h2,h3⟩
         · exact h7 c hc
       · show d=uv (shared last t)++lenBytes (t.drop (shared last t))++wTexts t l' ++r
         rw[h4,h8];simp only[List.append_assoc]
   · rintro ⟨h1,h2,h3⟩
     cases l with
     | nil=>simp at h1
     | cons c l=>
       obtain ⟨v,t⟩:=c
       obtain ⟨h4,h5,h6⟩:=h2 ⟨v,t⟩ (by simp)
       simp only at h4 h5 h6
       subst h4
       have hp:pText strict last d= .ok t (wTexts t l++r):=(pText_ok hl).2 ⟨h5,h6,by rw[h3];simp only[wTexts,List.append_assoc]⟩
       rw[hp]
       exact Res.pre_ok.2 ⟨l,rfl,(pTexts_ok strict n t _ r l h5).2 ⟨by simpa using h1,fun c hc=>h2 c (List.mem_cons_of_mem _ hc),rfl⟩⟩
end Go.Proofs.YtibpkfnfcdbiiaaGreatDoor
namespace Go.Proofs.YtibpkfnfcdbiiaaGreatDoor
set_option linter.unusedSimpArgs false
open Go.RowKit
set_option linter.unusedVariables false
theorem bs_at {l:List UInt8} {k:Nat} (h:k<l.length):(bs l)[k]'h=l[k]:=rfl
theorem shared_at {a b:List UInt8} {n:Nat} (ht:a.take n=b.take n) (ha:n<a.length) (hb:n<b.length):(a[n]=b[n]→a.take (n+1)=b.take (n+1))∧(a[n]≠b[n]→shared a b=n):=by
 constructor
 · intro h
   rw[List.take_succ_eq_append_getElem ha,List.take_succ_eq_append_getElem hb,ht,h]
 · intro h
   rw[shared_go n a b ht (by omega) (by omega),List.drop_eq_getElem_cons ha,List.drop_eq_getElem_cons hb]
   simp only[shared,if_neg h];rfl
set_option maxRecDepth 100000 in
set_option maxHeartbeats 8000000 in
theorem shared_any (a b:List UInt8) (w:World) (ha:a.length≤lim) (hb:b.length≤lim):
 Calls Tryz.prog 187 #[.string (bs a), .string (bs b)] w fun e w' =>e= .returned (.int .i64 (shared a b))∧Fr nob w w' :=by
 unfold lim at ha hb
 have hsa:=bs_size a
 have hsb:=bs_size b
 go_enter Tryz.func187,Tryz.ntmps187
 go_wp2_with fail
 go_loopw [5] (fun v5 wr=>∃(n:Nat),v5= .int .i64 n∧n≤a.length∧n≤b.length∧a.take n=b.take n∧Ev w nob wr nob) (fun v5 _=>a.length - (intOf v5).toNat)
 case atStart=>exact ⟨0,rfl,Nat.zero_le _,Nat.zero_le _,by simp,Ev.start w⟩
 case round=>
  obtain ⟨n,rfl,hna,hnb,htk,hev⟩:=hrel
  have HEV:=Lib.hid hev
  have HTK:=Lib.hid htk
  clear hev htk
  by_cases hlt:n<a.length∧n<b.length
  · obtain ⟨hla,hlb⟩:=hlt
    have h:=shared_at HTK.out hla hlb
    have ia:=bs_at hla
    have ib:=bs_at hlb
    generalize a[n]=x at h ia
    generalize b[n]=y at h ib
    have HH:=Lib.hid h
    clear h
    have hmin:(n:Int)<min (a.length:Int) (b.length:Int):=by omega
    by_cases hxy:x=y
    · have htest:((((bs a)[n]'hla).toNat:Int) == (((bs b)[n]'hlb).toNat:Int))=true:=by rw[ia,ib,hxy];simp
      have hsh:=HH.out.1 hxy
      clear HH ia ib
      go_wp2_with fail
      refine wp_region_ord [(0,true),(1,true),(2,true),(3,true),(4,true),(5,true),(6,true),(7,true),(8,true),(9,true),(10,true),(11,true),(12,true),(13,true),(14,true),(15,true)] (Fr nob wr) rfl (by kernel_rfl) (by kernel_rfl) (by decide) (fun c a d v w h=>by cases d<;>exact h) ((Fr.refl nob wr).drew) (fun ops hops hS=>?_)
      obtain ⟨d1,hdw⟩:∃d,d=wr.drew:=⟨_,rfl⟩
      rw[←hdw] at hS ⊢
      have G1:Hid (Fr nob wr d1):=Lib.hid (by rw[hdw];exact (Fr.refl nob wr).drew)
      have E1:=Lib.hid (Ev.of G1.out HEV.out.lt)
      clear hdw
      repeat (first | (apply oF hops (by rfl) (by first | exact .plain rfl | exact .y hops rfl rfl rfl rfl);(focus (intro x hx;go_simp;rfl));go_simp) | (apply oS hops (by rfl) (by first | exact .n hops rfl rfl rfl rfl | exact .u hops rfl rfl rfl rfl);go_simp) | (apply oP hops (by rfl) (by first | exact .n hops rfl rfl rfl rfl | exact .u hops rfl rfl rfl rfl) (by assumption);go_simp))
      apply wpOrd_nil
      go_wp2_with fail
      go_roundw
      case rel=>exact ⟨n+1,by go_num,by omega,by omega,hsh,(HEV.out.trans E1.out)⟩
      case measure=>simp[intOf];omega
    · have htest:((((bs a)[n]'hla).toNat:Int) == (((bs b)[n]'hlb).toNat:Int))=false:=by
       rw[ia,ib,beq_eq_false_iff_ne]
       intro h
       exact hxy (UInt8.toNat_inj.1 (by omega))
      have hsh:=HH.out.2 hxy
      clear HH ia ib
      go_wp2_with fail
      refine wp_region_ord [(0,true),(1,true),(2,true),(3,true),(4,true),(5,true),(6,true),(7,true),(8,true),(9,true),(10,true),(11,true),(12,true),(13,true),(14,true),(15,true)] (Fr nob wr) rfl (by kernel_rfl) (by kernel_rfl) (by decide) (fun c a d v w h=>by cases d<;>exact h) ((Fr.refl nob wr).drew) (fun ops hops hS=>?_)
      obtain ⟨d2,hdw⟩:∃d,d=wr.drew:=⟨_,rfl⟩
      rw[←hdw] at hS ⊢
      have G2:Hid (Fr nob wr d2):=Lib.hid (by rw[hdw];exact (Fr.refl nob wr).drew)
      have E2:=Lib.hid (Ev.of G2.out HEV.out.lt)
      clear hdw
      repeat (first | (apply oF hops (by rfl) (by first | exact .plain rfl | exact .y hops rfl rfl rfl rfl);(focus (intro x hx;go_simp;rfl));go_simp) | (apply oS hops (by rfl) (by first | exact .n hops rfl rfl rfl rfl | exact .u hops rfl rfl rfl rfl);go_simp) | (apply oP hops (by rfl) (by first | exact .n hops rfl rfl rfl rfl | exact .u hops rfl rfl rfl rfl) (by assumption);go_simp))
      apply wpOrd_nil
      go_wp2_with fail
      go_ret
      exact ⟨by rw[hsh];rfl,((HEV.out.trans E2.out)).toN⟩
  · have hmin:decide ((n:Int)<min (a.length:Int) (b.length:Int))=false:=by rw[decide_eq_false_iff_not];omega
    have hsh:shared a b=n:=by
     have:=shared_go n a b HTK.out hna hnb
     rcases (show n=a.length∨n=b.length by omega) with h | h
     · rw[this,List.drop_of_length_le (by omega)];simp[shared]
     · rw[this,List.drop_of_length_le (l:=b) (by omega)];cases (a.drop n)<;>simp[shared]
    go_wp2_with fail
    refine wp_region_ord [(0,true),(1,true),(2,true),(3,true),(4,true),(5,true),(6,true),(7,true),(8,true),(9,true),(10,true),(11,true),(12,true),(13,true),(14,true),(15,true)] (Fr nob wr) rfl (by kernel_rfl) (by kernel_rfl) (by decide) (fun c a d v w h=>by cases d<;>exact h) ((Fr.refl nob wr).drew) (fun ops hops hS=>?_)
    obtain ⟨d3,hdw⟩:∃d,d=wr.drew:=⟨_,rfl⟩
    rw[←hdw] at hS ⊢
    have G3:Hid (Fr nob wr d3):=Lib.hid (by rw[hdw];exact (Fr.refl nob wr).drew)
    have E3:=Lib.hid (Ev.of G3.out HEV.out.lt)
    clear hdw
    repeat (first | (apply oF hops (by rfl) (by first | exact .plain rfl | exact .y hops rfl rfl rfl rfl);(focus (intro x hx;go_simp;rfl));go_simp) | (apply oS hops (by rfl) (by first | exact .n hops rfl rfl rfl rfl | exact .u hops rfl rfl rfl rfl);go_simp) | (apply oP hops (by rfl) (by first | exact .n hops rfl rfl rfl rfl | exact .u hops rfl rfl rfl rfl) (by assumption);go_simp))
    apply wpOrd_nil
    go_wp2_with fail
    go_ret
    exact ⟨by rw[hsh];rfl,((HEV.out.trans E3.out)).toN⟩
theorem bs_from (t:List UInt8) (k:Nat):(bs t).extract k (bs t).size=bs (t.drop k):=by
 apply ByteArray.ext
 rw[ByteArray.data_extract]
 simp only[bs]
 apply Array.toList_inj.1
 simp[ByteArray.size]
 exact List.take_of_length_le (by simp)
theorem bs_to (t:List UInt8) (k:Nat):(bs t).extract 0 k=bs (t.take k):=by
 apply ByteArray.ext
 rw[ByteArray.data_extract]
 simp only[bs]
 apply Array.toList_inj.1
 simp
theorem lenBytes_le256 {l:List UInt8} (h:l.length≤256):(lenBytes l).length≤266:=by
 have:=uv_len10 (x:=l.length) (by omega)
 unfold lenBytes;rw[List.length_append];omega
set_option maxRecDepth 100000 in
set_option maxHeartbeats 16000000 in
theorem writeTexts_any (S:Nat→Prop) (w:World) (b:Option Addr) (cb:Nat) (l:List Cel) (hl:SV rCel 2 S w b cb l) (hS:∀k,S k→k<w.heap.size) (hl2:l.length≤1048576) (ht:∀c∈l,c.text.length≤256):
 Calls Tryz.prog 168 #[.slice b l.length cb] w fun e w' =>WOut w w' (wTexts [] l) e:=by
 obtain ⟨E,hE⟩:∃E,E=wTexts [] l:=⟨_,rfl⟩
 rw[←hE]
 have HE:=Lib.hid hE
 have HT:=Lib.hid ht
 have hl' :=hl.within rCel_ok hS
 have HL:=Lib.hid (SV.keep rCel_ok hl')
 clear hl'
 clear hl hE ht
 go_enter Tryz.func168,Tryz.ntmps168
 go_wp2_with fail
 go_loopw [3,4,10] (fun v3 v4 v10 wr=>∃(k:Nat) (B:Nat→Prop) (p last:List UInt8) (a' :Option Addr) (c' :Nat),v10= .int .i64 k∧v4= .string (bs last)∧v3= .slice a' p.length c' ∧k≤l.length∧p.length≤300*k∧last.length≤256∧E=p++wTexts last (l.drop k)∧BV B wr a' c' p∧Ev w nob wr B) (fun _ _ v10 _=>l.length - (intOf v10).toNat)
 case atStart=>exact ⟨0,nob,[],[],none,0,rfl,rfl,rfl,Nat.zero_le _,Nat.zero_le _,by simp,HE.out,BV.nil _ _,Ev.start w⟩
 case round=>
  obtain ⟨k,B,p,last,a',c',rfl,rfl,rfl,hk,hpl,hla,hEk,hv,hev⟩:=hrel
  have HEV:=Lib.hid hev
  have HV:=Lib.hid hv
  have HEK:=Lib.hid hEk
  clear hev hv hEk
  by_cases hlt:k<l.length
  · have hEk:=HEK.out
    rw[List.drop_eq_getElem_cons hlt] at hEk
    obtain ⟨b1,off,rfl,_,_,_,c0,c1⟩:=cel_at (HL.out _ _ HEV.out) hlt
    have htl:=HT.out l[k] (List.getElem_mem hlt)
    generalize l[k]=c at hEk c0 c1 htl
    obtain ⟨v,t⟩:=c
    simp only at hEk c0 c1 htl
    unfold wTexts at hEk
    simp only at hEk
    obtain ⟨hs1,hs2⟩:=shared_le last t
    have hsh:=shared_any last t
    generalize shared last t=n at hsh hEk hs1 hs2
    have HEK1:=Lib.hid hEk
    clear hEk HEK
    have hul:=uv_len10 (x:=n) (by omega)
    have hdl:(t.drop n).length≤256:=by rw[List.length_drop];omega
    have hll:=lenBytes_le256 hdl
    obtain ⟨tn,htn⟩:∃tn,tn=t.drop n:=⟨_,rfl⟩
    have hex:(bs t).extract n (bs t).size=bs tn:=by rw[htn];exact bs_from t n
    have hex2:(bs t).extract n t.length=bs tn:=hex
    have hsz:=bs_size t
    rw[←htn] at HEK1 hdl hll
    have hcu:IntKind.u64.wrap (n:Int)=(n:Int):=by rw[IntKind.wrap_u64];omega
    clear htn
    obtain ⟨w2,hw2⟩:∃w2,w2=wr.alloc (.cells #[.int .u64 v, .string (bs t)] 74 (0,0)):=⟨_,rfl⟩
    have hB:=heap_new wr (.cells #[.int .u64 v, .string (bs t)] 74 (0,0))
    have hf2:Fr nob wr w2:=by rw[hw2];exact (Fr.refl nob wr).alloc _
    rw[←hw2] at hB
    obtain ⟨z,hz⟩:∃z,z=wr.heap.size:=⟨_,rfl⟩
    rw[←hz] at hB
    have hzB:¬B z:=fun h=>by have:=HEV.out.lt z h;omega
    have hzw:z<w2.heap.size:=heap_lt hB
    have q1:∀y,Fr B w2 y→y.cell? ⟨z,1,none⟩=some (.string (bs t)):=fun y hy=>by have:=cell_of (hy.heap hB hzB) 1;simpa using this
    have k1:w2.cell? ⟨z,1,none⟩=some (.string (bs t)):=q1 w2 (Fr.refl _ _)
    have HQ1:=Lib.hid q1
    have HF2:=Lib.hid hf2
    have HW2:=Lib.hid hw2
    have HZ:=Lib.hid hz
    have HZW:=Lib.hid hzw
    rw[hw2,hz] at k1
    clear hf2 hw2 hz hB hzB q1 hzw
    go_wp2_with fail
    rw[←HZ.out,←HW2.out]
    rw[←HZ.out,←HW2.out] at k1
    have E1:=Lib.hid (Ev.of HF2.out HEV.out.lt)
    have G1:=Lib.hid HF2.out
    refine (hsh w2 (by unfold lim;omega) (by unfold lim;omega)).mono ?_
    rintro e u2 ⟨rfl,hfr⟩
    have E2:=Lib.hid (Ev.of hfr E1.out.lt)
    have G2:=Lib.hid hfr
    clear hfr
    clear hsh
    go_wp2_with fail
    refine (uint_any n (by omega) u2).mono ?_
    rintro e u3 ⟨a3,c3,rfl,hfr,hv3⟩
    have E3:=Lib.hid (Ev.of hfr E2.out.lt)
    have G3:=Lib.hid hfr
    clear hfr
    have HV3:=Lib.hid (BV.keep (hv3.new E2.out.lt))
    clear hv3
    have HUS:=Lib.hid ((G2.out.andN G3.out)).size
    go_wp2_with (at_builtin;refine wpList_append_vec rfl _ _ _ _ rfl rfl (HV.out.vec.frN (G1.out.andN (G2.out.andN G3.out))) _ _ _ Tryz.underlying27 inf_u8 rfl _ (uv n).length _ rfl (((HV3.out _ _ (Ev.refl E3.out.lt))).src Tryz.underlying27) (by unfold maxLen;omega) (by omega) ?_)
    intro a6 c6 w6 hv6 hf6 _
    have EA:=Lib.hid (Ev.grow hf6 E3.out.lt)
    have HV6:=Lib.hid hv6
    clear hv6
    have HF6:=Lib.hid hf6
    have k6:w6.cell? ⟨z,1,none⟩=some (.string (bs t)):=HQ1.out w6 (((G2.out.andN G3.out)).any.trans' hf6)
    have HQ6:=Lib.hid (⟨((G2.out.andN G3.out)).any.trans' hf6,Nat.lt_of_lt_of_le HZW.out (((G2.out.andN G3.out)).any.trans' hf6).size⟩:_∧_)
    clear hf6
    obtain ⟨a7,g7,x7,hcv7,hf7,hv7⟩:=bytes_of w6 tn (by omega)
    have HX7:=Lib.hid hv7
    have HF7:=Lib.hid hf7
    clear hv7 hf7
    go_wp2_with fail
    clear hcv7
    have E4:=Lib.hid (Ev.of HF7.out EA.out.lt)
    have G4:=Lib.hid HF7.out
    have HV7:=Lib.hid (BV.keep (HX7.out.new EA.out.lt))
    refine (wireBytes_any _ _ a7 g7 tn (HV7.out _ _ (Ev.refl E4.out.lt)) (by omega)).mono ?_
    rintro e u5 ⟨a8,g8,rfl,hfr,hv8⟩
    have E5:=Lib.hid (Ev.of hfr E4.out.lt)
    have G5:=Lib.hid hfr
    clear hfr
    have HV8:=Lib.hid (BV.keep (hv8.new E4.out.lt))
    clear hv8
    go_wp2_with (at_builtin;refine wpList_append_vec rfl _ _ _ _ rfl rfl (HV6.out.frN (G4.out.andN G5.out)) _ _ _ Tryz.underlying27 inf_u8 rfl _ (lenBytes tn).length _ rfl (((HV8.out _ _ (Ev.refl E5.out.lt))).src Tryz.underlying27) (by unfold maxLen;omega) (by omega) ?_)
    intro a9 c9 w9 hv9 hf9 _
    have EC:=Lib.hid (Ev.grow hf9 E5.out.lt)
    have HV9:=Lib.hid (show BV _ w9 a9 c9 (p++uv n++lenBytes tn) by unfold BV;rw[List.length_append,List.length_append,bv_append,bv_append,List.append_assoc];exact hv9)
    have k9:w9.cell? ⟨z,1,none⟩=some (.string (bs t)):=by
     have hN:Fr nob w6 u5:=(G4.out.andN G5.out)
     have hg:=hN.any.trans' hf9
     refine HQ1.out w9 (HQ6.out.1.trans hg (fun j hj hj' =>?_))
     rcases hj' with h | h
     · exact h
     · have h1:=h.1
       have h2:=HUS.out
       omega
    clear hv9 hf9
    go_wp2_with fail
    go_roundw
    case rel=>
     refine ⟨k+1,_,p++uv n++lenBytes tn,t,a9,c9,by go_num,rfl,by simp only[List.length_append],by omega,by simp only[List.length_append];omega,htl,by rw[HEK1.out];simp only[List.append_assoc],HV9.out,(HEV.out.trans (E1.out.trans (E2.out.trans (E3.out.trans (EA.out.trans (E4.out.trans (E5.out.trans EC.out)))))))⟩
    case measure=>simp[intOf];omega
  · obtain rfl:k=l.length:=by omega
    have hEk:=HEK.out
    rw[List.drop_length] at hEk
    unfold wTexts at hEk
    rw[List.append_nil] at hEk
    have HEK1:=Lib.hid hEk
    clear hEk
    go_wp2_with fail
    go_ret
    refine ⟨a',c',by rw[HEK1.out];rfl,(HEV.out).toN,?_⟩
    rw[HEK1.out]
    exact HV.out.mono (HEV.out).news
def LaidR (w:World) (r:Nat):Prop:=∀u,Fr (fun k=>k=r) w u→Laid u
theorem LaidR.of {w0 w:World} {r:Nat} (h:Laid w0) (hf:Fr nob w0 w) (hr:w0.heap.size≤r):LaidR w r:=fun u hu=>h.frN (hf.trans hu (fun k hk e=>by omega))
theorem LaidR.go {w w1:World} {r:Nat} (h:LaidR w r) (hf:Fr (fun k=>k=r) w w1):LaidR w1 r:=fun u hu=>h u (hf.trans' hu)
theorem LaidR.now {w:World} {r:Nat} (h:LaidR w r):Laid w:=h w (Fr.refl _ _)
theorem pTexts_bad1 {strict:Bool} {last d d1:List UInt8} {n c:Nat} (h:pUint last.length d= .bad c d1):pTexts strict last (n+1) d= .bad c d1:=by
 unfold pTexts pText;rw[h]
theorem pTexts_bad2 {strict:Bool} {last d d1 d2:List UInt8} {n k c:Nat} (h:pUint last.length d= .ok k d1) (h2:pBytes (256 - k) d1= .bad c d2):pTexts strict last (n+1) d= .bad c d2:=by
 unfold pTexts pText;rw[h];simp only[h2]
theorem pTexts_bad3 {strict:Bool} {last d d1 d2 b:List UInt8} {n k:Nat} (h:pUint last.length d= .ok k d1) (h2:pBytes (256 - k) d1= .ok b d2) (h3:shared last (last.take k++b)≠k):pTexts strict last (n+1) d= .bad 6 d2:=by
 unfold pTexts pText;rw[h];simp only[h2,if_neg h3]
theorem pTexts_bad4 {strict:Bool} {last d d1 d2 b:List UInt8} {n k:Nat} (h:pUint last.length d= .ok k d1) (h2:pBytes (256 - k) d1= .ok b d2) (h3:shared last (last.take k++b)=k) (h4:(!strict || Lib.validD (last.take k++b))=false):pTexts strict last (n+1) d= .bad 11 d2:=by
 unfold pTexts pText;rw[h];simp only[h2,if_pos h3,h4];rfl
theorem pTexts_good {strict:Bool} {last d d1 d2 b:List UInt8} {n k:Nat} (h:pUint last.length d= .ok k d1) (h2:pBytes (256 - k) d1= .ok b d2) (h3:shared last (last.take k++b)=k) (h4:(!strict || Lib.validD (last.take k++b))=true):pTexts strict last (n+1) d=(pTexts strict (last.take k++b) n d2).pre [⟨0,last.take k++b⟩]:=by
 conv=>lhs;unfold pTexts pText
 rw[h];simp only[h2,if_pos h3,h4,if_true]
theorem mustN_ok (r:Nat) (a:Option Addr) (cap:Nat) (l d:List UInt8) (ok:Bool) (err:Nat) (w:World) (h:At w r a l cap d) (hok:ok=true∨err=0):
 Calls Tryz.prog 107 #[.pointer (some ⟨r,0,none⟩), .bool ok, .int .i64 err] w fun e w' =>e= .returned (.tuple #[])∧Fr nob w w' :=
 (must_ok r a l.length cap _ ok err w h.2 hok).mono (fun e w' h=>⟨h.1,by rw[h.2];exact Fr.refl _ _⟩)
theorem mustN_bad (r:Nat) (a:Option Addr) (cap:Nat) (l d:List UInt8) (err:Nat) (w:World) (h:At w r a l cap d) (he:err≠0) (he2:err<256):
 Calls Tryz.prog 107 #[.pointer (some ⟨r,0,none⟩), .bool false, .int .i64 err] w fun e w' =>e= .panicked (broken r err)∧Fr nob w w' :=
 (must_bad r a l.length cap _ err w h.2 he he2).mono (fun e w' h=>⟨h.1,by rw[h.2];exact Fr.refl _ _⟩)
set_option maxRecDepth 100000 in
set_option maxHeartbeats 16000000 in
theorem takeTexts_o (S:Nat→Prop) (w:World) (r:Nat) (hr:r<w.heap.size) (hSr:¬S r) (hS:∀k,S k→k<w.heap.size) (a:Option Addr) (cap:Nat) (l d:List UInt8) (hA:At w r a l cap d) (hb:BV S w a cap l) (hn:l.length≤1099511627776) (n:Nat) (hnn:n≤1024) (strict:Bool) (hL:LaidR w r):
 Calls Tryz.prog 170 #[.pointer (some ⟨r,0,none⟩), .int .i64 n, .bool strict] w fun e w' =>TOut w w' r a l cap (pTexts strict [] n d) e:=by
 obtain ⟨E,hE⟩:∃E,E=pTexts strict [] n d:=⟨_,rfl⟩
 rw[←hE]
 have HE:=Lib.hid hE
 have HLA:=Lib.hid hL
 have hlt0:∀k,k=r→k<w.heap.size:=fun k hk=>hk ▸ hr
 have hb' :=hb.mono (T:=free w (fun k=>k=r)) (fun k hk=>⟨hS k hk,fun h=>hSr (h ▸ hk)⟩)
 have HB:=Lib.hid (BV.keep hb')
 clear hb'
 have HA:=Lib.hid hA
 clear hE hA hb hL
 go_enter Tryz.func170,Tryz.ntmps170
 go_wp2_with fail
 go_loopw [7,8,12] (fun v7 v8 v12 wr=>∃(k:Nat) (O' :Nat→Prop) (o:List Cel) (last:List UInt8) (a' :Option Addr) (c' :Nat) (d' :List UInt8),v12= .int .i64 k∧v8= .string (bs last)∧v7= .slice a' o.length c' ∧k≤n∧o.length=k∧last.length≤256∧E=(pTexts strict last (n - k) d').pre o∧SV rCel 2 O' wr a' c' o∧¬O' r∧(∀j,O' j→w.heap.size≤j)∧At wr r a l cap d' ∧Ev w (fun j=>j=r) wr (fun j=>j=r∨O' j)) (fun _ _ v12 _=>n - (intOf v12).toNat)
 case atStart=>exact ⟨0,nob,[],[],none,0,d,rfl,rfl,rfl,Nat.zero_le _,rfl,by simp,by rw[Res.pre_nil];exact HE.out,⟨[],rfl,Vec.nil _ _ _,by simp⟩,id,fun j hj=>hj.elim,HA.out,(Ev.refl hlt0).drop (fun j hj=>hj.elim id False.elim)⟩
 case round=>
  obtain ⟨k,O',o,last,a',c',d',rfl,rfl,rfl,hk,hol,hla,hEk,hv,hrO,hOO,hAt,hev⟩:=hrel
  have HEV:=Lib.hid hev
  have HV:=Lib.hid hv
  have HAT:=Lib.hid hAt
  have HEK:=Lib.hid hEk
  have HOO:=Lib.hid (⟨hrO,hOO⟩:_∧_)
  have HOL:=Lib.hid hol
  have hol2:o.length≤1024:=by omega
  clear hev hv hAt hEk hrO hOO hol
  by_cases hlt:k<n
  · have hEk:=HEK.out
    rw[show n - k=(n - (k+1))+1 by omega] at hEk
    have hsl:=bs_size last
    have hO0:=HOO.out.1
    have hcu:IntKind.u64.wrap (last.length:Int)=(last.length:Int):=by rw[IntKind.wrap_u64];omega
    have hc:=rUint_o _ _ _ _ _ l d' HAT.out (HB.out _ _ HEV.out) hn last.length (by omega)
    cases ho:pUint last.length d' with
    | bad c d1=>
      rw[pTexts_bad1 ho] at hEk
      have HEK1:=Lib.hid hEk
      rw[ho] at hc
      have hc2:=hc.mono (R' :=fun e w' =>e= .panicked (broken r c)∧Fr (fun j=>j=r) wr w' ∧At w' r a l cap d1∧c≠0∧c<256) (fun e w' h=>by obtain ⟨rfl,h1,h2⟩:=h.bad rfl;exact ⟨rfl,h1,h2⟩)
      clear hEk hc
      go_wp2_with fail
      refine (hc2).mono ?_
      rintro e u1 ⟨rfl,hfr,hAt1,hc0,hc6⟩
      have E1:=Lib.hid (Ev.turn (hfr.mono (fun k _ h=>by subst h;exact Or.inl rfl)) HEV.out.lt)
      have T1:=Lib.hid hfr
      clear hfr
      have HAT1:=Lib.hid (⟨hc0,hc6,hAt1⟩:_∧_∧_)
      clear hAt1 hc0 hc6 hc2
      go_wp2_with fail
      refine ⟨rfl,((HEV.out.trans E1.out)).fr,?_⟩
      rw[HEK1.out]
      exact ⟨rfl,HAT1.out⟩
    | ok x d1=>
      rw[ho] at hc
      obtain ⟨_,hxl,_⟩:=pUint_ok.1 ho
      have hc2:=hc.mono (R' :=fun e w' =>e= .returned (.int .u64 x)∧Fr (fun j=>j=r) wr w' ∧At w' r a l cap d1) (fun e w' h=>by obtain ⟨rfl,h1,h2⟩:=h.ok rfl;exact ⟨rfl,h1,h2⟩)
      clear hc
      go_wp2_with fail
      refine (hc2).mono ?_
      rintro e u2 ⟨rfl,hfr,hAt1⟩
      have E2:=Lib.hid (Ev.turn (hfr.mono (fun k _ h=>by subst h;exact Or.inl rfl)) HEV.out.lt)
      have T2:=Lib.hid hfr
      clear hfr
      have HAT1:=Lib.hid hAt1
      have HV1:=Lib.hid (HV.out.fr rCel_ok T2.out (fun j hj he=>hO0 (he ▸ hj)))
      have hex:(bs last).extract 0 x=bs (last.take x):=bs_to last x
      have hbc:=fun u (hu:Fr nob u2 u)=>rBytes_o _ u r (fun h=>h.2 (Or.inl rfl)) _ _ l d1 (hAt1.fr hu id) (((HB.out _ _ (HEV.out.trans E2.out))).frN hu) hn (256 - x) (by omega) (by have:=hu.size;have:=((HEV.out.trans E2.out)).fr.size;omega)
      have hx256:((256 - x:Nat):Int)=(256:Int) - x:=by omega
      rw[hx256] at hbc
      have hwx:IntKind.i64.wrap ((256:Int) - x)=(256:Int) - x:=by rw[IntKind.wrap_i64];omega
      clear hAt1 hc2
      cases ho2:pBytes (256 - x) d1 with
      | bad c d2=>
        rw[pTexts_bad2 ho ho2] at hEk
        have HEK1:=Lib.hid hEk
        rw[ho2] at hbc
        have hbc2:=fun u (hu:Fr nob u2 u)=>(hbc u hu).mono (R' :=fun e w' =>e= .panicked (broken r c)∧Fr (fun j=>j=r) u w' ∧At w' r a l cap d2∧c≠0∧c<256) (fun e w' h=>by obtain ⟨rfl,h1,h2⟩:=h.bad rfl;exact ⟨rfl,h1,h2⟩)
        clear hbc hEk hx256
        go_wp2_with fail
        refine wp_region_ord [(0,true),(1,true),(2,true),(3,true),(4,true),(5,true),(6,false),(7,true),(8,true),(9,true)] (Fr (fun j=>j=r∨O' j) u2) rfl (by kernel_rfl) (by kernel_rfl) (by decide) (fun c a d v w h=>by cases d<;>exact h) ((Fr.refl (fun j=>j=r∨O' j) u2).drew) (fun ops hops hS=>?_)
        obtain ⟨d3,hdw⟩:∃d,d=u2.drew:=⟨_,rfl⟩
        rw[←hdw] at hS ⊢
        have G3:Hid (Fr nob u2 d3):=Lib.hid (by rw[hdw];exact (Fr.refl nob u2).drew)
        have E3:=Lib.hid (Ev.of G3.out E2.out.lt)
        clear hdw
        repeat (first | (apply oF hops (by rfl) (by first | exact .plain rfl | exact .y hops rfl rfl rfl rfl);(focus (intro x hx;go_simp;rfl));go_simp) | (apply oS hops (by rfl) (by first | exact .n hops rfl rfl rfl rfl | exact .u hops rfl rfl rfl rfl);go_simp) | (apply oP hops (by rfl) (by first | exact .n hops rfl rfl rfl rfl | exact .u hops rfl rfl rfl rfl) (by assumption);go_simp))
        refine oA hops (by rfl) (by first | exact .plain rfl | exact .y hops rfl rfl rfl rfl) (fun K hK=>?_)
        go_wp2_with fail
        refine (hbc2 _ G3.out).mono ?_
        rintro e u9 ⟨rfl,hfr,hAt1,hc0,hc6⟩
        have EQ9:=Lib.hid (Ev.turn (hfr.mono (fun k _ h=>by subst h;exact Or.inl rfl)) E3.out.lt)
        have HAT1:=Lib.hid (⟨hc0,hc6,hAt1⟩:_∧_∧_)
        clear hfr hAt1 hc0 hc6 hbc2 hK
        go_wp2_with fail
        refine ⟨rfl,((HEV.out.trans (E2.out.trans (E3.out.trans EQ9.out)))).fr,?_⟩
        rw[HEK1.out]
        exact ⟨rfl,HAT1.out⟩
      | ok b d2=>
        rw[ho2] at hbc
        obtain ⟨_,hbl,_⟩:=pBytes_ok.1 ho2
        have hbc2:=fun u (hu:Fr nob u2 u)=>(hbc u hu).mono (R' :=fun e w' =>∃a9 c9,e= .returned (.slice a9 b.length c9)∧BV (newb u w') w' a9 c9 b∧Fr (fun j=>j=r) u w' ∧At w' r a l cap d2) (fun e w' h=>by obtain ⟨⟨a9,c9,rfl,h0⟩,h1,h2⟩:=h.ok rfl;exact ⟨a9,c9,rfl,h0,h1,h2⟩)
        clear hbc
        obtain ⟨t,htt⟩:∃t,t=last.take x++b:=⟨_,rfl⟩
        have htl:t.length≤256:=by rw[htt,List.length_append,List.length_take];omega
        have qa:=fun y=>run_string_add_sum (P:=Tryz.prog) y (bs (last.take x)) (bs b) (by simp only[bs_size];rw[List.length_take];omega)
        simp only[bs_append,←htt] at qa
        have hE3:=pTexts_bad3 (strict:=strict) (n:=n - (k+1)) ho ho2
        have hE4:=pTexts_bad4 (strict:=strict) (n:=n - (k+1)) ho ho2
        have hE5:=pTexts_good (strict:=strict) (n:=n - (k+1)) ho ho2
        rw[←htt] at hE3 hE4 hE5
        have HE345:=Lib.hid (⟨hE3,hE4,hE5⟩:_∧_∧_)
        have HEK0:=Lib.hid hEk
        have HTT:=Lib.hid htt
        clear hE3 hE4 hE5 hEk HEK htt hx256
        go_wp2_with fail
        refine wp_region_ord [(0,true),(1,true),(2,true),(3,true),(4,true),(5,true),(6,false),(7,true),(8,true),(9,true)] (Fr (fun j=>j=r∨O' j) u2) rfl (by kernel_rfl) (by kernel_rfl) (by decide) (fun c a d v w h=>by cases d<;>exact h) ((Fr.refl (fun j=>j=r∨O' j) u2).drew) (fun ops hops hS=>?_)
        obtain ⟨d4,hdw⟩:∃d,d=u2.drew:=⟨_,rfl⟩
        rw[←hdw] at hS ⊢
        have G4:Hid (Fr nob u2 d4):=Lib.hid (by rw[hdw];exact (Fr.refl nob u2).drew)
        have E4:=Lib.hid (Ev.of G4.out E2.out.lt)
        clear hdw
        repeat (first | (apply oF hops (by rfl) (by first | exact .plain rfl | exact .y hops rfl rfl rfl rfl);(focus (intro x hx;go_simp;rfl));go_simp) | (apply oS hops (by rfl) (by first | exact .n hops rfl rfl rfl rfl | exact .u hops rfl rfl rfl rfl);go_simp) | (apply oP hops (by rfl) (by first | exact .n hops rfl rfl rfl rfl | exact .u hops rfl rfl rfl rfl) (by assumption);go_simp))
        refine oA hops (by rfl) (by first | exact .plain rfl | exact .y hops rfl rfl rfl rfl) (fun K hK=>?_)
        go_wp2_with fail
        refine (hbc2 _ G4.out).mono ?_
        rintro e u9 ⟨a9,c9,rfl,hv9,hfr,hAt2⟩
        have EQ9:=Lib.hid (Ev.turn (hfr.mono (fun k _ h=>by subst h;exact Or.inl rfl)) E4.out.lt)
        have HV9:=Lib.hid (HV1.out.fr rCel_ok (G4.out.any.trans' hfr) (fun j hj he=>hO0 (he ▸ hj)))
        have HAT2:=Lib.hid hAt2
        have HB9:=Lib.hid hv9
        have hstr:∀y,Fr nob u9 y→(convert 27 9 (.slice a9 b.length c9)).run Tryz.prog y= .ok (.string (bs b)) y:=fun y hy=>str_of (HB9.out.frN hy)
        refine hK _ _ ⟨Fr nob u9,fun y hy=>(E4.out.trans EQ9.out).fr.nthen' hy,Fr.refl _ _,?_⟩
        clear hK hfr hAt2 hv9 hbc2
        go_simp
        repeat (first | (apply oF hops (by rfl) (by first | exact .plain rfl | exact .y hops rfl rfl rfl rfl);(focus (intro x hx;go_simp;rfl));go_simp) | (apply oS hops (by rfl) (by first | exact .n hops rfl rfl rfl rfl | exact .u hops rfl rfl rfl rfl);go_simp) | (apply oP hops (by rfl) (by first | exact .n hops rfl rfl rfl rfl | exact .u hops rfl rfl rfl rfl) (by assumption);go_simp))
        apply wpOrd_nil
        have hsh:=shared_any last t
        obtain ⟨sh,hshh⟩:∃sh,sh=shared last t:=⟨_,rfl⟩
        rw[←hshh] at hsh HE345
        clear hshh qa hstr
        go_wp2_with fail
        refine (hsh u9 (by unfold lim;omega) (by unfold lim;omega)).mono ?_
        rintro e u5 ⟨rfl,hfr⟩
        have E5:=Lib.hid (Ev.of hfr EQ9.out.lt)
        have G5:=Lib.hid hfr
        clear hfr
        by_cases h3:sh=x
        · have htest:((sh:Int) == (x:Int))=true:=by rw[h3];simp
          have hmo:=mustN_ok r a cap l d2 true 6 u5 (HAT2.out.fr G5.out id) (Or.inl rfl)
          go_wp2_with fail
          refine (hmo).mono ?_
          rintro e u6 ⟨rfl,hfr⟩
          have E6:=Lib.hid (Ev.of hfr E5.out.lt)
          have G6:=Lib.hid hfr
          clear hfr
          clear hmo htest
          cases strict
          · have hE5:=HE345.out.2.2 h3 rfl
            have hmo:=mustN_ok r a cap l d2 true 11 u6 (HAT2.out.fr (G5.out.andN G6.out) id) (Or.inl rfl)
            go_wp2_with fail
            refine (hmo).mono ?_
            rintro e u7 ⟨rfl,hfr⟩
            have E7:=Lib.hid (Ev.of hfr E6.out.lt)
            have G7:=Lib.hid hfr
            clear hfr
            clear hmo
            have HEK1:=Lib.hid (HEK0.out.trans (by rw[hE5]))
            clear hE5
            obtain ⟨w3,hw3⟩:∃x1,x1=u7.alloc (.cells #[.int .u64 0, .string (bs t)] 74 (0,0)):=⟨_,rfl⟩
            have hf3:Fr nob u7 w3:=by rw[hw3];exact (Fr.refl nob _).alloc _
            have hlit:=Vec.newrow u7 #[.int .u64 0, .string (bs t)] 74 (size:=2) (n:=1) rfl (by unfold maxLen;omega) (by simp[Value.oneCell'])
            have HSRC:=Lib.hid (hlit.src (P:=Tryz.prog) Tryz.underlying64)
            have HVEC:=Lib.hid (((cels_vec HV9.out).1.frN (G5.out.andN (G6.out.andN G7.out))).frN hf3)
            have HFIT:=Lib.hid (cels_vec HV9.out).2
            rw[hw3] at HVEC
            have HF3:=Lib.hid hf3
            have HW3:=Lib.hid hw3
            clear hlit hf3 hw3
            go_wp2_with (at_builtin;refine wpList_append_vec rfl _ _ _ _ rfl rfl HVEC.out _ _ _ Tryz.underlying64 inf_Cell rfl _ 1 _ rfl HSRC.out (by unfold maxLen;omega) (by omega) ?_)
            intro a6 c6 w6 hv6 hf6 _
            rw[←HW3.out] at hv6 hf6
            have HV6:=Lib.hid hv6
            have HF6:=Lib.hid hf6
            clear hv6 hf6
            have E8:=Lib.hid (Ev.of HF3.out E7.out.lt)
            have G8:=Lib.hid HF3.out
            go_wp2_with fail
            go_roundw
            case rel=>
             have e6:Ev w3 (fun j=>j=r∨O' j) w6 (fun j=>j=r∨grow O' w3 w6 j):=by
              have hg:=Ev.grow (HF6.out.mono (T:=fun j=>j=r∨O' j) (fun k _ h=>Or.inr h)) E8.out.lt
              exact hg.drop (fun j hj=>hj.elim (fun h=>Or.inl (Or.inl h)) (fun h=>h.elim (fun h=>Or.inl (Or.inr h)) Or.inr))
             refine ⟨k+1,_,o++[⟨0,t⟩],t,a6,c6,d2,by go_num,rfl,by simp,by omega,by have:=HOL.out;simp;omega,htl,?_,vec_cels ?_ ?_,?_,?_,?_,((HEV.out.trans (E2.out.trans (E4.out.trans (EQ9.out.trans (E5.out.trans (E6.out.trans (E7.out.trans E8.out)))))))).trans e6⟩
             · rw[HEK1.out,Res.pre_pre]
             · rw[List.length_append,List.flatMap_append];exact HV6.out
             · intro c hc
               rcases List.mem_append.1 hc with hc | hc
               · exact HFIT.out c hc
               · rw[List.mem_singleton.1 hc];exact ⟨by show 0<18446744073709551616;omega,by show t.length≤lim;unfold lim;omega⟩
             · intro h
               rcases h with h | h
               · exact HOO.out.1 h
               · have:=((HEV.out.trans (E2.out.trans (E4.out.trans (EQ9.out.trans (E5.out.trans (E6.out.trans (E7.out.trans E8.out)))))))).fr.size;have:=h.1;omega
             · intro j hj
               rcases hj with hj | hj
               · exact HOO.out.2 j hj
               · have:=((HEV.out.trans (E2.out.trans (E4.out.trans (EQ9.out.trans (E5.out.trans (E6.out.trans (E7.out.trans E8.out)))))))).fr.size;have:=hj.1;omega
             · exact (((HAT2.out.fr (G5.out.andN (G6.out.andN (G7.out.andN G8.out))) id)).fr HF6.out HOO.out.1)
            case measure=>simp[intOf];omega
          · have hva:=valid_any t (by unfold lim;omega) u6 (HLA.out.go ((HEV.out.trans (E2.out.trans (E4.out.trans (EQ9.out.trans (E5.out.trans E6.out)))))).fr).now
            cases hvd:Lib.validD t
            · have hE5:=HE345.out.2.1 h3 (by rw[hvd];rfl)
              rw[hvd] at hva
              go_wp2_with fail
              refine (hva).mono ?_
              rintro e u9 ⟨rfl,hfr⟩
              have E9:=Lib.hid (Ev.of hfr E6.out.lt)
              have G9:=Lib.hid hfr
              clear hfr
              have hmo:=mustN_bad r a cap l d2 11 u9 (HAT2.out.fr (G5.out.andN (G6.out.andN G9.out)) id) (by omega) (by omega)
              go_wp2_with fail
              refine (hmo).mono ?_
              rintro e u10 ⟨rfl,hfr⟩
              have E10:=Lib.hid (Ev.of hfr E9.out.lt)
              have G10:=Lib.hid hfr
              clear hfr
              clear hmo hva hvd
              have HEK1:Hid (E= .bad 11 d2):=Lib.hid (HEK0.out.trans (by rw[hE5];rfl))
              clear hE5
              go_wp2_with fail
              refine ⟨rfl,((HEV.out.trans (E2.out.trans (E4.out.trans (EQ9.out.trans (E5.out.trans (E6.out.trans (E9.out.trans E10.out)))))))).fr,?_⟩
              rw[HEK1.out]
              exact ⟨rfl,by omega,by omega,HAT2.out.fr (G5.out.andN (G6.out.andN (G9.out.andN G10.out))) id⟩
            · have hE5:=HE345.out.2.2 h3 (by rw[hvd];rfl)
              rw[hvd] at hva
              go_wp2_with fail
              refine (hva).mono ?_
              rintro e u11 ⟨rfl,hfr⟩
              have E11:=Lib.hid (Ev.of hfr E6.out.lt)
              have G11:=Lib.hid hfr
              clear hfr
              have hmo:=mustN_ok r a cap l d2 true 11 u11 (HAT2.out.fr (G5.out.andN (G6.out.andN G11.out)) id) (Or.inl rfl)
              go_wp2_with fail
              refine (hmo).mono ?_
              rintro e u12 ⟨rfl,hfr⟩
              have E12:=Lib.hid (Ev.of hfr E11.out.lt)
              have G12:=Lib.hid hfr
              clear hfr
              clear hmo hva hvd
              have HEK1:=Lib.hid (HEK0.out.trans (by rw[hE5]))
              clear hE5
              obtain ⟨w3,hw3⟩:∃x1,x1=u12.alloc (.cells #[.int .u64 0, .string (bs t)] 74 (0,0)):=⟨_,rfl⟩
              have hf3:Fr nob u12 w3:=by rw[hw3];exact (Fr.refl nob _).alloc _
              have hlit:=Vec.newrow u12 #[.int .u64 0, .string (bs t)] 74 (size:=2) (n:=1) rfl (by unfold maxLen;omega) (by simp[Value.oneCell'])
              have HSRC:=Lib.hid (hlit.src (P:=Tryz.prog) Tryz.underlying64)
              have HVEC:=Lib.hid (((cels_vec HV9.out).1.frN (G5.out.andN (G6.out.andN (G11.out.andN G12.out)))).frN hf3)
              have HFIT:=Lib.hid (cels_vec HV9.out).2
              rw[hw3] at HVEC
              have HF3:=Lib.hid hf3
              have HW3:=Lib.hid hw3
              clear hlit hf3 hw3
              go_wp2_with (at_builtin;refine wpList_append_vec rfl _ _ _ _ rfl rfl HVEC.out _ _ _ Tryz.underlying64 inf_Cell rfl _ 1 _ rfl HSRC.out (by unfold maxLen;omega) (by omega) ?_)
              intro a6 c6 w6 hv6 hf6 _
              rw[←HW3.out] at hv6 hf6
              have HV6:=Lib.hid hv6
              have HF6:=Lib.hid hf6
              clear hv6 hf6
              have E13:=Lib.hid (Ev.of HF3.out E12.out.lt)
              have G13:=Lib.hid HF3.out
              go_wp2_with fail
              go_roundw
              case rel=>
               have e6:Ev w3 (fun j=>j=r∨O' j) w6 (fun j=>j=r∨grow O' w3 w6 j):=by
                have hg:=Ev.grow (HF6.out.mono (T:=fun j=>j=r∨O' j) (fun k _ h=>Or.inr h)) E13.out.lt
                exact hg.drop (fun j hj=>hj.elim (fun h=>Or.inl (Or.inl h)) (fun h=>h.elim (fun h=>Or.inl (Or.inr h)) Or.inr))
               refine ⟨k+1,_,o++[⟨0,t⟩],t,a6,c6,d2,by go_num,rfl,by simp,by omega,by have:=HOL.out;simp;omega,htl,?_,vec_cels ?_ ?_,?_,?_,?_,((HEV.out.trans (E2.out.trans (E4.out.trans (EQ9.out.trans (E5.out.trans (E6.out.trans (E11.out.trans (E12.out.trans E13.out))))))))).trans e6⟩
               · rw[HEK1.out,Res.pre_pre]
               · rw[List.length_append,List.flatMap_append];exact HV6.out
               · intro c hc
                 rcases List.mem_append.1 hc with hc | hc
                 · exact HFIT.out c hc
                 · rw[List.mem_singleton.1 hc];exact ⟨by show 0<18446744073709551616;omega,by show t.length≤lim;unfold lim;omega⟩
               · intro h
                 rcases h with h | h
                 · exact HOO.out.1 h
                 · have:=((HEV.out.trans (E2.out.trans (E4.out.trans (EQ9.out.trans (E5.out.trans (E6.out.trans (E11.out.trans (E12.out.trans E13.out))))))))).fr.size;have:=h.1;omega
               · intro j hj
                 rcases hj with hj | hj
                 · exact HOO.out.2 j hj
                 · have:=((HEV.out.trans (E2.out.trans (E4.out.trans (EQ9.out.trans (E5.out.trans (E6.out.trans (E11.out.trans (E12.out.trans E13.out))))))))).fr.size;have:=hj.1;omega
               · exact (((HAT2.out.fr (G5.out.andN (G6.out.andN (G11.out.andN (G12.out.andN G13.out)))) id)).fr HF6.out HOO.out.1)
              case measure=>simp[intOf];omega
        · have htest:((sh:Int) == (x:Int))=false:=by rw[beq_eq_false_iff_ne];omega
          have hE5:=HE345.out.1 h3
          have hmo:=mustN_bad r a cap l d2 6 u5 (HAT2.out.fr G5.out id) (by omega) (by omega)
          go_wp2_with fail
          refine (hmo).mono ?_
          rintro e u14 ⟨rfl,hfr⟩
          have E14:=Lib.hid (Ev.of hfr E5.out.lt)
          have G14:=Lib.hid hfr
          clear hfr
          clear hmo htest
          have HEK1:Hid (E= .bad 6 d2):=Lib.hid (HEK0.out.trans (by rw[hE5];rfl))
          clear hE5
          go_wp2_with fail
          refine ⟨rfl,((HEV.out.trans (E2.out.trans (E4.out.trans (EQ9.out.trans (E5.out.trans E14.out)))))).fr,?_⟩
          rw[HEK1.out]
          exact ⟨rfl,by omega,by omega,HAT2.out.fr (G5.out.andN G14.out) id⟩
  · obtain rfl:k=n:=by omega
    have hEk:=HEK.out
    rw[Nat.sub_self] at hEk
    unfold pTexts at hEk
    simp only[Res.pre,List.append_nil] at hEk
    have HEK1:=Lib.hid hEk
    clear hEk
    go_wp2_with fail
    go_ret
    refine ⟨(HEV.out).fr,?_⟩
    rw[HEK1.out]
    refine ⟨⟨a',c',rfl,HV.out.mono rCel_ok (fun j hj=>?_)⟩,HAT.out⟩
    exact ⟨HOO.out.2 j hj,(HEV.out).lt j (Or.inr hj)⟩
end Go.Proofs.YtibpkfnfcdbiiaaGreatDoor
