/- Truth cells of a column, in plain words: eight a byte. takeBools, walked. writeBools, walked. -/
import Derived.Test.YtibpkfnfcdbiiaaGreatDoorBunN
import Derived.Laws.OwnMore
namespace Go.Proofs.YtibpkfnfcdbiiaaGreatDoor
set_option linter.unusedSimpArgs false
open Go.RowKit
set_option linter.unusedVariables false
def bitsOf:List Cel→Nat
 | []=>0
 | c::l=>c.num+2*bitsOf l
def Truths (l:List Cel):Prop:=∀c∈l,c.num≤1∧c.text=[]
theorem bitsOf_lt:∀(l:List Cel),Truths l→bitsOf l<2 ^ l.length
 | [],_=>by simp[bitsOf]
 | c::l,h=>by
   have h1:=bitsOf_lt l (fun x hx=>h x (List.mem_cons_of_mem _ hx))
   have h2:=(h c (by simp)).1
   simp only[bitsOf,List.length_cons,Nat.pow_succ];omega
theorem bitsOf_snoc (c:Cel):∀(l:List Cel),bitsOf (l++[c])=bitsOf l+c.num*2 ^ l.length
 | []=>by simp[bitsOf]
 | d::l=>by
   have h:=bitsOf_snoc c l
   simp only[List.cons_append,bitsOf,h,List.length_cons,Nat.pow_succ]
   rw[←Nat.mul_assoc];omega
def bitsIn:Nat→Nat→List Cel
 | 0,_=>[]
 | m+1,c=>⟨c%2,[]⟩::bitsIn m (c / 2)
theorem bitsIn_len:∀(m c:Nat),(bitsIn m c).length=m
 | 0,_=>rfl
 | m+1,c=>by simp[bitsIn,bitsIn_len m]
theorem bitsIn_truths:∀(m c:Nat),Truths (bitsIn m c)
 | 0,_=>by simp[bitsIn,Truths]
 | m+1,c=>by
   intro x hx
   rcases List.mem_cons.1 hx with rfl | hx
   · exact ⟨by show c%2≤1;omega,rfl⟩
   · exact bitsIn_truths m _ x hx
theorem bitsOf_in:∀(m c:Nat),c<2 ^ m→bitsOf (bitsIn m c)=c
 | 0,c,h=>by simp at h;subst h;rfl
 | m+1,c,h=>by
   have h1:=bitsOf_in m (c / 2) (by rw[Nat.pow_succ] at h;omega)
   simp only[bitsIn,bitsOf,h1];omega
theorem bitsIn_of:∀(l:List Cel),Truths l→bitsIn l.length (bitsOf l)=l
 | [],_=>rfl
 | c::l,h=>by
   obtain ⟨v,t⟩:=c
   obtain ⟨h1,h2⟩:=h ⟨v,t⟩ (by simp)
   simp only at h1 h2
   subst h2
   simp only[List.length_cons,bitsIn,bitsOf]
   rw[show (v+2*bitsOf l)%2=v by omega,show (v+2*bitsOf l) / 2=bitsOf l by omega,bitsIn_of l (fun x hx=>h x (List.mem_cons_of_mem _ hx))]
theorem bitsIn_snoc:∀(m c:Nat),bitsIn (m+1) c=bitsIn m c++[⟨c / 2 ^ m%2,[]⟩]
 | 0,c=>by simp[bitsIn]
 | m+1,c=>by
   have h:=bitsIn_snoc m (c / 2)
   conv=>lhs;rw[bitsIn]
   rw[h,Nat.div_div_eq_div_mul,Nat.pow_succ,Nat.mul_comm (2 ^ m) 2]
   rfl
def pBools:Nat→List UInt8→Res (List Cel)
 | 0,d=> .ok [] d
 | n+1,[]=> .bad 5 []
 | n+1,c::r=>if c.toNat / 2 ^ min 8 (n+1)=0 then (pBools (n+1 - min 8 (n+1)) r).pre (bitsIn (min 8 (n+1)) c.toNat) else .bad 6 r
termination_by n=>n
decreasing_by omega
def boolByte (l:List Cel) (j:Nat):UInt8:=UInt8.ofNat (bitsOf ((l.drop (8*j)).take 8))
def wBools (l:List Cel):List UInt8:=(List.range ((l.length+7) / 8)).map (boolByte l)
theorem wBools_nil:wBools []=[]:=rfl
theorem wBools_cons {l:List Cel} (h:l≠[]):wBools l=UInt8.ofNat (bitsOf (l.take 8))::wBools (l.drop 8):=by
 have hl:0<l.length:=List.length_pos_iff.2 h
 unfold wBools
 rw[show (l.length+7) / 8=((l.drop 8).length+7) / 8+1 by rw[List.length_drop];omega,List.range_succ_eq_map,List.map_cons,List.map_map]
 congr 1
 apply List.map_congr_left
 intro j _
 simp only[Function.comp,boolByte,List.drop_drop]
 rw[show 8*j.succ=8+8*j by omega]
theorem pBools_ok:∀(n:Nat) (d r:List UInt8) (l:List Cel),pBools n d= .ok l r↔l.length=n∧Truths l∧d=wBools l++r:=by
 intro n
 induction n using Nat.strongRecOn with
 | _ n ih=>
   intro d r l
   cases n with
   | zero=>
     unfold pBools
     constructor
     · intro h;cases h;exact ⟨rfl,by simp[Truths],rfl⟩
     · rintro ⟨h1,_,h3⟩
       obtain rfl:=List.length_eq_zero_iff.1 h1
       rw[wBools_nil] at h3
       subst h3;rfl
   | succ n=>
     obtain ⟨m,hm⟩:∃m,m=min 8 (n+1):=⟨_,rfl⟩
     have hm8:m≤8∧0<m∧m≤n+1:=by omega
     constructor
     · intro h
       cases d with
       | nil=>unfold pBools at h;cases h
       | cons c d=>
         unfold pBools at h
         rw[←hm] at h
         split at h
         · rename_i hz
           obtain ⟨l',rfl,h2⟩:=Res.pre_ok.1 h
           obtain ⟨h3,h4,h5⟩:=(ih (n+1 - m) (by omega) d r l').1 h2
           have hc:c.toNat<2 ^ m:=by
            rcases Nat.div_eq_zero_iff.1 hz with h | h
            · have:=Nat.pow_pos (n:=m) (show 0<2 by omega);omega
            · exact h
           refine ⟨by rw[List.length_append,bitsIn_len,h3];omega,?_,?_⟩
           · intro x hx
             rcases List.mem_append.1 hx with hx | hx
             · exact bitsIn_truths _ _ x hx
             · exact h4 x hx
           · have hne:bitsIn m c.toNat++l' ≠[]:=by
              intro h;have:=congrArg List.length h;rw[List.length_append,bitsIn_len] at this;simp at this;omega
             have ht:(bitsIn m c.toNat++l').take 8=bitsIn m c.toNat∧(bitsIn m c.toNat++l').drop 8=l' :=by
              by_cases h8:m=8
              · have hl8:(bitsIn m c.toNat).length=8:=by rw[bitsIn_len];exact h8
                exact ⟨by rw[←hl8,List.take_left],by rw[←hl8,List.drop_left]⟩
              · have hl0:l' =[]:=List.length_eq_zero_iff.1 (by omega)
                subst hl0
                rw[List.append_nil]
                exact ⟨List.take_of_length_le (by rw[bitsIn_len];omega),List.drop_of_length_le (by rw[bitsIn_len];omega)⟩
             rw[wBools_cons hne,ht.1,ht.2,bitsOf_in m _ hc,UInt8.ofNat_toNat,List.cons_append,←h5]
         · cases h
     · rintro ⟨h1,h2,h3⟩
       have hne:l≠[]:=by intro h;subst h;simp at h1
       rw[wBools_cons hne,List.cons_append] at h3
       have htl:(l.take 8).length=m:=by rw[List.length_take];omega
       have htt:Truths (l.take 8):=fun x hx=>h2 x (List.mem_of_mem_take hx)
       have hb:=bitsOf_lt _ htt
       rw[htl] at hb
       have hb8:bitsOf (l.take 8)<256:=Nat.lt_of_lt_of_le hb (by have:=Nat.pow_le_pow_right (show 0<2 by omega) hm8.1;simpa using this)
       have hto:(UInt8.ofNat (bitsOf (l.take 8))).toNat=bitsOf (l.take 8):=by rw[UInt8.toNat_ofNat'];omega
       subst h3
       unfold pBools
       rw[hto,←hm,if_pos (Nat.div_eq_of_lt hb)]
       refine Res.pre_ok.2 ⟨l.drop 8,?_,(ih (n+1 - m) (by omega) _ r (l.drop 8)).2 ⟨by rw[List.length_drop];omega,fun x hx=>h2 x (List.mem_of_mem_drop hx),rfl⟩⟩
       rw[←htl,bitsIn_of _ htt,List.take_append_drop]
def sliceLen:Value→Nat
 | .slice _ n _=>n
 | _=>0
theorem inteqf {n:Nat} (h:n≠0):((n:Int) == 0)=false:=by rw[beq_eq_false_iff_ne];omega
set_option maxRecDepth 100000 in
set_option maxHeartbeats 8000000 in
theorem takeBools_o (S:Nat→Prop) (w:World) (r:Nat) (hr:r<w.heap.size) (hSr:¬S r) (hS:∀k,S k→k<w.heap.size) (a:Option Addr) (cap:Nat) (l d:List UInt8) (hA:At w r a l cap d) (hb:BV S w a cap l) (hn:l.length≤1099511627776) (n:Nat) (hnn:n≤1024):
 Calls Tryz.prog 177 #[.pointer (some ⟨r,0,none⟩), .int .i64 n] w fun e w' =>TOut w w' r a l cap (pBools n d) e:=by
 obtain ⟨E,hE⟩:∃E,E=pBools n d:=⟨_,rfl⟩
 rw[←hE]
 have HE:=Lib.hid hE
 have hlt0:∀k,k=r→k<w.heap.size:=fun k hk=>hk ▸ hr
 have hb' :=hb.mono (T:=free w (fun k=>k=r)) (fun k hk=>⟨hS k hk,fun h=>hSr (h ▸ hk)⟩)
 have HB:=Lib.hid (BV.keep hb')
 clear hb'
 have HA:=Lib.hid hA
 clear hE hA hb
 go_enter Tryz.func177,Tryz.ntmps177
 go_wp2_with fail
 go_loopw [5] (fun v5 wr=>∃(O' :Nat→Prop) (o:List Cel) (a' :Option Addr) (c' :Nat) (d' :List UInt8),v5= .slice a' o.length c' ∧o.length≤n∧(o.length%8=0∨o.length=n)∧E=(pBools (n - o.length) d').pre o∧SV rCel 2 O' wr a' c' o∧¬O' r∧(∀j,O' j→w.heap.size≤j)∧At wr r a l cap d' ∧Ev w (fun j=>j=r) wr (fun j=>j=r∨O' j)) (fun v5 _=>n - sliceLen v5)
 case atStart=>exact ⟨nob,[],none,0,d,rfl,Nat.zero_le _,Or.inl rfl,by rw[Res.pre_nil];exact HE.out,⟨[],rfl,Vec.nil _ _ _,by simp⟩,id,fun j hj=>hj.elim,HA.out,(Ev.refl hlt0).drop (fun j hj=>hj.elim id False.elim)⟩
 case round=>
  obtain ⟨O',o,a',c',d',rfl,hk,hol,hEk,hv,hrO,hOO,hAt,hev⟩:=hrel
  have HEV:=Lib.hid hev
  have HV:=Lib.hid hv
  have HAT:=Lib.hid hAt
  have HEK:=Lib.hid hEk
  have HOO:=Lib.hid (⟨hrO,hOO⟩:_∧_)
  have HOL:=Lib.hid hol
  clear hev hv hAt hEk hrO hOO hol
  by_cases hlt:o.length<n
  · have hc:=rByte_o _ wr r (fun h=>h.2 (Or.inl rfl)) _ _ l d' HAT.out (HB.out _ _ HEV.out) hn
    obtain ⟨m,hm⟩:∃m,m=min 8 (n - o.length):=⟨_,rfl⟩
    have hEk:=HEK.out
    cases d' with
    | nil=>
      rw[show n - o.length=(n - o.length - 1)+1 by omega] at hEk
      unfold pBools at hEk
      simp only[Res.pre] at hEk
      have HEK1:=Lib.hid hEk
      have hc2:=hc.mono (R' :=fun e w' =>e= .panicked (broken r 5)∧Fr (fun j=>j=r) wr w' ∧At w' r a l cap []) (fun e w' h=>by obtain ⟨rfl,h1,h2,_⟩:=h.bad rfl;exact ⟨rfl,h1,h2⟩)
      clear hEk hc
      go_wp2_with fail
      refine (hc2).mono ?_
      rintro e u1 ⟨rfl,hfr,hAt1⟩
      have E1:=Lib.hid (Ev.turn (hfr.mono (fun k _ h=>by subst h;exact Or.inl rfl)) HEV.out.lt)
      have T1:=Lib.hid hfr
      clear hfr
      have HAT1:=Lib.hid hAt1
      clear hAt1 hc2
      go_wp2_with fail
      refine ⟨rfl,((HEV.out.trans E1.out)).fr,?_⟩
      rw[HEK1.out]
      exact ⟨rfl,by omega,by omega,HAT1.out⟩
    | cons c d1=>
      rw[show n - o.length=(n - o.length - 1)+1 by omega] at hEk
      unfold pBools at hEk
      rw[show n - o.length - 1+1=n - o.length by omega,←hm] at hEk
      have HEK1:=Lib.hid hEk
      have HM:=Lib.hid hm
      have hc2:=hc.mono (R' :=fun e w' =>e= .returned (.int .u8 c.toNat)∧Fr (fun j=>j=r) wr w' ∧At w' r a l cap d1) (fun e w' h=>by obtain ⟨rfl,h1,h2⟩:=h.ok rfl;exact ⟨rfl,h1,h2⟩)
      have hc8:=UInt8.toNat_lt c
      have hm8:m≤8∧0<m∧o.length+m≤n:=by omega
      have hmi:min 8 ((n:Int) - o.length)=(m:Int):=by omega
      generalize c.toNat=cv at hc2 hc8 HEK1
      clear hEk hc hm
      have hO0:=HOO.out.1
      go_wp2_with fail
      refine (hc2).mono ?_
      rintro e u2 ⟨rfl,hfr,hAt1⟩
      have E2:=Lib.hid (Ev.turn (hfr.mono (fun k _ h=>by subst h;exact Or.inl rfl)) HEV.out.lt)
      have T2:=Lib.hid hfr
      clear hfr
      have HAT1:=Lib.hid hAt1
      have HVx:=Lib.hid (HV.out.fr rCel_ok T2.out (fun j hj he=>hO0 (he ▸ hj)))
      clear hAt1 hc2
      go_wp2_with fail
      go_loopw [5,20] (fun v5 v20 w2=>∃(k:Nat) (O2:Nat→Prop) (o2:List Cel) (a2:Option Addr) (c2:Nat),v20= .int .i64 k∧v5= .slice a2 o2.length c2∧k≤m∧o2=o++bitsIn k cv∧SV rCel 2 O2 w2 a2 c2 o2∧¬O2 r∧(∀j,O2 j→w.heap.size≤j)∧At w2 r a l cap d1∧Ev w (fun j=>j=r) w2 (fun j=>j=r∨O2 j)) (fun _ v20 _=>m - (intOf v20).toNat)
      case atStart=>exact ⟨0,O',o,a',c',rfl,rfl,Nat.zero_le _,by simp[bitsIn],HVx.out,HOO.out.1,HOO.out.2,HAT1.out,(HEV.out.trans E2.out)⟩
      case round=>
       obtain ⟨k,O2,o2,a2,c2,rfl,rfl,hkm,ho2,hv2,hrO2,hOO2,hAt2,hev2⟩:=hrel
       have HEV2:=Lib.hid hev2
       have HV2:=Lib.hid hv2
       have HAT2:=Lib.hid hAt2
       have HOO2:=Lib.hid (⟨hrO2,hOO2⟩:_∧_)
       have ho2l:o2.length=o.length+k:=by rw[ho2,List.length_append,bitsIn_len]
       have HO2:=Lib.hid (⟨ho2,ho2l⟩:_∧_)
       have ho2b:o2.length≤1024:=by omega
       clear hev2 hv2 hAt2 hrO2 hOO2 ho2 ho2l
       by_cases hlk:k<m
       · obtain ⟨v,hvv⟩:∃v,v=cv / 2 ^ k%2:=⟨_,rfl⟩
         have hva:IntKind.u64.wrap (bits BinOp.and IntKind.u8 ((cv:Int) / 2 ^ k) 1)=(v:Int):=by
          have h1:((cv:Int) / 2 ^ k)=((cv / 2 ^ k:Nat):Int):=by simp
          have h2:cv / 2 ^ k≤cv:=Nat.div_le_self _ _
          rw[h1]
          generalize cv / 2 ^ k=q at hvv h2
          have h3:bits BinOp.and IntKind.u8 (q:Int) 1=((q%2:Nat):Int):=by
           simp only[bits]
           rw[show (BitVec.ofInt IntKind.u8.bits (q:Int)&&& BitVec.ofInt IntKind.u8.bits (1:Int)).toNat=q%2 from by
            show (BitVec.ofInt 8 (q:Int)&&& BitVec.ofInt 8 ((1:Nat):Int)).toNat=q%2
            simp only[BitVec.toNat_and,BitVec.ofInt_natCast,BitVec.toNat_ofNat]
            rw[Nat.mod_eq_of_lt (show q<2 ^ 8 by omega)]
            exact Nat.and_one_is_mod q]
           rw[IntKind.wrap_u8];omega
          rw[h3,hvv,IntKind.wrap_u64];omega
         have HVV:=Lib.hid hvv
         have hv64:v<18446744073709551616:=by omega
         clear hvv
         obtain ⟨w3,hw3⟩:∃x1,x1=wr.alloc (.cells #[.int .u64 v, .string ⟨#[]⟩] 74 (0,0)):=⟨_,rfl⟩
         have hf3:Fr nob wr w3:=by rw[hw3];exact (Fr.refl nob _).alloc _
         have hlit:=Vec.newrow wr #[.int .u64 v, .string ⟨#[]⟩] 74 (size:=2) (n:=1) rfl (by unfold maxLen;omega) (by simp[Value.oneCell'])
         have HSRC:=Lib.hid (hlit.src (P:=Tryz.prog) Tryz.underlying64)
         have HVEC:=Lib.hid ((cels_vec HV2.out).1.frN hf3)
         have HFIT:=Lib.hid (cels_vec HV2.out).2
         rw[hw3] at HVEC
         have HF3:=Lib.hid hf3
         have HW3:=Lib.hid hw3
         clear hlit hf3 hw3
         go_wp2_with (at_builtin;refine wpList_append_vec rfl _ _ _ _ rfl rfl HVEC.out _ _ _ Tryz.underlying64 inf_Cell rfl _ 1 _ rfl HSRC.out (by unfold maxLen;omega) (by omega) ?_)
         intro a6 c6 w6 hv6 hf6 _
         rw[←HW3.out] at hv6 hf6
         have HV6:=Lib.hid hv6
         have HF6:=Lib.hid hf6
         clear hv6 hf6
         have E3:=Lib.hid (Ev.of HF3.out HEV2.out.lt)
         have G3:=Lib.hid HF3.out
         go_wp2_with fail
         go_roundw
         case rel=>
          have e6:Ev w3 (fun j=>j=r∨O2 j) w6 (fun j=>j=r∨grow O2 w3 w6 j):=by
           have hg:=Ev.grow (HF6.out.mono (T:=fun j=>j=r∨O2 j) (fun k _ h=>Or.inr h)) E3.out.lt
           exact hg.drop (fun j hj=>hj.elim (fun h=>Or.inl (Or.inl h)) (fun h=>h.elim (fun h=>Or.inl (Or.inr h)) Or.inr))
          refine ⟨k+1,_,o2++[⟨v,[]⟩],a6,c6,by go_num,by simp,by omega,?_,vec_cels ?_ ?_,?_,?_,?_,((HEV2.out.trans E3.out)).trans e6⟩
          · rw[bitsIn_snoc,←List.append_assoc,←HO2.out.1,HVV.out]
          · rw[List.length_append,List.flatMap_append];exact HV6.out
          · intro c hc
            rcases List.mem_append.1 hc with hc | hc
            · exact HFIT.out c hc
            · rw[List.mem_singleton.1 hc];exact ⟨hv64,by simp⟩
          · intro h
            rcases h with h | h
            · exact HOO2.out.1 h
            · have:=((HEV2.out.trans E3.out)).fr.size;have:=h.1;omega
          · intro j hj
            rcases hj with hj | hj
            · exact HOO2.out.2 j hj
            · have:=((HEV2.out.trans E3.out)).fr.size;have:=hj.1;omega
          · exact (HAT2.out.fr HF3.out id).fr HF6.out HOO2.out.1
         case measure=>simp[intOf];omega
       · obtain rfl:k=m:=by omega
         have hL:=HO2.out.2
         have h8:o.length%8=0:=HOL.out.resolve_right (by omega)
         have hcnt:(8:Int) - (8*(((o2.length:Int)+7) / 8) - o2.length)=(k:Int):=by omega
         have HCN:=Lib.hid hL
         by_cases hz:cv / 2 ^ k=0
         · have hd1:(((cv:Int) / 2 ^ k) == 0)=true:=by
            rw[show ((cv:Int) / 2 ^ k)=((cv / 2 ^ k:Nat):Int) by simp,hz];rfl
           have hmc:=must_ok r a l.length cap (l.length - d1.length) true 6 wr HAT2.out.2 (Or.inl rfl)
           clear hL h8
           go_wp2_with fail
           refine hmc.mono ?_
           rintro e w7 ⟨rfl,rfl⟩
           go_wp2_with fail
           go_roundw
           case rel=>
            refine ⟨O2,o2,a2,c2,d1,rfl,by have:=HCN.out;omega,?_,?_,HV2.out,HOO2.out.1,HOO2.out.2,HAT2.out,HEV2.out⟩
            · have:=HCN.out;have:=HM.out;have:=HOL.out;omega
            · rw[HEK1.out,if_pos hz,Res.pre_pre,←HO2.out.1,show n - o.length - k=n - o2.length by have:=HCN.out;omega]
           case measure=>simp[sliceLen];have:=HCN.out;omega
         · have hd1:(((cv:Int) / 2 ^ k) == 0)=false:=by
            rw[show ((cv:Int) / 2 ^ k)=((cv / 2 ^ k:Nat):Int) by simp];exact inteqf hz
           have hk8:k≠8:=fun h=>hz (by subst h;exact Nat.div_eq_of_lt (by omega))
           have hd2:(8*(((o2.length:Int)+7) / 8) == o2.length)=false:=by simp;omega
           have hmc:=must_bad r a l.length cap (l.length - d1.length) 6 wr HAT2.out.2 (by omega) (by omega)
           clear hL h8
           go_wp2_with fail
           refine hmc.mono ?_
           rintro e w7 ⟨rfl,rfl⟩
           go_wp2_with fail
           refine ⟨rfl,(HEV2.out).fr,?_⟩
           rw[HEK1.out,if_neg hz]
           exact ⟨rfl,by omega,by omega,HAT2.out⟩
  · obtain rfl:o.length=n:=by omega
    have hEk:=HEK.out
    rw[Nat.sub_self] at hEk
    unfold pBools at hEk
    simp only[Res.pre,List.append_nil] at hEk
    have HEK1:=Lib.hid hEk
    clear hEk
    go_wp2_with fail
    go_ret
    refine ⟨(HEV.out).fr,?_⟩
    rw[HEK1.out]
    refine ⟨⟨a',c',rfl,HV.out.mono rCel_ok (fun j hj=>?_)⟩,HAT.out⟩
    exact ⟨HOO.out.2 j hj,(HEV.out).lt j (Or.inr hj)⟩
theorem boolByte_step {l:List Cel} {k:Nat} (hk:k<l.length) (j:Nat) (hj:j≠k / 8):boolByte (l.take (k+1)) j=boolByte (l.take k) j:=by
 unfold boolByte
 congr 2
 rw[List.drop_take,List.drop_take,List.take_take,List.take_take]
 congr 1
 omega
theorem boolByte_at {l:List Cel} {k:Nat} (hk:k<l.length) (ht:Truths l):(boolByte (l.take (k+1)) (k / 8)).toNat=(boolByte (l.take k) (k / 8)).toNat+l[k].num*2 ^ (k%8)∧(boolByte (l.take k) (k / 8)).toNat<2 ^ (k%8):=by
 have h1:((l.take (k+1)).drop (8*(k / 8))).take 8=((l.take k).drop (8*(k / 8))).take 8++[l[k]]:=by
  rw[List.take_succ_eq_append_getElem hk,List.drop_append_of_le_length (by rw[List.length_take];omega),List.take_append,List.length_drop,List.length_take]
  congr 1
  rw[List.take_of_length_le]
  simp;omega
 have hlen:(((l.take k).drop (8*(k / 8))).take 8).length=k%8:=by simp;omega
 have htt:Truths (((l.take k).drop (8*(k / 8))).take 8):=fun x hx=>ht x (List.mem_of_mem_take (List.mem_of_mem_drop (List.mem_of_mem_take hx)))
 have hb:=bitsOf_lt _ htt
 have hk1:=(ht l[k] (List.getElem_mem hk)).1
 unfold boolByte
 rw[h1,bitsOf_snoc,hlen]
 rw[hlen] at hb
 generalize bitsOf (((l.take k).drop (8*(k / 8))).take 8)=B at hb
 generalize l[k].num=v at hk1
 have hp:2*2 ^ (k%8)≤256:=by
  have:=Nat.pow_le_pow_right (show 0<2 by omega) (show k%8+1≤8 by omega)
  rw[Nat.pow_succ] at this;omega
 generalize 2 ^ (k%8)=M at hb hp
 have hv:v=0∨v=1:=by omega
 rw[UInt8.toNat_ofNat',UInt8.toNat_ofNat']
 rcases hv with rfl | rfl<;>omega
theorem bits_or8 (M B v s:Nat) (hM:M=2 ^ s) (hs:s<8) (hB:B<M) (hv:v≤1):bits BinOp.or IntKind.u8 (B:Int) ((v:Int)*2 ^ s)=((B+v*2 ^ s:Nat):Int):=by
 have hp:2*M≤256:=by
  have:=Nat.pow_le_pow_right (show 0<2 by omega) (show s+1≤8 by omega)
  rw[Nat.pow_succ] at this;omega
 have hc:((v:Int)*2 ^ s)=((v*M:Nat):Int):=by rw[hM];simp
 have hor:B ||| (v*M)=B+v*M:=by
  subst hM
  rw[Nat.or_comm,Nat.mul_comm,←Nat.two_pow_add_eq_or_of_lt hB,Nat.add_comm]
 have hb2:v*M≤M:=by rcases (show v=0∨v=1 by omega) with rfl | rfl<;>omega
 rw[hc,←hM]
 simp only[bits]
 rw[show (BitVec.ofInt IntKind.u8.bits (B:Int) ||| BitVec.ofInt IntKind.u8.bits ((v*M:Nat):Int)).toNat=B+v*M from by
  show (BitVec.ofInt 8 (B:Int) ||| BitVec.ofInt 8 ((v*M:Nat):Int)).toNat=B+v*M
  simp only[BitVec.toNat_or,BitVec.ofInt_natCast,BitVec.toNat_ofNat]
  rw[Nat.mod_eq_of_lt (show B<2 ^ 8 by omega),Nat.mod_eq_of_lt (show v*M<2 ^ 8 by omega),hor]]
 rw[IntKind.wrap_u8];omega
def boolRow (l:List Cel) (k:Nat):List UInt8:=(List.range ((l.length+7) / 8)).map (boolByte (l.take k))
theorem boolRow_len (l:List Cel) (k:Nat):(boolRow l k).length=(l.length+7) / 8:=by simp[boolRow]
theorem boolRow_zero (l:List Cel):bv (boolRow l 0)=List.replicate ((l.length+7) / 8) (.int .u8 0):=by
 rw[List.eq_replicate_iff]
 refine ⟨by simp[bv,boolRow],fun x hx=>?_⟩
 simp only[bv,boolRow,List.take_zero,List.map_map,List.mem_map] at hx
 obtain ⟨j,_,rfl⟩:=hx
 simp[boolByte,bitsOf]
theorem boolRow_all (l:List Cel):boolRow l l.length=wBools l:=by unfold boolRow wBools;rw[List.take_length]
theorem boolRow_get {l:List Cel} {k j:Nat} (hj:j<(l.length+7) / 8):(boolRow l k)[j]'(by rw[boolRow_len];exact hj)=boolByte (l.take k) j:=by simp[boolRow]
theorem boolRow_succ {l:List Cel} {k:Nat} (hk:k<l.length):boolRow l (k+1)=(boolRow l k).set (k / 8) (boolByte (l.take (k+1)) (k / 8)):=by
 apply List.ext_getElem
 · simp[boolRow]
 · intro j h1 h2
   rw[boolRow_len] at h1
   rw[boolRow_get h1,List.getElem_set]
   split
   · rename_i h;rw[h]
   · rename_i h;rw[boolRow_get h1];exact boolByte_step hk j (fun e=>h e.symm)
theorem bv_set (l:List UInt8) (j:Nat) (c:UInt8):bv (l.set j c)=(bv l).set j (.int .u8 c.toNat):=by unfold bv;rw[List.map_set]
theorem Fr.nthen' {T:Nat→Prop} {w w1 w2:World} (h:Fr T w w1) (h2:Fr nob w1 w2):Fr T w w2:=h.trans h2.any (fun _ _ h=>h)
set_option maxRecDepth 100000 in
set_option maxHeartbeats 8000000 in
theorem writeBools_any (S:Nat→Prop) (w:World) (b:Option Addr) (cb:Nat) (l:List Cel) (hl:SV rCel 2 S w b cb l) (hS:∀k,S k→k<w.heap.size) (hl2:l.length≤1048576) (ht:Truths l):
 Calls Tryz.prog 176 #[.slice b l.length cb] w fun e w' =>WOut w w' (wBools l) e:=by
 have hl' :=hl.within rCel_ok hS
 have HL:=Lib.hid (SV.keep rCel_ok hl')
 clear hl'
 obtain ⟨m,hm⟩:∃m,m=(l.length+7) / 8:=⟨_,rfl⟩
 have hmi:((l.length:Int)+7) / 8=(m:Int):=by omega
 obtain ⟨i,hi,hz,hsize,hby⟩:=info_parts inf_u8
 have hmk:∀w,(Instr.makeSlice 27 (.int .i64 (m:Int)) (.int .i64 (m:Int))).run Tryz.prog w= .ok (.slice (some ⟨w.heap.size,0,none⟩) m m) (w.alloc (.cells (madeCells #[.int .u8 0] m) 5)):=fun w=>by
  have h:=run_make (P:=Tryz.prog) w 27 5 i (.int .u8 0) Tryz.underlying27 hi hz .i64 .i64 m m (by omega) (by omega) (by rw[hby];omega) (by omega)
  rw[hsize,Int.toNat_natCast,Nat.mul_one] at h
  exact h
 have hv0:BV (newb w (w.alloc (.cells (madeCells #[.int .u8 0] m) 5))) (w.alloc (.cells (madeCells #[.int .u8 0] m) 5)) (some ⟨w.heap.size,0,none⟩) m (boolRow l 0):=by
  unfold BV
  have h:=Vec.newrow w (madeCells #[.int .u8 0] m) 5 (size:=1) (n:=m) (by rw[size_madeCells];omega) (by unfold maxLen;omega) (by rw[toList_madeCells_one];intro u hu;rw[List.eq_of_mem_replicate hu];rfl)
  rw[toList_madeCells_one] at h
  rw[boolRow_len,boolRow_zero,←hm];exact h
 obtain ⟨w1,hw1⟩:∃w1,w1=w.alloc (.cells (madeCells #[.int .u8 0] m) 5):=⟨_,rfl⟩
 obtain ⟨z,hz1⟩:∃z,z=w.heap.size:=⟨_,rfl⟩
 have hf1:Fr nob w w1:=by rw[hw1];exact (Fr.refl nob _).alloc _
 have hs1:w1.heap.size=z+1:=by rw[hw1,hz1];simp
 have hv1:BV (fun k=>k=z) w1 (some ⟨z,0,none⟩) m (boolRow l 0):=by
  rw[←hw1,←hz1] at hv0
  exact hv0.mono (fun k hk=>by have h1:=hk.1;have h2:=hk.2;omega)
 have hb1:Ev w nob w1 (fun k=>k=z):=⟨hf1,fun k hk=>Or.inr (by omega),fun k hk=>by omega⟩
 have HEV1:=Lib.hid hb1
 have HV1:=Lib.hid hv1
 have HW1:=Lib.hid hw1
 have HZ1:=Lib.hid hz1
 have HM:=Lib.hid hm
 have HT:=Lib.hid ht
 have hml:l.length≤8*m:=by omega
 clear hl hf1 hv0 hv1 hw1 hz1 hb1 hm hi hz hsize hby
 go_enter Tryz.func176,Tryz.ntmps176
 go_wp2_with fail
 rw[←HW1.out,←HZ1.out]
 clear hmi
 go_loopw [13] (fun v13 wr=>∃(k:Nat),v13= .int .i64 k∧k≤l.length∧BV (fun j=>j=z) wr (some ⟨z,0,none⟩) m (boolRow l k)∧Ev w nob wr (fun j=>j=z)) (fun v13 _=>l.length - (intOf v13).toNat)
 case atStart=>exact ⟨0,rfl,Nat.zero_le _,HV1.out,HEV1.out⟩
 case round=>
  obtain ⟨k,rfl,hk,hv,hev⟩:=hrel
  have HEV:=Lib.hid hev
  have HV:=Lib.hid hv
  clear hev hv
  by_cases hlt:k<l.length
  · obtain ⟨b1,off,rfl,_,_,htl,c0,c1⟩:=cel_at (HL.out _ _ HEV.out) hlt
    have hba:=boolByte_at hlt HT.out
    have hbr:=boolRow_succ hlt
    have hk1:=(HT.out l[k] (List.getElem_mem hlt)).1
    have hqm:k / 8<m:=by omega
    obtain ⟨b2,off2,he,_,hcell⟩:=HV.out.get (i:=k / 8) (by rw[boolRow_len,←HM.out];exact hqm)
    cases he
    rw[boolRow_get (by rw[←HM.out];exact hqm)] at hcell
    clear htl
    generalize l[k]=c at hba hk1 c0 c1
    obtain ⟨v,t⟩:=c
    simp only at hba hk1 c0 c1
    obtain ⟨q,hq⟩:∃q,q=k / 8:=⟨_,rfl⟩
    obtain ⟨s,hs⟩:∃s,s=k%8:=⟨_,rfl⟩
    have hs8:s<8:=by omega
    have hqi:(k:Int) / 8=(q:Int):=by omega
    have hsi:(k:Int)%8=(s:Int):=by omega
    rw[←hq] at hqm hcell hba hbr
    rw[←hs] at hba
    have HQS:=Lib.hid (⟨hq,hs⟩:_∧_)
    clear hq hs
    have hwq:IntKind.i64.wrap (q:Int)=(q:Int):=by rw[IntKind.wrap_i64];omega
    generalize boolByte (l.take k) q=B at hcell hba
    generalize boolByte (l.take (k+1)) q=nb at hba hbr
    have hor:=bits_or8 (2 ^ s) B.toNat v s rfl hs8 hba.2 hk1
    rw[←hba.1] at hor
    have HBR:=Lib.hid hbr
    have hB8:=UInt8.toNat_lt B
    generalize B.toNat=Bn at hcell hor hB8
    have HOR:=Lib.hid hor
    clear hbr hba
    obtain ⟨w2,hw2⟩:∃w2,w2=wr.alloc (.cells #[.int .u64 v, .string (bs t)] 74 (0,0)):=⟨_,rfl⟩
    have hB:=heap_new wr (.cells #[.int .u64 v, .string (bs t)] 74 (0,0))
    have hf2:Fr nob wr w2:=by rw[hw2];exact (Fr.refl nob wr).alloc _
    rw[←hw2] at hB
    obtain ⟨z2,hz2⟩:∃z,z=wr.heap.size:=⟨_,rfl⟩
    rw[←hz2] at hB
    have q0:∀y,Fr nob w2 y→y.cell? ⟨z2,0,none⟩=some (.int .u64 v):=fun y hy=>by have:=cell_of (hy.heap hB id) 0;simpa using this
    have hcl:=hcell
    rw[Nat.zero_add] at hcl
    have q1:∀y,Fr nob w2 y→y.cell? ⟨z,q,none⟩=some (.int .u8 Bn):=fun y hy=>(hf2.andN hy).cell hcl id
    go_wp2_with fail
    rw[←hz2,←hw2]
    have HF2:=Lib.hid hf2
    clear hw2 hz2 hB hf2 hcell hcl c0 c1
    have E1:=Lib.hid (Ev.of HF2.out HEV.out.lt)
    have G1:=Lib.hid HF2.out
    have hfin:bits BinOp.or IntKind.u8 (Bn:Int) (IntKind.u8.wrap (IntKind.u8.wrap (v:Int)*2 ^ min ((k:Int).tmod 8).toNat 8))=(nb.toNat:Int):=by
     have e1:((k:Int).tmod 8).toNat=s:=by
      rw[Int.tmod_eq_emod_of_nonneg (by omega),hsi];simp
     have e2:IntKind.u8.wrap (v:Int)=(v:Int):=by rw[IntKind.wrap_u8];omega
     have hp:2*2 ^ s≤256:=by
      have:=Nat.pow_le_pow_right (show 0<2 by omega) (show s+1≤8 by omega)
      rw[Nat.pow_succ] at this;omega
     have e3:IntKind.u8.wrap ((v:Int)*2 ^ s)=(v:Int)*2 ^ s:=by
      have:((v:Int)*2 ^ s)=((v*2 ^ s:Nat):Int):=by simp
      rw[this,IntKind.wrap_u8]
      rcases (show v=0∨v=1 by omega) with rfl | rfl<;>omega
     rw[e1,show min s 8=s by omega,e2,e3]
     exact HOR.out
    have hVz:=HV.out.vec.frN G1.out
    have hset:=hVz.set (j:=q) (by rw[boolRow_len,←HM.out];omega) (u:= .int .u8 nb.toNat) rfl
    rw[Nat.zero_add] at hset
    obtain ⟨hset,hfset⟩:=hset
    have hcz:w2.cell? ⟨z,q,none⟩=some (.int .u8 Bn):=q1 w2 (Fr.refl nob w2)
    have hfz:w2.frozen? ⟨z,q,none⟩=false:=by
     obtain ⟨_,_,e,_,_,r2,_⟩:=hVz.addr (by omega)
     cases e
     have:=r2 q (by omega)
     rwa [Nat.zero_add] at this
    have HSET:=Lib.hid (⟨hset,hfset⟩:_∧_)
    clear hset hfset hVz hor
    refine wp_region_ord2 13 [(0,true),(1,true),(2,true),(3,true),(4,true),(5,true),(6,true),(7,true),(8,true),(9,true),(10,true),(11,true),(12,true)] [(13,false)] (Fr nob w2) rfl (by kernel_rfl) (by kernel_rfl) (by kernel_rfl) (by decide) (fun c a d v w h=>by cases d<;>exact h) ((Fr.refl nob w2).drew) (fun ops hops hS=>?_)
    repeat (apply wpOrdB_free _ _ (by rw[hops.out];rfl) (by first | exact Wants.plain rfl | exact Wants.yes rfl (by rw[hops.out];rfl) rfl rfl);(focus (intro x hx;go_simp;rfl));go_simp)
    refine wpOrdB_nil (fun _=>True) trivial ?_
    refine oA hops (by rfl) (by first | exact .plain rfl | exact .y hops rfl rfl rfl rfl) (fun K hK=>?_)
    go_wp2_with fail
    have hf6:Fr (fun j=>j=z) w2 (w2.setCell ⟨z,q,none⟩ (.int .u8 nb.toNat)).drew:=HSET.out.2.nthen' (Fr.refl nob _).drew
    have hv6:=HSET.out.1.frN (Fr.refl nob _).drew
    obtain ⟨w6,hw6⟩:∃w6,w6=(w2.setCell ⟨z,q,none⟩ (.int .u8 nb.toNat)).drew:=⟨_,rfl⟩
    rw[←hw6] at hf6 hv6 ⊢
    refine ⟨_,fun _ h=>h,trivial,wpOrd_nil ?_⟩
    have EA:=Lib.hid (Ev.turn hf6 E1.out.lt)
    have HV6:=Lib.hid hv6
    clear hw6 hf6 hv6
    go_wp2_with fail
    go_roundw
    case rel=>
     refine ⟨k+1,by go_num,by omega,?_,(HEV.out.trans (E1.out.trans EA.out))⟩
     unfold BV
     rw[HBR.out,List.length_set,bv_set]
     exact HV6.out
    case measure=>simp[intOf];omega
  · obtain rfl:k=l.length:=by omega
    rw[boolRow_all] at HV
    have hwl:(wBools l).length=m:=by rw[←boolRow_all,boolRow_len];exact HM.out.symm
    have HWL:=Lib.hid hwl
    clear hwl
    go_wp2_with fail
    go_ret
    refine ⟨some ⟨z,0,none⟩,m,?_,(HEV.out).toN,HV.out.mono (HEV.out).news⟩
    rw[HWL.out];rfl
end Go.Proofs.YtibpkfnfcdbiiaaGreatDoor
