/- Numbers of a column: written behind one another, and taken. Numbers of a column: takeSigned, takeNumbers; behind, writeSigned, writeNumbers. Numbers of a column, written. -/
import Derived.Test.YtibpkfnfcdbiiaaGreatDoorBunM
import Derived.Test.YtibpkfnfcdbiiaaGreatDoorEvo
import Derived.WalkMore
namespace Go.Proofs.YtibpkfnfcdbiiaaGreatDoor
set_option linter.unusedSimpArgs false
open Go.RowKit
set_option linter.unusedVariables false
def sub64 (x last:Nat):Int:=wrap64 ((x:Int) - last)
def add64 (last:Nat) (x:Int):Nat:=(((last:Int)+x)%18446744073709551616).toNat
theorem add64_lt (last:Nat) (x:Int):add64 last x<18446744073709551616:=by unfold add64;omega
theorem sub64_I64 (x last:Nat):I64 (sub64 x last):=by unfold sub64 I64 wrap64;omega
theorem add_sub64 {x last:Nat} (hx:x<18446744073709551616) (hl:last<18446744073709551616):add64 last (sub64 x last)=x:=by
 unfold add64 sub64 wrap64;omega
theorem sub_add64 {last:Nat} {x:Int} (hl:last<18446744073709551616) (hx:I64 x):sub64 (add64 last x) last=x:=by
 obtain ⟨h1,h2⟩:=hx
 unfold add64 sub64 wrap64;omega
def pNext (last:Nat):Nat→List UInt8→Res (List Cel)
 | 0,d=> .ok [] d
 | n+1,d=>match pInt d with
   | .ok x r=>(pNext (add64 last x) n r).pre [⟨add64 last x,[]⟩]
   | .bad e r=> .bad e r
def wBehind (last:Nat):List Cel→List UInt8
 | []=>[]
 | c::l=>wInt (sub64 c.num last)++wBehind c.num l
def Numbers (l:List Cel):Prop:=∀c∈l,c.num<18446744073709551616∧c.text=[]
theorem pNext_ok:∀(n last:Nat) (d r:List UInt8) (l:List Cel),last<18446744073709551616→(pNext last n d= .ok l r↔l.length=n∧Numbers l∧d=wBehind last l++r)
 | 0,last,d,r,l,hl=>by
   constructor
   · intro h;cases h;exact ⟨rfl,by simp[Numbers],rfl⟩
   · rintro ⟨h1,_,h3⟩
     obtain rfl:=List.length_eq_zero_iff.1 h1
     subst h3;rfl
 | n+1,last,d,r,l,hl=>by
   unfold pNext
   constructor
   · intro h
     split at h
     · rename_i x r' hx
       obtain ⟨h1,h2⟩:=pInt_ok.1 hx
       obtain ⟨l',rfl,h3⟩:=Res.pre_ok.1 h
       obtain ⟨h4,h5,h6⟩:=(pNext_ok n _ _ _ _ (add64_lt last x)).1 h3
       refine ⟨by simp[h4],?_,?_⟩
       · intro c hc
         rcases List.mem_cons.1 hc with rfl | hc
         · exact ⟨add64_lt last x,rfl⟩
         · exact h5 c hc
       · show d=wInt (sub64 (add64 last x) last)++wBehind (add64 last x) l' ++r
         rw[sub_add64 hl h1,List.append_assoc,←h6];exact h2
     · cases h
   · rintro ⟨h1,h2,h3⟩
     cases l with
     | nil=>simp at h1
     | cons c l=>
       obtain ⟨v,t⟩:=c
       obtain ⟨h4,h5⟩:=h2 ⟨v,t⟩ (by simp)
       simp only at h4 h5
       subst h5
       have hp:pInt d= .ok (sub64 v last) (wBehind v l++r):=pInt_ok.2 ⟨sub64_I64 v last,by rw[h3];simp[wBehind]⟩
       rw[hp]
       simp only[add_sub64 h4 hl]
       refine Res.pre_ok.2 ⟨l,rfl,(pNext_ok n v _ _ _ h4).2 ⟨by simpa using h1,fun c hc=>h2 c (List.mem_cons_of_mem _ hc),rfl⟩⟩
def celCells (c:Cel):List Value:=[.int .u64 c.num, .string (bs c.text)]
def CelFit (c:Cel):Prop:=c.num<18446744073709551616∧c.text.length≤lim
theorem cels_vec {S:Nat→Prop} {w:World} {a:Option Addr} {cap:Nat} {l:List Cel} (h:SV rCel 2 S w a cap l):Vec S w 2 a l.length cap (l.flatMap celCells)∧∀c∈l,CelFit c:=by
 obtain ⟨css,h1,h2,h3⟩:=h
 have hc:css=l.map celCells:=by
  apply List.ext_getElem?
  intro i
  by_cases hi:i<l.length
  · have:=h3 i _ _ (List.getElem?_eq_getElem (h1 ▸ hi)) (List.getElem?_eq_getElem hi)
    rw[List.getElem?_map,List.getElem?_eq_getElem hi,List.getElem?_eq_getElem (h1 ▸ hi),this.2.2];rfl
  · rw[List.getElem?_eq_none (by omega),List.getElem?_eq_none (by simp;omega)]
 refine ⟨by rw[List.flatMap_def,←hc];exact h2,fun c hc' =>?_⟩
 obtain ⟨i,hi,rfl⟩:=List.mem_iff_getElem.1 hc'
 have:=h3 i _ _ (List.getElem?_eq_getElem (h1 ▸ hi)) (List.getElem?_eq_getElem hi)
 exact ⟨this.1,this.2.1⟩
theorem vec_cels {S:Nat→Prop} {w:World} {a:Option Addr} {cap:Nat} {l:List Cel} (h:Vec S w 2 a l.length cap (l.flatMap celCells)) (hl:∀c∈l,CelFit c):SV rCel 2 S w a cap l:=by
 refine ⟨l.map celCells,by simp,by rw[←List.flatMap_def];exact h,fun i c x hc hx=>?_⟩
 rw[List.getElem?_map,hx] at hc
 cases hc
 obtain ⟨h1,h2⟩:=hl x (List.mem_of_getElem? hx)
 exact ⟨h1,h2,rfl⟩
set_option maxRecDepth 100000 in
set_option maxHeartbeats 8000000 in
theorem next_o (O:Nat→Prop) (w:World) (r:Nat) (hr:r<w.heap.size) (hOr:¬O r) (hO:∀k,O k→k<w.heap.size) (a:Option Addr) (cap:Nat) (l d:List UInt8) (hA:At w r a l cap d) (hb:BV (free w (fun k=>k=r∨O k)) w a cap l) (hn:l.length≤1099511627776)
 (last n:Nat) (hlast:last<18446744073709551616) (hnn:n≤1024) (ao:Option Addr) (co:Nat) (acc:List Cel) (hacc:SV rCel 2 O w ao co acc) (ha1:acc.length≤1):
 Calls Tryz.prog 189 #[.pointer (some ⟨r,0,none⟩), .slice ao acc.length co, .int .u64 last, .int .i64 n] w fun e w' =>
  ROut (fun k=>k=r∨O k) w w' r a l cap ((pNext last n d).pre acc) (fun xs e=>∃a' c',e= .returned (.slice a' xs.length c')∧SV rCel 2 (grow O w w') w' a' c' xs) e:=by
 obtain ⟨E,hE⟩:∃E,E=(pNext last n d).pre acc:=⟨_,rfl⟩
 rw[←hE]
 have HE:=Lib.hid hE
 have hlt0:∀k,(k=r∨O k)→k<w.heap.size:=fun k hk=>hk.elim (fun h=>h ▸ hr) (hO k)
 have HB:=Lib.hid (BV.keep hb)
 clear hb
 have HACC:=Lib.hid hacc
 have HA:=Lib.hid hA
 have HO:=Lib.hid (⟨hOr,hO⟩:_∧_)
 clear hE hacc hA hO hOr
 go_enter Tryz.func189,Tryz.ntmps189
 go_wp2_with fail
 go_loopw [1,2,10] (fun v1 v2 v10 wr=>∃(k:Nat) (O' :Nat→Prop) (o:List Cel) (a' :Option Addr) (c' la:Nat) (d' :List UInt8),v10= .int .i64 k∧v2= .int .u64 la∧v1= .slice a' o.length c' ∧k≤n∧o.length=acc.length+k∧la<18446744073709551616∧E=(pNext la (n - k) d').pre o∧SV rCel 2 O' wr a' c' o∧¬O' r∧(∀j,O' j→O j∨w.heap.size≤j)∧At wr r a l cap d' ∧Ev w (fun j=>j=r∨O j) wr (fun j=>j=r∨O' j)) (fun _ _ v10 _=>n - (intOf v10).toNat)
 case atStart=>exact ⟨0,O,acc,ao,co,last,d,rfl,rfl,rfl,Nat.zero_le _,rfl,hlast,HE.out,HACC.out,HO.out.1,fun j hj=>Or.inl hj,HA.out,Ev.refl hlt0⟩
 case round=>
  obtain ⟨k,O',o,a',c',la,d',rfl,rfl,rfl,hk,hol,hla,hEk,hv,hrO,hOO,hAt,hev⟩:=hrel
  have HEV:=Lib.hid hev
  have HV:=Lib.hid hv
  have HAT:=Lib.hid hAt
  have HEK:=Lib.hid hEk
  have HOO:=Lib.hid (⟨hrO,hOO⟩:_∧_)
  have HOL:=Lib.hid hol
  have hol2:o.length≤1025:=by omega
  clear hev hv hAt hEk hrO hOO hol
  by_cases hlt:k<n
  · have hEk:=HEK.out
    rw[show n - k=(n - (k+1))+1 by omega] at hEk
    unfold pNext at hEk
    have hc:=rInt_o _ _ _ _ _ l d' HAT.out (HB.out _ _ HEV.out) hn
    cases ho:pInt d' with
    | ok x d1=>
      rw[ho] at hEk hc
      simp only at hEk
      have hx:=(pInt_ok.1 ho).1
      have HEK1:=Lib.hid hEk
      have hO0:=HOO.out.1
      clear hEk HEK
      have hc2:=hc.mono (R' :=fun e w' =>e= .returned (.int .i64 x)∧Fr (fun j=>j=r) wr w' ∧At w' r a l cap d1) (fun e w' h=>by obtain ⟨rfl,h1,h2⟩:=h.ok rfl;exact ⟨rfl,h1,h2⟩)
      clear hc
      go_wp2_with fail
      refine (hc2).mono ?_
      rintro e u1 ⟨rfl,hfr,hAt1⟩
      have E1:=Lib.hid (Ev.turn (hfr.mono (fun k _ h=>by subst h;exact Or.inl rfl)) HEV.out.lt)
      have T1:=Lib.hid hfr
      clear hfr
      have HAT1:=Lib.hid hAt1
      have HVx:=Lib.hid (HV.out.fr rCel_ok T1.out (fun j hj he=>hO0 (he ▸ hj)))
      clear hAt1 hc2
      obtain ⟨v,hvv⟩:∃v,v=add64 la x:=⟨_,rfl⟩
      have hva:IntKind.u64.wrap ((la:Int)+IntKind.u64.wrap x)=(v:Int):=by
       rw[hvv,IntKind.wrap_u64,IntKind.wrap_u64];unfold add64;omega
      have hv64:v<18446744073709551616:=by rw[hvv];exact add64_lt la x
      rw[←hvv] at HEK1
      clear hvv
      obtain ⟨w3,hw3⟩:∃x1,x1=u1.alloc (.cells #[.int .u64 v, .string ⟨#[]⟩] 74 (0,0)):=⟨_,rfl⟩
      have hf3:Fr nob u1 w3:=by rw[hw3];exact (Fr.refl nob _).alloc _
      have hlit:=Vec.newrow u1 #[.int .u64 v, .string ⟨#[]⟩] 74 (size:=2) (n:=1) rfl (by unfold maxLen;omega) (by simp[Value.oneCell'])
      have HSRC:=Lib.hid (hlit.src (P:=Tryz.prog) Tryz.underlying64)
      have HVV:=Lib.hid ((cels_vec HVx.out).1.frN hf3)
      have HFIT:=Lib.hid (cels_vec HVx.out).2
      rw[hw3] at HVV
      have HF3:=Lib.hid hf3
      have HW3:=Lib.hid hw3
      clear hlit hf3 hw3
      go_wp2_with (at_builtin;refine wpList_append_vec rfl _ _ _ _ rfl rfl HVV.out _ _ _ Tryz.underlying64 inf_Cell rfl _ 1 _ rfl HSRC.out (by unfold maxLen;omega) (by omega) ?_)
      intro a6 c6 w6 hv6 hf6 _
      rw[←HW3.out] at hv6 hf6
      have HV6:=Lib.hid hv6
      have HF6:=Lib.hid hf6
      clear hv6 hf6
      have E2:=Lib.hid (Ev.of HF3.out E1.out.lt)
      have G2:=Lib.hid HF3.out
      go_wp2_with fail
      go_roundw
      case rel=>
       have e6:Ev w3 (fun j=>j=r∨O' j) w6 (fun j=>j=r∨grow O' w3 w6 j):=by
        have hg:=Ev.grow (HF6.out.mono (T:=fun j=>j=r∨O' j) (fun k _ h=>Or.inr h)) E2.out.lt
        exact hg.drop (fun j hj=>hj.elim (fun h=>Or.inl (Or.inl h)) (fun h=>h.elim (fun h=>Or.inl (Or.inr h)) Or.inr))
       refine ⟨k+1,_,o++[⟨v,[]⟩],a6,c6,v,d1,by go_num,rfl,by simp,by omega,by have:=HOL.out;simp;omega,hv64,?_,vec_cels ?_ ?_,?_,?_,?_,((HEV.out.trans (E1.out.trans E2.out))).trans e6⟩
       · rw[HEK1.out,Res.pre_pre]
       · rw[List.length_append,List.flatMap_append];exact HV6.out
       · intro c hc
         rcases List.mem_append.1 hc with hc | hc
         · exact HFIT.out c hc
         · rw[List.mem_singleton.1 hc];exact ⟨hv64,by simp⟩
       · intro h
         rcases h with h | h
         · exact HOO.out.1 h
         · have:=((HEV.out.trans (E1.out.trans E2.out))).fr.size;have:=h.1;omega
       · intro j hj
         rcases hj with hj | hj
         · exact HOO.out.2 j hj
         · have:=((HEV.out.trans (E1.out.trans E2.out))).fr.size;have:=hj.1;exact Or.inr (by omega)
       · exact (HAT1.out.fr HF3.out id).fr HF6.out HOO.out.1
      case measure=>simp[intOf];omega
    | bad c d1=>
      rw[ho] at hEk hc
      simp only at hEk
      have HEK1:=Lib.hid hEk
      clear hEk HEK
      have hc2:=hc.mono (R' :=fun e w' =>e= .panicked (broken r c)∧Fr (fun j=>j=r) wr w' ∧At w' r a l cap d1∧c≠0∧c<256) (fun e w' h=>by obtain ⟨rfl,h1,h2⟩:=h.bad rfl;exact ⟨rfl,h1,h2⟩)
      clear hc
      go_wp2_with fail
      refine (hc2).mono ?_
      rintro e u3 ⟨rfl,hfr,hAt1,hc0,hc6⟩
      have E3:=Lib.hid (Ev.turn (hfr.mono (fun k _ h=>by subst h;exact Or.inl rfl)) HEV.out.lt)
      have T3:=Lib.hid hfr
      clear hfr
      have HAT1:=Lib.hid (⟨hc0,hc6,hAt1⟩:_∧_∧_)
      clear hAt1 hc0 hc6 hc2
      go_wp2_with fail
      refine ⟨rfl,((HEV.out.trans E3.out)).fr,?_⟩
      rw[HEK1.out]
      exact ⟨rfl,HAT1.out⟩
  · obtain rfl:k=n:=by omega
    have hEk:=HEK.out
    rw[Nat.sub_self] at hEk
    unfold pNext at hEk
    simp only[Res.pre,List.append_nil] at hEk
    have HEK1:=Lib.hid hEk
    clear hEk
    go_wp2_with fail
    go_ret
    refine ⟨(HEV.out).fr,?_⟩
    rw[HEK1.out]
    refine ⟨⟨a',c',rfl,HV.out.mono rCel_ok (fun j hj=>?_)⟩,HAT.out⟩
    rcases HOO.out.2 j hj with h | h
    · exact Or.inl h
    · exact Or.inr ⟨h,(HEV.out).lt j (Or.inr hj)⟩
def TOut (w w' :World) (r:Nat) (a:Option Addr) (l:List UInt8) (cap:Nat) (o:Res (List Cel)) (e:Ending):Prop:=
 ROut (fun k=>k=r) w w' r a l cap o (fun xs e=>∃a' c',e= .returned (.slice a' xs.length c')∧SV rCel 2 (newb w w') w' a' c' xs) e
def pSigned (n:Nat) (d:List UInt8):Res (List Cel):=pNext 0 n d
def wSigned (l:List Cel):List UInt8:=wBehind 0 l
def pNumbers (n:Nat) (d:List UInt8):Res (List Cel):=if n=0 then .ok [] d else match pUint m64 d with
 | .ok z r=>(pNext z (n - 1) r).pre [⟨z,[]⟩]
 | .bad e r=> .bad e r
def wNumbers:List Cel→List UInt8
 | []=>[]
 | c::l=>uv c.num++wBehind c.num l
theorem pSigned_ok {n:Nat} {d r:List UInt8} {l:List Cel}:pSigned n d= .ok l r↔l.length=n∧Numbers l∧d=wSigned l++r:=pNext_ok n 0 d r l (by omega)
theorem pNumbers_ok {n:Nat} {d r:List UInt8} {l:List Cel}:pNumbers n d= .ok l r↔l.length=n∧Numbers l∧d=wNumbers l++r:=by
 unfold pNumbers
 by_cases hn:n=0
 · subst hn
   rw[if_pos rfl]
   constructor
   · intro h;cases h;exact ⟨rfl,by simp[Numbers],rfl⟩
   · rintro ⟨h1,_,h3⟩
     obtain rfl:=List.length_eq_zero_iff.1 h1
     subst h3;rfl
 · rw[if_neg hn]
   constructor
   · intro h
     split at h
     · rename_i z r' hz
       obtain ⟨h1,h2,h3⟩:=pUint_ok.1 hz
       obtain ⟨l',rfl,h4⟩:=Res.pre_ok.1 h
       obtain ⟨h5,h6,h7⟩:=(pNext_ok (n - 1) z r' r l' h1).1 h4
       refine ⟨by simp;omega,?_,?_⟩
       · intro c hc
         rcases List.mem_cons.1 hc with rfl | hc
         · exact ⟨h1,rfl⟩
         · exact h6 c hc
       · show d=uv z++wBehind z l' ++r
         rw[List.append_assoc,←h7];exact h3
     · cases h
   · rintro ⟨h1,h2,h3⟩
     cases l with
     | nil=>simp at h1;omega
     | cons c l=>
       obtain ⟨v,t⟩:=c
       obtain ⟨h4,h5⟩:=h2 ⟨v,t⟩ (by simp)
       simp only at h4 h5
       subst h5
       have hp:pUint m64 d= .ok v (wBehind v l++r):=pUint_ok.2 ⟨h4,by unfold m64;omega,by rw[h3];simp[wNumbers]⟩
       rw[hp]
       exact Res.pre_ok.2 ⟨l,rfl,(pNext_ok (n - 1) v _ _ _ h4).2 ⟨by simp at h1;omega,fun c hc=>h2 c (List.mem_cons_of_mem _ hc),rfl⟩⟩
theorem takeSigned_o (S:Nat→Prop) (w:World) (r:Nat) (hr:r<w.heap.size) (hSr:¬S r) (hS:∀k,S k→k<w.heap.size) (a:Option Addr) (cap:Nat) (l d:List UInt8) (hA:At w r a l cap d) (hb:BV S w a cap l) (hn:l.length≤1099511627776) (n:Nat) (hnn:n≤1024):
 Calls Tryz.prog 175 #[.pointer (some ⟨r,0,none⟩), .int .i64 n] w fun e w' =>TOut w w' r a l cap (pSigned n d) e:=by
 have hc:=next_o nob w r hr id (nob_lt w) a cap l d hA (hb.mono (fun k hk=>⟨hS k hk,fun h=>h.elim (fun h=>hSr (h ▸ hk)) id⟩)) hn 0 n (by omega) hnn none 0 [] ⟨[],rfl,Vec.nil _ _ _,by simp⟩ (by simp)
 rw[Res.pre_nil] at hc
 unfold pSigned
 have hc:Calls Tryz.prog 189 #[.pointer (some ⟨r,0,none⟩), .slice none 0 0, .int .u64 0, .int .i64 n] w fun e w' =>TOut w w' r a l cap (pNext 0 n d) e:=hc.mono (fun e w' h=>by
  have hfr:Fr (fun k=>k=r) w w' :=h.1.mono (fun k _ h=>h.elim id False.elim)
  refine ⟨hfr,?_⟩
  have h2:=h.2
  cases ho:pNext 0 n d with
  | ok v d' =>
    rw[ho] at h2
    obtain ⟨⟨a',c',he,hv⟩,hA⟩:=h2
    exact ⟨⟨a',c',he,hv.mono rCel_ok (fun k hk=>hk.elim False.elim id)⟩,hA⟩
  | bad c d' =>rw[ho] at h2;exact h2)
 cases ho:pNext 0 n d with
 | ok v d' =>
   rw[ho] at hc
   clear hA hb
   go_enter Tryz.func175,Tryz.ntmps175
   go_wp2_with fail
   refine hc.mono ?_
   intro e w1 h
   have H:=Lib.hid h
   obtain ⟨⟨a',c',rfl,hv⟩,hf,hA1⟩:=h.ok rfl
   clear h hv hf hA1
   go_wp2_with fail
   go_ret
   exact H.out
 | bad c d' =>
   rw[ho] at hc
   clear hA hb
   go_enter Tryz.func175,Tryz.ntmps175
   go_wp2_with fail
   refine hc.mono ?_
   intro e w1 h
   have H:=Lib.hid h
   obtain ⟨rfl,hf,hA1⟩:=h.bad rfl
   clear h hf hA1
   go_wp2_with fail
   exact ⟨rfl,H.out⟩
set_option maxRecDepth 100000 in
set_option maxHeartbeats 8000000 in
theorem takeNumbers_o (S:Nat→Prop) (w:World) (r:Nat) (hr:r<w.heap.size) (hSr:¬S r) (hS:∀k,S k→k<w.heap.size) (a:Option Addr) (cap:Nat) (l d:List UInt8) (hA:At w r a l cap d) (hb:BV S w a cap l) (hn:l.length≤1099511627776) (n:Nat) (hnn:n≤1024):
 Calls Tryz.prog 173 #[.pointer (some ⟨r,0,none⟩), .int .i64 n] w fun e w' =>TOut w w' r a l cap (pNumbers n d) e:=by
 obtain ⟨E,hE⟩:∃E,E=pNumbers n d:=⟨_,rfl⟩
 rw[←hE]
 unfold pNumbers at hE
 by_cases h0:n=0
 · subst h0
   rw[if_pos rfl] at hE
   subst hE
   have HA:=Lib.hid hA
   clear hA hb
   go_enter Tryz.func173,Tryz.ntmps173
   go_wp2_with fail
   go_ret
   exact ⟨Fr.refl _ _,⟨none,0,rfl,[],rfl,Vec.nil _ _ _,by simp⟩,HA.out⟩
 · rw[if_neg h0] at hE
   have hd0:((n:Int) == 0)=false:=by simp;omega
   have hc:=rUint_o S w r a cap l d hA hb hn m64 (by unfold m64;omega)
   cases ho:pUint m64 d with
   | bad c d' =>
     rw[ho] at hE hc
     simp only at hE
     subst hE
     clear hA hb
     go_enter Tryz.func173,Tryz.ntmps173
     go_wp2_with fail
     refine hc.mono ?_
     intro e w1 h
     obtain ⟨rfl,hf,hA1,h1,h2⟩:=h.bad rfl
     have H:=Lib.hid (⟨hf,hA1,h1,h2⟩:_∧_∧_∧_)
     clear h hf hA1 h1 h2
     go_wp2_with fail
     exact ⟨rfl,H.out.1,rfl,H.out.2.2.1,H.out.2.2.2,H.out.2.1⟩
   | ok z d1=>
     rw[ho] at hE hc
     simp only at hE
     have hz:=(pUint_ok.1 ho).1
     have HE:=Lib.hid hE
     have HB:=Lib.hid hb
     have HS:=Lib.hid (⟨hS,hSr,hr⟩:_∧_∧_)
     clear hA hb hE hS hSr hr
     go_enter Tryz.func173,Tryz.ntmps173
     go_wp2_with fail
     refine hc.mono ?_
     intro e w1 h
     obtain ⟨rfl,hf1,hA1⟩:=h.ok rfl
     have HF1:=Lib.hid hf1
     have HA1:=Lib.hid hA1
     clear h hf1 hA1
     obtain ⟨w3,hw3⟩:∃x1,x1=w1.alloc (.cells #[.int .u64 z, .string ⟨#[]⟩] 74 (0,0)):=⟨_,rfl⟩
     obtain ⟨z3,hz3⟩:∃z3,z3=w1.heap.size:=⟨_,rfl⟩
     have hf3:Fr nob w1 w3:=by rw[hw3];exact (Fr.refl nob _).alloc _
     have hlit:=Vec.newrow w1 #[.int .u64 z, .string ⟨#[]⟩] 74 (size:=2) (n:=1) rfl (by unfold maxLen;omega) (by simp[Value.oneCell'])
     rw[←hw3,←hz3] at hlit
     have hl1:w3.heap.size=z3+1:=by rw[hw3,hz3];simp
     have hs1:=HF1.out.size
     have hsv:SV rCel 2 (fun k=>k=z3) w3 (some ⟨z3,0,none⟩) 1 [⟨z,[]⟩]:=vec_cels (l:=[⟨z,[]⟩]) (hlit.mono (fun k hk=>by have h1:=hk.1;have h2:=hk.2;omega)) (by intro c hc;rw[List.mem_singleton.1 hc];exact ⟨hz,by simp⟩)
     have hSlt:=HS.out.1
     have hnx:=next_o (fun k=>k=z3) w3 r (by have:=HS.out.2.2;omega) (fun h=>by have:=HS.out.2.2;omega) (fun k hk=>by omega) a cap l d1 (HA1.out.fr hf3 id)
      ((((HB.out.fr HF1.out (fun k hk h=>HS.out.2.1 (h ▸ hk))).frN hf3)).mono (fun k hk=>⟨by have:=hSlt k hk;omega,fun h=>h.elim (fun h=>HS.out.2.1 (h ▸ hk)) (fun h=>by have:=hSlt k hk;omega)⟩)) hn z (n - 1) hz (by omega) (some ⟨z3,0,none⟩) 1 [⟨z,[]⟩] hsv (by simp)
     rw[←HE.out,show (((n - 1:Nat)):Int)=(n:Int) - 1 by omega] at hnx
     have HNX:=Lib.hid hnx
     have HF3:=Lib.hid hf3
     have HSZ:=Lib.hid (⟨hz3,hl1,hs1⟩:_∧_∧_)
     have HW3:=Lib.hid hw3
     have HZ3:=Lib.hid hz3
     clear hnx hf3 hw3 hlit hsv hz3 hl1 hs1 hSlt hc
     go_wp2_with fail
     rw[←HW3.out,←HZ3.out]
     refine HNX.out.mono ?_
     intro e w4 h
     have hall:∀e',e=e' →TOut w w4 r a l cap E e' :=by
      rintro e' rfl
      have hfr:Fr (fun k=>k=r) w w4:=(HF1.out.trans (HF3.out.any (T:=fun k=>k=r)) (fun _ _ h=>h)).trans h.1 (fun k hk h=>h.elim id (fun h=>by have h1:=HSZ.out.1;have h2:=HSZ.out.2.2;omega))
      refine ⟨hfr,?_⟩
      have h2:=h.2
      cases E with
      | ok v d' =>
        obtain ⟨⟨a',c',he,hv⟩,hA⟩:=h2
        refine ⟨⟨a',c',he,hv.mono rCel_ok (fun k hk=>?_)⟩,hA⟩
        have h4:=h.1.size
        obtain ⟨h5,h6,h7⟩:=HSZ.out
        rcases hk with hk | hk
        · exact ⟨by omega,by omega⟩
        · have:=hk.1;exact ⟨by omega,hk.2⟩
      | bad c d' =>exact h2
     have HALL:=Lib.hid hall
     cases E with
     | ok v d' =>
       obtain ⟨⟨a',c',rfl,hv⟩,hf,hA1⟩:=h.ok rfl
       clear h hv hf hA1 hall
       go_wp2_with fail
       go_ret
       exact HALL.out _ rfl
     | bad c d' =>
       obtain ⟨rfl,hf,hA1⟩:=h.bad rfl
       clear h hf hA1 hall
       go_wp2_with fail
       exact ⟨rfl,HALL.out _ rfl⟩
theorem wInt_len {x:Int} (h:I64 x):(wInt x).length≤10:=uv_len10 (zig_lt h)
theorem wBehind_len:∀(l:List Cel) (last:Nat),(wBehind last l).length≤10*l.length
 | [],_=>by simp[wBehind]
 | c::l,last=>by
   have h1:=wBehind_len l c.num
   have h2:=wInt_len (sub64_I64 c.num last)
   simp only[wBehind,List.length_append,List.length_cons];omega
theorem sub64_walk (x last:Nat) (hx:x<18446744073709551616) (hl:last<18446744073709551616):wrap64 (IntKind.u64.wrap ((x:Int) - last))=sub64 x last:=by
 rw[IntKind.wrap_u64];unfold sub64 wrap64;omega
set_option maxRecDepth 100000 in
set_option maxHeartbeats 8000000 in
theorem behind_any (O:Nat→Prop) (w:World) (hO:∀k,O k→k<w.heap.size) (ao:Option Addr) (co:Nat) (pre:List UInt8) (hp:BV O w ao co pre) (hp2:pre.length≤100) (last:Nat) (hlast:last<18446744073709551616) (b:Option Addr) (cb:Nat) (l:List Cel) (hl:SV rCel 2 (free w O) w b cb l) (hl2:l.length≤1048576):
 Calls Tryz.prog 188 #[.slice ao pre.length co, .int .u64 last, .slice b l.length cb] w fun e w' =>∃a' c',e= .returned (.slice a' (pre++wBehind last l).length c')∧Fr O w w' ∧BV (grow O w w') w' a' c' (pre++wBehind last l):=by
 obtain ⟨E,hE⟩:∃E,E=pre++wBehind last l:=⟨_,rfl⟩
 rw[←hE]
 have HE:=Lib.hid hE
 have HL:=Lib.hid (SV.keep rCel_ok hl)
 clear hl
 have HP:=Lib.hid hp
 clear hE hp
 go_enter Tryz.func188,Tryz.ntmps188
 go_wp2_with fail
 go_loopw [0,1,11] (fun v0 v1 v11 wr=>∃(k:Nat) (O' :Nat→Prop) (p:List UInt8) (a' :Option Addr) (c' la:Nat),v11= .int .i64 k∧v1= .int .u64 la∧v0= .slice a' p.length c' ∧k≤l.length∧p.length≤100+10*k∧la<18446744073709551616∧E=p++wBehind la (l.drop k)∧BV O' wr a' c' p∧(∀j,O' j→O j∨w.heap.size≤j)∧Ev w O wr O') (fun _ _ v11 _=>l.length - (intOf v11).toNat)
 case atStart=>exact ⟨0,O,pre,ao,co,last,rfl,rfl,rfl,Nat.zero_le _,by omega,hlast,HE.out,HP.out,fun j hj=>Or.inl hj,Ev.refl hO⟩
 case round=>
  obtain ⟨k,O',p,a',c',la,rfl,rfl,rfl,hk,hpl,hla,hEk,hv,hOO,hev⟩:=hrel
  have HEV:=Lib.hid hev
  have HV:=Lib.hid hv
  have HEK:=Lib.hid hEk
  have HOO:=Lib.hid hOO
  clear hev hv hEk hOO
  by_cases hlt:k<l.length
  · have hEk:=HEK.out
    rw[List.drop_eq_getElem_cons hlt] at hEk
    obtain ⟨b1,off,rfl,_,h64,htl,c0,c1⟩:=cel_at (HL.out _ _ HEV.out) hlt
    clear htl
    generalize l[k]=c at hEk h64 c0 c1
    obtain ⟨v,t⟩:=c
    simp only at hEk h64 c0 c1
    unfold wBehind at hEk
    simp only at hEk
    have HEK1:=Lib.hid hEk
    clear hEk HEK
    have hsw:=sub64_walk v la h64 hla
    have hi64:=sub64_I64 v la
    have hwl:=wInt_len hi64
    generalize sub64 v la=dlt at hsw hi64 hwl HEK1
    have HI64:=Lib.hid hi64
    clear hi64
    obtain ⟨w2,hw2⟩:∃w2,w2=wr.alloc (.cells #[.int .u64 v, .string (bs t)] 74 (0,0)):=⟨_,rfl⟩
    have hB:=heap_new wr (.cells #[.int .u64 v, .string (bs t)] 74 (0,0))
    have hf2:Fr nob wr w2:=by rw[hw2];exact (Fr.refl nob wr).alloc _
    rw[←hw2] at hB
    obtain ⟨z,hz⟩:∃z,z=wr.heap.size:=⟨_,rfl⟩
    rw[←hz] at hB
    have hzB:¬O' z:=fun h=>by have:=HEV.out.lt z h;omega
    have k0:w2.cell? ⟨z,0,none⟩=some (.int .u64 v):=by have:=cell_of hB 0;simpa using this
    have HF2:=Lib.hid hf2
    have HW2:=Lib.hid hw2
    have HZ:=Lib.hid hz
    have HB:=Lib.hid hB
    have HZB:=Lib.hid hzB
    rw[hw2,hz] at k0
    clear hf2 hw2 hz hB hzB
    go_wp2_with fail
    rw[←HZ.out,←HW2.out]
    have E1:=Lib.hid (Ev.of HF2.out HEV.out.lt)
    have G1:=Lib.hid HF2.out
    refine (wireInt_any dlt HI64.out w2).mono ?_
    rintro e u2 ⟨a3,c3,rfl,hfr,hv3⟩
    have E2:=Lib.hid (Ev.of hfr E1.out.lt)
    have G2:=Lib.hid hfr
    clear hfr
    have HV3:=Lib.hid (BV.keep (hv3.new E1.out.lt))
    clear hv3
    go_wp2_with (at_builtin;refine wpList_append_vec rfl _ _ _ _ rfl rfl (HV.out.vec.frN (G1.out.andN G2.out)) _ _ _ Tryz.underlying27 inf_u8 rfl _ (wInt dlt).length _ rfl (((HV3.out _ _ (Ev.refl E2.out.lt))).src Tryz.underlying27) (by unfold maxLen;omega) (by omega) ?_)
    intro a6 c6 w6 hv6 hf6 _
    have EA:=Lib.hid (Ev.grow hf6 E2.out.lt)
    have HV6:=Lib.hid (show BV _ w6 a6 c6 (p++wInt dlt) by unfold BV;rw[List.length_append,bv_append];exact hv6)
    have k6:w6.cell? ⟨z,0,none⟩=some (.int .u64 v):=by
     have:=cell_of (hf6.heap ((G2.out).heap HB.out id) HZB.out) 0
     simpa using this
    clear hv6 hf6
    go_wp2_with fail
    go_roundw
    case rel=>
     refine ⟨k+1,_,p++wInt dlt,a6,c6,v,by go_num,rfl,by simp,by omega,by simp;omega,h64,by rw[HEK1.out,List.append_assoc],HV6.out,?_,(HEV.out.trans (E1.out.trans (E2.out.trans EA.out)))⟩
     intro j hj
     exact ((HEV.out.trans (E1.out.trans (E2.out.trans EA.out)))).own j hj
    case measure=>simp[intOf];omega
  · obtain rfl:k=l.length:=by omega
    have hEk:=HEK.out
    rw[List.drop_length] at hEk
    unfold wBehind at hEk
    rw[List.append_nil] at hEk
    have HEK1:=Lib.hid hEk
    clear hEk
    go_wp2_with fail
    go_ret
    refine ⟨a',c',by rw[HEK1.out];rfl,(HEV.out).fr,?_⟩
    rw[HEK1.out]
    exact HV.out.mono (fun j hj=>(HOO.out j hj).elim Or.inl (fun h=>Or.inr ⟨h,(HEV.out).lt j hj⟩))
def WOut (w w' :World) (x:List UInt8) (e:Ending):Prop:=∃a' c',e= .returned (.slice a' x.length c')∧Fr nob w w' ∧BV (newb w w') w' a' c' x
theorem grow_nob (w w' :World):∀k,grow nob w w' k→newb w w' k:=fun k h=>h.elim False.elim id
theorem sub_cels {S:Nat→Prop} {w:World} {a:Option Addr} {cap:Nat} {xs:List Cel} (h:SV rCel 2 S w a cap xs) (lo hi' mx:Option Value) (x y m:Nat) (hb:∀w',(Instr.sliceBounds true xs.length cap lo hi' mx).run Tryz.prog w' = .ok (x,y,m) w') (h1:x≤y) (h2:y≤xs.length) (h3:y≤m) (h4:m≤cap):
 ∃a',(∀w',(Instr.slice 64 (.slice a xs.length cap) lo hi' mx).run Tryz.prog w' = .ok (.slice a' (y - x) (m - x)) w')∧SV rCel 2 S w a' (m - x) ((xs.drop x).take (y - x)):=by
 obtain ⟨i,hi,hz,hsize,hby⟩:=info_parts inf_Cell
 exact h.sub rCel_ok _ _ i Tryz.underlying64 hi hsize lo hi' mx x y m hb h1 h2 h3 h4
theorem writeSigned_any (S:Nat→Prop) (w:World) (b:Option Addr) (cb:Nat) (l:List Cel) (hl:SV rCel 2 S w b cb l) (hS:∀k,S k→k<w.heap.size) (hl2:l.length≤1048576):
 Calls Tryz.prog 174 #[.slice b l.length cb] w fun e w' =>WOut w w' (wSigned l) e:=by
 have hc:=behind_any nob w (nob_lt w) none 0 [] (BV.nil _ _) (by simp) 0 (by omega) b cb l (hl.within rCel_ok hS) hl2
 rw[List.nil_append] at hc
 clear hl
 go_enter Tryz.func174,Tryz.ntmps174
 go_wp2_with fail
 refine hc.mono ?_
 rintro e w1 ⟨a',c',rfl,hf,hv⟩
 have HV:=Lib.hid hv
 clear hv
 go_wp2_with fail
 go_ret
 exact ⟨a',c',rfl,hf,HV.out.mono (grow_nob w w1)⟩
set_option maxRecDepth 100000 in
set_option maxHeartbeats 4000000 in
theorem writeNumbers_any (S:Nat→Prop) (w:World) (b:Option Addr) (cb:Nat) (l:List Cel) (hl:SV rCel 2 S w b cb l) (hS:∀k,S k→k<w.heap.size) (hl2:l.length≤1048576):
 Calls Tryz.prog 172 #[.slice b l.length cb] w fun e w' =>WOut w w' (wNumbers l) e:=by
 have hl' :=hl.within rCel_ok hS
 cases l with
 | nil=>
   clear hl hl'
   go_enter Tryz.func172,Tryz.ntmps172
   go_wp2_with fail
   go_ret
   exact ⟨none,0,rfl,Fr.refl _ _,BV.nil _ _⟩
 | cons c l=>
   obtain ⟨b1,off,rfl,_,h64,_,c0,_⟩:=cel_at hl' (k:=0) (by simp)
   have hcap:1+l.length≤cb:=by obtain ⟨css,h1,h2,_⟩:=hl';have:=h2.le;simp at this;omega
   obtain ⟨b4,hsl4,hsv4⟩:=sub_cels hl' (some (.int .i64 1)) none none 1 (c::l).length cb (fun w' =>bounds_l .i64 1 _ rfl (by simp) w') (by simp) (by omega) (by simp;omega) (by omega)
   rw[List.drop_one,List.tail_cons,List.take_of_length_le (by simp)] at hsv4
   simp only[List.length_cons,Nat.add_sub_cancel] at hsl4
   simp only[List.getElem_cons_zero,Nat.zero_mul,Nat.add_zero] at h64 c0
   simp only[List.length_cons] at hl2
   obtain ⟨v,t⟩:=c
   simp only at h64 c0
   have HL:=Lib.hid (SV.keep rCel_ok hsv4)
   clear hsv4
   have q0:∀x,Fr nob w x→x.cell? ⟨b1,off,none⟩=some (.int .u64 v):=fun x hx=>hx.cell c0 id
   have hne:(((l.length+1:Nat):Int) == 0)=false:=by simp;omega
   rw[List.length_cons]
   clear hl hl' c0
   unfold wNumbers
   go_enter Tryz.func172,Tryz.ntmps172
   go_wp2_with fail
   refine wp_region_ord [(0,true),(1,true),(2,true),(3,true),(5,true),(6,true),(7,true),(8,true),(9,true),(10,true),(4,false),(11,false),(12,true)] (Fr nob w) rfl (by kernel_rfl) (by kernel_rfl) (by decide) (fun c a d v w h=>by cases d<;>exact h) ((Fr.refl nob w).drew) (fun ops hops hS=>?_)
   obtain ⟨d3,hdw⟩:∃d,d=w.drew:=⟨_,rfl⟩
   rw[←hdw] at hS ⊢
   have G3:Hid (Fr nob w d3):=Lib.hid (by rw[hdw];exact (Fr.refl nob w).drew)
   have E3:=Lib.hid (Ev.of G3.out (nob_lt _))
   clear hdw
   repeat (first | (apply oF hops (by rfl) (by first | exact .plain rfl | exact .y hops rfl rfl rfl rfl);(focus (intro x hx;go_simp;rfl));go_simp) | (apply oS hops (by rfl) (by first | exact .n hops rfl rfl rfl rfl | exact .u hops rfl rfl rfl rfl);go_simp) | (apply oP hops (by rfl) (by first | exact .n hops rfl rfl rfl rfl | exact .u hops rfl rfl rfl rfl) (by assumption);go_simp))
   refine oA hops (by rfl) (by first | exact .plain rfl | exact .y hops rfl rfl rfl rfl) (fun K hK=>?_)
   go_wp2_with fail
   refine (uint_any v h64 d3).mono ?_
   rintro e u4 ⟨a1,c1,rfl,hfr,hv1⟩
   have E4:=Lib.hid (Ev.of hfr E3.out.lt)
   have G4:=Lib.hid hfr
   clear hfr
   refine hK _ _ ⟨_,fun _ h=>h,(G3.out.andN G4.out),?_⟩
   clear hK
   go_simp
   repeat (first | (apply oF hops (by rfl) (by first | exact .plain rfl | exact .y hops rfl rfl rfl rfl);(focus (intro x hx;go_simp;rfl));go_simp) | (apply oS hops (by rfl) (by first | exact .n hops rfl rfl rfl rfl | exact .u hops rfl rfl rfl rfl);go_simp) | (apply oP hops (by rfl) (by first | exact .n hops rfl rfl rfl rfl | exact .u hops rfl rfl rfl rfl) (by assumption);go_simp))
   have HV1:=Lib.hid hv1
   have hborn:Ev w nob u4 (newb d3 u4):=((E3.out.trans E4.out)).born (fun k hk=>⟨Nat.le_trans (E3.out).fr.size hk.1,hk.2⟩)
   have hl7:=HL.out _ _ hborn
   clear hv1
   refine oA hops (by rfl) (by first | exact .plain rfl | exact .y hops rfl rfl rfl rfl) (fun K hK=>?_)
   go_wp2_with fail
   refine (behind_any (newb d3 u4) u4 (fun k hk=>hk.2) a1 c1 (uv v) HV1.out (by have:=uv_len10 h64;omega) v h64 b4 (cb - 1) l hl7 (by omega)).mono ?_
   rintro e w6 ⟨a6,c6,rfl,hf6,hv6⟩
   have hf7:Fr nob w w6:=((E3.out.trans E4.out)).fr.trans hf6 (fun k hk h=>absurd h.1 (by have:=(E3.out).fr.size;omega))
   have HV6:=Lib.hid (hv6.mono (T:=newb w w6) (fun k hk=>by
    have h1:=(E3.out).fr.size
    have h2:=((E3.out.trans E4.out)).fr.size
    rcases hk with hk | hk
    · exact ⟨Nat.le_trans h1 hk.1,Nat.lt_of_lt_of_le hk.2 hf6.size⟩
    · exact ⟨Nat.le_trans h2 hk.1,hk.2⟩))
   clear hv6 hl7 hborn
   refine hK _ _ ⟨_,fun _ h=>h,?_,?_⟩
   · exact hf7
   repeat (first | (apply oF hops (by rfl) (by first | exact .plain rfl | exact .y hops rfl rfl rfl rfl);(focus (intro x hx;go_simp;rfl));go_simp) | (apply oS hops (by rfl) (by first | exact .n hops rfl rfl rfl rfl | exact .u hops rfl rfl rfl rfl);go_simp) | (apply oP hops (by rfl) (by first | exact .n hops rfl rfl rfl rfl | exact .u hops rfl rfl rfl rfl) (by assumption);go_simp))
   apply wpOrd_nil
   go_wp2_with fail
   go_ret
   exact ⟨a6,c6,by rw[List.length_append];rfl,hf7,HV6.out⟩
end Go.Proofs.YtibpkfnfcdbiiaaGreatDoor
