/- The order of rows in plain words: total, and alike only of the same rows. Sets of pairs in plain words: what each row weighs; the set of any pairs. Sets in plain words: what Check comes to. No program in sight. Pairs in memory: read as elements, and back. Pairs in memory: read as elements, and back; a sort of nothing. Contract of zset.Collect. Contract of zset.Same. -/
import Derived.Test.YtibpkfnfcdbiiaaGreatDoorBunG
import Derived.Test.YtibpkfnfcdbiiaaGreatDoorBunD
import Derived.Test.YtibpkfnfcdbiiaaGreatDoorBunE
import Derived.Test.YtibpkfnfcdbiiaaGreatDoorBunC
import Derived.WalkMore
namespace Go.Proofs.YtibpkfnfcdbiiaaGreatDoor
set_option linter.unusedSimpArgs false
open Go.RowKit Go.Lib
set_option linter.unusedVariables false
theorem bytes_anti:∀(a b:List UInt8),compareBytes b a= - compareBytes a b
 | [],[]=>rfl
 | [],_::_=>rfl
 | _::_,[]=>rfl
 | a::ra,b::rb=>by
   simp only[compareBytes]
   by_cases h1:a<b
   · rw[if_neg (UInt8.lt_asymm h1),if_pos h1,if_pos h1];rfl
   · by_cases h2:b<a
     · rw[if_pos h2,if_neg h1,if_pos h2]
     · rw[if_neg h2,if_neg h1,if_neg h1,if_neg h2];exact bytes_anti ra rb
theorem bytes_zero:∀(a b:List UInt8),compareBytes a b=0↔a=b
 | [],[]=>by simp[compareBytes]
 | [],_::_=>by simp[compareBytes]
 | _::_,[]=>by simp[compareBytes]
 | a::ra,b::rb=>by
   simp only[compareBytes]
   by_cases h1:a<b
   · rw[if_pos h1]
     constructor
     · intro h;omega
     · rintro h;cases h;exact absurd h1 (UInt8.lt_irrefl _)
   · by_cases h2:b<a
     · rw[if_neg h1,if_pos h2]
       constructor
       · intro h;omega
       · rintro h;cases h;exact absurd h2 (UInt8.lt_irrefl _)
     · rw[if_neg h1,if_neg h2,bytes_zero ra rb]
       have:a=b:=UInt8.le_antisymm (UInt8.not_lt.1 h2) (UInt8.not_lt.1 h1)
       subst this
       simp
theorem bytes_trans:∀(a b c:List UInt8),compareBytes a b≤0→compareBytes b c≤0→compareBytes a c≤0
 | [],_,[],_,_=>by simp[compareBytes]
 | [],_,_::_,_,_=>by simp[compareBytes]
 | _::_,[],_,h,_=>by simp[compareBytes] at h
 | _::_,_::_,[],_,h=>by simp[compareBytes] at h
 | a::ra,b::rb,c::rc,h1,h2=>by
   simp only[compareBytes] at*
   by_cases e1:a<b
   · by_cases e2:b<c
     · rw[if_pos (UInt8.lt_trans e1 e2)];omega
     · rw[if_neg e2] at h2
       by_cases e3:c<b
       · rw[if_pos e3] at h2;omega
       · have:b=c:=UInt8.le_antisymm (UInt8.not_lt.1 e3) (UInt8.not_lt.1 e2)
         rw[if_pos (this ▸ e1)];omega
   · rw[if_neg e1] at h1
     by_cases e2:b<a
     · rw[if_pos e2] at h1;omega
     · have:a=b:=UInt8.le_antisymm (UInt8.not_lt.1 e2) (UInt8.not_lt.1 e1)
       subst this
       rw[if_neg e2] at h1
       by_cases e3:a<c
       · rw[if_pos e3];omega
       · rw[if_neg e3] at h2 ⊢
         by_cases e4:c<a
         · rw[if_pos e4] at h2;omega
         · rw[if_neg e4] at h2 ⊢
           exact bytes_trans ra rb rc h1 h2
theorem cmpN_anti (x y:Nat):cmpN y x= - cmpN x y:=by unfold cmpN;split<;>split<;>first | omega | (split<;>omega)
theorem cmpN_zero (x y:Nat):cmpN x y=0↔x=y:=by
 unfold cmpN
 split
 · omega
 · split<;>omega
theorem cmpN_trans (x y z:Nat) (h1:cmpN x y≤0) (h2:cmpN y z≤0):cmpN x z≤0:=by
 unfold cmpN at*
 repeat' split at*
 all_goals omega
theorem rankN_inj (k:Int) (x y:Nat) (hx:x<18446744073709551616) (hy:y<18446744073709551616):rankN k x=rankN k y↔x=y:=by
 unfold rankN topTurn
 repeat' split
 all_goals omega
def CelOk (k:Int) (c:Cel):Prop:=cellCheck k c=0∧c.num<18446744073709551616
theorem cellCmp_ok {k:Int} {a b:Cel} (ha:CelOk k a) (hb:CelOk k b):cellCmp k a b=if cmpN (rankN k a.num) (rankN k b.num)=0 then compareBytes a.text b.text else cmpN (rankN k a.num) (rankN k b.num):=by
 unfold cellCmp
 rw[if_neg (by rintro (h | h);exact h ha.1;exact h hb.1)]
theorem cellCmp_anti {k:Int} {a b:Cel} (ha:CelOk k a) (hb:CelOk k b):cellCmp k b a= - cellCmp k a b:=by
 rw[cellCmp_ok ha hb,cellCmp_ok hb ha,cmpN_anti (rankN k a.num)]
 by_cases h:cmpN (rankN k a.num) (rankN k b.num)=0
 · rw[if_pos (by omega),if_pos h];exact bytes_anti _ _
 · rw[if_neg (by omega),if_neg h]
theorem cellCmp_zero {k:Int} {a b:Cel} (ha:CelOk k a) (hb:CelOk k b):cellCmp k a b=0↔a=b:=by
 rw[cellCmp_ok ha hb]
 obtain ⟨an,at'⟩:=a
 obtain ⟨bn,bt⟩:=b
 simp only[Cel.mk.injEq]
 by_cases h:cmpN (rankN k an) (rankN k bn)=0
 · rw[if_pos h,bytes_zero]
   rw[cmpN_zero,rankN_inj k _ _ ha.2 hb.2] at h
   simp only at h
   simp[h]
 · rw[if_neg h]
   rw[cmpN_zero,rankN_inj k _ _ ha.2 hb.2] at h
   constructor
   · intro h'
     rw[cmpN_zero,rankN_inj k _ _ ha.2 hb.2] at h'
     exact absurd h' h
   · rintro ⟨h',_⟩;exact absurd h' h
theorem cellCmp_trans {k:Int} {a b c:Cel} (ha:CelOk k a) (hb:CelOk k b) (hc:CelOk k c) (h1:cellCmp k a b≤0) (h2:cellCmp k b c≤0):cellCmp k a c≤0:=by
 rw[cellCmp_ok ha hb] at h1
 rw[cellCmp_ok hb hc] at h2
 rw[cellCmp_ok ha hc]
 have t:=cmpN_trans (rankN k a.num) (rankN k b.num) (rankN k c.num)
 by_cases e1:cmpN (rankN k a.num) (rankN k b.num)=0
 · rw[if_pos e1] at h1
   rw[cmpN_zero] at e1
   rw[e1]
   by_cases e2:cmpN (rankN k b.num) (rankN k c.num)=0
   · rw[if_pos e2] at h2 ⊢;exact bytes_trans _ _ _ h1 h2
   · rw[if_neg e2] at h2 ⊢;exact h2
 · rw[if_neg e1] at h1
   by_cases e2:cmpN (rankN k b.num) (rankN k c.num)=0
   · rw[cmpN_zero] at e2
     rw[←e2,if_neg e1];exact h1
   · rw[if_neg e2] at h2
     have h:=t h1 h2
     split
     · rename_i e3
       rw[cmpN_zero] at e3
       exfalso
       rw[←e3,cmpN_anti] at h2
       omega
     · exact h
def RowOk:List Col→List Cel→Prop
 | [],[]=>True
 | c::s,x::r=>CelOk c.kind x∧RowOk s r
 | _,_=>False
theorem rowOk_of:∀(s:List Col) (r:List Cel),r.length=s.length→rowGo s r=0→(∀c∈r,c.num<18446744073709551616)→RowOk s r
 | [],[],_,_,_=>trivial
 | [],_::_,h,_,_=>by simp at h
 | _::_,[],h,_,_=>by simp at h
 | c::s,x::r,h,hg,hn=>by
   simp only[rowGo] at hg
   by_cases h0:cellCheck c.kind x=0
   · rw[if_pos h0] at hg
     exact ⟨⟨h0,hn x (by simp)⟩,rowOk_of s r (by simpa using h) hg (fun y hy=>hn y (List.mem_cons_of_mem _ hy))⟩
   · rw[if_neg h0] at hg;exact absurd hg h0
theorem cmps_anti:∀(s:List Col) (a b:List Cel),RowOk s a→RowOk s b→firstNZ (cmps s b a)= - firstNZ (cmps s a b)
 | [],[],[],_,_=>rfl
 | c::s,x::a,y::b,⟨hx,ha⟩,⟨hy,hb⟩=>by
   simp only[cmps,firstNZ]
   rw[cellCmp_anti hx hy,cmps_anti s a b ha hb]
   by_cases h:cellCmp c.kind x y=0
   · rw[if_pos (by omega),if_pos h]
   · rw[if_neg (by omega),if_neg h]
theorem cmps_zero:∀(s:List Col) (a b:List Cel),RowOk s a→RowOk s b→(firstNZ (cmps s a b)=0↔a=b)
 | [],[],[],_,_=>by simp[cmps,firstNZ]
 | c::s,x::a,y::b,⟨hx,ha⟩,⟨hy,hb⟩=>by
   simp only[cmps,firstNZ,List.cons.injEq]
   by_cases h:cellCmp c.kind x y=0
   · rw[if_pos h,cmps_zero s a b ha hb]
     rw[cellCmp_zero hx hy] at h
     simp[h]
   · rw[if_neg h]
     constructor
     · intro h';exact absurd h' h
     · rintro ⟨h',_⟩;exact absurd ((cellCmp_zero hx hy).2 h') h
theorem cmps_trans:∀(s:List Col) (a b d:List Cel),RowOk s a→RowOk s b→RowOk s d→firstNZ (cmps s a b)≤0→firstNZ (cmps s b d)≤0→firstNZ (cmps s a d)≤0
 | [],[],[],[],_,_,_,_,_=>by simp[cmps,firstNZ]
 | c::s,x::a,y::b,z::d,⟨hx,ha⟩,⟨hy,hb⟩,⟨hz,hd⟩,h1,h2=>by
   simp only[cmps,firstNZ] at*
   have t:=cellCmp_trans hx hy hz
   by_cases e1:cellCmp c.kind x y=0
   · rw[if_pos e1] at h1
     rw[cellCmp_zero hx hy] at e1
     subst e1
     by_cases e2:cellCmp c.kind x z=0
     · rw[if_pos e2] at h2 ⊢;exact cmps_trans s a b d ha hb hd h1 h2
     · rw[if_neg e2] at h2 ⊢;exact h2
   · rw[if_neg e1] at h1
     by_cases e2:cellCmp c.kind y z=0
     · rw[cellCmp_zero hy hz] at e2
       subst e2
       rw[if_neg e1];exact h1
     · rw[if_neg e2] at h2
       have h:=t h1 h2
       split
       · rename_i e3
         rw[cellCmp_zero hx hz] at e3
         subst e3
         rw[cellCmp_anti hx hy] at h2
         omega
       · exact h
def RowIs (s:List Col) (r:List Cel):Prop:=rowCheck s r=0∧∀c∈r,c.num<18446744073709551616
theorem RowIs.ok {s:List Col} {r:List Cel} (h:RowIs s r):RowOk s r:=rowOk_of s r (rowCheck_zero h.1).2.1 (rowCheck_zero h.1).2.2 h.2
theorem rowCmp_is {s:List Col} {a b:List Cel} (ha:RowIs s a) (hb:RowIs s b):rowCmp s a b=firstNZ (cmps s a b):=by unfold rowCmp;rw[if_pos ⟨ha.1,hb.1⟩]
theorem rowCmp_anti {s:List Col} {a b:List Cel} (ha:RowIs s a) (hb:RowIs s b):rowCmp s b a= - rowCmp s a b:=by rw[rowCmp_is ha hb,rowCmp_is hb ha];exact cmps_anti s a b ha.ok hb.ok
theorem rowCmp_zero {s:List Col} {a b:List Cel} (ha:RowIs s a) (hb:RowIs s b):rowCmp s a b=0↔a=b:=by rw[rowCmp_is ha hb];exact cmps_zero s a b ha.ok hb.ok
theorem rowCmp_trans {s:List Col} {a b c:List Cel} (ha:RowIs s a) (hb:RowIs s b) (hc:RowIs s c) (h1:rowCmp s a b≤0) (h2:rowCmp s b c≤0):rowCmp s a c≤0:=by
 rw[rowCmp_is ha hb] at h1
 rw[rowCmp_is hb hc] at h2
 rw[rowCmp_is ha hc]
 exact cmps_trans s a b c ha.ok hb.ok hc.ok h1 h2
theorem rowCmp_lt_trans {s:List Col} {a b c:List Cel} (ha:RowIs s a) (hb:RowIs s b) (hc:RowIs s c) (h1:rowCmp s a b<0) (h2:rowCmp s b c≤0):rowCmp s a c<0:=by
 have h:=rowCmp_trans ha hb hc (by omega) h2
 rcases Int.lt_or_eq_of_le h with h | h
 · exact h
 · rw[rowCmp_zero ha hc] at h
   subst h
   rw[rowCmp_anti ha hb] at h2
   omega
theorem rowCmp_le_lt {s:List Col} {a b c:List Cel} (ha:RowIs s a) (hb:RowIs s b) (hc:RowIs s c) (h1:rowCmp s a b≤0) (h2:rowCmp s b c<0):rowCmp s a c<0:=by
 have h:=rowCmp_trans ha hb hc h1 (by omega)
 rcases Int.lt_or_eq_of_le h with h | h
 · exact h
 · rw[rowCmp_zero ha hc] at h
   subst h
   rw[rowCmp_anti ha hb] at h2
   omega
end Go.Proofs.YtibpkfnfcdbiiaaGreatDoor
namespace Go.Proofs.YtibpkfnfcdbiiaaGreatDoor
set_option linter.unusedSimpArgs false
open Go.RowKit
set_option linter.unusedVariables false
def wt:List Pr→List Cel→Int
 | [],_=>0
 | p::l,r=>(if p.row=r then p.weight else 0)+wt l r
theorem wt_append (a b:List Pr) (r:List Cel):wt (a++b) r=wt a r+wt b r:=by
 induction a with
 | nil=>simp[wt]
 | cons p a ih=>simp only[List.cons_append,wt,ih];omega
theorem wt_perm {a b:List Pr} (h:a.Perm b) (r:List Cel):wt a r=wt b r:=by
 induction h with
 | nil=>rfl
 | cons p _ ih=>simp only[wt,ih]
 | swap p q l=>simp only[wt];omega
 | trans _ _ h1 h2=>exact h1.trans h2
theorem wt_none {l:List Pr} {r:List Cel} (h:∀p∈l,p.row≠r):wt l r=0:=by
 induction l with
 | nil=>rfl
 | cons p l ih=>simp only[wt];rw[if_neg (h p (by simp)),ih (fun q hq=>h q (List.mem_cons_of_mem _ hq))];rfl
theorem wt_bound {l:List Pr} (h:∀p∈l,I64 p.weight) (r:List Cel): -9223372036854775808*(l.length:Int)≤wt l r∧wt l r≤9223372036854775807*(l.length:Int):=by
 induction l with
 | nil=>simp[wt]
 | cons p l ih=>
   have h1:=h p (by simp)
   have h2:=ih (fun q hq=>h q (List.mem_cons_of_mem _ hq))
   unfold I64 at h1
   simp only[wt,List.length_cons]
   split<;>omega
structure Canon (s:List Col) (l:List Pr):Prop where
 rows:∀p∈l,RowIs s p.row
 nz:∀p∈l,p.weight≠0
 i64:∀p∈l,I64 p.weight
 lt:l.Pairwise (fun p q=>rowCmp s p.row q.row<0)
theorem Canon.tail {s:List Col} {p:Pr} {l:List Pr} (h:Canon s (p::l)):Canon s l:=
 ⟨fun q hq=>h.rows q (List.mem_cons_of_mem _ hq),fun q hq=>h.nz q (List.mem_cons_of_mem _ hq),fun q hq=>h.i64 q (List.mem_cons_of_mem _ hq),(List.pairwise_cons.1 h.lt).2⟩
theorem rowCmp_self {s:List Col} {a:List Cel} (ha:RowIs s a):rowCmp s a a=0:=(rowCmp_zero ha ha).2 rfl
theorem rowCmp_ne {s:List Col} {a b:List Cel} (ha:RowIs s a) (h:rowCmp s a b<0):b≠a:=by
 rintro rfl
 rw[rowCmp_self ha] at h;omega
theorem Canon.head_none {s:List Col} {p:Pr} {l:List Pr} (h:Canon s (p::l)):wt l p.row=0:=
 wt_none (fun q hq=>rowCmp_ne (h.rows p (by simp)) ((List.pairwise_cons.1 h.lt).1 q hq))
theorem canon_ext {s:List Col}:∀{a b:List Pr},Canon s a→Canon s b→(∀r,wt a r=wt b r)→a=b
 | [],[],_,_,_=>rfl
 | [],q::b,_,hb,h=>by
   have:=h q.row
   simp only[wt] at this
   rw[if_pos True.intro,hb.head_none] at this
   exact absurd (by omega) (hb.nz q (by simp))
 | p::a,[],ha,_,h=>by
   have:=h p.row
   simp only[wt] at this
   rw[if_pos True.intro,ha.head_none] at this
   exact absurd (by omega) (ha.nz p (by simp))
 | p::a,q::b,ha,hb,h=>by
   have rp:=ha.rows p (by simp)
   have rq:=hb.rows q (by simp)
   have np:=ha.nz p (by simp)
   have nq:=hb.nz q (by simp)
   have e:p.row=q.row:=by
    rcases Int.lt_trichotomy (rowCmp s p.row q.row) 0 with hlt | h0 | hgt
    · have:=h p.row
      have hz:wt (q::b) p.row=0:=wt_none (fun x hx=>by
       rcases List.mem_cons.1 hx with rfl | hx
       · exact rowCmp_ne rp hlt
       · exact rowCmp_ne rp (rowCmp_lt_trans rp rq (hb.rows x (List.mem_cons_of_mem _ hx)) hlt (by have:=(List.pairwise_cons.1 hb.lt).1 x hx;omega)))
      rw[hz] at this
      simp only[wt] at this
      rw[if_pos True.intro,ha.head_none] at this
      exact absurd (by omega) np
    · exact (rowCmp_zero rp rq).1 h0
    · have hlt:rowCmp s q.row p.row<0:=by rw[rowCmp_anti rp rq];omega
      have:=h q.row
      have hz:wt (p::a) q.row=0:=wt_none (fun x hx=>by
       rcases List.mem_cons.1 hx with rfl | hx
       · exact rowCmp_ne rq hlt
       · exact rowCmp_ne rq (rowCmp_lt_trans rq rp (ha.rows x (List.mem_cons_of_mem _ hx)) hlt (by have:=(List.pairwise_cons.1 ha.lt).1 x hx;omega)))
      rw[hz] at this
      simp only[wt] at this
      rw[if_pos True.intro,hb.head_none] at this
      exact absurd (by omega) nq
   have ew:p.weight=q.weight:=by
    have:=h p.row
    simp only[wt] at this
    rw[if_pos True.intro,if_pos e.symm,ha.head_none,e,hb.head_none] at this
    omega
   have epq:p=q:=by
    obtain ⟨pr,pw⟩:=p
    obtain ⟨qr,qw⟩:=q
    simp only at e ew
    rw[e,ew]
   subst epq
   rw[canon_ext ha.tail hb.tail (fun r=>by have:=h r;simp only[wt] at this;omega)]
structure Acc (s:List Col) (D out:List Pr):Prop where
 canon:Canon s out
 wts:∀r,wt out r=wt D r
 of:∀p∈out,∃x∈D,x.row=p.row
 fit:∀r,I64 (wt D r)
theorem Acc.start (s:List Col):Acc s [] []:=⟨⟨by simp,by simp,by simp,List.Pairwise.nil⟩,fun r=>rfl,by simp,fun r=>by unfold wt I64;omega⟩
def Sep (s:List Col) (D R:List Pr):Prop:=∀x∈D,∀y∈R,rowCmp s x.row y.row<0
section
variable {s:List Col} {D G R out:List Pr} {f:List Cel}
theorem wt_other (hG:∀x∈G,x.row=f) {r:List Cel} (h:r≠f):wt G r=0:=wt_none (fun x hx=>by rw[hG x hx];exact fun e=>h e.symm)
theorem sep_none (hD:∀x∈D,RowIs s x.row) (h:∀x∈D,rowCmp s x.row f<0):wt D f=0:=wt_none (fun x hx e=>by
 have:=h x hx
 rw[←e,rowCmp_self (hD x hx)] at this;omega)
theorem Acc.zero (h:Acc s D out) (hG:∀x∈G,x.row=f) (hz:wt G f=0):Acc s (D++G) out:=by
 have e:∀r,wt G r=0:=fun r=>by
  by_cases h:r=f
  · rw[h,hz]
  · exact wt_other hG h
 refine ⟨h.canon,fun r=>by rw[wt_append,e,h.wts];omega,fun p hp=>?_,fun r=>by rw[wt_append,e,Int.add_zero];exact h.fit r⟩
 obtain ⟨x,hx,hr⟩:=h.of p hp
 exact ⟨x,List.mem_append.2 (Or.inl hx),hr⟩
theorem Acc.more (h:Acc s D out) (hD:∀x∈D,RowIs s x.row) (hf:RowIs s f) (hG:∀x∈G,x.row=f) (hne:G≠[]) (hsep:∀x∈D,rowCmp s x.row f<0) (hw:I64 (wt G f)) (hz:wt G f≠0):Acc s (D++G) (out++[⟨f,wt G f⟩]):=by
 have e0:wt D f=0:=sep_none hD hsep
 refine ⟨⟨fun p hp=>?_,fun p hp=>?_,fun p hp=>?_,?_⟩,fun r=>?_,fun p hp=>?_,fun r=>?_⟩
 · rcases List.mem_append.1 hp with hp | hp
   · exact h.canon.rows p hp
   · obtain rfl:p=⟨f,wt G f⟩:=by simpa using hp
     exact hf
 · rcases List.mem_append.1 hp with hp | hp
   · exact h.canon.nz p hp
   · obtain rfl:p=⟨f,wt G f⟩:=by simpa using hp
     exact hz
 · rcases List.mem_append.1 hp with hp | hp
   · exact h.canon.i64 p hp
   · obtain rfl:p=⟨f,wt G f⟩:=by simpa using hp
     exact hw
 · refine List.pairwise_append.2 ⟨h.canon.lt,by simp,fun a ha b hb=>?_⟩
   obtain rfl:b=⟨f,wt G f⟩:=by simpa using hb
   obtain ⟨x,hx,hr⟩:=h.of a ha
   rw[←hr]
   exact hsep x hx
 · rw[wt_append,wt_append,h.wts]
   simp only[wt]
   by_cases hr:f=r
   · rw[if_pos hr,hr];omega
   · rw[if_neg hr,wt_other hG (fun e=>hr e.symm)];omega
 · rcases List.mem_append.1 hp with hp | hp
   · obtain ⟨x,hx,hr⟩:=h.of p hp
     exact ⟨x,List.mem_append.2 (Or.inl hx),hr⟩
   · obtain rfl:p=⟨f,wt G f⟩:=by simpa using hp
     obtain ⟨g,hg⟩:=List.exists_mem_of_ne_nil G hne
     exact ⟨g,List.mem_append.2 (Or.inr hg),hG g hg⟩
 · rw[wt_append]
   by_cases hr:r=f
   · rw[hr,e0,Int.zero_add];exact hw
   · rw[wt_other hG hr,Int.add_zero];exact h.fit r
theorem sep_next (hs:(D++(G++R)).Pairwise (fun a b=>rowCmp s a.row b.row≤0)) (hrows:∀x∈D++(G++R),RowIs s x.row) (hsep:Sep s D (G++R)) (hG:∀x∈G,x.row=f) (hf:RowIs s f) (hne:G≠[]) (hR:R=[]∨∃y R',R=y::R' ∧y.row≠f):Sep s (D++G) R:=by
 intro x hx y hy
 rcases List.mem_append.1 hx with hx | hx
 · exact hsep x hx y (List.mem_append.2 (Or.inr hy))
 rcases hR with rfl | ⟨z,R',rfl,hz⟩
 · simp at hy
 have h2:=(List.pairwise_append.1 hs).2.1
 have h3:=(List.pairwise_append.1 h2).2.2 x hx z (by simp)
 have h4:=(List.pairwise_append.1 h2).2.1
 have rz:=hrows z (by simp)
 have ry:=hrows y (List.mem_append.2 (Or.inr (List.mem_append.2 (Or.inr hy))))
 rw[hG x hx] at h3 ⊢
 have h5:rowCmp s f z.row<0:=by
  rcases Int.lt_or_eq_of_le h3 with h | h
  · exact h
  · rw[rowCmp_zero hf rz] at h;exact absurd h.symm hz
 rcases List.mem_cons.1 hy with rfl | hy
 · exact h5
 · exact rowCmp_lt_trans hf rz ry h5 ((List.pairwise_cons.1 h4).1 y hy)
theorem over_any (hD:∀x∈D,RowIs s x.row) (hf:RowIs s f) (hsep:∀x∈D,rowCmp s x.row f<0) (hR:∀y∈R,rowCmp s f y.row<0) (hw:¬I64 (wt G f)):¬I64 (wt (D++(G++R)) f):=by
 rw[wt_append,wt_append,sep_none hD hsep,wt_none (l:=R) (fun y hy=>rowCmp_ne hf (hR y hy))]
 simpa using hw
end
def rowsCheck (s:List Col):List Pr→Nat
 | []=>0
 | p::l=>if rowCheck s p.row=0 then rowsCheck s l else rowCheck s p.row
def Collected (s:List Col) (l:List Pr) (e:Nat) (out:List Pr):Prop:=
 if schemaCheck s≠0 then e=schemaCheck s∧out=[]
 else if rowsCheck s l≠0 then e=rowsCheck s l∧out=[]
 else (∃r,¬I64 (wt l r))∧e=12∧out=[]∨(∀r,I64 (wt l r))∧∃c,Canon s c∧(∀r,wt c r=wt l r)∧(1024<c.length∧e=13∧out=[]∨c.length≤1024∧e=0∧out=c)
theorem zCheck_len {s:List Col} {l:List Pr} (h:zCheck s l=0):schemaCheck s=0∧l.length≤1024∧zGo s none l=0:=by
 unfold zCheck at h
 by_cases h1:schemaCheck s=0
 · rw[if_pos h1] at h
   by_cases h2:1024<l.length
   · rw[if_pos h2] at h;omega
   · rw[if_neg h2] at h;exact ⟨h1,by omega,h⟩
 · rw[if_neg h1] at h;exact absurd h h1
theorem zGo_rows {s:List Col}:∀{l:List Pr} {q:Option (List Cel)},zGo s q l=0→∀p∈l,rowCheck s p.row=0∧p.weight≠0
 | [],_,_=>by simp
 | p::l,q,h=>by
   simp only[zGo] at h
   by_cases h1:rowCheck s p.row=0
   · rw[if_pos h1] at h
     by_cases h2:p.weight=0
     · rw[if_pos h2] at h;omega
     · rw[if_neg h2] at h
       have h' :zGo s (some p.row) l=0:=by
        cases q with
        | none=>simpa using h
        | some q=>
          simp only[decide_eq_true_eq] at h
          by_cases h3:0≤rowCmp s q p.row
          · rw[if_pos h3] at h;omega
          · rw[if_neg h3] at h;exact h
       · intro x hx
         rcases List.mem_cons.1 hx with rfl | hx
         · exact ⟨h1,h2⟩
         · exact zGo_rows h' x hx
   · rw[if_neg h1] at h;exact absurd h h1
def PrOk (l:List Pr):Prop:=∀p∈l,I64 p.weight∧∀c∈p.row,c.num<18446744073709551616
section
variable {s:List Col} {l r out c:List Pr} {e:Nat}
theorem zGo_canon:∀{l:List Pr} {q:Option (List Cel)},PrOk l→zGo s q l=0→(∀r,q=some r→RowIs s r)→Canon s l∧∀r,q=some r→∀p∈l,rowCmp s r p.row<0
 | [],q,_,_,_=>⟨⟨by simp,by simp,by simp,List.Pairwise.nil⟩,by simp⟩
 | p::l,q,hok,h,hq=>by
   have hr:=zGo_rows h p (by simp)
   have rp:RowIs s p.row:=⟨hr.1,(hok p (by simp)).2⟩
   simp only[zGo] at h
   rw[if_pos hr.1,if_neg hr.2] at h
   have h' :zGo s (some p.row) l=0∧∀r,q=some r→rowCmp s r p.row<0:=by
    cases q with
    | none=>exact ⟨by simpa using h,by simp⟩
    | some q=>
      simp only[decide_eq_true_eq] at h
      by_cases h3:0≤rowCmp s q p.row
      · rw[if_pos h3] at h;omega
      · rw[if_neg h3] at h;exact ⟨h,fun r hr=>by cases hr;omega⟩
   obtain ⟨hc,hlt⟩:=zGo_canon (fun x hx=>hok x (List.mem_cons_of_mem _ hx)) h'.1 (fun r hr=>by cases hr;exact rp)
   have hlt:=hlt p.row rfl
   refine ⟨⟨?_,?_,?_,List.pairwise_cons.2 ⟨hlt,hc.lt⟩⟩,fun r hqr x hx=>?_⟩
   · intro x hx
     rcases List.mem_cons.1 hx with rfl | hx
     · exact rp
     · exact hc.rows x hx
   · intro x hx
     rcases List.mem_cons.1 hx with rfl | hx
     · exact hr.2
     · exact hc.nz x hx
   · intro x hx
     exact (hok x hx).1
   · rcases List.mem_cons.1 hx with rfl | hx
     · exact h'.2 r hqr
     · exact rowCmp_lt_trans (hq r hqr) rp (hc.rows x hx) (h'.2 r hqr) (by have:=hlt x hx;omega)
theorem canon_of (hok:PrOk l) (h:zCheck s l=0):Canon s l:=(zGo_canon hok (zCheck_len h).2.2 (fun r hr=>by cases hr)).1
theorem zGo_of_canon:∀{l:List Pr} {q:Option (List Cel)},Canon s l→(∀r,q=some r→∀p∈l,rowCmp s r p.row<0)→zGo s q l=0
 | [],_,_,_=>rfl
 | p::l,q,h,hq=>by
   have hp:=(h.rows p (by simp)).1
   have ih:=zGo_of_canon (q:=some p.row) h.tail (fun r hr=>by cases hr;exact (List.pairwise_cons.1 h.lt).1)
   simp only[zGo]
   rw[if_pos hp,if_neg (h.nz p (by simp))]
   cases q with
   | none=>simpa using ih
   | some q=>
     have:=hq q rfl p (by simp)
     simp only[decide_eq_true_eq]
     rw[if_neg (by omega)]
     exact ih
theorem of_canon (h0:schemaCheck s=0) (h:Canon s l) (hl:l.length≤1024):zCheck s l=0:=by
 unfold zCheck
 rw[if_pos h0,if_neg (by omega)]
 exact zGo_of_canon h (fun r hr=>by cases hr)
theorem canon_ok (h:Canon s l):PrOk l:=fun p hp=>⟨h.i64 p hp,(h.rows p hp).2⟩
end
theorem schemaGo_col {s:List Col}:∀{xs:List (List UInt8)},schemaGo xs s=0→∀c∈s,c.name.length≤32∧0≤c.kind∧c.kind<6:=by
 induction s with
 | nil=>simp
 | cons d s ih=>
   intro xs h c hc
   simp only[schemaGo] at h
   split at h
   · cases h
   · split at h
     · cases h
     · split at h
       · cases h
       · rename_i h1 h2 h3
         rcases List.mem_cons.1 hc with rfl | hc
         · refine ⟨by omega,?_⟩
           unfold kindOk at h3
           simp at h3
           omega
         · exact ih h c hc
theorem schemaCheck_col {s:List Col} (h:schemaCheck s=0):∀c∈s,c.name.length≤32∧0≤c.kind∧c.kind<6:=by
 unfold schemaCheck at h
 split at h
 · cases h
 · split at h
   · cases h
   · exact schemaGo_col h
def RowAt (S:Nat→Prop) (w:World) (x:Elt):Prop:=I64 x.p.weight∧x.p.row.length≤lim∧SV rCel 2 S w x.a x.c x.p.row
section
variable {S T:Nat→Prop} {w w' :World} {x:Elt} {d:List Elt} {l:List Pr} {a:Option Addr} {cap:Nat}
theorem RowAt.fr (h:RowAt S w x) (hf:Fr T w w') (hT:∀k,S k→¬T k):RowAt S w' x:=⟨h.1,h.2.1,h.2.2.fr rCel_ok hf hT⟩
theorem RowAt.frN (h:RowAt S w x) (hf:Fr nob w w'):RowAt S w' x:=h.fr hf (fun _ _=>id)
theorem RowAt.mono (h:RowAt S w x) (hS:∀k,S k→T k):RowAt T w x:=⟨h.1,h.2.1,h.2.2.mono rCel_ok hS⟩
theorem elts_list:∀(css:List (List Value)) (l:List Pr),css.length=l.length→(∀(i:Nat) (c:List Value) (x:Pr),css[i]? =some c→l[i]? =some x→rPr S w c x)→∃d:List Elt,d.map (·.p)=l∧css.flatten=d.flatMap eltCells∧∀x∈d,RowAt S w x
 | [],[],_,_=>⟨[],rfl,rfl,by simp⟩
 | [],_::_,h,_=>by simp at h
 | _::_,[],h,_=>by simp at h
 | c::css,p::l,h,hr=>by
   obtain ⟨d,h1,h2,h3⟩:=elts_list css l (by simpa using h) (fun i c x hc hx=>hr (i+1) c x (by simpa using hc) (by simpa using hx))
   obtain ⟨g1,g2,ra,rc,rfl,g3⟩:=hr 0 c p (by simp) (by simp)
   refine ⟨⟨p,ra,rc⟩::d,by simp[h1],by simp[h2,eltCells],fun x hx=>?_⟩
   rcases List.mem_cons.1 hx with rfl | hx
   · exact ⟨g1,g2,g3⟩
   · exact h3 x hx
theorem elts_of (h:SV rPr 2 S w a cap l):∃d:List Elt,d.map (·.p)=l∧Vec S w 2 a d.length cap (d.flatMap eltCells)∧∀x∈d,RowAt S w x:=by
 obtain ⟨css,hl,hv,hr⟩:=h
 obtain ⟨d,h1,h2,h3⟩:=elts_list css l hl hr
 have hlen:d.length=l.length:=by rw[←h1];simp
 exact ⟨d,h1,by rw[hlen,←h2];exact hv,h3⟩
theorem elts_back (hv:Vec S w 2 a d.length cap (d.flatMap eltCells)) (hr:∀x∈d,RowAt T w x) (U:Nat→Prop) (hS:∀k,S k→U k) (hT:∀k,T k→U k):SV rPr 2 U w a cap (d.map (·.p)):=by
 refine ⟨d.map eltCells,by simp,by rw[List.length_map,←List.flatMap_def];exact hv.mono hS,fun i c x hc hx=>?_⟩
 rw[List.getElem?_map] at hc hx
 cases hd:d[i]? with
 | none=>rw[hd] at hc;simp at hc
 | some e=>
   rw[hd] at hc hx
   simp only[Option.map_some,Option.some.injEq] at hc hx
   subst hc;subst hx
   obtain ⟨g1,g2,g3⟩:=hr e (List.mem_of_getElem? hd)
   exact ⟨g1,g2,e.a,e.c,rfl,g3.mono rCel_ok hT⟩
theorem cels_num {r:List Cel} (h:SV rCel 2 S w a cap r):∀c∈r,c.num<18446744073709551616:=fun c hc=>by
 obtain ⟨i,hi,rfl⟩:=List.mem_iff_getElem.1 hc
 obtain ⟨_,_,_,_,h1,_⟩:=cel_at h hi
 exact h1
def RowVal (s:List Col) (S:Nat→Prop) (w:World) (x:Elt):Prop:=RowAt S w x∧rowCheck s x.p.row=0
theorem RowVal.is {s:List Col} (h:RowVal s S w x):RowIs s x.p.row:=⟨h.2,cels_num h.1.2.2⟩
end
def eltCmp (s:List Col) (x y:Elt):Int:=rowCmp s x.p.row y.p.row
theorem elt_ordr (s:List Col) (S:Nat→Prop) (w:World):Ordr (RowVal s S w) (eltCmp s):=
 ⟨fun x y hx hy=>by unfold eltCmp;have:=rowCmp_anti hx.is hy.is;omega,fun x y z hx hy hz h1 h2=>rowCmp_trans hx.is hy.is hz.is h1 h2⟩
theorem elt_cmp (S R:Nat→Prop) (w:World) (b bx:Nat) (a:Option Addr) (ca:Nat) (s:List Col) (hs:SV rCol 2 S w a ca s) (hb:w.cell? ⟨bx,0,none⟩=some (.slice a s.length ca)) (hL:Laid w) (hl:s.length≤lim)
 (hbS:¬S b) (hbR:¬R b) (hbx:bx≠b) (h1:b≠2) (h2:b≠3) (h3:b≠1):CmpC bx (RowVal s R w) (eltCmp s) b w:=fun x y hx hy v hv=>
 pairCmp_any S R v bx a ca s x y (hs.fr rCol_ok hv (fun k hk e=>hbS (e ▸ hk))) (hv.cell hb hbx) (hx.1.2.2.fr rCel_ok hv (fun k hk e=>hbR (e ▸ hk))) (hy.1.2.2.fr rCel_ok hv (fun k hk e=>hbR (e ▸ hk))) (hL.fr hv (fun e=>h1 e.symm) (fun e=>h2 e.symm) (fun e=>h3 e.symm)) hl hx.1.2.1 hy.1.2.1
set_option maxRecDepth 100000 in
set_option maxHeartbeats 2000000 in
theorem insSort_nil (v c:Value) (w:World):Calls Tryz.prog 130 #[v, .int .i64 0, .int .i64 0,c] w fun r w' =>r= .returned (.tuple #[])∧w' =w:=by
 go_enter Tryz.func130,Tryz.ntmps130
 go_wp2_with fail
 go_loop [8] (fun v8=>v8= .int .i64 1) (fun _=>0)
 case atStart=>rfl
 case round=>
  subst hrel
  go_wp2_with fail
  go_end0
  exact ⟨rfl,rfl⟩
set_option maxRecDepth 100000 in
set_option maxHeartbeats 2000000 in
theorem stable_nil (v c:Value) (w:World):Calls Tryz.prog 98 #[v, .int .i64 0,c] w fun r w' =>r= .returned (.tuple #[])∧w' =w:=by
 go_enter Tryz.func98,Tryz.ntmps98
 go_wp2_with fail
 go_loop [7,8] (fun v7 v8=>v7= .int .i64 0∧v8= .int .i64 20) (fun _ _=>0)
 case atStart=>exact ⟨rfl,rfl⟩
 case round=>
  obtain ⟨rfl,rfl⟩:=hrel
  go_wp2_with fail
  refine (insSort_nil _ _ _).mono ?_
  rintro r w1 ⟨rfl,rfl⟩
  go_wp2_with fail
  go_loop [6,7,8,9] (fun v6 v7 v8 v9=>v6= .int .i64 20) (fun _ _ _ _=>0)
  case atStart=>rfl
  case round=>
   subst hrel
   go_wp2_with fail
   go_end0
   exact ⟨rfl,rfl⟩
set_option maxRecDepth 100000 in
theorem sortStable_nil (a:Option Addr) (cap:Nat) (c:Value) (w:World):Calls Tryz.prog 56 #[.slice a 0 cap,c] w fun r w' =>r= .returned (.tuple #[])∧w' =w:=by
 go_enter Tryz.func56,Tryz.ntmps56
 go_wp2_with fail
 refine (stable_nil _ _ _).mono ?_
 rintro r w1 ⟨rfl,rfl⟩
 go_wp2_with fail
 go_end0
 exact ⟨rfl,rfl⟩
theorem sort_vec (S T:Nat→Prop) (w:World) (a:Option Addr) (cap bx:Nat) (V:Elt→Prop) (cf:Elt→Elt→Int) (O:Ordr V cf) (d:List Elt) (hd:Vec S w 2 a d.length cap (d.flatMap eltCells)) (hV:∀x∈d,V x) (hlen:d.length≤1099511627776)
 (hc:∀b,S b→CmpC bx V cf b w):
 Calls Tryz.prog 56 #[.slice a d.length cap,cmpV bx] w fun r w' =>r= .returned (.tuple #[])∧Fr S w w' ∧∃X:List Elt,X.Perm d∧Srt cf X∧Vec S w' 2 a X.length cap (X.flatMap eltCells):=by
 by_cases h0:d.length=0
 · obtain rfl:d=[]:=List.eq_nil_of_length_eq_zero h0
   refine (sortStable_nil a cap (cmpV bx) w).mono ?_
   rintro r w' ⟨rfl,rfl⟩
   exact ⟨rfl,Fr.refl _ _,[],List.Perm.refl _,List.Pairwise.nil,hd⟩
 · have hle:=hd.le
   obtain ⟨b,off,rfl,hSb,r⟩:=hd.addr (by omega)
   have hE:EV w b off cap d:=⟨hd.le,hd.max,hd.len,hd.nil0,hd.one,fun _=>⟨b,off,rfl,rfl,r⟩⟩
   refine (sortStable_any w b off cap bx V cf O d d.length hE rfl hV hlen (hc b hSb)).mono ?_
   rintro r w' ⟨rfl,⟨X,hX,sX,hE'⟩,hf⟩
   exact ⟨rfl,hf.mono (fun k _ e=>e ▸ hSb),X,hX,sX,Vec.mono hE' (fun k e=>e ▸ hSb)⟩
structure ColSt (s:List Col) (w0 wr:World) (X D Q o:List Elt) (ao:Option Addr) (co:Nat):Prop where
 cut:X=D++Q
 sep:Sep s (D.map (·.p)) (Q.map (·.p))
 acc:Acc s (D.map (·.p)) (o.map (·.p))
 len:o.length≤D.length
 out:∃SA SR,Apart SA SR∧(∀k,SA k→w0.heap.size≤k∧k<wr.heap.size)∧(∀k,SR k→w0.heap.size≤k∧k<wr.heap.size)∧Vec SA wr 2 ao o.length co (o.flatMap eltCells)∧∀x∈o,RowAt SR wr x
 fr:Fr nob w0 wr
section
variable {s:List Col} {w0 w1 w2:World} {X D Q o:List Elt} {ao:Option Addr} {co:Nat} {S:Nat→Prop} {w:World} {a:Option Addr} {cap:Nat} {d A R:List Elt} {x:Elt}
theorem vec_elt (h:Vec S w 2 a d.length cap (d.flatMap eltCells)) (hd:d=A++x::R):∃b off,a=some ⟨b,off,none⟩∧S b∧w.cell? ⟨b,off+A.length*2,none⟩=some (.slice x.a x.p.row.length x.c)∧w.cell? ⟨b,off+A.length*2+1,none⟩=some (.int .i64 x.p.weight):=by
 have hi:A.length<d.length:=by rw[hd];simp
 have hle:=h.le
 obtain ⟨b,off,rfl,hS,r⟩:=h.addr (by omega)
 have hE:EV w b off cap d:=⟨h.le,h.max,h.len,h.nil0,h.one,fun _=>⟨b,off,rfl,rfl,r⟩⟩
 obtain ⟨c0,c1,_,_⟩:=hE.cells hi
 have e:d[A.length]=x:=by
  have:d[A.length]? =some x:=by rw[hd];simp
  rw[List.getElem?_eq_getElem hi] at this
  exact Option.some.inj this
 rw[e] at c0 c1
 exact ⟨b,off,rfl,hS,c0,c1⟩
theorem ColSt.frN (h:ColSt s w0 w1 X D Q o ao co) (hf:Fr nob w1 w2):ColSt s w0 w2 X D Q o ao co:=by
 obtain ⟨h1,h2,h3,hle,⟨SA,SR,ap,ga,gr,hv,hr⟩,h5⟩:=h
 exact ⟨h1,h2,h3,hle,⟨SA,SR,ap,fun k hk=>⟨(ga k hk).1,Nat.lt_of_lt_of_le (ga k hk).2 hf.size⟩,fun k hk=>⟨(gr k hk).1,Nat.lt_of_lt_of_le (gr k hk).2 hf.size⟩,hv.frN hf,fun x hx=>(hr x hx).frN hf⟩,h5.andN hf⟩
theorem rowsCheck_ok {l:List Pr} (h:rowsCheck s l=0):∀p∈l,rowCheck s p.row=0:=by
 induction l with
 | nil=>simp
 | cons p l ih=>
   simp only[rowsCheck] at h
   by_cases h0:rowCheck s p.row=0
   · rw[if_pos h0] at h
     intro q hq
     rcases List.mem_cons.1 hq with rfl | hq
     · exact h0
     · exact ih h q hq
   · rw[if_neg h0] at h;exact absurd h h0
theorem cels_clone {S T:Nat→Prop} {w w' :World} {a' :Option Addr} {cap' :Nat} {r:List Cel} {css:List (List Value)} (hl:css.length=r.length) (hr:∀(i:Nat) (c:List Value) (x:Cel),css[i]? =some c→r[i]? =some x→rCel S w c x) (hv:Vec T w' 2 a' r.length cap' css.flatten):SV rCel 2 T w' a' cap' r:=
 ⟨css,hl,hv,fun i c x h1 h2=>hr i c x h1 h2⟩
theorem ColSt.push {X D Q o:List Elt} {SA SR:Nat→Prop} {wr v v1 v2 v9:World} {e:Elt} {a9:Option Addr} {c9:Nat} (hcut:X=D++Q) (hsep:Sep s (D.map (·.p)) (Q.map (·.p))) (hacc:Acc s (D.map (·.p)) ((o++[e]).map (·.p))) (ap:Apart SA SR) (ga:∀k,SA k→w0.heap.size≤k∧k<wr.heap.size) (gr:∀k,SR k→w0.heap.size≤k∧k<wr.heap.size)
 (hr:∀x∈o,RowAt SR v2 x) (hx:RowAt (newb v v1) v2 e) (s0:w0.heap.size≤wr.heap.size) (s1:wr.heap.size≤v.heap.size) (s2:v1.heap.size≤v2.heap.size) (hv9:Vec (grow SA v2 v9) v9 2 a9 (o.length+1) c9 (o.flatMap eltCells++eltCells e)) (hf9:Fr SA v2 v9) (hf0:Fr nob w0 v2) (s3:v.heap.size≤v1.heap.size) (hlen:(o++[e]).length≤D.length):ColSt s w0 v9 X D Q (o++[e]) a9 c9:=by
 have hsz:=hf9.size
 refine ⟨hcut,hsep,hacc,hlen,⟨grow SA v2 v9,fun k=>SR k∨newb v v1 k,fun k h1 h2=>?_,fun k h=>?_,fun k h=>?_,by simpa using hv9,fun x hx' =>?_⟩,hf0.trans hf9 (fun k hk hs=>absurd (ga k hs).1 (by omega))⟩
 · rcases h1 with h1 | h1<;>rcases h2 with h2 | h2
   · exact ap k h1 h2
   · have:=(ga k h1).2;have:=h2.1;omega
   · have:=(gr k h2).2;have:=h1.1;omega
   · have:=h1.1;have:=h2.2;omega
 · rcases h with h | h
   · have:=ga k h;omega
   · have:=h.1;have:=h.2;omega
 · rcases h with h | h
   · have:=gr k h;omega
   · have:=h.1;have:=h.2;omega
 · rcases List.mem_append.1 hx' with hx' | hx'
   · exact ((hr x hx').fr hf9 (fun k h1 h2=>ap k h2 h1)).mono (fun k h=>Or.inl h)
   · obtain rfl:x=e:=by simpa using hx'
     exact (hx.fr hf9 (fun k h1 h2=>by have:=(ga k h2).2;have:=h1.1;omega)).mono (fun k h=>Or.inr h)
theorem ColSt.step {X D G Q o:List Elt} {f:List Cel} {ao:Option Addr} {co:Nat} (h:ColSt s w0 w1 X D (G++Q) o ao co) (hf:Fr nob w1 w2) (hG:∀x∈G.map (·.p),x.row=f) (hz:wt (G.map (·.p)) f=0) (hsep:Sep s ((D++G).map (·.p)) (Q.map (·.p))):ColSt s w0 w2 X (D++G) Q o ao co:=by
 obtain ⟨h1,h2,h3,hle,h4,h5⟩:=h.frN hf
 exact ⟨by rw[h1,List.append_assoc],hsep,by rw[List.map_append];exact h3.zero hG hz,by rw[List.length_append];omega,h4,h5⟩
end
set_option maxRecDepth 100000 in
set_option maxHeartbeats 8000000 in
theorem collect_any (S R:Nat→Prop) (w:World) (a b:Option Addr) (ca cb:Nat) (s:List Col) (l:List Pr) (hs:SV rCol 2 S w a ca s) (hr:SV rPr 2 R w b cb l) (hL:Laid w) (hl:s.length≤lim) (hll:l.length≤1000000) (hS:∀k,S k→k<w.heap.size) (hR:∀k,R k→k<w.heap.size):
 Calls Tryz.prog 18 #[.slice a s.length ca, .slice b l.length cb] w fun e w' =>∃en out ao co,e= .returned (.tuple #[.slice ao out.length co, .int .i64 (en:Nat)])∧Collected s l en out∧Fr nob w w' ∧SV rPr 2 (newb w w') w' ao co out∧(en≠0→ao=none∧co=0):=by
 obtain ⟨w1,hw1⟩:∃w1,w1=w.alloc (.cells #[.slice a s.length ca] 22 (0,0)):=⟨_,rfl⟩
 have hB:=heap_new w (.cells #[.slice a s.length ca] 22 (0,0))
 have hf1:Fr nob w w1:=by rw[hw1];exact (Fr.refl nob w).alloc _
 rw[←hw1] at hB
 have hck:=schema_any S w1 a ca s (hs.frN rCol_ok hf1) (hL.frN hf1) hl
 have hbx:=cell_of hB 0
 simp at hbx
 have HS:=Lib.hid (hs.frN rCol_ok hf1)
 have HR:=Lib.hid (hr.frN rPr_ok hf1)
 have HL:=Lib.hid (hL.frN hf1)
 have HL0:=Lib.hid hL
 have HLIM:=Lib.hid hl
 have HSo:=Lib.hid hS
 have HRo:=Lib.hid hR
 have HBX:=Lib.hid hbx
 unfold lim at hl
 clear hs hr hL hS hR hB
 obtain ⟨bx,hbxe⟩:∃bx,bx=w.heap.size:=⟨_,rfl⟩
 have HBXE:=Lib.hid hbxe
 rw[hw1] at hbx
 have HW1:=Lib.hid hw1
 clear hw1
 go_enter Tryz.func18,Tryz.ntmps18
 go_wp2_with fail
 go_step3
 go_wp2_with fail
 rw[←HW1.out]
 clear hbx
 refine hck.mono ?_
 rintro e w2 ⟨rfl,hf2⟩
 clear hck
 by_cases h1:schemaCheck s=0
 · have d1:=inteq h1
   have HSC:=Lib.hid h1
   clear h1
   go_wp2_with fail
   go_loopw [24] (fun v24 wr=>∃k:Nat,k≤l.length∧v24= .int .i64 k∧rowsCheck s l=rowsCheck s (l.drop k)∧Fr nob w1 wr) (fun v24 _=>l.length - (intOf v24).toNat)
   case atStart=>exact ⟨0,Nat.zero_le _,rfl,rfl,hf2⟩
   case round=>
    obtain ⟨k,hk,rfl,hEk,hf⟩:=hrel
    have HEk:=Lib.hid hEk
    have HF:=Lib.hid hf
    clear hEk
    by_cases hlt:k<l.length
    · have hE2:rowsCheck s l=if rowCheck s l[k].row=0 then rowsCheck s (l.drop (k+1)) else rowCheck s l[k].row:=by
       rw[HEk.out,List.drop_eq_getElem_cons hlt];rfl
      have HE2:=Lib.hid hE2
      obtain ⟨b1,o1,ra,rc,rfl,_,_,hrl,hrow,c0,c1⟩:=pr_at (HR.out.frN rPr_ok hf) hlt
      obtain ⟨w3,hw3⟩:∃w3,w3=wr.alloc (.cells #[.slice ra l[k].row.length rc, .int .i64 l[k].weight] 66 (0,0)):=⟨_,rfl⟩
      have hB:=heap_new wr (.cells #[.slice ra l[k].row.length rc, .int .i64 l[k].weight] 66 (0,0))
      have hf3:Fr nob wr w3:=by rw[hw3];exact (Fr.refl nob wr).alloc _
      rw[←hw3] at hB
      have g3:=hf.andN hf3
      have hck:=row_any S R w3 a ra ca rc s l[k].row (HS.out.frN rCol_ok g3) (hrow.frN rCel_ok hf3) (HL.out.frN g3) HLIM.out hrl
      have k0:=cell_of hB 0
      simp at k0
      have kb:=g3.cell HBX.out id
      obtain ⟨z,hz⟩:∃z,z=wr.heap.size:=⟨_,rfl⟩
      unfold lim at hrl
      clear hE2 HEk hrow hB
      generalize l[k].row=row at hck hrl HE2 c0 hw3 k0
      generalize hwt:l[k].weight=wt at c1 hw3
      clear hwt
      generalize rowCheck s row=cc at hck HE2
      have HW3:=Lib.hid hw3
      rw[hw3] at k0 kb
      clear hw3 hf
      go_wp2_with fail
      rw[←HW3.out]
      refine hck.mono ?_
      rintro e w4 ⟨rfl,hf4⟩
      have g4:=g3.andN hf4
      clear hck k0 kb c0 c1
      by_cases hcz:cc=0
      · have dz:=inteq hcz
        have HE3:=Lib.hid (show rowsCheck s l=rowsCheck s (l.drop (k+1)) by rw[HE2.out,if_pos hcz])
        clear HE2 hcz
        go_wp2_with fail
        go_roundw
        case rel=>exact ⟨k+1,by omega,by go_num,HE3.out,g4⟩
        case measure=>simp[intOf];omega
      · have dz:=intne hcz
        have HC:=Lib.hid (show Collected s l cc [] by
         have e:rowsCheck s l=cc:=by rw[HE2.out,if_neg hcz]
         unfold Collected;rw[if_neg (by rw[HSC.out];omega),e,if_pos hcz];exact ⟨rfl,rfl⟩)
        clear HE2 hcz
        go_wp2_with fail
        try rw[Exit.noGoto_ret]
        go_ret2
        exact ⟨_,[],none,0,rfl,HC.out,hf1.andN g4,SV.nil _ _ _ _,fun _=>⟨rfl,rfl⟩⟩
    · have HRC:=Lib.hid (show rowsCheck s l=0 by rw[HEk.out,List.drop_of_length_le (by omega)];rfl)
      obtain ⟨d,hd,hv,hra⟩:=elts_of (HR.out.frN rPr_ok hf)
      have hdl:d.length=l.length:=by rw[←hd];simp
      have hcl:=clonePairs_any R wr b l.length cb (d.flatMap eltCells) (by rw[←hdl];exact hv) (by omega)
      have HD:=Lib.hid hd
      have HRA:=Lib.hid hra
      have HDL:=Lib.hid hdl
      clear hd hv hra hdl hf HEk
      go_wp2_with fail
      refine hcl.mono ?_
      rintro e w3 ⟨a1,c1,rfl,hf3,hv3⟩
      clear hcl
      have g3:=HF.out.andN hf3
      have hso:=sort_vec (newb wr w3) R w3 a1 c1 bx (RowVal s R w3) (eltCmp s) (elt_ordr s R w3) d (by rw[HDL.out];exact hv3) (fun x hx=>⟨(HRA.out x hx).frN hf3,rowsCheck_ok HRC.out _ (by rw[←HD.out];exact List.mem_map.2 ⟨x,hx,rfl⟩)⟩) (by rw[HDL.out];omega) (fun b hb=>by
       have hb1:=hb.1
       have hs0:=HF.out.size
       have hs1:=hf1.size
       have h0:=HL0.out.lt
       refine elt_cmp S R w3 b bx a ca s (HS.out.frN rCol_ok g3) (by rw[HBXE.out];exact g3.cell HBX.out id) (HL.out.frN g3) HLIM.out (fun h=>?_) (fun h=>?_) ?_ ?_ ?_ ?_
       · have:=HSo.out b h;omega
       · have:=HRo.out b h;omega
       · have:bx<wr.heap.size:=Nat.lt_of_lt_of_le (by rw[HBXE.out];exact World.block_lt_of_cell? _ _ HBX.out) hs0
         omega
       · omega
       · omega
       · omega)
      have HRA3:=Lib.hid (fun x hx=>(HRA.out x hx).frN hf3)
      rw[HDL.out] at hso
      unfold cmpV at hso
      rw[HBXE.out] at hso
      clear hv3 HRA
      go_wp2_with fail
      refine hso.mono ?_
      rintro e w4 ⟨rfl,hf4,X,hX,sX,hv4⟩
      clear hso
      have g34:Fr nob wr w4:=frN_newb wr w3 hf4 hf3
      have g4:Fr nob w1 w4:=HF.out.andN g34
      have HXV:=Lib.hid (fun x (hx:x∈X)=>(⟨(HRA3.out x (hX.mem_iff.1 hx)).fr hf4 (fun k h1 h2=>by have:=HRo.out k h1;have:=h2.1;have:=HF.out.size;have:=hf1.size;omega),rowsCheck_ok HRC.out _ (by rw[←HD.out];exact List.mem_map.2 ⟨x,hX.mem_iff.1 hx,rfl⟩)⟩:RowVal s R w4 x))
      have HXP:=Lib.hid (show (X.map (·.p)).Perm l by rw[←HD.out];exact hX.map _)
      have HXL:=Lib.hid (show X.length=l.length by rw[hX.length_eq,HDL.out])
      have HSX:=Lib.hid (show (X.map (·.p)).Pairwise (fun a b=>rowCmp s a.row b.row≤0) by rw[List.pairwise_map];exact sX)
      have HV4:=Lib.hid hv4
      have G4:=Lib.hid g4
      have HNB:=Lib.hid (fun k (hk:newb wr w3 k)=>Nat.lt_of_lt_of_le hk.2 hf4.size)
      clear hX sX hv4 hf4 hf3 g3 HRA3 g34 g4
      obtain ⟨N,hN⟩:∃N,N=l.length:=⟨_,rfl⟩
      have HN:=Lib.hid hN
      have hNl:N≤1000000:=by omega
      rw[←hN]
      clear hN
      go_wp2_with fail
      go_step3
      go_wp2_with fail
      go_loopw [11,12] (fun v11 v12 wr=>∃(D Q o:List Elt) (ao:Option Addr) (co:Nat),v12= .int .i64 D.length∧v11= .slice ao o.length co∧ColSt s w4 wr X D Q o ao co) (fun _ v12 _=>N - (intOf v12).toNat)
      case atStart=>exact ⟨[],X,[],none,0,rfl,rfl,⟨rfl,fun x hx=>by simp at hx,Acc.start s,Nat.le_refl _,⟨nob,nob,fun k h=>h.elim,fun k h=>h.elim,fun k h=>h.elim,Vec.nil _ _ _,by simp⟩,Fr.refl _ _⟩⟩
      case round=>
       obtain ⟨D,Q,o,ao,co,rfl,rfl,hst⟩:=hrel
       have HST:=Lib.hid hst
       have hXQ:X.length=D.length+Q.length:=by rw[hst.cut];simp
       have HFr:=Lib.hid hst.fr
       clear hst
       cases hQ:Q with
       | nil=>
         have HQ:=Lib.hid hQ
         have hi:¬D.length<N:=by have:=HXL.out;have:=HN.out;rw[hQ] at hXQ;simp at hXQ;omega
         clear hQ
         have hCC:Canon s (o.map (·.p))∧(∀r,I64 (wt l r))∧∀r,wt (o.map (·.p)) r=wt l r:=by
          have hc:=HST.out.cut
          rw[HQ.out,List.append_nil] at hc
          have hacc:=HST.out.acc
          rw[←hc] at hacc
          exact ⟨hacc.canon,fun r=>by rw[←wt_perm HXP.out];exact hacc.fit r,fun r=>by rw[hacc.wts,wt_perm HXP.out]⟩
         have HCC:=Lib.hid hCC
         clear hCC
         obtain ⟨on,hon⟩:∃on,on=o.length:=⟨_,rfl⟩
         have HON:=Lib.hid hon
         rw[←hon]
         clear hon
         by_cases hbig:1024<on
         · go_wp2_with fail
           try rw[Exit.noGoto_ret]
           go_ret2
           refine ⟨13,[],none,0,rfl,?_,hf1.andN (G4.out.andN HFr.out),SV.nil _ _ _ _,fun _=>⟨rfl,rfl⟩⟩
           unfold Collected
           rw[if_neg (by rw[HSC.out];omega),if_neg (by rw[HRC.out];omega)]
           exact Or.inr ⟨HCC.out.2.1,_,HCC.out.1,HCC.out.2.2,Or.inl ⟨by rw[List.length_map,←HON.out];exact hbig,rfl,rfl⟩⟩
         · go_wp2_with fail
           try rw[Exit.noGoto_ret]
           go_ret2
           obtain ⟨SA,SR,ap,ga,gr,hv,hr⟩:=HST.out.out
           have hsz:=hf1.size
           have hsz2:=G4.out.size
           refine ⟨0,o.map (·.p),ao,co,by rw[List.length_map,←HON.out];rfl,?_,hf1.andN (G4.out.andN HFr.out),elts_back hv hr _ (fun k h=>⟨by have:=ga k h;omega,(ga k h).2⟩) (fun k h=>⟨by have:=gr k h;omega,(gr k h).2⟩),fun h=>absurd rfl h⟩
           unfold Collected
           rw[if_neg (by rw[HSC.out];omega),if_neg (by rw[HRC.out];omega)]
           exact Or.inr ⟨HCC.out.2.1,_,HCC.out.1,HCC.out.2.2,Or.inr ⟨by rw[List.length_map,←HON.out];omega,rfl,rfl⟩⟩
       | cons x0 Q0=>
         have hi:D.length<N:=by have:=HXL.out;have:=HN.out;rw[hQ] at hXQ;simp at hXQ;omega
         obtain ⟨w5,hw5⟩:∃w5,w5=wr.alloc (.cells #[.int .u64 0, .int .u64 0, .int .i64 0] 122 (0,0)):=⟨_,rfl⟩
         have hT0:Tot w5 wr.heap.size 0 0:=by rw[hw5];exact Tot.zero wr
         have f5:Fr nob wr w5:=by rw[hw5];exact (Fr.refl nob wr).alloc _
         have F45:=Lib.hid (HFr.out.andN f5)
         have F5:=Lib.hid f5
         obtain ⟨b,off,rfl,hSb,c0,c1⟩:=vec_elt (HV4.out.frN F45.out) (by rw[HST.out.cut,hQ])
         have HSB:=Lib.hid hSb
         have HX0:=Lib.hid (HXV.out x0 (by rw[HST.out.cut,hQ];simp))
         obtain ⟨tb,htb⟩:∃tb,tb=wr.heap.size:=⟨_,rfl⟩
         have HTB:=Lib.hid htb
         rw[←htb] at hT0
         have HT0:=Lib.hid hT0
         have HQ:=Lib.hid hQ
         have HW5:=Lib.hid hw5
         obtain ⟨i0,hi0⟩:∃i0,i0=D.length:=⟨_,rfl⟩
         have HI0:=Lib.hid hi0
         rw[hw5] at c0
         rw[←hi0] at c0 c1 hi hXQ ⊢
         have HTG:=Lib.hid (show w4.heap.size≤tb by rw[HTB.out];exact HFr.out.size)
         clear hT0 f5 hSb hQ hw5 htb hi0 c1
         go_wp2_with fail
         rw[←HW5.out,←HTB.out]
         clear c0
         go_loopw [12] (fun v12 wr=>∃(G Q' :List Elt),v12= .int .i64 (i0+G.length:Nat)∧Q=G++Q' ∧(∀x∈G,x.p.row=x0.p.row)∧Tot wr tb (wt (G.map (·.p)) x0.p.row) G.length∧Fr (fun k=>k=tb) w5 wr) (fun v12 _=>N - (intOf v12).toNat)
         case atStart=>exact ⟨[],Q,by simp,rfl,by simp,HT0.out,Fr.refl _ _⟩
         case round=>
          obtain ⟨G,Q',rfl,hQG,hG,hT,hf⟩:=hrel
          have HQG:=Lib.hid hQG
          have HG:=Lib.hid hG
          have HT:=Lib.hid hT
          have HFi:=Lib.hid hf
          obtain ⟨i,hie⟩:∃i,i=i0+G.length:=⟨_,rfl⟩
          have HI:=Lib.hid hie
          rw[←hie]
          have hil:i+Q'.length=N:=by have:=HXL.out;have:=HN.out;have:=congrArg List.length hQG;simp at this;omega
          clear hQG hG hT hf hie
          cases hQ' :Q' with
          | nil=>
            have HE:=Lib.hid (show Q' =[]∨∃y R',Q' =y::R' ∧y.p.row≠x0.p.row from Or.inl hQ')
            have hiN:i=N:=by rw[hQ'] at hil;simpa using hil
            have hlt:¬i<N:=by omega
            clear hQ' hil
            have hFs:Fr (fun k=>k=tb) w5 wr:=HFi.out
            have hTs:Tot wr tb (wt (G.map (·.p)) x0.p.row) G.length:=HT.out
            have hFw:Fr nob w4 wr:=F45.out.trans hFs (fun k hk e=>by have:=HTG.out;omega)
            have hFo:=F5.out.trans hFs (T:=nob) (fun k hk e=>by have:=HTB.out;omega)
            have hGne:G≠[]:=by
             intro hg
             have hq:=HQG.out
             rw[hg,List.nil_append,HQ.out] at hq
             rcases HE.out with h | ⟨y,R',h,hne⟩
             · rw[h] at hq;simp at hq
             · rw[h] at hq
               exact hne (by rw[(List.cons.inj hq).1])
            have hgp:∀x∈G.map (·.p),x.row=x0.p.row:=fun x hx=>by
             obtain ⟨e,he,rfl⟩:=List.mem_map.1 hx
             exact HG.out e he
            have hmapX:X.map (·.p)=D.map (·.p)++(G.map (·.p)++Q'.map (·.p)):=by rw[HST.out.cut,HQG.out];simp
            have hrX:∀x∈X.map (·.p),RowIs s x.row:=fun x hx=>by
             obtain ⟨e,he,rfl⟩:=List.mem_map.1 hx
             exact RowVal.is (HXV.out e he)
            have hsD:∀x∈D.map (·.p),rowCmp s x.row x0.p.row<0:=fun x hx=>HST.out.sep x hx x0.p (by rw[HQ.out];simp)
            have hsN:Sep s ((D++G).map (·.p)) (Q'.map (·.p)):=by
             rw[List.map_append]
             refine sep_next (by rw[←hmapX];exact HSX.out) (by rw[←hmapX];exact hrX) (by rw[←List.map_append,←HQG.out];exact HST.out.sep) hgp (RowVal.is HX0.out) (by simpa using hGne) ?_
             rcases HE.out with h | ⟨y,R',h,hne⟩
             · left;rw[h];rfl
             · right;exact ⟨y.p,R'.map (·.p),by rw[h];rfl,hne⟩
            have hGl:G.length≤N:=by have:=HI.out;omega
            have hw64:∀p∈G.map (·.p),I64 p.weight:=fun p hp=>by
             obtain ⟨e,he,rfl⟩:=List.mem_map.1 hp
             exact (HXV.out e (by rw[HST.out.cut,HQG.out];simp[he])).1.1
            have hb:=wt_bound hw64 x0.p.row
            rw[List.length_map] at hb
            have hGpos:0<G.length:=List.length_pos_iff.2 hGne
            have hDGl:(D++G).length=i:=by rw[List.length_append,←HI0.out,←HI.out]
            have HMX:=Lib.hid hmapX
            have HRX:=Lib.hid hrX
            have HSD:=Lib.hid hsD
            have HSN:=Lib.hid hsN
            have HGP:=Lib.hid hgp
            have HGN:=Lib.hid hGne
            have HFW:=Lib.hid hFw
            have HFO:=Lib.hid hFo
            have HFS:=Lib.hid hFs
            have HDGL:=Lib.hid hDGl
            have hii:i0<i:=by have:=HI.out;omega
            clear hmapX hrX hsD hsN hgp hGne hw64 hFw hFo hFs hDGl
            obtain ⟨W,hW⟩:∃W,W=wt (G.map (·.p)) x0.p.row:=⟨_,rfl⟩
            rw[←hW] at hb hTs
            have HWW:=Lib.hid hW
            have hsum:=totSum_any tb W G.length (by omega) wr hTs
            clear hW hTs hb
            have hrD:∀x∈D.map (·.p),RowIs s x.row:=fun x hx=>HRX.out x (by rw[HMX.out];simp only[List.mem_append];exact Or.inl hx)
            have HRD:=Lib.hid hrD
            clear hrD
            by_cases h64:I64 W
            · have hsum:=hsum.mono (fun e w' h=>(⟨h.2.1 h64,h.1⟩:e=_∧Fr nob wr w'))
              have H64:=Lib.hid h64
              clear h64
              by_cases hw0:W=0
              · have HW0:=Lib.hid (show wt (G.map (·.p)) x0.p.row=0 by rw[←HWW.out];exact hw0)
                subst hw0
                go_wp2_with fail
                refine hsum.mono ?_
                rintro e w8 ⟨rfl,hf8⟩
                clear hsum
                go_wp2_with fail
                go_roundw
                case rel=>exact ⟨D++G,Q',o,ao,co,by first | (rw[HDGL.out];done) | (rw[HDGL.out,hiN]),rfl,ColSt.step (by rw[←HQG.out];exact HST.out) (HFO.out.andN hf8) HGP.out HW0.out HSN.out⟩
                case measure=>simp[intOf];omega
              · have dw:(W == 0)=false:=by rw[beq_eq_false_iff_ne];exact hw0
                have HW0:=Lib.hid (show wt (G.map (·.p)) x0.p.row≠0 by rw[←HWW.out];exact hw0)
                clear hw0
                have hrr:∀k,R k→¬(k=tb):=fun k h e=>by have:=HRo.out k h;have:=hf1.size;have:=G4.out.size;have:=HTG.out;omega
                go_wp2_with fail
                refine hsum.mono ?_
                rintro e w8 ⟨rfl,hf8⟩
                clear hsum
                obtain ⟨css,hc1,hc2,hc3⟩:=(((HX0.out.1.frN F45.out).fr HFS.out hrr).frN hf8).2.2
                have hn8:x0.p.row.length≤8:=by
                 have h:=rowCheck_zero HX0.out.2
                 have:=(schemaCheck_le h.1).2
                 omega
                have hcl:=cloneCells_any R w8 x0.a x0.p.row.length x0.c css.flatten hc2 (by omega)
                have HC1:=Lib.hid hc1
                have HC3:=Lib.hid hc3
                clear hc1 hc2 hc3 hrr
                go_wp2_with fail
                refine hcl.mono ?_
                rintro e w9 ⟨a9,c9,rfl,hf9,hv9⟩
                clear hcl
                obtain ⟨w10,hw10⟩:∃w10,w10=w9.alloc (.cells #[.slice a9 x0.p.row.length c9, .int .i64 W] 66 (0,0)):=⟨_,rfl⟩
                have hf10:Fr nob w9 w10:=by rw[hw10];exact (Fr.refl nob w9).alloc _
                have hrow:=cels_clone HC1.out HC3.out hv9
                have he:RowAt (newb w8 w9) w10 ⟨⟨x0.p.row,W⟩,a9,c9⟩:=⟨H64.out,(by show x0.p.row.length≤140737488355328;omega),hrow.frN rCel_ok hf10⟩
                obtain ⟨SA,SR,ap,ga,gr,hv,hr⟩:=HST.out.out
                have hFt:=HFO.out.andN (hf8.andN (hf9.andN hf10))
                have hv10:=hv.frN hFt
                have hsrc:Src Tryz.prog 2 24 (.slice (some ⟨w9.heap.size,0,none⟩) 1 1) 1 (eltCells ⟨⟨x0.p.row,W⟩,a9,c9⟩) w10:=by
                 rw[hw10]
                 exact (Vec.newrow w9 #[.slice a9 x0.p.row.length c9, .int .i64 W] 66 (size:=2) (n:=1) rfl (by unfold maxLen;omega) (by intro u hu;simp at hu;rcases hu with rfl | rfl<;>rfl)).src Tryz.underlying24
                have hol:=HST.out.len
                rw[←HI0.out] at hol
                have HV10:=Lib.hid hv10
                have HSRC:=Lib.hid hsrc
                have HA:=Lib.hid (⟨hv9,he,ap,ga,gr,hr,hFt,hf8,hf9,hf10⟩:(_∧_∧_∧_∧_∧_∧_∧_∧_∧_))
                have HW10:=Lib.hid hw10
                clear hv9 he ap ga gr hv hr hFt hv10 hsrc hrow hf8 hf9 hf10
                rw[hw10] at HV10 HSRC
                clear hw10
                go_wp2_with (at_builtin;refine wpList_append_vec rfl _ _ _ _ rfl rfl HV10.out _ _ _ Tryz.underlying24 inf_Pair rfl _ 1 _ rfl HSRC.out (by unfold maxLen;omega) (by omega) ?_)
                intro a11 c11 w11 hv11 hf11 _
                rw[←HW10.out] at hv11 hf11
                have HV11:=Lib.hid hv11
                have HF11:=Lib.hid hf11
                clear hv11 hf11
                go_wp2_with fail
                go_roundw
                case rel=>
                 obtain ⟨hv9,he,ap,ga,gr,hr,hFt,hf8,hf9,hf10⟩:=HA.out
                 refine ⟨D++G,Q',o++[⟨⟨x0.p.row,W⟩,a9,c9⟩],a11,c11,by first | (rw[HDGL.out];done) | (rw[HDGL.out,hiN]),by rw[List.length_append];rfl,?_⟩
                 refine ColSt.push (v:=w8) (v1:=w9) (v2:=w10) (by rw[HST.out.cut,HQG.out,List.append_assoc]) HSN.out ?_ ap ga gr (fun x hx=>(hr x hx).frN hFt) he HFr.out.size ?_ hf10.size HV11.out HF11.out (HFr.out.andN hFt) hf9.size ?_
                 · rw[List.map_append,List.map_append]
                   have h:=HST.out.acc.more HRD.out (RowVal.is HX0.out) HGP.out (by simpa using HGN.out) HSD.out (by rw[←HWW.out];exact H64.out) HW0.out
                   rw[←HWW.out] at h
                   exact h
                 · have:=HFO.out.size;have:=hf8.size;omega
                 · rw[List.length_append,List.length_append];have:=HST.out.len;simp;omega
                case measure=>simp[intOf];omega
            · have hsum:=hsum.mono (fun e w' h=>(⟨h.2.2 h64,h.1⟩:e=_∧Fr nob wr w'))
              have HC:=Lib.hid (show Collected s l 12 [] by
               unfold Collected
               rw[if_neg (by rw[HSC.out];omega),if_neg (by rw[HRC.out];omega)]
               refine Or.inl ⟨⟨x0.p.row,?_⟩,rfl,rfl⟩
               rw[←wt_perm HXP.out,HMX.out]
               exact over_any HRD.out (RowVal.is HX0.out) HSD.out (fun y hy=>by
                have h:=HSN.out
                obtain ⟨g,hg⟩:=List.exists_mem_of_ne_nil G HGN.out
                have:=h g.p (by rw[List.map_append];exact List.mem_append.2 (Or.inr (List.mem_map.2 ⟨g,hg,rfl⟩))) y hy
                rwa [HG.out g hg] at this) (by rw[←HWW.out];exact h64))
              clear h64
              go_wp2_with fail
              refine hsum.mono ?_
              rintro e w8 ⟨rfl,hf8⟩
              clear hsum
              go_wp2_with fail
              try rw[Exit.noGoto_ret]
              go_ret2
              exact ⟨12,[],none,0,rfl,HC.out,hf1.andN (G4.out.andN (HFW.out.andN hf8)),SV.nil _ _ _ _,fun _=>⟨rfl,rfl⟩⟩
          | cons y Q1=>
            have hlt:i<N:=by rw[hQ'] at hil;simp at hil;omega
            have hX:X=(D++G)++y::Q1:=by rw[HST.out.cut,HQG.out,hQ'];simp
            have hDG:(D++G).length=i:=by rw[HI.out,HI0.out];simp
            have hvi:=(HV4.out.frN F45.out).fr HFi.out (fun k h e=>by have:=HNB.out k h;have:=HTG.out;omega)
            obtain ⟨b',off',eb,_,c0,c1⟩:=vec_elt hvi hX
            cases eb
            rw[hDG] at c0 c1
            have hrr:∀k,R k→¬(k=tb):=fun k h e=>by have:=HRo.out k h;have:=hf1.size;have:=G4.out.size;have:=HTG.out;omega
            have hy:=HXV.out y (by rw[hX];simp)
            have hv0:=(HX0.out.1.frN F45.out).fr HFi.out hrr
            have hvy:=(hy.1.frN F45.out).fr HFi.out hrr
            have hsame:=rowSame_any R R wr x0.a y.a x0.c y.c x0.p.row y.p.row hv0.2.2 hvy.2.2 hv0.2.1 hvy.2.1
            have HQ' :=Lib.hid hQ'
            have HY:=Lib.hid hy
            have hy64:=hy.1.1
            have hx0l:=hv0.2.1
            have hyl:=hvy.2.1
            unfold lim at hx0l hyl
            clear hX hDG hvi hrr hv0 hvy hQ' hy hil
            by_cases hxy:x0.p.row=y.p.row
            · rw[decide_eq_true hxy] at hsame
              have HXY:=Lib.hid hxy
              clear hxy
              go_wp2_with fail
              refine hsame.mono ?_
              rintro e w6 ⟨rfl,hf6⟩
              have c1:=hf6.cell c1 id
              have hadd:=totAdd_any tb _ y.p.weight G.length hy64 (by have:=HI.out;omega) w6 (hf6.heap HT.out id)
              generalize hyw:y.p.weight=yw at c1 hadd
              have HYW:=Lib.hid hyw
              clear hsame hyw hy64
              go_wp2_with fail
              refine hadd.mono ?_
              rintro e w7 ⟨rfl,hT7,hf7⟩
              have HT7:=Lib.hid hT7
              clear hadd hT7 c1
              go_wp2_with fail
              go_roundw
              case rel=>
               refine ⟨G++[y],Q1,?_,by rw[HQG.out,HQ'.out];simp,fun x hx=>?_,?_,HFi.out.andN hf6 |>.trans' hf7⟩
               · rw[List.length_append,←Nat.add_assoc,←HI.out];simp
               · rcases List.mem_append.1 hx with hx | hx
                 · exact HG.out x hx
                 · obtain rfl:x=y:=by simpa using hx
                   exact HXY.out.symm
               · have e:wt ((G++[y]).map (·.p)) x0.p.row=wt (G.map (·.p)) x0.p.row+yw:=by
                  rw[List.map_append,wt_append]
                  simp only[List.map_cons,List.map_nil,wt]
                  rw[if_pos HXY.out.symm,HYW.out];omega
                 rw[e,List.length_append]
                 exact HT7.out
              case measure=>simp[intOf];omega
            · rw[decide_eq_false hxy] at hsame
              have HE:=Lib.hid (show Q' =[]∨∃y R',Q' =y::R' ∧y.p.row≠x0.p.row from Or.inr ⟨y,Q1,HQ'.out,fun e=>hxy e.symm⟩)
              clear hxy
              go_wp2_with fail
              refine hsame.mono ?_
              rintro e w6 ⟨rfl,hf6⟩
              clear hsame c0 c1
              have hFs:Fr (fun k=>k=tb) w5 w6:=HFi.out.andN hf6
              have hTs:Tot w6 tb (wt (G.map (·.p)) x0.p.row) G.length:=hf6.heap HT.out id
              have hFw:Fr nob w4 w6:=F45.out.trans hFs (fun k hk e=>by have:=HTG.out;omega)
              have hFo:=F5.out.trans hFs (T:=nob) (fun k hk e=>by have:=HTB.out;omega)
              have hGne:G≠[]:=by
               intro hg
               have hq:=HQG.out
               rw[hg,List.nil_append,HQ.out] at hq
               rcases HE.out with h | ⟨y,R',h,hne⟩
               · rw[h] at hq;simp at hq
               · rw[h] at hq
                 exact hne (by rw[(List.cons.inj hq).1])
              have hgp:∀x∈G.map (·.p),x.row=x0.p.row:=fun x hx=>by
               obtain ⟨e,he,rfl⟩:=List.mem_map.1 hx
               exact HG.out e he
              have hmapX:X.map (·.p)=D.map (·.p)++(G.map (·.p)++Q'.map (·.p)):=by rw[HST.out.cut,HQG.out];simp
              have hrX:∀x∈X.map (·.p),RowIs s x.row:=fun x hx=>by
               obtain ⟨e,he,rfl⟩:=List.mem_map.1 hx
               exact RowVal.is (HXV.out e he)
              have hsD:∀x∈D.map (·.p),rowCmp s x.row x0.p.row<0:=fun x hx=>HST.out.sep x hx x0.p (by rw[HQ.out];simp)
              have hsN:Sep s ((D++G).map (·.p)) (Q'.map (·.p)):=by
               rw[List.map_append]
               refine sep_next (by rw[←hmapX];exact HSX.out) (by rw[←hmapX];exact hrX) (by rw[←List.map_append,←HQG.out];exact HST.out.sep) hgp (RowVal.is HX0.out) (by simpa using hGne) ?_
               rcases HE.out with h | ⟨y,R',h,hne⟩
               · left;rw[h];rfl
               · right;exact ⟨y.p,R'.map (·.p),by rw[h];rfl,hne⟩
              have hGl:G.length≤N:=by have:=HI.out;omega
              have hw64:∀p∈G.map (·.p),I64 p.weight:=fun p hp=>by
               obtain ⟨e,he,rfl⟩:=List.mem_map.1 hp
               exact (HXV.out e (by rw[HST.out.cut,HQG.out];simp[he])).1.1
              have hb:=wt_bound hw64 x0.p.row
              rw[List.length_map] at hb
              have hGpos:0<G.length:=List.length_pos_iff.2 hGne
              have hDGl:(D++G).length=i:=by rw[List.length_append,←HI0.out,←HI.out]
              have HMX:=Lib.hid hmapX
              have HRX:=Lib.hid hrX
              have HSD:=Lib.hid hsD
              have HSN:=Lib.hid hsN
              have HGP:=Lib.hid hgp
              have HGN:=Lib.hid hGne
              have HFW:=Lib.hid hFw
              have HFO:=Lib.hid hFo
              have HFS:=Lib.hid hFs
              have HDGL:=Lib.hid hDGl
              have hii:i0<i:=by have:=HI.out;omega
              clear hmapX hrX hsD hsN hgp hGne hw64 hFw hFo hFs hDGl
              obtain ⟨W,hW⟩:∃W,W=wt (G.map (·.p)) x0.p.row:=⟨_,rfl⟩
              rw[←hW] at hb hTs
              have HWW:=Lib.hid hW
              have hsum:=totSum_any tb W G.length (by omega) w6 hTs
              clear hW hTs hb
              have hrD:∀x∈D.map (·.p),RowIs s x.row:=fun x hx=>HRX.out x (by rw[HMX.out];simp only[List.mem_append];exact Or.inl hx)
              have HRD:=Lib.hid hrD
              clear hrD
              by_cases h64:I64 W
              · have hsum:=hsum.mono (fun e w' h=>(⟨h.2.1 h64,h.1⟩:e=_∧Fr nob w6 w'))
                have H64:=Lib.hid h64
                clear h64
                by_cases hw0:W=0
                · have HW0:=Lib.hid (show wt (G.map (·.p)) x0.p.row=0 by rw[←HWW.out];exact hw0)
                  subst hw0
                  go_wp2_with fail
                  refine hsum.mono ?_
                  rintro e w8 ⟨rfl,hf8⟩
                  clear hsum
                  go_wp2_with fail
                  go_roundw
                  case rel=>exact ⟨D++G,Q',o,ao,co,by first | (rw[HDGL.out];done) | (rw[HDGL.out,hiN]),rfl,ColSt.step (by rw[←HQG.out];exact HST.out) (HFO.out.andN hf8) HGP.out HW0.out HSN.out⟩
                  case measure=>simp[intOf];omega
                · have dw:(W == 0)=false:=by rw[beq_eq_false_iff_ne];exact hw0
                  have HW0:=Lib.hid (show wt (G.map (·.p)) x0.p.row≠0 by rw[←HWW.out];exact hw0)
                  clear hw0
                  have hrr:∀k,R k→¬(k=tb):=fun k h e=>by have:=HRo.out k h;have:=hf1.size;have:=G4.out.size;have:=HTG.out;omega
                  go_wp2_with fail
                  refine hsum.mono ?_
                  rintro e w8 ⟨rfl,hf8⟩
                  clear hsum
                  obtain ⟨css,hc1,hc2,hc3⟩:=(((HX0.out.1.frN F45.out).fr HFS.out hrr).frN hf8).2.2
                  have hn8:x0.p.row.length≤8:=by
                   have h:=rowCheck_zero HX0.out.2
                   have:=(schemaCheck_le h.1).2
                   omega
                  have hcl:=cloneCells_any R w8 x0.a x0.p.row.length x0.c css.flatten hc2 (by omega)
                  have HC1:=Lib.hid hc1
                  have HC3:=Lib.hid hc3
                  clear hc1 hc2 hc3 hrr
                  go_wp2_with fail
                  refine hcl.mono ?_
                  rintro e w9 ⟨a9,c9,rfl,hf9,hv9⟩
                  clear hcl
                  obtain ⟨w10,hw10⟩:∃w10,w10=w9.alloc (.cells #[.slice a9 x0.p.row.length c9, .int .i64 W] 66 (0,0)):=⟨_,rfl⟩
                  have hf10:Fr nob w9 w10:=by rw[hw10];exact (Fr.refl nob w9).alloc _
                  have hrow:=cels_clone HC1.out HC3.out hv9
                  have he:RowAt (newb w8 w9) w10 ⟨⟨x0.p.row,W⟩,a9,c9⟩:=⟨H64.out,(by show x0.p.row.length≤140737488355328;omega),hrow.frN rCel_ok hf10⟩
                  obtain ⟨SA,SR,ap,ga,gr,hv,hr⟩:=HST.out.out
                  have hFt:=HFO.out.andN (hf8.andN (hf9.andN hf10))
                  have hv10:=hv.frN hFt
                  have hsrc:Src Tryz.prog 2 24 (.slice (some ⟨w9.heap.size,0,none⟩) 1 1) 1 (eltCells ⟨⟨x0.p.row,W⟩,a9,c9⟩) w10:=by
                   rw[hw10]
                   exact (Vec.newrow w9 #[.slice a9 x0.p.row.length c9, .int .i64 W] 66 (size:=2) (n:=1) rfl (by unfold maxLen;omega) (by intro u hu;simp at hu;rcases hu with rfl | rfl<;>rfl)).src Tryz.underlying24
                  have hol:=HST.out.len
                  rw[←HI0.out] at hol
                  have HV10:=Lib.hid hv10
                  have HSRC:=Lib.hid hsrc
                  have HA:=Lib.hid (⟨hv9,he,ap,ga,gr,hr,hFt,hf8,hf9,hf10⟩:(_∧_∧_∧_∧_∧_∧_∧_∧_∧_))
                  have HW10:=Lib.hid hw10
                  clear hv9 he ap ga gr hv hr hFt hv10 hsrc hrow hf8 hf9 hf10
                  rw[hw10] at HV10 HSRC
                  clear hw10
                  go_wp2_with (at_builtin;refine wpList_append_vec rfl _ _ _ _ rfl rfl HV10.out _ _ _ Tryz.underlying24 inf_Pair rfl _ 1 _ rfl HSRC.out (by unfold maxLen;omega) (by omega) ?_)
                  intro a11 c11 w11 hv11 hf11 _
                  rw[←HW10.out] at hv11 hf11
                  have HV11:=Lib.hid hv11
                  have HF11:=Lib.hid hf11
                  clear hv11 hf11
                  go_wp2_with fail
                  go_roundw
                  case rel=>
                   obtain ⟨hv9,he,ap,ga,gr,hr,hFt,hf8,hf9,hf10⟩:=HA.out
                   refine ⟨D++G,Q',o++[⟨⟨x0.p.row,W⟩,a9,c9⟩],a11,c11,by first | (rw[HDGL.out];done) | (rw[HDGL.out,hiN]),by rw[List.length_append];rfl,?_⟩
                   refine ColSt.push (v:=w8) (v1:=w9) (v2:=w10) (by rw[HST.out.cut,HQG.out,List.append_assoc]) HSN.out ?_ ap ga gr (fun x hx=>(hr x hx).frN hFt) he HFr.out.size ?_ hf10.size HV11.out HF11.out (HFr.out.andN hFt) hf9.size ?_
                   · rw[List.map_append,List.map_append]
                     have h:=HST.out.acc.more HRD.out (RowVal.is HX0.out) HGP.out (by simpa using HGN.out) HSD.out (by rw[←HWW.out];exact H64.out) HW0.out
                     rw[←HWW.out] at h
                     exact h
                   · have:=HFO.out.size;have:=hf8.size;omega
                   · rw[List.length_append,List.length_append];have:=HST.out.len;simp;omega
                  case measure=>simp[intOf];omega
              · have hsum:=hsum.mono (fun e w' h=>(⟨h.2.2 h64,h.1⟩:e=_∧Fr nob w6 w'))
                have HC:=Lib.hid (show Collected s l 12 [] by
                 unfold Collected
                 rw[if_neg (by rw[HSC.out];omega),if_neg (by rw[HRC.out];omega)]
                 refine Or.inl ⟨⟨x0.p.row,?_⟩,rfl,rfl⟩
                 rw[←wt_perm HXP.out,HMX.out]
                 exact over_any HRD.out (RowVal.is HX0.out) HSD.out (fun y hy=>by
                  have h:=HSN.out
                  obtain ⟨g,hg⟩:=List.exists_mem_of_ne_nil G HGN.out
                  have:=h g.p (by rw[List.map_append];exact List.mem_append.2 (Or.inr (List.mem_map.2 ⟨g,hg,rfl⟩))) y hy
                  rwa [HG.out g hg] at this) (by rw[←HWW.out];exact h64))
                clear h64
                go_wp2_with fail
                refine hsum.mono ?_
                rintro e w8 ⟨rfl,hf8⟩
                clear hsum
                go_wp2_with fail
                try rw[Exit.noGoto_ret]
                go_ret2
                exact ⟨12,[],none,0,rfl,HC.out,hf1.andN (G4.out.andN (HFW.out.andN hf8)),SV.nil _ _ _ _,fun _=>⟨rfl,rfl⟩⟩
 · have HC:=Lib.hid (show Collected s l (schemaCheck s) [] by unfold Collected;rw[if_pos h1];exact ⟨rfl,rfl⟩)
   have d1:=intne h1
   clear h1
   go_wp2_with fail
   try rw[Exit.noGoto_ret]
   go_ret2
   exact ⟨_,[],none,0,rfl,HC.out,hf1.andN hf2,SV.nil _ _ _ _,fun _=>⟨rfl,rfl⟩⟩
set_option maxRecDepth 100000 in
set_option maxHeartbeats 2000000 in
theorem pairSame_any (S R:Nat→Prop) (w:World) (x y:Elt) (hx:RowAt S w x) (hy:RowAt R w y):
 Calls Tryz.prog 64 #[eltVal x,eltVal y] w fun e w' =>e= .returned (.bool (decide (x.p=y.p)))∧Fr nob w w' :=by
 obtain ⟨⟨x,xw⟩,xa,xc⟩:=x
 obtain ⟨⟨y,yw⟩,ya,yc⟩:=y
 obtain ⟨e1,e2,f1⟩:=allocs2 w (.cells #[.slice xa x.length xc, .int .i64 xw] 66 (0,0)) (.cells #[.slice ya y.length yc, .int .i64 yw] 66 (0,0))
 obtain ⟨w2,hw2⟩:∃w2,w2=(w.alloc (.cells #[.slice xa x.length xc, .int .i64 xw] 66 (0,0))).alloc (.cells #[.slice ya y.length yc, .int .i64 yw] 66 (0,0)):=⟨_,rfl⟩
 have hs:=rowSame_any S R w2 xa ya xc yc x y (by rw[hw2];exact hx.2.2.frN rCel_ok f1) (by rw[hw2];exact hy.2.2.frN rCel_ok f1) hx.2.1 hy.2.1
 have k0:=cell_of e1 0
 have k1:=cell_of e1 1
 have k2:=cell_of e2 0
 have k3:=cell_of e2 1
 simp at k0 k1 k2 k3
 have HW:=Lib.hid hw2
 rw[←hw2] at f1
 have F1:=Lib.hid f1
 have hd:decide ((⟨x,xw⟩:Pr)=⟨y,yw⟩)=(xw == yw&&decide (x=y)):=by
  rw[Bool.eq_iff_iff];simp[Pr.mk.injEq,and_comm]
 simp only at*
 rw[hd]
 clear hx hy e1 e2 f1 hw2 hd
 unfold eltVal
 simp only
 by_cases hw:xw=yw
 · subst hw
   have hb:(xw == xw)=true:=by simp
   rw[hb,Bool.true_and]
   generalize decide (x=y)=d at hs ⊢
   go_enter Tryz.func64,Tryz.ntmps64
   go_wp2_with fail
   rw[←HW.out]
   refine hs.mono ?_
   rintro e w3 ⟨rfl,hf⟩
   go_wp2_with fail
   go_ret
   exact ⟨rfl,F1.out.andN hf⟩
 · have hb:(xw == yw)=false:=by rw[beq_eq_false_iff_ne];exact hw
   rw[hb,Bool.false_and]
   clear hs
   go_enter Tryz.func64,Tryz.ntmps64
   go_wp2_with fail
   go_ret
   exact ⟨rfl,by rw[←HW.out];exact F1.out⟩
set_option maxRecDepth 100000 in
set_option maxHeartbeats 4000000 in
theorem equalPairs_any (S R:Nat→Prop) (w:World) (a b:Option Addr) (ca cb:Nat) (l r:List Elt) (hl:Vec S w 2 a l.length ca (l.flatMap eltCells)) (hr:Vec R w 2 b r.length cb (r.flatMap eltCells)) (S' R' :Nat→Prop) (al:∀x∈l,RowAt S' w x) (ar:∀x∈r,RowAt R' w x) (h1:l.length≤lim) (h2:r.length≤lim):
 Calls Tryz.prog 63 #[.slice a l.length ca, .slice b r.length cb, .func (.func 64) #[] #[]] w fun e w' =>e= .returned (.bool (decide (l.map (·.p)=r.map (·.p))))∧Fr nob w w' :=by
 obtain ⟨E,hE⟩:∃E,E=decide (l.map (·.p)=r.map (·.p)):=⟨_,rfl⟩
 rw[←hE]
 have HE:=Lib.hid hE
 have HL:=Lib.hid hl
 have HR:=Lib.hid hr
 have HAL:=Lib.hid al
 have HAR:=Lib.hid ar
 unfold lim at h1 h2
 clear hE hl hr al ar
 by_cases hlen:l.length=r.length
 · have hEE:E=decide ((l.drop 0).map (·.p)=(r.drop 0).map (·.p)):=by rw[HE.out];rfl
   have HEE:=Lib.hid hEE
   have HLEN:=Lib.hid hlen
   obtain ⟨n,hn⟩:∃n,n=l.length:=⟨_,rfl⟩
   rw[←hlen,←hn]
   have HN:=Lib.hid hn
   have hn1:n≤140737488355328:=by omega
   have hb:((n:Int) != n)=false:=by simp
   clear hEE hlen hn h1 h2 HE
   go_enter Tryz.func63,Tryz.ntmps63
   go_wp2_with fail
   go_loopw [17] (fun v17 wr=>∃k:Nat,k≤n∧v17= .int .i64 k∧E=decide ((l.drop k).map (·.p)=(r.drop k).map (·.p))∧Fr nob w wr) (fun v17 _=>n - (intOf v17).toNat)
   case atStart=>exact ⟨0,Nat.zero_le _,rfl,HEE.out,Fr.refl _ _⟩
   case round=>
    obtain ⟨k,hk,rfl,hEk,hf⟩:=hrel
    have HEk:=Lib.hid hEk
    have HF:=Lib.hid hf
    clear hEk HEE
    by_cases hlt:k<n
    · have hkl:k<l.length:=by rw[←HN.out];exact hlt
      have hkr:k<r.length:=by rw[←HLEN.out];exact hkl
      obtain ⟨x,hxk⟩:∃x,l.drop k=x::l.drop (k+1):=⟨_,List.drop_eq_getElem_cons hkl⟩
      obtain ⟨y,hyk⟩:∃y,r.drop k=y::r.drop (k+1):=⟨_,List.drop_eq_getElem_cons hkr⟩
      obtain ⟨b1,o1,rfl,_,c0,c1⟩:=vec_elt (HL.out.frN hf) (A:=l.take k) (x:=x) (R:=l.drop (k+1)) (by rw[←hxk,List.take_append_drop])
      obtain ⟨b2,o2,rfl,_,d0,d1⟩:=vec_elt (HR.out.frN hf) (A:=r.take k) (x:=y) (R:=r.drop (k+1)) (by rw[←hyk,List.take_append_drop])
      rw[show (l.take k).length=k by rw[List.length_take];omega] at c0 c1
      rw[show (r.take k).length=k by rw[List.length_take];omega] at d0 d1
      have hE2:E=(decide (x.p=y.p)&&decide ((l.drop (k+1)).map (·.p)=(r.drop (k+1)).map (·.p))):=by
       rw[HEk.out,hxk,hyk,List.map_cons,List.map_cons,Bool.eq_iff_iff]
       simp only[decide_eq_true_eq,Bool.and_eq_true,List.cons.injEq]
      have HE2:=Lib.hid hE2
      have hx:=HAL.out x (List.mem_of_mem_drop (by rw[hxk];simp))
      have hy:=HAR.out y (List.mem_of_mem_drop (by rw[hyk];simp))
      have HX:=Lib.hid hx
      have HY:=Lib.hid hy
      clear hE2 hx hy hkl hkr hf hxk hyk
      obtain ⟨e1,e2,f1⟩:=allocs2 wr (.cells #[.slice x.a x.p.row.length x.c, .int .i64 x.p.weight] 66 (0,0)) (.cells #[.slice y.a y.p.row.length y.c, .int .i64 y.p.weight] 66 (0,0))
      obtain ⟨w2,hw2⟩:∃w2,w2=(wr.alloc (.cells #[.slice x.a x.p.row.length x.c, .int .i64 x.p.weight] 66 (0,0))).alloc (.cells #[.slice y.a y.p.row.length y.c, .int .i64 y.p.weight] 66 (0,0)):=⟨_,rfl⟩
      have F2:=Lib.hid (show Fr nob w w2 by rw[hw2];exact HF.out.andN f1)
      have hcall:=pairSame_any S' R' w2 x y (HX.out.frN F2.out) (HY.out.frN F2.out)
      unfold eltVal at hcall
      have k0:=cell_of e1 0
      have k1:=cell_of e1 1
      have k2:=cell_of e2 0
      have k3:=cell_of e2 1
      have q0:=((Fr.refl nob wr).alloc (.cells #[.slice x.a x.p.row.length x.c, .int .i64 x.p.weight] 66 (0,0))).cell d0 id
      have q1:=((Fr.refl nob wr).alloc (.cells #[.slice x.a x.p.row.length x.c, .int .i64 x.p.weight] 66 (0,0))).cell d1 id
      simp at k0 k1 k2 k3
      have HW2:=Lib.hid hw2
      clear e1 e2 f1 hw2
      go_wp2_with fail
      rw[←HW2.out]
      refine hcall.mono ?_
      rintro e w3 ⟨rfl,hf3⟩
      clear hcall c0 c1 d0 d1 q0 q1 k0 k1 k2 k3
      have F3:=Lib.hid (F2.out.andN hf3)
      by_cases hxy:x.p=y.p
      · have hd:decide (x.p=y.p)=true:=decide_eq_true hxy
        have HE3:=Lib.hid (show E=decide ((l.drop (k+1)).map (·.p)=(r.drop (k+1)).map (·.p)) by rw[HE2.out,hd,Bool.true_and])
        rw[hd]
        clear HE2 hxy hd
        go_wp2_with fail
        go_roundw
        case rel=>exact ⟨k+1,by omega,by go_num,HE3.out,F3.out⟩
        case measure=>simp[intOf];omega
      · have hd:decide (x.p=y.p)=false:=decide_eq_false hxy
        have HE3:=Lib.hid (show E=false by rw[HE2.out,hd,Bool.false_and])
        rw[hd]
        clear HE2 hxy hd
        go_wp2_with fail
        go_ret
        exact ⟨by rw[HE3.out];rfl,F3.out⟩
    · go_wp2_with fail
      go_ret
      refine ⟨?_,hf⟩
      rw[HEk.out,List.drop_of_length_le (by rw[←HN.out];omega),List.drop_of_length_le (by rw[←HLEN.out,←HN.out];omega)]
      rfl
 · have hEE:E=false:=by
    rw[HE.out,decide_eq_false]
    intro h
    have:=congrArg List.length h
    simp at this
    exact hlen this
   have hb:((l.length:Int) != r.length)=true:=by rw[bne_iff_ne];omega
   subst hEE
   clear hlen HE
   go_enter Tryz.func63,Tryz.ntmps63
   go_wp2_with fail
   go_ret
   exact ⟨rfl,Fr.refl _ _⟩
set_option maxRecDepth 100000 in
theorem zsame_any (S R:Nat→Prop) (w:World) (a b:Option Addr) (ca cb:Nat) (l r:List Pr) (hl:SV rPr 2 S w a ca l) (hr:SV rPr 2 R w b cb r) (h1:l.length≤lim) (h2:r.length≤lim):
 Calls Tryz.prog 19 #[.slice a l.length ca, .slice b r.length cb] w fun e w' =>e= .returned (.bool (decide (l=r)))∧Fr nob w w' :=by
 obtain ⟨d,rfl,hv,ha⟩:=elts_of hl
 obtain ⟨d2,rfl,hv2,ha2⟩:=elts_of hr
 simp only[List.length_map] at*
 have hc:=equalPairs_any S R w a b ca cb d d2 hv hv2 S R ha ha2 h1 h2
 generalize decide (d.map (·.p)=d2.map (·.p))=D at hc ⊢
 clear hl hr hv hv2 ha ha2
 go_enter Tryz.func19,Tryz.ntmps19
 go_wp2_with fail
 refine hc.mono ?_
 rintro e w3 ⟨rfl,hf3⟩
 go_wp2_with fail
 go_ret
 exact ⟨rfl,hf3⟩
end Go.Proofs.YtibpkfnfcdbiiaaGreatDoor
