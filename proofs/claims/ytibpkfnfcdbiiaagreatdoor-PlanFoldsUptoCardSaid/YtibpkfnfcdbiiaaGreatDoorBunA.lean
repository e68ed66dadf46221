/- Words and laws about memory that every proof of this seat uses: frames, slices that read as a row of cells, append. No program in sight. Slices of bytes and strings, as lists of bytes. A region that draws its order, walked in ONE order: whatever reads or reckons may come at any time; what acts comes in one order alone. A region that draws its order and ends in operations that wait for all others (a store behind what is stored): two parts, one behind the other. A region that draws its order, where two that act may come up at once: both ways are walked. A region that draws its order: first what reckons in any world, then what reads, then what acts, one behind the other; what reads is ahead of all that acts. A region that draws its order, walked in one order, where rounds of a range over a function may be among its calls. A region that draws its order, where rounds of a range over a function may be among its calls: first what reckons in any world, then what reads, then what acts, one behind the other; what reads is ahead of all that acts. -/
import Derived.WalkKit
import Derived.WalkSpells
import Derived.WalkLawsBesides
import Derived.Lib.Hide
import Derived.Deep.AppendSrc
import Derived.Deep.Upon
import Derived.Laws.BytesArg
import Derived.OrdersHeld
import Derived.RegionTactic
import Derived.OrdersIn
namespace Go.Proofs.YtibpkfnfcdbiiaaGreatDoor
set_option linter.unusedSimpArgs false
open Go.RowKit
structure Fr (T:Nat→Prop) (w w' :World):Prop where
 os:w'.os=w.os
 tape:w'.tape=w.tape
 output:w'.output=w.output
 size:w.heap.size≤w'.heap.size
 block:∀k,k<w.heap.size→¬T k→w'.heap[k]? =w.heap[k]?
def nob:Nat→Prop:=fun _=>False
def newb (w w' :World):Nat→Prop:=fun k=>w.heap.size≤k∧k<w'.heap.size
def grow (S:Nat→Prop) (w w' :World):Nat→Prop:=fun k=>S k∨(w.heap.size≤k∧k<w'.heap.size)
section
variable {T S:Nat→Prop} {w w1 w2:World}
theorem Fr.refl (T:Nat→Prop) (w:World):Fr T w w:=⟨rfl,rfl,rfl,Nat.le_refl _,fun _ _ _=>rfl⟩
theorem Fr.trans (h1:Fr T w w1) (h2:Fr S w1 w2) (hS:∀k,k<w.heap.size→S k→T k):Fr T w w2:=
 ⟨h2.os.trans h1.os,h2.tape.trans h1.tape,h2.output.trans h1.output,Nat.le_trans h1.size h2.size,
  fun k hk hT=>(h2.block k (Nat.lt_of_lt_of_le hk h1.size) (fun hs=>hT (hS k hk hs))).trans (h1.block k hk hT)⟩
theorem Fr.trans' (h1:Fr T w w1) (h2:Fr T w1 w2):Fr T w w2:=h1.trans h2 (fun _ _ h=>h)
theorem Fr.andN (h1:Fr T w w1) (h2:Fr nob w1 w2):Fr T w w2:=h1.trans h2 (fun _ _ h=>h.elim)
theorem Fr.mono (h:Fr S w w1) (hS:∀k,k<w.heap.size→S k→T k):Fr T w w1:=(Fr.refl T w).trans h hS
theorem Fr.alloc (h:Fr T w w1) (o:Obj):Fr T w (w1.alloc o):=
 h.andN ⟨rfl,rfl,rfl,by simp,fun k hk _=>Below.heap_alloc _ _ _ hk⟩
theorem Fr.drew (h:Fr T w w1):Fr T w w1.drew:=⟨h.os,h.tape,h.output,h.size,h.block⟩
theorem Fr.drewN (h:Fr T w w1) (n:Nat):Fr T w (w1.drewN n):=⟨h.os,h.tape,h.output,h.size,h.block⟩
theorem Fr.setCell (h:Fr T w w1) {p:Addr} (hp:T p.block∨w.heap.size≤p.block) (u:Value):Fr T w (w1.setCell p u):=
 ⟨h.os,h.tape,h.output,by simpa using h.size,fun k hk hT=>by
  rw[Below.heap_setCell _ _ _ _ (fun e=>by subst e;rcases hp with hp | hp;exact hT hp;omega)];exact h.block k hk hT⟩
theorem Fr.below (h:Fr nob w w1):Below w.heap.size w w1:=⟨h.os,h.tape,h.output,h.size,fun k hk=>h.block k hk id⟩
theorem Fr.ofBelow (h:Below w.heap.size w w1):Fr T w w1:=⟨h.os,h.tape,h.output,h.size,fun k hk _=>h.block k hk⟩
theorem Fr.heap (h:Fr T w w1) {k:Nat} {o:Obj} (hk:w.heap[k]? =some o) (hT:¬T k):w1.heap[k]? =some o:=
 (h.block k (Array.getElem?_eq_some_iff.1 hk).1 hT).trans hk
theorem Fr.cell (h:Fr T w w1) {a:Addr} {v:Value} (hc:w.cell? a=some v) (hT:¬T a.block):w1.cell? a=some v:=
 (World.cell?_of_block (h.block _ (World.block_lt_of_cell? _ _ hc) hT)).trans hc
theorem Fr.frozen (h:Fr T w w1) {a:Addr} {v:Value} (hc:w.cell? a=some v) (hT:¬T a.block):w1.frozen? a=w.frozen? a:=
 World.frozen?_of_block (h.block _ (World.block_lt_of_cell? _ _ hc) hT)
end
theorem frN_newb (w w1:World) {w2:World} (h2:Fr (newb w w1) w1 w2) (h1:Fr nob w w1:=by exact (Fr.refl nob _).alloc _):Fr nob w w2:=
 h1.trans h2 (fun k hk h=>absurd h.1 (by omega))
theorem grow_newb (w w1 w2:World) (h1:w.heap.size≤w1.heap.size) (h2:w1.heap.size≤w2.heap.size):∀k,grow (newb w w1) w1 w2 k→newb w w2 k:=by
 rintro k (⟨h,h'⟩ | ⟨h,h'⟩)
 · exact ⟨h,by omega⟩
 · exact ⟨by omega,h'⟩
theorem Fr.set1 {d:Nat} {w w1:World} (h:Fr (fun k=>k=d) w w1) (i:Nat) (u:Value):Fr (fun k=>k=d) w (w1.setCell ⟨d,i,none⟩ u):=h.setCell (Or.inl rfl) u
theorem Fr.self (d:Nat) (w:World):Fr (fun k=>k=d) w w:=Fr.refl _ w
structure Since (w0:World) (S:Nat→Prop) (w:World):Prop where
 ge:∀k,S k→w0.heap.size≤k
 fr:Fr nob w0 w
section
variable {w0 w w1:World} {S T:Nat→Prop}
theorem Since.start (w:World):Since w nob w:=⟨fun _ h=>h.elim,Fr.refl _ _⟩
theorem Since.new (h:Since w0 T w) (hf:Fr nob w w1):Since w0 (newb w w1) w1:=⟨fun _ hk=>Nat.le_trans h.fr.size hk.1,h.fr.andN hf⟩
theorem Since.put (h:Since w0 S w) (hf:Fr S w w1):Since w0 (grow S w w1) w1:=
 ⟨fun k hk=>hk.elim (h.ge k) (fun hk=>Nat.le_trans h.fr.size hk.1),h.fr.trans hf (fun k hk hs=>absurd (h.ge k hs) (by omega))⟩
theorem Since.put' (h:Since w0 S w) (hf:Fr S w w1):Since w0 S w1:=⟨h.ge,(h.put hf).fr⟩
theorem Since.andN (h:Since w0 S w) (hf:Fr nob w w1):Since w0 S w1:=⟨h.ge,h.fr.andN hf⟩
theorem Since.alloc (h:Since w0 S w) (o:Obj):Since w0 S (w.alloc o):=⟨h.ge,h.fr.alloc o⟩
theorem Since.drew (h:Since w0 S w):Since w0 S w.drew:=⟨h.ge,h.fr.drew⟩
theorem Since.other (h:Since w0 S w) (h' :Since w0 T w) (hf:Fr T w w1):Since w0 S w1:=⟨h.ge,(h'.put hf).fr⟩
end
def Apart (S T:Nat→Prop):Prop:=∀k,S k→¬T k
theorem Apart.symm {S T:Nat→Prop} (h:Apart S T):Apart T S:=fun k ht hs=>h k hs ht
theorem Apart.new {T:Nat→Prop} {w:World} (w1:World) (h:∀k,T k→k<w.heap.size):Apart (newb w w1) T:=fun k hk ht=>by have:=h k ht;have:=hk.1;omega
theorem Apart.grow {S T:Nat→Prop} {w:World} (ha:Apart S T) (w1:World) (h:∀k,T k→k<w.heap.size):Apart (grow S w w1) T:=
 fun k hk ht=>hk.elim (fun hs=>ha k hs ht) (fun hk=>by have:=h k ht;omega)
theorem cell_of {w:World} {d:Nat} {cs:Array Value} {t:TypeId} {fr:Nat×Nat} (h:w.heap[d]? =some (.cells cs t fr)) (i:Nat):w.cell? ⟨d,i,none⟩=cs[i]? :=by
 simp[World.cell?,h]
theorem frozen_of {w:World} {d:Nat} {cs:Array Value} {t:TypeId} (h:w.heap[d]? =some (.cells cs t (0,0))) (i:Nat):w.frozen? ⟨d,i,none⟩=false:=by
 simp[World.frozen?,h]
theorem heap_set {w:World} {d:Nat} {cs:Array Value} {t:TypeId} {fr:Nat×Nat} (h:w.heap[d]? =some (.cells cs t fr)) (i:Nat) (u:Value):
 (w.setCell ⟨d,i,none⟩ u).heap[d]? =some (.cells (cs.setIfInBounds i u) t fr):=by
 simp[World.setCell,Array.getElem?_modify,h]
theorem heap_set_other {w:World} {d k:Nat} {o:Option Obj} (h:w.heap[k]? =o) (hne:k≠d) (i:Nat) (u:Value):(w.setCell ⟨d,i,none⟩ u).heap[k]? =o:=by
 rw[Below.heap_setCell _ _ _ _ (by exact hne)];exact h
theorem heap_new (w:World) (o:Obj):(w.alloc o).heap[w.heap.size]? =some o:=by
 show (w.heap.push o)[w.heap.size]? =some o
 simp
theorem heap_old {w:World} {k:Nat} {o:Obj} (h:w.heap[k]? =some o) (o' :Obj):(w.alloc o').heap[k]? =some o:=by
 rw[Below.heap_alloc _ _ _ (Array.getElem?_eq_some_iff.1 h).1];exact h
theorem heap_lt {w:World} {k:Nat} {o:Obj} (h:w.heap[k]? =some o):k<w.heap.size:=(Array.getElem?_eq_some_iff.1 h).1
def Vec (S:Nat→Prop) (w:World) (size:Nat) (a:Option Addr) (n cap:Nat) (cs:List Value):Prop:=
 n≤cap∧cap≤maxLen∧cs.length=n*size∧(a=none→cap=0)∧(∀u∈cs,u.oneCell' =true)∧
 (0<cap→∃b off,a=some ⟨b,off,none⟩∧S b∧
  (∀j,j<cap*size→∃v,w.cell? ⟨b,off+j,none⟩=some v)∧(∀j,j<cap*size→w.frozen? ⟨b,off+j,none⟩=false)∧∀j,j<n*size→w.cell? ⟨b,off+j,none⟩=cs[j]?)
section
variable {S T:Nat→Prop} {w w' :World} {size:Nat} {a:Option Addr} {n cap:Nat} {cs:List Value}
theorem Vec.le (h:Vec S w size a n cap cs):n≤cap:=h.1
theorem Vec.max (h:Vec S w size a n cap cs):cap≤maxLen:=h.2.1
theorem Vec.len (h:Vec S w size a n cap cs):cs.length=n*size:=h.2.2.1
theorem Vec.nil0 (h:Vec S w size a n cap cs):a=none→cap=0:=h.2.2.2.1
theorem Vec.one (h:Vec S w size a n cap cs):∀u∈cs,u.oneCell' =true:=h.2.2.2.2.1
theorem Vec.addr (h:Vec S w size a n cap cs) (hp:0<cap):∃b off,a=some ⟨b,off,none⟩∧S b∧
 (∀j,j<cap*size→∃v,w.cell? ⟨b,off+j,none⟩=some v)∧(∀j,j<cap*size→w.frozen? ⟨b,off+j,none⟩=false)∧∀j,j<n*size→w.cell? ⟨b,off+j,none⟩=cs[j]? :=h.2.2.2.2.2 hp
theorem Vec.nil (S:Nat→Prop) (w:World) (size:Nat):Vec S w size none 0 0 []:=
 ⟨Nat.le_refl _,Nat.zero_le _,by simp,fun _=>rfl,by simp,fun h=>absurd h (Nat.lt_irrefl 0)⟩
theorem Vec.mono (h:Vec S w size a n cap cs) (hS:∀k,S k→T k):Vec T w size a n cap cs:=
 ⟨h.1,h.2.1,h.2.2.1,h.2.2.2.1,h.2.2.2.2.1,fun hp=>let ⟨b,off,e,s,r⟩:=h.addr hp;⟨b,off,e,hS b s,r⟩⟩
theorem Vec.fr (h:Vec S w size a n cap cs) (hf:Fr T w w') (hT:∀k,S k→¬T k):Vec S w' size a n cap cs:=
 ⟨h.1,h.2.1,h.2.2.1,h.2.2.2.1,h.2.2.2.2.1,fun hp=>let ⟨b,off,e,s,r1,r2,r3⟩:=h.addr hp
  ⟨b,off,e,s,fun j hj=>let ⟨v,hv⟩:=r1 j hj;⟨v,hf.cell hv (hT b s)⟩,fun j hj=>let ⟨v,hv⟩:=r1 j hj;(hf.frozen hv (hT b s)).trans (r2 j hj),
   fun j hj=>let ⟨v,hv⟩:=r1 j (Nat.lt_of_lt_of_le hj (Nat.mul_le_mul_right _ h.1));by rw[hf.cell hv (hT b s),←hv];exact r3 j hj⟩⟩
theorem Vec.frN (h:Vec S w size a n cap cs) (hf:Fr nob w w'):Vec S w' size a n cap cs:=h.fr hf (fun _ _=>id)
theorem Vec.whole' {g:Nat} {cur:Array Value} {e:TypeId} {fr:Nat×Nat} (hg:w.heap[g]? =some (.cells cur e fr)) (hfr:∀j,j<cap*size→w.frozen? ⟨g,j,none⟩=false) (hS:S g) (hle:n≤cap) (hmax:cap≤maxLen) (hsz:cur.size=cap*size) (hcs:cur.toList.take (n*size)=cs) (hone:∀u∈cs,u.oneCell' =true):
 Vec S w size (some ⟨g,0,none⟩) n cap cs:=by
 have hn:n*size≤cap*size:=Nat.mul_le_mul_right _ hle
 subst hcs
 refine ⟨hle,hmax,by rw[List.length_take,Array.length_toList,hsz];exact Nat.min_eq_left hn,by simp,hone,fun _=>⟨g,0,rfl,hS,fun j hj=>?_,fun j hj=>by rw[Nat.zero_add];exact hfr j hj,fun j hj=>?_⟩⟩
 · rw[cell_of hg,Nat.zero_add];exact ⟨_,Array.getElem?_eq_getElem (by omega)⟩
 · rw[cell_of hg,Nat.zero_add,List.getElem?_take_of_lt hj,Array.getElem?_toList]
theorem Vec.whole {g:Nat} {cur:Array Value} {e:TypeId} (hg:w.heap[g]? =some (.cells cur e (0,0))) (hS:S g) (hle:n≤cap) (hmax:cap≤maxLen) (hsz:cur.size=cap*size) (hcs:cur.toList.take (n*size)=cs) (hone:∀u∈cs,u.oneCell' =true):
 Vec S w size (some ⟨g,0,none⟩) n cap cs:=Vec.whole' hg (fun j _=>frozen_of hg j) hS hle hmax hsz hcs hone
theorem Vec.newrow (w:World) (cs:Array Value) (e:TypeId) {size n:Nat} (hl:cs.size=n*size) (hm:n≤maxLen) (hone:∀u∈cs.toList,u.oneCell' =true):
 Vec (newb w (w.alloc (.cells cs e))) (w.alloc (.cells cs e)) size (some ⟨w.heap.size,0,none⟩) n n cs.toList:=
 Vec.whole (heap_new w _) ⟨Nat.le_refl _,by simp⟩ (Nat.le_refl _) hm hl (List.take_of_length_le (by rw[Array.length_toList,hl];exact Nat.le_refl _)) hone
theorem Vec.empty (w:World) (e:TypeId) (size:Nat):Vec (newb w (w.alloc (.cells #[] e))) (w.alloc (.cells #[] e)) size (some ⟨w.heap.size,0,none⟩) 0 0 []:=
 Vec.newrow w #[] e (by simp) (Nat.zero_le _) (by simp)
theorem Vec.src (h:Vec S w size a n cap cs) {P:Program} {tx e' :TypeId} (hk:P.underlying tx=some (.slice e')):Src P size tx (.slice a n cap) n cs w:=by
 cases a with
 | none=>
   obtain rfl:=h.nil0 rfl
   obtain rfl:n=0:=by have:=h.le;omega
   obtain rfl:cs=[]:=List.eq_nil_of_length_eq_zero (by simpa using h.len)
   exact Src.ofNil w hk 0
 | some ad=>
   by_cases hp:0<cap
   · obtain ⟨b,off,e,_,r1,_,r3⟩:=h.addr hp
     cases e
     refine Src.ofSlice w hk _ _ _ _ h.len (fun j u hu=>?_) h.one
     rw[Addr.add_lit,r3 j (by have:=(List.getElem?_eq_some_iff.1 hu).1;rw[h.len] at this;exact this)]
     exact hu
   · have:=h.le
     obtain rfl:n=0:=by omega
     obtain rfl:cs=[]:=List.eq_nil_of_length_eq_zero (by simpa using h.len)
     exact Src.ofSlice w hk _ _ _ _ (by simp) (fun j u hu=>by simp at hu) (by simp)
end
theorem World.size_setCells' (w:World) (b:Nat):∀(vs:List Value) (o:Nat),(w.setCells b o vs).heap.size=w.heap.size
 | [],_=>rfl
 | v::r,o=>by rw[World.setCells,World.size_setCells' (w.setCell ⟨b,o,none⟩ v) b r];simp
theorem World.tape_setCells' (w:World) (b o:Nat):∀(vs:List Value),(w.setCells b o vs).tape=w.tape:=fun vs=>by
 induction vs generalizing w o with
 | nil=>rfl
 | cons v r ih=>rw[World.setCells,ih];rfl
theorem run_append_vec {P:Program} {S:Nat→Prop} {w:World} {size:Nat} {a:Option Addr} {n cap:Nat} {cs:List Value} (h:Vec S w size a n cap cs)
 (t tx ty e:TypeId) (i:TypeInfo) (z:Value) (bytes:Nat) (ht:P.underlying t=some (.slice e)) (hi:P.info? e=some i) (hz:i.zero=some z) (hsize:i.size=size) (hby:i.bytes=bytes) (hzs:z.cells.size=size)
 (x:Value) (m:Nat) (news:List Value) (hs:Src P size tx x m news w) (h63:n+m≤maxLen) (hbytes:(n+m)*bytes≤140737488355328):
 ∃a' cap' w',(Builtin.append_ #[t,tx] ty #[.slice a n cap,x]).run P w= .ok (.slice a' (n+m) cap') w' ∧Vec (grow S w w') w' size a' (n+m) cap' (cs++news)∧Fr S w w' ∧
  (a' =none↔a=none∧m=0):=by
 subst hsize
 subst hby
 have hnl:=hs.newsLen
 have hcl:=h.len
 have hlen' :(cs++news).length=(n+m)*i.size:=by rw[List.length_append,hcl,hnl,Nat.add_mul]
 have hone' :∀u∈cs++news,u.oneCell' =true:=fun u hu=>(List.mem_append.1 hu).elim (h.one u) (hs.one u)
 by_cases hfit:n+m≤cap
 · rcases Nat.eq_zero_or_pos cap with h0 | hp
   · subst h0
     obtain rfl:n=0:=by omega
     obtain rfl:m=0:=by omega
     obtain rfl:news=[]:=List.eq_nil_of_length_eq_zero (by simpa using hnl)
     refine ⟨a,0,w,run_append_nothing (P:=P) w t tx ty e i ht hi a 0 0 (Nat.le_refl _) x hs,?_,Fr.refl _ _,by simp⟩
     have h' :=h.mono (T:=grow S w w) (fun k hk=>Or.inl hk)
     simpa using h'
   · obtain ⟨b,off,rfl,hSb,r1,r2,r3⟩:=h.addr hp
     have hmul:(n+m)*i.size≤cap*i.size:=Nat.mul_le_mul_right _ hfit
     rw[Nat.add_mul] at hmul
     have hsome:∀j,j<news.length→(w.cell? ⟨b,off+n*i.size+j,none⟩).isSome=true:=fun j hj=>by
      obtain ⟨v,hv⟩:=r1 (n*i.size+j) (by omega)
      rw[Nat.add_assoc,hv];rfl
     have hrun:=run_append_room_src (P:=P) w t tx ty e i ht hi b off n cap x m news hs hfit hsome (fun j hj=>by rw[Nat.add_assoc];exact r2 _ (by omega))
     have hsz:(w.setCells b (off+n*i.size) news).heap.size=w.heap.size:=by
      exact World.size_setCells' w b news _
     refine ⟨_,_,_,hrun,⟨hfit,h.max,hlen',by simp,hone',fun _=>⟨b,off,rfl,Or.inl hSb,fun j hj=>?_,fun j hj=>?_,fun j hj=>?_⟩⟩,⟨World.os_setCells _ _ _ _,World.tape_setCells' _ _ _ _,World.output_setCells _ _ _ _,Nat.le_of_eq hsz.symm,fun k hk hT=>?_⟩,by simp⟩
     · by_cases hin:n*i.size≤j∧j<n*i.size+news.length
       · have:=World.cell?_setCells_in b news (off+n*i.size) w hsome (j - n*i.size) (by omega)
         rw[show off+n*i.size+(j - n*i.size)=off+j by omega] at this
         exact ⟨_,this⟩
       · rw[World.cell?_setCells_out b _ _ _ _ (fun _ _=>by show off+j<off+n*i.size∨off+n*i.size+news.length≤off+j;omega)]
         exact r1 j hj
     · rw[World.frozen?_setCells];exact r2 j hj
     · rw[Nat.add_mul] at hj
       by_cases hjo:j<n*i.size
       · rw[World.cell?_setCells_out b _ _ _ _ (fun _ _=>Or.inl (by show off+j<off+n*i.size;omega)),List.getElem?_append_left (by omega)]
         exact r3 j hjo
       · have:=World.cell?_setCells_in b news (off+n*i.size) w hsome (j - n*i.size) (by omega)
         rw[show off+n*i.size+(j - n*i.size)=off+j by omega] at this
         rw[this,List.getElem?_append_right (by omega),hcl,List.getElem?_eq_getElem]
     · exact World.heap_setCells_other w b _ news hk (fun e=>hT (e ▸ hSb))
 · have hold:(Builtin.firstCells i.size n (.slice a n cap)).run P w.drew= .ok cs.toArray w.drew:=(h.src (P:=P) ht).cellsD
   have hrun:=run_append_grow_src (P:=P) w t tx ty e i z ht hi hz a n cap cs hold x m news hs (by omega) (by simp only[maxLen] at h63;omega) (growslice_fits (by omega) hbytes)
   have hge:=grownCap_ge w (n+m) cap e
   have hcm:=grownCap_le_maxLen w (n+m) cap e h63
   have hsz:((cs++news).toArray++Builtin.zeroCells z.cells (grownCap w (n+m) cap e - (n+m))).size=grownCap w (n+m) cap e*i.size:=by
    rw[Array.size_append,List.size_toArray,hlen',size_zeroCells,hzs,←Nat.add_mul];congr 1;omega
   refine ⟨_,_,_,hrun,Vec.whole (heap_new w.drew _) (Or.inr ⟨Nat.le_refl _,by simp⟩) hge hcm hsz ?_ hone',((Fr.refl S w).drew).alloc _,by simp;intro ha;have:=h.nil0 ha;have:=h.le;omega⟩
   rw[Array.toList_append,List.take_append_of_le_length (by simp only[hlen'];exact Nat.le_refl _)]
   exact List.take_of_length_le (by simp only[hlen'];exact Nat.le_refl _)
theorem wp_append_vec {P:Program} {o:Oper} {ac:Act} {K:Act→World→Prop} {Q:Exit→Act→World→Prop} {w:World} (s x:Operand) (t tx:TypeId)
 (ho:o.op= .call {callee:= .builtin .append,args:=#[s,x],argTypes:=#[t,tx]})
 {S:Nat→Prop} {size:Nat} {a:Option Addr} {n cap:Nat} {cs:List Value} (hv:ac.eval s= .slice a n cap) (h:Vec S w size a n cap cs)
 (e:TypeId) (z:Value) (bytes:Nat) (ht:P.underlying t=some (.slice e)) (hinf:(P.info? e).map (fun i=>(i.zero,i.size,i.bytes))=some (some z,size,bytes)) (hzs:z.cells.size=size)
 (xv:Value) (m:Nat) (news:List Value) (hx:ac.eval x=xv) (hs:Src P size tx xv m news w) (h63:n+m≤maxLen) (hbytes:(n+m)*bytes≤140737488355328)
 (hK:∀a' cap' w',Vec (grow S w w') w' size a' (n+m) cap' (cs++news)→Fr S w w' →(a' =none↔a=none∧m=0)→K (ac.put o.dst (.slice a' (n+m) cap')) w'):o.wp P ac w K Q:=by
 obtain ⟨i,hi,hz,hsize,hby⟩:=info_parts hinf
 obtain ⟨a',cap',w',hrun,r1,r2,r3⟩:=run_append_vec (P:=P) h t tx o.type e i z bytes ht hi hz hsize hby hzs xv m news hs h63 hbytes
 unfold Oper.wp
 simp[execOp,ho,resolve,invoke,builtin,hv,hx,hrun,Result.andThen]
 exact hK a' cap' w' r1 r2 r3
theorem wpList_append_vec {P:Program} {ops:Array Oper} {rest:List Oper} {o:Oper} {ac:Act} {Q:Exit→Act→World→Prop} {w:World} (hgd:o.guard=none) (s x:Operand) (t tx:TypeId)
 (ho:o.op= .call {callee:= .builtin .append,args:=#[s,x],argTypes:=#[t,tx]})
 {S:Nat→Prop} {size:Nat} {a:Option Addr} {n cap:Nat} {cs:List Value} (hv:ac.eval s= .slice a n cap) (h:Vec S w size a n cap cs)
 (e:TypeId) (z:Value) (bytes:Nat) (ht:P.underlying t=some (.slice e)) (hinf:(P.info? e).map (fun i=>(i.zero,i.size,i.bytes))=some (some z,size,bytes)) (hzs:z.cells.size=size)
 (xv:Value) (m:Nat) (news:List Value) (hx:ac.eval x=xv) (hs:Src P size tx xv m news w) (h63:n+m≤maxLen) (hbytes:(n+m)*bytes≤140737488355328)
 (hK:∀a' cap' w',Vec (grow S w w') w' size a' (n+m) cap' (cs++news)→Fr S w w' →(a' =none↔a=none∧m=0)→wpList P ops Q rest (ac.put o.dst (.slice a' (n+m) cap')) w'):wpList P ops Q (o::rest) ac w:=by
 refine wpList_plain hgd fun K hK' =>?_
 obtain ⟨i,hi,hz,hsize,hby⟩:=info_parts hinf
 obtain ⟨a',cap',w',hrun,r1,r2,r3⟩:=run_append_vec (P:=P) h t tx o.type e i z bytes ht hi hz hsize hby hzs xv m news hs h63 hbytes
 unfold Oper.wp
 simp[execOp,ho,resolve,invoke,builtin,hv,hx,hrun,Result.andThen]
 exact hK' _ _ (hK a' cap' w' r1 r2 r3)
theorem run_slice_vec {P:Program} {S:Nat→Prop} {w:World} {size:Nat} {a:Option Addr} {n cap:Nat} {cs:List Value} (hv:Vec S w size a n cap cs)
 (t e:TypeId) (i:TypeInfo) (ht:P.underlying t=some (.slice e)) (hi:P.info? e=some i) (his:i.size=size)
 (lo hi' mx:Option Value) (l h m:Nat) (hb:∀w',(Instr.sliceBounds true n cap lo hi' mx).run P w' = .ok (l,h,m) w') (h1:l≤h) (h2:h≤n) (h3:h≤m) (h4:m≤cap):
 ∃a',(∀w',(Instr.slice t (.slice a n cap) lo hi' mx).run P w' = .ok (.slice a' (h - l) (m - l)) w')∧Vec S w size a' (h - l) (m - l) ((cs.drop (l*size)).take ((h - l)*size))∧
  (∀b off,a=some ⟨b,off,none⟩→l<m→a' =some ⟨b,off+l*size,none⟩)∧(a' =none↔a=none):=by
 refine ⟨if m=l then a else a.map (·.add (l*size)),fun w' =>?_,?_,?_,?_⟩
 · simp[Instr.slice,run_underlying ht,hb w',sizeOf,typeInfo,hi,his,Result.andThen]
 · have hlen:=hv.len
   have hmul:(l+(h - l))*size≤n*size:=Nat.mul_le_mul_right _ (by omega)
   rw[Nat.add_mul] at hmul
   refine ⟨by omega,by have:=hv.max;omega,by simp[hlen];omega,?_,fun u hu=>hv.one u (List.mem_of_mem_drop (List.mem_of_mem_take hu)),fun hp=>?_⟩
   · intro ha
     split at ha
     · omega
     · have:=hv.nil0 (by simpa using ha);omega
   · obtain ⟨b,off,rfl,hS,r1,r2,r3⟩:=hv.addr (by omega)
     rw[if_neg (by omega)]
     have hm2:(l+(m - l))*size≤cap*size:=Nat.mul_le_mul_right _ (by omega)
     rw[Nat.add_mul] at hm2
     refine ⟨b,off+l*size,by simp[Addr.add_lit],hS,fun j hj=>?_,fun j hj=>?_,fun j hj=>?_⟩
     · rw[Nat.add_assoc];exact r1 _ (by omega)
     · rw[Nat.add_assoc];exact r2 _ (by omega)
     · rw[Nat.add_assoc,r3 _ (by omega),List.getElem?_take_of_lt hj,List.getElem?_drop]
 · rintro b off rfl hlt
   rw[if_neg (by omega)]
   simp[Addr.add_lit]
 · split<;>simp
theorem Vec.set {S:Nat→Prop} {w:World} {size n cap b off:Nat} {cs:List Value} (h:Vec S w size (some ⟨b,off,none⟩) n cap cs) {j:Nat} (hj:j<n*size) {u:Value} (hu:u.oneCell' =true):
 Vec S (w.setCell ⟨b,off+j,none⟩ u) size (some ⟨b,off,none⟩) n cap (cs.set j u)∧Fr S w (w.setCell ⟨b,off+j,none⟩ u):=by
 have hle:n*size≤cap*size:=Nat.mul_le_mul_right _ h.le
 have hp:0<cap:=by rcases Nat.eq_zero_or_pos cap with h0 | h0;subst h0;simp at hle;omega;exact h0
 obtain ⟨b',off',e,hS,r1,r2,r3⟩:=h.addr hp
 cases e
 refine ⟨⟨h.le,h.max,by simpa using h.len,by simp,fun v hv=>(List.mem_or_eq_of_mem_set hv).elim (h.one v) (fun e=>e ▸ hu),fun _=>⟨b,off,rfl,hS,fun i hi=>?_,fun i hi=>?_,fun i hi=>?_⟩⟩,(Fr.refl S w).setCell (Or.inl hS) _⟩
 · obtain ⟨v,hv⟩:=r1 i hi
   by_cases hij:i=j
   · subst hij;exact ⟨u,World.cell?_setCell_same _ _ _ hv⟩
   · exact ⟨v,by rw[World.cell?_setCell_other _ _ _ _ (fun e=>hij (by simpa using e.symm))];exact hv⟩
 · rw[World.frozen?_setCell];exact r2 i hi
 · obtain ⟨v,hv⟩:=r1 i (by omega)
   by_cases hij:i=j
   · subst hij
     rw[World.cell?_setCell_same _ _ _ hv,List.getElem?_set_self (by rw[h.len];exact hj)]
   · rw[World.cell?_setCell_other _ _ _ _ (fun e=>hij (by simpa using e.symm)),r3 i hi,List.getElem?_set_ne (by omega)]
theorem bounds_l {P:Program} {n cap:Nat} (k:IntKind) (l:Nat) (x:Int) (hx:x=l) (h:l≤n) (w' :World):(Instr.sliceBounds true n cap (some (.int k x)) none none).run P w' = .ok (l,n,cap) w' :=by
 subst hx;simp[Instr.sliceBounds,run_sliceBound,h]
theorem bounds_h {P:Program} {n cap:Nat} (k:IntKind) (h:Nat) (x:Int) (hx:x=h) (hc:h≤cap) (w' :World):(Instr.sliceBounds true n cap none (some (.int k x)) none).run P w' = .ok (0,h,cap) w' :=by
 subst hx;simp[Instr.sliceBounds,run_sliceBound,hc]
theorem bounds_lh {P:Program} {n cap:Nat} (k k' :IntKind) (l h:Nat) (x y:Int) (hx:x=l) (hy:y=h) (hlh:l≤h) (hc:h≤cap) (w' :World):(Instr.sliceBounds true n cap (some (.int k x)) (some (.int k' y)) none).run P w' = .ok (l,h,cap) w' :=by
 subst hx;subst hy;simp[Instr.sliceBounds,run_sliceBound,hc,hlh]
theorem bounds_hm {P:Program} {n cap:Nat} (k k' :IntKind) (h m:Nat) (x y:Int) (hx:x=h) (hy:y=m) (hlh:h≤m) (hc:m≤cap) (w' :World):(Instr.sliceBounds true n cap none (some (.int k x)) (some (.int k' y))).run P w' = .ok (0,h,m) w' :=by
 subst hx;subst hy;simp[Instr.sliceBounds,run_sliceBound,hc,hlh]
theorem run_copy_vec {P:Program} {S:Nat→Prop} {w:World} {a:Option Addr} {n cap:Nat} {cs:List Value} (hv:Vec S w 1 a n cap cs)
 (t ty el:TypeId) (i:TypeInfo) (ht:P.underlying t=some (.slice el)) (hi:P.info? el=some i) (his:i.size=1)
 (e m dn dc:Nat) (a1:Option Addr) (ha1:∀b off,a=some ⟨b,off,none⟩→e<cap→a1=some ⟨b,off+e,none⟩) (hdn:dn=n - e) (x:Value) (news:List Value) (hs:Src P 1 t x m news w) (hem:e+m≤n):
 ∃w',(Builtin.copy_ #[t,t] ty #[.slice a1 dn dc,x]).run P w= .ok (goInt m) w' ∧Fr S w w' ∧Vec S w' 1 a (e+m) (e+m) (cs.take e++news):=by
 have hnl:=hs.newsLen
 have hlen:=hv.len
 have hle:=hv.le
 have hone:∀u∈cs.take e++news,u.oneCell' =true:=fun u hu=>(List.mem_append.1 hu).elim (fun h=>hv.one u (List.mem_of_mem_take h)) (hs.one u)
 have hmin:Nat.min m dn=m:=Nat.min_eq_left (by omega)
 rcases Nat.eq_zero_or_pos m with h0 | hp
 · subst h0
   obtain rfl:news=[]:=List.eq_nil_of_length_eq_zero (by simpa using hnl)
   refine ⟨w,?_,Fr.refl _ _,⟨Nat.le_refl _,by have:=hv.max;omega,by simp;omega,fun ha=>by have:=hv.nil0 ha;omega,hone,fun hp=>?_⟩⟩
   · cases a1<;>simp[Builtin.copy_,run_underlying ht,sizeOf,typeInfo,hi,his,hs.len,hs.cells,storeCells]
   · obtain ⟨b,off,rfl,hS,r1,r2,r3⟩:=hv.addr (by omega)
     refine ⟨b,off,rfl,hS,fun j hj=>r1 j (by omega),fun j hj=>r2 j (by omega),fun j hj=>?_⟩
     rw[r3 j (by omega),List.append_nil,List.getElem?_take_of_lt (by omega)]
 · obtain ⟨b,off,rfl,hS,r1,r2,r3⟩:=hv.addr (by omega)
   obtain rfl:=ha1 b off rfl (by omega)
   have hsome:∀j,j<news.length→(w.cell? ⟨b,off+e+0+j,none⟩).isSome=true:=fun j hj=>by
    obtain ⟨v,hv⟩:=r1 (e+j) (by omega)
    rw[Nat.add_zero,Nat.add_assoc,hv];rfl
   have hsome' :∀j,j<news.length→(w.cell? ⟨b,off+e+j,none⟩).isSome=true:=hsome
   have hst:=run_storeCells_cells (P:=P) b (off+e) news 0 w hsome (fun j hj=>by rw[Nat.add_zero,Nat.add_assoc];exact r2 _ (by omega)) hs.one
   refine ⟨w.setCells b (off+e) news,?_,⟨World.os_setCells _ _ _ _,World.tape_setCells' _ _ _ _,World.output_setCells _ _ _ _,Nat.le_of_eq (World.size_setCells' _ _ _ _).symm,fun k hk hT=>World.heap_setCells_other w b _ news hk (fun e' =>hT (e' ▸ hS))⟩,Nat.le_refl _,by have:=hv.max;omega,by simp;omega,by simp,hone,fun _=>⟨b,off,rfl,hS,fun j hj=>?_,fun j hj=>?_,fun j hj=>?_⟩⟩
   · have hm2:min m dn=m:=hmin
     simp[Builtin.copy_,run_underlying ht,sizeOf,typeInfo,hi,his,hs.len,hm2,hs.cells,hst]
   · by_cases hin:e≤j
     · have:=World.cell?_setCells_in b news (off+e) w hsome' (j - e) (by omega)
       rw[show off+e+(j - e)=off+j by omega] at this
       exact ⟨_,this⟩
     · rw[World.cell?_setCells_out b _ _ _ _ (fun _ _=>Or.inl (by show off+j<off+e;omega))]
       exact r1 j (by omega)
   · rw[World.frozen?_setCells];exact r2 j (by omega)
   · by_cases hin:e≤j
     · have:=World.cell?_setCells_in b news (off+e) w hsome' (j - e) (by omega)
       rw[show off+e+(j - e)=off+j by omega] at this
       rw[this,List.getElem?_append_right (by simp;omega),List.length_take,Nat.min_eq_left (by omega),List.getElem?_eq_getElem]
     · rw[World.cell?_setCells_out b _ _ _ _ (fun _ _=>Or.inl (by show off+j<off+e;omega)),r3 j (by omega),List.getElem?_append_left (by simp;omega),List.getElem?_take_of_lt (by omega)]
def bv (l:List UInt8):List Value:=l.map fun b=> .int .u8 (b.toNat:Int)
def bs (l:List UInt8):ByteArray:=⟨l.toArray⟩
@[simp] theorem bv_length (l:List UInt8):(bv l).length=l.length:=by simp[bv]
theorem bv_append (a b:List UInt8):bv (a++b)=bv a++bv b:=by simp[bv]
theorem bv_take (a:List UInt8) (n:Nat):bv (a.take n)=(bv a).take n:=by simp[bv]
theorem bv_drop (a:List UInt8) (n:Nat):bv (a.drop n)=(bv a).drop n:=by simp[bv]
theorem bv_get (l:List UInt8) (i:Nat):(bv l)[i]? =(l[i]?).map fun b=> .int .u8 (b.toNat:Int):=by simp[bv]
theorem bv_one (l:List UInt8):∀u∈bv l,u.oneCell' =true:=by
 intro u hu
 obtain ⟨b,_,rfl⟩:=List.mem_map.1 hu
 rfl
theorem bs_toList (l:List UInt8):(bs l).toList=l:=by simp[bs]
theorem bs_size (l:List UInt8):(bs l).size=l.length:=rfl
theorem bs_append (a b:List UInt8):bs a++bs b=bs (a++b):=ByteArray.mk_append_mk a b
theorem bs_of (s:ByteArray):bs s.data.toList=s:=by cases s;simp[bs]
theorem bs_inj {a b:List UInt8}:bs a=bs b↔a=b:=⟨fun h=>by have:=congrArg ByteArray.toList h;simpa [bs_toList] using this,fun h=>h ▸ rfl⟩
def BV (S:Nat→Prop) (w:World) (a:Option Addr) (cap:Nat) (l:List UInt8):Prop:=Vec S w 1 a l.length cap (bv l)
section
variable {S T:Nat→Prop} {w w' :World} {a:Option Addr} {cap:Nat} {l:List UInt8}
theorem BV.vec (h:BV S w a cap l):Vec S w 1 a l.length cap (bv l):=h
theorem BV.fr (h:BV S w a cap l) (hf:Fr T w w') (hT:∀k,S k→¬T k):BV S w' a cap l:=Vec.fr h hf hT
theorem BV.frN (h:BV S w a cap l) (hf:Fr nob w w'):BV S w' a cap l:=Vec.frN h hf
theorem BV.mono (h:BV S w a cap l) (hS:∀k,S k→T k):BV T w a cap l:=Vec.mono h hS
theorem BV.nil (S:Nat→Prop) (w:World):BV S w none 0 []:=Vec.nil S w 1
theorem BV.src (h:BV S w a cap l) {P:Program} {tx e' :TypeId} (hk:P.underlying tx=some (.slice e')):Src P 1 tx (.slice a l.length cap) l.length (bv l) w:=Vec.src h hk
theorem BV.get (h:BV S w a cap l) {i:Nat} (hi:i<l.length):∃b off,a=some ⟨b,off,none⟩∧S b∧w.cell? ⟨b,off+i,none⟩=some (.int .u8 (l[i].toNat:Int)):=by
 have hv:Vec S w 1 a l.length cap (bv l):=h
 obtain ⟨b,off,e,hS,_,_,r3⟩:=hv.addr (by have:=hv.le;omega)
 exact ⟨b,off,e,hS,by rw[r3 i (by omega),bv_get,List.getElem?_eq_getElem hi];rfl⟩
theorem strOfNums_bytes (l:List UInt8):strOfNums (l.map fun b=>(b.toNat:Int))=bs l:=by
 simp only[strOfNums,bs]
 congr 2
 rw[List.map_map]
 conv=>rhs;rw[←List.map_id l]
 exact List.map_congr_left (fun b _=>by simp)
theorem BV.str (h:BV S w a cap l) {P:Program} {src dst e:TypeId} (hs:P.underlying src=some (.slice e)) (he:P.underlying e=some (.int .u8)) (hd:P.underlying dst=some .string):
 (convert src dst (.slice a l.length cap)).run P w= .ok (.string (bs l)) w:=by
 rcases Nat.eq_zero_or_pos l.length with h0 | hp
 · obtain rfl:l=[]:=List.eq_nil_of_length_eq_zero h0
   cases a with
   | none=>exact run_convert_bytes_nil w src e hs he _ _ dst hd
   | some ad=>
     rw[run_convert_bytes_string w src dst e _ _ _ hs he hd]
     simp[Conv.bytesToString,loadCells,bs]
     rfl
 · obtain ⟨b,off,rfl,_,_⟩:=h.get hp
   rw[run_convert_bytes_arg w src e hs he b off l.length cap (l.map fun b=>(b.toNat:Int)) (by simp) (fun i hi=>?_) dst hd,strOfNums_bytes]
   obtain ⟨b',off',e',_,hc⟩:=h.get hi
   cases e'
   rw[hc]
   simp[hi]
theorem BV.sub {P:Program} (h:BV S w a cap l) (t e:TypeId) (i:TypeInfo) (ht:P.underlying t=some (.slice e)) (hi:P.info? e=some i) (his:i.size=1)
 (lo hi' mx:Option Value) (x y m:Nat) (hb:∀w',(Instr.sliceBounds true l.length cap lo hi' mx).run P w' = .ok (x,y,m) w') (h1:x≤y) (h2:y≤l.length) (h3:y≤m) (h4:m≤cap):
 ∃a',(∀w',(Instr.slice t (.slice a l.length cap) lo hi' mx).run P w' = .ok (.slice a' (y - x) (m - x)) w')∧BV S w a' (m - x) ((l.drop x).take (y - x))∧(a' =none↔a=none):=by
 obtain ⟨a',r1,r2,_,r4⟩:=run_slice_vec (P:=P) h.vec t e i ht hi his lo hi' mx x y m hb h1 h2 h3 h4
 refine ⟨a',r1,?_,r4⟩
 have hl:((l.drop x).take (y - x)).length=y - x:=by simp;omega
 unfold BV
 rw[hl,bv_take,bv_drop]
 simpa using r2
end
section quiet
variable {P:Program} {ops:Array Oper} {Q:Exit→Act→World→Prop}
def Still (P:Program) (ops:Array Oper) (S:World→Prop) (o:Oper) (v:Value) (a:Act):Prop:=
 (Region.wanted o (yielded ops a.tmps)=true∧∀w,S w→((execOp a.eval o).run P w= .ok (.value v) w∨∃f args,(execOp a.eval o).run P w= .ok (.enter f args) w∧Calls P f args w fun e w' =>e= .returned v∧w' =w))∨
 (Region.wanted o (yielded ops a.tmps)=false∧v=undef)
theorem Still.of {S:World→Prop} {o:Oper} {v:Value} {a:Act} (h:YieldsIf P ops S o v a):Still P ops S o v a:=
 h.imp (fun h=>⟨h.1,fun w hw=>Or.inl (h.2 w hw)⟩) id
theorem Still.at {S:World→Prop} {o:Oper} {v:Value} {a a' :Act} (h:Still P ops S o v a) (he:execOp a'.eval o=execOp a.eval o)
 (hw:Region.wanted o (yielded ops a'.tmps)=Region.wanted o (yielded ops a.tmps)):Still P ops S o v a' :=by
 unfold Still at*
 rw[he,hw]
 exact h
theorem Still.step {S:World→Prop} {i:Nat} {o:Oper} {v:Value} {a:Act} (hi:ops[i]? =some o) (h:Still P ops S o v a) {K:Act→World→Prop} {w:World} (hS:S w) (hK:K (a.put o.dst v) w):wpOp P ops Q i K a w:=by
 refine wpOp_step hi (fun K' hK' =>?_)
 rcases h with ⟨hw,hv⟩ | ⟨hw,rfl⟩
 · rw[if_pos hw]
   unfold Oper.wp
   rcases hv w hS with hr | ⟨f,args,hr,hc⟩
   · rw[hr];exact hK' _ _ hK
   · rw[hr]
     refine Calls.mono hc fun e w' he=>?_
     obtain ⟨rfl,rfl⟩:=he
     exact hK' _ _ hK
 · rw[hw];exact hK' _ _ hK
theorem Still.past {S:World→Prop} {j:Nat} {oi oj:Oper} {v:Value} (hj:ops[j]? =some oj) (hap:oi.apart ops oj=true) (hsi:∀cs b,oi.op≠ .select cs b) (hsj:∀cs b,oj.op≠ .select cs b)
 (hQ:∀c a w,Q (.panic c) (a.put oi.dst v) w→Q (.panic c) a w) {K:Act→World→Prop} {a:Act} {w:World} (hy:Still P ops S oi v a) (h:wpOp P ops Q j K (a.put oi.dst v) w):
 wpOp P ops Q j (fun a' w' =>Still P ops S oi v a' ∧K (a'.put oi.dst v) w') a w:=by
 obtain ⟨h1,h2,h3⟩:=Oper.apart_spec hap
 have keep:∀(b:Act),Still P ops S oi v b→∀u,Still P ops S oi v (b.put oj.dst u):=fun b hb u=>hb.at (execOp_put oi hsi b oj.dst u h3) (wanted_put oi b oj.dst u h3)
 have keepD:∀d,Still P ops S oi v {a with defers:=d::a.defers}:=fun d=>hy.at rfl rfl
 unfold wpOp at*
 simp only[hj] at*
 rw[wanted_put oj a oi.dst v h1] at h
 cases hw:Region.wanted oj (yielded ops a.tmps)
 · simp only[hw,Bool.false_eq_true,if_false] at h ⊢
   exact ⟨keep a hy _,by rw[←Act.put_comm a v undef h2];exact h⟩
 · simp only[hw,if_true] at h ⊢
   rcases h with h | ⟨hasks,hlets⟩
   · left
     unfold Oper.wp at*
     rw[execOp_put oj hsj a oi.dst v h1] at h
     generalize (execOp a.eval oj).run P w=r at*
     match r,h with
     | .ok (.value u) w',h=>exact ⟨keep a hy u,by rw[←Act.put_comm a v u h2];exact h⟩
     | .ok .skip w',h=>exact ⟨keep a hy _,by rw[←Act.put_comm a v undef h2];exact h⟩
     | .ok (.defer d) w',h=>
       refine ⟨keep _ (keepD d) _,?_⟩
       rw[←Act.put_comm _ v undef h2,←Act.put_defers]
       exact h
     | .ok (.enter f args) w',h=>
       refine Calls.mono h fun e w'' he=>?_
       match e,he with
       | .returned u,he=>exact ⟨keep a hy u,by rw[←Act.put_comm a v u h2];exact he⟩
       | .panicked c,he=>exact hQ _ _ _ he
       | .outgrown,he=>exact he
     | .ok (.row row args) w',h=>exact Rows.mono h fun u w'' he=>⟨keep a hy u,by rw[←Act.put_comm a v u h2];exact he⟩
     | .halt (.panic u) w',h=>exact hQ _ _ _ h
   · right
     exact ⟨by unfold Oper.asks at*;rw[execOp_put oj hsj a oi.dst v h1] at hasks;exact hasks,hlets⟩
theorem still_first {S:World→Prop} {i:Nat} {oi:Oper} {v:Value} (hi:ops[i]? =some oi) (hsel:∀(j:Nat) (o:Oper) cs b,ops[j]? =some o→o.op≠ .select cs b)
 (hQ:∀c a w,Q (.panic c) (a.put oi.dst v) w→Q (.panic c) a w):
 ∀(fuel:Nat) (listed:Array Bool) (a:Act) (w:World),
  (∀j oj,ops[j]? =some oj→j≠i→listed.getD j true=false→(∀e∈oj.after,Region.binds .any e=true→e.on≠i)→oi.apart ops oj=true)→
  i∈Region.ready .any ops listed→Still P ops S oi v a→S w→
  wpAnyH P .any ops Q S fuel (listed.setIfInBounds i true) (a.put oi.dst v) w→wpAnyH P .any ops Q S (fuel+1) listed a w
 | 0,listed,a,w,_,hr,hy,hS,H=>by
   refine ⟨fun h=>absurd hr (by rw[h];simp),fun j hj=>?_⟩
   by_cases hji:j=i
   · subst hji;exact hy.step hi hS ⟨hS,H⟩
   · exact absurd (ready_mono hj hji) (by rw[H.1];simp)
 | fuel+1,listed,a,w,hfree,hr,hy,hS,H=>by
   refine ⟨fun h=>absurd hr (by rw[h];simp),fun j hj=>?_⟩
   by_cases hji:j=i
   · subst hji;exact hy.step hi hS ⟨hS,H⟩
   have h1:=H.2 j (ready_mono hj hji)
   obtain ⟨hjun,oj,hoj,hall⟩:=mem_ready.1 hj
   have hnot:∀e∈oj.after,Region.binds .any e=true→e.on≠i:=fun e he hb heq=>by
    have h2:=hall e he hb
    have h0:=(mem_ready.1 hr).1
    rw[heq] at h2
    rcases Nat.lt_or_ge i listed.size with h' | h'
    · simp[h'] at h0 h2;rw[h0] at h2;cases h2
    · simp[Array.getElem?_eq_none h'] at h2
   refine wpOp_mono (fun a' w' h3=>⟨h3.2.1,still_first hi hsel hQ fuel (listed.setIfInBounds j true) a' w' (fun k ok hk hki hun hno=>hfree k ok hk hki ?_ hno) (ready_mono hr (Ne.symm hji)) h3.1 h3.2.1 ?_⟩)
    (hy.past hoj (hfree j oj hoj hji hjun hnot) (fun cs b=>hsel i oi cs b hi) (fun cs b=>hsel j oj cs b hoj) hQ h1)
   · by_cases hjk:j=k
     · subst hjk;exact hjun
     · rwa [getD_set_ne true hjk] at hun
   · rw[Array.setIfInBounds_comm _ _ hji];exact h3.2.2
end quiet
def wpOrd (P:Program) (ops:Array Oper) (Q:Exit→Act→World→Prop):List (Nat×Bool)→(World→Prop)→Act→World→Prop
 | [],_,a,w=>Q .normal a w
 | (i,true)::r,S,a,w=>∃o v,ops[i]? =some o∧Still P ops S o v a∧wpOrd P ops Q r S (a.put o.dst v) w
 | (i,false)::r,S,a,w=>wpOp P ops Q i (fun a' w' =>∃S' :World→Prop,(∀x,S' x→S x)∧S' w' ∧wpOrd P ops Q r S' a' w') a w
def ordOk (ops:Array Oper):List (Nat×Bool)→Array Bool→Bool
 | [],listed=>(Region.ready .any ops listed).isEmpty
 | (i,true)::r,listed=>Region.free .any ops listed i&&(Region.ready .any ops listed).contains i&&ordOk ops r (listed.setIfInBounds i true)
 | (i,false)::r,listed=>(Region.ready .any ops listed == [i])&&ordOk ops r (listed.setIfInBounds i true)
section
variable {P:Program} {ops:Array Oper} {Q:Exit→Act→World→Prop}
theorem wpAnyH_weaken {md:Region.Mode} {S S' :World→Prop} (h:∀x,S' x→S x):∀(fuel:Nat) (listed:Array Bool) (a:Act) (w:World),wpAnyH P md ops Q S' fuel listed a w→wpAnyH P md ops Q S fuel listed a w
 | 0,_,_,_,hh=>hh
 | fuel+1,_,_,_,hh=>⟨hh.1,fun i hi=>wpOp_mono (fun a' w' h' =>⟨h _ h'.1,wpAnyH_weaken h fuel _ a' w' h'.2⟩) (hh.2 i hi)⟩
theorem wpOrd_sound (hs:Region.noSelect ops=true) (hQ:∀c a d v w,Q (.panic c) (Act.put a d v) w→Q (.panic c) a w):
 ∀(ord:List (Nat×Bool)) (S:World→Prop) (fuel:Nat) (listed:Array Bool) (a:Act) (w:World),ord.length≤fuel→ordOk ops ord listed=true→S w→wpOrd P ops Q ord S a w→wpAnyH P .any ops Q S fuel listed a w
 | [],S,fuel,listed,a,w,_,hok,_,h=>wpAnyH_done (by simpa [ordOk] using hok) h fuel
 | (i,true)::r,S,0,listed,a,w,hl,_,_,_=>by simp at hl
 | (i,false)::r,S,0,listed,a,w,hl,_,_,_=>by simp at hl
 | (i,true)::r,S,fuel+1,listed,a,w,hl,hok,hS,h=>by
   obtain ⟨o,v,ho,hy,h'⟩:=h
   simp only[ordOk,Bool.and_eq_true] at hok
   exact still_first ho (Region.noSelect_spec hs) (fun c a w=>hQ c a o.dst v w) fuel listed a w (Region.free_spec ho hok.1.1) (by simpa using hok.1.2) hy hS (wpOrd_sound hs hQ r S fuel _ _ w (by simp at hl;omega) hok.2 hS h')
 | (i,false)::r,S,fuel+1,listed,a,w,hl,hok,hS,h=>by
   simp only[ordOk,Bool.and_eq_true,beq_iff_eq] at hok
   refine wpAnyH_all hok.1 (by simp) (fun j hj=>?_)
   obtain rfl:j=i:=by simpa using hj
   refine wpOp_mono (fun a' w' ⟨S',h1,h2,h3⟩=>⟨h1 _ h2,wpAnyH_weaken h1 _ _ _ _ (wpOrd_sound hs hQ r S' fuel _ a' w' (by simp at hl;omega) hok.2 h2 h3)⟩) h
theorem hQ_body {fn:Func} {R:Ending→World→Prop}:∀c a d v w,bodyPost P fn R (.panic c) (Act.put a d v) w→bodyPost P fn R (.panic c) a w:=fun c a d v w h=>by
 cases d<;>exact h
theorem wp_region_ord {id:Nat} {a:Act} {w:World} (ord:List (Nat×Bool)) (S:World→Prop) (hm:P.follows .mixedOrders=true) (hs:Region.noSelect ops=true) (hok:ordOk ops ord (Array.replicate ops.size false)=true) (hl:ord.length≤ops.size)
 (hQ:∀c a d v w,Q (.panic c) (Act.put a d v) w→Q (.panic c) a w) (hS:S w.drew) (h:∀ops',Hid (ops' =ops)→S w.drew→wpOrd P ops' Q ord S a w.drew):(Code.region id ops true).wp P Q a w:=
 wp_region_held hm (wpOrd_sound hs hQ ord S _ _ _ _ hl hok hS (h ops rfl hS))
def Wants (ops:Array Oper) (o:Oper) (t:Array Value) (b:Bool):Prop:=Region.wanted o (yielded ops t)=b
theorem Wants.plain {o:Oper} {t:Array Value} (hg:o.guard=none):Wants ops o t true:=by simp[Wants,Region.wanted,hg]
theorem yielded_of {oj:Oper} {t:Array Value} {j:Nat} {d:Tmp} {x:Bool} (hj:ops[j]? =some oj) (hd:oj.dst=some d) (ht:t.getD d undef= .bool x):yielded ops t j=some x:=by
 have ht' :t[d]? =some (.bool x):=by
  rw[Array.getD_eq_getD_getElem?] at ht
  cases h:t[d]? with
  | none=>rw[h] at ht;simp[undef] at ht
  | some u=>rw[h] at ht;simpa using ht
 simp[yielded,hj,hd,ht']
theorem Wants.yes {o oj:Oper} {t:Array Value} {j:Nat} {d:Tmp} {y:Bool} (hg:o.guard=some (j,y)) (hj:ops[j]? =some oj) (hd:oj.dst=some d) (ht:t.getD d undef= .bool y):Wants ops o t true:=by
 simp[Wants,Region.wanted,hg,yielded_of hj hd ht]
theorem Wants.no {o oj:Oper} {t:Array Value} {j:Nat} {d:Tmp} {y:Bool} (hg:o.guard=some (j,y)) (hj:ops[j]? =some oj) (hd:oj.dst=some d) (ht:t.getD d undef= .bool (!y)):Wants ops o t false:=by
 simp[Wants,Region.wanted,hg,yielded_of hj hd ht]
theorem Wants.undef {o oj:Oper} {t:Array Value} {j:Nat} {d:Tmp} {y:Bool} (hg:o.guard=some (j,y)) (hj:ops[j]? =some oj) (hd:oj.dst=some d) (ht:t.getD d Go.undef=Go.undef):Wants ops o t false:=by
 have:yielded ops t j=none:=by
  simp only[yielded,hj,hd,Option.bind_some]
  rw[Array.getD_eq_getD_getElem?] at ht
  cases h:t[d]? with
  | none=>simp
  | some u=>rw[h] at ht;simp at ht;subst ht;rfl
 simp[Wants,Region.wanted,hg,this]
theorem wpOrd_nil {S:World→Prop} {a:Act} {w:World} (h:Q .normal a w):wpOrd P ops Q [] S a w:=h
theorem wpOrd_free {i:Nat} {r:List (Nat×Bool)} {S:World→Prop} {a:Act} {w:World} (o:Oper) (v:Value) (ho:ops[i]? =some o) (hw:Wants ops o a.tmps true)
 (hy:∀x,S x→(execOp a.eval o).run P x= .ok (.value v) x) (h:wpOrd P ops Q r S (a.put o.dst v) w):wpOrd P ops Q ((i,true)::r) S a w:=
 ⟨o,v,ho,Or.inl ⟨hw,fun x hx=>Or.inl (hy x hx)⟩,h⟩
theorem wpOrd_skip {i:Nat} {r:List (Nat×Bool)} {S:World→Prop} {a:Act} {w:World} (o:Oper) (ho:ops[i]? =some o) (hw:Wants ops o a.tmps false)
 (h:wpOrd P ops Q r S (a.put o.dst undef) w):wpOrd P ops Q ((i,true)::r) S a w:=
 ⟨o,undef,ho,Or.inr ⟨hw,rfl⟩,h⟩
theorem wpOrd_call {i:Nat} {r:List (Nat×Bool)} {S:World→Prop} {a:Act} {w:World} (o:Oper) (v:Value) (f:FuncId) (args:Array Value) (ho:ops[i]? =some o) (hw:Wants ops o a.tmps true)
 (hy:∀x,S x→(execOp a.eval o).run P x= .ok (.enter f args) x) (hc:∀x,S x→Calls P f args x fun e w' =>e= .returned v∧w' =x) (h:wpOrd P ops Q r S (a.put o.dst v) w):wpOrd P ops Q ((i,true)::r) S a w:=
 ⟨o,v,ho,Or.inl ⟨hw,fun x hx=>Or.inr ⟨f,args,hy x hx,hc x hx⟩⟩,h⟩
theorem wpOrd_act {i:Nat} {r:List (Nat×Bool)} {S:World→Prop} {a:Act} {w:World} (o:Oper) (ho:ops[i]? =some o) (hw:Wants ops o a.tmps true)
 (h:∀K:Act→World→Prop,(∀a' w',(∃S' :World→Prop,(∀x,S' x→S x)∧S' w' ∧wpOrd P ops Q r S' a' w')→K a' w')→o.wp P a w K Q):wpOrd P ops Q ((i,false)::r) S a w:=by
 refine wpOp_step ho (fun K' hK=>?_)
 rw[if_pos (show Region.wanted o (yielded ops a.tmps)=true from hw)]
 exact h K' hK
theorem wpOrd_pass {i:Nat} {r:List (Nat×Bool)} {S:World→Prop} {a:Act} {w:World} (o:Oper) (ho:ops[i]? =some o) (hw:Wants ops o a.tmps false) (hS:S w)
 (h:wpOrd P ops Q r S (a.put o.dst undef) w):wpOrd P ops Q ((i,false)::r) S a w:=by
 refine wpOp_step ho (fun K' hK=>?_)
 rw[if_neg (by rw[show Region.wanted o (yielded ops a.tmps)=false from hw];simp)]
 exact hK _ _ ⟨S,fun _ h=>h,hS,h⟩
end
section
variable {P:Program} {ops ops0:Array Oper} {Q:Exit→Act→World→Prop}
theorem Wants.y {o oj:Oper} {t:Array Value} {j:Nat} {d:Tmp} {y:Bool} (hops:Hid (ops=ops0)) (hg:o.guard=some (j,y)) (hj:ops0[j]? =some oj) (hd:oj.dst=some d) (ht:t.getD d Go.undef= .bool y):Wants ops o t true:=Wants.yes hg (by rw[hops.out];exact hj) hd ht
theorem Wants.n {o oj:Oper} {t:Array Value} {j:Nat} {d:Tmp} {y:Bool} (hops:Hid (ops=ops0)) (hg:o.guard=some (j,y)) (hj:ops0[j]? =some oj) (hd:oj.dst=some d) (ht:t.getD d Go.undef= .bool (!y)):Wants ops o t false:=Wants.no hg (by rw[hops.out];exact hj) hd ht
theorem Wants.u {o oj:Oper} {t:Array Value} {j:Nat} {d:Tmp} {y:Bool} (hops:Hid (ops=ops0)) (hg:o.guard=some (j,y)) (hj:ops0[j]? =some oj) (hd:oj.dst=some d) (ht:t.getD d Go.undef=Go.undef):Wants ops o t false:=Wants.undef hg (by rw[hops.out];exact hj) hd ht
theorem oF {i:Nat} {r:List (Nat×Bool)} {S:World→Prop} {a:Act} {w:World} {o:Oper} {v:Value} (hops:Hid (ops=ops0)) (ho:ops0[i]? =some o) (hw:Wants ops o a.tmps true)
 (hy:∀x,S x→(execOp a.eval o).run P x= .ok (.value v) x) (h:wpOrd P ops Q r S (a.put o.dst v) w):wpOrd P ops Q ((i,true)::r) S a w:=wpOrd_free o v (by rw[hops.out];exact ho) hw hy h
theorem oS {i:Nat} {r:List (Nat×Bool)} {S:World→Prop} {a:Act} {w:World} {o:Oper} (hops:Hid (ops=ops0)) (ho:ops0[i]? =some o) (hw:Wants ops o a.tmps false)
 (h:wpOrd P ops Q r S (a.put o.dst undef) w):wpOrd P ops Q ((i,true)::r) S a w:=wpOrd_skip o (by rw[hops.out];exact ho) hw h
theorem oP {i:Nat} {r:List (Nat×Bool)} {S:World→Prop} {a:Act} {w:World} {o:Oper} (hops:Hid (ops=ops0)) (ho:ops0[i]? =some o) (hw:Wants ops o a.tmps false) (hS:S w)
 (h:wpOrd P ops Q r S (a.put o.dst undef) w):wpOrd P ops Q ((i,false)::r) S a w:=wpOrd_pass o (by rw[hops.out];exact ho) hw hS h
theorem oA {i:Nat} {r:List (Nat×Bool)} {S:World→Prop} {a:Act} {w:World} {o:Oper} (hops:Hid (ops=ops0)) (ho:ops0[i]? =some o) (hw:Wants ops o a.tmps true)
 (h:∀K:Act→World→Prop,(∀a' w',(∃S' :World→Prop,(∀x,S' x→S x)∧S' w' ∧wpOrd P ops Q r S' a' w')→K a' w')→o.wp P a w K Q):wpOrd P ops Q ((i,false)::r) S a w:=wpOrd_act o (by rw[hops.out];exact ho) hw h
end
set_option linter.unusedVariables false
def preDone (p:Nat) (listed:Array Bool):Bool:=(List.range p).all fun k=>listed.getD k false
def sufOk (ops:Array Oper) (p:Nat):Bool:=(List.range ops.size).all fun j=>decide (j<p) || match ops[j]? with
 | some o=>(List.range p).all fun k=>o.after.any fun e=>Region.binds .any e&&e.on == k
 | none=>true
section
variable {P:Program} {ops:Array Oper} {Q:Exit→Act→World→Prop}
theorem preDone_iff {p:Nat} {listed:Array Bool}:preDone p listed=true↔∀k,k<p→listed.getD k false=true:=by
 simp[preDone]
theorem suf_waits {p j:Nat} {listed:Array Bool} (hs:sufOk ops p=true) (hj:j∈Region.ready .any ops listed) (hp:¬j<p):preDone p listed=true:=by
 obtain ⟨_,o,ho,hall⟩:=mem_ready.1 hj
 rw[preDone_iff]
 intro k hk
 have hlt:j<ops.size:=(Array.getElem?_eq_some_iff.1 ho).1
 simp only[sufOk,List.all_eq_true,List.mem_range] at hs
 have h:=hs j hlt
 simp only[hp,decide_false,Bool.false_or,ho,List.all_eq_true,List.mem_range] at h
 obtain ⟨e,he,hb⟩:=Array.any_eq_true'.1 (h k hk)
 simp only[Bool.and_eq_true,beq_iff_eq] at hb
 have:=hall e he hb.1
 rwa [hb.2] at this
def wpAnyL (P:Program) (ops:Array Oper) (Q:Exit→Act→World→Prop) (S:World→Prop) (p:Nat) (G:Array Bool→Act→World→Prop):Nat→Array Bool→Act→World→Prop
 | 0,listed,a,w=>preDone p listed=true∧G listed a w
 | f+1,listed,a,w=>(preDone p listed=true∧G listed a w)∨(preDone p listed=false∧Region.ready .any ops listed≠[]∧∀i∈Region.ready .any ops listed,wpOp P ops Q i (fun a' w' =>S w' ∧wpAnyL P ops Q S p G f (listed.setIfInBounds i true) a' w') a w)
theorem wpAnyL_sound {S:World→Prop} {p k:Nat} {G:Array Bool→Act→World→Prop} (hG:∀listed a w fuel,k≤fuel→G listed a w→wpAny P .any ops Q fuel listed a w):
 ∀(f:Nat) (listed:Array Bool) (a:Act) (w:World),wpAnyL P ops Q S p G f listed a w→wpAny P .any ops Q (f+k) listed a w
 | 0,listed,a,w,h=>hG _ _ _ _ (by omega) h.2
 | f+1,listed,a,w,h=>by
   rcases h with h | ⟨_,hne,h⟩
   · exact hG _ _ _ _ (by omega) h.2
   · rw[show f+1+k=(f+k)+1 by omega]
     exact ⟨fun h0=>absurd h0 hne,fun i hi=>wpOp_mono (fun a' w' h' =>wpAnyL_sound hG f _ a' w' h'.2) (h i hi)⟩
theorem wpAnyL_weaken {S S' :World→Prop} {p:Nat} {G:Array Bool→Act→World→Prop} (h:∀x,S' x→S x):∀(f:Nat) (listed:Array Bool) (a:Act) (w:World),wpAnyL P ops Q S' p G f listed a w→wpAnyL P ops Q S p G f listed a w
 | 0,_,_,_,hh=>hh
 | f+1,_,_,_,hh=>hh.imp id (fun ⟨h1,h2,h3⟩=>⟨h1,h2,fun i hi=>wpOp_mono (fun a' w' h' =>⟨h _ h'.1,wpAnyL_weaken h f _ a' w' h'.2⟩) (h3 i hi)⟩)
theorem preDone_no {p i:Nat} {listed:Array Bool} (hi:i<p) (h:listed.getD i true=false):preDone p listed=false:=by
 rw[Bool.eq_false_iff]
 intro h'
 have:=preDone_iff.1 h' i hi
 rcases Nat.lt_or_ge i listed.size with hl | hl
 · simp[hl] at h this;rw[h] at this;cases this
 · simp[Array.getElem?_eq_none hl] at this
theorem wpAnyL_first {S:World→Prop} {p:Nat} {G:Array Bool→Act→World→Prop} (hsuf:sufOk ops p=true) {i:Nat} {oi:Oper} {v:Value} (hi:ops[i]? =some oi) (hip:i<p) (hsel:∀(j:Nat) (o:Oper) cs b,ops[j]? =some o→o.op≠ .select cs b)
 (hQ:∀c a w,Q (.panic c) (a.put oi.dst v) w→Q (.panic c) a w):
 ∀(f:Nat) (listed:Array Bool) (a:Act) (w:World),
  (∀j oj,ops[j]? =some oj→j≠i→listed.getD j true=false→(∀e∈oj.after,Region.binds .any e=true→e.on≠i)→oi.apart ops oj=true)→
  i∈Region.ready .any ops listed→YieldsIf P ops S oi v a→S w→
  wpAnyL P ops Q S p G f (listed.setIfInBounds i true) (a.put oi.dst v) w→wpAnyL P ops Q S p G (f+1) listed a w:=by
 intro f
 induction f with
 | zero=>
   intro listed a w hfree hr hy hS H
   have hun:=(mem_ready.1 hr).1
   refine Or.inr ⟨preDone_no hip hun,fun h=>(by rw[h] at hr;cases hr),fun j hj=>?_⟩
   by_cases hji:j=i
   · subst hji;exact hy.wpOp hi hS ⟨hS,H⟩
   · exfalso
     by_cases hjp:j<p
     · have h1:=preDone_iff.1 H.1 j hjp
       have h2:=(mem_ready.1 hj).1
       rw[getD_set_ne false (fun e=>hji e.symm)] at h1
       rcases Nat.lt_or_ge j listed.size with hl | hl
       · simp[hl] at h1 h2;rw[h2] at h1;cases h1
       · simp[Array.getElem?_eq_none hl] at h1
     · have:=suf_waits hsuf hj hjp
       rw[preDone_no hip hun] at this;cases this
 | succ f ih=>
   intro listed a w hfree hr hy hS H
   have hun:=(mem_ready.1 hr).1
   refine Or.inr ⟨preDone_no hip hun,fun h=>(by rw[h] at hr;cases hr),fun j hj=>?_⟩
   by_cases hji:j=i
   · subst hji;exact hy.wpOp hi hS ⟨hS,H⟩
   · have hjp:j<p:=by
      by_cases h:j<p
      · exact h
      · have:=suf_waits hsuf hj h
        rw[preDone_no hip hun] at this;cases this
     obtain ⟨hjun,oj,hoj,hall⟩:=mem_ready.1 hj
     have hjun' :(listed.setIfInBounds i true).getD j true=false:=by rw[getD_set_ne true (fun e=>hji e.symm)];exact hjun
     rcases H with H | ⟨_,_,H⟩
     · rw[preDone_no hjp hjun'] at H;cases H.1
     · have h1:=H j (ready_mono hj hji)
       have hnot:∀e∈oj.after,Region.binds .any e=true→e.on≠i:=fun e he hb heq=>by
        have h1:=hall e he hb
        rw[heq] at h1
        rcases Nat.lt_or_ge i listed.size with h' | h'
        · simp[h'] at hun h1;rw[hun] at h1;cases h1
        · simp[Array.getElem?_eq_none h'] at h1
       have h2:=wpOp_putIf hoj (hfree j oj hoj hji hjun hnot) (fun cs b=>hsel i oi cs b hi) (fun cs b=>hsel j oj cs b hoj) hQ hy h1
       have hfree' :∀k ok,ops[k]? =some ok→k≠i→(listed.setIfInBounds j true).getD k true=false→
        (∀e∈ok.after,Region.binds .any e=true→e.on≠i)→oi.apart ops ok=true:=fun k ok hk hki hun' hno=>by
        refine hfree k ok hk hki ?_ hno
        by_cases hjk:j=k
        · subst hjk;exact hjun
        · rw[getD_set_ne true hjk] at hun';exact hun'
       refine wpOp_mono (fun a' w' h3=>⟨h3.2.1,ih (listed.setIfInBounds j true) a' w' hfree' (ready_mono hr (Ne.symm hji)) h3.1 h3.2.1 ?_⟩) h2
       rw[Array.setIfInBounds_comm _ _ hji]
       exact h3.2.2
def wpOrdB (P:Program) (ops:Array Oper) (Q:Exit→Act→World→Prop) (ord2:List (Nat×Bool)):List (Nat×Bool)→(World→Prop)→Act→World→Prop
 | [],_,a,w=>∃S2:World→Prop,S2 w∧wpOrd P ops Q ord2 S2 a w
 | (i,true)::r,S,a,w=>∃o v,ops[i]? =some o∧YieldsIf P ops S o v a∧wpOrdB P ops Q ord2 r S (a.put o.dst v) w
 | (i,false)::r,S,a,w=>wpOp P ops Q i (fun a' w' =>∃S' :World→Prop,(∀x,S' x→S x)∧S' w' ∧wpOrdB P ops Q ord2 r S' a' w') a w
def ordOkB (ops:Array Oper) (p:Nat) (ord2:List (Nat×Bool)):List (Nat×Bool)→Array Bool→Bool
 | [],listed=>preDone p listed&&ordOk ops ord2 listed
 | (i,true)::r,listed=>decide (i<p)&&Region.free .any ops listed i&&(Region.ready .any ops listed).contains i&&ordOkB ops p ord2 r (listed.setIfInBounds i true)
 | (i,false)::r,listed=>!preDone p listed&&(Region.ready .any ops listed == [i])&&ordOkB ops p ord2 r (listed.setIfInBounds i true)
theorem wpOrdB_sound {p:Nat} (ord2:List (Nat×Bool)) (hsuf:sufOk ops p=true) (hs:Region.noSelect ops=true) (hQ:∀c a d v w,Q (.panic c) (Act.put a d v) w→Q (.panic c) a w):
 ∀(ord:List (Nat×Bool)) (S:World→Prop) (listed:Array Bool) (a:Act) (w:World),ordOkB ops p ord2 ord listed=true→S w→wpOrdB P ops Q ord2 ord S a w→
  wpAnyL P ops Q S p (fun l a w=>ordOk ops ord2 l=true∧∃S2:World→Prop,S2 w∧wpOrd P ops Q ord2 S2 a w) ord.length listed a w
 | [],S,listed,a,w,hok,hS,h=>by
   simp only[ordOkB,Bool.and_eq_true] at hok
   exact ⟨hok.1,hok.2,h⟩
 | (i,true)::r,S,listed,a,w,hok,hS,h=>by
   obtain ⟨o,v,ho,hy,h'⟩:=h
   simp only[ordOkB,Bool.and_eq_true,decide_eq_true_eq] at hok
   exact wpAnyL_first hsuf ho hok.1.1.1 (Region.noSelect_spec hs) (fun c a w=>hQ c a o.dst v w) r.length listed a w (Region.free_spec ho hok.1.1.2) (by simpa using hok.1.2) hy hS (wpOrdB_sound ord2 hsuf hs hQ r S _ _ w hok.2 hS h')
 | (i,false)::r,S,listed,a,w,hok,hS,h=>by
   simp only[ordOkB,Bool.and_eq_true,beq_iff_eq,Bool.not_eq_true'] at hok
   refine Or.inr ⟨hok.1.1,by rw[hok.1.2];simp,fun j hj=>?_⟩
   rw[hok.1.2] at hj
   obtain rfl:j=i:=by simpa using hj
   exact wpOp_mono (fun a' w' ⟨S',h1,h2,h3⟩=>⟨h1 _ h2,wpAnyL_weaken h1 _ _ _ _ (wpOrdB_sound ord2 hsuf hs hQ r S' _ a' w' hok.2 h2 h3)⟩) h
theorem wp_region_ord2 {id:Nat} {a:Act} {w:World} (p:Nat) (ord ord2:List (Nat×Bool)) (S:World→Prop) (hm:P.follows .mixedOrders=true) (hs:Region.noSelect ops=true) (hsuf:sufOk ops p=true)
 (hok:ordOkB ops p ord2 ord (Array.replicate ops.size false)=true) (hl:ord.length+ord2.length=ops.size)
 (hQ:∀c a d v w,Q (.panic c) (Act.put a d v) w→Q (.panic c) a w) (hS:S w.drew) (h:∀ops',Hid (ops' =ops)→S w.drew→wpOrdB P ops' Q ord2 ord S a w.drew):(Code.region id ops true).wp P Q a w:=by
 refine wp_region_any hm ?_
 rw[←hl]
 refine wpAnyL_sound (k:=ord2.length) (fun listed a w fuel hf hg=>?_) _ _ _ _ (wpOrdB_sound ord2 hsuf hs hQ ord S _ a w.drew (by rw[hl];exact hok) hS (h ops rfl hS))
 obtain ⟨h1,S2,h2,h3⟩:=hg
 exact wpAny_of_held _ _ _ _ (wpOrd_sound hs hQ ord2 S2 fuel listed a w hf h1 h2 h3)
theorem wpOrdB_nil {ord2:List (Nat×Bool)} {S:World→Prop} {a:Act} {w:World} (S2:World→Prop) (hS:S2 w) (h:wpOrd P ops Q ord2 S2 a w):wpOrdB P ops Q ord2 [] S a w:=⟨S2,hS,h⟩
theorem wpOrdB_free {ord2:List (Nat×Bool)} {i:Nat} {r:List (Nat×Bool)} {S:World→Prop} {a:Act} {w:World} (o:Oper) (v:Value) (ho:ops[i]? =some o) (hw:Wants ops o a.tmps true)
 (hy:∀x,S x→(execOp a.eval o).run P x= .ok (.value v) x) (h:wpOrdB P ops Q ord2 r S (a.put o.dst v) w):wpOrdB P ops Q ord2 ((i,true)::r) S a w:=
 ⟨o,v,ho,Or.inl ⟨hw,hy⟩,h⟩
theorem wpOrdB_act {ord2:List (Nat×Bool)} {i:Nat} {r:List (Nat×Bool)} {S:World→Prop} {a:Act} {w:World} (o:Oper) (ho:ops[i]? =some o) (hw:Wants ops o a.tmps true)
 (h:∀K:Act→World→Prop,(∀a' w',(∃S' :World→Prop,(∀x,S' x→S x)∧S' w' ∧wpOrdB P ops Q ord2 r S' a' w')→K a' w')→o.wp P a w K Q):wpOrdB P ops Q ord2 ((i,false)::r) S a w:=by
 refine wpOp_step ho (fun K' hK=>?_)
 rw[if_pos (show Region.wanted o (yielded ops a.tmps)=true from hw)]
 exact h K' hK
end
inductive OT where
 | line (l:List (Nat×Bool))
 | free (i:Nat) (t:OT)
 | one (i:Nat) (t:OT)
 | two (i:Nat) (t:OT) (j:Nat) (u:OT)
def OT.depth:OT→Nat
 | .line l=>l.length
 | .free _ t=>t.depth+1
 | .one _ t=>t.depth+1
 | .two _ t _ u=>max t.depth u.depth+1
def wpT (P:Program) (ops:Array Oper) (Q:Exit→Act→World→Prop):OT→(World→Prop)→Act→World→Prop
 | .line l,S,a,w=>wpOrd P ops Q l S a w
 | .free i t,S,a,w=>∃o v,ops[i]? =some o∧YieldsIf P ops S o v a∧wpT P ops Q t S (a.put o.dst v) w
 | .one i t,S,a,w=>wpOp P ops Q i (fun a' w' =>∃S' :World→Prop,(∀x,S' x→S x)∧S' w' ∧wpT P ops Q t S' a' w') a w
 | .two i t j u,S,a,w=>wpOp P ops Q i (fun a' w' =>∃S' :World→Prop,(∀x,S' x→S x)∧S' w' ∧wpT P ops Q t S' a' w') a w∧
  wpOp P ops Q j (fun a' w' =>∃S' :World→Prop,(∀x,S' x→S x)∧S' w' ∧wpT P ops Q u S' a' w') a w
def okT (ops:Array Oper):OT→Array Bool→Bool
 | .line l,listed=>ordOk ops l listed
 | .free i t,listed=>Region.free .any ops listed i&&(Region.ready .any ops listed).contains i&&okT ops t (listed.setIfInBounds i true)
 | .one i t,listed=>(Region.ready .any ops listed == [i])&&okT ops t (listed.setIfInBounds i true)
 | .two i t j u,listed=>(Region.ready .any ops listed == [i,j])&&okT ops t (listed.setIfInBounds i true)&&okT ops u (listed.setIfInBounds j true)
section
variable {P:Program} {ops:Array Oper} {Q:Exit→Act→World→Prop}
theorem wpT_sound (hs:Region.noSelect ops=true) (hQ:∀c a d v w,Q (.panic c) (Act.put a d v) w→Q (.panic c) a w):
 ∀(t:OT) (S:World→Prop) (fuel:Nat) (listed:Array Bool) (a:Act) (w:World),t.depth≤fuel→okT ops t listed=true→S w→wpT P ops Q t S a w→wpAnyH P .any ops Q S fuel listed a w
 | .line l,S,fuel,listed,a,w,hl,hok,hS,h=>wpOrd_sound hs hQ l S fuel listed a w hl hok hS h
 | .free i t,S,0,listed,a,w,hl,_,_,_=>by simp[OT.depth] at hl
 | .one i t,S,0,listed,a,w,hl,_,_,_=>by simp[OT.depth] at hl
 | .two i t j u,S,0,listed,a,w,hl,_,_,_=>by simp[OT.depth] at hl
 | .free i t,S,fuel+1,listed,a,w,hl,hok,hS,h=>by
   obtain ⟨o,v,ho,hy,h'⟩:=h
   simp only[okT,Bool.and_eq_true] at hok
   exact wpAnyH_take ho hs hok.1.1 hok.1.2 (fun c a w=>hQ c a o.dst v w) hy hS (wpT_sound hs hQ t S fuel _ _ w (by simp[OT.depth] at hl;omega) hok.2 hS h')
 | .one i t,S,fuel+1,listed,a,w,hl,hok,hS,h=>by
   simp only[okT,Bool.and_eq_true,beq_iff_eq] at hok
   refine wpAnyH_all hok.1 (by simp) (fun k hk=>?_)
   simp only[List.mem_cons,List.not_mem_nil,or_false] at hk
   subst hk
   exact wpOp_mono (fun a' w' ⟨S',h1,h2,h3⟩=>⟨h1 _ h2,wpAnyH_weaken h1 _ _ _ _ (wpT_sound hs hQ t S' fuel _ a' w' (by simp[OT.depth] at hl;omega) hok.2 h2 h3)⟩) h
 | .two i t j u,S,fuel+1,listed,a,w,hl,hok,hS,h=>by
   simp only[okT,Bool.and_eq_true,beq_iff_eq] at hok
   refine wpAnyH_all hok.1.1 (by simp) (fun k hk=>?_)
   simp only[List.mem_cons,List.not_mem_nil,or_false] at hk
   rcases hk with rfl | rfl
   · exact wpOp_mono (fun a' w' ⟨S',h1,h2,h3⟩=>⟨h1 _ h2,wpAnyH_weaken h1 _ _ _ _ (wpT_sound hs hQ t S' fuel _ a' w' (by simp[OT.depth] at hl;omega) hok.1.2 h2 h3)⟩) h.1
   · exact wpOp_mono (fun a' w' ⟨S',h1,h2,h3⟩=>⟨h1 _ h2,wpAnyH_weaken h1 _ _ _ _ (wpT_sound hs hQ u S' fuel _ a' w' (by simp[OT.depth] at hl;omega) hok.2 h2 h3)⟩) h.2
theorem wp_region_T {id:Nat} {a:Act} {w:World} (t:OT) (S:World→Prop) (hm:P.follows .mixedOrders=true) (hs:Region.noSelect ops=true) (hok:okT ops t (Array.replicate ops.size false)=true) (hl:t.depth≤ops.size)
 (hQ:∀c a d v w,Q (.panic c) (Act.put a d v) w→Q (.panic c) a w) (hS:S w.drew) (h:∀ops',Hid (ops' =ops)→S w.drew→wpT P ops' Q t S a w.drew):(Code.region id ops true).wp P Q a w:=
 wp_region_held hm (wpT_sound hs hQ t S _ _ _ _ hl hok hS (h ops rfl hS))
theorem wpT_line {l:List (Nat×Bool)} {S:World→Prop} {a:Act} {w:World} (h:wpOrd P ops Q l S a w):wpT P ops Q (.line l) S a w:=h
theorem wpT_free {i:Nat} {t:OT} {S:World→Prop} {a:Act} {w:World} (o:Oper) (v:Value) (ho:ops[i]? =some o) (hw:Wants ops o a.tmps true)
 (hy:∀x,S x→(execOp a.eval o).run P x= .ok (.value v) x) (h:wpT P ops Q t S (a.put o.dst v) w):wpT P ops Q (.free i t) S a w:=
 ⟨o,v,ho,Or.inl ⟨hw,hy⟩,h⟩
theorem wpT_one {i:Nat} {t:OT} {S:World→Prop} {a:Act} {w:World} (o:Oper) (ho:ops[i]? =some o) (hw:Wants ops o a.tmps true)
 (h:∀K:Act→World→Prop,(∀a' w',(∃S' :World→Prop,(∀x,S' x→S x)∧S' w' ∧wpT P ops Q t S' a' w')→K a' w')→o.wp P a w K Q):wpT P ops Q (.one i t) S a w:=by
 refine wpOp_step ho (fun K' hK=>?_)
 rw[if_pos (show Region.wanted o (yielded ops a.tmps)=true from hw)]
 exact h K' hK
theorem wpT_two {i j:Nat} {t u:OT} {S:World→Prop} {a:Act} {w:World} (o o' :Oper) (ho:ops[i]? =some o) (hw:Wants ops o a.tmps true) (ho' :ops[j]? =some o') (hw' :Wants ops o' a.tmps true)
 (h:∀K:Act→World→Prop,(∀a' w',(∃S' :World→Prop,(∀x,S' x→S x)∧S' w' ∧wpT P ops Q t S' a' w')→K a' w')→o.wp P a w K Q)
 (h' :∀K:Act→World→Prop,(∀a' w',(∃S' :World→Prop,(∀x,S' x→S x)∧S' w' ∧wpT P ops Q u S' a' w')→K a' w')→o'.wp P a w K Q):wpT P ops Q (.two i t j u) S a w:=by
 constructor
 · refine wpOp_step ho (fun K' hK=>?_)
   rw[if_pos (show Region.wanted o (yielded ops a.tmps)=true from hw)]
   exact h K' hK
 · refine wpOp_step ho' (fun K' hK=>?_)
   rw[if_pos (show Region.wanted o' (yielded ops a.tmps)=true from hw')]
   exact h' K' hK
end
def anc (ops:Array Oper):Nat→Nat→List Nat
 | 0,_=>[]
 | f+1,j=>match ops[j]? with
   | some o=>o.after.toList.flatMap fun e=>if Region.binds .any e then e.on::anc ops f e.on else []
   | none=>[]
def Closed (ops:Array Oper) (listed:Array Bool):Prop:=∀j o,listed.getD j false=true→ops[j]? =some o→∀e∈o.after,Region.binds .any e=true→listed.getD e.on false=true
def allOf (X:List Nat) (listed:Array Bool):Bool:=X.all fun k=>listed.getD k false
def waitsOk (ops:Array Oper) (X Z:List Nat):Bool:=(List.range ops.size).all fun j=>X.contains j || Z.contains j || X.all fun k=>(anc ops ops.size j).contains k
section
variable {P:Program} {ops:Array Oper} {Q:Exit→Act→World→Prop}
theorem anc_listed {listed:Array Bool} (hc:Closed ops listed):∀(f j:Nat),(∀o,ops[j]? =some o→∀e∈o.after,Region.binds .any e=true→listed.getD e.on false=true)→∀k∈anc ops f j,listed.getD k false=true
 | 0,_,_,k,hk=>by simp[anc] at hk
 | f+1,j,h,k,hk=>by
   unfold anc at hk
   cases ho:ops[j]? with
   | none=>rw[ho] at hk;simp at hk
   | some o=>
     rw[ho] at hk
     simp only[List.mem_flatMap,Array.mem_toList_iff] at hk
     obtain ⟨e,he,hk⟩:=hk
     split at hk
     · rename_i hb
       have h1:=h o ho e he hb
       rcases List.mem_cons.1 hk with rfl | hk
       · exact h1
       · exact anc_listed hc f e.on (fun o' ho' e' he' hb' =>hc e.on o' h1 ho' e' he' hb') k hk
     · simp at hk
theorem Closed.put {listed:Array Bool} (hc:Closed ops listed) {i:Nat} (hi:i∈Region.ready .any ops listed):Closed ops (listed.setIfInBounds i true):=by
 intro j o hj ho e he hb
 obtain ⟨_,o',ho',hall⟩:=mem_ready.1 hi
 by_cases hji:i=j
 · subst hji
   rw[ho] at ho'
   cases ho'
   exact getD_set_true (hall e he hb)
 · rw[getD_set_ne false hji] at hj
   exact getD_set_true (hc j o hj ho e he hb)
theorem heldOf_any:∀(fuel:Nat) (listed:Array Bool) (a:Act) (w:World),wpAny P .any ops Q fuel listed a w→wpAnyH P .any ops Q (fun _=>True) fuel listed a w
 | 0,_,_,_,h=>h
 | fuel+1,_,_,_,h=>⟨h.1,fun i hi=>wpOp_mono (fun a' w' h' =>⟨trivial,heldOf_any fuel _ a' w' h'⟩) (h.2 i hi)⟩
def heldY (P:Program) (ops:Array Oper) (Q:Exit→Act→World→Prop) (X:List Nat) (S:World→Prop):Nat→Array Bool→Act→World→Prop
 | 0,listed,a,w=>allOf X listed=true∧wpAny P .any ops Q 0 listed a w
 | f+1,listed,a,w=>(allOf X listed=true∧wpAny P .any ops Q (f+1) listed a w)∨
    (allOf X listed=false∧Region.ready .any ops listed≠[]∧∀i∈Region.ready .any ops listed,wpOp P ops Q i (fun a' w' =>S w' ∧heldY P ops Q X S f (listed.setIfInBounds i true) a' w') a w)
theorem any_of_heldY {X:List Nat} {S:World→Prop}:∀(f:Nat) (listed:Array Bool) (a:Act) (w:World),heldY P ops Q X S f listed a w→wpAny P .any ops Q f listed a w
 | 0,_,_,_,h=>h.2
 | f+1,_,_,_,h=>h.elim (·.2) fun h=>⟨fun e=>absurd e h.2.1,fun i hi=>wpOp_mono (fun a' w' h' =>any_of_heldY f _ a' w' h'.2) (h.2.2 i hi)⟩
theorem allOf_iff {X:List Nat} {listed:Array Bool}:allOf X listed=true↔∀k∈X,listed.getD k false=true:=by simp[allOf]
theorem unlisted {i:Nat} {listed:Array Bool} (hi:i∈Region.ready .any ops listed):listed.getD i false=false:=by
 have h:=(mem_ready.1 hi).1
 rcases Nat.lt_or_ge i listed.size with h' | h'
 · simp[h'] at h ⊢;exact h
 · simp[Array.getElem?_eq_none h'] at h
theorem first_heldYN {X Z:List Nat} {S:World→Prop} {i:Nat} {oi:Oper} {v:Value} (hok:waitsOk ops X Z=true) (hiX:i∈X) (hi:ops[i]? =some oi) (hsel:∀(j:Nat) (o:Oper) cs b,ops[j]? =some o→o.op≠ .select cs b)
 (hQ:∀c a w,Q (.panic c) (a.put oi.dst v) w→Q (.panic c) a w):
 ∀(fuel:Nat) (listed:Array Bool) (a:Act) (w:World),Closed ops listed→(∀k∈Z,listed.getD k false=true)→
  (∀j oj,ops[j]? =some oj→j≠i→listed.getD j true=false→(∀e∈oj.after,Region.binds .any e=true→e.on≠i)→oi.apart ops oj=true)→
  i∈Region.ready .any ops listed→Still P ops S oi v a→S w→
  heldY P ops Q X S fuel (listed.setIfInBounds i true) (a.put oi.dst v) w→heldY P ops Q X S (fuel+1) listed a w:=by
 intro fuel
 induction fuel with
 | zero=>
   intro listed a w hc hz hfree hr hy hS H
   have hun:=unlisted hr
   have hno:allOf X listed=false:=by
    cases h:allOf X listed
    · rfl
    · rw[allOf_iff.1 h i hiX] at hun;cases hun
   refine Or.inr ⟨hno,fun h=>absurd hr (by rw[h];simp),fun j hj=>?_⟩
   by_cases hji:j=i
   · subst hji;exact hy.step hi hS ⟨hS,H⟩
   · have:=ready_mono hj hji
     rw[H.2.1] at this;cases this
 | succ f ih=>
   intro listed a w hc hz hfree hr hy hS H
   have hun:=unlisted hr
   have hno:allOf X listed=false:=by
    cases h:allOf X listed
    · rfl
    · rw[allOf_iff.1 h i hiX] at hun;cases hun
   refine Or.inr ⟨hno,fun h=>absurd hr (by rw[h];simp),fun j hj=>?_⟩
   by_cases hji:j=i
   · subst hji;exact hy.step hi hS ⟨hS,H⟩
   have hjX:j∈X:=by
    obtain ⟨hjun,oj,hoj,hall⟩:=mem_ready.1 hj
    have hlt:j<ops.size:=(Array.getElem?_eq_some_iff.1 hoj).1
    simp only[waitsOk,List.all_eq_true,List.mem_range,Bool.or_eq_true,List.contains_iff_mem] at hok
    rcases hok j hlt with (h | h) | h
    · exact h
    · have h1:=hz j h
      have h2:=unlisted hj
      rw[h1] at h2;cases h2
    · have h2:=anc_listed hc ops.size j (fun o ho e he hb=>by rw[hoj] at ho;cases ho;exact hall e he hb) i (by simpa using h i hiX)
      rw[h2] at hun;cases hun
   rcases H with ⟨hall,_⟩ | ⟨_,_,H⟩
   · have h1:=allOf_iff.1 hall j hjX
     rw[getD_set_ne false (Ne.symm hji),unlisted hj] at h1;cases h1
   have h1:=H j (ready_mono hj hji)
   obtain ⟨hjun,oj,hoj,hall⟩:=mem_ready.1 hj
   have hnot:∀e∈oj.after,Region.binds .any e=true→e.on≠i:=fun e he hb heq=>by
    have h2:=hall e he hb
    rw[heq,hun] at h2;cases h2
   refine wpOp_mono (fun a' w' h3=>⟨h3.2.1,ih (listed.setIfInBounds j true) a' w' (hc.put hj) (fun k hk=>getD_set_true (hz k hk)) (fun k ok hk hki hun hno=>hfree k ok hk hki ?_ hno) (ready_mono hr (Ne.symm hji)) h3.1 h3.2.1 ?_⟩)
    (hy.past hoj (hfree j oj hoj hji hjun hnot) (fun cs b=>hsel i oi cs b hi) (fun cs b=>hsel j oj cs b hoj) hQ h1)
   · by_cases hjk:j=k
     · subst hjk;exact hjun
     · rwa [getD_set_ne true hjk] at hun
   · rw[Array.setIfInBounds_comm _ _ hji];exact h3.2.2
def wpT3N (P:Program) (ops:Array Oper) (Q:Exit→Act→World→Prop):List Nat→Act→World→Prop
 | [],a,w=>Q .normal a w
 | i::r,a,w=>wpOp P ops Q i (fun a' w' =>wpT3N P ops Q r a' w') a w
def wpX3N (P:Program) (ops:Array Oper) (Q:Exit→Act→World→Prop) (S:World→Prop) (T:List Nat):List Nat→Act→World→Prop
 | [],a,w=>wpT3N P ops Q T a w
 | i::r,a,w=>∃o v,ops[i]? =some o∧Still P ops S o v a∧wpX3N P ops Q S T r (a.put o.dst v) w
def wpA3N (P:Program) (ops:Array Oper) (Q:Exit→Act→World→Prop) (S:World→Prop) (T X:List Nat):List Nat→Act→World→Prop
 | [],a,w=>wpX3N P ops Q S T X a w
 | i::r,a,w=>∃o v,ops[i]? =some o∧Still P ops (fun _=>True) o v a∧wpA3N P ops Q S T X r (a.put o.dst v) w
def okT3 (ops:Array Oper):List Nat→Array Bool→Bool
 | [],listed=>(Region.ready .any ops listed).isEmpty
 | i::r,listed=>(Region.ready .any ops listed == [i])&&okT3 ops r (listed.setIfInBounds i true)
def okF3 (ops:Array Oper):List Nat→Array Bool→Bool
 | [],_=>true
 | i::r,listed=>Region.free .any ops listed i&&(Region.ready .any ops listed).contains i&&okF3 ops r (listed.setIfInBounds i true)
def putAll (l:List Nat) (listed:Array Bool):Array Bool:=l.foldl (fun s i=>s.setIfInBounds i true) listed
theorem t3_soundN:∀(T:List Nat) (fuel:Nat) (listed:Array Bool) (a:Act) (w:World),T.length≤fuel→okT3 ops T listed=true→wpT3N P ops Q T a w→wpAny P .any ops Q fuel listed a w
 | [],fuel,listed,a,w,_,hok,h=>wpAny_done (by simpa [okT3] using hok) h fuel
 | i::r,0,listed,a,w,hl,_,_=>by simp at hl
 | i::r,fuel+1,listed,a,w,hl,hok,h=>by
   simp only[okT3,Bool.and_eq_true,beq_iff_eq] at hok
   refine wpAny_all hok.1 (by simp) (fun j hj=>?_)
   obtain rfl:j=i:=by simpa using hj
   exact wpOp_mono (fun a' w' h' =>t3_soundN r fuel _ a' w' (by simp at hl;omega) hok.2 h') h
theorem x3_soundN {X0 Z T:List Nat} {S:World→Prop} (hwait:waitsOk ops X0 Z=true) (hs:Region.noSelect ops=true) (hQ:∀c a d v w,Q (.panic c) (Act.put a d v) w→Q (.panic c) a w):
 ∀(X:List Nat) (fuel:Nat) (listed:Array Bool) (a:Act) (w:World),X.length+T.length≤fuel→(∀i∈X,i∈X0)→Closed ops listed→(∀k∈Z,listed.getD k false=true)→okF3 ops X listed=true→allOf X0 (putAll X listed)=true→okT3 ops T (putAll X listed)=true→S w→
  wpX3N P ops Q S T X a w→heldY P ops Q X0 S fuel listed a w
 | [],fuel,listed,a,w,hl,_,_,_,_,hall,hT,hS,h=>by
   have:=t3_soundN (P:=P) (Q:=Q) T fuel listed a w (by simpa using hl) hT h
   cases fuel with
   | zero=>exact ⟨hall,this⟩
   | succ f=>exact Or.inl ⟨hall,this⟩
 | i::r,0,_,_,_,hl,_,_,_,_,_,_,_,_=>by simp at hl
 | i::r,fuel+1,listed,a,w,hl,hX,hc,hz,hok,hall,hT,hS,h=>by
   obtain ⟨o,v,ho,hy,h'⟩:=h
   simp only[okF3,Bool.and_eq_true] at hok
   have hr:i∈Region.ready .any ops listed:=by simpa using hok.1.2
   exact first_heldYN hwait (hX i (by simp)) ho (Region.noSelect_spec hs) (fun c a w=>hQ c a o.dst v w) fuel listed a w hc hz (Region.free_spec ho hok.1.1) hr hy hS
    (x3_soundN hwait hs hQ r fuel _ _ w (by simp at hl;omega) (fun k hk=>hX k (List.mem_cons_of_mem _ hk)) (hc.put hr) (fun k hk=>getD_set_true (hz k hk)) hok.2 hall hT hS h')
theorem a3_soundN {A0 X T:List Nat} {S:World→Prop} (hwait:waitsOk ops X A0=true) (hs:Region.noSelect ops=true) (hQ:∀c a d v w,Q (.panic c) (Act.put a d v) w→Q (.panic c) a w):
 ∀(A:List Nat) (fuel:Nat) (listed:Array Bool) (a:Act) (w:World),A.length+(X.length+T.length)≤fuel→Closed ops listed→okF3 ops A listed=true→(∀k∈A0,(putAll A listed).getD k false=true)→okF3 ops X (putAll A listed)=true→allOf X (putAll X (putAll A listed))=true→okT3 ops T (putAll X (putAll A listed))=true→S w→
  wpA3N P ops Q S T X A a w→wpAny P .any ops Q fuel listed a w
 | [],fuel,listed,a,w,hl,hc,_,hz,hokX,hall,hT,hS,h=>any_of_heldY fuel listed a w (x3_soundN hwait hs hQ X fuel listed a w (by simpa using hl) (fun _ h=>h) hc hz hokX hall hT hS h)
 | i::r,0,_,_,_,hl,_,_,_,_,_,_,_,_=>by simp at hl
 | i::r,fuel+1,listed,a,w,hl,hc,hok,hz,hokX,hall,hT,hS,h=>by
   obtain ⟨o,v,ho,hy,h'⟩:=h
   simp only[okF3,Bool.and_eq_true] at hok
   have hr:i∈Region.ready .any ops listed:=by simpa using hok.1.2
   exact wpAny_of_held _ _ _ _ (still_first ho (Region.noSelect_spec hs) (fun c a w=>hQ c a o.dst v w) fuel listed a w (Region.free_spec ho hok.1.1) hr hy trivial
    (heldOf_any _ _ _ _ (a3_soundN hwait hs hQ r fuel _ _ w (by simp at hl;omega) (hc.put hr) hok.2 hz hokX hall hT hS h')))
def ok3 (ops:Array Oper) (A X T:List Nat):Bool:=
 let l0:=Array.replicate ops.size false
 waitsOk ops X A&&Region.noSelect ops&&okF3 ops A l0&&A.all (fun k=>(putAll A l0).getD k false)&&okF3 ops X (putAll A l0)&&allOf X (putAll X (putAll A l0))&&okT3 ops T (putAll X (putAll A l0))&&decide (A.length+(X.length+T.length)≤ops.size)
theorem wp_region3 {id:Nat} {a:Act} {w:World} (A X T:List Nat) (S:World→Prop) (hm:P.follows .mixedOrders=true) (hok:ok3 ops A X T=true)
 (hQ:∀c a d v w,Q (.panic c) (Act.put a d v) w→Q (.panic c) a w) (hS:S w.drew) (h:∀ops',Hid (ops' =ops)→wpA3N P ops' Q S T X A a w.drew):(Code.region id ops true).wp P Q a w:=by
 simp only[ok3,Bool.and_eq_true,decide_eq_true_eq,List.all_eq_true] at hok
 obtain ⟨⟨⟨⟨⟨⟨⟨h1,h2⟩,h3⟩,h4⟩,h5⟩,h6⟩,h7⟩,h8⟩:=hok
 refine wp_region_any hm (a3_soundN h1 h2 hQ A _ _ _ _ h8 (fun j o hj=>?_) h3 h4 h5 h6 h7 hS (h ops rfl))
 rw[Array.getD_eq_getD_getElem?,Array.getElem?_replicate] at hj
 split at hj<;>simp at hj
theorem wpA3N_nil {S:World→Prop} {T X:List Nat} {a:Act} {w:World} (h:wpX3N P ops Q S T X a w):wpA3N P ops Q S T X [] a w:=h
theorem wpX3N_nil {S:World→Prop} {T:List Nat} {a:Act} {w:World} (h:wpT3N P ops Q T a w):wpX3N P ops Q S T [] a w:=h
theorem wpT3N_nil {a:Act} {w:World} (h:Q .normal a w):wpT3N P ops Q [] a w:=h
theorem wpA3N_free {i:Nat} {r T X:List Nat} {S:World→Prop} {a:Act} {w:World} (o:Oper) (v:Value) (ho:ops[i]? =some o) (hw:Wants ops o a.tmps true)
 (hy:∀x:World,True→(execOp a.eval o).run P x= .ok (.value v) x) (h:wpA3N P ops Q S T X r (a.put o.dst v) w):wpA3N P ops Q S T X (i::r) a w:=⟨o,v,ho,Or.inl ⟨hw,fun x hx=>Or.inl (hy x hx)⟩,h⟩
theorem wpX3N_free {i:Nat} {r T:List Nat} {S:World→Prop} {a:Act} {w:World} (o:Oper) (v:Value) (ho:ops[i]? =some o) (hw:Wants ops o a.tmps true)
 (hy:∀x,S x→(execOp a.eval o).run P x= .ok (.value v) x) (h:wpX3N P ops Q S T r (a.put o.dst v) w):wpX3N P ops Q S T (i::r) a w:=⟨o,v,ho,Or.inl ⟨hw,fun x hx=>Or.inl (hy x hx)⟩,h⟩
theorem wpT3N_act {i:Nat} {r:List Nat} {a:Act} {w:World} (o:Oper) (ho:ops[i]? =some o) (hw:Wants ops o a.tmps true)
 (h:∀K:Act→World→Prop,(∀a' w',wpT3N P ops Q r a' w' →K a' w')→o.wp P a w K Q):wpT3N P ops Q (i::r) a w:=by
 refine wpOp_step ho (fun K' hK=>?_)
 rw[if_pos (show Region.wanted o (yielded ops a.tmps)=true from hw)]
 exact h K' hK
end
section
variable {F:Fence} {n:Nat} {P:Program} {ops:Array Oper} {Q:Exit→Act→World→Prop}
theorem yieldsIf_stepIn {S:World→Prop} {i:Nat} {o:Oper} {v:Value} {a:Act} (hro:F.round=none) (hF:∀f,F.fn f) (hi:ops[i]? =some o) (h:YieldsIf P ops S o v a) {K:Act→World→Prop} {w:World} (hS:S w) (hK:K (a.put o.dst v) w):wpOpIn F n P ops Q i K a w:=by
 refine wpOpIn_step hi (fun K' hK' =>?_)
 rcases h with ⟨hw,hv⟩ | ⟨hw,rfl⟩
 · rw[if_pos hw]
   unfold Oper.wpIn
   refine ⟨fun f _=>hF f,?_⟩
   rw[hro,Oper.semAt_none,hv w hS]
   exact hK' _ _ hK
 · rw[hw];exact ⟨fun f _=>hF f,hK' _ _ hK⟩
theorem yieldsIf_pastIn {S:World→Prop} {j:Nat} {oi oj:Oper} {v:Value} (hro:F.round=none) (hF:∀f,F.fn f) (hj:ops[j]? =some oj) (hap:oi.apart ops oj=true) (hsi:∀cs b,oi.op≠ .select cs b) (hsj:∀cs b,oj.op≠ .select cs b)
 (hQ:∀c a w,Q (.panic c) (a.put oi.dst v) w→Q (.panic c) a w) {K:Act→World→Prop} {a:Act} {w:World} (hy:YieldsIf P ops S oi v a) (h:wpOpIn F n P ops Q j K (a.put oi.dst v) w):
 wpOpIn F n P ops Q j (fun a' w' =>YieldsIf P ops S oi v a' ∧K (a'.put oi.dst v) w') a w:=by
 obtain ⟨h1,h2,h3⟩:=Oper.apart_spec hap
 have keep:∀(b:Act),YieldsIf P ops S oi v b→∀u,YieldsIf P ops S oi v (b.put oj.dst u):=fun b hb u=>hb.of_same (execOp_put oi hsi b oj.dst u h3) (wanted_put oi b oj.dst u h3)
 have keepD:∀d,YieldsIf P ops S oi v {a with defers:=d::a.defers}:=fun d=>hy.of_same rfl rfl
 unfold wpOpIn at*
 simp only[hj] at*
 rw[wanted_put oj a oi.dst v h1] at h
 cases hw:Region.wanted oj (yielded ops a.tmps)
 · simp only[hw,Bool.false_eq_true,if_false] at h ⊢
   exact ⟨fun f _=>hF f,keep a hy _,by rw[←Act.put_comm a v undef h2];exact h.2⟩
 · simp only[hw,if_true] at h ⊢
   unfold Oper.wpIn at*
   refine ⟨fun f _=>hF f,?_⟩
   have h:=h.2
   rw[hro,Oper.semAt_none,execOp_put oj hsj a oi.dst v h1] at h
   rw[hro,Oper.semAt_none]
   generalize (execOp a.eval oj).run P w=r at*
   match r,h with
   | .ok (.value u) w',h=>exact ⟨keep a hy u,by rw[←Act.put_comm a v u h2];exact h⟩
   | .ok .skip w',h=>exact ⟨keep a hy _,by rw[←Act.put_comm a v undef h2];exact h⟩
   | .ok (.defer d) w',h=>
     refine ⟨keep _ (keepD d) _,?_⟩
     rw[←Act.put_comm _ v undef h2,←Act.put_defers]
     exact h
   | .ok (.enter f args) w',h=>
     refine ⟨h.1,CallsIn.mono h.2 fun e w'' he=>?_⟩
     match e,he with
     | .returned u,he=>exact ⟨keep a hy u,by rw[←Act.put_comm a v u h2];exact he⟩
     | .panicked c,he=>exact hQ _ _ _ he
     | .outgrown,he=>exact he
   | .ok (.row row args) w',h=>exact ⟨h.1,RowsIn.mono h.2 fun u w'' he=>⟨keep a hy u,by rw[←Act.put_comm a v u h2];exact he⟩⟩
   | .ok (.round l f tmps assign body) w',h=>
     refine ⟨h.1,RoundIn.mono h.2 fun e w'' he=>?_⟩
     match e,he with
     | .returned u,he=>exact ⟨keep a hy u,by rw[←Act.put_comm a v u h2];exact he⟩
     | .panicked c,he=>exact hQ _ _ _ he
     | .outgrown,he=>exact he
   | .halt (.panic u) w',h=>exact hQ _ _ _ h
def anyHIn (F:Fence) (n:Nat) (P:Program) (ops:Array Oper) (Q:Exit→Act→World→Prop) (S:World→Prop):Nat→Array Bool→Act→World→Prop
 | 0,listed,a,w=>Region.ready .any ops listed=[]∧Q .normal a w
 | fuel+1,listed,a,w=>(Region.ready .any ops listed=[]→Q .normal a w)∧∀i∈Region.ready .any ops listed,wpOpIn F n P ops Q i (fun a' w' =>S w' ∧anyHIn F n P ops Q S fuel (listed.setIfInBounds i true) a' w') a w
theorem anyIn_of_held {S:World→Prop}:∀(fuel:Nat) (listed:Array Bool) (a:Act) (w:World),anyHIn F n P ops Q S fuel listed a w→wpAnyIn F n P .any ops Q fuel listed a w
 | 0,_,_,_,h=>h
 | fuel+1,_,_,_,h=>⟨h.1,fun i hi=>wpOpIn_mono (fun a' w' h' =>anyIn_of_held fuel _ a' w' h'.2) (h.2 i hi)⟩
theorem anyHIn_weaken {S S' :World→Prop} (h:∀x,S' x→S x):∀(fuel:Nat) (listed:Array Bool) (a:Act) (w:World),anyHIn F n P ops Q S' fuel listed a w→anyHIn F n P ops Q S fuel listed a w
 | 0,_,_,_,hh=>hh
 | fuel+1,_,_,_,hh=>⟨hh.1,fun i hi=>wpOpIn_mono (fun a' w' h' =>⟨h _ h'.1,anyHIn_weaken h fuel _ a' w' h'.2⟩) (hh.2 i hi)⟩
theorem first_heldIn {S:World→Prop} {i:Nat} {oi:Oper} {v:Value} (hro:F.round=none) (hF:∀f,F.fn f) (hi:ops[i]? =some oi) (hsel:∀(j:Nat) (o:Oper) cs b,ops[j]? =some o→o.op≠ .select cs b)
 (hQ:∀c a w,Q (.panic c) (a.put oi.dst v) w→Q (.panic c) a w):
 ∀(fuel:Nat) (listed:Array Bool) (a:Act) (w:World),
  (∀j oj,ops[j]? =some oj→j≠i→listed.getD j true=false→(∀e∈oj.after,Region.binds .any e=true→e.on≠i)→oi.apart ops oj=true)→
  i∈Region.ready .any ops listed→YieldsIf P ops S oi v a→S w→
  anyHIn F n P ops Q S fuel (listed.setIfInBounds i true) (a.put oi.dst v) w→anyHIn F n P ops Q S (fuel+1) listed a w
 | 0,listed,a,w,_,hr,hy,hS,H=>by
   refine ⟨fun h=>absurd hr (by rw[h];simp),fun j hj=>?_⟩
   by_cases hji:j=i
   · subst hji;exact yieldsIf_stepIn hro hF hi hy hS ⟨hS,H⟩
   · exact absurd (ready_mono hj hji) (by rw[H.1];simp)
 | fuel+1,listed,a,w,hfree,hr,hy,hS,H=>by
   refine ⟨fun h=>absurd hr (by rw[h];simp),fun j hj=>?_⟩
   by_cases hji:j=i
   · subst hji;exact yieldsIf_stepIn hro hF hi hy hS ⟨hS,H⟩
   have h1:=H.2 j (ready_mono hj hji)
   obtain ⟨hjun,oj,hoj,hall⟩:=mem_ready.1 hj
   have hnot:∀e∈oj.after,Region.binds .any e=true→e.on≠i:=fun e he hb heq=>by
    have h2:=hall e he hb
    have h0:=(mem_ready.1 hr).1
    rw[heq] at h2
    rcases Nat.lt_or_ge i listed.size with h' | h'
    · simp[h'] at h0 h2;rw[h0] at h2;cases h2
    · simp[Array.getElem?_eq_none h'] at h2
   refine wpOpIn_mono (fun a' w' h3=>⟨h3.2.1,first_heldIn hro hF hi hsel hQ fuel (listed.setIfInBounds j true) a' w' (fun k ok hk hki hun hno=>hfree k ok hk hki ?_ hno) (ready_mono hr (Ne.symm hji)) h3.1 h3.2.1 ?_⟩)
    (yieldsIf_pastIn hro hF hoj (hfree j oj hoj hji hjun hnot) (fun cs b=>hsel i oi cs b hi) (fun cs b=>hsel j oj cs b hoj) hQ hy h1)
   · by_cases hjk:j=k
     · subst hjk;exact hjun
     · rwa [getD_set_ne true hjk] at hun
   · rw[Array.setIfInBounds_comm _ _ hji];exact h3.2.2
def wpOrdIn (F:Fence) (n:Nat) (P:Program) (ops:Array Oper) (Q:Exit→Act→World→Prop):List (Nat×Bool)→(World→Prop)→Act→World→Prop
 | [],_,a,w=>Q .normal a w
 | (i,true)::r,S,a,w=>∃o v,ops[i]? =some o∧YieldsIf P ops S o v a∧wpOrdIn F n P ops Q r S (a.put o.dst v) w
 | (i,false)::r,S,a,w=>wpOpIn F n P ops Q i (fun a' w' =>∃S' :World→Prop,(∀x,S' x→S x)∧S' w' ∧wpOrdIn F n P ops Q r S' a' w') a w
theorem wpOrdIn_sound (hro:F.round=none) (hF:∀f,F.fn f) (hs:Region.noSelect ops=true) (hQ:∀c a d v w,Q (.panic c) (Act.put a d v) w→Q (.panic c) a w):
 ∀(ord:List (Nat×Bool)) (S:World→Prop) (fuel:Nat) (listed:Array Bool) (a:Act) (w:World),ord.length≤fuel→ordOk ops ord listed=true→S w→wpOrdIn F n P ops Q ord S a w→anyHIn F n P ops Q S fuel listed a w
 | [],S,0,listed,a,w,_,hok,_,h=>⟨by simpa [ordOk] using hok,h⟩
 | [],S,fuel+1,listed,a,w,_,hok,_,h=>by
   have e:Region.ready .any ops listed=[]:=by simpa [ordOk] using hok
   exact ⟨fun _=>h,fun i hi=>by rw[e] at hi;cases hi⟩
 | (i,true)::r,S,0,listed,a,w,hl,_,_,_=>by simp at hl
 | (i,false)::r,S,0,listed,a,w,hl,_,_,_=>by simp at hl
 | (i,true)::r,S,fuel+1,listed,a,w,hl,hok,hS,h=>by
   obtain ⟨o,v,ho,hy,h'⟩:=h
   simp only[ordOk,Bool.and_eq_true] at hok
   exact first_heldIn hro hF ho (Region.noSelect_spec hs) (fun c a w=>hQ c a o.dst v w) fuel listed a w (Region.free_spec ho hok.1.1) (by simpa using hok.1.2) hy hS (wpOrdIn_sound hro hF hs hQ r S fuel _ _ w (by simp at hl;omega) hok.2 hS h')
 | (i,false)::r,S,fuel+1,listed,a,w,hl,hok,hS,h=>by
   simp only[ordOk,Bool.and_eq_true,beq_iff_eq] at hok
   refine ⟨fun h0=>absurd (hok.1.symm.trans h0) (by simp),fun j hj=>?_⟩
   obtain rfl:j=i:=by rw[hok.1] at hj;simpa using hj
   refine wpOpIn_mono (fun a' w' ⟨S',h1,h2,h3⟩=>⟨h1 _ h2,anyHIn_weaken h1 _ _ _ _ (wpOrdIn_sound hro hF hs hQ r S' fuel _ a' w' (by simp at hl;omega) hok.2 h2 h3)⟩) h
theorem wpIn_region_ord {id:Nat} {a:Act} {w:World} (hro:F.round=none) (hF:∀f,F.fn f) (ord:List (Nat×Bool)) (S:World→Prop) (hm:P.follows .mixedOrders=true) (hs:Region.noSelect ops=true) (hok:ordOk ops ord (Array.replicate ops.size false)=true) (hl:ord.length≤ops.size)
 (hQ:∀c a d v w,Q (.panic c) (Act.put a d v) w→Q (.panic c) a w) (hS:S w.drew) (h:∀ops',Hid (ops' =ops)→S w.drew→wpOrdIn F n P ops' Q ord S a w.drew):(Code.region id ops true).wpIn F n P Q a w:=
 wpIn_region_any hm (anyIn_of_held _ _ _ _ (wpOrdIn_sound hro hF hs hQ ord S _ _ _ _ hl hok hS (h ops rfl hS)))
theorem wpOrdIn_nil {S:World→Prop} {a:Act} {w:World} (h:Q .normal a w):wpOrdIn F n P ops Q [] S a w:=h
theorem wpOrdIn_free {i:Nat} {r:List (Nat×Bool)} {S:World→Prop} {a:Act} {w:World} (o:Oper) (v:Value) (ho:ops[i]? =some o) (hw:Wants ops o a.tmps true)
 (hy:∀x,S x→(execOp a.eval o).run P x= .ok (.value v) x) (h:wpOrdIn F n P ops Q r S (a.put o.dst v) w):wpOrdIn F n P ops Q ((i,true)::r) S a w:=
 ⟨o,v,ho,Or.inl ⟨hw,hy⟩,h⟩
theorem wpOrdIn_act {i:Nat} {r:List (Nat×Bool)} {S:World→Prop} {a:Act} {w:World} (o:Oper) (ho:ops[i]? =some o) (hw:Wants ops o a.tmps true)
 (h:∀K:Act→World→Prop,(∀a' w',(∃S' :World→Prop,(∀x,S' x→S x)∧S' w' ∧wpOrdIn F n P ops Q r S' a' w')→K a' w')→o.wpIn F n P a w K Q):wpOrdIn F n P ops Q ((i,false)::r) S a w:=by
 refine wpOpIn_step ho (fun K' hK=>?_)
 rw[if_pos (show Region.wanted o (yielded ops a.tmps)=true from hw)]
 exact h K' hK
end
section
variable {F:Fence} {n:Nat} {P:Program} {ops:Array Oper} {Q:Exit→Act→World→Prop}
theorem held_of_any:∀(fuel:Nat) (listed:Array Bool) (a:Act) (w:World),wpAnyIn F n P .any ops Q fuel listed a w→anyHIn F n P ops Q (fun _=>True) fuel listed a w
 | 0,_,_,_,h=>h
 | fuel+1,_,_,_,h=>⟨h.1,fun i hi=>wpOpIn_mono (fun a' w' h' =>⟨trivial,held_of_any fuel _ a' w' h'⟩) (h.2 i hi)⟩
def heldX (F:Fence) (n:Nat) (P:Program) (ops:Array Oper) (Q:Exit→Act→World→Prop) (X:List Nat) (S:World→Prop):Nat→Array Bool→Act→World→Prop
 | 0,listed,a,w=>allOf X listed=true∧wpAnyIn F n P .any ops Q 0 listed a w
 | f+1,listed,a,w=>(allOf X listed=true∧wpAnyIn F n P .any ops Q (f+1) listed a w)∨
    (allOf X listed=false∧Region.ready .any ops listed≠[]∧∀i∈Region.ready .any ops listed,wpOpIn F n P ops Q i (fun a' w' =>S w' ∧heldX F n P ops Q X S f (listed.setIfInBounds i true) a' w') a w)
theorem any_of_heldX {X:List Nat} {S:World→Prop}:∀(f:Nat) (listed:Array Bool) (a:Act) (w:World),heldX F n P ops Q X S f listed a w→wpAnyIn F n P .any ops Q f listed a w
 | 0,_,_,_,h=>h.2
 | f+1,_,_,_,h=>h.elim (·.2) fun h=>⟨fun e=>absurd e h.2.1,fun i hi=>wpOpIn_mono (fun a' w' h' =>any_of_heldX f _ a' w' h'.2) (h.2.2 i hi)⟩
theorem first_heldX {X Z:List Nat} {S:World→Prop} {i:Nat} {oi:Oper} {v:Value} (hro:F.round=none) (hF:∀f,F.fn f) (hok:waitsOk ops X Z=true) (hiX:i∈X) (hi:ops[i]? =some oi) (hsel:∀(j:Nat) (o:Oper) cs b,ops[j]? =some o→o.op≠ .select cs b)
 (hQ:∀c a w,Q (.panic c) (a.put oi.dst v) w→Q (.panic c) a w):
 ∀(fuel:Nat) (listed:Array Bool) (a:Act) (w:World),Closed ops listed→(∀k∈Z,listed.getD k false=true)→
  (∀j oj,ops[j]? =some oj→j≠i→listed.getD j true=false→(∀e∈oj.after,Region.binds .any e=true→e.on≠i)→oi.apart ops oj=true)→
  i∈Region.ready .any ops listed→YieldsIf P ops S oi v a→S w→
  heldX F n P ops Q X S fuel (listed.setIfInBounds i true) (a.put oi.dst v) w→heldX F n P ops Q X S (fuel+1) listed a w:=by
 intro fuel
 induction fuel with
 | zero=>
   intro listed a w hc hz hfree hr hy hS H
   have hun:=unlisted hr
   have hno:allOf X listed=false:=by
    cases h:allOf X listed
    · rfl
    · rw[allOf_iff.1 h i hiX] at hun;cases hun
   refine Or.inr ⟨hno,fun h=>absurd hr (by rw[h];simp),fun j hj=>?_⟩
   by_cases hji:j=i
   · subst hji;exact yieldsIf_stepIn hro hF hi hy hS ⟨hS,H⟩
   · have:=ready_mono hj hji
     rw[H.2.1] at this;cases this
 | succ f ih=>
   intro listed a w hc hz hfree hr hy hS H
   have hun:=unlisted hr
   have hno:allOf X listed=false:=by
    cases h:allOf X listed
    · rfl
    · rw[allOf_iff.1 h i hiX] at hun;cases hun
   refine Or.inr ⟨hno,fun h=>absurd hr (by rw[h];simp),fun j hj=>?_⟩
   by_cases hji:j=i
   · subst hji;exact yieldsIf_stepIn hro hF hi hy hS ⟨hS,H⟩
   have hjX:j∈X:=by
    obtain ⟨hjun,oj,hoj,hall⟩:=mem_ready.1 hj
    have hlt:j<ops.size:=(Array.getElem?_eq_some_iff.1 hoj).1
    simp only[waitsOk,List.all_eq_true,List.mem_range,Bool.or_eq_true,List.contains_iff_mem] at hok
    rcases hok j hlt with (h | h) | h
    · exact h
    · have h1:=hz j h
      have h2:=unlisted hj
      rw[h1] at h2;cases h2
    · have h2:=anc_listed hc ops.size j (fun o ho e he hb=>by rw[hoj] at ho;cases ho;exact hall e he hb) i (by simpa using h i hiX)
      rw[h2] at hun;cases hun
   rcases H with ⟨hall,_⟩ | ⟨_,_,H⟩
   · have h1:=allOf_iff.1 hall j hjX
     rw[getD_set_ne false (Ne.symm hji),unlisted hj] at h1;cases h1
   have h1:=H j (ready_mono hj hji)
   obtain ⟨hjun,oj,hoj,hall⟩:=mem_ready.1 hj
   have hnot:∀e∈oj.after,Region.binds .any e=true→e.on≠i:=fun e he hb heq=>by
    have h2:=hall e he hb
    rw[heq,hun] at h2;cases h2
   refine wpOpIn_mono (fun a' w' h3=>⟨h3.2.1,ih (listed.setIfInBounds j true) a' w' (hc.put hj) (fun k hk=>getD_set_true (hz k hk)) (fun k ok hk hki hun hno=>hfree k ok hk hki ?_ hno) (ready_mono hr (Ne.symm hji)) h3.1 h3.2.1 ?_⟩)
    (yieldsIf_pastIn hro hF hoj (hfree j oj hoj hji hjun hnot) (fun cs b=>hsel i oi cs b hi) (fun cs b=>hsel j oj cs b hoj) hQ hy h1)
   · by_cases hjk:j=k
     · subst hjk;exact hjun
     · rwa [getD_set_ne true hjk] at hun
   · rw[Array.setIfInBounds_comm _ _ hji];exact h3.2.2
def wpT3 (F:Fence) (n:Nat) (P:Program) (ops:Array Oper) (Q:Exit→Act→World→Prop):List Nat→Act→World→Prop
 | [],a,w=>Q .normal a w
 | i::r,a,w=>wpOpIn F n P ops Q i (fun a' w' =>wpT3 F n P ops Q r a' w') a w
def wpX3 (F:Fence) (n:Nat) (P:Program) (ops:Array Oper) (Q:Exit→Act→World→Prop) (S:World→Prop) (T:List Nat):List Nat→Act→World→Prop
 | [],a,w=>wpT3 F n P ops Q T a w
 | i::r,a,w=>∃o v,ops[i]? =some o∧YieldsIf P ops S o v a∧wpX3 F n P ops Q S T r (a.put o.dst v) w
def wpA3 (F:Fence) (n:Nat) (P:Program) (ops:Array Oper) (Q:Exit→Act→World→Prop) (S:World→Prop) (T X:List Nat):List Nat→Act→World→Prop
 | [],a,w=>wpX3 F n P ops Q S T X a w
 | i::r,a,w=>∃o v,ops[i]? =some o∧YieldsIf P ops (fun _=>True) o v a∧wpA3 F n P ops Q S T X r (a.put o.dst v) w
theorem t3_sound:∀(T:List Nat) (fuel:Nat) (listed:Array Bool) (a:Act) (w:World),T.length≤fuel→okT3 ops T listed=true→wpT3 F n P ops Q T a w→wpAnyIn F n P .any ops Q fuel listed a w
 | [],fuel,listed,a,w,_,hok,h=>wpAnyIn_done (by simpa [okT3] using hok) h fuel
 | i::r,0,listed,a,w,hl,_,_=>by simp at hl
 | i::r,fuel+1,listed,a,w,hl,hok,h=>by
   simp only[okT3,Bool.and_eq_true,beq_iff_eq] at hok
   refine wpAnyIn_all hok.1 (by simp) (fun j hj=>?_)
   obtain rfl:j=i:=by simpa using hj
   exact wpOpIn_mono (fun a' w' h' =>t3_sound r fuel _ a' w' (by simp at hl;omega) hok.2 h') h
theorem x3_sound {X0 Z T:List Nat} {S:World→Prop} (hro:F.round=none) (hF:∀f,F.fn f) (hwait:waitsOk ops X0 Z=true) (hs:Region.noSelect ops=true) (hQ:∀c a d v w,Q (.panic c) (Act.put a d v) w→Q (.panic c) a w):
 ∀(X:List Nat) (fuel:Nat) (listed:Array Bool) (a:Act) (w:World),X.length+T.length≤fuel→(∀i∈X,i∈X0)→Closed ops listed→(∀k∈Z,listed.getD k false=true)→okF3 ops X listed=true→allOf X0 (putAll X listed)=true→okT3 ops T (putAll X listed)=true→S w→
  wpX3 F n P ops Q S T X a w→heldX F n P ops Q X0 S fuel listed a w
 | [],fuel,listed,a,w,hl,_,_,_,_,hall,hT,hS,h=>by
   have:=t3_sound (F:=F) (n:=n) (P:=P) (Q:=Q) T fuel listed a w (by simpa using hl) hT h
   cases fuel with
   | zero=>exact ⟨hall,this⟩
   | succ f=>exact Or.inl ⟨hall,this⟩
 | i::r,0,_,_,_,hl,_,_,_,_,_,_,_,_=>by simp at hl
 | i::r,fuel+1,listed,a,w,hl,hX,hc,hz,hok,hall,hT,hS,h=>by
   obtain ⟨o,v,ho,hy,h'⟩:=h
   simp only[okF3,Bool.and_eq_true] at hok
   have hr:i∈Region.ready .any ops listed:=by simpa using hok.1.2
   exact first_heldX hro hF hwait (hX i (by simp)) ho (Region.noSelect_spec hs) (fun c a w=>hQ c a o.dst v w) fuel listed a w hc hz (Region.free_spec ho hok.1.1) hr hy hS
    (x3_sound hro hF hwait hs hQ r fuel _ _ w (by simp at hl;omega) (fun k hk=>hX k (List.mem_cons_of_mem _ hk)) (hc.put hr) (fun k hk=>getD_set_true (hz k hk)) hok.2 hall hT hS h')
theorem a3_sound {A0 X T:List Nat} {S:World→Prop} (hro:F.round=none) (hF:∀f,F.fn f) (hwait:waitsOk ops X A0=true) (hs:Region.noSelect ops=true) (hQ:∀c a d v w,Q (.panic c) (Act.put a d v) w→Q (.panic c) a w):
 ∀(A:List Nat) (fuel:Nat) (listed:Array Bool) (a:Act) (w:World),A.length+(X.length+T.length)≤fuel→Closed ops listed→okF3 ops A listed=true→(∀k∈A0,(putAll A listed).getD k false=true)→okF3 ops X (putAll A listed)=true→allOf X (putAll X (putAll A listed))=true→okT3 ops T (putAll X (putAll A listed))=true→S w→
  wpA3 F n P ops Q S T X A a w→wpAnyIn F n P .any ops Q fuel listed a w
 | [],fuel,listed,a,w,hl,hc,_,hz,hokX,hall,hT,hS,h=>any_of_heldX fuel listed a w (x3_sound hro hF hwait hs hQ X fuel listed a w (by simpa using hl) (fun _ h=>h) hc hz hokX hall hT hS h)
 | i::r,0,_,_,_,hl,_,_,_,_,_,_,_,_=>by simp at hl
 | i::r,fuel+1,listed,a,w,hl,hc,hok,hz,hokX,hall,hT,hS,h=>by
   obtain ⟨o,v,ho,hy,h'⟩:=h
   simp only[okF3,Bool.and_eq_true] at hok
   have hr:i∈Region.ready .any ops listed:=by simpa using hok.1.2
   exact anyIn_of_held _ _ _ _ (first_heldIn hro hF ho (Region.noSelect_spec hs) (fun c a w=>hQ c a o.dst v w) fuel listed a w (Region.free_spec ho hok.1.1) hr hy trivial
    (held_of_any _ _ _ _ (a3_sound hro hF hwait hs hQ r fuel _ _ w (by simp at hl;omega) (hc.put hr) hok.2 hz hokX hall hT hS h')))
theorem wpIn_region3 {id:Nat} {a:Act} {w:World} (hro:F.round=none) (hF:∀f,F.fn f) (A X T:List Nat) (S:World→Prop) (hm:P.follows .mixedOrders=true) (hok:ok3 ops A X T=true)
 (hQ:∀c a d v w,Q (.panic c) (Act.put a d v) w→Q (.panic c) a w) (hS:S w.drew) (h:∀ops',Hid (ops' =ops)→wpA3 F n P ops' Q S T X A a w.drew):(Code.region id ops true).wpIn F n P Q a w:=by
 simp only[ok3,Bool.and_eq_true,decide_eq_true_eq,List.all_eq_true] at hok
 obtain ⟨⟨⟨⟨⟨⟨⟨h1,h2⟩,h3⟩,h4⟩,h5⟩,h6⟩,h7⟩,h8⟩:=hok
 refine wpIn_region_any hm (a3_sound hro hF h1 h2 hQ A _ _ _ _ h8 (fun j o hj=>?_) h3 h4 h5 h6 h7 hS (h ops rfl))
 rw[Array.getD_eq_getD_getElem?,Array.getElem?_replicate] at hj
 split at hj<;>simp at hj
theorem wpA3_nil {S:World→Prop} {T X:List Nat} {a:Act} {w:World} (h:wpX3 F n P ops Q S T X a w):wpA3 F n P ops Q S T X [] a w:=h
theorem wpX3_nil {S:World→Prop} {T:List Nat} {a:Act} {w:World} (h:wpT3 F n P ops Q T a w):wpX3 F n P ops Q S T [] a w:=h
theorem wpT3_nil {a:Act} {w:World} (h:Q .normal a w):wpT3 F n P ops Q [] a w:=h
theorem wpA3_free {i:Nat} {r T X:List Nat} {S:World→Prop} {a:Act} {w:World} (o:Oper) (v:Value) (ho:ops[i]? =some o) (hw:Wants ops o a.tmps true)
 (hy:∀x:World,True→(execOp a.eval o).run P x= .ok (.value v) x) (h:wpA3 F n P ops Q S T X r (a.put o.dst v) w):wpA3 F n P ops Q S T X (i::r) a w:=⟨o,v,ho,Or.inl ⟨hw,hy⟩,h⟩
theorem wpX3_free {i:Nat} {r T:List Nat} {S:World→Prop} {a:Act} {w:World} (o:Oper) (v:Value) (ho:ops[i]? =some o) (hw:Wants ops o a.tmps true)
 (hy:∀x,S x→(execOp a.eval o).run P x= .ok (.value v) x) (h:wpX3 F n P ops Q S T r (a.put o.dst v) w):wpX3 F n P ops Q S T (i::r) a w:=⟨o,v,ho,Or.inl ⟨hw,hy⟩,h⟩
theorem wpT3_act {i:Nat} {r:List Nat} {a:Act} {w:World} (o:Oper) (ho:ops[i]? =some o) (hw:Wants ops o a.tmps true)
 (h:∀K:Act→World→Prop,(∀a' w',wpT3 F n P ops Q r a' w' →K a' w')→o.wpIn F n P a w K Q):wpT3 F n P ops Q (i::r) a w:=by
 refine wpOpIn_step ho (fun K' hK=>?_)
 rw[if_pos (show Region.wanted o (yielded ops a.tmps)=true from hw)]
 exact h K' hK
end
end Go.Proofs.YtibpkfnfcdbiiaaGreatDoor
