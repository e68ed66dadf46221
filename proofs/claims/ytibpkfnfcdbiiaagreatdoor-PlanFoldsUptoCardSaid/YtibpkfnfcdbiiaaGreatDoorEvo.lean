/- Worlds that go on: what was read stays read, but for the blocks that are somebody's own. -/
import Derived.Test.YtibpkfnfcdbiiaaGreatDoorBunB
namespace Go.Proofs.YtibpkfnfcdbiiaaGreatDoor
set_option linter.unusedSimpArgs false
open Go.RowKit
set_option linter.unusedVariables false
def free (w:World) (B:Nat→Prop):Nat→Prop:=fun k=>k<w.heap.size∧¬B k
structure Ev (w:World) (B:Nat→Prop) (w' :World) (B' :Nat→Prop):Prop where
 fr:Fr B w w'
 own:∀k,B' k→B k∨w.heap.size≤k
 lt:∀k,B' k→k<w'.heap.size
section
variable {w w' w1 w2:World} {B B' B1 B2 S:Nat→Prop} {α:Type} {R:Rep α} {size:Nat} {a:Option Addr} {c:Nat} {xs:List α}
theorem nob_lt (w:World):∀k,nob k→k<w.heap.size:=fun _ h=>h.elim
theorem Ev.refl (hB:∀k,B k→k<w.heap.size):Ev w B w B:=⟨Fr.refl _ _,fun k h=>Or.inl h,hB⟩
theorem Ev.start (w:World):Ev w nob w nob:=⟨Fr.refl _ _,fun k h=>h.elim,fun k h=>h.elim⟩
theorem Ev.trans (h1:Ev w B w1 B1) (h2:Ev w1 B1 w2 B2):Ev w B w2 B2:=
 ⟨h1.fr.trans h2.fr (fun k hk hb=>(h1.own k hb).elim id (fun h=>absurd h (by omega))),fun k hb=>(h2.own k hb).elim (h1.own k) (fun h=>Or.inr (Nat.le_trans h1.fr.size h)),h2.lt⟩
theorem Ev.of (hf:Fr nob w w') (hB:∀k,B k→k<w.heap.size):Ev w B w' B:=⟨hf.any,fun k h=>Or.inl h,fun k h=>Nat.lt_of_lt_of_le (hB k h) hf.size⟩
theorem Ev.turn (hf:Fr B w w') (hB:∀k,B k→k<w.heap.size):Ev w B w' B:=⟨hf,fun k h=>Or.inl h,fun k h=>Nat.lt_of_lt_of_le (hB k h) hf.size⟩
theorem Ev.more (hf:Fr nob w w') (hB:∀k,B k→k<w.heap.size) (hn:∀k,B1 k→w.heap.size≤k∧k<w'.heap.size):Ev w B w' (fun k=>B k∨B1 k):=
 ⟨hf.any,fun k h=>h.elim Or.inl (fun h=>Or.inr (hn k h).1),fun k h=>h.elim (fun h=>Nat.lt_of_lt_of_le (hB k h) hf.size) (fun h=>(hn k h).2)⟩
theorem Ev.frees (h:Ev w B w' B'):∀k,free w B k→free w' B' k:=fun k hk=>⟨Nat.lt_of_lt_of_le hk.1 h.fr.size,fun hb=>(h.own k hb).elim hk.2 (fun h=>absurd hk.1 (by omega))⟩
theorem Ev.toN (h:Ev w nob w' B'):Fr nob w w' :=h.fr
theorem SV.ev (hR:R.Ok size) (h:SV R size (free w B) w a c xs) (e:Ev w B w' B'):SV R size (free w' B') w' a c xs:=(h.fr hR e.fr (fun k hk=>hk.2)).mono hR e.frees
theorem SV.new (hR:R.Ok size) (h:SV R size (newb w w') w' a c xs) (hB:∀k,B k→k<w.heap.size):SV R size (Go.Proofs.YtibpkfnfcdbiiaaGreatDoor.free w' B) w' a c xs:=h.mono hR (fun k hk=>⟨hk.2,fun hb=>absurd (hB k hb) (by have:=hk.1;omega)⟩)
theorem SV.start (hR:R.Ok size) (h:SV R size (old w) w a c xs):SV R size (Go.Proofs.YtibpkfnfcdbiiaaGreatDoor.free w Go.Proofs.YtibpkfnfcdbiiaaGreatDoor.nob) w a c xs:=h.mono hR (fun k hk=>⟨hk,id⟩)
theorem SV.keep (hR:R.Ok size) (h:SV R size (Go.Proofs.YtibpkfnfcdbiiaaGreatDoor.free w B) w a c xs):∀u C,Ev w B u C→SV R size (Go.Proofs.YtibpkfnfcdbiiaaGreatDoor.free u C) u a c xs:=fun u C e=>h.ev hR e
theorem Laid.keep (h:Laid w):∀u C,Ev w Go.Proofs.YtibpkfnfcdbiiaaGreatDoor.nob u C→Laid u:=fun u C e=>h.frN e.fr
theorem heap_keep {z:Nat} {o:Obj} (h:w.heap[z]? =some o) (hz:¬B z):∀u C,Ev w B u C→u.heap[z]? =some o:=fun u C e=>e.fr.heap h hz
end
section
variable {w w' w1 w2:World} {B B' B1 B2 S:Nat→Prop} {a:Option Addr} {c:Nat} {l:List UInt8}
theorem BV.ev (h:BV (free w B) w a c l) (e:Ev w B w' B'):BV (free w' B') w' a c l:=(h.fr e.fr (fun k hk=>hk.2)).mono e.frees
theorem BV.new (h:BV (newb w w') w' a c l) (hB:∀k,B k→k<w.heap.size):BV (free w' B) w' a c l:=h.mono (fun k hk=>⟨hk.2,fun hb=>absurd (hB k hb) (by have:=hk.1;omega)⟩)
theorem BV.keep (h:BV (free w B) w a c l):∀u C,Ev w B u C→BV (free u C) u a c l:=fun u C e=>h.ev e
theorem BV.start (h:BV (old w) w a c l):BV (free w nob) w a c l:=h.mono (fun k hk=>⟨hk,id⟩)
theorem BV.within (h:BV S w a c l) (hS:∀k,S k→k<w.heap.size):BV (free w nob) w a c l:=h.mono (fun k hk=>⟨hS k hk,id⟩)
theorem SV.within {α:Type} {R:Rep α} {size:Nat} {xs:List α} (hR:R.Ok size) (h:SV R size S w a c xs) (hS:∀k,S k→k<w.heap.size):SV R size (free w nob) w a c xs:=h.mono hR (fun k hk=>⟨hS k hk,id⟩)
theorem Ev.news (h:Ev w nob w' B):∀k,B k→newb w w' k:=fun k hk=>⟨(h.own k hk).elim (fun h=>h.elim) id,h.lt k hk⟩
theorem Ev.born (h:Ev w nob w' nob) (hn:∀k,B k→w.heap.size≤k∧k<w'.heap.size):Ev w nob w' B:=⟨h.fr,fun k hk=>Or.inr (hn k hk).1,fun k hk=>(hn k hk).2⟩
theorem Ev.grow (hf:Fr B w w') (hB:∀k,B k→k<w.heap.size):Ev w B w' (grow B w w'):=
 ⟨hf,fun k h=>h.elim Or.inl (fun h=>Or.inr h.1),fun k h=>h.elim (fun h=>Nat.lt_of_lt_of_le (hB k h) hf.size) (fun h=>h.2)⟩
theorem Ev.take (h:Ev w nob w1 nob) (hf:Fr nob w1 w') (hn:∀k,B k→w1.heap.size≤k∧k<w'.heap.size):Ev w nob w' B:=(h.trans (Ev.of hf (nob_lt _))).born (fun k hk=>⟨Nat.le_trans h.fr.size (hn k hk).1,(hn k hk).2⟩)
theorem Ev.drop (h:Ev w B w' B') (hB' :∀k,B2 k→B' k):Ev w B w' B2:=⟨h.fr,fun k hk=>h.own k (hB' k hk),fun k hk=>h.lt k (hB' k hk)⟩
theorem newb_up {T:Nat→Prop} {u:World} (hf:Fr T w u):∀k,newb u w' k→newb w w' k:=fun k hk=>⟨Nat.le_trans hf.size hk.1,hk.2⟩
end
theorem SV.lit {α:Type} {R:Rep α} {size:Nat} (hR:R.Ok size) (w:World) (B:Nat→Prop) (hB:∀k,B k→k<w.heap.size) (css:List (List Value)) (xs:List α) (t:TypeId) (hl:css.length=xs.length) (hm:xs.length≤1000000)
 (hr:∀(i:Nat) (c:List Value) (x:α),css[i]? =some c→xs[i]? =some x→R (Go.Proofs.YtibpkfnfcdbiiaaGreatDoor.free w B) w c x):
 SV R size (Go.Proofs.YtibpkfnfcdbiiaaGreatDoor.free (w.alloc (.cells css.flatten.toArray t (0,0))) B) (w.alloc (.cells css.flatten.toArray t (0,0))) (some ⟨w.heap.size,0,none⟩) xs.length xs:=by
 have hel:∀c∈css,c.length=size:=fun c hc=>by
  obtain ⟨k,hk,rfl⟩:=List.mem_iff_getElem.1 hc
  exact hR.len (hr k _ (xs[k]'(by omega)) (List.getElem?_eq_getElem hk) (List.getElem?_eq_getElem (by omega)))
 have hone:∀c∈css,∀u∈c,u.oneCell' =true:=fun c hc=>by
  obtain ⟨k,hk,rfl⟩:=List.mem_iff_getElem.1 hc
  exact hR.one (hr k _ (xs[k]'(by omega)) (List.getElem?_eq_getElem hk) (List.getElem?_eq_getElem (by omega)))
 have hfl:css.flatten.length=xs.length*size:=by
  rw[List.length_flatten,←hl]
  have:∀(l:List (List Value)),(∀c∈l,c.length=size)→(l.map List.length).sum=l.length*size:=by
   intro l hl'
   induction l with
   | nil=>simp
   | cons c l ih=>simp only[List.map_cons,List.sum_cons,List.length_cons];rw[ih (fun c hc' =>hl' c (List.mem_cons_of_mem _ hc')),hl' c (by simp),Nat.succ_mul];omega
  exact this _ hel
 have hf:Fr Go.Proofs.YtibpkfnfcdbiiaaGreatDoor.nob w (w.alloc (.cells css.flatten.toArray t (0,0))):=(Fr.refl _ w).alloc _
 have h:=Vec.newrow w css.flatten.toArray t (size:=size) (n:=xs.length) (by simpa using hfl) (by unfold maxLen;omega) (fun u hu=>by
  obtain ⟨c,hc,hu⟩:=List.mem_flatten.1 (by simpa using hu)
  exact hone c hc u hu)
 have h2:=h.mono (T:=Go.Proofs.YtibpkfnfcdbiiaaGreatDoor.free (w.alloc (.cells css.flatten.toArray t (0,0))) B) (fun k hk=>⟨hk.2,fun hb=>absurd (hB k hb) (by have:=hk.1;omega)⟩)
 rw[List.toList_toArray] at h2
 exact ⟨css,hl,h2,fun i c x hc hx=>hR.mono (hR.fr (hr i c x hc hx) hf (fun _ _=>id)) (Ev.of hf hB).frees⟩
theorem flatten_drop {size:Nat}:∀(css:List (List Value)) (x:Nat),(∀c∈css,c.length=size)→css.flatten.drop (x*size)=(css.drop x).flatten
 | css,0,_=>by simp
 | [],x+1,_=>by simp
 | c::css,x+1,h=>by
   have h0:=h c (by simp)
   rw[List.flatten_cons,List.drop_succ_cons,←flatten_drop css x (fun d hd=>h d (List.mem_cons_of_mem _ hd)),List.drop_append,Nat.succ_mul,List.drop_of_length_le (by omega),List.nil_append]
   congr 1
   omega
theorem flatten_take {size:Nat}:∀(css:List (List Value)) (x:Nat),(∀c∈css,c.length=size)→css.flatten.take (x*size)=(css.take x).flatten
 | css,0,_=>by simp
 | [],x+1,_=>by simp
 | c::css,x+1,h=>by
   have h0:=h c (by simp)
   rw[List.flatten_cons,List.take_succ_cons,List.flatten_cons,←flatten_take css x (fun d hd=>h d (List.mem_cons_of_mem _ hd)),List.take_append,Nat.succ_mul,List.take_of_length_le (by omega)]
   congr 2
   omega
theorem SV.sub {α:Type} {R:Rep α} {size:Nat} {S:Nat→Prop} {w:World} {a:Option Addr} {cap:Nat} {xs:List α} {P:Program} (hR:R.Ok size) (h:SV R size S w a cap xs) (t e:TypeId) (i:TypeInfo) (ht:P.underlying t=some (.slice e)) (hi:P.info? e=some i) (his:i.size=size)
 (lo hi' mx:Option Value) (x y m:Nat) (hb:∀w',(Instr.sliceBounds true xs.length cap lo hi' mx).run P w' = .ok (x,y,m) w') (h1:x≤y) (h2:y≤xs.length) (h3:y≤m) (h4:m≤cap):
 ∃a',(∀w',(Instr.slice t (.slice a xs.length cap) lo hi' mx).run P w' = .ok (.slice a' (y - x) (m - x)) w')∧SV R size S w a' (m - x) ((xs.drop x).take (y - x)):=by
 obtain ⟨css,hl,hv,hr⟩:=h
 obtain ⟨a',r1,r2,_,_⟩:=run_slice_vec (P:=P) hv t e i ht hi his lo hi' mx x y m hb h1 h2 h3 h4
 have hel:∀c∈css,c.length=size:=fun c hc=>by
  obtain ⟨k,hk,rfl⟩:=List.mem_iff_getElem.1 hc
  exact hR.len (hr k _ (xs[k]'(by omega)) (List.getElem?_eq_getElem hk) (List.getElem?_eq_getElem (by omega)))
 have hlen:((xs.drop x).take (y - x)).length=y - x:=by simp;omega
 refine ⟨a',r1,(css.drop x).take (y - x),by simp[hl],?_,fun j c z hc hz=>?_⟩
 · rw[hlen,←flatten_take _ _ (fun c hc=>hel c (List.mem_of_mem_drop hc)),←flatten_drop _ _ hel]
   exact r2
 · by_cases hj:j<y - x
   · rw[List.getElem?_take_of_lt hj,List.getElem?_drop] at hc hz
     exact hr _ c z hc hz
   · rw[List.getElem?_eq_none (by simp;omega)] at hc
     cases hc
end Go.Proofs.YtibpkfnfcdbiiaaGreatDoor
