/- Contracts of crc's Open. A table of pairs whose rows lie in blocks of their own, and grow. What batch.Take does, in plain words. batch.Take, walked. Contract of schema.Print. Files read, in plain words: frames, schemas, entries, traces. No program in sight. -/
import Derived.Test.YtibpkfnfcdbiiaaGreatDoorCrcE
import Derived.Test.YtibpkfnfcdbiiaaGreatDoorBunQ
import Derived.Test.YtibpkfnfcdbiiaaGreatDoorBunH
import Derived.Test.YtibpkfnfcdbiiaaGreatDoorSchemaW
import Derived.Test.YtibpkfnfcdbiiaaGreatDoorBunT
namespace Go.Proofs.YtibpkfnfcdbiiaaGreatDoor
set_option linter.unusedSimpArgs false
open Go.RowKit
set_option linter.unusedVariables false
def OpenPost (w:World) (l:List UInt8) (e:Ending) (w' :World):Prop:=
 Fr nob w w' ∧match crcOpen l with
 | some x=>∃a' cap',e= .returned (.tuple #[.slice a' x.length cap', .bool true])∧BV (newb w w') w' a' cap' x
 | none=>e= .returned (.tuple #[.slice none 0 0, .bool false])
theorem crcOpen_short {l:List UInt8} (h:l.length<4):crcOpen l=none:=by unfold crcOpen;rw[if_neg (by omega)]
theorem crcOpen_bad {x:List UInt8} {c0 c1 c2 c3:UInt8} (h:[c0,c1,c2,c3]≠crcPut (crcSum x)):crcOpen (x++[c0,c1,c2,c3])=none:=by
 unfold crcOpen
 have h4:(x++[c0,c1,c2,c3]).length - 4=x.length:=by simp
 rw[h4,List.take_left,List.drop_left,if_neg (fun h' =>h h'.2)]
theorem crcOpen_good {x:List UInt8} {c0 c1 c2 c3:UInt8} (h:[c0,c1,c2,c3]=crcPut (crcSum x)):crcOpen (x++[c0,c1,c2,c3])=some x:=by
 unfold crcOpen
 have h4:(x++[c0,c1,c2,c3]).length - 4=x.length:=by simp
 rw[h4,List.take_left,List.drop_left,if_pos ⟨by simp,h⟩]
theorem put4 {s:Nat} {c0 c1 c2 c3:UInt8}:[c0,c1,c2,c3]=crcPut s↔c0.toNat=s%256∧c1.toNat=s / 256%256∧c2.toNat=s / 65536%256∧c3.toNat=s / 16777216%256:=by
 have e:∀(c:UInt8) (x:Nat),x<256→(c=UInt8.ofNat x↔c.toNat=x):=fun c x hx=>by
  constructor
  · rintro rfl;simp;omega
  · intro h;rw[←h];simp
 simp only[crcPut,List.cons.injEq,and_true]
 rw[e c0 _ (by omega),e c1 _ (by omega),e c2 _ (by omega),e c3 _ (by omega)]
set_option maxRecDepth 100000 in
set_option maxHeartbeats 1000000 in
theorem open_any (S:Nat→Prop) (w:World) (a:Option Addr) (cap:Nat) (l:List UInt8) (h:BV S w a cap l) (hl:l.length≤1099511627776):
 Calls Tryz.prog 67 #[.slice a l.length cap] w (OpenPost w l):=by
 by_cases h4:l.length<4
 · have hn:=crcOpen_short h4
   go_enter Tryz.func67,Tryz.ntmps67
   go_wp2
   go_ret2
   unfold OpenPost
   rw[hn]
   exact ⟨Fr.refl _ _,rfl⟩
 · obtain ⟨n,hn⟩:∃n,n=l.length - 4:=⟨_,rfl⟩
   obtain ⟨x,hx⟩:∃x,x=l.take n:=⟨_,rfl⟩
   obtain ⟨c0,c1,c2,c3,hc⟩:∃c0 c1 c2 c3,l.drop n=[c0,c1,c2,c3]:=by
    have hlen:(l.drop n).length=4:=by simp;omega
    match l.drop n,hlen with
    | [c0,c1,c2,c3],_=>exact ⟨c0,c1,c2,c3,rfl⟩
   have hxl:x.length=n:=by rw[hx];simp;omega
   have hll:l=x++[c0,c1,c2,c3]:=by rw[hx,←hc,List.take_append_drop]
   obtain ⟨a1,q1,hv1,_⟩:=sub_to h .i64 ((l.length:Int) - 4) n (by omega) (by omega)
   obtain ⟨a2,q2,hv2,_⟩:=sub_from h .i64 ((l.length:Int) - 4) n (by omega) (by omega)
   rw[←hx] at hv1
   rw[hc] at hv2
   have q1' :∀w',(Instr.slice 27 (.slice a l.length cap) none (some (.int .i64 ((l.length:Int) - 4))) none).run Tryz.prog w' = .ok (.slice a1 x.length cap) w' :=fun w' =>by rw[q1 w',←hx]
   have q2' :∀w',(Instr.slice 27 (.slice a l.length cap) (some (.int .i64 ((l.length:Int) - 4))) none none).run Tryz.prog w' = .ok (.slice a2 4 (cap - n)) w' :=fun w' =>by rw[q2 w',hc];rfl
   obtain ⟨b,off,rfl,hSb,g0⟩:=hv2.get (i:=0) (by simp)
   obtain ⟨b',off',e',_,g1⟩:=hv2.get (i:=1) (by simp)
   cases e'
   obtain ⟨b',off',e',_,g2⟩:=hv2.get (i:=2) (by simp)
   cases e'
   obtain ⟨b',off',e',_,g3⟩:=hv2.get (i:=3) (by simp)
   cases e'
   simp at g0 g1 g2 g3
   have Hll:=Lib.hid hll
   have Hv1:=Lib.hid hv1
   have hl4:4≤l.length:=by omega
   have hxle:x.length≤1099511627776:=by omega
   clear hll hv1 hv2 h hx hc q1 q2 hn hxl
   go_enter Tryz.func67,Tryz.ntmps67
   go_wp2_with fail
   refine (crcsum_any _ _ _ _ x Hv1.out hxle).mono ?_
   rintro e w1 ⟨rfl,hf1⟩
   have k0:=hf1.cell g0 id
   have k1:=hf1.cell g1 id
   have k2:=hf1.cell g2 id
   have k3:=hf1.cell g3 id
   have hs:=crcSum_lt x
   have hp:=@put4 (crcSum x) c0 c1 c2 c3
   have hbad:=@crcOpen_bad x c0 c1 c2 c3
   have hgood:=@crcOpen_good x c0 c1 c2 c3
   rw[hp] at hgood
   have hbad' :¬(c0.toNat=crcSum x%256∧c1.toNat=crcSum x / 256%256∧c2.toNat=crcSum x / 65536%256∧c3.toNat=crcSum x / 16777216%256)→crcOpen l=none:=fun h=>by rw[Hll.out];exact hbad (fun h' =>h (hp.1 h'))
   have hgood' :(c0.toNat=crcSum x%256∧c1.toNat=crcSum x / 256%256∧c2.toNat=crcSum x / 65536%256∧c3.toNat=crcSum x / 16777216%256)→crcOpen l=some x:=fun h=>by rw[Hll.out];exact hgood h
   have Hbad:=Lib.hid hbad'
   have Hgood:=Lib.hid hgood'
   clear hp hbad hgood hbad' hgood' g0 g1 g2 g3
   have t0:=UInt8.toNat_lt c0
   have t1:=UInt8.toNat_lt c1
   have t2:=UInt8.toNat_lt c2
   have t3:=UInt8.toNat_lt c3
   generalize crcSum x=s at*
   generalize c0.toNat=z0 at*
   generalize c1.toNat=z1 at*
   generalize c2.toNat=z2 at*
   generalize c3.toNat=z3 at*
   go_wp2_with fail
   refine wp_loop_rounds 5 ?_
   rw[rounds_succ]
   go_wp2_with fail
   · have hq:z0≠s%256:=by rename_i hb;simp at hb;omega
     go_ret2
     unfold OpenPost
     rw[Hbad.out (fun h=>hq h.1)]
     exact ⟨hf1,rfl⟩
   rename_i hq0
   have hq0:z0=s%256:=by simp at hq0;omega
   have Hq0:=Lib.hid hq0
   clear hq0
   rw[rounds_succ]
   go_wp2_with fail
   · have hq:z1≠s / 256%256:=by rename_i hb;simp at hb;omega
     go_ret2
     unfold OpenPost
     rw[Hbad.out (fun h=>hq h.2.1)]
     exact ⟨hf1,rfl⟩
   rename_i hq1
   have hq1:z1=s / 256%256:=by simp at hq1;omega
   have Hq1:=Lib.hid hq1
   clear hq1
   rw[rounds_succ]
   go_wp2_with fail
   · have hq:z2≠s / 65536%256:=by rename_i hb;simp at hb;omega
     go_ret2
     unfold OpenPost
     rw[Hbad.out (fun h=>hq h.2.2.1)]
     exact ⟨hf1,rfl⟩
   rename_i hq2
   have hq2:z2=s / 65536%256:=by simp at hq2;omega
   have Hq2:=Lib.hid hq2
   clear hq2
   rw[rounds_succ]
   go_wp2_with fail
   · have hq:z3≠s / 16777216%256:=by rename_i hb;simp at hb;omega
     go_ret2
     unfold OpenPost
     rw[Hbad.out (fun h=>hq h.2.2.2)]
     exact ⟨hf1,rfl⟩
   rename_i hq3
   have hq3:z3=s / 16777216%256:=by simp at hq3;omega
   have Hq3:=Lib.hid hq3
   clear hq3
   rw[rounds_succ]
   go_wp2_with (at_builtin;refine wpList_append_vec rfl _ _ _ _ rfl rfl (Vec.empty w1 _ 1) _ _ _ Tryz.underlying27 inf_u8 rfl _ x.length (bv x) rfl (BV.src ((Hv1.out.frN hf1).frN ((Fr.refl nob w1).alloc _)) Tryz.underlying27) (by unfold maxLen;omega) (by omega) ?_)
   intro a3 c3 w3 hv3 hf3 _
   have f3:Fr nob w w3:=hf1.andN (frN_newb w1 _ hf3)
   go_wp2
   go_ret2
   unfold OpenPost
   rw[Hgood.out ⟨Hq0.out,Hq1.out,Hq2.out,Hq3.out⟩]
   refine ⟨f3,a3,c3,by simp,?_⟩
   unfold BV
   have h:=Vec.mono hv3 (grow_newb w1 _ _ ((Fr.refl nob w1).alloc _).size hf3.size)
   exact h.mono (fun k hk=>⟨by have:=hf1.size;have:=hk.1;omega,hk.2⟩)
theorem set_same {α:Type} {l:List α} {j:Nat} {v:α} (h:l[j]? =some v):l.set j v=l:=by
 obtain ⟨hj,e⟩:=List.getElem?_eq_some_iff.1 h
 rw[←e];exact List.set_getElem_self hj
theorem flat_row (d:List Elt) {i:Nat} (hi:i<d.length) (row:List Cel) (a:Option Addr) (c:Nat):(d.set i ⟨⟨row,d[i].p.weight⟩,a,c⟩).flatMap eltCells=(d.flatMap eltCells).set (i*2) (.slice a row.length c):=by
 rw[flat_set]
 exact set_same (by rw[List.getElem?_set_ne (by omega)];exact (flat_get d hi).2)
theorem flat_wt (d:List Elt) {i:Nat} (hi:i<d.length) (x:Int):(d.set i ⟨⟨d[i].p.row,x⟩,d[i].a,d[i].c⟩).flatMap eltCells=(d.flatMap eltCells).set (i*2+1) (.int .i64 x):=by
 rw[flat_set]
 rw[set_same (l:=d.flatMap eltCells) (j:=i*2) (flat_get d hi).1]
structure Rows (O:Nat→Nat→Prop) (w:World) (z cap:Nat) (d:List Elt):Prop where
 tab:EV w z 0 cap d
 row:∀(i:Nat) (x:Elt),d[i]? =some x→RowAt (O i) w x
 apart:∀i j k,O i k→O j k→i=j
 off:∀i k,O i k→k≠z
def rown (z:Nat) (O:Nat→Nat→Prop):Nat→Prop:=fun k=>k=z∨∃i,O i k
def rput (O:Nat→Nat→Prop) (i:Nat) (w w1:World):Nat→Nat→Prop:=fun j k=>O j k∨(j=i∧newb w w1 k)
section
variable {O:Nat→Nat→Prop} {w w' w1:World} {z cap i:Nat} {d:List Elt} {T:Nat→Prop} {a' :Option Addr} {c' :Nat}
theorem Rows.fr (h:Rows O w z cap d) (hf:Fr T w w') (hT:∀k,rown z O k→¬T k):Rows O w' z cap d:=
 ⟨Vec.fr h.tab hf (fun k hk=>hT k (Or.inl hk)),fun i x hx=>(h.row i x hx).fr hf (fun k hk=>hT k (Or.inr ⟨i,hk⟩)),h.apart,h.off⟩
theorem Rows.frN (h:Rows O w z cap d) (hf:Fr nob w w'):Rows O w' z cap d:=h.fr hf (fun _ _=>id)
theorem rput_own (hf:w.heap.size≤w1.heap.size) (hlt:∀k,rown z O k→k<w.heap.size):(∀k,rown z (rput O i w w1) k→rown z O k∨w.heap.size≤k)∧(∀k,rown z (rput O i w w1) k→k<w1.heap.size):=by
 refine ⟨fun k hk=>?_,fun k hk=>?_⟩
 · rcases hk with hk | ⟨j,hk | hk⟩
   · exact Or.inl (Or.inl hk)
   · exact Or.inl (Or.inr ⟨j,hk⟩)
   · exact Or.inr hk.2.1
 · rcases hk with hk | ⟨j,hk | hk⟩
   · exact Nat.lt_of_lt_of_le (hlt k (Or.inl hk)) hf
   · exact Nat.lt_of_lt_of_le (hlt k (Or.inr ⟨j,hk⟩)) hf
   · exact hk.2.2
theorem Rows.push (h:Rows O w z cap d) (hlt:∀k,rown z O k→k<w.heap.size) (hi:i<d.length) (hf:Fr (O i) w w1) {row:List Cel} (hl:row.length≤lim) (hv:SV rCel 2 (grow (O i) w w1) w1 a' c' row):
 Rows (rput O i w w1) (w1.setCell ⟨z,0+i*2,none⟩ (.slice a' row.length c')) z cap (d.set i ⟨⟨row,d[i].p.weight⟩,a',c'⟩)∧Fr (fun k=>k=z) w1 (w1.setCell ⟨z,0+i*2,none⟩ (.slice a' row.length c')):=by
 have hz:z<w.heap.size:=hlt z (Or.inl rfl)
 have ht:EV w1 z 0 cap d:=Vec.fr h.tab hf (fun k hk hk' =>h.off i k hk' hk)
 obtain ⟨h1,f1⟩:=Vec.set (show Vec (fun k=>k=z) w1 2 (some ⟨z,0,none⟩) d.length cap (d.flatMap eltCells) from ht) (j:=i*2) (by omega) (u:= .slice a' row.length c') rfl
 refine ⟨⟨?_,fun j x hx=>?_,fun x y k hx hy=>?_,fun j k hk=>?_⟩,f1⟩
 · unfold EV
   rw[List.length_set,flat_row d hi]
   exact h1
 · rw[List.getElem?_set] at hx
   split at hx
   · rename_i hij
     subst hij
     cases hx
     refine ⟨(h.row i d[i] (List.getElem?_eq_getElem hi)).1,hl,(hv.mono rCel_ok (fun k hk=>hk.elim Or.inl (fun hk=>Or.inr ⟨rfl,hk⟩))).fr rCel_ok f1 (fun k hk e=>?_)⟩
     rcases hk with hk | hk
     · exact h.off _ k hk e
     · have:=hk.2.1;omega
   · rename_i hij
     have hr:=h.row j x hx
     refine ((hr.fr hf (fun k hk hk' =>hij (h.apart i j k hk' hk))).fr f1 (fun k hk e=>h.off j k hk e)).mono (fun k hk=>Or.inl hk)
 · rcases hx with hx | ⟨rfl,hx⟩
   · rcases hy with hy | ⟨rfl,hy⟩
     · exact h.apart x y k hx hy
     · have:=hlt k (Or.inr ⟨x,hx⟩);have:=hy.1;omega
   · rcases hy with hy | ⟨rfl,hy⟩
     · have:=hlt k (Or.inr ⟨y,hy⟩);have:=hx.1;omega
     · rfl
 · rcases hk with hk | hk
   · exact h.off j k hk
   · have:=hk.2.1;omega
theorem Rows.weigh (h:Rows O w z cap d) (hi:i<d.length) {x:Int} (hx:I64 x):
 Rows O (w.setCell ⟨z,0+(i*2+1),none⟩ (.int .i64 x)) z cap (d.set i ⟨⟨d[i].p.row,x⟩,d[i].a,d[i].c⟩)∧Fr (fun k=>k=z) w (w.setCell ⟨z,0+(i*2+1),none⟩ (.int .i64 x)):=by
 obtain ⟨h1,f1⟩:=Vec.set (show Vec (fun k=>k=z) w 2 (some ⟨z,0,none⟩) d.length cap (d.flatMap eltCells) from h.tab) (j:=i*2+1) (by omega) (u:= .int .i64 x) rfl
 refine ⟨⟨?_,fun j y hy=>?_,h.apart,h.off⟩,f1⟩
 · unfold EV
   rw[List.length_set,flat_wt d hi]
   exact h1
 · rw[List.getElem?_set] at hy
   split at hy
   · rename_i hij
     subst hij
     cases hy
     have hr:=h.row i d[i] (List.getElem?_eq_getElem hi)
     exact ⟨hx,hr.2.1,hr.2.2.fr rCel_ok f1 (fun k hk e=>h.off i k hk e)⟩
   · exact (h.row j y hy).fr f1 (fun k hk e=>h.off j k hk e)
theorem Rows.prs (h:Rows O w z cap d):SV rPr 2 (rown z O) w (some ⟨z,0,none⟩) cap (d.map (·.p)):=
 elts_back (S:=fun k=>k=z) (T:=fun k=>∃i,O i k) h.tab (fun x hx=>by
  obtain ⟨i,hi,rfl⟩:=List.mem_iff_getElem.1 hx
  exact (h.row i _ (List.getElem?_eq_getElem hi)).mono (fun k hk=>⟨i,hk⟩)) _ (fun k hk=>Or.inl hk) (fun k hk=>Or.inr hk)
end
def ezero:Elt:=⟨⟨[],0⟩,none,0⟩
theorem run_made_prs (n:Nat) (hn:n≤1048576) (w:World):(Instr.makeSlice 24 (.int .i64 (n:Int)) (.int .i64 (n:Int))).run Tryz.prog w= .ok (.slice (some ⟨w.heap.size,0,none⟩) n n) (w.alloc (.cells (madeCells #[.slice none 0 0, .int .i64 0] (n*2)) 66)):=by
 obtain ⟨i,hi,hz,hsize,hby⟩:=info_parts inf_Pair
 have h:=run_make (P:=Tryz.prog) w 24 66 i _ Tryz.underlying24 hi hz .i64 .i64 n n (by omega) (by omega) (by rw[hby];omega) (by omega)
 rw[hsize,Int.toNat_natCast] at h
 exact h
theorem made_prs (n:Nat) (hn:n≤1048576) (w:World):Rows (fun _=>nob) (w.alloc (.cells (madeCells #[.slice none 0 0, .int .i64 0] (n*2)) 66)) w.heap.size n (List.replicate n ezero):=by
 have h:=Vec.newrow w (madeCells #[.slice none 0 0, .int .i64 0] (n*2)) 66 (size:=2) (n:=n) (by rw[size_madeCells]) (by unfold maxLen;omega) (by
  rw[made_two]
  intro u hu
  obtain ⟨l,hl,hu⟩:=List.mem_flatten.1 hu
  rw[List.eq_of_mem_replicate hl] at hu
  simp at hu
  rcases hu with rfl | rfl<;>rfl)
 rw[made_two] at h
 refine ⟨?_,fun i x hx=>?_,fun i j k h=>h.elim,fun i k h=>h.elim⟩
 · unfold EV
   rw[List.length_replicate]
   have e:(List.replicate n ezero).flatMap eltCells=(List.replicate n [Value.slice none 0 0, .int .i64 0]).flatten:=by
    rw[List.flatMap_def,List.map_replicate];rfl
   rw[e]
   exact h.mono (fun k hk=>by have h1:=hk.1;have h2:=hk.2;simp at h2;omega)
 · have hm:=List.eq_of_mem_replicate (List.mem_of_getElem? hx)
   subst hm
   exact ⟨by show I64 0;unfold I64;omega,by show ([]:List Cel).length≤lim;simp,SV.nil _ _ _ _⟩
def pFin (s:List Col):Res (List Pr)→Res (List Pr)
 | .ok a r=>if ordered s a=true then .ok a r else .bad 9 r
 | .bad e r=> .bad e r
def pRest (s:List Col):Res (List (List Cel))→Res (List Pr)
 | .ok rows r=>pFin s (pWeights rows r)
 | .bad e r=> .bad e r
theorem pBatch_bad0 {s:List Col} {d:List UInt8} (h:schemaCheck s≠0):pBatch s d= .bad (schemaCheck s) d:=by unfold pBatch;rw[if_neg h]
theorem pBatch_bad1 {s:List Col} {d r:List UInt8} {e:Nat} (h:schemaCheck s=0) (h1:pUint 1024 d= .bad e r):pBatch s d= .bad e r:=by unfold pBatch;rw[if_pos h,h1]
theorem pBatch_rest {s:List Col} {d r:List UInt8} {n:Nat} (h:schemaCheck s=0) (h1:pUint 1024 d= .ok n r):pBatch s d=pRest s (pCols n s (List.replicate n []) r):=by
 unfold pBatch
 rw[if_pos h,h1]
 simp only
 cases pCols n s (List.replicate n []) r with
 | bad e r=>rfl
 | ok rows r=>
   simp only[pRest]
   cases pWeights rows r with
   | bad e r=>rfl
   | ok a r=>rfl
theorem pCols_step {n:Nat} {s:List Col} {rows:List (List Cel)} {d r:List UInt8} {xs:List Cel} {k:Nat} (hk:k<s.length) (h:pCol s[k].kind n d= .ok xs r):pCols n (s.drop k) rows d=pCols n (s.drop (k+1)) (List.zipWith (fun row x=>row++[x]) rows xs) r:=by
 rw[List.drop_eq_getElem_cons hk]
 simp only[pCols]
 rw[h]
theorem pCols_fall {n:Nat} {s:List Col} {rows:List (List Cel)} {d r:List UInt8} {e k:Nat} (hk:k<s.length) (h:pCol s[k].kind n d= .bad e r):pCols n (s.drop k) rows d= .bad e r:=by
 rw[List.drop_eq_getElem_cons hk]
 simp only[pCols]
 rw[h]
theorem pCols_end {n:Nat} {s:List Col} {rows:List (List Cel)} {d:List UInt8}:pCols n (s.drop s.length) rows d= .ok rows d:=by rw[List.drop_length];rfl
theorem pCol_len {k:Int} {n:Nat} {d r:List UInt8} {xs:List Cel} (h:pCol k n d= .ok xs r):xs.length=n:=by
 unfold pCol at h
 split at h
 · cases h
 · rename_i h0
   split at h
   · cases h
   · exact ((pKind_ok (by simpa using h0)).1 h).1
theorem pWeights_step {rows:List (List Cel)} {d r:List UInt8} {x:Int} {k:Nat} {a:List Pr} (hk:k<rows.length) (h:pInt d= .ok x r) (hx:x≠0):(pWeights (rows.drop k) d).pre a=(pWeights (rows.drop (k+1)) r).pre (a++[⟨rows[k],x⟩]):=by
 rw[List.drop_eq_getElem_cons hk]
 simp only[pWeights]
 rw[h]
 simp only[if_neg hx,Res.pre_pre]
theorem pWeights_zero {rows:List (List Cel)} {d r:List UInt8} {k:Nat} {a:List Pr} (hk:k<rows.length) (h:pInt d= .ok 0 r):(pWeights (rows.drop k) d).pre a= .bad 2 r:=by
 rw[List.drop_eq_getElem_cons hk]
 simp only[pWeights]
 rw[h]
 rfl
theorem pWeights_fall {rows:List (List Cel)} {d r:List UInt8} {e k:Nat} {a:List Pr} (hk:k<rows.length) (h:pInt d= .bad e r):(pWeights (rows.drop k) d).pre a= .bad e r:=by
 rw[List.drop_eq_getElem_cons hk]
 simp only[pWeights]
 rw[h]
 rfl
theorem pWeights_end {rows:List (List Cel)} {d:List UInt8} {a:List Pr}:(pWeights (rows.drop rows.length) d).pre a= .ok a d:=by
 rw[List.drop_length]
 show Res.ok (a++[]) d=_
 rw[List.append_nil]
theorem ordered_step {s:List Col} {a:List Pr} {k:Nat} (h1:1≤k) (hk:k<a.length):ordered s (a.drop (k - 1))=(decide (rowCmp s (a[k - 1]'(by omega)).row a[k].row<0)&&ordered s (a.drop k)):=by
 rw[List.drop_eq_getElem_cons (show k - 1<a.length by omega),show k - 1+1=k by omega,List.drop_eq_getElem_cons hk]
 rfl
theorem ordered_end {s:List Col} {a:List Pr} {k:Nat} (hk:a.length≤k):ordered s (a.drop (k - 1))=true:=by
 have hl:(a.drop (k - 1)).length≤1:=by rw[List.length_drop];omega
 generalize a.drop (k - 1)=b at hl
 cases b with
 | nil=>rfl
 | cons p b=>
   cases b with
   | nil=>rfl
   | cons q b=>simp at hl
theorem schemaGo_lt {s:List Col}:∀{xs:List (List UInt8)},schemaGo xs s<256:=by
 induction s with
 | nil=>intro xs;simp[schemaGo]
 | cons c s ih=>
   intro xs
   simp only[schemaGo]
   split
   · omega
   · split
     · omega
     · split
       · omega
       · exact ih
theorem schemaCheck_lt (s:List Col):schemaCheck s<256:=by
 unfold schemaCheck
 split
 · omega
 · split
   · omega
   · exact schemaGo_lt
def grown (rows:List (List Cel)) (xs:List Cel) (i:Nat):List (List Cel):=List.zipWith (fun row x=>row++[x]) (rows.take i) (xs.take i)++rows.drop i
theorem grown_zero (rows:List (List Cel)) (xs:List Cel):grown rows xs 0=rows:=by simp[grown]
theorem grown_all {rows:List (List Cel)} {xs:List Cel} (h:rows.length=xs.length):grown rows xs rows.length=List.zipWith (fun row x=>row++[x]) rows xs:=by
 unfold grown
 rw[List.drop_length,List.append_nil,List.take_length,h,List.take_length]
theorem grown_pre {rows:List (List Cel)} {xs:List Cel} (h:rows.length=xs.length) {i:Nat} (hi:i≤rows.length):(List.zipWith (fun row x=>row++[x]) (rows.take i) (xs.take i)).length=i:=by
 rw[List.length_zipWith,List.length_take,List.length_take];omega
theorem grown_at {rows:List (List Cel)} {xs:List Cel} (h:rows.length=xs.length) {i:Nat} (hi:i<rows.length):(grown rows xs i)[i]? =some rows[i]:=by
 unfold grown
 rw[List.getElem?_append_right (by rw[grown_pre h (by omega)];omega),grown_pre h (by omega),Nat.sub_self,List.getElem?_drop,Nat.add_zero,List.getElem?_eq_getElem hi]
theorem grown_set {rows:List (List Cel)} {xs:List Cel} (h:rows.length=xs.length) {i:Nat} (hi:i<rows.length):(grown rows xs i).set i (rows[i]++[xs[i]'(by omega)])=grown rows xs (i+1):=by
 unfold grown
 rw[List.set_append_right _ _ (by rw[grown_pre h (by omega)];omega),grown_pre h (by omega),Nat.sub_self,List.drop_eq_getElem_cons hi,List.set_cons_zero,List.take_succ_eq_append_getElem hi,List.take_succ_eq_append_getElem (show i<xs.length by omega),List.zipWith_append (by rw[List.length_take,List.length_take];omega),List.append_assoc]
 rfl
theorem grown_row {rows:List (List Cel)} {xs:List Cel} (h:rows.length=xs.length) {d:List Elt} {i:Nat} (hd:d.map (·.p.row)=grown rows xs i) (hi:i<rows.length) (hl:i<d.length):d[i].p.row=rows[i]:=by
 have h1:=grown_at h hi
 rw[←hd,List.getElem?_map,List.getElem?_eq_getElem hl] at h1
 simpa using h1
theorem take_set {α:Type} {l:List α} {q:Nat} (h:q<l.length) (v:α):(l.set q v).take (q+1)=l.take q++[v]:=by
 rw[List.take_succ_eq_append_getElem (by rw[List.length_set];exact h),List.getElem_set_self,List.take_set_of_le (Nat.le_refl _)]
theorem row_set {t:List Elt} {q:Nat} (h:q<t.length) (x:Int):(t.set q ⟨⟨t[q].p.row,x⟩,t[q].a,t[q].c⟩).map (·.p.row)=t.map (·.p.row):=by
 rw[List.map_set]
 exact set_same (by rw[List.getElem?_map,List.getElem?_eq_getElem h];rfl)
theorem Ev.beside {w w' :World} {B B' X:Nat→Prop} (h:Ev w B w' B') (hX:∀k,X k→k<w.heap.size):Ev w (fun k=>X k∨B k) w' (fun k=>X k∨B' k):=
 ⟨h.fr.mono (fun k _ h=>Or.inr h),fun k hk=>hk.elim (fun h=>Or.inl (Or.inl h)) (fun hk=>(h.own k hk).elim (fun h=>Or.inl (Or.inr h)) Or.inr),fun k hk=>hk.elim (fun hk=>Nat.lt_of_lt_of_le (hX k hk) h.fr.size) (h.lt k)⟩
def POut (w w' :World) (r:Nat) (a:Option Addr) (l:List UInt8) (cap:Nat) (o:Res (List Pr)) (e:Ending):Prop:=
 ROut (fun k=>k=r) w w' r a l cap o (fun xs e=>∃a' c',e= .returned (.slice a' xs.length c')∧SV rPr 2 (newb w w') w' a' c' xs) e
set_option maxRecDepth 100000 in
set_option maxHeartbeats 16000000 in
theorem batTake_o (S R:Nat→Prop) (w:World) (r:Nat) (hr:r<w.heap.size) (hSr:¬S r) (hS:∀k,S k→k<w.heap.size) (hRr:¬R r) (hR:∀k,R k→k<w.heap.size) (a:Option Addr) (cap:Nat) (l d:List UInt8) (hA:At w r a l cap d) (hb:BV S w a cap l) (hn:l.length≤1099511627776)
 (b:Option Addr) (cb:Nat) (s:List Col) (hs:SV rCol 2 R w b cb s) (h0:s.length≤lim) (hL:LaidR w r):
 Calls Tryz.prog 151 #[.pointer (some ⟨r,0,none⟩), .slice b s.length cb] w fun e w' =>POut w w' r a l cap (pBatch s d) e:=by
 obtain ⟨E,hE⟩:∃E,E=pBatch s d:=⟨_,rfl⟩
 rw[←hE]
 have hlt0:∀k,k=r→k<w.heap.size:=fun k hk=>hk ▸ hr
 have hb' :=hb.mono (T:=free w (fun k=>k=r)) (fun k hk=>⟨hS k hk,fun h=>hSr (h ▸ hk)⟩)
 have HB:=Lib.hid (BV.keep hb')
 clear hb'
 have hs' :=hs.mono rCol_ok (T:=free w (fun k=>k=r)) (fun k hk=>⟨hR k hk,fun h=>hRr (h ▸ hk)⟩)
 have HS:=Lib.hid (SV.keep rCol_ok hs')
 clear hs'
 have HLA:=Lib.hid hL
 have HA:=Lib.hid hA
 have hsc:=schema_any R w b cb s hs hL.now h0
 have h256:=schemaCheck_lt s
 clear hb hs hL hA hSr hS hRr hR
 by_cases hz:schemaCheck s=0
 case neg=>
  have HEK1:=Lib.hid (hE.trans (pBatch_bad0 hz))
  have d1:=inteqf hz
  have HD:=Lib.hid hz
  clear hE hz
  generalize schemaCheck s=zc at hsc h256 d1 HEK1 HD
  go_enter Tryz.func151,Tryz.ntmps151
  go_wp2_with fail
  refine (hsc).mono ?_
  rintro e u1 ⟨rfl,hfr⟩
  have E1:=Lib.hid (Ev.of hfr hlt0)
  have G1:=Lib.hid hfr
  clear hfr
  clear hsc
  have hmo:=mustN_bad r a cap l d zc u1 (HA.out.fr G1.out id) HD.out h256
  go_wp2_with fail
  refine (hmo).mono ?_
  rintro e u2 ⟨rfl,hfr⟩
  have E2:=Lib.hid (Ev.of hfr E1.out.lt)
  have G2:=Lib.hid hfr
  clear hfr
  clear hmo
  have HAT1:=Lib.hid (⟨HD.out,h256,HA.out.fr (G1.out.andN G2.out) id⟩:_∧_∧_)
  go_wp2_with fail
  refine ⟨rfl,((E1.out.trans E2.out)).fr,?_⟩
  rw[HEK1.out]
  exact ⟨rfl,HAT1.out⟩
 case pos=>
  have HZ:=Lib.hid hz
  have HE:=Lib.hid hE
  rw[hz] at hsc
  have hs8:=(schemaCheck_le hz).2
  clear hE hz h256
  go_enter Tryz.func151,Tryz.ntmps151
  go_wp2_with fail
  refine (hsc).mono ?_
  rintro e u3 ⟨rfl,hfr⟩
  have E3:=Lib.hid (Ev.of hfr hlt0)
  have G3:=Lib.hid hfr
  clear hfr
  clear hsc
  have hmo:=mustN_ok r a cap l d true 0 u3 (HA.out.fr G3.out id) (Or.inl rfl)
  go_wp2_with fail
  refine (hmo).mono ?_
  rintro e u4 ⟨rfl,hfr⟩
  have E4:=Lib.hid (Ev.of hfr E3.out.lt)
  have G4:=Lib.hid hfr
  clear hfr
  clear hmo
  have hc:=rUint_o _ u4 r a cap l d (HA.out.fr (G3.out.andN G4.out) id) (HB.out _ _ (E3.out.trans E4.out)) hn 1024 (by omega)
  cases ho:pUint 1024 d with
  | bad c d1=>
    have HEK1:=Lib.hid (HE.out.trans (pBatch_bad1 HZ.out ho))
    rw[ho] at hc
    have hc2:=hc.mono (R' :=fun e w' =>e= .panicked (broken r c)∧Fr (fun j=>j=r) _ w' ∧At w' r a l cap d1∧c≠0∧c<256) (fun e w' h=>by obtain ⟨rfl,h1,h2⟩:=h.bad rfl;exact ⟨rfl,h1,h2⟩)
    clear hc
    go_wp2_with fail
    refine (hc2).mono ?_
    rintro e u5 ⟨rfl,hfr,hAt1,hc0,hc6⟩
    have E5:=Lib.hid (Ev.turn (hfr.mono (fun k _ h=>by subst h;exact rfl)) E4.out.lt)
    have T5:=Lib.hid hfr
    clear hfr
    have HAT1:=Lib.hid (⟨hc0,hc6,hAt1⟩:_∧_∧_)
    clear hAt1 hc0 hc6 hc2
    go_wp2_with fail
    refine ⟨rfl,((E3.out.trans (E4.out.trans E5.out))).fr,?_⟩
    rw[HEK1.out]
    exact ⟨rfl,HAT1.out⟩
  | ok n d1=>
    have HE1:=Lib.hid (HE.out.trans (pBatch_rest HZ.out ho))
    obtain ⟨_,hn1024,_⟩:=pUint_ok.1 ho
    rw[ho] at hc
    have hc2:=hc.mono (R' :=fun e w' =>e= .returned (.int .u64 n)∧Fr (fun j=>j=r) _ w' ∧At w' r a l cap d1) (fun e w' h=>by obtain ⟨rfl,h1,h2⟩:=h.ok rfl;exact ⟨rfl,h1,h2⟩)
    clear hc
    go_wp2_with fail
    refine (hc2).mono ?_
    rintro e u6 ⟨rfl,hfr,hAt1⟩
    have E6:=Lib.hid (Ev.turn (hfr.mono (fun k _ h=>by subst h;exact rfl)) E4.out.lt)
    have T6:=Lib.hid hfr
    clear hfr
    clear hc2 ho
    have hmk:=fun x=>run_made_prs n (by omega) x
    obtain ⟨w3,hw3⟩:∃x1,x1=(u6).alloc (.cells (madeCells #[.slice none 0 0, .int .i64 0] (n*2)) 66):=⟨_,rfl⟩
    obtain ⟨z,hz⟩:∃x1,x1=(u6).heap.size:=⟨_,rfl⟩
    have hf3:Fr nob u6 w3:=by rw[hw3];exact (Fr.refl nob _).alloc _
    have hs3:w3.heap.size=z+1:=by rw[hw3,hz];simp
    have ht3:=made_prs n (by omega) u6
    rw[←hw3,←hz] at ht3
    have hzw:w.heap.size≤z:=by rw[hz];exact ((E3.out.trans (E4.out.trans E6.out))).fr.size
    have hni:IntKind.i64.wrap (n:Int)=(n:Int):=by rw[IntKind.wrap_i64];omega
    have HT3:=Lib.hid (⟨ht3,hAt1.fr hf3 id⟩:_∧_)
    have he3:Ev w (fun k=>k=r) w3 (fun j=>j=r∨rown z (fun _=>nob) j):=
     ((E3.out.trans (E4.out.trans E6.out))).trans ⟨hf3.any,fun k hk=>hk.elim Or.inl (fun hk=>hk.elim (fun hk=>Or.inr (by omega)) (fun ⟨_,h⟩=>h.elim)),fun k hk=>hk.elim (fun hk=>Nat.lt_of_lt_of_le (E6.out.lt k hk) hf3.size) (fun hk=>hk.elim (fun hk=>by omega) (fun ⟨_,h⟩=>h.elim))⟩
    have HE3:=Lib.hid he3
    have HW3:=Lib.hid hw3
    have HZ3:=Lib.hid hz
    have hno:∀j,rown z (fun _=>nob) j→w.heap.size≤j:=fun j hj=>hj.elim (fun hj=>by omega) (fun ⟨_,h⟩=>h.elim)
    have HNO:=Lib.hid hno
    clear hw3 hz hf3 ht3 hAt1 he3 hno
    go_wp2_with fail
    rw[←HW3.out,←HZ3.out]
    clear hmk hni
    go_loopw [28] (fun v28 wr=>∃(k:Nat) (O:Nat→Nat→Prop) (t:List Elt) (rest:List UInt8),v28= .int .i64 k∧k≤s.length∧E=pRest s (pCols n (s.drop k) (t.map (·.p.row)) rest)∧Rows O wr z n t∧t.length=n∧(∀x∈t,x.p.row.length=k)∧At wr r a l cap rest∧Ev w (fun j=>j=r) wr (fun j=>j=r∨rown z O j)∧(∀j,rown z O j→w.heap.size≤j)) (fun v28 _=>s.length - (intOf v28).toNat)
    case atStart=>exact ⟨0,fun _=>nob,List.replicate n ezero,d1,rfl,Nat.zero_le _,by rw[HE1.out,List.drop_zero,List.map_replicate];rfl,HT3.out.1,by simp,fun x hx=>by rw[List.eq_of_mem_replicate hx];rfl,HT3.out.2,HE3.out,HNO.out⟩
    case round=>
     obtain ⟨k,O,t,rest,rfl,hk,hEk,hrows,htl,htr,hAt,hev,hno⟩:=hrel
     obtain ⟨wo,rfl⟩:∃x1,x1=wr:=⟨_,rfl⟩
     have HEV:=Lib.hid hev
     have HEK:=Lib.hid hEk
     have HRO:=Lib.hid hrows
     have HTR:=Lib.hid htr
     have HAT:=Lib.hid hAt
     have HNO2:=Lib.hid hno
     clear hev hEk hrows hAt hno htr HE HE1
     by_cases hlt:k<s.length
     · obtain ⟨b1,off,rfl,_,hk64,hnl,c0,c1⟩:=col_at (HS.out _ _ HEV.out) hlt
       obtain ⟨x2,hx2⟩:∃x1,x1=wo.alloc (.cells #[.string (bs s[k].name), .int .i64 s[k].kind] 71 (0,0)):=⟨_,rfl⟩
       have hf2:Fr nob wo x2:=by rw[hx2];exact (Fr.refl nob _).alloc _
       have HX2:=Lib.hid hx2
       have HF2:=Lib.hid hf2
       clear hf2 hx2
       have E7:=Lib.hid (Ev.of HF2.out HEV.out.lt)
       have G7:=Lib.hid HF2.out
       have hct:=colTake_o _ x2 r (by have:=((HEV.out.trans E7.out)).fr.size;omega) (fun h=>h.2 (Or.inl rfl)) (fun j hj=>hj.1) a cap l rest (HAT.out.fr HF2.out id) (HB.out _ _ (HEV.out.trans E7.out)) hn s[k].kind n hn1024 (HLA.out.go ((HEV.out.trans E7.out)).fr)
       cases ho:pCol s[k].kind n rest with
       | bad c d2=>
         have HEK1:=Lib.hid (HEK.out.trans (by rw[pCols_fall hlt ho];rfl:_=Res.bad c d2))
         rw[ho] at hct
         have hc2:=hct.mono (R' :=fun e w' =>e= .panicked (broken r c)∧Fr (fun j=>j=r) _ w' ∧At w' r a l cap d2∧c≠0∧c<256) (fun e w' h=>by obtain ⟨rfl,h1,h2⟩:=ROut.bad h rfl;exact ⟨rfl,h1,h2⟩)
         clear hct
         go_wp2_with fail
         rw[←HX2.out]
         refine (hc2).mono ?_
         rintro e u8 ⟨rfl,hfr,hAt1,hc0,hc6⟩
         have E8:=Lib.hid (Ev.turn (hfr.mono (fun k _ h=>by subst h;exact Or.inl rfl)) E7.out.lt)
         have T8:=Lib.hid hfr
         clear hfr
         have HAT1:=Lib.hid (⟨hc0,hc6,hAt1⟩:_∧_∧_)
         clear hAt1 hc0 hc6 hc2
         go_wp2_with fail
         refine ⟨rfl,((HEV.out.trans (E7.out.trans E8.out))).fr,?_⟩
         rw[HEK1.out]
         exact ⟨rfl,HAT1.out⟩
       | ok xs d2=>
         have HEK1:=Lib.hid (HEK.out.trans (by rw[pCols_step hlt ho]))
         have hxn:=pCol_len ho
         rw[ho] at hct
         have hc2:=hct.mono (R' :=fun e w' =>(∃a' c',e= .returned (.slice a' n c')∧SV rCel 2 (newb x2 w') w' a' c' xs)∧Fr (fun j=>j=r) x2 w' ∧At w' r a l cap d2) (fun e w' h=>by obtain ⟨⟨a',c',rfl,h0⟩,h1,h2⟩:=ROut.ok h rfl;exact ⟨⟨a',c',by rw[hxn],h0⟩,h1,h2⟩)
         clear hct ho
         go_wp2_with fail
         rw[←HX2.out]
         refine (hc2).mono ?_
         rintro e u9 ⟨⟨ax,cx,rfl,hvx⟩,hfr,hAt1⟩
         have E9:=Lib.hid (Ev.turn (hfr.mono (fun k _ h=>by subst h;exact Or.inl rfl)) E7.out.lt)
         have T9:=Lib.hid hfr
         clear hfr
         have HXS:=Lib.hid hvx
         have HSZ:=Lib.hid (((HEV.out.trans (E7.out.trans E9.out))).fr.size)
         have HAT1:=Lib.hid hAt1
         clear hvx hAt1 hc2
         have hrO:∀j,rown z O j→j≠r:=fun j hj e=>by have:=HNO2.out j hj;omega
         have hrows1:=(HRO.out.frN HF2.out).fr T9.out (fun j hj=>hrO j hj)
         have hOx:∀j,rown z O j→j<x2.heap.size:=fun j hj=>Nat.lt_of_lt_of_le (HEV.out.lt j (Or.inr hj)) HF2.out.size
         have HR1:=Lib.hid (⟨hrows1,hrO,hOx⟩:_∧_∧_)
         clear hrows1 hrO hOx
         go_wp2_with fail
         go_loopw [38] (fun v38 wx=>∃(i:Nat) (O2:Nat→Nat→Prop) (t2:List Elt),v38= .int .i64 i∧i≤n∧t2.map (·.p.row)=grown (t.map (·.p.row)) xs i∧Rows O2 wx z n t2∧t2.length=n∧Ev u9 (rown z O) wx (rown z O2)) (fun v38 _=>n - (intOf v38).toNat)
         case atStart=>exact ⟨0,O,t,rfl,Nat.zero_le _,(grown_zero _ _).symm,HR1.out.1,htl,Ev.refl (fun j hj=>Nat.lt_of_lt_of_le (HR1.out.2.2 j hj) T9.out.size)⟩
         case round=>
          obtain ⟨i,O2,t2,rfl,hi,hgr,hrows2,htl2,hev2⟩:=hrel
          have HG2:=Lib.hid hgr
          have HR2:=Lib.hid hrows2
          have HE2:=Lib.hid hev2
          have HEB:=Lib.hid (Ev.beside (X:=fun j=>j=r) hev2 (fun j hj=>by subst hj;exact E9.out.lt _ (Or.inl rfl)))
          clear hgr hrows2 hev2
          by_cases hilt:i<n
          · have hil:i<t2.length:=by omega
            have hmr:(t.map (·.p.row)).length=xs.length:=by rw[List.length_map];omega
            have hxs:=HXS.out.fr rCel_ok HE2.out.fr (fun j hX hr=>by have:=HR1.out.2.2 j hr;have:=hX.1;omega)
            obtain ⟨b3,off3,rfl,_,hn64,htl3,e0,e1⟩:=cel_at hxs (k:=i) (by omega)
            have hlen:t2[i].p.row.length=k:=by
             rw[grown_row hmr HG2.out (by rw[List.length_map];omega) hil,List.getElem_map]
             exact HTR.out _ (List.getElem_mem _)
            have hgs:=grown_set hmr (i:=i) (by rw[List.length_map];omega)
            rw[←grown_row hmr HG2.out (by rw[List.length_map];omega) hil,←HG2.out] at hgs
            obtain ⟨q0,_,f0,_⟩:=HR2.out.tab.cells hil
            obtain ⟨hwt,_,hsv⟩:=HR2.out.row i t2[i] (List.getElem?_eq_getElem hil)
            have hpush:=fun (w1:World) (a1:Option Addr) (c1:Nat) (row:List Cel) (hf:Fr (O2 i) wr w1) (hl:row.length≤lim) hv=>HR2.out.push (a' :=a1) (c' :=c1) (fun j hj=>HE2.out.lt j hj) hil hf (row:=row) hl hv
            generalize xs[i]=y at hn64 htl3 e0 e1 hgs
            generalize t2[i]=p at hlen hgs q0 hwt hsv hpush
            obtain ⟨⟨row,wt⟩,ra,rc⟩:=p
            obtain ⟨yn,yt⟩:=y
            simp only at hlen hgs q0 hwt hsv hpush hn64 htl3 e0 e1
            obtain ⟨hvec,hfit⟩:=cels_vec hsv
            rw[hlen] at hvec q0
            have HSV:=Lib.hid (⟨hvec,hfit⟩:_∧_)
            have HGS:=Lib.hid hgs
            have HPU:=Lib.hid hpush
            obtain ⟨x5,hx5⟩:∃x1,x1=wr.alloc (.cells #[.int .u64 yn, .string (bs yt)] 74 (0,0)):=⟨_,rfl⟩
            obtain ⟨z5,hz5⟩:∃x1,x1=wr.heap.size:=⟨_,rfl⟩
            have hf5:Fr nob wr x5:=by rw[hx5];exact (Fr.refl nob wr).alloc _
            have hb5:=heap_new wr (.cells #[.int .u64 yn, .string (bs yt)] 74 (0,0))
            rw[←hx5,←hz5] at hb5
            have hzO:¬O2 i z5:=fun h=>by have:=HE2.out.lt z5 (Or.inr ⟨i,h⟩);omega
            have hzz:¬O2 i z:=fun h=>HR2.out.off i z h rfl
            have q5:=hf5.cell q0 id
            have g5:=hf5.frozen q0 id
            rw[f0] at g5
            rw[Nat.zero_add] at q5 g5
            have p0:∀y,Fr (fun j=>O2 i j) x5 y→y.cell? ⟨z,i*2,none⟩=some (.slice ra k rc):=fun y hy=>hy.cell q5 hzz
            have p1:∀y,Fr (fun j=>O2 i j) x5 y→y.cell? ⟨z5,0,none⟩=some (.int .u64 yn):=fun y hy=>by have:=cell_of (hy.heap hb5 hzO) 0;simpa using this
            have p2:∀y,Fr (fun j=>O2 i j) x5 y→y.cell? ⟨z5,1,none⟩=some (.string (bs yt)):=fun y hy=>by have:=cell_of (hy.heap hb5 hzO) 1;simpa using this
            have HF5:=Lib.hid (⟨hf5,q5,g5,hzz⟩:_∧_∧_∧_)
            clear hsv hvec hfit hgs hpush hf5 hb5 q0 f0 q5 g5 hxs hmr hzz hzO
            go_wp2_with fail
            rw[←hz5,←hx5]
            clear hx5 hz5 e0 e1
            refine wp_region_ord2 10 [(0,true),(1,true),(2,true),(3,true),(4,true),(5,true),(6,true),(7,true),(8,false),(9,false)] [(10,true),(11,true),(12,false)] (Fr (fun j=>O2 i j) x5) rfl (by kernel_rfl) (by kernel_rfl) (by kernel_rfl) (by decide) (fun c a d v w h=>by cases d<;>exact h) ((Fr.refl _ x5).drew) (fun ops hops hS=>?_)
            repeat (apply wpOrdB_free _ _ (by rw[hops.out];rfl) (by first | exact Wants.plain rfl | exact Wants.yes rfl (by rw[hops.out];rfl) rfl rfl);(focus (intro x hx;go_simp;rfl));go_simp)
            refine wpOrdB_act _ (by rw[hops.out];rfl) (by first | exact Wants.plain rfl | exact Wants.yes rfl (by rw[hops.out];rfl) rfl rfl) (fun K hK=>?_)
            go_wp2_with fail
            have g1:Fr (fun j=>O2 i j) x5 (x5.alloc (.cells #[.int .u64 yn, .string (bs yt)] 74)).drew:=((Fr.refl _ x5).alloc _).drew
            have n1:Fr nob x5 (x5.alloc (.cells #[.int .u64 yn, .string (bs yt)] 74)).drew:=((Fr.refl _ x5).alloc _).drew
            have hlit:=Vec.newrow x5 #[.int .u64 yn, .string (bs yt)] 74 (size:=2) (n:=1) rfl (by unfold maxLen;omega) (by simp[Value.oneCell'])
            refine ⟨_,fun _ h=>h,g1,?_⟩
            refine wpOrdB_act _ (by rw[hops.out];rfl) (by first | exact Wants.plain rfl | exact Wants.yes rfl (by rw[hops.out];rfl) rfl rfl) (fun K hK=>?_)
            refine wp_append_vec _ _ _ _ rfl rfl ((HSV.out.1.frN HF5.out.1).frN n1) _ _ _ Tryz.underlying64 inf_Cell rfl _ 1 _ rfl ((hlit.frN (Fr.refl nob _).drew).src (P:=Tryz.prog) Tryz.underlying64) (by unfold maxLen;omega) (by omega) ?_
            intro a6 c6 w6 hv6 hf6 _
            have g6:Fr (fun j=>O2 i j) x5 w6:=g1.trans' hf6
            refine hK _ _ ⟨_,fun _ h=>h,g6,?_⟩
            clear hK
            go_simp
            repeat (apply wpOrdB_free _ _ (by rw[hops.out];rfl) (by first | exact Wants.plain rfl | exact Wants.yes rfl (by rw[hops.out];rfl) rfl rfl);(focus (intro x hx;go_simp;rfl));go_simp)
            refine wpOrdB_nil (fun _=>True) trivial ?_
            have k6:=g6.cell HF5.out.2.1 HF5.out.2.2.2
            have z6:=g6.frozen HF5.out.2.1 HF5.out.2.2.2
            rw[HF5.out.2.2.1] at z6
            have hfw:Fr (O2 i) wr w6:=HF5.out.1.any.trans' g6
            have hss:wr.heap.size≤x5.heap.size:=HF5.out.1.size
            have hv6' :SV rCel 2 (grow (O2 i) wr w6) w6 a6 c6 (row++[⟨yn,yt⟩]):=by
             refine vec_cels ?_ ?_
             · rw[List.length_append,List.flatMap_append,hlen]
               have hgr:∀j,grow (fun j=>O2 i j) (x5.alloc (.cells #[.int .u64 yn, .string (bs yt)] 74)).drew w6 j→grow (O2 i) wr w6 j:=fun j hj=>hj.elim Or.inl (fun hj=>Or.inr ⟨by have:=hj.1;simp at this;omega,hj.2⟩)
               exact hv6.mono hgr
             · intro c hc
               rcases List.mem_append.1 hc with hc | hc
               · exact HSV.out.2 c hc
               · rw[List.mem_singleton.1 hc];exact ⟨hn64,htl3⟩
            obtain ⟨hp7,hf7⟩:=HPU.out w6 a6 c6 (row++[⟨yn,yt⟩]) hfw (by simp only[List.length_append,List.length_singleton];unfold lim;omega) hv6'
            rw[Nat.zero_add] at hp7 hf7
            have hrl:(row++[(⟨yn,yt⟩:Cel)]).length=k+1:=by simp[hlen]
            rw[hrl] at hp7 hf7
            have HP7:=Lib.hid (⟨hp7,hf7,hfw⟩:_∧_∧_)
            clear hp7 hf7 hfw hv6' hv6 hf6 hlit g1 n1 hS p0 p1 p2 g6 hss
            repeat (apply oF hops (by rfl) (by first | exact .plain rfl | exact .y hops rfl rfl rfl rfl);(focus (intro x hx;go_simp;rfl));go_simp)
            refine oA hops (by rfl) (by first | exact .plain rfl | exact .y hops rfl rfl rfl rfl) (fun K hK=>?_)
            go_wp2_with fail
            refine ⟨_,fun _ h=>h,trivial,wpOrd_nil ?_⟩
            obtain ⟨w7,hw7⟩:∃x1,x1=w6.setCell ⟨z,i*2,none⟩ (.slice a6 (k+1) c6):=⟨_,rfl⟩
            rw[←hw7] at HP7 ⊢
            clear hw7 k6 z6
            go_wp2_with fail
            go_roundw
            case rel=>
             obtain ⟨hp7,hf7,hfw⟩:=HP7.out
             have hro:=rput_own (i:=i) hfw.size (fun j hj=>HE2.out.lt j hj)
             refine ⟨i+1,rput O2 i wr w6,_,by go_num,by omega,?_,hp7,by rw[List.length_set];exact htl2,HE2.out.trans ⟨?_,hro.1,fun j hj=>Nat.lt_of_lt_of_le (hro.2 j hj) hf7.size⟩⟩
             · rw[List.map_set];exact HGS.out
             · exact (hfw.mono (fun j _ hj=>Or.inr ⟨i,hj⟩)).trans hf7 (fun j _ hj=>Or.inl hj)
            case measure=>simp[intOf];omega
          · obtain rfl:i=n:=by omega
            have hmr:(t.map (·.p.row)).length=xs.length:=by rw[List.length_map];omega
            have hga:=grown_all hmr
            rw[List.length_map,htl,←HG2.out] at hga
            have HGA:=Lib.hid hga
            have hat2:=HAT1.out.fr HE2.out.fr (fun h=>HR1.out.2.1 r h rfl)
            have HAT2:=Lib.hid hat2
            clear hga hat2 hmr
            go_wp2_with fail
            go_roundw
            case rel=>
             refine ⟨k+1,O2,t2,d2,by go_num,by omega,by rw[HEK1.out,HGA.out],HR2.out,htl2,?_,HAT2.out,(HEV.out.trans (E7.out.trans (E9.out.trans HEB.out))),fun j hj=>?_⟩
             · intro x hx
               have hm:x.p.row∈t2.map (·.p.row):=List.mem_map.2 ⟨x,hx,rfl⟩
               rw[HGA.out] at hm
               obtain ⟨q,hq,hqe⟩:=List.mem_iff_getElem.1 hm
               rw[←hqe,List.getElem_zipWith,List.length_append,List.getElem_map,HTR.out _ (List.getElem_mem _)]
               rfl
             · rcases HE2.out.own j hj with hj | hj
               · exact HNO2.out j hj
               · exact Nat.le_trans HSZ.out hj
            case measure=>simp[intOf];omega
     · obtain rfl:k=s.length:=by omega
       have HEK1:=Lib.hid (show E=pFin s ((pWeights ((t.map (·.p.row)).drop 0) rest).pre ((t.map (·.p)).take 0)) by
        rw[HEK.out,pCols_end,List.drop_zero,List.take_zero,Res.pre_nil];rfl)
       clear HEK
       go_wp2_with fail
       go_loopw [59] (fun v59 wx=>∃(q:Nat) (t2:List Elt) (rest2:List UInt8),v59= .int .i64 q∧q≤n∧t2.map (·.p.row)=t.map (·.p.row)∧E=pFin s ((pWeights ((t.map (·.p.row)).drop q) rest2).pre ((t2.map (·.p)).take q))∧Rows O wx z n t2∧t2.length=n∧At wx r a l cap rest2∧Ev w (fun j=>j=r) wx (fun j=>j=r∨rown z O j)) (fun v59 _=>n - (intOf v59).toNat)
       case atStart=>exact ⟨0,t,rest,rfl,Nat.zero_le _,rfl,HEK1.out,HRO.out,htl,HAT.out,HEV.out⟩
       case round=>
        obtain ⟨q,t2,rest2,rfl,hq,hmr,hEk,hrows2,htl2,hat2,hev2⟩:=hrel
        obtain ⟨wp,rfl⟩:∃x1,x1=wr:=⟨_,rfl⟩
        have HE2:=Lib.hid hev2
        have HR2:=Lib.hid hrows2
        have HAT2:=Lib.hid hat2
        have HMR:=Lib.hid hmr
        have HEQ:=Lib.hid hEk
        have hzr:z≠r:=fun e=>by have:=HNO2.out z (Or.inl rfl);omega
        clear hev2 hrows2 hat2 hmr hEk HEK1
        by_cases hqn:q<n
        · have hc:=rInt_o _ wp r a cap l rest2 HAT2.out (HB.out _ _ HE2.out) hn
          have hrl:q<(t.map (·.p.row)).length:=by rw[List.length_map];omega
          cases ho:pInt rest2 with
          | bad c d3=>
            have HEK1:=Lib.hid (HEQ.out.trans (by rw[pWeights_fall hrl ho];rfl:_=Res.bad c d3))
            rw[ho] at hc
            have hc2:=hc.mono (R' :=fun e w' =>e= .panicked (broken r c)∧Fr (fun j=>j=r) wp w' ∧At w' r a l cap d3∧c≠0∧c<256) (fun e w' h=>by obtain ⟨rfl,h1,h2⟩:=ROut.bad h rfl;exact ⟨rfl,h1,h2⟩)
            clear hc
            go_wp2_with fail
            refine (hc2).mono ?_
            rintro e u10 ⟨rfl,hfr,hAt1,hc0,hc6⟩
            have E10:=Lib.hid (Ev.turn (hfr.mono (fun k _ h=>by subst h;exact Or.inl rfl)) HE2.out.lt)
            have T10:=Lib.hid hfr
            clear hfr
            have HAT1:=Lib.hid (⟨hc0,hc6,hAt1⟩:_∧_∧_)
            clear hAt1 hc0 hc6 hc2
            go_wp2_with fail
            refine ⟨rfl,((HE2.out.trans E10.out)).fr,?_⟩
            rw[HEK1.out]
            exact ⟨rfl,HAT1.out⟩
          | ok x d3=>
            obtain ⟨hx64,_⟩:=pInt_ok.1 ho
            rw[ho] at hc
            have hc2:=hc.mono (R' :=fun e w' =>e= .returned (.int .i64 x)∧Fr (fun j=>j=r) wp w' ∧At w' r a l cap d3) (fun e w' h=>by obtain ⟨rfl,h1,h2⟩:=ROut.ok h rfl;exact ⟨rfl,h1,h2⟩)
            clear hc
            go_wp2_with fail
            refine (hc2).mono ?_
            rintro e u11 ⟨rfl,hfr,hAt1⟩
            have E11:=Lib.hid (Ev.turn (hfr.mono (fun k _ h=>by subst h;exact Or.inl rfl)) HE2.out.lt)
            have T11:=Lib.hid hfr
            clear hfr
            clear hc2
            have hil:q<t2.length:=by omega
            have hrows3:=HR2.out.fr T11.out (fun j hj e=>by have:=HNO2.out j hj;omega)
            obtain ⟨hrows4,hf4⟩:=hrows3.weigh hil hx64
            obtain ⟨_,k3,_,z3⟩:=hrows3.tab.cells hil
            rw[Nat.zero_add] at hrows4 hf4 k3 z3
            obtain ⟨w4,hw4⟩:∃x1,x1=(u11).setCell ⟨z,q*2+1,none⟩ (.int .i64 x):=⟨_,rfl⟩
            rw[←hw4] at hrows4 hf4
            have hat4:=hAt1.fr hf4 (fun e=>hzr e.symm)
            have HE4:=Lib.hid (Ev.turn (hf4.mono (T:=(fun j=>j=r∨rown z O j)) (fun j _ hj=>Or.inr (Or.inl hj))) E11.out.lt)
            have HR4:=Lib.hid (⟨hrows4,hat4⟩:_∧_)
            have HW4:=Lib.hid hw4
            clear hrows3 hrows4 hf4 hat4 hw4 hAt1
            by_cases hx0:x=0
            · subst hx0
              have HEK1:=Lib.hid (HEQ.out.trans (by rw[pWeights_zero hrl ho];rfl:_=Res.bad 2 d3))
              have hmo:=mustN_bad r a cap l d3 2 w4 HR4.out.2 (by omega) (by omega)
              go_wp2_with fail
              rw[←HW4.out]
              clear k3 z3
              refine (hmo).mono ?_
              rintro e u12 ⟨rfl,hfr⟩
              have E12:=Lib.hid (Ev.of hfr HE4.out.lt)
              have G12:=Lib.hid hfr
              clear hfr
              have HAT1:Hid (2≠0∧2<256∧At _ r a l cap d3):=Lib.hid ⟨by omega,by omega,HR4.out.2.fr G12.out id⟩
              clear hmo
              go_wp2_with fail
              refine ⟨rfl,((HE2.out.trans (E11.out.trans (HE4.out.trans E12.out)))).fr,?_⟩
              rw[HEK1.out]
              exact ⟨rfl,HAT1.out⟩
            · have hxb:(x != 0)=true:=by rw[bne_iff_ne];exact hx0
              have HEK1:=Lib.hid (HEQ.out.trans (by rw[pWeights_step hrl ho hx0]))
              have hmo:=mustN_ok r a cap l d3 true 2 w4 HR4.out.2 (Or.inl rfl)
              go_wp2_with fail
              rw[←HW4.out]
              clear k3 z3
              refine (hmo).mono ?_
              rintro e u13 ⟨rfl,hfr⟩
              have E13:=Lib.hid (Ev.of hfr HE4.out.lt)
              have G13:=Lib.hid hfr
              clear hfr
              clear hmo
              go_wp2_with fail
              go_roundw
              case rel=>
               refine ⟨q+1,_,d3,by go_num,by omega,(row_set hil x).trans HMR.out,?_,HR4.out.1.frN G13.out,by rw[List.length_set];exact htl2,HR4.out.2.fr G13.out id,(HE2.out.trans (E11.out.trans (HE4.out.trans E13.out)))⟩
               rw[HEK1.out,List.map_set,take_set (by rw[List.length_map];exact hil)]
               congr 4
               have:=congrArg (fun m=>m[q]?) HMR.out
               simp only[List.getElem?_map,List.getElem?_eq_getElem hil,List.getElem?_eq_getElem (show q<t.length by omega),Option.map_some,Option.some.injEq] at this
               rw[List.getElem_map,this]
              case measure=>simp[intOf];omega
        · obtain rfl:q=n:=by omega
          have HEK1:=Lib.hid (show E=(if ordered s ((t2.map (·.p)).drop (1 - 1))=true then .ok (t2.map (·.p)) rest2 else .bad 9 rest2) by
           have h1:(t.map (·.p.row)).length=q:=by rw[List.length_map];exact htl
           have h2:((pWeights ((t.map (·.p.row)).drop q) rest2).pre ((t2.map (·.p)).take q))= .ok (t2.map (·.p)) rest2:=by
            rw[←h1,pWeights_end,h1,List.take_of_length_le (by rw[List.length_map];omega)]
           rw[HEQ.out,h2];rfl)
          clear HEQ
          go_wp2_with fail
          go_loopw [13] (fun v13 wx=>∃(j:Nat),v13= .int .i64 j∧1≤j∧E=(if ordered s ((t2.map (·.p)).drop (j - 1))=true then .ok (t2.map (·.p)) rest2 else .bad 9 rest2)∧Rows O wx z q t2∧At wx r a l cap rest2∧Ev w (fun j=>j=r) wx (fun j=>j=r∨rown z O j)) (fun v13 _=>q+1 - (intOf v13).toNat)
          case atStart=>exact ⟨1,rfl,Nat.le_refl _,HEK1.out,HR2.out,HAT2.out,HE2.out⟩
          case round=>
           obtain ⟨j,rfl,hj,hEj,hrows5,hat5,hev5⟩:=hrel
           obtain ⟨ws,rfl⟩:∃x1,x1=wr:=⟨_,rfl⟩
           have HE5:=Lib.hid hev5
           have HR5:=Lib.hid hrows5
           have HAT5:=Lib.hid hat5
           have HEJ:=Lib.hid hEj
           clear hev5 hrows5 hat5 hEj HEK1
           by_cases hjn:j<q
           · obtain ⟨m,rfl⟩:∃m,j=m+1:=⟨j - 1,by omega⟩
             have hml:m<t2.length:=by omega
             have hml1:m+1<t2.length:=by omega
             obtain ⟨q0,_⟩:=HR5.out.tab.cells hml
             obtain ⟨q1,_⟩:=HR5.out.tab.cells hml1
             rw[Nat.zero_add] at q0 q1
             obtain ⟨_,hle0,hsv0⟩:=HR5.out.row m _ (List.getElem?_eq_getElem hml)
             obtain ⟨_,hle1,hsv1⟩:=HR5.out.row (m+1) _ (List.getElem?_eq_getElem hml1)
             have hst:=ordered_step (s:=s) (a:=t2.map (·.p)) (k:=m+1) (by omega) (by rw[List.length_map];exact hml1)
             simp only[Nat.add_sub_cancel,List.getElem_map] at hst
             have hej:=HEJ.out
             rw[Nat.add_sub_cancel,hst] at hej
             have hcmp:=fun (u:World) (hu:Fr nob ws u)=>rowcmp_any _ _ _ u b t2[m].a t2[m+1].a cb t2[m].c t2[m+1].c s t2[m].p.row t2[m+1].p.row (((HS.out _ _ HE5.out)).frN rCol_ok hu) (hsv0.frN rCel_ok hu) (hsv1.frN rCel_ok hu) ((HLA.out.go (HE5.out).fr).now.frN hu) h0 hle0 hle1
             generalize rowCmp s t2[m].p.row t2[m+1].p.row=rc at hcmp hej
             generalize t2[m].p.row.length=n0 at hcmp q0
             generalize t2[m+1].p.row.length=n1 at hcmp q1
             generalize t2[m].a=ra at hcmp q0
             generalize t2[m].c=ca at hcmp q0
             generalize t2[m+1].a=rb at hcmp q1
             generalize t2[m+1].c=cb' at hcmp q1
             have HEJ2:=Lib.hid hej
             have p0:∀y,Fr nob ws y→y.cell? ⟨z,m*2,none⟩=some (.slice ra n0 ca):=fun y hy=>hy.cell q0 id
             have p1:∀y,Fr nob ws y→y.cell? ⟨z,(m+1)*2,none⟩=some (.slice rb n1 cb'):=fun y hy=>hy.cell q1 id
             have hmq:m<q:=by omega
             have hwm:IntKind.i64.wrap (m:Int)=(m:Int):=by rw[IntKind.wrap_i64];omega
             clear hst hej hsv0 hsv1 hle0 hle1 q0 q1 HEJ
             go_wp2_with fail
             refine wp_region_ord [(0,true),(1,true),(2,true),(3,true),(4,true),(5,true),(6,true),(7,true),(8,true),(9,true),(10,true),(11,true),(12,true),(13,false),(14,true),(15,false)] (Fr nob ws) rfl (by kernel_rfl) (by kernel_rfl) (by decide) (fun c a d v w h=>by cases d<;>exact h) ((Fr.refl nob ws).drew) (fun ops hops hS=>?_)
             obtain ⟨d14,hdw⟩:∃d,d=ws.drew:=⟨_,rfl⟩
             rw[←hdw] at hS ⊢
             have G14:Hid (Fr nob ws d14):=Lib.hid (by rw[hdw];exact (Fr.refl nob ws).drew)
             have E14:=Lib.hid (Ev.of G14.out HE5.out.lt)
             clear hdw
             repeat (first | (apply oF hops (by rfl) (by first | exact .plain rfl | exact .y hops rfl rfl rfl rfl);(focus (intro x hx;go_simp;rfl));go_simp) | (apply oS hops (by rfl) (by first | exact .n hops rfl rfl rfl rfl | exact .u hops rfl rfl rfl rfl);go_simp) | (apply oP hops (by rfl) (by first | exact .n hops rfl rfl rfl rfl | exact .u hops rfl rfl rfl rfl) (by assumption);go_simp))
             refine oA hops (by rfl) (by first | exact .plain rfl | exact .y hops rfl rfl rfl rfl) (fun K hK=>?_)
             go_wp2_with fail
             refine (hcmp _ G14.out).mono ?_
             rintro e u15 ⟨rfl,hfr⟩
             have E15:=Lib.hid (Ev.of hfr E14.out.lt)
             have G15:=Lib.hid hfr
             clear hfr
             refine hK _ _ ⟨_,fun _ h=>h,(G14.out.andN G15.out),?_⟩
             clear hK
             go_simp
             repeat (first | (apply oF hops (by rfl) (by first | exact .plain rfl | exact .y hops rfl rfl rfl rfl);(focus (intro x hx;go_simp;rfl));go_simp) | (apply oS hops (by rfl) (by first | exact .n hops rfl rfl rfl rfl | exact .u hops rfl rfl rfl rfl);go_simp) | (apply oP hops (by rfl) (by first | exact .n hops rfl rfl rfl rfl | exact .u hops rfl rfl rfl rfl) (by assumption);go_simp))
             clear hcmp p0 p1 hwm
             by_cases hrc:rc<0
             · have hrd:decide (rc<0)=true:=decide_eq_true hrc
               have HEK2:=Lib.hid (HEJ2.out.trans (by rw[hrd,Bool.true_and]))
               have hmo:=mustN_ok r a cap l rest2 true 9 u15 (HAT5.out.fr (G14.out.andN G15.out) id) (Or.inl rfl)
               refine oA hops (by rfl) (by first | exact .plain rfl | exact .y hops rfl rfl rfl rfl) (fun K hK=>?_)
               go_wp2_with fail
               refine (hmo).mono ?_
               rintro e u16 ⟨rfl,hfr⟩
               have E16:=Lib.hid (Ev.of hfr E15.out.lt)
               have G16:=Lib.hid hfr
               clear hfr
               refine hK _ _ ⟨_,fun _ h=>h,(G14.out.andN (G15.out.andN G16.out)),?_⟩
               clear hK
               go_simp
               repeat (first | (apply oF hops (by rfl) (by first | exact .plain rfl | exact .y hops rfl rfl rfl rfl);(focus (intro x hx;go_simp;rfl));go_simp) | (apply oS hops (by rfl) (by first | exact .n hops rfl rfl rfl rfl | exact .u hops rfl rfl rfl rfl);go_simp) | (apply oP hops (by rfl) (by first | exact .n hops rfl rfl rfl rfl | exact .u hops rfl rfl rfl rfl) (by assumption);go_simp))
               apply wpOrd_nil
               clear hmo hrd
               go_wp2_with fail
               go_roundw
               case rel=>exact ⟨m+1+1,by go_num,by omega,by rw[Nat.add_sub_cancel];exact HEK2.out,HR5.out.frN (G14.out.andN (G15.out.andN G16.out)),HAT5.out.fr (G14.out.andN (G15.out.andN G16.out)) id,(HE5.out.trans (E14.out.trans (E15.out.trans E16.out)))⟩
               case measure=>simp[intOf];omega
             · have hrd:decide (rc<0)=false:=decide_eq_false hrc
               have HEK1:=Lib.hid (HEJ2.out.trans (by rw[hrd,Bool.false_and];rfl:_=Res.bad 9 rest2))
               have hmo:=mustN_bad r a cap l rest2 9 u15 (HAT5.out.fr (G14.out.andN G15.out) id) (by omega) (by omega)
               refine oA hops (by rfl) (by first | exact .plain rfl | exact .y hops rfl rfl rfl rfl) (fun K hK=>?_)
               go_wp2_with fail
               refine hmo.mono ?_
               rintro e u9 ⟨rfl,hfr⟩
               have EQ9:=Lib.hid (Ev.of hfr E15.out.lt)
               have HAT1:Hid (9≠0∧9<256∧At u9 r a l cap rest2):=Lib.hid ⟨by omega,by omega,(HAT5.out.fr (G14.out.andN G15.out) id).fr hfr id⟩
               clear hfr hmo hK hrd
               go_wp2_with fail
               refine ⟨rfl,((HE5.out.trans (E14.out.trans (E15.out.trans EQ9.out)))).fr,?_⟩
               rw[HEK1.out]
               exact ⟨rfl,HAT1.out⟩
           · have HEK2:=Lib.hid (HEJ.out.trans (by rw[ordered_end (by rw[List.length_map];omega)];rfl:_=Res.ok (t2.map (·.p)) rest2))
             go_wp2_with fail
             go_ret
             refine ⟨(HE5.out).fr,?_⟩
             rw[HEK2.out]
             refine ⟨⟨some ⟨z,0,none⟩,q,by rw[List.length_map,htl2];rfl,HR5.out.prs.mono rPr_ok (fun j hj=>⟨HNO2.out j hj,(HE5.out).lt j (Or.inr hj)⟩)⟩,HAT5.out⟩
def schemaPrint (s:List Col):Nat:=if schemaCheck s=0 then crcSum (schemaBytes s) else 0
set_option maxRecDepth 100000 in
set_option maxHeartbeats 2000000 in
theorem schemaPrint_any (S:Nat→Prop) (w:World) (a:Option Addr) (cap:Nat) (s:List Col) (hs:SV rCol 2 S w a cap s) (hL:Laid w) (hl:s.length≤lim) (hS:∀k,S k→k<w.heap.size):
 Calls Tryz.prog 93 #[.slice a s.length cap] w fun e w' =>e= .returned (.tuple #[.int .u32 (schemaPrint s:Nat), .int .i64 (schemaCheck s:Nat)])∧Fr nob w w' :=by
 have hc:=schemaWrite_any S w a cap s hs hL hl hS
 clear hs hL hS
 go_enter Tryz.func93,Tryz.ntmps93
 go_wp2_with fail
 refine (hc).mono ?_
 rintro e u1 ⟨a1,c1,rfl,hfr,hv⟩
 have E1:=Lib.hid (Ev.of hfr (nob_lt _))
 have G1:=Lib.hid hfr
 clear hfr
 have HV:=Lib.hid hv
 clear hv hc
 by_cases h1:schemaCheck s=0
 · have hw:schemaW s=schemaBytes s:=by unfold schemaW;rw[if_pos h1]
   have hp:schemaPrint s=crcSum (schemaBytes s):=by unfold schemaPrint;rw[if_pos h1]
   rw[hw] at HV ⊢
   rw[h1]
   have HP:=Lib.hid hp
   have H1:=Lib.hid h1
   have hlen:(schemaBytes s).length≤1000:=by
    have:=schemaPre_le h1 s.length (Nat.le_refl _)
    rw[schemaPre_all] at this
    have:=(schemaCheck_le h1).2
    omega
   clear hw hp h1
   go_wp2_with fail
   refine (crcsum_any _ _ a1 c1 (schemaBytes s) HV.out (by omega)).mono ?_
   rintro e u2 ⟨rfl,hfr⟩
   have E2:=Lib.hid (Ev.of hfr E1.out.lt)
   have G2:=Lib.hid hfr
   clear hfr
   go_wp2_with fail
   go_ret2
   rw[HP.out,H1.out]
   exact ⟨rfl,((E1.out.trans E2.out)).toN⟩
 · have hp:schemaPrint s=0:=by unfold schemaPrint;rw[if_neg h1]
   have HP:=Lib.hid hp
   have d1:=intne h1
   clear hp h1
   go_wp2_with fail
   go_ret2
   rw[HP.out]
   exact ⟨rfl,(E1.out).toN⟩
def nextF (b:List UInt8):Nat×List UInt8×Nat×Nat:=match b with
 | []=>(0,[],0,5)
 | k::r=>if 2<k.toNat then (0,[],0,10) else if (getBs 1048576 r).2.2≠0 then (0,[],0,(getBs 1048576 r).2.2)
   else if b.length<1+(getBs 1048576 r).2.1+4 then (0,[],0,5)
   else if crcOpen (b.take (1+(getBs 1048576 r).2.1+4))=none then (0,[],0,8)
   else (k.toNat,(getBs 1048576 r).1,1+(getBs 1048576 r).2.1+4,0)
def pSchCols:Nat→List (List UInt8)→List UInt8→Res (List Col)
 | 0,_,d=> .ok [] d
 | n+1,xs,d=>match pBytes 32 d with
   | .bad e r=> .bad e r
   | .ok b r=>if (nameOk b&&!(decide (b∈xs)))=false then .bad 2 r else match pByte r with
     | .bad e q=> .bad e q
     | .ok c q=>if kindOk c.toNat=false then .bad 10 q else (pSchCols n (b::xs) q).pre [⟨b,c.toNat⟩]
def pSchema (d:List UInt8):Res (List Col):=match pUint 8 d with
 | .bad e r=> .bad e r
 | .ok n r=>if n=0 then .bad 4 r else pSchCols n [] r
def readS (b:List UInt8):List Col×Nat:=match pSchema b with
 | .ok v d=>if d.length=0 then (v,0) else ([],7)
 | .bad c d=>([],c)
def headF (b:List UInt8):List Col×Nat×Nat:=
 if magicL.isPrefixOf b=false then ([],0,6)
 else if (nextF (b.drop 4)).2.2.2≠0 then ([],4,(nextF (b.drop 4)).2.2.2)
 else if (nextF (b.drop 4)).1≠0 then ([],4,10)
 else if (readS (nextF (b.drop 4)).2.1).2≠0 then ([],4,(readS (nextF (b.drop 4)).2.1).2)
 else ((readS (nextF (b.drop 4)).2.1).1,4+(nextF (b.drop 4)).2.2.1,0)
def pEntry (s:List Col) (d:List UInt8):Res (Nat×List Pr):=match pUint 281474976710656 d with
 | .bad e r=> .bad e r
 | .ok q r=>match pBatch s r with
   | .bad e t=> .bad e t
   | .ok l t=> .ok (q,l) t
def readE (s:List Col) (kind:Nat) (p:List UInt8):Ent×Nat:=
 if schemaCheck s≠0 then (⟨0,0,[]⟩,schemaCheck s)
 else if kind≠1∧kind≠2 then (⟨0,0,[]⟩,10)
 else match pEntry s p with
  | .bad c d=>(⟨0,0,[]⟩,c)
  | .ok v d=>if d.length=0 then (⟨if kind=2 then 0 else 1,v.1,v.2⟩,0) else (⟨0,0,[]⟩,7)
noncomputable def stepF (s:List Col) (t:TSt) (d:List UInt8):Ent×Nat×Nat×TSt:=
 if 4096≤t.m then (⟨0,0,[]⟩,0,13,t)
 else if (nextF d).2.2.2≠0 then (⟨0,0,[]⟩,0,(nextF d).2.2.2,t)
 else if (readE s (nextF d).1 (nextF d).2.1).2≠0 then (⟨0,0,[]⟩,0,(readE s (nextF d).1 (nextF d).2.1).2,t)
 else ((readE s (nextF d).1 (nextF d).2.1).1,(nextF d).2.2.1,(takeF s t (readE s (nextF d).1 (nextF d).2.1).1).1,(takeF s t (readE s (nextF d).1 (nextF d).2.1).1).2)
structure Mark where
 q:Int
 o:Int
 p:Nat
instance:Inhabited Mark:=⟨⟨0,0,0⟩⟩
structure Dec where
 sch:List Col
 ents:List Ent
 marks:List Mark
 at_:Nat
 err:Nat
noncomputable def decGo (s:List Col):Nat→TSt→Nat→List Ent→List Mark→List UInt8→Dec×TSt
 | 0,t,at_,l,m,d=>(⟨s,l,m,at_,0⟩,t)
 | n+1,t,at_,l,m,d=>if d.length=0 then (⟨s,l,m,at_,0⟩,t)
   else if (stepF s t d).2.2.1≠0 then (⟨[],[],[],at_,(stepF s t d).2.2.1⟩,t)
   else decGo s n (stepF s t d).2.2.2 (at_+(stepF s t d).2.1) (l++[(stepF s t d).1]) (m++[⟨(stepF s t d).2.2.2.q,at_+(stepF s t d).2.1,schemaPrint s⟩]) (d.drop (stepF s t d).2.1)
noncomputable def decT (b:List UInt8):Dec×TSt:=
 if (headF b).2.2≠0 then (⟨[],[],[],(headF b).2.1,(headF b).2.2⟩, .zero)
 else decGo (headF b).1 b.length .zero (headF b).2.1 [] [⟨0,(headF b).2.1,schemaPrint (headF b).1⟩] (b.drop (headF b).2.1)
noncomputable def decF (b:List UInt8):Dec:=(decT b).1
theorem getBs_zero {most:Nat} {d:List UInt8} (h:(getBs most d).2.2=0):∃r,(getBs most d).1.length≤most∧d=lenBytes (getBs most d).1++r∧(getBs most d).2.1=(lenBytes (getBs most d).1).length∧r=d.drop (getBs most d).2.1:=by
 have h1:pBytes most d= .ok (getBs most d).1 (d.drop (getBs most d).2.1):=by unfold pBytes;rw[if_pos h]
 obtain ⟨h2,h3,h4⟩:=pBytes_ok.1 h1
 refine ⟨_,h3,h4,?_,rfl⟩
 have h5:=congrArg List.length h4
 rw[List.length_append,List.length_drop] at h5
 have:=getBs_n most d
 omega
theorem getBs_of {most:Nat} {p r:List UInt8} (h:p.length≤most) (h64:p.length<18446744073709551616):getBs most (lenBytes p++r)=(p,(lenBytes p).length,0):=by
 have h1:pBytes most (lenBytes p++r)= .ok p r:=pBytes_ok.2 ⟨h64,h,rfl⟩
 unfold pBytes at h1
 split at h1
 · rename_i h0
   have h2:=Res.ok.inj h1
   obtain ⟨q,h3,h4,h5,h6⟩:=getBs_zero h0
   rw[h2.1] at h5
   exact Prod.ext h2.1 (Prod.ext h5 h0)
 · cases h1
theorem crcSeal_len (x:List UInt8):(crcSeal x).length=x.length+4:=by simp[crcSeal,crcPut_len]
theorem nextF_of {k:Nat} (hk:k≤2) {p:List UInt8} (hp:p.length≤1048576) (r:List UInt8):nextF (frameBytes k p++r)=(k,p,(frameBytes k p).length,0):=by
 have hk' :(UInt8.ofNat k).toNat=k:=toNat_ofNat8 (by omega)
 have hfl:(frameBytes k p).length=1+(lenBytes p).length+4:=by unfold frameBytes;rw[crcSeal_len];simp;omega
 have he:frameBytes k p++r=UInt8.ofNat k::(lenBytes p++(crcPut (crcSum ([UInt8.ofNat k]++lenBytes p))++r)):=by
  unfold frameBytes crcSeal
  simp
 have hg:=getBs_of (r:=crcPut (crcSum ([UInt8.ofNat k]++lenBytes p))++r) hp (by omega)
 have ht:(frameBytes k p++r).take (1+(lenBytes p).length+4)=frameBytes k p:=by rw[←hfl,List.take_left]
 rw[he] at ht
 rw[he]
 unfold nextF
 simp only
 rw[hg,hk']
 simp only
 rw[if_neg (by omega),if_neg (by simp),if_neg (by simp[crcPut_len];omega),ht,if_neg (by unfold frameBytes;rw[crcOpen_seal];simp),hfl]
theorem nextF_zero {b:List UInt8} (h:(nextF b).2.2.2=0):(nextF b).1≤2∧(nextF b).2.1.length≤1048576∧(nextF b).2.2.1=(frameBytes (nextF b).1 (nextF b).2.1).length∧b=frameBytes (nextF b).1 (nextF b).2.1++b.drop (nextF b).2.2.1:=by
 cases b with
 | nil=>simp[nextF] at h
 | cons k r=>
   unfold nextF at h ⊢
   simp only at h ⊢
   by_cases h1:2<k.toNat
   · rw[if_pos h1] at h;simp at h
   rw[if_neg h1] at h ⊢
   by_cases h2:(getBs 1048576 r).2.2≠0
   · rw[if_pos h2] at h;exact absurd h h2
   rw[if_neg h2] at h ⊢
   by_cases h3:(k::r).length<1+(getBs 1048576 r).2.1+4
   · rw[if_pos h3] at h;simp at h
   rw[if_neg h3] at h ⊢
   by_cases h4:crcOpen ((k::r).take (1+(getBs 1048576 r).2.1+4))=none
   · rw[if_pos h4] at h;simp at h
   rw[if_neg h4] at h ⊢
   simp only at h ⊢
   obtain ⟨q,g1,g2,g3,g4⟩:=getBs_zero (by simpa using h2)
   obtain ⟨x,hx⟩:∃x,crcOpen ((k::r).take (1+(getBs 1048576 r).2.1+4))=some x:=by
    cases hc:crcOpen ((k::r).take (1+(getBs 1048576 r).2.1+4)) with
    | none=>exact absurd hc h4
    | some x=>exact ⟨x,rfl⟩
   have hs:=crcOpen_some hx
   have hl:((k::r).take (1+(getBs 1048576 r).2.1+4)).length=1+(getBs 1048576 r).2.1+4:=by rw[List.length_take];omega
   have hxl:x.length=1+(getBs 1048576 r).2.1:=by rw[hs,crcSeal_len] at hl;omega
   have hx2:x=[k]++lenBytes (getBs 1048576 r).1:=by
    have h5:x=((k::r).take (1+(getBs 1048576 r).2.1+4)).take (1+(getBs 1048576 r).2.1):=by
     rw[hs,←hxl];unfold crcSeal;rw[List.take_left]
    rw[h5,List.take_take,Nat.min_eq_left (by omega),g3,Nat.add_comm 1,List.take_succ_cons]
    have g5:∀x,r=x++q→r.take x.length=x:=fun x h=>by rw[h,List.take_left]
    rw[g5 _ g2];rfl
   have hfb:frameBytes k.toNat (getBs 1048576 r).1=(k::r).take (1+(getBs 1048576 r).2.1+4):=by
    rw[hs,hx2];unfold frameBytes;simp
   refine ⟨by omega,g1,?_,?_⟩
   · rw[hfb,hl]
   · rw[hfb,List.take_append_drop]
theorem nextF_pos {b:List UInt8} (h:(nextF b).2.2.2=0):0<(nextF b).2.2.1∧(nextF b).2.2.1≤b.length:=by
 obtain ⟨_,_,h1,h2⟩:=nextF_zero h
 have h3:=congrArg List.length h2
 rw[List.length_append,List.length_drop] at h3
 have:0<(frameBytes (nextF b).1 (nextF b).2.1).length:=by unfold frameBytes;rw[crcSeal_len];omega
 omega
end Go.Proofs.YtibpkfnfcdbiiaaGreatDoor
