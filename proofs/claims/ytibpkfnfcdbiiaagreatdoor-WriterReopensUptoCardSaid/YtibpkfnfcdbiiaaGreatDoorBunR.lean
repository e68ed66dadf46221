/- A set that shares nothing: its rows cloned one by one. Contract of writer.own (a set that shares nothing). A writer in memory; what it tells: Bytes, Seq, Many, View, Schema; room. Contract of a writer's put. Contract of a writer's lay. Contract of a writer's Append; what Append and Snap do. Contract of a writer's Snap. Contract of writer.New. -/
import Derived.Test.YtibpkfnfcdbiiaaGreatDoorEvo
import Derived.Test.YtibpkfnfcdbiiaaGreatDoorBunH
import Derived.Test.YtibpkfnfcdbiiaaGreatDoorCloneB
import Derived.Test.YtibpkfnfcdbiiaaGreatDoorHead
import Derived.Test.YtibpkfnfcdbiiaaGreatDoorEntryW
import Derived.Test.YtibpkfnfcdbiiaaGreatDoorEvA
namespace Go.Proofs.YtibpkfnfcdbiiaaGreatDoor
set_option linter.unusedSimpArgs false
open Go.RowKit
set_option linter.unusedVariables false
theorem cloneCels_any (S:Nat→Prop) (w:World) (a:Option Addr) (cap:Nat) (r:List Cel) (h:SV rCel 2 S w a cap r) (hn:r.length≤1000000):
 Calls Tryz.prog 62 #[.slice a r.length cap] w fun e w' =>∃a' cap',e= .returned (.slice a' r.length cap')∧Fr nob w w' ∧SV rCel 2 (newb w w') w' a' cap' r:=by
 obtain ⟨css,h1,h2,h3⟩:=h
 refine (cloneCells_any S w a r.length cap _ h2 hn).mono ?_
 rintro e w' ⟨a',c',he,hf,hv⟩
 exact ⟨a',c',he,hf,css,h1,hv,fun i c x hc hx=>h3 i c x hc hx⟩
theorem set_row (o:List Elt) (x:Elt) (r:List Elt) (a:Option Addr) (c:Nat):((o++x::r).flatMap eltCells).set (o.length*2) (.slice a x.p.row.length c)=((o++[(⟨x.p,a,c⟩:Elt)])++r).flatMap eltCells:=by
 simp only[List.flatMap_append,List.flatMap_cons,List.flatMap_nil,List.append_assoc]
 rw[List.set_append_right _ _ (by rw[flat_len];exact Nat.le_refl _),flat_len,Nat.sub_self]
 simp[eltCells]
structure OwnSt (w0 wr:World) (B:Nat→Prop) (d o:List Elt) (k:Nat) (a:Option Addr) (c:Nat):Prop where
 len:o.length=k
 ps:o.map (·.p)=(d.take k).map (·.p)
 vec:Vec B wr 2 a d.length c ((o++d.drop k).flatMap eltCells)
 own:∀x∈o,RowAt (fun j=>newb w0 wr j∧¬B j) wr x
 ev:Ev w0 nob wr B
theorem sub_prs {S:Nat→Prop} {w:World} {a:Option Addr} {cap:Nat} {xs:List Pr} (h:SV rPr 2 S w a cap xs) (lo hi' mx:Option Value) (x y m:Nat) (hb:∀w',(Instr.sliceBounds true xs.length cap lo hi' mx).run Tryz.prog w' = .ok (x,y,m) w') (h1:x≤y) (h2:y≤xs.length) (h3:y≤m) (h4:m≤cap):
 ∃a',(∀w',(Instr.slice 24 (.slice a xs.length cap) lo hi' mx).run Tryz.prog w' = .ok (.slice a' (y - x) (m - x)) w')∧SV rPr 2 S w a' (m - x) ((xs.drop x).take (y - x)):=by
 obtain ⟨i,hi,hz,hsize,hby⟩:=info_parts inf_Pair
 exact h.sub rPr_ok _ _ i Tryz.underlying24 hi hsize lo hi' mx x y m hb h1 h2 h3 h4
set_option maxRecDepth 100000 in
set_option maxHeartbeats 4000000 in
theorem wown_at (f:FuncId) (hf:f=83) (S:Nat→Prop) (w:World) (a:Option Addr) (cap:Nat) (l:List Pr) (h:SV rPr 2 S w a cap l) (hn:l.length≤1000000) (hr:∀p∈l,p.row.length≤1000000) (hS:∀k,S k→k<w.heap.size):
 Calls Tryz.prog f #[.slice a l.length cap] w fun e w' =>∃a' cap',e= .returned (.slice a' l.length cap')∧Fr nob w w' ∧SV rPr 2 (newb w w') w' a' cap' l:=by
 subst hf
 obtain ⟨d,hd,hdv,hdr⟩:=elts_of h
 have hdl:d.length=l.length:=by rw[←hd];simp
 have HD:=Lib.hid (⟨hd,hdl,fun x (hx:x∈d)=>hr x.p (by rw[←hd];exact List.mem_map.2 ⟨x,hx,rfl⟩)⟩:_∧_∧_)
 rw[←hdl] at hn ⊢
 have HV:=Lib.hid hdv
 have HR:=Lib.hid (fun u (hu:Fr nob w u) x (hx:x∈d)=>(hdr x hx).frN hu)
 clear hd hdl hr hdv hdr h
 go_enter Tryz.func83,Tryz.ntmps83
 go_wp2_with fail
 refine (clonePairs_any _ w a d.length cap _ HV.out hn).mono ?_
 rintro e u1 ⟨a1,c1,rfl,hfr,hv⟩
 have E1:=Lib.hid (Ev.of hfr (nob_lt _))
 have G1:=Lib.hid hfr
 clear hfr
 have HST:=Lib.hid (show OwnSt w u1 (newb w u1) d [] 0 a1 c1 from ⟨rfl,rfl,by simpa using hv,by simp,(E1.out).born (fun k hk=>hk)⟩)
 clear hv
 go_wp2_with fail
 go_loopw [9] (fun v9 wr=>∃(k:Nat) (B:Nat→Prop) (o:List Elt),v9= .int .i64 k∧k≤d.length∧OwnSt w wr B d o k a1 c1) (fun v9 _=>d.length - (intOf v9).toNat)
 case atStart=>exact ⟨0,_,[],rfl,Nat.zero_le _,HST.out⟩
 case round=>
  obtain ⟨k,B,o,rfl,hk,hst⟩:=hrel
  have HST:=Lib.hid hst
  have HEV:=Lib.hid hst.ev
  clear hst
  by_cases hlt:k<d.length
  · obtain ⟨x,hx⟩:∃x,d.drop k=x::d.drop (k+1):=⟨_,List.drop_eq_getElem_cons hlt⟩
    have hxd:x∈d:=List.mem_of_mem_drop (by rw[hx];simp)
    have hvec:=HST.out.vec
    rw[hx] at hvec
    have hol:=HST.out.len
    have hvl:d.length=(o++x::d.drop (k+1)).length:=by rw[←hx];simp[hol];omega
    rw[hvl] at hvec
    obtain ⟨b1,off,ha1,hb1,c0,_⟩:=vec_elt hvec rfl
    rw[hol] at c0
    rw[←hvl] at hvec
    have hz0:wr.frozen? ⟨b1,off+k*2,none⟩=false:=by
     obtain ⟨b2,o2,e2,_,_,r2,_⟩:=hvec.addr (by have:=hvec.le;omega)
     rw[ha1] at e2
     cases e2
     exact r2 _ (by have:=hvec.le;omega)
    have HX:=Lib.hid (⟨hx,hol,ha1,hb1,hxd⟩:_∧_∧_∧_∧_)
    have HVE:=Lib.hid hvec
    have hrow:SV rCel 2 S wr x.a x.c x.p.row:=(HR.out w (Fr.refl _ _) x hxd).2.2.fr rCel_ok HEV.out.fr (fun _ _=>id)
    have hrl:=HD.out.2.2 x hxd
    have HI:=Lib.hid (HR.out w (Fr.refl _ _) x hxd).1
    subst ha1
    clear hx hvec hol hvl hb1 hxd
    obtain ⟨⟨row,wt⟩,xa,xc⟩:=x
    simp only at c0 hrow hrl HI HX HVE
    go_wp2_with fail
    refine (cloneCels_any _ _ xa xc row hrow hrl).mono ?_
    rintro e u2 ⟨a4,c4,rfl,hfr,hv4⟩
    have E2:=Lib.hid (Ev.of hfr HEV.out.lt)
    have G2:=Lib.hid hfr
    clear hfr
    have HV4:=Lib.hid hv4
    have hz4:(u2).frozen? ⟨b1,off+k*2,none⟩=false:=by rw[G2.out.frozen c0 id];exact hz0
    have c04:=G2.out.cell c0 id
    clear hv4 hrow c0 hz0
    go_wp2_with fail
    obtain ⟨hx,hol,_,hb1,hxd⟩:=HX.out
    have hset:=(HVE.out.frN G2.out).set (j:=k*2) (by omega) (u:= .slice a4 row.length c4) rfl
    go_roundw
    case rel=>
     refine ⟨k+1,B,o++[⟨⟨row,wt⟩,a4,c4⟩],by go_num,by omega,by simp[hol],?_,?_,fun y hy=>?_,((HEV.out.trans E2.out)).trans (Ev.turn hset.2 E2.out.lt)⟩
     · rw[List.map_append,HST.out.ps,List.take_succ_eq_append_getElem hlt,List.map_append]
       have:d[k]=⟨⟨row,wt⟩,xa,xc⟩:=by rw[List.drop_eq_getElem_cons hlt] at hx;exact (List.cons.inj hx).1
       rw[this];rfl
     · have h:=hset.1
       have h2:=set_row o ⟨⟨row,wt⟩,xa,xc⟩ (d.drop (k+1)) a4 c4
       rw[hol] at h2
       have h3:((o++(⟨⟨row,wt⟩,xa,xc⟩:Elt)::d.drop (k+1)).flatMap eltCells).set (k*2) (.slice a4 row.length c4)=((o++[(⟨⟨row,wt⟩,a4,c4⟩:Elt)])++d.drop (k+1)).flatMap eltCells:=h2
       rw[h3] at h
       exact h
     · have hsz:=G2.out.size
       rcases List.mem_append.1 hy with hy | hy
       · exact (((HST.out.own y hy).frN G2.out).fr hset.2 (fun j hj=>hj.2)).mono (fun j hj=>⟨⟨hj.1.1,by have:=hj.1.2;have:=hset.2.size;omega⟩,hj.2⟩)
       · obtain rfl:y=⟨⟨row,wt⟩,a4,c4⟩:=by simpa using hy
         have hn4:∀j,newb wr u2 j→¬B j:=fun j hj hb=>by have:=HEV.out.lt j hb;have:=hj.1;omega
         refine ⟨HI.out,(by show row.length≤lim;unfold lim;omega),((HV4.out.fr rCel_ok hset.2 hn4).mono rCel_ok (fun j hj=>⟨⟨by have:=hj.1;have:=HEV.out.fr.size;omega,by have:=hj.2;have:=hset.2.size;omega⟩,hn4 j hj⟩))⟩
    case measure=>simp[intOf];omega
  · obtain rfl:k=d.length:=by omega
    go_wp2_with fail
    go_ret
    refine ⟨a1,c1,rfl,(HEV.out).toN,?_⟩
    have hv:=HST.out.vec
    rw[List.drop_length,List.append_nil] at hv
    have hol:=HST.out.len
    have hps:=HST.out.ps
    rw[List.take_length,HD.out.1] at hps
    have h:=elts_back (d:=o) (by rw[hol];exact hv) HST.out.own (newb w wr) (HEV.out).news (fun j hj=>hj.1)
    rw[hps] at h
    exact h
theorem wown_any (S:Nat→Prop) (w:World) (a:Option Addr) (cap:Nat) (l:List Pr) (h:SV rPr 2 S w a cap l) (hn:l.length≤1000000) (hr:∀p∈l,p.row.length≤1000000) (hS:∀k,S k→k<w.heap.size):
 Calls Tryz.prog 83 #[.slice a l.length cap] w fun e w' =>∃a' cap',e= .returned (.slice a' l.length cap')∧Fr nob w w' ∧SV rPr 2 (newb w w') w' a' cap' l:=wown_at _ rfl S w a cap l h hn hr hS
def wB (v:Nat) (O:Nat→Prop):Nat→Prop:=fun k=>k=v∨O k
structure WrAt (w:World) (O:Nat→Prop) (v:Nat) (s:List Col) (d:List UInt8) (m:Nat) (q:Int) (l:List Pr):Prop where
 at_:∃sa sc ba bc la lc,w.heap[v]? =some (.cells #[.slice sa s.length sc, .slice ba d.length bc, .int .i64 m, .int .i64 q, .slice la l.length lc] 110 (0,0))∧SV rCol 2 (free w (wB v O)) w sa sc s∧BV O w ba bc d∧SV rPr 2 (free w (wB v O)) w la lc l
 vO:¬O v
 lt:∀k,O k→k<w.heap.size
 len:d.length≤2000+m*1048591
 mm:m≤4096
section
variable {w:World} {O:Nat→Prop} {v:Nat} {s:List Col} {d:List UInt8} {m:Nat} {q:Int} {l:List Pr}
theorem WrAt.lts (h:WrAt w O v s d m q l):∀k,wB v O k→k<w.heap.size:=fun k hk=>by
 obtain ⟨sa,sc,ba,bc,la,lc,h1,_⟩:=h.at_
 rcases hk with rfl | hk
 · exact heap_lt h1
 · exact h.lt k hk
theorem WrAt.go {w' :World} (h:WrAt w O v s d m q l) (hf:Fr nob w w'):WrAt w' O v s d m q l:=by
 have hev:Ev w (wB v O) w' (wB v O):=Ev.of hf h.lts
 obtain ⟨sa,sc,ba,bc,la,lc,h1,h2,h3,h4⟩:=h.at_
 exact ⟨⟨sa,sc,ba,bc,la,lc,hf.heap h1 id,h2.ev rCol_ok hev,h3.frN hf,h4.ev rPr_ok hev⟩,h.vO,fun k hk=>Nat.lt_of_lt_of_le (h.lt k hk) hf.size,h.len,h.mm⟩
set_option maxRecDepth 100000 in
set_option maxHeartbeats 1000000 in
theorem wSeq_any (h:WrAt w O v s d m q l):Calls Tryz.prog 49 #[.pointer (some ⟨v,0,none⟩)] w fun e w' =>e= .returned (.int .i64 q)∧Fr nob w w' :=by
 obtain ⟨sa,sc,ba,bc,la,lc,h1,_⟩:=h.at_
 have k3:=cell_of h1 3
 simp at k3
 clear h1 h
 go_enter Tryz.func49,Tryz.ntmps49
 go_wp2_with fail
 go_ret
 exact ⟨rfl,Fr.refl _ _⟩
set_option maxRecDepth 100000 in
set_option maxHeartbeats 1000000 in
theorem wMany_any (h:WrAt w O v s d m q l):Calls Tryz.prog 36 #[.pointer (some ⟨v,0,none⟩)] w fun e w' =>e= .returned (.int .i64 m)∧Fr nob w w' :=by
 obtain ⟨sa,sc,ba,bc,la,lc,h1,_⟩:=h.at_
 have k3:=cell_of h1 2
 simp at k3
 clear h1 h
 go_enter Tryz.func36,Tryz.ntmps36
 go_wp2_with fail
 go_ret
 exact ⟨rfl,Fr.refl _ _⟩
set_option maxRecDepth 100000 in
set_option maxHeartbeats 1000000 in
theorem wBytes_any (h:WrAt w O v s d m q l):Calls Tryz.prog 31 #[.pointer (some ⟨v,0,none⟩)] w fun e w' =>∃a c,e= .returned (.slice a d.length c)∧Fr nob w w' ∧BV (newb w w') w' a c d:=by
 obtain ⟨sa,sc,ba,bc,la,lc,h1,_,h3,_⟩:=h.at_
 have k1:=cell_of h1 1
 simp at k1
 have hc:=cloneBytes_any _ w ba bc d h3 (by have:=h.len;have:=h.mm;omega)
 clear h1 h3 h
 go_enter Tryz.func31,Tryz.ntmps31
 go_wp2_with fail
 refine hc.mono ?_
 rintro e w1 ⟨a,c,rfl,hf,hv⟩
 go_wp2_with fail
 go_ret
 exact ⟨a,c,rfl,hf,hv⟩
set_option maxRecDepth 100000 in
set_option maxHeartbeats 1000000 in
theorem wView_any (h:WrAt w O v s d m q l) (hn:l.length≤1000000) (hr:∀p∈l,p.row.length≤1000000):Calls Tryz.prog 32 #[.pointer (some ⟨v,0,none⟩)] w fun e w' =>∃a c,e= .returned (.slice a l.length c)∧Fr nob w w' ∧SV rPr 2 (newb w w') w' a c l:=by
 obtain ⟨sa,sc,ba,bc,la,lc,h1,_,_,h4⟩:=h.at_
 have k1:=cell_of h1 4
 simp at k1
 have hc:=wown_any _ w la lc l h4 hn hr (fun k hk=>hk.1)
 clear h1 h4 h
 go_enter Tryz.func32,Tryz.ntmps32
 go_wp2_with fail
 refine hc.mono ?_
 rintro e w1 ⟨a,c,rfl,hf,hv⟩
 go_wp2_with fail
 go_ret
 exact ⟨a,c,rfl,hf,hv⟩
set_option maxRecDepth 100000 in
set_option maxHeartbeats 1000000 in
theorem room_any (h:WrAt w O v s d m q l):Calls Tryz.prog 80 #[.pointer (some ⟨v,0,none⟩)] w fun e w' =>e= .returned (.int .i64 (if 4096≤m then 13 else 0:Nat))∧Fr nob w w' :=by
 obtain ⟨sa,sc,ba,bc,la,lc,h1,_⟩:=h.at_
 have k3:=cell_of h1 2
 simp at k3
 clear h1 h
 by_cases hm:4096≤m
 · rw[if_pos hm]
   go_enter Tryz.func80,Tryz.ntmps80
   go_wp2_with fail
   go_ret
   exact ⟨rfl,Fr.refl _ _⟩
 · rw[if_neg hm]
   go_enter Tryz.func80,Tryz.ntmps80
   go_wp2_with fail
   go_ret
   exact ⟨rfl,Fr.refl _ _⟩
end
theorem wB_ev {w w' :World} {v:Nat} {O O' :Nat→Prop} (hf:Fr (wB v O) w w') (hv:v<w'.heap.size) (ho:∀k,O' k→O k∨w.heap.size≤k) (hl:∀k,O' k→k<w'.heap.size):Ev w (wB v O) w' (wB v O'):=
 ⟨hf,fun k hk=>hk.elim (fun e=>Or.inl (Or.inl e)) (fun e=>(ho k e).imp Or.inr id),fun k hk=>hk.elim (fun e=>e ▸ hv) (hl k)⟩
set_option maxRecDepth 100000 in
set_option maxHeartbeats 4000000 in
theorem put_w {w:World} {O:Nat→Prop} {v:Nat} {s:List Col} {d:List UInt8} {m:Nat} {q:Int} {l:List Pr} (h:WrAt w O v s d m q l) {R:Nat→Prop} {xa:Option Addr} {xc:Nat} {x:List UInt8} (hx:BV R w xa xc x) (hxl:x.length≤1048591) (hm:m<4096):
 Calls Tryz.prog 115 #[.pointer (some ⟨v,0,none⟩), .slice xa x.length xc] w fun e w' =>e= .returned (.tuple #[])∧∃O',Ev w (wB v O) w' (wB v O')∧WrAt w' O' v s (d++x) (m+1) q l:=by
 obtain ⟨sa,sc,ba,bc,la,lc,h1,h2,h3,h4⟩:=h.at_
 have hdl:=h.len
 have hvw:=heap_lt h1
 have k1:=cell_of h1 1
 simp at k1
 have H:=Lib.hid h
 have H1:=Lib.hid (⟨h1,h2,h3,h4⟩:_∧_∧_∧_)
 have HX:=Lib.hid hx
 clear h h1 h2 h3 h4 hx
 go_enter Tryz.func115,Tryz.ntmps115
 go_wp2_with (at_builtin;refine wpList_append_vec rfl _ _ _ _ rfl rfl H1.out.2.2.1.vec _ _ _ Tryz.underlying27 inf_u8 rfl _ x.length (bv x) rfl (BV.src HX.out Tryz.underlying27) (by unfold maxLen;omega) (by omega) ?_)
 intro a1 c1 w1 hv1 hf1 _
 have hb1:=hf1.heap H1.out.1 H.out.vO
 have z1:=frozen_of hb1 1
 have y1:=cell_of hb1 1
 simp at y1
 have f2:Fr (fun k=>k=v) w1 (w1.setCell ⟨v,1,none⟩ (.slice a1 (d.length+x.length) c1)):=(Fr.self v w1).set1 1 _
 have hb2:=heap_set hb1 1 (.slice a1 (d.length+x.length) c1)
 simp at hb2
 have z2:=frozen_of hb2 2
 have y2:=cell_of hb2 2
 simp at y2
 have f3:=f2.set1 2 (.int .i64 (m+1))
 have hb3:=heap_set hb2 2 (.int .i64 (m+1))
 simp at hb3
 have hw5:IntKind.i64.wrap ((m:Int)+1)=m+1:=by rw[IntWalk.i64_in _ (by omega)]
 have HV1:=Lib.hid hv1
 have HF1:=Lib.hid hf1
 have HF3:=Lib.hid f3
 have HB3:=Lib.hid hb3
 clear hv1 hf1 hb1 f2 hb2 f3 hb3
 go_wp2_with fail
 go_end0
 refine ⟨rfl,grow O w w1,?_⟩
 have s1:=HF1.out.size
 have s3:=HF3.out.size
 have ff:Fr (wB v O) w _:=(HF1.out.mono (fun k hk h=>Or.inr h)).trans' (HF3.out.mono (fun k hk h=>Or.inl h))
 have ev:Ev w (wB v O) _ (wB v (grow O w w1)):=wB_ev ff (by omega) (fun k hk=>hk.imp id (fun h=>h.1)) (fun k hk=>hk.elim (fun h=>by have:=H.out.lt k h;omega) (fun h=>by have:=h.2;omega))
 have nv:¬grow O w w1 v:=fun hk=>hk.elim H.out.vO (fun h=>by have:=h.1;omega)
 refine ⟨ev,⟨sa,sc,a1,c1,la,lc,?_,H1.out.2.1.ev rCol_ok ev,?_,H1.out.2.2.2.ev rPr_ok ev⟩,nv,fun k hk=>hk.elim (fun h=>by have:=H.out.lt k h;omega) (fun h=>by have:=h.2;omega),by rw[List.length_append];omega,by omega⟩
 · rw[List.length_append]
   exact HB3.out
 · unfold BV
   rw[List.length_append,bv_append]
   exact HV1.out.fr HF3.out (fun k hk e=>nv (e ▸ hk))
def Laying (w:World) (O:Nat→Prop) (v:Nat) (s:List Col) (d:List UInt8) (m:Nat) (q:Int) (l:List Pr) (kind eseq:Int) (p:List Pr) (e:Ending) (w' :World):Prop:=
 ∃n out en,Applied s q l kind eseq p n out en∧
  (en≠0∧e= .returned (.tuple #[.slice none 0 0, .int .i64 (en:Nat)])∧Fr nob w w' ∨
   en=0∧entryErr s kind eseq p≠0∧e= .returned (.tuple #[.slice none 0 0, .int .i64 (entryErr s kind eseq p:Nat)])∧Fr nob w w' ∨
   en=0∧entryErr s kind eseq p=0∧∃O' a c,e= .returned (.tuple #[.slice a (entryBy s kind eseq p).length c, .int .i64 0])∧Ev w (wB v O) w' (wB v O')∧BV (free w' (wB v O')) w' a c (entryBy s kind eseq p)∧WrAt w' O' v s (d++entryBy s kind eseq p) (m+1) n out∧(kind=1→w'.cell? ⟨v,3,none⟩=w.cell? ⟨v,3,none⟩∧w'.cell? ⟨v,4,none⟩=w.cell? ⟨v,4,none⟩))
theorem applied_same {s:List Col} {q eseq n:Int} {l p out:List Pr} (h:Applied s q l 1 eseq p n out 0):n=q∧out=l:=by
 unfold Applied at h
 split at h
 · rename_i h0;exact absurd h.2.2.symm h0
 · split at h
   · exact absurd h.2.2 (by decide)
   · split at h
     · rename_i h0;exact absurd h.2.2.symm h0
     · rw[if_pos rfl] at h
       split at h
       · exact absurd h.2.2 (by decide)
       · split at h
         · exact ⟨h.1,h.2.1⟩
         · exact absurd h.2.2 (by decide)
set_option maxRecDepth 100000 in
set_option maxHeartbeats 8000000 in
theorem lay_w {w:World} {O:Nat→Prop} {v:Nat} {s:List Col} {d:List UInt8} {m:Nat} {q:Int} {l:List Pr} (h:WrAt w O v s d m q l) {kind eseq:Int} {p:List Pr} {pa:Option Addr} {pc:Nat} (hp:SV rPr 2 (free w (wB v O)) w pa pc p) (hL:∀u,Fr nob w u→Laid u) (hF:Frames w) (h0:s.length≤lim) (h1:l.length≤lim) (h2:p.length≤lim) (h64:I64 q) (hm:m<4096):
 Calls Tryz.prog 81 #[.pointer (some ⟨v,0,none⟩), .agg #[.int .i64 kind, .int .i64 eseq, .slice pa p.length pc]] w fun e w' =>Laying w O v s d m q l kind eseq p e w' :=by
 obtain ⟨w1,hw1⟩:∃w1,w1=w.alloc (.cells #[.int .i64 kind, .int .i64 eseq, .slice pa p.length pc] 40 (0,0)):=⟨_,rfl⟩
 have hf1:Fr nob w w1:=by rw[hw1];exact (Fr.refl nob w).alloc _
 have hX:=heap_new w (.cells #[.int .i64 kind, .int .i64 eseq, .slice pa p.length pc] 40 (0,0))
 rw[←hw1] at hX
 obtain ⟨z,hz⟩:∃z,z=w.heap.size:=⟨_,rfl⟩
 rw[←hz] at hX
 have HH:=Lib.hid h
 have HP:=Lib.hid (SV.keep rPr_ok hp)
 clear hp
 obtain ⟨sa,sc,ba,bc,la,lc,hb,hs,hd,hl⟩:=h.at_
 have HS:=Lib.hid (SV.keep rCol_ok hs)
 clear hs
 have HV:=Lib.hid (SV.keep rPr_ok hl)
 clear hl
 have HLA:=Lib.hid hL
 have HFR:=Lib.hid hF
 have HW1:=Lib.hid hw1
 have HZ:=Lib.hid hz
 have HLIM:=Lib.hid (⟨h0,h1,h2,h64⟩:_∧_∧_∧_)
 have QV:=Lib.hid (fun y (hy:Fr nob w y)=>hy.heap hb id)
 have QZ:=Lib.hid (fun y (hy:Fr nob w1 y)=>hy.heap hX id)
 have E1:=Lib.hid (Ev.of hf1 HH.out.lts)
 have G1:=Lib.hid hf1
 have HF1:=Lib.hid hf1
 clear h hb hd hX hw1 hz hL hF hf1 h0 h1 h2 h64
 have q0:∀y,Fr nob w1 y→y.cell? ⟨v,0,none⟩=some (.slice sa s.length sc):=fun y hy=>by have:=cell_of (QV.out y (HF1.out.andN hy)) 0;simpa using this
 have q3:∀y,Fr nob w1 y→y.cell? ⟨v,3,none⟩=some (.int .i64 q):=fun y hy=>by have:=cell_of (QV.out y (HF1.out.andN hy)) 3;simpa using this
 have q4:∀y,Fr nob w1 y→y.cell? ⟨v,4,none⟩=some (.slice la l.length lc):=fun y hy=>by have:=cell_of (QV.out y (HF1.out.andN hy)) 4;simpa using this
 have p0:∀y,Fr nob w1 y→y.cell? ⟨z,0,none⟩=some (.int .i64 kind):=fun y hy=>by have:=cell_of (QZ.out y hy) 0;simpa using this
 have p1:∀y,Fr nob w1 y→y.cell? ⟨z,1,none⟩=some (.int .i64 eseq):=fun y hy=>by have:=cell_of (QZ.out y hy) 1;simpa using this
 have p2:∀y,Fr nob w1 y→y.cell? ⟨z,2,none⟩=some (.slice pa p.length pc):=fun y hy=>by have:=cell_of (QZ.out y hy) 2;simpa using this
 have Q0:=Lib.hid q0
 have P0:=Lib.hid (⟨p0,p1,p2⟩:_∧_∧_)
 go_enter Tryz.func81,Tryz.ntmps81
 go_wp2_with fail
 rw[←HW1.out,←HZ.out]
 refine wp_region_ord [(0,true),(1,true),(2,true),(3,true),(4,true),(5,true),(6,true),(7,true),(8,true),(9,true),(10,true),(11,true),(12,true),(13,true),(14,false),(15,true),(16,true),(17,true),(18,true),(19,true),(20,true),(21,true)] (Fr nob w1) rfl (by kernel_rfl) (by kernel_rfl) (by decide) (fun c a d v w h=>by cases d<;>exact h) ((Fr.refl nob w1).drew) (fun ops hops hS=>?_)
 obtain ⟨d2,hdw⟩:∃d,d=w1.drew:=⟨_,rfl⟩
 rw[←hdw] at hS ⊢
 have G2:Hid (Fr nob w1 d2):=Lib.hid (by rw[hdw];exact (Fr.refl nob w1).drew)
 have E2:=Lib.hid (Ev.of G2.out E1.out.lt)
 clear hdw
 repeat (first | (apply oF hops (by rfl) (by first | exact .plain rfl | exact .y hops rfl rfl rfl rfl);(focus (intro x hx;go_simp;rfl));go_simp) | (apply oS hops (by rfl) (by first | exact .n hops rfl rfl rfl rfl | exact .u hops rfl rfl rfl rfl);go_simp) | (apply oP hops (by rfl) (by first | exact .n hops rfl rfl rfl rfl | exact .u hops rfl rfl rfl rfl) (by assumption);go_simp))
 refine oA hops (by rfl) (by first | exact .plain rfl | exact .y hops rfl rfl rfl rfl) (fun K hK=>?_)
 go_wp2_with fail
 refine (apply_o2 (HS.out _ _ (E1.out.trans E2.out)) (HV.out _ _ (E1.out.trans E2.out)) (HP.out _ _ (E1.out.trans E2.out)) (HLA.out _ (G1.out.andN G2.out)) HLIM.out.1 HLIM.out.2.1 HLIM.out.2.2.1 HLIM.out.2.2.2 E2.out.lt).mono ?_
 rintro e u3 ⟨n,en,out,ao,co,rfl,hap,hfr,hsv,hsk⟩
 have E3:=Lib.hid (Ev.of hfr E2.out.lt)
 have G3:=Lib.hid hfr
 clear hfr
 refine hK _ _ ⟨_,fun _ h=>h,(G2.out.andN G3.out),?_⟩
 clear hK
 go_simp
 repeat (first | (apply oF hops (by rfl) (by first | exact .plain rfl | exact .y hops rfl rfl rfl rfl);(focus (intro x hx;go_simp;rfl));go_simp) | (apply oS hops (by rfl) (by first | exact .n hops rfl rfl rfl rfl | exact .u hops rfl rfl rfl rfl);go_simp) | (apply oP hops (by rfl) (by first | exact .n hops rfl rfl rfl rfl | exact .u hops rfl rfl rfl rfl) (by assumption);go_simp))
 apply wpOrd_nil
 have HAP:=Lib.hid hap
 have HSK:=Lib.hid hsk
 clear hsk
 have HO:=Lib.hid (SV.keep rPr_ok hsv)
 clear hsv
 clear hap q0 q3 q4 p0 p1 p2
 by_cases he:en=0
 · subst he
   go_wp2_with fail
   have q0:∀y,Fr nob u3 y→y.cell? ⟨v,0,none⟩=some (.slice sa s.length sc):=fun y hy=>Q0.out y (((G2.out.andN G3.out)).andN hy)
   have p0:∀y,Fr nob u3 y→y.cell? ⟨z,0,none⟩=some (.int .i64 kind):=fun y hy=>P0.out.1 y (((G2.out.andN G3.out)).andN hy)
   have p1:∀y,Fr nob u3 y→y.cell? ⟨z,1,none⟩=some (.int .i64 eseq):=fun y hy=>P0.out.2.1 y (((G2.out.andN G3.out)).andN hy)
   have p2:∀y,Fr nob u3 y→y.cell? ⟨z,2,none⟩=some (.slice pa p.length pc):=fun y hy=>P0.out.2.2 y (((G2.out.andN G3.out)).andN hy)
   refine wp_region_ord [(0,true),(1,true),(2,true),(3,true),(4,true),(5,true),(6,false),(7,true),(8,true),(9,true),(10,true),(11,true)] (Fr nob u3) rfl (by kernel_rfl) (by kernel_rfl) (by decide) (fun c a d v w h=>by cases d<;>exact h) ((Fr.refl nob u3).drew) (fun ops hops hS=>?_)
   obtain ⟨d4,hdw⟩:∃d,d=u3.drew:=⟨_,rfl⟩
   rw[←hdw] at hS ⊢
   have G4:Hid (Fr nob u3 d4):=Lib.hid (by rw[hdw];exact (Fr.refl nob u3).drew)
   have E4:=Lib.hid (Ev.of G4.out E3.out.lt)
   clear hdw
   repeat (first | (apply oF hops (by rfl) (by first | exact .plain rfl | exact .y hops rfl rfl rfl rfl);(focus (intro x hx;go_simp;rfl));go_simp) | (apply oS hops (by rfl) (by first | exact .n hops rfl rfl rfl rfl | exact .u hops rfl rfl rfl rfl);go_simp) | (apply oP hops (by rfl) (by first | exact .n hops rfl rfl rfl rfl | exact .u hops rfl rfl rfl rfl) (by assumption);go_simp))
   refine oA hops (by rfl) (by first | exact .plain rfl | exact .y hops rfl rfl rfl rfl) (fun K hK=>?_)
   go_wp2_with fail
   refine (entryWrite_any _ _ _ sa pa sc pc s kind eseq p (HS.out _ _ (E1.out.trans (E2.out.trans (E3.out.trans E4.out)))) (HP.out _ _ (E1.out.trans (E2.out.trans (E3.out.trans E4.out)))) (HLA.out _ (G1.out.andN (G2.out.andN (G3.out.andN G4.out)))) (HFR.out.frN (G1.out.andN (G2.out.andN (G3.out.andN G4.out)))) HLIM.out.1 HLIM.out.2.2.1 (fun k h=>h.1) (fun k h=>h.1)).mono ?_
   rintro e u5 ⟨a2,c2,rfl,hfr,hv2⟩
   have E5:=Lib.hid (Ev.of hfr E4.out.lt)
   have G5:=Lib.hid hfr
   clear hfr
   refine hK _ _ ⟨_,fun _ h=>h,(G4.out.andN G5.out),?_⟩
   clear hK
   go_simp
   repeat (first | (apply oF hops (by rfl) (by first | exact .plain rfl | exact .y hops rfl rfl rfl rfl);(focus (intro x hx;go_simp;rfl));go_simp) | (apply oS hops (by rfl) (by first | exact .n hops rfl rfl rfl rfl | exact .u hops rfl rfl rfl rfl);go_simp) | (apply oP hops (by rfl) (by first | exact .n hops rfl rfl rfl rfl | exact .u hops rfl rfl rfl rfl) (by assumption);go_simp))
   apply wpOrd_nil
   clear q0 p0 p1 p2
   by_cases he2:entryErr s kind eseq p=0
   · have hbl:=entryBy_len s kind eseq p
     obtain ⟨x,hx⟩:∃x,x=entryBy s kind eseq p:=⟨_,rfl⟩
     rw[←hx] at hv2 hbl ⊢
     rw[he2]
     have HE2:=Lib.hid (⟨he2,hx⟩:_∧_)
     clear he2 hx
     have HB2:=Lib.hid (BV.keep (hv2.new E4.out.lt))
     clear hv2
     go_wp2_with fail
     refine (put_w (HH.out.go (G1.out.andN (G2.out.andN (G3.out.andN (G4.out.andN G5.out))))) (HB2.out _ _ (Ev.refl E5.out.lt)) hbl hm).mono ?_
     rintro e w5 ⟨rfl,O',hev,hwr⟩
     have HEV:=Lib.hid hev
     obtain ⟨sa',sc',ba',bc',la',lc',g1,g2,g3,g4⟩:=hwr.at_
     have HWR:=Lib.hid hwr
     have z3:=frozen_of g1 3
     have y3:=cell_of g1 3
     have y4:=cell_of g1 4
     simp at y3 y4
     have f3:=(Fr.self v w5).set1 3 (.int .i64 n)
     have h3:=heap_set g1 3 (.int .i64 n)
     simp at h3
     have z4:=frozen_of h3 4
     have f4:=f3.set1 4 (.slice ao out.length co)
     have h4:=heap_set h3 4 (.slice ao out.length co)
     simp at h4
     have HG:=Lib.hid (⟨g2,g3⟩:_∧_)
     have hlt5:=HEV.out.lt
     obtain ⟨w6,hw6⟩:∃x,x=(w5.setCell ⟨v,3,none⟩ (.int .i64 n)).setCell ⟨v,4,none⟩ (.slice ao out.length co):=⟨_,rfl⟩
     rw[←hw6] at f4 h4
     have HW6:=Lib.hid hw6
     have HE6:=Lib.hid (Ev.turn (f4.mono (fun k _ h=>Or.inl h)) hlt5:Ev w5 (wB v O') w6 (wB v O'))
     have F4:=Lib.hid f4
     have H4:=Lib.hid h4
     clear hev hwr g2 g3 g4 f3 f4 h4 hw6 hlt5 hm
     go_wp2_with fail
     rw[←HW6.out]
     clear z3 z4 h3 g1 y3 y4
     refine (cloneBytes_any _ w6 a2 c2 x (HB2.out _ _ (HEV.out.trans HE6.out)) (by omega)).mono ?_
     rintro e w7 ⟨a7,c7,rfl,hf7,hv7⟩
     have HF7:=Lib.hid hf7
     have HV7:=Lib.hid hv7
     clear hf7 hv7
     go_wp2_with fail
     go_ret2
     have hwr6:WrAt w6 O' v s (d++x) (m+1) n out:=⟨⟨sa',sc',ba',bc',ao,co,by rw[List.length_append];exact H4.out,HG.out.1.ev rCol_ok HE6.out,HG.out.2.fr F4.out (fun k hk e=>HWR.out.vO (e ▸ hk)),(HO.out _ _ (E4.out.trans (E5.out.trans (HEV.out.trans HE6.out))))⟩,HWR.out.vO,fun k hk=>Nat.lt_of_lt_of_le (HWR.out.lt k hk) F4.out.size,HWR.out.len,HWR.out.mm⟩
     have hlt6:=HE6.out.lt
     refine ⟨n,out,0,HAP.out,Or.inr (Or.inr ⟨rfl,HE2.out.1,O',a7,c7,by rw[←HE2.out.2];rfl,((E1.out.trans (E2.out.trans (E3.out.trans (E4.out.trans (E5.out.trans (HEV.out.trans HE6.out))))))).trans (Ev.of HF7.out hlt6),?_,?_,fun hk1=>?_⟩)⟩
     · rw[←HE2.out.2]
       exact HV7.out.new hlt6
     · rw[←HE2.out.2]
       exact hwr6.go HF7.out
     · subst hk1
       obtain ⟨e1,e2⟩:=applied_same HAP.out
       obtain ⟨e3,e4⟩:=HSK.out rfl (by simp)
       have b0:=QV.out w (Fr.refl _ _)
       have b7:=HF7.out.heap H4.out id
       rw[cell_of b0 3,cell_of b0 4,cell_of b7 3,cell_of b7 4,e1,e2,e3,e4]
       exact ⟨rfl,rfl⟩
   · have d1:=intne he2
     have HE:=Lib.hid he2
     clear he2 hv2
     go_wp2_with fail
     go_ret2
     exact ⟨n,out,0,HAP.out,Or.inr (Or.inl ⟨rfl,HE.out,rfl,(G1.out.andN (G2.out.andN (G3.out.andN (G4.out.andN G5.out))))⟩)⟩
 · have d1:=intne he
   have HE:=Lib.hid he
   clear he
   go_wp2_with fail
   go_ret2
   exact ⟨n,out,en,HAP.out,Or.inl ⟨HE.out,rfl,(G1.out.andN (G2.out.andN G3.out))⟩⟩
theorem Laying.form {w w' :World} {O:Nat→Prop} {v:Nat} {s:List Col} {d:List UInt8} {m:Nat} {q:Int} {l:List Pr} {kind eseq:Int} {p:List Pr} {e:Ending} (h:Laying w O v s d m q l kind eseq p e w'):
 ∃(a:Option Addr) (n c:Nat) (k:Nat),e= .returned (.tuple #[.slice a n c, .int .i64 k]):=by
 obtain ⟨n,out,en,_,h | h | h⟩:=h
 · exact ⟨_,_,_,_,h.2.1⟩
 · exact ⟨_,_,_,_,h.2.2.1⟩
 · obtain ⟨_,_,O',a,c,h,_⟩:=h
   exact ⟨a,_,c,0,h⟩
theorem Laying.back {w w1 w' :World} {O:Nat→Prop} {v:Nat} {s:List Col} {d:List UInt8} {m:Nat} {q:Int} {l:List Pr} {kind eseq:Int} {p:List Pr} {e:Ending} (h:Laying w1 O v s d m q l kind eseq p e w') (hf:Fr nob w w1) (hB:∀k,wB v O k→k<w.heap.size):Laying w O v s d m q l kind eseq p e w' :=by
 obtain ⟨n,out,en,ha,h | h | h⟩:=h
 · exact ⟨n,out,en,ha,Or.inl ⟨h.1,h.2.1,hf.andN h.2.2⟩⟩
 · exact ⟨n,out,en,ha,Or.inr (Or.inl ⟨h.1,h.2.1,h.2.2.1,hf.andN h.2.2.2⟩)⟩
 · obtain ⟨h1,h2,O',a,c,h3,h4,h5,h6,h7⟩:=h
   exact ⟨n,out,en,ha,Or.inr (Or.inr ⟨h1,h2,O',a,c,h3,(Ev.of hf hB).trans h4,h5,h6,fun hk=>⟨(h7 hk).1.trans (World.cell?_of_block (hf.block v (hB v (Or.inl rfl)) id)),(h7 hk).2.trans (World.cell?_of_block (hf.block v (hB v (Or.inl rfl)) id))⟩⟩)⟩
def Appending (w:World) (O:Nat→Prop) (v:Nat) (s:List Col) (d:List UInt8) (m:Nat) (q:Int) (l:List Pr) (p:List Pr) (e:Ending) (w' :World):Prop:=
 4096≤m∧e= .returned (.tuple #[.slice none 0 0, .int .i64 13])∧Fr nob w w' ∨
 m<4096∧∃en out,Collected s p en out∧(en≠0∧e= .returned (.tuple #[.slice none 0 0, .int .i64 (en:Nat)])∧Fr nob w w' ∨en=0∧Laying w O v s d m q l 0 (q+1) out e w')
def Snapping (w:World) (O:Nat→Prop) (v:Nat) (s:List Col) (d:List UInt8) (m:Nat) (q:Int) (l:List Pr) (e:Ending) (w' :World):Prop:=
 4096≤m∧e= .returned (.tuple #[.slice none 0 0, .int .i64 13])∧Fr nob w w' ∨
 m<4096∧Laying w O v s d m q l 1 q l e w'
section
variable {w:World} {O:Nat→Prop} {v:Nat} {s:List Col} {d:List UInt8} {m:Nat} {q:Int} {l:List Pr}
set_option maxRecDepth 100000 in
set_option maxHeartbeats 4000000 in
theorem append_w (h:WrAt w O v s d m q l) {p:List Pr} {pa:Option Addr} {pc:Nat} (hp:SV rPr 2 (free w (wB v O)) w pa pc p) (hL:∀u,Fr nob w u→Laid u) (hF:Frames w) (h0:s.length≤lim) (h1:l.length≤lim) (h2:p.length≤1000000) (hq:0≤q∧q≤281474976710656):
 Calls Tryz.prog 30 #[.pointer (some ⟨v,0,none⟩), .slice pa p.length pc] w fun e w' =>Appending w O v s d m q l p e w' :=by
 have HH:=Lib.hid h
 have hroom:=room_any h
 have HP:=Lib.hid (SV.keep rPr_ok hp)
 clear hp
 obtain ⟨sa,sc,ba,bc,la,lc,hb,hs,hd,hl⟩:=h.at_
 have HS:=Lib.hid (SV.keep rCol_ok hs)
 clear hs
 have HLA:=Lib.hid hL
 have HFR:=Lib.hid hF
 have HLIM:=Lib.hid (⟨h0,h1,h2⟩:_∧_∧_)
 have QV:=Lib.hid (fun y (hy:Fr nob w y)=>hy.heap hb id)
 clear h hb hd hl hL hF h0 h1 h2
 go_enter Tryz.func30,Tryz.ntmps30
 go_wp2_with fail
 refine (hroom).mono ?_
 rintro e u1 ⟨rfl,hfr⟩
 have E1:=Lib.hid (Ev.of hfr HH.out.lts)
 have G1:=Lib.hid hfr
 clear hfr
 clear hroom
 by_cases hm:m<4096
 · rw[if_neg (show ¬4096≤m by omega)]
   have k0:=cell_of (QV.out _ G1.out) 0
   simp at k0
   go_wp2_with fail
   refine (collect_o (HS.out _ _ E1.out) (HP.out _ _ E1.out) (HLA.out _ G1.out) HLIM.out.1 HLIM.out.2.2 E1.out.lt).mono ?_
   rintro e u2 ⟨en,out,ao,co,rfl,hcol,hfr,hsv,_⟩
   have E2:=Lib.hid (Ev.of hfr E1.out.lt)
   have G2:=Lib.hid hfr
   clear hfr
   have HC:=Lib.hid hcol
   have HO:=Lib.hid (SV.keep rPr_ok hsv)
   clear hsv
   clear hcol k0
   by_cases he:en=0
   · subst he
     have k3:=cell_of (QV.out _ (G1.out.andN G2.out)) 3
     simp at k3
     have hw5:IntKind.i64.wrap (q+1)=q+1:=by rw[IntWalk.i64_in _ (by omega)]
     have hol:out.length≤lim:=by
      obtain ⟨_,_,_,hl,_⟩:=collected_zero HC.out
      unfold lim
      omega
     go_wp2_with fail
     refine (lay_w (HH.out.go (G1.out.andN G2.out)) (HO.out _ _ (Ev.refl E2.out.lt)) (fun u hu=>HLA.out _ (((G1.out.andN G2.out)).andN hu)) (HFR.out.frN (G1.out.andN G2.out)) HLIM.out.1 HLIM.out.2.1 hol (by unfold I64;omega) hm).mono ?_
     rintro e w5 hlay
     obtain ⟨a,n,c,k,rfl⟩:=hlay.form
     have HLY:=Lib.hid hlay
     clear hlay k3
     go_wp2_with fail
     go_ret2
     exact Or.inr ⟨hm,0,out,HC.out,Or.inr ⟨rfl,HLY.out.back (G1.out.andN G2.out) HH.out.lts⟩⟩
   · have d1:=intne he
     have HE:=Lib.hid he
     clear he
     go_wp2_with fail
     go_ret2
     exact Or.inr ⟨hm,en,out,HC.out,Or.inl ⟨HE.out,rfl,(G1.out.andN G2.out)⟩⟩
 · rw[if_pos (show 4096≤m by omega)]
   go_wp2_with fail
   go_ret2
   exact Or.inl ⟨by omega,rfl,G1.out⟩
end
theorem Laying.snap {w w' :World} {O:Nat→Prop} {v:Nat} {s:List Col} {d:List UInt8} {m:Nat} {q:Int} {l:List Pr} {eseq:Int} {p:List Pr} {e:Ending} (h:Laying w O v s d m q l 1 eseq p e w') (hv:v<w.heap.size):
 w'.cell? ⟨v,3,none⟩=w.cell? ⟨v,3,none⟩∧w'.cell? ⟨v,4,none⟩=w.cell? ⟨v,4,none⟩:=by
 obtain ⟨n,out,en,ha,h | h | h⟩:=h
 · exact ⟨World.cell?_of_block (h.2.2.block v hv id),World.cell?_of_block (h.2.2.block v hv id)⟩
 · exact ⟨World.cell?_of_block (h.2.2.2.block v hv id),World.cell?_of_block (h.2.2.2.block v hv id)⟩
 · obtain ⟨h1,h2,O',a,c,h3,h4,h5,h6,h7⟩:=h
   exact h7 rfl
section
variable {w:World} {O:Nat→Prop} {v:Nat} {s:List Col} {d:List UInt8} {m:Nat} {q:Int} {l:List Pr}
set_option maxRecDepth 100000 in
set_option maxHeartbeats 4000000 in
theorem snap_w (h:WrAt w O v s d m q l) (hL:∀u,Fr nob w u→Laid u) (hF:Frames w) (h0:s.length≤lim) (h1:l.length≤lim) (hq:0≤q∧q≤281474976710656):
 Calls Tryz.prog 35 #[.pointer (some ⟨v,0,none⟩)] w fun e w' =>Snapping w O v s d m q l e w' :=by
 have HH:=Lib.hid h
 have hroom:=room_any h
 obtain ⟨sa,sc,ba,bc,la,lc,hb,hs,hd,hl⟩:=h.at_
 have HV:=Lib.hid (SV.keep rPr_ok hl)
 clear hl
 have HLA:=Lib.hid hL
 have HFR:=Lib.hid hF
 have HLIM:=Lib.hid (⟨h0,h1⟩:_∧_)
 have QV:=Lib.hid (fun y (hy:Fr nob w y)=>hy.heap hb id)
 clear h hb hd hs hL hF h0 h1
 go_enter Tryz.func35,Tryz.ntmps35
 go_wp2_with fail
 refine (hroom).mono ?_
 rintro e u1 ⟨rfl,hfr⟩
 have E1:=Lib.hid (Ev.of hfr HH.out.lts)
 have G1:=Lib.hid hfr
 clear hfr
 clear hroom
 by_cases hm:m<4096
 · rw[if_neg (show ¬4096≤m by omega)]
   obtain ⟨S0,hS0⟩:∃S0:World→Prop,S0=fun x=>x.cell? ⟨v,3,none⟩=some (.int .i64 q)∧x.cell? ⟨v,4,none⟩=some (.slice la l.length lc):=⟨_,rfl⟩
   have q3:∀y,S0 y→y.cell? ⟨v,3,none⟩=some (.int .i64 q):=fun y hy=>by rw[hS0] at hy;exact hy.1
   have q4:∀y,S0 y→y.cell? ⟨v,4,none⟩=some (.slice la l.length lc):=fun y hy=>by rw[hS0] at hy;exact hy.2
   have hq5:∀y,Fr nob u1 y→S0 y:=fun y hy=>by
    rw[hS0]
    have hb:=QV.out y ((G1.out).andN hy)
    have h3:=cell_of hb 3
    have h4:=cell_of hb 4
    simp at h3 h4
    exact ⟨h3,h4⟩
   have HQ:=Lib.hid (⟨hS0,hq5⟩:_∧_)
   clear hS0 hq5
   go_wp2_with fail
   obtain ⟨dw,hdw⟩:∃x,x=(u1).drew:=⟨_,rfl⟩
   have hfd:Fr nob u1 dw:=by rw[hdw];exact (Fr.refl nob _).drew
   refine wp_region_ord [(0,true),(1,true),(2,true),(3,true),(4,true),(5,true),(6,true),(7,true),(8,true),(9,true),(10,false),(11,true),(12,true),(13,true),(14,true)] (S0) rfl (by kernel_rfl) (by kernel_rfl) (by decide) (fun c a d v w h=>by cases d<;>exact h) (by rw[←hdw];exact HQ.out.2 _ hfd) (fun ops hops hS=>?_)
   rw[←hdw] at hS ⊢
   clear hdw
   have E2:=Lib.hid (Ev.of hfd E1.out.lt)
   have G2:=Lib.hid hfd
   repeat (apply wpOrd_free _ _ (by rw[hops.out];rfl) (by first | exact Wants.plain rfl | exact Wants.yes rfl (by rw[hops.out];rfl) rfl rfl);(focus (intro x hx;have y3:=q3 x hx;have y4:=q4 x hx;go_simp;rfl));go_simp)
   refine oA hops (by rfl) (by first | exact .plain rfl | exact .y hops rfl rfl rfl rfl) (fun K hK=>?_)
   go_wp2_with fail
   refine (lay_w (HH.out.go (G1.out.andN G2.out)) (HV.out _ _ (E1.out.trans E2.out)) (fun u hu=>HLA.out _ (((G1.out.andN G2.out)).andN hu)) (HFR.out.frN (G1.out.andN G2.out)) HLIM.out.1 HLIM.out.2 HLIM.out.2 (by unfold I64;omega) hm).mono ?_
   rintro e w5 hlay
   obtain ⟨a,n,c,k,rfl⟩:=hlay.form
   have hs5:S0 w5:=by
    have h1:=hlay.snap (Nat.lt_of_lt_of_le (HH.out.lts v (Or.inl rfl)) ((G1.out.andN G2.out)).size)
    have h3:=q3 _ hS
    have h4:=q4 _ hS
    rw[HQ.out.1]
    exact ⟨h1.1.trans h3,h1.2.trans h4⟩
   have HLY:=Lib.hid (hlay.back (G1.out.andN G2.out) HH.out.lts)
   clear hlay hS
   refine hK _ _ ⟨S0,fun _ h=>h,hs5,?_⟩
   clear hK
   go_simp
   repeat (first | (apply oF hops (by rfl) (by first | exact .plain rfl | exact .y hops rfl rfl rfl rfl);(focus (intro x hx;go_simp;rfl));go_simp) | (apply oS hops (by rfl) (by first | exact .n hops rfl rfl rfl rfl | exact .u hops rfl rfl rfl rfl);go_simp) | (apply oP hops (by rfl) (by first | exact .n hops rfl rfl rfl rfl | exact .u hops rfl rfl rfl rfl) (by assumption);go_simp))
   apply wpOrd_nil
   go_wp2_with fail
   go_ret2
   exact Or.inr ⟨hm,HLY.out⟩
 · rw[if_pos (show 4096≤m by omega)]
   go_wp2_with fail
   go_ret2
   exact Or.inl ⟨by omega,rfl,G1.out⟩
end
set_option maxRecDepth 100000 in
set_option maxHeartbeats 4000000 in
theorem writerNew_any (S:Nat→Prop) (w:World) (a:Option Addr) (cap:Nat) (s:List Col) (hs:SV rCol 2 S w a cap s) (hL:Laid w) (hl:s.length≤lim) (hS:∀k,S k→k<w.heap.size):
 Calls Tryz.prog 16 #[.slice a s.length cap] w fun e w' =>Fr nob w w' ∧(schemaCheck s≠0∧e= .returned (.tuple #[.pointer none, .int .i64 (schemaCheck s:Nat)])∨schemaCheck s=0∧∃v O,e= .returned (.tuple #[.pointer (some ⟨v,0,none⟩), .int .i64 0])∧(∀k,wB v O k→newb w w' k)∧WrAt w' O v s (headBytes s) 0 0 []):=by
 have hp:=head_any S w a cap s hs hL hl hS
 have HS:=Lib.hid hs
 clear hs hL
 go_enter Tryz.func16,Tryz.ntmps16
 go_wp2_with fail
 refine (hp).mono ?_
 rintro e u1 ⟨b1,c1,rfl,hfr,hv1⟩
 have E1:=Lib.hid (Ev.of hfr (nob_lt _))
 have G1:=Lib.hid hfr
 clear hfr
 have HV1:=Lib.hid hv1
 clear hp hv1
 by_cases h1:schemaCheck s=0
 · have hw:headW s=headBytes s:=by unfold headW;rw[if_pos h1]
   have hln:=headBytes_len h1
   have hl8:=(schemaCheck_le h1).2
   have H1:=Lib.hid h1
   rw[hw] at HV1 ⊢
   rw[h1]
   clear hw h1
   obtain ⟨hb,hhb⟩:∃x,x=headBytes s:=⟨_,rfl⟩
   rw[←hhb] at HV1 hln ⊢
   have HHB:=Lib.hid hhb
   clear hhb
   go_wp2_with fail
   refine (cloneCols_any _ _ _ _ s (HS.out.frN rCol_ok G1.out) (by omega)).mono ?_
   rintro e u2 ⟨a2,c2,rfl,hfr,hv⟩
   have E2:=Lib.hid (Ev.of hfr E1.out.lt)
   have G2:=Lib.hid hfr
   clear hfr
   have HV:=Lib.hid hv
   clear hv
   go_wp2_with fail
   go_ret2
   obtain ⟨w3,hw3⟩:∃w3,w3=u2.alloc (.cells #[.slice a2 s.length c2, .slice b1 hb.length c1, .int .i64 0, .int .i64 0, .slice none 0 0] 110 (0,0)):=⟨_,rfl⟩
   have hf3:Fr nob u2 w3:=by rw[hw3];exact (Fr.refl nob _).alloc _
   have hB:=heap_new u2 (.cells #[.slice a2 s.length c2, .slice b1 hb.length c1, .int .i64 0, .int .i64 0, .slice none 0 0] 110 (0,0))
   rw[←hw3] at hB
   have hsz:w3.heap.size=(u2).heap.size+1:=by rw[hw3];simp
   have h0:=((E1.out.trans E2.out)).fr.size
   have hs1:=E1.out.fr.size
   have hs2:=E2.out.fr.size
   rw[←HHB.out]
   refine ⟨?_,Or.inr ⟨H1.out,(u2).heap.size,newb w u1,rfl,?_,?_⟩⟩
   · have:=((G1.out.andN G2.out)).andN hf3
     rw[hw3] at this
     exact this
   · rw[←hw3]
     rintro k (rfl | hk)
     · exact ⟨h0,by omega⟩
     · exact ⟨hk.1,by have:=hk.2;omega⟩
   · rw[←hw3]
     refine ⟨⟨a2,c2,b1,c1,none,0,hB,(HV.out.frN rCol_ok hf3).mono rCol_ok (fun k hk=>⟨by have:=hk.2;omega,fun e=>?_⟩),HV1.out.frN (G2.out.andN hf3),SV.nil _ _ _ _⟩,fun hk=>?_,fun k hk=>?_,by omega,by omega⟩
     · rcases e with e | e
       · have:=hk.2;omega
       · have:=e.2;have:=hk.1;omega
     · have:=hk.2;omega
     · have:=hk.2;omega
 · have hw:headW s=[]:=by unfold headW;rw[if_neg h1]
   have H1:=Lib.hid h1
   have d1:=intne h1
   rw[hw]
   clear h1 hw
   go_wp2_with fail
   go_ret2
   exact ⟨G1.out,Or.inl ⟨H1.out,rfl⟩⟩
end Go.Proofs.YtibpkfnfcdbiiaaGreatDoor
