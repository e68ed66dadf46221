/- Contracts of bytes.HasPrefix and frame.Next. Results that are cells. Contract of entry.Read. Contract of entry.Read: the whole. Contract of schema.Read. Contracts of schema.Read and trace.head. Contract of a state's next. Contract of trace.read. trace.read, walked. Contracts of trace.Decode and trace.Marks. What is written is read: schemas, heads. No program in sight. -/
import Derived.Test.YtibpkfnfcdbiiaaGreatDoorBunU
import Derived.Test.YtibpkfnfcdbiiaaGreatDoorBunT
namespace Go.Proofs.YtibpkfnfcdbiiaaGreatDoor
set_option linter.unusedSimpArgs false
open Go.RowKit
set_option linter.unusedVariables false
theorem results_tmp4 {fn:Func} {t u v x:Tmp} (h:fn.results=#[.tmp t, .tmp u, .tmp v, .tmp x]) (tmps:Array Value) (P:Program) (w:World):
 (results fn tmps).run P w= .ok (.tuple #[tmps.getD t undef,tmps.getD u undef,tmps.getD v undef,tmps.getD x undef]) w:=by
 simp[results,h]
set_option maxRecDepth 100000 in
set_option maxHeartbeats 2000000 in
theorem bytesEqual_any (S R:Nat→Prop) (w:World) (a b:Option Addr) (ca cb:Nat) (l r:List UInt8) (h:BV S w a ca l) (h2:BV R w b cb r):
 Calls Tryz.prog 145 #[.slice a l.length ca, .slice b r.length cb] w fun e w' =>e= .returned (.bool (decide (l=r)))∧Fr nob w w' :=by
 have q1:=str_of h
 have q2:=str_of h2
 have he:((bs l).toList == (bs r).toList)=decide (l=r):=by rw[bs_toList,bs_toList];exact Bool.beq_eq_decide_eq ..
 clear h h2
 by_cases hlr:l=r
 · have hd:decide (l=r)=true:=decide_eq_true hlr
   rw[hd] at he ⊢
   have h3:bs l=bs r:=by rw[hlr]
   clear hlr hd
   go_enter Tryz.func145,Tryz.ntmps145
   go_wp2_with fail
   go_ret
   exact ⟨by simp[h3],Fr.refl _ _⟩
 · have hd:decide (l=r)=false:=decide_eq_false hlr
   rw[hd] at he ⊢
   have h3:¬bs l=bs r:=fun h=>hlr (bs_inj.1 h)
   clear hlr hd
   go_enter Tryz.func145,Tryz.ntmps145
   go_wp2_with fail
   go_ret
   exact ⟨by simp[h3],Fr.refl _ _⟩
set_option maxRecDepth 100000 in
set_option maxHeartbeats 2000000 in
theorem hasPrefix_any (S R:Nat→Prop) (w:World) (a b:Option Addr) (ca cb:Nat) (l p:List UInt8) (h:BV S w a ca l) (h2:BV R w b cb p) (hl:l.length≤1099511627776) (hp:p.length≤1099511627776):
 Calls Tryz.prog 121 #[.slice a l.length ca, .slice b p.length cb] w fun e w' =>e= .returned (.bool (p.isPrefixOf l))∧Fr nob w w' :=by
 by_cases hle:p.length≤l.length
 · obtain ⟨a',q,hv,_⟩:=sub_to h .i64 (p.length:Int) p.length rfl hle
   have hc:=bytesEqual_any _ _ w a' b ca cb _ p hv h2
   rw[show (l.take p.length).length=p.length by rw[List.length_take];omega] at hc q
   have hx:p.isPrefixOf l=decide (l.take p.length=p):=by
    rw[Bool.eq_iff_iff,List.isPrefixOf_iff_prefix,decide_eq_true_iff,List.prefix_iff_eq_take]
    exact eq_comm
   rw[hx]
   clear h h2 hv hx
   go_enter Tryz.func121,Tryz.ntmps121
   go_wp2_with fail
   refine hc.mono ?_
   rintro e w1 ⟨rfl,hf⟩
   go_wp2_with fail
   go_ret
   exact ⟨rfl,hf⟩
 · have hx:p.isPrefixOf l=false:=by
    rw[Bool.eq_false_iff]
    intro h
    exact hle (List.isPrefixOf_iff_prefix.1 h).length_le
   rw[hx]
   clear h h2 hx
   go_enter Tryz.func121,Tryz.ntmps121
   go_wp2_with fail
   go_ret
   exact ⟨rfl,Fr.refl _ _⟩
set_option maxRecDepth 100000 in
set_option maxHeartbeats 4000000 in
theorem frameNext_any (S:Nat→Prop) (w:World) (a:Option Addr) (cap:Nat) (b:List UInt8) (h:BV S w a cap b) (hl:b.length≤1099511627776):
 Calls Tryz.prog 122 #[.slice a b.length cap] w fun e w' =>∃a' c',e= .returned (.tuple #[.int .i64 (nextF b).1, .slice a' (nextF b).2.1.length c', .int .i64 (nextF b).2.2.1, .int .i64 (nextF b).2.2.2])∧Fr nob w w' ∧BV (newb w w') w' a' c' (nextF b).2.1:=by
 obtain ⟨N,hN⟩:∃N,N=nextF b:=⟨_,rfl⟩
 rw[←hN]
 by_cases hb0:b.length=0
 · have hb:=List.eq_nil_of_length_eq_zero hb0
   subst hb
   have HE:=Lib.hid (show N=(0,[],0,5) from hN)
   clear hN
   go_enter Tryz.func122,Tryz.ntmps122
   go_wp2_with fail
   (try simp only[Exit.inBlock,Exit.then])
   refine bodyPost_ret (results_tmp4 rfl _ _ _) rfl ?_
   rw[HE.out]
   exact ⟨none,0,rfl,Fr.refl _ _,BV.nil _ _⟩
 obtain ⟨k,r,hbr⟩:∃k r,b=k::r:=by
  cases b with
  | nil=>simp at hb0
  | cons k r=>exact ⟨k,r,rfl⟩
 obtain ⟨b1,off,rfl,hS,c0⟩:=h.get (i:=0) (by omega)
 have hb00:b[0]'(by omega)=k:=by simp[hbr]
 rw[hb00] at c0
 simp at c0
 have hlen1:b.length≤r.length+1:=by rw[hbr];simp
 have hlen2:r.length+1≤b.length:=by rw[hbr];simp
 have hN:=hN.trans (by rw[hbr];rfl:_=if 2<k.toNat then (0,[],0,10) else if (getBs 1048576 r).2.2≠0 then (0,[],0,(getBs 1048576 r).2.2)
  else if (k::r).length<1+(getBs 1048576 r).2.1+4 then (0,[],0,5)
  else if crcOpen ((k::r).take (1+(getBs 1048576 r).2.1+4))=none then (0,[],0,8)
  else (k.toNat,(getBs 1048576 r).1,1+(getBs 1048576 r).2.1+4,0))
 rw[←hbr] at hN
 have hk:=UInt8.toNat_lt k
 have d0:¬(b.length:Int)=0:=by omega
 by_cases h1:2<k.toNat
 · rw[if_pos h1] at hN
   have HE:=Lib.hid hN
   clear hN hbr hb00
   go_enter Tryz.func122,Tryz.ntmps122
   go_wp2_with fail
   (try simp only[Exit.inBlock,Exit.then])
   refine bodyPost_ret (results_tmp4 rfl _ _ _) rfl ?_
   rw[HE.out]
   exact ⟨none,0,rfl,Fr.refl _ _,BV.nil _ _⟩
 rw[if_neg h1] at hN
 obtain ⟨a1,q1,hv1,_⟩:=sub_from h .i64 1 1 rfl (by omega)
 rw[show b.drop 1=r by rw[hbr];rfl] at q1 hv1
 clear hbr hb00
 have hg:=getBytes_any _ w a1 (cap - 1) r hv1 (by omega) 1048576 (by omega)
 have hgn:=getBs_n 1048576 r
 have H:=Lib.hid h
 obtain ⟨g,hgg⟩:∃g,g=getBs 1048576 r:=⟨_,rfl⟩
 rw[←hgg] at hN hg hgn
 obtain ⟨p,n,e0⟩:=g
 simp only at hN hg hgn
 have HN:=Lib.hid hN
 clear hN hv1 hgg h
 unfold GBPost at hg
 simp only at hg
 rw[show ((1048576:Nat):Int)=1048576 by omega] at hg
 by_cases h2:e0=0
 · subst h2
   have hN:=HN.out
   rw[if_neg (by omega)] at hN
   have HN:=Lib.hid hN
   clear hN
   by_cases h3:b.length<1+n+4
   · have HE:=Lib.hid (HN.out.trans (if_pos h3))
     have h3' :r.length<n+4:=by omega
     clear HN
     go_enter Tryz.func122,Tryz.ntmps122
     go_wp2_with fail
     refine (hg).mono ?_
     rintro e u1 ⟨a2,c2,rfl,hfr,hv⟩
     have E1:=Lib.hid (Ev.of hfr (nob_lt _))
     have G1:=Lib.hid hfr
     clear hfr
     clear hg hv
     go_wp2_with fail
     (try simp only[Exit.inBlock,Exit.then])
     refine bodyPost_ret (results_tmp4 rfl _ _ _) rfl ?_
     rw[HE.out]
     exact ⟨none,0,rfl,(E1.out).toN,BV.nil _ _⟩
   · have hN:=HN.out.trans (if_neg h3)
     have h3' :n+4≤r.length:=by omega
     have hcap:=H.out.vec.le
     obtain ⟨a3,q3,hv3,_⟩:=sub_of H.out none (some (.int .i64 ((1+n+4:Nat):Int))) (some (.int .i64 ((1+n+4:Nat):Int))) 0 (1+n+4) (1+n+4) (fun w' =>bounds_hm .i64 .i64 (1+n+4) (1+n+4) _ _ rfl rfl (by omega) (by omega) w') (by omega) (by omega) (by omega) (by omega)
     simp only[Nat.sub_zero,List.drop_zero] at q3 hv3
     have hl3:(b.take (1+n+4)).length=1+n+4:=by rw[List.length_take];omega
     have ho:=fun y (hy:Fr nob w y)=>open_any _ y a3 (1+n+4) _ (hv3.frN hy) (by rw[hl3];omega)
     rw[hl3] at ho
     have HO:=Lib.hid ho
     have C0:=Lib.hid (fun y (hy:Fr nob w y)=>hy.cell c0 id)
     generalize b.take (1+n+4)=T at HO hN
     have HN:=Lib.hid hN
     have hw1:((1+n+4:Nat):Int)=1+(n:Int)+4:=by omega
     have hnl:n≤1099511627776:=by omega
     rw[hw1] at q3
     clear hN hl3 hv3 ho hcap hw1
     go_enter Tryz.func122,Tryz.ntmps122
     go_wp2_with fail
     refine (hg).mono ?_
     rintro e u2 ⟨a2,c2,rfl,hfr,hv⟩
     have E2:=Lib.hid (Ev.of hfr (nob_lt _))
     have G2:=Lib.hid hfr
     clear hfr
     have HV:=Lib.hid hv
     clear hg hv
     have hop:=HO.out _ G2.out
     have c1:=C0.out _ G2.out
     clear c0
     go_wp2_with fail
     refine hop.mono ?_
     rintro e w3 ⟨hf3,hh⟩
     clear hop
     have E3:=Lib.hid (Ev.of hf3 E2.out.lt)
     have G3:=Lib.hid hf3
     cases hc:crcOpen T with
     | none=>
       rw[hc] at hh
       simp only at hh
       subst hh
       have HE:=Lib.hid (HN.out.trans (if_pos hc))
       clear hc HN c1
       go_wp2_with fail
       (try simp only[Exit.inBlock,Exit.then])
       refine bodyPost_ret (results_tmp4 rfl _ _ _) rfl ?_
       rw[HE.out]
       exact ⟨none,0,rfl,((E2.out.trans E3.out)).toN,BV.nil _ _⟩
     | some x=>
       rw[hc] at hh
       obtain ⟨a4,c4,rfl,_⟩:=hh
       have HE:=Lib.hid (HN.out.trans (if_neg (by rw[hc];simp)))
       have c2:=C0.out _ (G2.out.andN G3.out)
       clear hc HN c1
       go_wp2_with fail
       (try simp only[Exit.inBlock,Exit.then])
       refine bodyPost_ret (results_tmp4 rfl _ _ _) rfl ?_
       rw[HE.out]
       refine ⟨a2,_,by simp,((E2.out.trans E3.out)).toN,(HV.out.frN G3.out).mono (fun k hk=>⟨hk.1,Nat.lt_of_lt_of_le hk.2 (G3.out).size⟩)⟩
 · have HE:=Lib.hid (HN.out.trans (if_pos h2))
   have d1:=intne h2
   clear HN h2
   go_enter Tryz.func122,Tryz.ntmps122
   go_wp2_with fail
   refine (hg).mono ?_
   rintro e u4 ⟨a2,c2,rfl,hfr,hv⟩
   have E4:=Lib.hid (Ev.of hfr (nob_lt _))
   have G4:=Lib.hid hfr
   clear hfr
   clear hg hv
   go_wp2_with fail
   (try simp only[Exit.inBlock,Exit.then])
   refine bodyPost_ret (results_tmp4 rfl _ _ _) rfl ?_
   rw[HE.out]
   exact ⟨none,0,rfl,(E4.out).toN,BV.nil _ _⟩
theorem results_c2 {fn:Func} {b u:Tmp} {ty:TypeId} (h:fn.results=#[.cell b ty, .tmp u]) (tmps:Array Value) (P:Program) (w:World) (p:Addr) (v:Value) (hp:tmps.getD b undef= .pointer (some p)) (hl:(loadVar ty p).run P w= .ok v w):
 (results fn tmps).run P w= .ok (.tuple #[v,tmps.getD u undef]) w:=by
 have h1:(asAddr (tmps.getD b undef)).run P w= .ok p w:=by rw[hp];rfl
 simp only[Array.getD_eq_getD_getElem?] at h1 ⊢
 simp[results,h,h1,hl,Result.andThen]
theorem results_c3 {fn:Func} {b u x:Tmp} {ty:TypeId} (h:fn.results=#[.cell b ty, .tmp u, .tmp x]) (tmps:Array Value) (P:Program) (w:World) (p:Addr) (v:Value) (hp:tmps.getD b undef= .pointer (some p)) (hl:(loadVar ty p).run P w= .ok v w):
 (results fn tmps).run P w= .ok (.tuple #[v,tmps.getD u undef,tmps.getD x undef]) w:=by
 have h1:(asAddr (tmps.getD b undef)).run P w= .ok p w:=by rw[hp];rfl
 simp only[Array.getD_eq_getD_getElem?] at h1 ⊢
 simp[results,h,h1,hl,Result.andThen]
theorem results_c4 {fn:Func} {b u x y:Tmp} {ty:TypeId} (h:fn.results=#[.cell b ty, .tmp u, .tmp x, .tmp y]) (tmps:Array Value) (P:Program) (w:World) (p:Addr) (v:Value) (hp:tmps.getD b undef= .pointer (some p)) (hl:(loadVar ty p).run P w= .ok v w):
 (results fn tmps).run P w= .ok (.tuple #[v,tmps.getD u undef,tmps.getD x undef,tmps.getD y undef]) w:=by
 have h1:(asAddr (tmps.getD b undef)).run P w= .ok p w:=by rw[hp];rfl
 simp only[Array.getD_eq_getD_getElem?] at h1 ⊢
 simp[results,h,h1,hl,Result.andThen]
theorem load_ent {w:World} {x:Nat} {k q:Int} {a:Option Addr} {n c:Nat} {t:TypeId} {fr:Nat×Nat} (h:w.heap[x]? =some (.cells #[.int .i64 k, .int .i64 q, .slice a n c] t fr)):(loadVar 40 ⟨x,0,none⟩).run Tryz.prog w= .ok (.agg #[.int .i64 k, .int .i64 q, .slice a n c]) w:=by
 have k0:=cell_of h 0
 have k1:=cell_of h 1
 have k2:=cell_of h 2
 simp at k0 k1 k2
 simp[go_sem,k0,k1,k2]
theorem load_trace {w:World} {x:Nat} {a b:Option Addr} {n c m d:Nat} {t:TypeId} {fr:Nat×Nat} (h:w.heap[x]? =some (.cells #[.slice a n c, .slice b m d] t fr)):(loadVar 36 ⟨x,0,none⟩).run Tryz.prog w= .ok (.agg #[.slice a n c, .slice b m d]) w:=by
 have k0:=cell_of h 0
 have k1:=cell_of h 1
 simp at k0 k1
 simp[go_sem,k0,k1]
def fidx (k:Nat):Int:=if k=2 then 0 else if k=1 then 1 else -1
set_option maxRecDepth 100000 in
set_option maxHeartbeats 2000000 in
theorem frIndex_any (w:World) (hF:Frames w) (k:Nat):Calls Tryz.prog 149 #[.slice (some ⟨0,0,none⟩) 2 2, .int .i64 k] w fun e w' =>e= .returned (.int .i64 (fidx k))∧Fr nob w w' :=by
 have k0:=hF 0 (by omega)
 have k1:=hF 1 (by omega)
 rw[show ((fk (0:Nat)):Int)=2 from rfl] at k0
 rw[show ((fk (1:Nat)):Int)=1 from rfl] at k1
 clear hF
 by_cases h2:k=2
 · subst h2
   rw[show fidx 2=0 from rfl]
   go_enter Tryz.func149,Tryz.ntmps149
   go_wp2_with fail
   refine wp_loop_rounds 3 ?_
   rw[rounds_succ]
   go_wp2_with fail
   go_ret
   exact ⟨rfl,Fr.refl _ _⟩
 · have d2:((k:Int) == 2)=false:=by rw[beq_eq_false_iff_ne];omega
   by_cases h1:k=1
   · subst h1
     rw[show fidx 1=1 from rfl]
     clear d2 h2
     go_enter Tryz.func149,Tryz.ntmps149
     go_wp2_with fail
     refine wp_loop_rounds 3 ?_
     rw[rounds_succ]
     go_wp2_with fail
     rw[rounds_succ]
     go_wp2_with fail
     go_ret
     exact ⟨rfl,Fr.refl _ _⟩
   · have d1:((k:Int) == 1)=false:=by rw[beq_eq_false_iff_ne];omega
     rw[show fidx k= -1 by unfold fidx;rw[if_neg h2,if_neg h1]]
     clear h1 h2
     go_enter Tryz.func149,Tryz.ntmps149
     go_wp2_with fail
     refine wp_loop_rounds 3 ?_
     rw[rounds_succ]
     go_wp2_with fail
     rw[rounds_succ]
     go_wp2_with fail
     rw[rounds_succ]
     go_wp2_with fail
     go_ret
     exact ⟨rfl,Fr.refl _ _⟩
def EntOut (w w' :World) (r y:Nat) (kd:Int) (a:Option Addr) (l:List UInt8) (cap:Nat) (o:Res (Nat×List Pr)) (e:Ending):Prop:=match o with
 | .ok v d' =>e= .returned (.tuple #[])∧At w' r a l cap d' ∧∃a' c',w'.heap[y]? =some (.cells #[.int .i64 kd, .int .i64 v.1, .slice a' v.2.length c'] 40 (0,0))∧SV rPr 2 (newb w w') w' a' c' v.2
 | .bad c d' =>e= .panicked (broken r c)∧c≠0∧c<256∧At w' r a l cap d'
set_option maxRecDepth 100000 in
set_option maxHeartbeats 8000000 in
theorem entRead1_o (S R:Nat→Prop) (w:World) (r:Nat) (hr:r<w.heap.size) (hSr:¬S r) (hS:∀k,S k→k<w.heap.size) (hRr:¬R r) (hR:∀k,R k→k<w.heap.size) (a:Option Addr) (cap:Nat) (l d:List UInt8) (hA:At w r a l cap d) (hb:BV S w a cap l) (hn:l.length≤1099511627776)
 (b:Option Addr) (cb:Nat) (s:List Col) (hs:SV rCol 2 R w b cb s) (h0:s.length≤lim) (kd:Int) (x y:Nat) (hL:∀u,Fr (fun k=>k=r∨k=y) w u→Laid u) (hx:w.heap[x]? =some (.cells #[.slice b s.length cb] 22 (0,0))) (hy:w.heap[y]? =some (.cells #[.int .i64 kd, .int .i64 0, .slice none 0 0] 40 (0,0))) (hxr:x≠r) (hyr:y≠r) (hxy:x≠y) (hSy:¬S y) (hRy:¬R y):
 Calls Tryz.prog 150 #[.pointer (some ⟨r,0,none⟩), .pointer (some ⟨y,0,none⟩), .pointer (some ⟨x,0,none⟩)] w fun e w' =>Fr (fun k=>k=r∨k=y) w w' ∧EntOut w w' r y kd a l cap (pEntry s d) e:=by
 obtain ⟨E,hE⟩:∃E,E=pEntry s d:=⟨_,rfl⟩
 rw[←hE]
 have hc:=rUint_o S w r a cap l d hA hb hn 281474976710656 (by omega)
 rw[show ((281474976710656:Nat):Int)=281474976710656 by omega] at hc
 have HY:=Lib.hid hy
 have HX:=Lib.hid hx
 have hyl:=heap_lt hy
 have HL:=Lib.hid hL
 have HB:=Lib.hid hb
 have HS:=Lib.hid hs
 have HNO:=Lib.hid (⟨⟨hSr,hSy,hS⟩,⟨hRr,hRy,hR⟩,hxr,hyr,hxy,hr⟩:(_∧_∧_)∧(_∧_∧_)∧_∧_∧_∧_)
 unfold pEntry at hE
 clear hA hb hs hL hx hy hSr hS hRr hR hxr hyr hxy hSy hRy
 cases ho:pUint 281474976710656 d with
 | bad c d1=>
   rw[ho] at hc hE
   simp only at hE
   have HE:=Lib.hid hE
   clear hE ho
   go_enter Tryz.func150,Tryz.ntmps150
   go_wp2_with fail
   refine hc.mono ?_
   intro e w1 h
   obtain ⟨rfl,h1,h2,h3,h4⟩:=h.bad rfl
   have H:=Lib.hid (⟨h1,h2,h3,h4⟩:_∧_∧_∧_)
   clear hc h h1 h2 h3 h4
   go_wp2_with fail
   refine ⟨rfl,H.out.1.mono (fun k _ h=>Or.inl h),?_⟩
   rw[HE.out]
   exact ⟨rfl,H.out.2.2.1,H.out.2.2.2,H.out.2.1⟩
 | ok q d1=>
   rw[ho] at hc hE
   simp only at hE
   have hq:=(pUint_ok.1 ho).2.1
   have hwi:IntKind.i64.wrap (q:Int)=(q:Int):=by rw[IntWalk.i64_in _ (by omega)]
   have HE:=Lib.hid hE
   clear hE ho
   go_enter Tryz.func150,Tryz.ntmps150
   go_wp2_with fail
   refine hc.mono ?_
   intro e w1 h
   obtain ⟨rfl,h1,h2⟩:=h.ok rfl
   have hy1:=h1.heap HY.out HNO.out.2.2.2.1
   have z1:=frozen_of hy1 1
   have y1:=cell_of hy1 1
   simp at y1
   have f2:=(Fr.self y w1).set1 1 (.int .i64 q)
   have g2:=heap_set hy1 1 (.int .i64 q)
   simp at g2
   obtain ⟨w2,hw2⟩:∃x,x=w1.setCell ⟨y,1,none⟩ (.int .i64 q):=⟨_,rfl⟩
   rw[←hw2] at f2 g2
   have hf12:Fr (fun k=>k=r∨k=y) w w2:=(h1.mono (T:=fun k=>k=r∨k=y) (fun k _ h=>Or.inl h)).trans' (f2.mono (T:=fun k=>k=r∨k=y) (fun k _ h=>Or.inr h))
   have hx2:=hf12.heap HX.out (by have:=HNO.out;omega)
   have kx:=cell_of hx2 0
   simp at kx
   have hA2:At w2 r a l cap d1:=h2.fr f2 (fun e=>HNO.out.2.2.2.1 e.symm)
   have hsz:=hf12.size
   have ht:=batTake_o S R w2 r (Nat.lt_of_lt_of_le HNO.out.2.2.2.2.2 hsz) HNO.out.1.1 (fun k hk=>Nat.lt_of_lt_of_le (HNO.out.1.2.2 k hk) hsz) HNO.out.2.1.1 (fun k hk=>Nat.lt_of_lt_of_le (HNO.out.2.1.2.2 k hk) hsz) a cap l d1 hA2 (HB.out.fr hf12 (fun k hk h=>by rcases h with h | h;exact HNO.out.1.1 (h ▸ hk);exact HNO.out.1.2.1 (h ▸ hk))) hn b cb s (HS.out.fr rCol_ok hf12 (fun k hk h=>by rcases h with h | h;exact HNO.out.2.1.1 (h ▸ hk);exact HNO.out.2.1.2.1 (h ▸ hk))) h0 (fun u hu=>HL.out u (hf12.trans' (hu.mono (fun k _ h=>Or.inl h))))
   have HF12:=Lib.hid hf12
   have G2:=Lib.hid g2
   have HW2:=Lib.hid hw2
   rw[hw2] at kx
   clear hc h h1 h2 hy1 f2 g2 hw2 hf12 hx2 hA2 hsz
   go_wp2_with fail
   rw[←HW2.out]
   clear z1 y1 kx
   cases hp:pBatch s d1 with
   | bad c d2=>
     have HE2:=Lib.hid (HE.out.trans (by rw[hp]))
     rw[hp] at ht
     refine ht.mono ?_
     intro e w3 h
     obtain ⟨rfl,h1,h2,h3,h4⟩:=ROut.bad h rfl
     have H:=Lib.hid (⟨h1,h2,h3,h4⟩:_∧_∧_∧_)
     clear ht h h1 h2 h3 h4 hp
     go_wp2_with fail
     refine ⟨rfl,HF12.out.trans' (H.out.1.mono (fun k _ h=>Or.inl h)),?_⟩
     rw[HE2.out]
     exact ⟨rfl,H.out.2.2.1,H.out.2.2.2,H.out.2.1⟩
   | ok v d2=>
     have HE2:=Lib.hid (HE.out.trans (by rw[hp]))
     rw[hp] at ht
     refine ht.mono ?_
     intro e w3 h
     obtain ⟨⟨a',c',rfl,hv⟩,h1,h2⟩:=ROut.ok h rfl
     have hy3:=h1.heap G2.out HNO.out.2.2.2.1
     have z3:=frozen_of hy3 2
     have y3:=cell_of hy3 2
     simp at y3
     have H:=Lib.hid (⟨h1,h2,hv,hy3⟩:_∧_∧_∧_)
     clear ht h h1 h2 hv hy3 hp
     go_wp2_with fail
     go_end0
     obtain ⟨h1,h2,hv,hy3⟩:=H.out
     have f4:=(Fr.self y w3).set1 2 (.slice a' v.length c')
     refine ⟨(HF12.out.trans' (h1.mono (fun k _ h=>Or.inl h))).trans' (f4.mono (fun k _ h=>Or.inr h)),?_⟩
     rw[HE2.out]
     refine ⟨rfl,h2.fr f4 (fun e=>HNO.out.2.2.2.1 e.symm),a',c',?_,?_⟩
     · have:=heap_set hy3 2 (.slice a' v.length c')
       simpa using this
     · refine (hv.fr rPr_ok f4 (fun k hk e=>?_)).mono rPr_ok (fun k hk=>⟨Nat.le_trans HF12.out.size hk.1,Nat.lt_of_lt_of_le hk.2 f4.size⟩)
       have:=hk.1;have:=HF12.out.size;omega
theorem ent_put {w:World} {x:Nat} {a0 b0 c0:Value} {t:TypeId} (h:w.heap[x]? =some (.cells #[a0,b0,c0] t (0,0))) (u0 u1 u2:Value):
 w.frozen? ⟨x,0,none⟩=false∧w.cell? ⟨x,0,none⟩=some a0∧w.cell? ⟨x,1,none⟩=some b0∧w.cell? ⟨x,2,none⟩=some c0∧(w.setCell ⟨x,0,none⟩ u0).frozen? ⟨x,1,none⟩=false∧(w.setCell ⟨x,0,none⟩ u0).cell? ⟨x,1,none⟩=some b0∧((w.setCell ⟨x,0,none⟩ u0).setCell ⟨x,1,none⟩ u1).frozen? ⟨x,2,none⟩=false∧((w.setCell ⟨x,0,none⟩ u0).setCell ⟨x,1,none⟩ u1).cell? ⟨x,2,none⟩=some c0∧
  (((w.setCell ⟨x,0,none⟩ u0).setCell ⟨x,1,none⟩ u1).setCell ⟨x,2,none⟩ u2).heap[x]? =some (.cells #[u0,u1,u2] t (0,0))∧Fr (fun k=>k=x) w (((w.setCell ⟨x,0,none⟩ u0).setCell ⟨x,1,none⟩ u1).setCell ⟨x,2,none⟩ u2):=by
 have h1:=heap_set h 0 u0
 simp at h1
 have h2:=heap_set h1 1 u1
 simp at h2
 have h3:=heap_set h2 2 u2
 simp at h3
 refine ⟨frozen_of h 0,by simpa using cell_of h 0,by simpa using cell_of h 1,by simpa using cell_of h 2,frozen_of h1 1,by simpa using cell_of h1 1,frozen_of h2 2,by simpa using cell_of h2 2,h3,(((Fr.self x w).set1 0 u0).set1 1 u1).set1 2 u2⟩
theorem fidx_neg {k:Nat}:fidx k<0↔k≠1∧k≠2:=by
 unfold fidx
 split
 · simp;omega
 · split
   · simp;omega
   · simp;omega
set_option maxRecDepth 100000 in
set_option maxHeartbeats 8000000 in
theorem entRead_any (S R:Nat→Prop) (w:World) (hS:∀k,S k→k<w.heap.size) (hR:∀k,R k→k<w.heap.size) (a:Option Addr) (ca:Nat) (s:List Col) (hs:SV rCol 2 R w a ca s) (h0:s.length≤lim) (kd:Nat) (b:Option Addr) (cb:Nat) (p:List UInt8) (hb:BV S w b cb p) (hn:p.length≤1099511627776) (hL:Laid w) (hF:Frames w):
 Calls Tryz.prog 124 #[.slice a s.length ca, .int .i64 kd, .slice b p.length cb] w fun e w' =>∃la lc,e= .returned (.tuple #[.agg #[.int .i64 (readE s kd p).1.kind, .int .i64 (readE s kd p).1.seq, .slice la (readE s kd p).1.prs.length lc], .int .i64 (readE s kd p).2])∧Fr nob w w' ∧SV rPr 2 (newb w w') w' la lc (readE s kd p).1.prs:=by
 obtain ⟨N,hN⟩:∃N,N=readE s kd p:=⟨_,rfl⟩
 rw[←hN]
 obtain ⟨w1,hw1⟩:∃x1,x1=(w.alloc (.cells #[.slice a s.length ca] 22 (0,0))).alloc (.cells #[.int .i64 0, .int .i64 0, .slice none 0 0] 40 (0,0)):=⟨_,rfl⟩
 obtain ⟨x,hx⟩:∃x1,x1=w.heap.size:=⟨_,rfl⟩
 obtain ⟨rr,hrr⟩:∃x1,x1=x+1:=⟨_,rfl⟩
 have hf1:Fr nob w w1:=by rw[hw1];exact ((Fr.refl nob w).alloc _).alloc _
 have hs1:w1.heap.size=rr+1:=by rw[hw1,hrr,hx];simp
 have hbx:w1.heap[x]? =some (.cells #[.slice a s.length ca] 22 (0,0)):=by rw[hw1,hx];exact heap_old (heap_new w _) _
 have hbr:w1.heap[rr]? =some (.cells #[.int .i64 0, .int .i64 0, .slice none 0 0] 40 (0,0)):=by
  have:=heap_new (w.alloc (.cells #[.slice a s.length ca] 22 (0,0))) (.cells #[.int .i64 0, .int .i64 0, .slice none 0 0] 40 (0,0))
  rw[←hw1] at this
  simpa [hx,hrr] using this
 have hc:=schema_any R w1 a ca s (hs.frN rCol_ok hf1) (hL.frN hf1) h0
 have HX:=Lib.hid (⟨hx,hrr,hs1⟩:_∧_∧_)
 have HW1:=Lib.hid hw1
 have HB:=Lib.hid hb
 have HS:=Lib.hid hs
 have HL:=Lib.hid hL
 have HF:=Lib.hid hF
 have HSR:=Lib.hid (⟨hS,hR⟩:_∧_)
 have QX:=Lib.hid (fun y (hy:Fr nob w1 y)=>hy.heap hbx id)
 have QR:=Lib.hid (fun y (hy:Fr nob w1 y)=>hy.heap hbr id)
 have hN0:=hN
 unfold readE at hN
 have kx:=cell_of hbx 0
 simp at kx
 rw[hw1] at kx
 have hxw:=hx
 have hrw:=hrr
 clear hw1 hs1 hbx hbr hb hs hL hF hS hR hx hrr hN0
 have E1:=Lib.hid (Ev.of hf1 (nob_lt _))
 have G1:=Lib.hid hf1
 clear hf1
 rw[hxw] at kx
 go_enter Tryz.func124,Tryz.ntmps124
 go_wp2_with fail
 rw[←HW1.out]
 rw[←hxw,←hrw]
 clear kx hxw hrw
 go_wp2_with fail
 refine (hc).mono ?_
 rintro e u2 ⟨rfl,hfr⟩
 have E2:=Lib.hid (Ev.of hfr E1.out.lt)
 have G2:=Lib.hid hfr
 clear hfr
 clear hc
 by_cases hsc:schemaCheck s=0
 · rw[if_neg (by omega)] at hN
   rw[hsc]
   have HSC:=Lib.hid hsc
   clear hsc
   have hix:=frIndex_any u2 (HF.out.frN (G1.out.andN G2.out)) kd
   go_wp2_with fail
   refine (hix).mono ?_
   rintro e u3 ⟨rfl,hfr⟩
   have E3:=Lib.hid (Ev.of hfr E2.out.lt)
   have G3:=Lib.hid hfr
   clear hfr
   clear hix
   obtain ⟨w3,hw3⟩:∃x1,x1=u3.alloc (.cells #[.int .i64 (fidx kd), .int .i64 0, .slice none 0 0] 40 (0,0)):=⟨_,rfl⟩
   obtain ⟨y,hy⟩:∃x1,x1=(u3).heap.size:=⟨_,rfl⟩
   have hf3:Fr nob u3 w3:=by rw[hw3];exact (Fr.refl nob _).alloc _
   have hb3:=heap_new u3 (.cells #[.int .i64 (fidx kd), .int .i64 0, .slice none 0 0] 40 (0,0))
   have hs3:w3.heap.size=y+1:=by rw[hw3,hy];simp
   rw[←hw3,←hy] at hb3
   have hyx:rr<y:=by have:=HX.out;have:=((G2.out.andN G3.out)).size;omega
   have HY:=Lib.hid (⟨hb3,hs3,hyx⟩:_∧_∧_)
   have E4:=Lib.hid (Ev.of hf3 E3.out.lt)
   have G4:=Lib.hid hf3
   have HW3:=Lib.hid (⟨hw3,hy⟩:_∧_)
   clear hf3 hw3 hy hb3 hs3 hyx
   by_cases hkk:kd≠1∧kd≠2
   · rw[if_pos hkk] at hN
     have HE:=Lib.hid hN
     have hneg:=fidx_neg.2 hkk
     have hr3:=QR.out _ (G2.out.andN (G3.out.andN G4.out))
     rw[HW3.out.1] at hr3
     clear hN hkk
     obtain ⟨zf0,zc0,yc1,yc2,zf1,zc1,zf2,zc2,hh,hfr⟩:=ent_put hr3 (.int .i64 0) (.int .i64 0) (.slice none 0 0)
     have HP:=Lib.hid (⟨hh,hfr⟩:_∧_)
     clear hh hfr hr3
     go_wp2_with fail
     (try simp only[Exit.inBlock,Exit.then])
     refine bodyPost_ret (results_c2 rfl _ _ _ ⟨rr,0,none⟩ _ rfl (load_ent HP.out.1)) rfl ?_
     rw[HE.out]
     refine ⟨none,0,rfl,(Fr.any (show Fr nob w _ by rw[←HW3.out.1];exact (G1.out.andN (G2.out.andN (G3.out.andN G4.out))))).trans HP.out.2 (fun k hk e=>?_),SV.nil _ _ _ _⟩
     have:=HX.out
     omega
   · rw[if_neg hkk] at hN
     have hneg:¬fidx kd<0:=fun h=>hkk (fidx_neg.1 h)
     have hfi:fidx kd=if kd=2 then 0 else 1:=by unfold fidx;split;rfl;split;rfl;omega
     have HFI:=Lib.hid hfi
     have HN:=Lib.hid hN
     clear hN hfi hkk
     have hrun:=run_anyI 150 #[.pointer (some ⟨y,0,none⟩), .pointer (some ⟨x,0,none⟩)] (fun k=>k=y) S w3 b cb p (HB.out.frN (G1.out.andN (G2.out.andN (G3.out.andN G4.out)))) hn (fun _ _=>rfl)
      (fun i w2=>∃v d',pEntry s p= .ok v d' ∧i=p.length - d'.length∧d'.length≤p.length∧∃a' c',w2.heap[y]? =some (.cells #[.int .i64 (fidx kd), .int .i64 v.1, .slice a' v.2.length c'] 40 (0,0))∧SV rPr 2 (fun k=>y+5≤k∧k<w2.heap.size) w2 a' c' v.2)
      (fun i err w2=>∃d',pEntry s p= .bad err d')
      (fun k hk=>by have:=HY.out;omega)
      (fun r v1 hg1 hr1 hs1 hrd=>by
       have hr2:r<v1.heap.size:=heap_lt hrd
       have hA:At v1 r b p cb p:=⟨⟨[],rfl⟩,by rw[Nat.sub_self];exact hrd⟩
       have hw3:=(G1.out.andN (G2.out.andN (G3.out.andN G4.out)))
       have hg:=hw3.andN hg1
       have hx3:=HX.out
       have hy3:=HY.out
       refine (entRead1_o S R v1 r hr2 (fun h=>by have:=HSR.out.1 r h;omega) (fun k hk=>by have:=HSR.out.1 k hk;omega) (fun h=>by have:=HSR.out.2 r h;omega) (fun k hk=>by have:=HSR.out.2 k hk;omega) b cb p p hA (HB.out.frN hg) hn a ca s (HS.out.frN rCol_ok hg) h0 (fidx kd) x y (fun u hu=>HL.out.frN (hg.trans hu (fun k hk e=>by omega))) (hg1.heap (QX.out _ (G2.out.andN (G3.out.andN G4.out))) id) (hg1.heap hy3.1 id) (by omega) (by omega) (by omega) (fun h=>by have:=HSR.out.1 y h;omega) (fun h=>by have:=HSR.out.2 y h;omega)).mono ?_
       rintro e w2 ⟨hf,h⟩
       refine ⟨hf,?_⟩
       cases ho:pEntry s p with
       | ok v d' =>
         rw[ho] at h
         obtain ⟨rfl,hA2,a',c',hy2,hv⟩:=h
         exact Or.inl ⟨rfl,_,by omega,hA2.2,v,d',rfl,rfl,hA2.le,a',c',hy2,hv.mono rPr_ok (fun k hk=>⟨by have:=hk.1;omega,hk.2⟩)⟩
       | bad c d' =>
         rw[ho] at h
         obtain ⟨rfl,hc0,hc6,hA2⟩:=h
         exact Or.inr ⟨c,_,hc0,hc6,rfl,hA2.2,d',rfl⟩)
     have ky:=cell_of HY.out.1 0
     simp at ky
     rw[HW3.out.1] at ky
     rw[HW3.out.2] at ky
     go_wp2_with fail
     rw[←HW3.out.1,←HW3.out.2]
     clear ky
     refine hrun.mono ?_
     rintro e w4 ⟨i,err,w2,rfl,hf4,⟨h2,hfr2⟩,hh⟩
     clear hrun
     have hw3:=(G1.out.andN (G2.out.andN (G3.out.andN G4.out)))
     have hfw:Fr nob w w4:=hw3.any.trans hf4 (fun k hk e=>by have:=HX.out;have:=HY.out;omega)
     have hr4:=hf4.heap (QR.out _ (G2.out.andN (G3.out.andN G4.out))) (by have:=HY.out;omega)
     have HFW:=Lib.hid hfw
     clear hw3 hfw
     rcases hh with ⟨hin,⟨v,d',hpb,hi,hdl,a',c',hy2,hv⟩,rfl⟩ | ⟨he,d',hpb⟩
     · by_cases hd0:d'.length=0
       · have HE:=Lib.hid (HN.out.trans (show (match pEntry s p with | .bad c d=>((⟨0,0,[]⟩:Ent),c) | .ok v d=>if d.length=0 then (⟨if kd=2 then 0 else 1,v.1,v.2⟩,0) else (⟨0,0,[]⟩,7))=((⟨fidx kd,v.1,v.2⟩:Ent),0) by rw[hpb];simp only[if_pos hd0];rw[HFI.out]))
         have hnl:¬i<p.length:=by omega
         have hy4:w4.heap[y]? =some (.cells #[.int .i64 (fidx kd), .int .i64 v.1, .slice a' v.2.length c'] 40 (0,0)):=by rw[h2 y (by have:=HY.out;omega)];exact hy2
         have y0:=cell_of hy4 0
         have y1:=cell_of hy4 1
         have y2:=cell_of hy4 2
         simp at y0 y1 y2
         have hv4:SV rPr 2 (fun k=>y+5≤k∧k<w4.heap.size) w4 a' c' v.2:=(hv.fr rPr_ok hfr2 (fun k hk hb=>by have:=hk.1;unfold runb at hb;have:=HY.out;omega)).mono rPr_ok (fun k hk=>⟨hk.1,Nat.lt_of_lt_of_le hk.2 hfr2.size⟩)
         have HV4:=Lib.hid hv4
         rw[if_neg hnl]
         obtain ⟨q,l⟩:=v
         simp only at y1 y2 HV4 HE
         obtain ⟨zf0,zc0,yc1,yc2,zf1,zc1,zf2,zc2,hh,hfr⟩:=ent_put hr4 (.int .i64 (fidx kd)) (.int .i64 q) (.slice a' l.length c')
         have HP:=Lib.hid (⟨hh,hfr⟩:_∧_)
         clear hh hfr hr4 hpb hi hdl hy2 hv hy4 hv4 h2 hfr2 hf4 hnl hd0
         go_wp2_with fail
         (try simp only[Exit.inBlock,Exit.then])
         refine bodyPost_ret (results_c2 rfl _ _ _ ⟨rr,0,none⟩ _ rfl (load_ent HP.out.1)) rfl ?_
         rw[HE.out]
         have hf5:=HP.out.2
         refine ⟨a',c',rfl,HFW.out.any.trans hf5 (fun k hk e=>by have:=HX.out;omega),?_⟩
         exact (HV4.out.fr rPr_ok hf5 (fun k hk e=>by have:=hk.1;have:=HY.out;omega)).mono rPr_ok (fun k hk=>⟨by have:=hk.1;have:=HX.out;have:=HY.out;omega,Nat.lt_of_lt_of_le hk.2 hf5.size⟩)
       · have HE:=Lib.hid (HN.out.trans (show (match pEntry s p with | .bad c d=>((⟨0,0,[]⟩:Ent),c) | .ok v d=>if d.length=0 then (⟨if kd=2 then 0 else 1,v.1,v.2⟩,0) else (⟨0,0,[]⟩,7))=((⟨0,0,[]⟩:Ent),7) by rw[hpb];simp only[if_neg hd0]))
         have hnl:i<p.length:=by omega
         rw[if_pos hnl]
         clear hpb hi hdl hy2 hv h2 hfr2 hf4 hnl hd0
         obtain ⟨zf0,zc0,yc1,yc2,zf1,zc1,zf2,zc2,hh,hfr⟩:=ent_put (hr4) (.int .i64 0) (.int .i64 0) (.slice none 0 0)
         have HP:=Lib.hid (⟨hh,hfr⟩:_∧_)
         clear hh hfr
         go_wp2_with fail
         (try simp only[Exit.inBlock,Exit.then])
         refine bodyPost_ret (results_c2 rfl _ _ _ ⟨rr,0,none⟩ _ rfl (load_ent HP.out.1)) rfl ?_
         rw[HE.out]
         refine ⟨none,0,rfl,(HFW.out).any.trans HP.out.2 (fun k hk e=>?_),SV.nil _ _ _ _⟩
         have:=HX.out
         omega
     · have HE:=Lib.hid (HN.out.trans (show (match pEntry s p with | .bad c d=>((⟨0,0,[]⟩:Ent),c) | .ok v d=>if d.length=0 then (⟨if kd=2 then 0 else 1,v.1,v.2⟩,0) else (⟨0,0,[]⟩,7))=((⟨0,0,[]⟩:Ent),err) by rw[hpb]))
       have d1:=intne he
       clear hpb h2 hfr2 hf4 he
       obtain ⟨zf0,zc0,yc1,yc2,zf1,zc1,zf2,zc2,hh,hfr⟩:=ent_put (hr4) (.int .i64 0) (.int .i64 0) (.slice none 0 0)
       have HP:=Lib.hid (⟨hh,hfr⟩:_∧_)
       clear hh hfr
       go_wp2_with fail
       (try simp only[Exit.inBlock,Exit.then])
       refine bodyPost_ret (results_c2 rfl _ _ _ ⟨rr,0,none⟩ _ rfl (load_ent HP.out.1)) rfl ?_
       rw[HE.out]
       refine ⟨none,0,rfl,(HFW.out).any.trans HP.out.2 (fun k hk e=>?_),SV.nil _ _ _ _⟩
       have:=HX.out
       omega
 · have HE:=Lib.hid (hN.trans (if_pos hsc))
   have d1:=intne hsc
   have hr2:=QR.out _ G2.out
   clear hN hsc
   obtain ⟨zf0,zc0,yc1,yc2,zf1,zc1,zf2,zc2,hh,hfr⟩:=ent_put (hr2) (.int .i64 0) (.int .i64 0) (.slice none 0 0)
   have HP:=Lib.hid (⟨hh,hfr⟩:_∧_)
   clear hh hfr
   go_wp2_with fail
   (try simp only[Exit.inBlock,Exit.then])
   refine bodyPost_ret (results_c2 rfl _ _ _ ⟨rr,0,none⟩ _ rfl (load_ent HP.out.1)) rfl ?_
   rw[HE.out]
   refine ⟨none,0,rfl,((G1.out.andN G2.out)).any.trans HP.out.2 (fun k hk e=>?_),SV.nil _ _ _ _⟩
   have:=HX.out
   omega
def colCells (c:Col):List Value:=[.string (bs c.name), .int .i64 c.kind]
def ColFit (c:Col):Prop:=I64 c.kind∧c.name.length≤lim
theorem vec_cols {S:Nat→Prop} {w:World} {a:Option Addr} {cap:Nat} {l:List Col} (h:Vec S w 2 a l.length cap (l.flatMap colCells)) (hl:∀c∈l,ColFit c):SV rCol 2 S w a cap l:=by
 refine ⟨l.map colCells,by simp,by rw[←List.flatMap_def];exact h,fun i c x hc hx=>?_⟩
 rw[List.getElem?_map,hx] at hc
 cases hc
 obtain ⟨h1,h2⟩:=hl x (List.mem_of_getElem? hx)
 exact ⟨h1,h2,rfl⟩
def namesOf (l:List Col):List (List UInt8):=(l.map (·.name)).reverse
theorem namesOf_snoc (l:List Col) (c:Col):namesOf (l++[c])=c.name::namesOf l:=by simp[namesOf]
theorem pSch_bad1 {n k c:Nat} {xs:List (List UInt8)} {d d1:List UInt8} (hk:k<n) (h:pBytes 32 d= .bad c d1):pSchCols (n - k) xs d= .bad c d1:=by
 rw[show n - k=(n - (k+1))+1 by omega];simp only[pSchCols];rw[h]
theorem pSch_bad2 {n k:Nat} {xs:List (List UInt8)} {d d1 b:List UInt8} (hk:k<n) (h:pBytes 32 d= .ok b d1) (hb:(nameOk b&&!(decide (b∈xs)))=false):pSchCols (n - k) xs d= .bad 2 d1:=by
 rw[show n - k=(n - (k+1))+1 by omega];simp only[pSchCols];rw[h];simp only;rw[if_pos hb]
theorem pSch_bad3 {n k c:Nat} {xs:List (List UInt8)} {d d1 d2 b:List UInt8} (hk:k<n) (h:pBytes 32 d= .ok b d1) (hb:(nameOk b&&!(decide (b∈xs)))=true) (h2:pByte d1= .bad c d2):pSchCols (n - k) xs d= .bad c d2:=by
 rw[show n - k=(n - (k+1))+1 by omega];simp only[pSchCols];rw[h];simp only;rw[if_neg (by rw[hb];simp),h2]
theorem pSch_bad4 {n k:Nat} {c:UInt8} {xs:List (List UInt8)} {d d1 d2 b:List UInt8} (hk:k<n) (h:pBytes 32 d= .ok b d1) (hb:(nameOk b&&!(decide (b∈xs)))=true) (h2:pByte d1= .ok c d2) (hc:kindOk c.toNat=false):pSchCols (n - k) xs d= .bad 10 d2:=by
 rw[show n - k=(n - (k+1))+1 by omega];simp only[pSchCols];rw[h];simp only;rw[if_neg (by rw[hb];simp),h2];simp only;rw[if_pos hc]
theorem pSch_step {n k:Nat} {c:UInt8} {xs:List (List UInt8)} {d d1 d2 b:List UInt8} {dn:List Col} (hk:k<n) (h:pBytes 32 d= .ok b d1) (hb:(nameOk b&&!(decide (b∈xs)))=true) (h2:pByte d1= .ok c d2) (hc:kindOk c.toNat=true):(pSchCols (n - k) xs d).pre dn=(pSchCols (n - (k+1)) (b::xs) d2).pre (dn++[⟨b,c.toNat⟩]):=by
 rw[show n - k=(n - (k+1))+1 by omega];simp only[pSchCols];rw[h];simp only;rw[if_neg (by rw[hb];simp),h2];simp only;rw[if_neg (by rw[hc];simp),Res.pre_pre]
def tB (r y z:Nat):Nat→Prop:=fun k=>k=r∨k=y∨z≤k
def SchOut (w w' :World) (r y:Nat) (a:Option Addr) (l:List UInt8) (cap:Nat) (o:Res (List Col)) (e:Ending):Prop:=match o with
 | .ok v d' =>e= .returned (.tuple #[])∧At w' r a l cap d' ∧∃a' c',w'.heap[y]? =some (.cells #[.slice a' v.length c'] 22 (0,0))∧SV rCol 2 (fun k=>w.heap.size≤k∧k<w'.heap.size) w' a' c' v
 | .bad c d' =>e= .panicked (broken r c)∧c≠0∧c<256∧At w' r a l cap d'
set_option maxRecDepth 100000 in
set_option maxHeartbeats 16000000 in
theorem schRead1_o (S:Nat→Prop) (w:World) (r:Nat) (hr:r<w.heap.size) (hSr:¬S r) (hS:∀k,S k→k<w.heap.size) (a:Option Addr) (cap:Nat) (l d:List UInt8) (hA:At w r a l cap d) (hb:BV S w a cap l) (hn:l.length≤1099511627776)
 (y:Nat) (hL:∀u,Fr (fun k=>k=r∨k=y) w u→Laid u) (hy:w.heap[y]? =some (.cells #[.slice none 0 0] 22 (0,0))) (hyr:y≠r) (hSy:¬S y):
 Calls Tryz.prog 147 #[.pointer (some ⟨r,0,none⟩), .pointer (some ⟨y,0,none⟩)] w fun e w' =>Fr (fun k=>k=r∨k=y) w w' ∧SchOut w w' r y a l cap (pSchema d) e:=by
 obtain ⟨E,hE⟩:∃E,E=pSchema d:=⟨_,rfl⟩
 rw[←hE]
 obtain ⟨z,hz⟩:∃z,z=w.heap.size:=⟨_,rfl⟩
 have hyl:=heap_lt hy
 have HB:=Lib.hid (fun x (hx:Fr (tB r y z) w x)=>hb.fr hx (fun k hk h=>by rcases h with h | h | h;exact hSr (h ▸ hk);exact hSy (h ▸ hk);have:=hS k hk;omega))
 have HLA:=Lib.hid (fun x (hx:Fr (tB r y z) w x)=>hL x (hx.mono (fun k hk h=>by rcases h with h | h | h;exact Or.inl h;exact Or.inr h;omega)))
 have HA:=Lib.hid hA
 have HY:=Lib.hid hy
 have HZ:=Lib.hid (⟨hz,hr,hyl,hyr,hSr⟩:_∧_∧_∧_∧_)
 have hc:=rUint_o S w r a cap l d hA hb hn 8 (by omega)
 clear hb hL hA hS hSr hSy hy
 unfold pSchema at hE
 cases ho:pUint 8 d with
 | bad c d1=>
   rw[ho] at hE hc
   simp only at hE
   have HEK1:=Lib.hid hE
   go_enter Tryz.func147,Tryz.ntmps147
   go_wp2_with fail
   refine hc.mono ?_
   intro e w1 h
   obtain ⟨rfl,h1,h2,h3,h4⟩:=h.bad rfl
   have HCH:=Lib.hid (h1.mono (T:=tB r y z) (fun k _ h=>Or.inl h))
   have HAT1:=Lib.hid (⟨h3,h4,h2⟩:_∧_∧_)
   clear hc h h1 h2 h3 h4 hE ho
   rw[HZ.out.1] at HCH
   go_wp2_with fail
   refine ⟨rfl,HCH.out.mono (fun k hk h=>by rcases h with h | h | h;exact Or.inl h;exact Or.inr h;omega),?_⟩
   rw[HEK1.out]
   exact ⟨rfl,HAT1.out⟩
 | ok n d1=>
   rw[ho] at hE hc
   simp only at hE
   obtain ⟨_,hn8,_⟩:=pUint_ok.1 ho
   have hc2:=hc.mono (R' :=fun e w' =>e= .returned (.int .u64 n)∧Fr (fun j=>j=r) w w' ∧At w' r a l cap d1) (fun e w' h=>by obtain ⟨rfl,h1,h2⟩:=h.ok rfl;exact ⟨rfl,h1,h2⟩)
   clear hc ho
   by_cases hn0:n=0
   · rw[if_pos hn0] at hE
     subst hn0
     have HEK1:=Lib.hid hE
     clear hE
     go_enter Tryz.func147,Tryz.ntmps147
     go_wp2_with fail
     refine hc2.mono ?_
     rintro e w1 ⟨rfl,h1,h2⟩
     have hmo:=mustN_bad r a cap l d1 4 w1 h2 (by omega) (by omega)
     have H1:=Lib.hid (⟨h1,h2⟩:_∧_)
     clear hc2 h1 h2
     go_wp2_with fail
     refine hmo.mono ?_
     rintro e w2 ⟨rfl,hf2⟩
     have HCH:=Lib.hid ((H1.out.1.andN hf2).mono (T:=tB r y z) (fun k _ h=>Or.inl h))
     have HAT1:=Lib.hid (⟨by decide,by decide,H1.out.2.fr hf2 id⟩:(4:Nat)≠0∧(4:Nat)<256∧_)
     rw[HZ.out.1] at HCH
     clear hmo hf2
     go_wp2_with fail
     refine ⟨rfl,HCH.out.mono (fun k hk h=>by rcases h with h | h | h;exact Or.inl h;exact Or.inr h;omega),?_⟩
     rw[HEK1.out]
     exact ⟨rfl,HAT1.out⟩
   · rw[if_neg hn0] at hE
     have hnp:0<n:=by omega
     have HE:=Lib.hid hE
     have HN0:=Lib.hid hn0
     clear hE hn0
     go_enter Tryz.func147,Tryz.ntmps147
     go_wp2_with fail
     refine hc2.mono ?_
     rintro e w1 ⟨rfl,h1,h2⟩
     have hmo:=mustN_ok r a cap l d1 true 4 w1 h2 (Or.inl rfl)
     have H1:=Lib.hid (⟨h1,h2⟩:_∧_)
     clear hc2 h1 h2
     go_wp2_with fail
     refine hmo.mono ?_
     rintro e w2 ⟨rfl,hf2⟩
     have hM:=SetMap.made w2
     have hmk:∀(w:World),(Instr.makeMap 165 none).run Tryz.prog w= .ok (.map (some w.heap.size)) (w.alloc (.map #[] 0)):=fun _=>rfl
     have hfM:=(Fr.refl nob w2).alloc (.map #[] 0)
     obtain ⟨m,hm⟩:∃m,m=w2.heap.size:=⟨_,rfl⟩
     obtain ⟨w3,hw3⟩:∃w0,w0=w2.alloc (.map #[] 0):=⟨_,rfl⟩
     have hs3:w3.heap.size=m+1:=by rw[hw3,hm];simp
     rw[←hm,←hw3] at hM
     rw[←hw3] at hfM
     have hzm:z≤m:=by have:=H1.out.1.size;have:=hf2.size;have:=HZ.out.1;omega
     have HCH3:=Lib.hid (((H1.out.1.andN hf2).andN hfM).mono (T:=tB r y z) (fun k _ h=>Or.inl h))
     have HAT3:=Lib.hid ((H1.out.2.fr hf2 id).fr hfM id)
     have HY3:=Lib.hid (((H1.out.1.andN hf2).andN hfM).heap HY.out HZ.out.2.2.2.1)
     have HM:=Lib.hid hM
     have HW3:=Lib.hid (⟨hw3,hm⟩:_∧_)
     clear hmo hf2 hfM hM hw3 hm H1
     go_wp2_with fail
     rw[←HW3.out.1,←HW3.out.2]
     clear hmk HW3
     go_loopw [14] (fun v14 wr=>∃(k:Nat) (dn:List Col) (O:Nat→Prop) (ao:Option Addr) (co:Nat) (dk:List UInt8),v14= .int .u64 k∧k≤n∧dn.length=k∧E=(pSchCols (n - k) (namesOf dn) dk).pre dn∧SetMap wr m (namesOf dn)∧At wr r a l cap dk∧wr.heap[y]? =some (.cells #[.slice ao dn.length co] 22 (0,0))∧Vec O wr 2 ao dn.length co (dn.flatMap colCells)∧(∀c∈dn,ColFit c)∧Fr (tB r y z) w wr∧(∀j,O j→m<j∧j<wr.heap.size)∧m<wr.heap.size) (fun v14 _=>n - (intOf v14).toNat)
     case atStart=>exact ⟨0,[],nob,none,0,d1,rfl,Nat.zero_le _,rfl,by rw[HE.out,Nat.sub_zero,Res.pre_nil];rfl,HM.out,HAT3.out,HY3.out,Vec.nil _ _ _,by simp,HCH3.out,fun j h=>h.elim,by omega⟩
     case round=>
      obtain ⟨k,dn,O,ao,co,dk,rfl,hk,hdn,hEk,hM,hAt,hY,hV,hfit,hch,hO,hmw⟩:=hrel
      have HEK:=Lib.hid hEk
      have HDN:=Lib.hid hdn
      have HMK:=Lib.hid hM
      have HAT:=Lib.hid hAt
      have HYK:=Lib.hid hY
      have HVK:=Lib.hid hV
      have HFIT:=Lib.hid hfit
      have HCHK:=Lib.hid hch
      have HO:=Lib.hid hO
      clear hEk hM hAt hY hV hfit hch hO HE HCH3 HAT3 HY3 HM hs3
      have hd8:dn.length≤8:=by omega
      clear hdn
      by_cases hlt:k<n
      · have hcb:=rBytes_o S wr r HZ.out.2.2.2.2 a cap l dk HAT.out (HB.out _ HCHK.out) hn 32 (by omega) (Nat.lt_of_lt_of_le HZ.out.2.1 HCHK.out.size)
        cases ho:pBytes 32 dk with
        | bad c d2=>
          have HEK1:=Lib.hid (HEK.out.trans (by rw[pSch_bad1 hlt ho];rfl:_=Res.bad c d2))
          rw[ho] at hcb
          go_wp2_with fail
          refine hcb.mono ?_
          intro e u1 h
          obtain ⟨rfl,h1,h2,h3,h4⟩:=h.bad rfl
          have HCH:=Lib.hid (HCHK.out.trans' (h1.mono (T:=tB r y z) (fun k _ h=>Or.inl h)))
          have HAT1:=Lib.hid (⟨h3,h4,h2⟩:_∧_∧_)
          clear hcb h h1 h2 h3 h4 ho HEK
          rw[HZ.out.1] at HCH
          go_wp2_with fail
          refine ⟨rfl,HCH.out.mono (fun k hk h=>by rcases h with h | h | h;exact Or.inl h;exact Or.inr h;omega),?_⟩
          rw[HEK1.out]
          exact ⟨rfl,HAT1.out⟩
        | ok nm d2=>
          obtain ⟨_,hnm,_⟩:=pBytes_ok.1 ho
          have HO1:=Lib.hid ho
          rw[ho] at hcb
          have hc2:=hcb.mono (R' :=fun e w' =>∃a' c',e= .returned (.slice a' nm.length c')∧BV (newb wr w') w' a' c' nm∧Fr (fun j=>j=r) wr w' ∧At w' r a l cap d2) (fun e w' h=>by obtain ⟨⟨a',c',h0,h00⟩,h1,h2⟩:=h.ok rfl;exact ⟨a',c',h0,h00,h1,h2⟩)
          clear hcb ho
          go_wp2_with fail
          refine hc2.mono ?_
          rintro e u1 ⟨a1,c1,rfl,hv1,h1,h2⟩
          have qs:=str_of hv1
          obtain ⟨x2,hx2⟩:∃x1,x1=u1.alloc (.cells #[.string (bs nm), .int .i64 0] 71 (0,0)):=⟨_,rfl⟩
          obtain ⟨zc,hzc⟩:∃x1,x1=u1.heap.size:=⟨_,rfl⟩
          have hf2:Fr nob u1 x2:=by rw[hx2];exact (Fr.refl nob _).alloc _
          have hB2:=heap_new u1 (.cells #[.string (bs nm), .int .i64 0] 71 (0,0))
          rw[←hx2,←hzc] at hB2
          have hs2:x2.heap.size=zc+1:=by rw[hx2,hzc];simp
          have hmz:m<zc:=by have:=h1.size;omega
          have c0:=cell_of hB2 0
          simp at c0
          have hst:=seentake_any x2 m (namesOf dn) nm ((HMK.out.fr h1 (by have:=HZ.out;omega)).fr hf2 id) (by unfold lim;omega)
          have HCH2:=Lib.hid ((HCHK.out.trans' (h1.mono (T:=tB r y z) (fun k _ h=>Or.inl h))).andN hf2)
          have HAT2:=Lib.hid (h2.fr hf2 id)
          have HB2:=Lib.hid hB2
          have HX2:=Lib.hid (⟨hx2,hzc⟩:_∧_)
          have hwz:wr.heap.size≤zc:=by have:=h1.size;omega
          have hrz:r≠m∧y≠m∧r≠zc∧y≠zc:=by have:=HZ.out;omega
          have HF12:=Lib.hid (h1.andN hf2)
          clear hc2 hv1 h1 h2 hf2 hx2 hzc hB2
          go_wp2_with fail
          rw[←HX2.out.1,←HX2.out.2]
          clear qs
          refine hst.mono ?_
          rintro e u3 ⟨rfl,hs3,hf3⟩
          have HMK3:=Lib.hid hs3
          have hf3' :=hf3.mono (T:=tB r y z) (fun k _ h=>by subst h;exact Or.inr (Or.inr hzm))
          have HCH3:=Lib.hid (HCH2.out.trans' hf3')
          have HAT3:=Lib.hid (HAT2.out.fr hf3 hrz.1)
          have HB3:=Lib.hid (hf3.heap HB2.out (by omega))
          have HF13:=Lib.hid ((HF12.out.mono (T:=fun j=>j=r∨j=m) (fun k _ h=>Or.inl h)).trans' (hf3.mono (T:=fun j=>j=r∨j=m) (fun k _ h=>Or.inr h)))
          clear hst hs3 hf3 hf3' c0
          cases hbl:(nameOk nm&&!(decide (nm∈namesOf dn)))
          · have HEK1:=Lib.hid (HEK.out.trans (by rw[pSch_bad2 hlt HO1.out hbl];rfl:_=Res.bad 2 d2))
            have hmo:=mustN_bad r a cap l d2 2 u3 HAT3.out (by omega) (by omega)
            clear hbl
            go_wp2_with fail
            refine hmo.mono ?_
            rintro e u4 ⟨rfl,hf4⟩
            have HCH:=Lib.hid (HCH3.out.andN hf4)
            have HAT1:=Lib.hid (⟨by decide,by decide,HAT3.out.fr hf4 id⟩:(2:Nat)≠0∧(2:Nat)<256∧_)
            rw[HZ.out.1] at HCH
            clear hmo hf4
            go_wp2_with fail
            refine ⟨rfl,HCH.out.mono (fun k hk h=>by rcases h with h | h | h;exact Or.inl h;exact Or.inr h;omega),?_⟩
            rw[HEK1.out]
            exact ⟨rfl,HAT1.out⟩
          · have hmo:=mustN_ok r a cap l d2 true 2 u3 HAT3.out (Or.inl rfl)
            have HBL:=Lib.hid hbl
            clear hbl
            go_wp2_with fail
            refine hmo.mono ?_
            rintro e u4 ⟨rfl,hf4⟩
            have HCH4:=Lib.hid (HCH3.out.andN hf4)
            have hby:=rByte_o S u4 r HZ.out.2.2.2.2 a cap l d2 (HAT3.out.fr hf4 id) (HB.out _ HCH4.out) hn
            have HF4:=Lib.hid hf4
            clear hmo hf4
            cases ho2:pByte d2 with
            | bad c d3=>
              have HEK1:=Lib.hid (HEK.out.trans (by rw[pSch_bad3 hlt HO1.out HBL.out ho2];rfl:_=Res.bad c d3))
              rw[ho2] at hby
              go_wp2_with fail
              refine hby.mono ?_
              intro e u5 h
              obtain ⟨rfl,h1,h2,h3,h4⟩:=h.bad rfl
              have HCH:=Lib.hid (HCH4.out.trans' (h1.mono (T:=tB r y z) (fun k _ h=>Or.inl h)))
              have HAT1:=Lib.hid (⟨h3,h4,h2⟩:_∧_∧_)
              clear hby h h1 h2 h3 h4 ho2 HEK
              rw[HZ.out.1] at HCH
              go_wp2_with fail
              refine ⟨rfl,HCH.out.mono (fun k hk h=>by rcases h with h | h | h;exact Or.inl h;exact Or.inr h;omega),?_⟩
              rw[HEK1.out]
              exact ⟨rfl,HAT1.out⟩
            | ok ch d3=>
              have HO2:=Lib.hid ho2
              rw[ho2] at hby
              have hc2:=hby.mono (R' :=fun e w' =>e= .returned (.int .u8 ch.toNat)∧Fr (fun j=>j=r) u4 w' ∧At w' r a l cap d3) (fun e w' h=>by obtain ⟨h0,h1,h2⟩:=h.ok rfl;exact ⟨h0,h1,h2⟩)
              clear hby ho2
              go_wp2_with fail
              refine hc2.mono ?_
              rintro e u5 ⟨rfl,h1,h2⟩
              have hch:=UInt8.toNat_lt ch
              have hB5:=h1.heap (HF4.out.heap HB3.out id) (fun e=>hrz.2.2.1 e.symm)
              have z5:=frozen_of hB5 1
              have y5:=cell_of hB5 1
              simp at y5
              have f6:=(Fr.self zc u5).set1 1 (.int .i64 ch.toNat)
              have h6:=heap_set hB5 1 (.int .i64 ch.toNat)
              simp at h6
              obtain ⟨x6,hx6⟩:∃x,x=u5.setCell ⟨zc,1,none⟩ (.int .i64 ch.toNat):=⟨_,rfl⟩
              rw[←hx6] at f6 h6
              have k6:=cell_of h6 1
              simp at k6
              have hwi:IntKind.i64.wrap (ch.toNat:Int)=(ch.toNat:Int):=by rw[IntWalk.i64_in _ (by omega)]
              have HF15:=Lib.hid ((HF13.out.andN HF4.out).trans' (h1.mono (T:=fun j=>j=r∨j=m) (fun k _ h=>Or.inl h)))
              have HCH6:=Lib.hid ((HCH4.out.trans' (h1.mono (T:=tB r y z) (fun k _ h=>Or.inl h))).trans' (f6.mono (T:=tB r y z) (fun k _ h=>by subst h;exact Or.inr (Or.inr (by omega)))))
              have HAT6:=Lib.hid (h2.fr f6 hrz.2.2.1)
              have HMK6:=Lib.hid (((HMK3.out.fr HF4.out id).fr h1 (fun e=>hrz.1 e.symm)).fr f6 (by omega))
              have HH6:=Lib.hid h6
              have HX6:=Lib.hid hx6
              have HF6:=Lib.hid f6
              have hkd:=kindly_any (ch.toNat:Int) x6 (HLA.out _ HCH6.out)
              clear hc2 h1 h2 hB5 f6 h6 hx6
              go_wp2_with fail
              rw[←HX6.out]
              clear z5 y5
              refine hkd.mono ?_
              rintro e u7 ⟨rfl,hf7⟩
              clear hkd k6
              cases hkb:kindOk (ch.toNat:Int)
              · have HEK1:=Lib.hid (HEK.out.trans (by rw[pSch_bad4 hlt HO1.out HBL.out HO2.out hkb];rfl:_=Res.bad 10 d3))
                have hmo:=mustN_bad r a cap l d3 10 u7 (HAT6.out.fr hf7 id) (by omega) (by omega)
                clear hkb
                go_wp2_with fail
                refine hmo.mono ?_
                rintro e u8 ⟨rfl,hf8⟩
                have HCH:=Lib.hid ((HCH6.out.andN hf7).andN hf8)
                have HAT1:=Lib.hid (⟨by decide,by decide,(HAT6.out.fr hf7 id).fr hf8 id⟩:(10:Nat)≠0∧(10:Nat)<256∧_)
                rw[HZ.out.1] at HCH
                clear hmo hf8 hf7
                go_wp2_with fail
                refine ⟨rfl,HCH.out.mono (fun k hk h=>by rcases h with h | h | h;exact Or.inl h;exact Or.inr h;omega),?_⟩
                rw[HEK1.out]
                exact ⟨rfl,HAT1.out⟩
              · have hmo:=mustN_ok r a cap l d3 true 10 u7 (HAT6.out.fr hf7 id) (Or.inl rfl)
                have HEK1:=Lib.hid (HEK.out.trans (pSch_step hlt HO1.out HBL.out HO2.out hkb))
                clear hkb
                go_wp2_with fail
                refine hmo.mono ?_
                rintro e u8 ⟨rfl,hf8⟩
                have hf78:=hf7.andN hf8
                have hB8:=hf78.heap HH6.out id
                have k80:=cell_of hB8 0
                have k81:=cell_of hB8 1
                simp at k80 k81
                have HCH8:=Lib.hid (HCH6.out.andN hf78)
                have hYf:Fr (fun j=>j=r∨j=m∨j=zc) wr u8:=((HF15.out.mono (T:=fun j=>j=r∨j=m∨j=zc) (fun k _ h=>h.elim Or.inl (fun h=>Or.inr (Or.inl h)))).trans' (HF6.out.mono (T:=fun j=>j=r∨j=m∨j=zc) (fun k _ h=>Or.inr (Or.inr h)))).andN hf78
                have hY8:=hYf.heap HYK.out (by omega)
                have kY:=cell_of hY8 0
                simp at kY
                have hV8:=HVK.out.fr hYf (fun k hk h=>by have:=HO.out k hk;have:=HZ.out;rcases h with h | h | h<;>omega)
                obtain ⟨x9,hx9⟩:∃x1,x1=u8.alloc (.cells #[.string (bs nm), .int .i64 ch.toNat] 71 (0,0)):=⟨_,rfl⟩
                have hf9:Fr nob u8 x9:=by rw[hx9];exact (Fr.refl nob _).alloc _
                have hlit:=Vec.newrow u8 #[.string (bs nm), .int .i64 ch.toNat] 71 (size:=2) (n:=1) rfl (by unfold maxLen;omega) (by simp[Value.oneCell'])
                have HSRC:=Lib.hid (hlit.src (P:=Tryz.prog) Tryz.underlying22)
                have HVV:=Lib.hid (hV8.frN hf9)
                rw[hx9] at HVV
                have HX9:=Lib.hid hx9
                have HF9:=Lib.hid hf9
                have HY8:=Lib.hid hY8
                have HF78:=Lib.hid hf78
                have hszu:m<u8.heap.size∧y<u8.heap.size∧r<u8.heap.size:=by have:=hYf.size;have:=HZ.out;have:=HCHK.out.size;omega
                have HYF:=Lib.hid hYf
                clear hmo hf7 hf8 hf78 hB8 hY8 hV8 hlit hf9 hx9 hYf
                go_wp2_with (at_builtin;refine wpList_append_vec rfl _ _ _ _ rfl rfl HVV.out _ _ _ Tryz.underlying22 inf_Col rfl _ 1 _ rfl HSRC.out (by unfold maxLen;omega) (by omega) ?_)
                intro a10 c10 w10 hv10 hf10 _
                rw[←HX9.out] at hv10 hf10
                have hOy:¬O y:=fun h=>by have:=(HO.out y h).1;have:=HZ.out;omega
                have hOr:¬O r:=fun h=>by have:=(HO.out r h).1;have:=HZ.out;omega
                have hOm:¬O m:=fun h=>by have:=(HO.out m h).1;omega
                have hY10:=hf10.heap (HF9.out.heap HY8.out id) hOy
                have z10:=frozen_of hY10 0
                have k10:=cell_of hY10 0
                simp at k10
                have f11:=(Fr.self y w10).set1 0 (.slice a10 (dn.length+1) c10)
                have h11:=heap_set hY10 0 (.slice a10 (dn.length+1) c10)
                simp at h11
                have HV10:=Lib.hid hv10
                have HF10:=Lib.hid hf10
                have HF11:=Lib.hid f11
                have HH11:=Lib.hid h11
                have HOO:=Lib.hid (⟨hOy,hOr,hOm⟩:_∧_∧_)
                clear hv10 hf10 f11 h11 hY10 kY k80 k81 hOy hOr hOm
                go_wp2_with fail
                go_roundw
                case rel=>
                 have hOn:∀j,grow O x9 w10 j→m<j∧j<w10.heap.size:=fun j hj=>by
                  rcases hj with hj | hj
                  · have h1:=HO.out j hj;have:=HYF.out.size;have:=HF9.out.size;have:=HF10.out.size;omega
                  · have:=hj.1;have:=HF9.out.size;exact ⟨by omega,hj.2⟩
                 have hsz:=HF11.out.size
                 refine ⟨k+1,dn++[⟨nm,ch.toNat⟩],grow O x9 w10,a10,c10,d3,by go_num,by omega,by simp[HDN.out],?_,?_,?_,?_,?_,?_,?_,fun j hj=>?_,?_⟩
                 · rw[HEK1.out,namesOf_snoc]
                 · rw[namesOf_snoc]
                   exact (((HMK6.out.fr HF78.out id).fr HF9.out id).fr HF10.out HOO.out.2.2).fr HF11.out (fun e=>hrz.2.1 e.symm)
                 · exact (((HAT6.out.fr HF78.out id).fr HF9.out id).fr HF10.out HOO.out.2.1).fr HF11.out (fun e=>HZ.out.2.2.2.1 e.symm)
                 · rw[List.length_append];exact HH11.out
                 · rw[List.length_append,List.flatMap_append]
                   exact HV10.out.fr HF11.out (fun j hj e=>by subst e;have:=(hOn _ hj).1;have:=HZ.out;omega)
                 · intro c hc
                   rcases List.mem_append.1 hc with hc | hc
                   · exact HFIT.out c hc
                   · rw[List.mem_singleton.1 hc];exact ⟨⟨by show (-9223372036854775808:Int)≤(ch.toNat:Int);omega,by show (ch.toNat:Int)≤9223372036854775807;omega⟩,by unfold lim;show nm.length≤_;omega⟩
                 · exact (((HCH8.out.andN HF9.out).trans' (HF10.out.mono (T:=tB r y z) (fun k _ h=>Or.inr (Or.inr (by have:=(HO.out k h).1;omega))))).trans' (HF11.out.mono (T:=tB r y z) (fun k _ h=>Or.inr (Or.inl h))))
                 · have:=hOn j hj;omega
                 · have:=HF9.out.size;have:=HF10.out.size;omega
                case measure=>simp[intOf];omega
      · obtain rfl:k=n:=by omega
        have HEK1:=Lib.hid (HEK.out.trans (by rw[Nat.sub_self];simp only[pSchCols,Res.pre,List.append_nil]:_=Res.ok dn dk))
        go_wp2_with fail
        go_end0
        refine ⟨HCHK.out.mono (fun k hk h=>by rcases h with h | h | h;exact Or.inl h;exact Or.inr h;have:=HZ.out;omega),?_⟩
        rw[HEK1.out]
        exact ⟨rfl,HAT.out,ao,co,HYK.out,(vec_cols HVK.out HFIT.out).mono rCol_ok (fun k hk=>⟨by have:=(HO.out k hk).1;have:=HZ.out;omega,(HO.out k hk).2⟩)⟩
set_option maxRecDepth 100000 in
set_option maxHeartbeats 8000000 in
theorem schRead_any (S:Nat→Prop) (w:World) (hS:∀k,S k→k<w.heap.size) (a:Option Addr) (cap:Nat) (l:List UInt8) (hb:BV S w a cap l) (hn:l.length≤1099511627776) (hL:Laid w):
 Calls Tryz.prog 123 #[.slice a l.length cap] w fun e w' =>∃a' c' i,e= .returned (.tuple #[.slice a' (readS l).1.length c', .int .i64 (i:Nat), .int .i64 (readS l).2])∧Fr nob w w' ∧SV rCol 2 (newb w w') w' a' c' (readS l).1:=by
 obtain ⟨w3,hw3⟩:∃x1,x1=w.alloc (.cells #[.slice none 0 0] 22 (0,0)):=⟨_,rfl⟩
 obtain ⟨x,hx⟩:∃x1,x1=w.heap.size:=⟨_,rfl⟩
 have hf3:Fr nob w w3:=by rw[hw3];exact (Fr.refl nob w).alloc _
 have hs3:w3.heap.size=x+1:=by rw[hw3,hx];simp
 have hbx:w3.heap[x]? =some (.cells #[.slice none 0 0] 22 (0,0)):=by rw[hw3,hx];exact heap_new w _
 have hrun:=run_anyI 147 #[.pointer (some ⟨x,0,none⟩)] (fun k=>k=x) S w3 a cap l (hb.frN hf3) hn (fun _ _=>rfl)
  (fun i w2=>∃v d',pSchema l= .ok v d' ∧i=l.length - d'.length∧d'.length≤l.length∧∃a' c',w2.heap[x]? =some (.cells #[.slice a' v.length c'] 22 (0,0))∧SV rCol 2 (fun k=>x+5≤k∧k<w2.heap.size) w2 a' c' v)
  (fun i err w2=>∃d',pSchema l= .bad err d')
  (fun k hk=>by omega)
  (fun r w1 hf1 hr1 hs1 hrd=>by
   have hr2:r<w1.heap.size:=heap_lt hrd
   have hA:At w1 r a l cap l:=⟨⟨[],rfl⟩,by rw[Nat.sub_self];exact hrd⟩
   have hf13:=hf3.andN hf1
   refine (schRead1_o S w1 r hr2 (fun h=>by have:=hS r h;omega) (fun k hk=>by have:=hS k hk;omega) a cap l l hA (hb.frN hf13) hn x (fun u hu=>hL.frN (hf13.trans hu (fun k hk e=>by omega))) (hf1.heap hbx id) (by omega) (fun h=>by have:=hS x h;omega)).mono ?_
   rintro e w2 ⟨hf,h⟩
   refine ⟨hf,?_⟩
   cases ho:pSchema l with
   | ok v d' =>
     rw[ho] at h
     obtain ⟨rfl,hA2,a',c',hy2,hv⟩:=h
     exact Or.inl ⟨rfl,_,by omega,hA2.2,v,d',rfl,rfl,hA2.le,a',c',hy2,hv.mono rCol_ok (fun k hk=>⟨by have:=hk.1;omega,hk.2⟩)⟩
   | bad c d' =>
     rw[ho] at h
     obtain ⟨rfl,hc0,hc6,hA2⟩:=h
     exact Or.inr ⟨c,_,hc0,hc6,rfl,hA2.2,d',rfl⟩)
 have HF3:=Lib.hid (⟨hf3,hs3,hbx⟩:_∧_∧_)
 have HW3:=Lib.hid hw3
 have HX:=Lib.hid hx
 obtain ⟨rv,hrv0⟩:∃x1,x1=readS l:=⟨_,rfl⟩
 rw[←hrv0]
 have HR0:=Lib.hid hrv0
 clear hb hL hf3 hs3 hbx hw3 hx hS hrv0
 go_enter Tryz.func123,Tryz.ntmps123
 go_wp2_with fail
 rw[←HW3.out,←HX.out]
 refine hrun.mono ?_
 rintro e w4 ⟨i,err,w2,rfl,hf4,⟨h2,hfr2⟩,hh⟩
 clear hrun
 obtain ⟨hf3,hs3,hbx⟩:=HF3.out
 have hfw:Fr nob w w4:=hf3.any.trans hf4 (fun k hk e=>by have:=HX.out;omega)
 have HFW:=Lib.hid hfw
 rcases hh with ⟨hin,⟨v,d',hpb,hi,hdl,a',c',hy2,hv⟩,rfl⟩ | ⟨he,d',hpb⟩
 · have hy4:w4.heap[x]? =some (.cells #[.slice a' v.length c'] 22 (0,0)):=by rw[h2 x (by omega)];exact hy2
   have k4:=cell_of hy4 0
   simp only[List.getElem?_toArray,List.getElem?_cons_zero] at k4
   have hv4:SV rCol 2 (newb w w4) w4 a' c' v:=(hv.fr rCol_ok hfr2 (fun k hk hb=>by have:=hk.1;unfold runb at hb;omega)).mono rCol_ok (fun k hk=>⟨by have:=hk.1;have:=HX.out;omega,Nat.lt_of_lt_of_le hk.2 hfr2.size⟩)
   have HV4:=Lib.hid hv4
   by_cases hd0:d'.length=0
   · have hnl:¬i<l.length:=by omega
     have HRV:=Lib.hid (HR0.out.trans (show readS l=(v,0) by unfold readS;rw[hpb];simp only[if_pos hd0]))
     rw[if_neg hnl]
     clear hy2 hv hv4 h2 hfr2 hy4 hpb hf3 hs3 hbx hfw hnl hi
     go_wp2_with fail
     go_ret3
     rw[HRV.out]
     exact ⟨a',c',i,rfl,HFW.out,HV4.out⟩
   · have hnl:i<l.length:=by omega
     have HRV:=Lib.hid (HR0.out.trans (show readS l=([],7) by unfold readS;rw[hpb];simp only[if_neg hd0]))
     rw[if_pos hnl]
     clear hy2 hv hv4 h2 hfr2 hy4 hpb hf3 hs3 hbx hfw hnl hi k4
     go_wp2_with fail
     go_ret3
     rw[HRV.out]
     exact ⟨none,0,i,rfl,HFW.out,SV.nil _ _ _ _⟩
 · have HRV:=Lib.hid (HR0.out.trans (show readS l=([],err) by unfold readS;rw[hpb]))
   have d1:=intne he
   clear h2 hfr2 hpb hf3 hs3 hbx hfw he
   go_wp2_with fail
   go_ret3
   rw[HRV.out]
   exact ⟨none,0,i,rfl,HFW.out,SV.nil _ _ _ _⟩
theorem readS_len (l:List UInt8):(readS l).1.length≤8:=by
 have hc:∀(n:Nat) (xs:List (List UInt8)) (d:List UInt8) (v:List Col) (r:List UInt8),pSchCols n xs d= .ok v r→v.length=n:=by
  intro n
  induction n with
  | zero=>intro xs d v r h;simp only[pSchCols] at h;cases h;rfl
  | succ n ih=>
    intro xs d v r h
    simp only[pSchCols] at h
    split at h
    · cases h
    · split at h
      · cases h
      · split at h
        · cases h
        · split at h
          · cases h
          · obtain ⟨v',rfl,h'⟩:=Res.pre_ok.1 h
            have:=ih _ _ _ _ h'
            simp;omega
 unfold readS
 split
 · rename_i v d h
   unfold pSchema at h
   split at h
   · cases h
   · rename_i n r hu
     split at h
     · cases h
     · have:=hc _ _ _ _ _ h
       have:=(pUint_ok.1 hu).2.1
       split
       · simp only;omega
       · simp
 · simp
theorem headF_at (b:List UInt8):(headF b).2.1≤b.length:=by
 unfold headF
 split
 · simp
 · rename_i h
   have h4:4≤b.length:=by
    have h' :magicL.isPrefixOf b=true:=by simpa using h
    have:=(List.isPrefixOf_iff_prefix.1 h').length_le
    simpa [magicL] using this
   split
   · exact h4
   · rename_i hz
     split
     · exact h4
     · split
       · exact h4
       · have:=nextF_pos (b:=b.drop 4) (by simpa using hz)
         rw[List.length_drop] at this
         simp only;omega
set_option maxRecDepth 100000 in
set_option maxHeartbeats 8000000 in
theorem headR_any (S:Nat→Prop) (w:World) (hS:∀k,S k→k<w.heap.size) (a:Option Addr) (cap:Nat) (b:List UInt8) (hb:BV S w a cap b) (hn:b.length≤1099511627776) (hL:Laid w):
 Calls Tryz.prog 92 #[.slice a b.length cap] w fun e w' =>∃a' c',e= .returned (.tuple #[.slice a' (headF b).1.length c', .int .i64 (headF b).2.1, .int .i64 (headF b).2.2])∧Fr nob w w' ∧SV rCol 2 (newb w w') w' a' c' (headF b).1:=by
 obtain ⟨N,hN⟩:∃N,N=headF b:=⟨_,rfl⟩
 rw[←hN]
 obtain ⟨z0,hz0⟩:∃x,x=w.heap.size:=⟨_,rfl⟩
 obtain ⟨w0,hw0⟩:∃x,x=w.alloc (.cells #[.int .u8 68, .int .u8 75, .int .u8 76, .int .u8 49] 5 (0,0)):=⟨_,rfl⟩
 obtain ⟨w1,hw1⟩:∃x,x=w.alloc (.cells #[.int .u8 68, .int .u8 75, .int .u8 76, .int .u8 49] 5 (4,5)):=⟨_,rfl⟩
 have hcv:(convert 27 27 (.slice (some ⟨z0,0,none⟩) 4 4)).run Tryz.prog w0= .ok (.slice (some ⟨z0,0,none⟩) 4 4) w1:=by
  rw[hw0,hw1,hz0]
  exact Lib.run_convert_bytes_const w 27 5 #[.int .u8 68, .int .u8 75, .int .u8 76, .int .u8 49] 4 4 Tryz.underlying27 Tryz.underlying5
 have hf1:Fr nob w w1:=by rw[hw1];exact (Fr.refl nob w).alloc _
 have hg1:w1.heap[z0]? =some (.cells #[.int .u8 68, .int .u8 75, .int .u8 76, .int .u8 49] 5 (4,5)):=by rw[hw1,hz0];exact heap_new _ _
 have hv9:BV (newb w w1) w1 (some ⟨z0,0,none⟩) 4 magicL:=by
  unfold BV
  refine Vec.whole' hg1 (fun j hj=>?_) ⟨by omega,by rw[hw1,hz0];simp⟩ (Nat.le_refl _) (by unfold maxLen;omega) rfl rfl (bv_one magicL)
  simp only[World.frozen?]
  rw[hg1]
  simp
  omega
 have hpf:=hasPrefix_any S _ w1 a (some ⟨z0,0,none⟩) cap 4 b magicL (hb.frN hf1) hv9 hn (by simp[magicL])
 rw[show magicL.length=4 from rfl] at hpf
 have HW0:=Lib.hid (⟨hw0,hz0⟩:_∧_)
 have HB:=Lib.hid hb
 have HLA:=Lib.hid hL
 have HN:=Lib.hid hN
 clear hw0 hz0 hw1 hg1 hv9 hN hb hL
 have E1:=Lib.hid (Ev.of hf1 (nob_lt _))
 have G1:=Lib.hid hf1
 go_enter Tryz.func92,Tryz.ntmps92
 go_wp2_with fail
 rw[←HW0.out.1,←HW0.out.2,hcv]
 clear hcv
 go_wp2_with fail
 refine (hpf).mono ?_
 rintro e u2 ⟨rfl,hfr⟩
 have E2:=Lib.hid (Ev.of hfr E1.out.lt)
 have G2:=Lib.hid hfr
 clear hfr
 clear hpf hf1
 cases hm:magicL.isPrefixOf b with
 | false=>
   have HE:=Lib.hid (HN.out.trans (by unfold headF;rw[if_pos hm]))
   clear hm
   go_wp2_with fail
   go_ret3
   rw[HE.out]
   exact ⟨none,0,rfl,((E1.out.trans E2.out)).toN,SV.nil _ _ _ _⟩
 | true=>
   have h4:4≤b.length:=by
    have:=(List.isPrefixOf_iff_prefix.1 hm).length_le
    simpa [magicL] using this
   have hN2:=HN.out.trans (by unfold headF;rw[if_neg (by rw[hm];simp)])
   clear hm HN
   obtain ⟨a4,q4,hv4,_⟩:=sub_from (HB.out.frN (G1.out.andN G2.out)) .i64 4 4 rfl h4
   obtain ⟨t,ht⟩:∃t,t=b.drop 4:=⟨_,rfl⟩
   have htl:t.length≤b.length:=by rw[ht,List.length_drop];omega
   rw[←ht] at q4 hv4 hN2
   clear ht
   have hfn:=frameNext_any _ u2 a4 (cap - 4) t hv4 (by omega)
   obtain ⟨x,hx⟩:∃x,x=nextF t:=⟨_,rfl⟩
   have hps:=@nextF_pos t
   have hpl:=@nextF_zero t
   rw[←hx] at hfn hN2 hps hpl
   obtain ⟨k,p,n,e0⟩:=x
   simp only at hfn hN2 hps hpl
   have HN2:=Lib.hid hN2
   have HPS:=Lib.hid (⟨hps,hpl⟩:_∧_)
   clear hN2 hx hv4 hps hpl
   go_wp2_with fail
   refine (hfn).mono ?_
   rintro e u3 ⟨a5,c5,rfl,hfr,hv5⟩
   have E3:=Lib.hid (Ev.of hfr E2.out.lt)
   have G3:=Lib.hid hfr
   clear hfr
   have HV5:=Lib.hid hv5
   clear hv5 hfn q4
   by_cases h0:e0=0
   · subst h0
     have hN3:=HN2.out
     rw[if_neg (by omega)] at hN3
     have hps:=HPS.out.1 rfl
     have hpl:=(HPS.out.2 rfl).2.1
     clear HN2
     by_cases hk0:k=0
     · subst hk0
       rw[if_neg (by omega)] at hN3
       have hsr:=schRead_any _ u3 (fun k hk=>hk.2) a5 c5 p HV5.out (by omega) (HLA.out.frN (G1.out.andN (G2.out.andN G3.out)))
       obtain ⟨y,hy⟩:∃y,y=readS p:=⟨_,rfl⟩
       rw[←hy] at hsr hN3
       obtain ⟨s,e1⟩:=y
       simp only at hsr hN3
       have HN3:=Lib.hid hN3
       clear hN3 hy
       go_wp2_with fail
       refine (hsr).mono ?_
       rintro e u4 ⟨a6,c6,i,rfl,hfr,hv6⟩
       have E4:=Lib.hid (Ev.of hfr E3.out.lt)
       have G4:=Lib.hid hfr
       clear hfr
       have HV6:=Lib.hid hv6
       clear hsr hv6
       by_cases h1:e1=0
       · subst h1
         have HE:=Lib.hid (HN3.out.trans (if_neg (by omega)))
         have hw:IntKind.i64.wrap (4+(n:Int))=4+(n:Int):=by rw[IntWalk.i64_in _ (by omega)]
         clear HN3
         go_wp2_with fail
         go_ret3
         rw[HE.out]
         exact ⟨a6,c6,by simp,(G1.out.andN (G2.out.andN (G3.out.andN G4.out))),HV6.out.mono rCol_ok (fun k hk=>⟨Nat.le_trans ((G1.out.andN (G2.out.andN G3.out))).size hk.1,hk.2⟩)⟩
       · have HE:=Lib.hid (HN3.out.trans (if_pos h1))
         have d1:=intne h1
         clear HN3 h1
         go_wp2_with fail
         go_ret3
         rw[HE.out]
         exact ⟨none,0,rfl,(G1.out.andN (G2.out.andN (G3.out.andN G4.out))),SV.nil _ _ _ _⟩
     · have HE:=Lib.hid (hN3.trans (if_pos hk0))
       have d1:=intne hk0
       clear hN3 hk0
       go_wp2_with fail
       go_ret3
       rw[HE.out]
       exact ⟨none,0,rfl,(G1.out.andN (G2.out.andN G3.out)),SV.nil _ _ _ _⟩
   · have HE:=Lib.hid (HN2.out.trans (if_pos h0))
     have d1:=intne h0
     clear HN2 h0
     go_wp2_with fail
     go_ret3
     rw[HE.out]
     exact ⟨none,0,rfl,(G1.out.andN (G2.out.andN G3.out)),SV.nil _ _ _ _⟩
theorem readE_ok {s:List Col} {k:Nat} {p:List UInt8}:PrOk (readE s k p).1.prs∧(readE s k p).1.prs.length≤1024:=by
 unfold readE
 split
 · simp[PrOk]
 · split
   · simp[PrOk]
   · split
     · simp[PrOk]
     · rename_i v d h
       split
       · unfold pEntry at h
         split at h
         · cases h
         · split at h
           · cases h
           · rename_i l t hp
             cases h
             obtain ⟨hz,hok,_⟩:=pBatch_ok.1 hp
             exact ⟨hok,(zCheck_len hz).2.1⟩
       · simp[PrOk]
theorem readE_bad {s:List Col} {k:Nat} {p:List UInt8} (h:(readE s k p).2≠0):(readE s k p).1=⟨0,0,[]⟩:=by
 unfold readE at h ⊢
 split
 · rfl
 · rename_i h1
   rw[if_neg h1] at h
   split
   · rfl
   · rename_i h2
     rw[if_neg h2] at h
     split
     · rfl
     · rename_i v d h3
       rw[h3] at h
       simp only at h
       split
       · rename_i h4;rw[if_pos h4] at h;exact absurd rfl h
       · rfl
def NextOut (w w' :World) (V:Nat→Prop) (v:Nat) (s:List Col) (R:Ent×Nat×Nat×TSt) (e:Ending):Prop:=
 ∃la lc,e= .returned (.tuple #[.agg #[.int .i64 R.1.kind, .int .i64 R.1.seq, .slice la R.1.prs.length lc], .int .i64 R.2.1, .int .i64 R.2.2.1])∧Fr (fun k=>k=v) w w' ∧StAt w' (fun k=>V k∨newb w w' k) v s R.2.2.2∧SV rPr 2 (newb w w') w' la lc R.1.prs
set_option maxRecDepth 100000 in
set_option maxHeartbeats 16000000 in
theorem next_w {w:World} {V:Nat→Prop} {v:Nat} {s:List Col} {t:TSt} (h:StAt w V v s t) (hV:∀k,V k→k<w.heap.size∧k≠v) (S:Nat→Prop) (a:Option Addr) (cap:Nat) (d:List UInt8) (hb:BV S w a cap d) (hS:∀k,S k→k<w.heap.size) (hn:d.length≤1099511627776) (hL:Laid w) (hF:Frames w) (h0:s.length≤lim) (hok:TOk s t):
 Calls Tryz.prog 94 #[.pointer (some ⟨v,0,none⟩), .slice a d.length cap] w fun e w' =>NextOut w w' V v s (stepF s t d) e:=by
 obtain ⟨R,hR⟩:∃R,R=stepF s t d:=⟨_,rfl⟩
 rw[←hR]
 obtain ⟨w1,hw1⟩:∃x1,x1=w.alloc (.cells #[.int .i64 0, .int .i64 0, .slice none 0 0] 40 (0,0)):=⟨_,rfl⟩
 obtain ⟨rr,hrr⟩:∃x1,x1=w.heap.size:=⟨_,rfl⟩
 have hf1:Fr nob w w1:=by rw[hw1];exact (Fr.refl nob w).alloc _
 have hs1:w1.heap.size=rr+1:=by rw[hw1,hrr];simp
 have hbr:=heap_new w (.cells #[.int .i64 0, .int .i64 0, .slice none 0 0] 40 (0,0))
 rw[←hw1,←hrr] at hbr
 have HH:=Lib.hid h
 have hvl:v<w.heap.size:=by obtain ⟨_,_,_,_,h1,_⟩:=h;exact heap_lt h1
 have hroom:=stRoom_any (HH.out.frN hf1)
 have HX:=Lib.hid (⟨hrr,hs1,hvl⟩:_∧_∧_)
 have HW1:=Lib.hid hw1
 have HB:=Lib.hid hb
 have HL:=Lib.hid hL
 have HF:=Lib.hid hF
 have HVV:=Lib.hid (⟨hV,hS,hok⟩:_∧_∧_)
 have QR:=Lib.hid (fun y (hy:Fr nob w1 y)=>hy.heap hbr id)
 unfold stepF at hR
 clear hs1 hbr hb hL hF hV hS hok h hvl
 have E1:=Lib.hid (Ev.of hf1 (nob_lt _))
 have G1:=Lib.hid hf1
 clear hf1
 go_enter Tryz.func94,Tryz.ntmps94
 go_wp2_with fail
 rw[←hw1,←hrr]
 clear hw1 hrr
 go_wp2_with fail
 refine (hroom).mono ?_
 rintro e u2 ⟨rfl,hfr⟩
 have E2:=Lib.hid (Ev.of hfr E1.out.lt)
 have G2:=Lib.hid hfr
 clear hfr
 clear hroom
 by_cases hm:4096≤t.m
 · rw[if_pos hm] at hR
   have HE:=Lib.hid hR
   have hr2:=QR.out _ G2.out
   rw[if_pos hm]
   clear hR hm
   obtain ⟨zf0,zc0,yc1,yc2,zf1,zc1,zf2,zc2,hh,hfr⟩:=ent_put hr2 (.int .i64 0) (.int .i64 0) (.slice none 0 0)
   have HP:=Lib.hid (⟨hh,hfr⟩:_∧_)
   clear hh hfr hr2
   go_wp2_with fail
   (try simp only[Exit.inBlock,Exit.then])
   refine bodyPost_ret (results_c3 rfl _ _ _ ⟨rr,0,none⟩ _ rfl (load_ent HP.out.1)) rfl ?_
   have hx:=HX.out
   have hg:=((G1.out.andN G2.out)).any.trans HP.out.2 (T:=fun k=>k=v) (fun k hk e=>by omega)
   rw[HE.out]
   exact ⟨none,0,rfl,hg,(HH.out.frN (G1.out.andN G2.out)).fr HP.out.2 (by omega) (fun k hk e=>by have:=(HVV.out.1 k hk).1;omega) |>.mono (fun k hk=>Or.inl hk),SV.nil _ _ _ _⟩
 · rw[if_neg hm] at hR
   rw[if_neg hm]
   clear hm
   have hfn:=frameNext_any S u2 a cap d (HB.out.frN (G1.out.andN G2.out)) hn
   obtain ⟨x,hx⟩:∃x,x=nextF d:=⟨_,rfl⟩
   have hpl:=@nextF_zero d
   rw[←hx] at hfn hR hpl
   obtain ⟨k,p,n,e0⟩:=x
   simp only at hfn hR hpl
   have HPL:=Lib.hid hpl
   have HR:=Lib.hid hR
   clear hx hpl hR
   go_wp2_with fail
   refine (hfn).mono ?_
   rintro e u3 ⟨a2,c2,rfl,hfr,hv2⟩
   have E3:=Lib.hid (Ev.of hfr E2.out.lt)
   have G3:=Lib.hid hfr
   clear hfr
   have HV2:=Lib.hid hv2
   clear hfn hv2
   by_cases he0:e0=0
   · subst he0
     have hR:=HR.out
     rw[if_neg (by omega)] at hR
     have hpl:=(HPL.out rfl).2.1
     have hre:=@readE_ok s k p
     have hrb:=@readE_bad s k p
     obtain ⟨sa,sc,la,lc,hst,hss,hsl⟩:=HH.out.frN (G1.out.andN (G2.out.andN G3.out))
     have ker:=entRead_any _ _ u3 (fun k hk=>hk.2) (fun k hk=>Nat.lt_of_lt_of_le (HVV.out.1 k hk).1 ((G1.out.andN (G2.out.andN G3.out))).size) sa sc s hss h0 k a2 c2 p HV2.out (by omega) (HL.out.frN (G1.out.andN (G2.out.andN G3.out))) (HF.out.frN (G1.out.andN (G2.out.andN G3.out)))
     have k0:=cell_of hst 0
     simp at k0
     obtain ⟨y,hy⟩:∃y,y=readE s k p:=⟨_,rfl⟩
     rw[←hy] at ker hR hre hrb
     obtain ⟨x,e1⟩:=y
     simp only at ker hR hre hrb
     have HRB:=Lib.hid hrb
     clear hrb
     have HR2:=Lib.hid hR
     clear HR hR hy HPL hst hss hsl
     go_wp2_with fail
     refine (ker).mono ?_
     rintro e u4 ⟨la2,lc2,rfl,hfr,hv3⟩
     have E4:=Lib.hid (Ev.of hfr E3.out.lt)
     have G4:=Lib.hid hfr
     clear hfr
     have HV3:=Lib.hid hv3
     clear ker hv3 k0
     have hr3:=QR.out _ (G2.out.andN (G3.out.andN G4.out))
     have hrs:rr<(u3).heap.size:=by have:=HX.out;have:=((G2.out.andN G3.out)).size;omega
     have hrs3:(u3).heap.size≤(u4).heap.size:=(G4.out).size
     have F03:=Lib.hid (G1.out.andN (G2.out.andN (G3.out.andN G4.out)))
     obtain ⟨w3,hw3⟩:∃x,x=u4:=⟨_,rfl⟩
     obtain ⟨u3,hu3⟩:∃x,x=u3:=⟨_,rfl⟩
     rw[←hw3] at hr3 HV3 F03 hrs3 ⊢
     rw[←hu3] at HV3 hrs hrs3
     clear hw3 hu3
     obtain ⟨zf0,zc0,yc1,yc2,zf1,zc1,zf2,zc2,hh,hfr⟩:=ent_put hr3 (.int .i64 x.kind) (.int .i64 x.seq) (.slice la2 x.prs.length lc2)
     clear hr3
     by_cases he1:e1=0
     · subst he1
       have hR:=HR2.out
       rw[if_neg (by omega)] at hR
       have HE:=Lib.hid hR
       clear HR2 hR
       obtain ⟨w5,hw5⟩:∃z,z=((w3.setCell ⟨rr,0,none⟩ (.int .i64 x.kind)).setCell ⟨rr,1,none⟩ (.int .i64 x.seq)).setCell ⟨rr,2,none⟩ (.slice la2 x.prs.length lc2):=⟨_,rfl⟩
       rw[←hw5] at hh hfr
       have HP:=Lib.hid (⟨hh,hfr⟩:_∧_)
       have hx:=HX.out
       have hU:∀k,(V k∨newb u3 w3 k)→k<w5.heap.size∧k≠v∧k≠rr:=fun k hk=>by
        have h1:=F03.out.size
        have h2:=hfr.size
        rcases hk with hk | hk
        · have:=HVV.out.1 k hk;exact ⟨by omega,this.2,by omega⟩
        · have:=hk.1;have:=hk.2;exact ⟨by omega,by omega,by omega⟩
       have hst5:StAt w5 (fun k=>V k∨newb u3 w3 k) v s t:=((HH.out.frN F03.out).fr hfr (by omega) (fun k hk e=>by have:=(HVV.out.1 k hk).1;omega)).mono (fun k hk=>Or.inl hk)
       have hv5:SV rPr 2 (fun k=>V k∨newb u3 w3 k) w5 la2 lc2 x.prs:=(HV3.out.fr rPr_ok hfr (fun k hk e=>by have:=hk.1;omega)).mono rPr_ok (fun k hk=>Or.inr hk)
       have hf05:Fr nob w w5:=F03.out.trans hfr (fun k hk e=>by omega)
       have F05:=Lib.hid hf05
       have HU:=Lib.hid hU
       have ht:=fun z (hz:Fr nob w5 z)=>take_w (hst5.frN hz) (hv5.frN rPr_ok hz) (fun k hk=>⟨Nat.lt_of_lt_of_le (HU.out k hk).1 hz.size,(HU.out k hk).2.1⟩) (HL.out.frN (hf05.andN hz)) h0 (by unfold lim;omega) HVV.out.2.2
       have HT:=Lib.hid ht
       have HV5:=Lib.hid hv5
       have hrv:rr≠v:=by omega
       obtain ⟨S0,hS0⟩:∃S0:World→Prop,S0=fun z=>z.cell? ⟨rr,0,none⟩=some (.int .i64 x.kind)∧z.cell? ⟨rr,1,none⟩=some (.int .i64 x.seq)∧z.cell? ⟨rr,2,none⟩=some (.slice la2 x.prs.length lc2):=⟨_,rfl⟩
       have q0:∀z,S0 z→z.cell? ⟨rr,0,none⟩=some (.int .i64 x.kind):=fun z hz=>by rw[hS0] at hz;exact hz.1
       have q1:∀z,S0 z→z.cell? ⟨rr,1,none⟩=some (.int .i64 x.seq):=fun z hz=>by rw[hS0] at hz;exact hz.2.1
       have q2:∀z,S0 z→z.cell? ⟨rr,2,none⟩=some (.slice la2 x.prs.length lc2):=fun z hz=>by rw[hS0] at hz;exact hz.2.2
       have hq5:∀z,z.heap[rr]? =some (.cells #[.int .i64 x.kind, .int .i64 x.seq, .slice la2 x.prs.length lc2] 40 (0,0))→S0 z:=fun z hz=>by
        rw[hS0]
        exact ⟨by simpa using cell_of hz 0,by simpa using cell_of hz 1,by simpa using cell_of hz 2⟩
       have HQ:=Lib.hid hq5
       clear hst5 hv5 ht hU hf05 hx hh hfr hS0 hq5
       go_wp2_with fail
       rw[←hw5]
       clear zf0 zc0 yc1 yc2 zf1 zc1 zf2 zc2 hw5
       obtain ⟨dw,hdw⟩:∃x,x=w5.drew:=⟨_,rfl⟩
       have hfd:Fr nob w5 dw:=by rw[hdw];exact (Fr.refl nob _).drew
       refine wp_region_ord [(0,true),(1,true),(2,true),(3,true),(4,false),(5,false),(6,true),(7,true)] (S0) rfl (by kernel_rfl) (by kernel_rfl) (by decide) (fun c a d v w h=>by cases d<;>exact h) (by rw[←hdw];exact HQ.out _ (hfd.heap HP.out.1 id)) (fun ops hops hS=>?_)
       rw[←hdw] at hS ⊢
       clear hdw
       repeat (apply wpOrd_free _ _ (by rw[hops.out];rfl) (by first | exact Wants.plain rfl | exact Wants.yes rfl (by rw[hops.out];rfl) rfl rfl);(focus (intro x hx;have y0:=q0 x hx;have y1:=q1 x hx;have y2:=q2 x hx;go_simp;rfl));go_simp)
       refine oA hops (by rfl) (by first | exact .plain rfl | exact .y hops rfl rfl rfl rfl) (fun K hK=>?_)
       go_wp2_with fail
       refine (HT.out _ hfd).mono ?_
       rintro e w6 ⟨rfl,hf6,hst6⟩
       have g6:Fr (fun j=>j=v) w5 w6:=hfd.any.trans' hf6
       have hr6:=g6.heap HP.out.1 hrv
       refine hK _ _ ⟨S0,fun _ h=>h,HQ.out _ hr6,?_⟩
       clear hK
       go_simp
       obtain ⟨zf0,zc0,yc1,yc2,zf1,zc1,zf2,zc2,hh,hfr⟩:=ent_put hr6 (.int .i64 x.kind) (.int .i64 x.seq) (.slice la2 x.prs.length lc2)
       have HP7:=Lib.hid (⟨hh,hfr⟩:_∧_)
       have G6:=Lib.hid (⟨g6,hst6,hfd.size⟩:_∧_∧_)
       clear hh hfr hr6 g6 hf6 hst6 hS
       refine oA hops (by rfl) (by first | exact .plain rfl | exact .y hops rfl rfl rfl rfl) (fun K hK=>?_)
       go_wp2_with fail
       refine ⟨S0,fun _ h=>h,HQ.out _ HP7.out.1,?_⟩
       go_simp
       repeat (first | (apply oF hops (by rfl) (by first | exact .plain rfl | exact .y hops rfl rfl rfl rfl);(focus (intro x hx;go_simp;rfl));go_simp) | (apply oS hops (by rfl) (by first | exact .n hops rfl rfl rfl rfl | exact .u hops rfl rfl rfl rfl);go_simp) | (apply oP hops (by rfl) (by first | exact .n hops rfl rfl rfl rfl | exact .u hops rfl rfl rfl rfl) (by assumption);go_simp))
       apply wpOrd_nil
       go_wp2_with fail
       (try simp only[Exit.inBlock,Exit.then])
       refine bodyPost_ret (results_c3 rfl _ _ _ ⟨rr,0,none⟩ _ rfl (load_ent HP7.out.1)) rfl ?_
       have hx:=HX.out
       obtain ⟨g6,hst6,hds⟩:=G6.out
       have f7:=HP7.out.2
       have fw6:Fr (fun j=>j=v) w w6:=F05.out.any.trans' g6
       have fw7:=fw6.trans f7 (T:=fun j=>j=v) (fun k hk e=>by omega)
       have s36:w3.heap.size≤w5.heap.size∧w5.heap.size≤w6.heap.size:=⟨HP.out.2.size,g6.size⟩
       rw[HE.out]
       refine ⟨la2,lc2,rfl,fw7,?_,?_⟩
       · refine (hst6.fr f7 (by omega) (fun k hk e=>?_)).mono (fun k hk=>?_)
         · rcases hk with hk | hk
           · exact (HU.out k hk).2.2 e
           · have:=hk.1;omega
         · rcases hk with (hk | hk) | hk
           · exact Or.inl hk
           · exact Or.inr ⟨by have:=hk.1;omega,by have:=hk.2;have:=f7.size;omega⟩
           · exact Or.inr ⟨by have:=hk.1;have:=F05.out.size;omega,Nat.lt_of_lt_of_le hk.2 f7.size⟩
       · have hv3:=((HV3.out.fr rPr_ok HP.out.2 (fun k hk e=>by have:=hk.1;omega)).fr rPr_ok g6 (fun k hk e=>by have:=hk.1;omega)).fr rPr_ok f7 (fun k hk e=>by have:=hk.1;omega)
         exact hv3.mono rPr_ok (fun k hk=>⟨by have:=hk.1;omega,by have:=hk.2;have:=f7.size;omega⟩)
     · have hR:=HR2.out
       rw[if_pos he1] at hR
       have HE:=Lib.hid hR
       have d1:=intne he1
       have HNE:=Lib.hid he1
       have HP:=Lib.hid (⟨hh,hfr⟩:_∧_)
       obtain ⟨xf0,xc0,vc1,vc2,xf1,xc1,xf2,xc2,hh',hfr'⟩:=ent_put hh (.int .i64 x.kind) (.int .i64 x.seq) (.slice la2 x.prs.length lc2)
       have HP2:=Lib.hid (⟨hh',hfr'⟩:_∧_)
       clear HR2 hR he1 hh hfr hh' hfr'
       go_wp2_with fail
       (try simp only[Exit.inBlock,Exit.then])
       refine bodyPost_ret (results_c3 rfl _ _ _ ⟨rr,0,none⟩ _ rfl (load_ent HP2.out.1)) rfl ?_
       have hx:=HX.out
       have f2:=HP.out.2.trans' HP2.out.2
       have hg:=F03.out.any.trans f2 (T:=fun k=>k=v) (fun k hk e=>by omega)
       have hx0:=HRB.out HNE.out
       subst hx0
       rw[HE.out]
       refine ⟨la2,lc2,rfl,hg,((HH.out.frN F03.out).fr f2 (by omega) (fun k hk e=>by have:=(HVV.out.1 k hk).1;omega)).mono (fun k hk=>Or.inl hk),?_⟩
       have hv3:=HV3.out.fr rPr_ok f2 (fun k hk e=>by have:=hk.1;omega)
       exact hv3.mono rPr_ok (fun k hk=>⟨by have:=hk.1;omega,Nat.lt_of_lt_of_le hk.2 f2.size⟩)
   · have hR:=HR.out
     rw[if_pos he0] at hR
     have HE:=Lib.hid hR
     have d1:=intne he0
     have hr2:=QR.out _ (G2.out.andN G3.out)
     clear HR hR he0
     obtain ⟨zf0,zc0,yc1,yc2,zf1,zc1,zf2,zc2,hh,hfr⟩:=ent_put hr2 (.int .i64 0) (.int .i64 0) (.slice none 0 0)
     have HP:=Lib.hid (⟨hh,hfr⟩:_∧_)
     clear hh hfr hr2
     go_wp2_with fail
     (try simp only[Exit.inBlock,Exit.then])
     refine bodyPost_ret (results_c3 rfl _ _ _ ⟨rr,0,none⟩ _ rfl (load_ent HP.out.1)) rfl ?_
     have hx:=HX.out
     have hg:=((G1.out.andN (G2.out.andN G3.out))).any.trans HP.out.2 (T:=fun k=>k=v) (fun k hk e=>by omega)
     rw[HE.out]
     exact ⟨none,0,rfl,hg,(HH.out.frN (G1.out.andN (G2.out.andN G3.out))).fr HP.out.2 (by omega) (fun k hk e=>by have:=(HVV.out.1 k hk).1;omega) |>.mono (fun k hk=>Or.inl hk),SV.nil _ _ _ _⟩
def markCells (m:Mark):List Value:=[.int .i64 m.q, .int .i64 m.o, .int .u32 m.p]
def MarkFit (m:Mark):Prop:=I64 m.q∧I64 m.o∧m.p<4294967296
def rMark:Rep Mark:=fun S w cs x=>MarkFit x∧cs=markCells x
theorem rMark_ok:rMark.Ok 3:=by
 refine ⟨?_,?_,?_,?_⟩
 · rintro S T w w' cs x h hf hT;exact h
 · rintro S T w cs x h hS;exact h
 · rintro S w cs x ⟨_,rfl⟩;rfl
 · rintro S w cs x ⟨_,rfl⟩ u hu
   simp[markCells] at hu
   rcases hu with rfl | rfl | rfl<;>rfl
theorem vec_marks {S:Nat→Prop} {w:World} {a:Option Addr} {cap:Nat} {l:List Mark} (h:Vec S w 3 a l.length cap (l.flatMap markCells)) (hl:∀c∈l,MarkFit c):SV rMark 3 S w a cap l:=by
 refine ⟨l.map markCells,by simp,by rw[←List.flatMap_def];exact h,fun i c x hc hx=>?_⟩
 rw[List.getElem?_map,hx] at hc
 cases hc
 exact ⟨hl x (List.mem_of_getElem? hx),rfl⟩
def EntRow (O V:Nat→Prop) (w:World) (a:Option Addr) (cap:Nat) (l:List Ent):Prop:=
 ∃css:List (List Value),css.length=l.length∧Vec O w 3 a l.length cap css.flatten∧∀(i:Nat) (c:List Value) (x:Ent),css[i]? =some c→l[i]? =some x→rEnt V w c x
theorem EntRow.nil (O V:Nat→Prop) (w:World):EntRow O V w none 0 []:=⟨[],rfl,Vec.nil _ _ _,by simp⟩
theorem EntRow.fr {O V T:Nat→Prop} {w w' :World} {a:Option Addr} {cap:Nat} {l:List Ent} (h:EntRow O V w a cap l) (hf:Fr T w w') (hO:∀k,O k→¬T k) (hV:∀k,V k→¬T k):EntRow O V w' a cap l:=by
 obtain ⟨css,h1,h2,h3⟩:=h
 exact ⟨css,h1,h2.fr hf hO,fun i c x hc hx=>rEnt_ok.fr (h3 i c x hc hx) hf hV⟩
theorem EntRow.monoV {O V U:Nat→Prop} {w:World} {a:Option Addr} {cap:Nat} {l:List Ent} (h:EntRow O V w a cap l) (hV:∀k,V k→U k):EntRow O U w a cap l:=by
 obtain ⟨css,h1,h2,h3⟩:=h
 exact ⟨css,h1,h2,fun i c x hc hx=>rEnt_ok.mono (h3 i c x hc hx) hV⟩
theorem EntRow.sv {O V U:Nat→Prop} {w:World} {a:Option Addr} {cap:Nat} {l:List Ent} (h:EntRow O V w a cap l) (hO:∀k,O k→U k) (hV:∀k,V k→U k):SV rEnt 3 U w a cap l:=by
 obtain ⟨css,h1,h2,h3⟩:=h
 exact ⟨css,h1,h2.mono hO,fun i c x hc hx=>rEnt_ok.mono (h3 i c x hc hx) hV⟩
theorem EntRow.snoc {O V:Nat→Prop} {w w' :World} {a' :Option Addr} {cap' :Nat} {l:List Ent} {c:List Value} {x:Ent} (css:List (List Value)) (h1:css.length=l.length) (h3:∀(i:Nat) (c:List Value) (x:Ent),css[i]? =some c→l[i]? =some x→rEnt V w c x)
 (hv:Vec O w' 3 a' (l.length+1) cap' (css.flatten++c)) (hf:Fr (fun k=>¬V k) w w') (hx:rEnt V w' c x):EntRow O V w' a' cap' (l++[x]):=by
 refine ⟨css++[c],by simp[h1],by simpa using hv,fun i c' x' hc hx' =>?_⟩
 by_cases hi:i<l.length
 · rw[List.getElem?_append_left (by omega)] at hc hx'
   exact rEnt_ok.fr (h3 i c' x' hc hx') hf (fun k hk h=>h hk)
 · rw[List.getElem?_append_right (by omega)] at hc hx'
   rw[h1] at hc
   have h0:i - l.length=0:=by
    rcases Nat.eq_zero_or_pos (i - l.length) with h | h
    · exact h
    · rw[List.getElem?_eq_none (by simp;omega)] at hx';cases hx'
   rw[h0] at hc hx'
   simp at hc hx'
   subst hc hx'
   exact hx
theorem inf_Ent:((Tryz.prog).info? 40).map (fun i=>(i.zero,i.size,i.bytes))=some (some (.agg #[.int .i64 0, .int .i64 0, .slice none 0 0]),3,40):=by kernel_rfl
theorem inf_Cur:((Tryz.prog).info? 53).map (fun i=>(i.zero,i.size,i.bytes))=some (some (.agg #[.int .i64 0, .int .i64 0, .int .u32 0]),3,24):=by kernel_rfl
theorem trace_put {w:World} {x:Nat} {a0 b0:Value} {t:TypeId} (h:w.heap[x]? =some (.cells #[a0,b0] t (0,0))) (u0 u1:Value):
 w.frozen? ⟨x,0,none⟩=false∧w.cell? ⟨x,0,none⟩=some a0∧w.cell? ⟨x,1,none⟩=some b0∧(w.setCell ⟨x,0,none⟩ u0).frozen? ⟨x,1,none⟩=false∧(w.setCell ⟨x,0,none⟩ u0).cell? ⟨x,1,none⟩=some b0∧
  ((w.setCell ⟨x,0,none⟩ u0).setCell ⟨x,1,none⟩ u1).heap[x]? =some (.cells #[u0,u1] t (0,0))∧Fr (fun k=>k=x) w ((w.setCell ⟨x,0,none⟩ u0).setCell ⟨x,1,none⟩ u1):=by
 have h1:=heap_set h 0 u0
 simp at h1
 have h2:=heap_set h1 1 u1
 simp at h2
 exact ⟨frozen_of h 0,by simpa using cell_of h 0,by simpa using cell_of h 1,frozen_of h1 1,by simpa using cell_of h1 1,h2,((Fr.self x w).set1 0 u0).set1 1 u1⟩
theorem stepF_zero {s:List Col} {t:TSt} {d:List UInt8} (hok:TOk s t) (h:(stepF s t d).2.2.1=0):0<(stepF s t d).2.1∧(stepF s t d).2.1≤d.length∧t.m<4096∧(stepF s t d).2.2.2.m=t.m+1:=by
 unfold stepF at h ⊢
 by_cases h1:4096≤t.m
 · rw[if_pos h1] at h;simp at h
 · rw[if_neg h1] at h ⊢
   by_cases h2:(nextF d).2.2.2≠0
   · rw[if_pos h2] at h;exact absurd h h2
   · rw[if_neg h2] at h ⊢
     by_cases h3:(readE s (nextF d).1 (nextF d).2.1).2≠0
     · rw[if_pos h3] at h;exact absurd h h3
     · rw[if_neg h3] at h ⊢
       obtain ⟨h4,h5⟩:=nextF_pos (b:=d) (by omega)
       obtain ⟨_,_,h6,_⟩:=takeF_zero hok readE_ok.1 h
       exact ⟨h4,h5,by omega,h6⟩
theorem stepF_ok {s:List Col} {t:TSt} {d:List UInt8} (hok:TOk s t):TOk s (stepF s t d).2.2.2:=by
 unfold stepF
 split
 · exact hok
 · split
   · exact hok
   · split
     · exact hok
     · exact takeF_ok hok readE_ok.1
theorem stepF_prs {s:List Col} {t:TSt} {d:List UInt8}:(stepF s t d).1.prs.length≤1024∧I64 (stepF s t d).1.kind∧I64 (stepF s t d).1.seq:=by
 have hz:((⟨0,0,[]⟩:Ent)).prs.length≤1024∧I64 ((⟨0,0,[]⟩:Ent)).kind∧I64 ((⟨0,0,[]⟩:Ent)).seq:=by simp[I64]
 have hr:∀k p,I64 (readE s k p).1.kind∧I64 (readE s k p).1.seq:=fun k p=>by
  unfold readE
  split
  · exact hz.2
  · split
    · exact hz.2
    · split
      · exact hz.2
      · rename_i v d h
        split
        · unfold pEntry at h
          split at h
          · cases h
          · rename_i q r hq
            split at h
            · cases h
            · cases h
              have:=(pUint_ok.1 hq).2.1
              refine ⟨?_,by unfold I64;simp only;omega⟩
              simp only
              split<;>(unfold I64;omega)
        · exact hz.2
 unfold stepF
 split
 · exact hz
 · split
   · exact hz
   · split
     · exact hz
     · exact ⟨readE_ok.2,hr _ _⟩
def ReadOut (w w' :World) (D:Dec) (e:Ending):Prop:=
 ∃sa sc ea ec ma mc,e= .returned (.tuple #[.agg #[.slice sa D.sch.length sc, .slice ea D.ents.length ec], .slice ma D.marks.length mc, .int .i64 D.at_, .int .i64 D.err])∧Fr nob w w' ∧SV rCol 2 (newb w w') w' sa sc D.sch∧SV rEnt 3 (newb w w') w' ea ec D.ents∧SV rMark 3 (newb w w') w' ma mc D.marks
theorem schemaPrint_lt (s:List Col):schemaPrint s<4294967296:=by
 unfold schemaPrint
 split
 · exact crcSum_lt _
 · omega
def vB (z:Nat) (w:World) (O1 O2:Nat→Prop):Nat→Prop:=fun k=>z+2≤k∧k<w.heap.size∧¬O1 k∧¬O2 k
theorem vB_go {z:Nat} {w w' :World} {O1 O2:Nat→Prop} (h:w.heap.size≤w'.heap.size):∀k,vB z w O1 O2 k→vB z w' O1 O2 k:=fun k hk=>⟨hk.1,Nat.lt_of_lt_of_le hk.2.1 h,hk.2.2⟩
theorem decGo_step {s:List Col} {f:Nat} {t:TSt} {at_:Nat} {l:List Ent} {m:List Mark} {d:List UInt8} (h:0<d.length):decGo s (f+1) t at_ l m d=if (stepF s t d).2.2.1≠0 then (⟨[],[],[],at_,(stepF s t d).2.2.1⟩,t)
 else decGo s f (stepF s t d).2.2.2 (at_+(stepF s t d).2.1) (l++[(stepF s t d).1]) (m++[⟨(stepF s t d).2.2.2.q,at_+(stepF s t d).2.1,schemaPrint s⟩]) (d.drop (stepF s t d).2.1):=by
 simp only[decGo]
 rw[if_neg (show ¬d.length=0 by omega)]
theorem decGo_end {s:List Col} {t:TSt} {at_:Nat} {l:List Ent} {m:List Mark} {d:List UInt8} (h:d.length=0):∀f,decGo s f t at_ l m d=(⟨s,l,m,at_,0⟩,t)
 | 0=>rfl
 | f+1=>by simp only[decGo];rw[if_pos h]
structure RdSt (w0 wr:World) (z zv:Nat) (b:List UInt8) (s:List Col) (D:Dec) (at_:Nat) (mk:List Mark) (ma:Option Addr) (mc:Nat) (t:TSt) (acc:List Ent) (fuel:Nat) (O1 O2:Nat→Prop):Prop where
 dec:D=(decGo s fuel t at_ acc mk (b.drop at_)).1
 le:at_≤b.length
 fuel:b.length≤at_+fuel
 ok:TOk s t
 m:acc.length=t.m
 ml:mk.length=acc.length+1
 st:StAt wr (vB z wr O1 O2) zv s t
 tr:∃sa sc ea ec,wr.heap[z]? =some (.cells #[.slice sa s.length sc, .slice ea acc.length ec] 36 (0,0))∧SV rCol 2 (vB z wr O1 O2) wr sa sc s∧EntRow O2 (vB z wr O1 O2) wr ea ec acc
 mks:Vec O1 wr 3 ma mk.length mc (mk.flatMap markCells)
 fit:∀m∈mk,MarkFit m
 fr:Fr nob w0 wr
 o1:∀k,O1 k→z+2≤k∧k<wr.heap.size
 o2:∀k,O2 k→z+2≤k∧k<wr.heap.size
 dis:∀k,O1 k→¬O2 k
set_option maxRecDepth 100000 in
set_option maxHeartbeats 16000000 in
theorem readT_any (S:Nat→Prop) (w:World) (hS:∀k,S k→k<w.heap.size) (a:Option Addr) (cap:Nat) (b:List UInt8) (hb:BV S w a cap b) (hn:b.length≤1099511627776) (hL:Laid w) (hF:Frames w):
 Calls Tryz.prog 52 #[.slice a b.length cap] w fun e w' =>ReadOut w w' (decF b) e:=by
 obtain ⟨D,hD⟩:∃D,D=decF b:=⟨_,rfl⟩
 rw[←hD]
 obtain ⟨w1,hw1⟩:∃x1,x1=(w.alloc (.cells #[.slice none 0 0, .slice none 0 0] 36 (0,0))).alloc (.cells #[.slice none 0 0, .int .i64 0, .slice none 0 0, .int .i64 0] 136 (0,0)):=⟨_,rfl⟩
 obtain ⟨z,hz⟩:∃x1,x1=w.heap.size:=⟨_,rfl⟩
 have hf1:Fr nob w w1:=by rw[hw1];exact ((Fr.refl nob w).alloc _).alloc _
 have hs1:w1.heap.size=z+2:=by rw[hw1,hz];simp
 have hbt:w1.heap[z]? =some (.cells #[.slice none 0 0, .slice none 0 0] 36 (0,0)):=by rw[hw1,hz];exact heap_old (heap_new w _) _
 have hbv:w1.heap[z+1]? =some (.cells #[.slice none 0 0, .int .i64 0, .slice none 0 0, .int .i64 0] 136 (0,0)):=by
  have:=heap_new (w.alloc (.cells #[.slice none 0 0, .slice none 0 0] 36 (0,0))) (.cells #[.slice none 0 0, .int .i64 0, .slice none 0 0, .int .i64 0] 136 (0,0))
  rw[←hw1] at this
  simpa [hz] using this
 obtain ⟨zv,hzv⟩:∃x1,x1=z+1:=⟨_,rfl⟩
 rw[←hzv] at hbv
 have hhd:=headR_any S w1 (fun k hk=>Nat.lt_of_lt_of_le (hS k hk) hf1.size) a cap b (hb.frN hf1) hn (hL.frN hf1)
 have hat:=headF_at b
 have hsl:(headF b).1.length≤8:=by
  unfold headF
  split
  · simp
  · split
    · simp
    · split
      · simp
      · split
        · simp
        · exact readS_len _
 unfold decF decT at hD
 obtain ⟨x,hx⟩:∃x,x=headF b:=⟨_,rfl⟩
 rw[←hx] at hhd hD hat hsl
 obtain ⟨s,at0,e0⟩:=x
 simp only at hhd hD hat hsl
 have HX:=Lib.hid (⟨hz,hzv,hs1⟩:_∧_∧_)
 have HB:=Lib.hid hb
 have HL:=Lib.hid hL
 have HF:=Lib.hid hF
 have HS:=Lib.hid hS
 have QT:=Lib.hid (fun y (hy:Fr nob w1 y)=>hy.heap hbt id)
 have QV:=Lib.hid (fun y (hy:Fr nob w1 y)=>hy.heap hbv id)
 clear hx hs1 hbt hbv hb hL hF hS
 have E1:=Lib.hid (Ev.of hf1 (nob_lt _))
 have G1:=Lib.hid hf1
 clear hf1
 go_enter Tryz.func52,Tryz.ntmps52
 go_wp2_with fail
 rw[←hw1,←hz,←hzv]
 clear hw1 hz hzv
 refine hhd.mono ?_
 rintro e u2 ⟨sa,sc,rfl,hf2,hv2⟩
 clear hhd
 have E2:=Lib.hid (Ev.of hf2 E1.out.lt)
 have G2:=Lib.hid hf2
 have HV2:=Lib.hid hv2
 have hv0:=QV.out _ G2.out
 have zv0:=frozen_of hv0 0
 have yv0:=cell_of hv0 0
 simp at yv0
 have f3:=(Fr.self zv u2).set1 0 (.slice sa s.length sc)
 have h3:=heap_set hv0 0 (.slice sa s.length sc)
 simp at h3
 have hvt:zv≠z:=by have:=HX.out;omega
 have ht3:=f3.heap (QT.out _ G2.out) (fun e=>hvt e.symm)
 have G2:=Lib.hid (G1.out.andN G2.out)
 clear hv0 hv2
 by_cases he0:e0=0
 case neg=>
  rw[if_pos he0] at hD
  have HE:=Lib.hid hD
  have d1:=intne he0
  obtain ⟨zf0,zc0,yc1,zf1,zc1,hh,hfr⟩:=trace_put ht3 (.slice none 0 0) (.slice none 0 0)
  have HP:=Lib.hid (⟨hh,hfr,f3⟩:_∧_∧_)
  clear hD he0 hh hfr h3 f3 ht3 hf2
  go_wp2_with fail
  (try simp only[Exit.inBlock,Exit.then])
  refine bodyPost_ret (results_c4 rfl _ _ _ ⟨z,0,none⟩ _ rfl (load_trace HP.out.1)) rfl ?_
  rw[HE.out]
  have hx:=HX.out
  exact ⟨none,0,none,0,none,0,rfl,(G2.out.any.trans HP.out.2.2 (T:=nob) (fun k hk e=>by omega)).trans HP.out.2.1 (fun k hk e=>by omega),SV.nil _ _ _ _,SV.nil _ _ _ _,SV.nil _ _ _ _⟩
 case pos=>
  subst he0
  rw[if_neg (by omega)] at hD
  have HD:=Lib.hid hD
  clear hD
  have k3:=cell_of h3 0
  simp at k3
  have zt0:=frozen_of ht3 0
  have yt0:=cell_of ht3 0
  simp at yt0
  have f4:=(Fr.self z (u2.setCell ⟨zv,0,none⟩ (.slice sa s.length sc))).set1 0 (.slice sa s.length sc)
  have h4:=heap_set ht3 0 (.slice sa s.length sc)
  simp at h4
  have k4:=cell_of h4 0
  simp at k4
  have hv4:=f4.heap h3 hvt
  obtain ⟨w5,hw5⟩:∃x,x=(u2.setCell ⟨zv,0,none⟩ (.slice sa s.length sc)).setCell ⟨z,0,none⟩ (.slice sa s.length sc):=⟨_,rfl⟩
  rw[←hw5] at f4 h4 hv4
  have hx:=HX.out
  have hfr5:Fr nob w w5:=(G2.out.any.trans f3 (T:=nob) (fun k hk e=>by omega)).trans f4 (fun k hk e=>by omega)
  have hnew:∀k,newb w1 u2 k→z+2≤k∧k<u2.heap.size:=fun k hk=>⟨by have:=hk.1;omega,hk.2⟩
  have hvs:SV rCol 2 (fun k=>z+2≤k∧k<w5.heap.size) w5 sa sc s:=((HV2.out.fr rCol_ok f3 (fun k hk e=>by have:=hnew k hk;omega)).fr rCol_ok f4 (fun k hk e=>by have:=hnew k hk;omega)).mono rCol_ok (fun k hk=>⟨(hnew k hk).1,by have:=(hnew k hk).2;have:=f3.size;have:=f4.size;omega⟩)
  have hs5:z+2≤w5.heap.size:=by have:=f3.size;have:=f4.size;have:=hf2.size;omega
  have hpr:=schemaPrint_any _ w5 sa sc s hvs (HL.out.frN hfr5) (by unfold lim;omega) (fun k hk=>hk.2)
  have hpl:=schemaPrint_lt s
  have HVS:=Lib.hid hvs
  have HH4:=Lib.hid (⟨h4,hv4,hfr5,hs5⟩:_∧_∧_∧_)
  have HW5:=Lib.hid hw5
  rw[show (0:Nat)=0 from rfl] at k4
  clear hf2 f3 h3 ht3 f4 h4 hv4 hfr5 hnew hvs hs5 hx hw5
  go_wp2_with fail
  rw[←HW5.out]
  clear zv0 yv0 k3 zt0 yt0 k4
  refine hpr.mono ?_
  rintro e u6 ⟨rfl,hf6⟩
  clear hpr
  obtain ⟨x7,hx7⟩:∃x1,x1=u6.alloc (.cells #[.int .i64 0, .int .i64 at0, .int .u32 (schemaPrint s:Nat)] 53 (0,0)):=⟨_,rfl⟩
  have hf7:Fr nob u6 x7:=by rw[hx7];exact (Fr.refl nob _).alloc _
  have hlit:=Vec.newrow u6 #[.int .i64 0, .int .i64 at0, .int .u32 (schemaPrint s:Nat)] 53 (size:=3) (n:=1) rfl (by unfold maxLen;omega) (by simp[Value.oneCell'])
  have HSRC:=Lib.hid (hlit.src (P:=Tryz.prog) Tryz.underlying48)
  have HX7:=Lib.hid hx7
  have HF67:=Lib.hid (hf6.andN hf7)
  clear hf6 hf7 hlit hx7
  go_wp2_with (at_builtin;refine wpList_append_vec rfl _ _ _ _ rfl rfl (Vec.nil nob _ 3) _ _ _ Tryz.underlying48 inf_Cur rfl _ 1 _ rfl HSRC.out (by unfold maxLen;omega) (by omega) ?_)
  intro a8 c8 w8 hv8 hf8 _
  rw[←HX7.out] at hv8 hf8
  have HV8:=Lib.hid hv8
  have HF8:=Lib.hid hf8
  clear hv8 hf8
  go_wp2_with fail
  go_loopw [3,4] (fun v3 v4 wr=>∃(at_:Nat) (mk:List Mark) (ma:Option Addr) (mc:Nat) (t:TSt) (acc:List Ent) (fuel:Nat) (O1 O2:Nat→Prop),v3= .slice ma mk.length mc∧v4= .int .i64 at_∧RdSt w wr z zv b s D at_ mk ma mc t acc fuel O1 O2) (fun _ v4 _=>b.length - (intOf v4).toNat)
  case atStart=>
   obtain ⟨h4,hv4,hfr5,hs5⟩:=HH4.out
   have g58:Fr nob w5 w8:=HF67.out.trans HF8.out (fun k hk h=>h)
   have hx:=HX.out
   refine ⟨at0,[⟨0,at0,schemaPrint s⟩],a8,c8, .zero,[],b.length,grow nob x7 w8,nob,rfl,rfl,?_⟩
   have hO:∀k,grow nob x7 w8 k→w5.heap.size≤k∧k<w8.heap.size:=fun k hk=>hk.elim (fun h=>h.elim) (fun h=>⟨by have:=h.1;have:=HF67.out.size;omega,h.2⟩)
   have hVs:∀k,(z+2≤k∧k<w5.heap.size)→vB z w8 (grow nob x7 w8) nob k:=fun k hk=>⟨hk.1,by have:=g58.size;omega,fun h=>by have:=(hO k h).1;omega,id⟩
   refine ⟨HD.out,hat,by omega,TOk.zero s,rfl,rfl,?_,?_,?_,?_,hfr5.andN g58,fun k hk=>⟨by have:=(hO k hk).1;omega,(hO k hk).2⟩,fun k hk=>hk.elim,fun k hk h=>h⟩
   · exact ⟨sa,sc,none,0,g58.heap hv4 id,(HVS.out.frN rCol_ok g58).mono rCol_ok hVs,SV.nil _ _ _ _⟩
   · exact ⟨sa,sc,none,0,g58.heap h4 id,(HVS.out.frN rCol_ok g58).mono rCol_ok hVs,EntRow.nil _ _ _⟩
   · exact HV8.out
   · intro m hm
     rw[List.mem_singleton.1 hm]
     exact ⟨by simp[I64],by simp only[I64];omega,hpl⟩
  case round=>
   obtain ⟨at_,mk,ma,mc,t,acc,fuel,O1,O2,rfl,rfl,hst⟩:=hrel
   have HST:=Lib.hid hst
   have hle:=hst.le
   have hacc:acc.length≤4096:=by have:=hst.m;have:=hst.ok.m;omega
   have hmk:mk.length≤4097:=by have:=hst.ml;omega
   have HNN:=Lib.hid hpl
   clear hst HD HH4 HV8 HF8 HVS HSRC
   by_cases hlt:at_<b.length
   · obtain ⟨f,hfu⟩:∃f,fuel=f+1:=⟨fuel - 1,by have:=HST.out.fuel;omega⟩
     obtain ⟨a7,q7,hv7,_⟩:=sub_from (HB.out.frN HST.out.fr) .i64 (at_:Int) at_ rfl hle
     obtain ⟨dk,hdk⟩:∃dk,dk=b.drop at_:=⟨_,rfl⟩
     have hdl:dk.length=b.length - at_:=by rw[hdk,List.length_drop]
     have hdl1:dk.length≤1099511627776:=by omega
     have hdec:=HST.out.dec
     rw[←hdk] at q7 hv7 hdec
     rw[hfu,decGo_step (by omega)] at hdec
     have hzero:=@stepF_zero s t dk HST.out.ok
     have hokk:=@stepF_ok s t dk HST.out.ok
     have hprs:=@stepF_prs s t dk
     have hnx:=next_w HST.out.st (fun k hk=>⟨hk.2.1,by have:=hk.1;have:=HX.out;omega⟩) S a7 (cap - at_) dk hv7 (fun k hk=>Nat.lt_of_lt_of_le (HS.out k hk) HST.out.fr.size) hdl1 (HL.out.frN HST.out.fr) (HF.out.frN HST.out.fr) (by unfold lim;omega) HST.out.ok
     obtain ⟨R,hR⟩:∃R,R=stepF s t dk:=⟨_,rfl⟩
     rw[←hR] at hdec hzero hokk hprs hnx
     obtain ⟨x,n,e1,t'⟩:=R
     simp only at hdec hzero hokk hprs
     have HDK:=Lib.hid (⟨hdk,hdl,hdec,hzero,hokk,hfu⟩:_∧_∧_∧_∧_∧_)
     have hpl2:=hprs.1
     have HPR:=Lib.hid hprs
     obtain ⟨sa',sc',ea,ec,htr,hsv,hrow⟩:=HST.out.tr
     obtain ⟨css,hcl,hcv,hce⟩:=hrow
     have HTR:=Lib.hid (⟨htr,hsv,hcl,hcv,hce⟩:_∧_∧_∧_∧_)
     clear hdk hdl hdec hzero hokk hprs hR hv7 htr hsv hcl hcv hce hfu
     go_wp2_with fail
     refine hnx.mono ?_
     rintro e u8 ⟨la,lc,rfl,hf8,hst8,hv8⟩
     simp only at hst8 hv8 ⊢
     clear hnx
     obtain ⟨x9,hx9⟩:∃x1,x1=u8.alloc (.cells #[.int .i64 x.kind, .int .i64 x.seq, .slice la x.prs.length lc] 40 (0,0)):=⟨_,rfl⟩
     have hf9:Fr nob u8 x9:=by rw[hx9];exact (Fr.refl nob _).alloc _
     have h9:=heap_new u8 (.cells #[.int .i64 x.kind, .int .i64 x.seq, .slice la x.prs.length lc] 40 (0,0))
     rw[←hx9] at h9
     have ht9:=hf9.heap (hf8.heap HTR.out.1 (fun e=>by have:=HX.out;omega)) id
     rw[hx9] at ht9 h9
     have HG8:=Lib.hid (⟨hf8,hst8,hv8⟩:_∧_∧_)
     by_cases he1:e1=0
     case neg=>
      have HE:=Lib.hid (HDK.out.2.2.1.trans (congrArg Prod.fst (if_pos he1)))
      have d1:=intne he1
      obtain ⟨zf0,zc0,yc1,zf1,zc1,hh,hfr⟩:=trace_put ht9 (.slice none 0 0) (.slice none 0 0)
      have HP:=Lib.hid (⟨hh,hfr⟩:_∧_)
      rw[hx9] at hf9
      have HF9:=Lib.hid hf9
      clear he1 hh hfr ht9 h9 hf9 hx9 hf8 hst8 hv8 q7
      go_wp2_with fail
      (try simp only[Exit.inBlock,Exit.then])
      refine bodyPost_ret (results_c4 rfl _ _ _ ⟨z,0,none⟩ _ rfl (load_trace HP.out.1)) rfl ?_
      rw[HE.out]
      refine ⟨none,0,none,0,none,0,rfl,?_,SV.nil _ _ _ _,SV.nil _ _ _ _,SV.nil _ _ _ _⟩
      have hx:=HX.out
      exact ((HST.out.fr.trans HG8.out.1 (T:=nob) (fun k hk e=>by omega)).andN HF9.out).trans (T:=nob) HP.out.2 (fun k hk e=>by omega)
     case pos=>
      subst he1
      have HE:=Lib.hid (HDK.out.2.2.1.trans (congrArg Prod.fst (if_neg (by omega))))
      obtain ⟨hn0,hnl,hm4,hmm⟩:=HDK.out.2.2.2.1 rfl
      have hnl2:at_+n≤b.length:=by have:=HDK.out.2.1;omega
      have hwn:IntKind.i64.wrap ((at_:Int)+(n:Int))=(at_:Int)+(n:Int):=by rw[IntWalk.i64_in _ (by omega)]
      have HMM:=Lib.hid hmm
      have hzs:z+2≤wr.heap.size:=by obtain ⟨_,_,_,_,h1,_⟩:=HST.out.st;have:=heap_lt h1;have:=HX.out;omega
      have HZS:=Lib.hid hzs
      have hO2z:∀k,k<z+2→¬O2 k:=fun k hk h=>by have:=(HST.out.o2 k h).1;omega
      have hO1z:∀k,k<z+2→¬O1 k:=fun k hk h=>by have:=(HST.out.o1 k h).1;omega
      have hzz:z<z+2∧zv<z+2∧zv≠z:=by have:=HX.out;omega
      have e0:=cell_of h9 0
      have e1:=cell_of h9 1
      have e2:=cell_of h9 2
      have t1:=cell_of ht9 1
      simp at e0 e1 e2 t1
      rw[←hx9] at ht9
      have HT9:=Lib.hid ht9
      have hva:=(HTR.out.2.2.2.1.fr hf8 (fun k hk e=>hO2z k (by omega) hk)).frN hf9
      obtain ⟨x10,hx10⟩:∃x1,x1=(u8.alloc (.cells #[.int .i64 x.kind, .int .i64 x.seq, .slice la x.prs.length lc] 40 (0,0))).alloc (.cells #[.int .i64 x.kind, .int .i64 x.seq, .slice la x.prs.length lc] 40 (0,0)):=⟨_,rfl⟩
      have hf10:Fr nob x9 x10:=by rw[hx10,hx9];exact (Fr.refl nob _).alloc _
      have hlit:=Vec.newrow (u8.alloc (.cells #[.int .i64 x.kind, .int .i64 x.seq, .slice la x.prs.length lc] 40 (0,0))) #[.int .i64 x.kind, .int .i64 x.seq, .slice la x.prs.length lc] 40 (size:=3) (n:=1) rfl (by unfold maxLen;omega) (by simp[Value.oneCell'])
      have hsrc:=hlit.src (P:=Tryz.prog) Tryz.underlying34
      rw[show (u8.alloc (.cells #[.int .i64 x.kind, .int .i64 x.seq, .slice la x.prs.length lc] 40 (0,0))).heap.size=u8.heap.size+1 by simp] at hsrc
      have HSRC:=Lib.hid hsrc
      clear hsrc
      have HVA:=Lib.hid (hva.frN hf10)
      rw[hx10] at HVA
      have HX10:=Lib.hid hx10
      have HF910:=Lib.hid (⟨hf9,hf10⟩:_∧_)
      obtain ⟨sa3,sc3,la3,lc3,hst3,_⟩:=HG8.out.2.1
      have HST3:=Lib.hid hst3
      have hHZ:=Lib.hid (⟨hO1z,hO2z⟩:_∧_)
      clear h9 hf9 hf10 hlit hx10 hva hf8 hst8 hv8 ht9 hst3 hmm hx9 hO1z hO2z
      go_wp2_with (at_builtin;refine wpList_append_vec rfl _ _ _ _ rfl rfl HVA.out _ _ _ Tryz.underlying34 inf_Ent rfl _ 1 _ rfl HSRC.out (by unfold maxLen;omega) (by omega) ?_)
      intro a11 c11 w11 hv11 hf11 _
      rw[←HX10.out] at hv11 hf11
      have ht11:=hf11.heap (HF910.out.2.heap HT9.out id) (hHZ.out.2 z hzz.1)
      have zt11:=frozen_of ht11 1
      have yt11:=cell_of ht11 1
      simp at yt11
      have f12:=(Fr.self z w11).set1 1 (.slice a11 (acc.length+1) c11)
      have h12:=heap_set ht11 1 (.slice a11 (acc.length+1) c11)
      simp at h12
      have hv11z:=hf11.heap (HF910.out.2.heap (HF910.out.1.heap HST3.out id) id) (hHZ.out.2 zv hzz.2.1)
      have hv12z:=f12.heap hv11z hzz.2.2
      have k12:=cell_of hv12z 1
      simp at k12
      have hvm:=(((((HST.out.mks.fr HG8.out.1 (fun k hk e=>hHZ.out.1 k (by omega) hk)).frN HF910.out.1).frN HF910.out.2).fr hf11 HST.out.dis).fr f12 (fun k hk e=>hHZ.out.1 k (by omega) hk))
      obtain ⟨x13,hx13⟩:∃x1,x1=(w11.setCell ⟨z,1,none⟩ (.slice a11 (acc.length+1) c11)).alloc (.cells #[.int .i64 t'.q, .int .i64 ((at_:Int)+(n:Int)), .int .u32 (schemaPrint s:Nat)] 53 (0,0)):=⟨_,rfl⟩
      have hf13:Fr nob (w11.setCell ⟨z,1,none⟩ (.slice a11 (acc.length+1) c11)) x13:=by rw[hx13];exact (Fr.refl nob _).alloc _
      have hlit:=Vec.newrow (w11.setCell ⟨z,1,none⟩ (.slice a11 (acc.length+1) c11)) #[.int .i64 t'.q, .int .i64 ((at_:Int)+(n:Int)), .int .u32 (schemaPrint s:Nat)] 53 (size:=3) (n:=1) rfl (by unfold maxLen;omega) (by simp[Value.oneCell'])
      have hsrc:=hlit.src (P:=Tryz.prog) Tryz.underlying48
      rw[show (w11.setCell ⟨z,1,none⟩ (.slice a11 (acc.length+1) c11)).heap.size=w11.heap.size by simp] at hsrc
      have HSRC2:=Lib.hid hsrc
      clear hsrc
      have HVM:=Lib.hid (hvm.frN hf13)
      rw[hx13] at HVM
      have HX13:=Lib.hid hx13
      have H11:=Lib.hid (⟨hv11,hf11,f12,h12,hf13⟩:_∧_∧_∧_∧_)
      clear hv11 hf11 ht11 f12 h12 hv11z hv12z hvm hx13 hf13 hlit e0 e1 e2 t1
      go_wp2_with (at_builtin;refine wpList_append_vec rfl _ _ _ _ rfl rfl HVM.out _ _ _ Tryz.underlying48 inf_Cur rfl _ 1 _ rfl HSRC2.out (by unfold maxLen;omega) (by omega) ?_)
      intro a14 c14 w14 hv14 hf14 _
      rw[←HX13.out] at hv14 hf14
      have H14:=Lib.hid (⟨hv14,hf14⟩:_∧_)
      clear hv14 hf14 zt11 yt11 k12
      go_wp2_with fail
      go_roundw
      case rel=>
       obtain ⟨hv11,hf11,f12,h12,hf13⟩:=H11.out
       obtain ⟨hv14,hf14⟩:=H14.out
       obtain ⟨hf8,hst8,hv8⟩:=HG8.out
       obtain ⟨hf9,hf10⟩:=HF910.out
       obtain ⟨hO1z,hO2z⟩:=hHZ.out
       have hx:=HX.out
       have s8:=hf8.size
       have s9:=hf9.size
       have s10:=hf10.size
       have s11:=hf11.size
       have s12:=f12.size
       have s13:=hf13.size
       have s14:=hf14.size
       have hO1:=HST.out.o1
       have hO2:=HST.out.o2
       have G8:Fr (fun k=>k=z∨O1 k∨O2 k) u8 w14:=(((((hf9.andN hf10).any.trans' (hf11.mono (T:=fun k=>k=z∨O1 k∨O2 k) (fun k _ h=>Or.inr (Or.inr h)))).trans' (f12.mono (T:=fun k=>k=z∨O1 k∨O2 k) (fun k _ h=>Or.inl h))).andN hf13).trans' (hf14.mono (T:=fun k=>k=z∨O1 k∨O2 k) (fun k _ h=>Or.inr (Or.inl h))))
       have G0:Fr (fun k=>k=zv∨k=z∨O1 k∨O2 k) wr w14:=(hf8.mono (T:=fun k=>k=zv∨k=z∨O1 k∨O2 k) (fun k _ h=>Or.inl h)).trans' (G8.mono (T:=fun k=>k=zv∨k=z∨O1 k∨O2 k) (fun k _ h=>Or.inr h))
       have hN1:∀k,grow O1 x13 w14 k→O1 k∨(x13.heap.size≤k∧k<w14.heap.size):=fun k hk=>hk
       have hN2:∀k,grow O2 x10 w11 k→O2 k∨(x10.heap.size≤k∧k<w11.heap.size):=fun k hk=>hk
       have hV1:∀k,vB z wr O1 O2 k→vB z w14 (grow O1 x13 w14) (grow O2 x10 w11) k:=fun k hk=>⟨hk.1,by have:=hk.2.1;omega,fun h=>(hN1 k h).elim hk.2.2.1 (fun h=>by have:=hk.2.1;omega),fun h=>(hN2 k h).elim hk.2.2.2 (fun h=>by have:=hk.2.1;omega)⟩
       have hV2:∀k,newb wr u8 k→vB z w14 (grow O1 x13 w14) (grow O2 x10 w11) k:=fun k hk=>⟨by have:=hk.1;have:=HZS.out;omega,by have:=hk.2;omega,fun h=>(hN1 k h).elim (fun h=>by have:=(hO1 k h).2;have:=hk.1;omega) (fun h=>by have:=hk.2;omega),fun h=>(hN2 k h).elim (fun h=>by have:=(hO2 k h).2;have:=hk.1;omega) (fun h=>by have:=hk.2;omega)⟩
       have hT1:∀k,vB z wr O1 O2 k→¬(k=zv∨k=z∨O1 k∨O2 k):=fun k hk h=>by
        rcases h with h | h | h | h
        · have:=hk.1;omega
        · have:=hk.1;omega
        · exact hk.2.2.1 h
        · exact hk.2.2.2 h
       have hT2:∀k,newb wr u8 k→¬(k=z∨O1 k∨O2 k):=fun k hk h=>by
        rcases h with h | h | h
        · have:=hk.1;have:=HZS.out;omega
        · have:=(hO1 k h).2;have:=hk.1;omega
        · have:=(hO2 k h).2;have:=hk.1;omega
       have hprs8:=(hv8.fr rPr_ok G8 hT2).mono rPr_ok hV2
       have hdd:dk.drop n=b.drop (at_+n):=by rw[HDK.out.1,List.drop_drop]
       refine ⟨at_+n,mk++[⟨t'.q,(at_:Int)+(n:Int),schemaPrint s⟩],a14,c14,t',acc++[x],f,grow O1 x13 w14,grow O2 x10 w11,by rw[List.length_append];rfl,by simp,?_⟩
       refine ⟨?_,hnl2,by have:=HST.out.fuel;have:=HDK.out.2.2.2.2.2;omega,HDK.out.2.2.2.2.1,by rw[List.length_append,HMM.out,HST.out.m];rfl,by rw[List.length_append,List.length_append,HST.out.ml];rfl,?_,⟨sa',sc',a11,c11,?_,?_,?_⟩,?_,?_,?_,?_,?_,?_⟩
       · rw[HE.out,hdd]
       · refine (hst8.fr G8 ?_ (fun k hk h=>hk.elim (fun hk=>hT1 k hk (Or.inr h)) (fun hk=>hT2 k hk h))).mono (fun k hk=>hk.elim (hV1 k) (hV2 k))
         rintro (h | h | h)
         · exact hzz.2.2 h
         · exact hO1z zv hzz.2.1 h
         · exact hO2z zv hzz.2.1 h
       · rw[List.length_append]
         exact hf14.heap (hf13.heap h12 id) (hO1z z hzz.1)
       · exact (HTR.out.2.1.fr rCol_ok G0 hT1).mono rCol_ok hV1
       · refine EntRow.snoc css HTR.out.2.2.1 (w:=w14) (c:=[.int .i64 x.kind, .int .i64 x.seq, .slice la x.prs.length lc]) (fun i c y hc hy=>rEnt_ok.mono (rEnt_ok.fr (HTR.out.2.2.2.2 i c y hc hy) G0 hT1) hV1) ?_ (Fr.refl _ _) ⟨⟨HPR.out.2.1,HPR.out.2.2⟩,by unfold lim;omega,la,lc,rfl,hprs8⟩
         refine (hv11.fr ((f12.mono (T:=fun k=>k=z∨O1 k) (fun k _ h=>Or.inl h)).andN hf13 |>.trans' (hf14.mono (T:=fun k=>k=z∨O1 k) (fun k _ h=>Or.inr h))) (fun k hk h=>?_)).mono (fun k hk=>hk)
         rcases h with h | h
         · rcases hN2 k hk with h2 | h2
           · exact hO2z k (by omega) h2
           · omega
         · rcases hN2 k hk with h2 | h2
           · exact HST.out.dis k h h2
           · have:=(hO1 k h).2;omega
       · rw[List.length_append,List.flatMap_append]
         exact hv14
       · intro m hm
         rcases List.mem_append.1 hm with hm | hm
         · exact HST.out.fit m hm
         · rw[List.mem_singleton.1 hm]
           have hq:=HDK.out.2.2.2.2.1.q
           exact ⟨by simp only[I64];omega,by simp only[I64];omega,HNN.out⟩
       · exact HST.out.fr.trans G0 (fun k hk h=>by
          rcases h with h | h | h | h
          · omega
          · omega
          · have:=(hO1 k h).1;omega
          · have:=(hO2 k h).1;omega)
       · intro k hk
         rcases hN1 k hk with h | h
         · have:=hO1 k h;omega
         · have:=HZS.out;omega
       · intro k hk
         rcases hN2 k hk with h | h
         · have:=hO2 k h;omega
         · have:=HZS.out;omega
       · intro k hk h
         rcases hN1 k hk with h1 | h1
         · rcases hN2 k h with h2 | h2
           · exact HST.out.dis k h1 h2
           · have:=(hO1 k h1).2;omega
         · rcases hN2 k h with h2 | h2
           · have:=(hO2 k h2).2;omega
           · omega
      case measure=>simp[intOf];omega
   · obtain rfl:at_=b.length:=by omega
     have HE:=Lib.hid (HST.out.dec.trans (congrArg Prod.fst (decGo_end (by rw[List.drop_length];rfl) fuel)))
     obtain ⟨sa',sc',ea,ec,htr,hsv,hrow⟩:=HST.out.tr
     obtain ⟨zf0,zc0,yc1,zf1,zc1,hh,hfr⟩:=trace_put htr (.slice sa' s.length sc') (.slice ea acc.length ec)
     have HP:=Lib.hid (⟨hh,hfr,hsv,hrow⟩:_∧_∧_∧_)
     clear hh hfr hsv hrow htr
     go_wp2_with fail
     (try simp only[Exit.inBlock,Exit.then])
     refine bodyPost_ret (results_c4 rfl _ _ _ ⟨z,0,none⟩ _ rfl (load_trace HP.out.1)) rfl ?_
     rw[HE.out]
     obtain ⟨_,hfr,hsv,hrow⟩:=HP.out
     have hx:=HX.out
     have hU:∀k,vB z wr O1 O2 k→newb w _ k:=fun k hk=>⟨by have:=hk.1;omega,Nat.lt_of_lt_of_le hk.2.1 hfr.size⟩
     refine ⟨sa',sc',ea,ec,ma,mc,rfl,HST.out.fr.trans hfr (fun k hk e=>by omega),(hsv.fr rCol_ok hfr (fun k hk e=>by have:=hk.1;omega)).mono rCol_ok hU,?_,?_⟩
     · exact (hrow.fr hfr (fun k hk e=>by have:=(HST.out.o2 k hk).1;omega) (fun k hk e=>by have:=hk.1;omega)).sv (fun k hk=>⟨by have:=(HST.out.o2 k hk).1;omega,Nat.lt_of_lt_of_le (HST.out.o2 k hk).2 hfr.size⟩) hU
     · exact vec_marks ((HST.out.mks.fr hfr (fun k hk e=>by have:=(HST.out.o1 k hk).1;omega)).mono (fun k hk=>⟨by have:=(HST.out.o1 k hk).1;omega,Nat.lt_of_lt_of_le (HST.out.o1 k hk).2 hfr.size⟩)) HST.out.fit
set_option maxRecDepth 100000 in
set_option maxHeartbeats 8000000 in
theorem decode_any (S:Nat→Prop) (w:World) (hS:∀k,S k→k<w.heap.size) (a:Option Addr) (cap:Nat) (b:List UInt8) (hb:BV S w a cap b) (hn:b.length≤1099511627776) (hL:Laid w) (hF:Frames w):
 Calls Tryz.prog 17 #[.slice a b.length cap] w fun e w' =>∃sa sc ea ec,e= .returned (.tuple #[.agg #[.slice sa (decF b).sch.length sc, .slice ea (decF b).ents.length ec], .int .i64 (decF b).at_, .int .i64 (decF b).err])∧Fr nob w w' ∧SV rCol 2 (newb w w') w' sa sc (decF b).sch∧SV rEnt 3 (newb w w') w' ea ec (decF b).ents:=by
 obtain ⟨w1,hw1⟩:∃x1,x1=w.alloc (.cells #[.slice none 0 0, .slice none 0 0] 36 (0,0)):=⟨_,rfl⟩
 obtain ⟨z,hz⟩:∃x1,x1=w.heap.size:=⟨_,rfl⟩
 have hf1:Fr nob w w1:=by rw[hw1];exact (Fr.refl nob w).alloc _
 have hs1:w1.heap.size=z+1:=by rw[hw1,hz];simp
 have hbt:=heap_new w (.cells #[.slice none 0 0, .slice none 0 0] 36 (0,0))
 rw[←hw1,←hz] at hbt
 have hrd:=readT_any S w1 (fun k hk=>Nat.lt_of_lt_of_le (hS k hk) hf1.size) a cap b (hb.frN hf1) hn (hL.frN hf1) (hF.frN hf1)
 generalize decF b=D at hrd
 obtain ⟨sch,ents,marks,at_,err⟩:=D
 have HX:=Lib.hid (⟨hz,hs1,hf1⟩:_∧_∧_)
 have HT:=Lib.hid hbt
 clear hb hL hF hS hs1 hf1 hbt
 go_enter Tryz.func17,Tryz.ntmps17
 go_wp2_with fail
 rw[←hw1,←hz]
 clear hw1 hz
 refine hrd.mono ?_
 rintro e w2 ⟨sa,sc,ea,ec,ma,mc,rfl,hf2,hv1,hv2,_⟩
 simp only at hv1 hv2 ⊢
 clear hrd
 obtain ⟨w3,hw3⟩:∃x1,x1=w2.alloc (.cells #[.slice sa sch.length sc, .slice ea ents.length ec] 36 (0,0)):=⟨_,rfl⟩
 have hf3:Fr nob w2 w3:=by rw[hw3];exact (Fr.refl nob _).alloc _
 have h3:=heap_new w2 (.cells #[.slice sa sch.length sc, .slice ea ents.length ec] 36 (0,0))
 have ht3:=hf3.heap (hf2.heap HT.out id) id
 rw[hw3] at ht3
 have k0:=cell_of h3 0
 have k1:=cell_of h3 1
 simp at k0 k1
 obtain ⟨zf0,zc0,yc1,zf1,zc1,hh,hfr⟩:=trace_put ht3 (.slice sa sch.length sc) (.slice ea ents.length ec)
 rw[hw3] at hf3
 have HP:=Lib.hid (⟨hh,hfr,hf2,hf3,hv1,hv2⟩:_∧_∧_∧_∧_∧_)
 clear hh hfr ht3 h3 hf2 hf3 hv1 hv2 hw3
 go_wp2_with fail
 (try simp only[Exit.inBlock,Exit.then])
 refine bodyPost_ret (results_c3 rfl _ _ _ ⟨z,0,none⟩ _ rfl (load_trace HP.out.1)) rfl ?_
 obtain ⟨_,hfr,hf2,hf3,hv1,hv2⟩:=HP.out
 obtain ⟨hz,hs1,hf1⟩:=HX.out
 have hU:∀k,newb w1 w2 k→newb w _ k:=fun k hk=>⟨by have:=hk.1;omega,Nat.lt_of_lt_of_le hk.2 (Nat.le_trans hf3.size hfr.size)⟩
 refine ⟨sa,sc,ea,ec,rfl,((hf1.andN hf2).andN hf3).trans hfr (fun k hk e=>by omega),?_,?_⟩
 · exact ((hv1.frN rCol_ok hf3).fr rCol_ok hfr (fun k hk e=>by have:=hk.1;omega)).mono rCol_ok hU
 · exact ((hv2.frN rEnt_ok hf3).fr rEnt_ok hfr (fun k hk e=>by have:=hk.1;omega)).mono rEnt_ok hU
set_option maxRecDepth 100000 in
set_option maxHeartbeats 8000000 in
theorem marks_any (S:Nat→Prop) (w:World) (hS:∀k,S k→k<w.heap.size) (a:Option Addr) (cap:Nat) (b:List UInt8) (hb:BV S w a cap b) (hn:b.length≤1099511627776) (hL:Laid w) (hF:Frames w):
 Calls Tryz.prog 24 #[.slice a b.length cap] w fun e w' =>∃ma mc,e= .returned (.tuple #[.slice ma (decF b).marks.length mc, .int .i64 (decF b).at_, .int .i64 (decF b).err])∧Fr nob w w' ∧SV rMark 3 (newb w w') w' ma mc (decF b).marks:=by
 have hrd:=readT_any S w hS a cap b hb hn hL hF
 generalize decF b=D at hrd
 obtain ⟨sch,ents,marks,at_,err⟩:=D
 clear hb hL hF hS
 go_enter Tryz.func24,Tryz.ntmps24
 go_wp2_with fail
 refine hrd.mono ?_
 rintro e w2 ⟨sa,sc,ea,ec,ma,mc,rfl,hf2,_,_,hv3⟩
 simp only at hv3 ⊢
 clear hrd
 have H:=Lib.hid (⟨hf2,hv3⟩:_∧_)
 clear hf2 hv3
 go_wp2_with fail
 go_ret3
 have g:Fr nob w2 (w2.alloc (.cells #[.slice sa sch.length sc, .slice ea ents.length ec] 36 (0,0))):=(Fr.refl nob w2).alloc _
 exact ⟨ma,mc,rfl,H.out.1.andN g,(H.out.2.frN rMark_ok g).mono rMark_ok (fun k hk=>⟨hk.1,Nat.lt_of_lt_of_le hk.2 g.size⟩)⟩
def colBy (c:Col):List UInt8:=lenBytes c.name++[UInt8.ofNat c.kind.toNat]
theorem pSchCols_of (r:List UInt8):∀(s:List Col) (xs:List (List UInt8)),schemaGo xs s=0→pSchCols s.length xs (s.flatMap colBy++r)= .ok s r
 | [],xs,_=>rfl
 | c::s,xs,h=>by
   simp only[schemaGo] at h
   split at h
   · cases h
   · rename_i h1
     split at h
     · cases h
     · rename_i h2
       split at h
       · cases h
       · rename_i h3
         have hk:0≤c.kind∧c.kind<6:=by
          simp[kindOk] at h3
          omega
         have ih:=pSchCols_of r s _ h
         have hb:pBytes 32 ((c::s).flatMap colBy++r)= .ok c.name (UInt8.ofNat c.kind.toNat::(s.flatMap colBy++r)):=pBytes_ok.2 ⟨by omega,by omega,by simp[colBy]⟩
         have hn:(UInt8.ofNat c.kind.toNat).toNat=c.kind.toNat:=toNat_ofNat8 (by omega)
         have hc:((UInt8.ofNat c.kind.toNat).toNat:Int)=c.kind:=by rw[hn];omega
         simp only[List.length_cons,pSchCols]
         rw[hb]
         simp only[pByte]
         rw[if_neg h2,hc,if_neg h3,ih]
         simp[Res.pre]
theorem schemaBytes_is (s:List Col):schemaBytes s=uv s.length++s.flatMap colBy:=by
 unfold schemaBytes colBy
 rfl
theorem pSchema_of {s:List Col} (h:schemaCheck s=0) (r:List UInt8):pSchema (schemaBytes s++r)= .ok s r:=by
 unfold schemaCheck at h
 split at h
 · cases h
 · rename_i h1
   split at h
   · cases h
   · rename_i h2
     unfold pSchema
     rw[schemaBytes_is,List.append_assoc,(pUint_ok (most:=8)).2 ⟨by omega,by omega,rfl⟩]
     simp only
     rw[if_neg h1]
     exact pSchCols_of r s [] h
theorem readS_of {s:List Col} (h:schemaCheck s=0):readS (schemaBytes s)=(s,0):=by
 have h1:=pSchema_of h []
 rw[List.append_nil] at h1
 unfold readS
 rw[h1]
 rfl
theorem headF_of {s:List Col} (h:schemaCheck s=0) (r:List UInt8):headF (headBytes s++r)=(s,(headBytes s).length,0):=by
 have hl:=schemaBytes_len h
 have hn:=nextF_of (k:=0) (by omega) (p:=schemaBytes s) (by omega) r
 have hd:(headBytes s++r).drop 4=frameBytes 0 (schemaBytes s)++r:=by
  unfold headBytes
  rw[List.append_assoc]
  rfl
 have hp:magicL.isPrefixOf (headBytes s++r)=true:=by
  rw[List.isPrefixOf_iff_prefix]
  unfold headBytes
  rw[List.append_assoc]
  exact List.prefix_append _ _
 unfold headF
 rw[if_neg (by rw[hp];simp),hd,hn]
 simp only
 rw[readS_of h]
 simp only
 rw[if_neg (by omega),if_neg (by omega),if_neg (by omega)]
 have:(headBytes s).length=4+(frameBytes 0 (schemaBytes s)).length:=by unfold headBytes;rw[List.length_append];rfl
 rw[this]
theorem decT_head {s:List Col} (h:schemaCheck s=0) (r:List UInt8):decT (headBytes s++r)=decGo s (headBytes s++r).length .zero (headBytes s).length [] [⟨0,(headBytes s).length,schemaPrint s⟩] r:=by
 unfold decT
 rw[headF_of h r]
 simp only
 rw[if_neg (by omega),List.drop_left]
theorem decF_head {s:List Col} (h:schemaCheck s=0):decF (headBytes s)=⟨s,[],[⟨0,(headBytes s).length,schemaPrint s⟩],(headBytes s).length,0⟩:=by
 have h1:=decT_head h []
 rw[List.append_nil] at h1
 unfold decF
 rw[h1]
 cases (headBytes s).length with
 | zero=>rfl
 | succ n=>simp[decGo]
end Go.Proofs.YtibpkfnfcdbiiaaGreatDoor
