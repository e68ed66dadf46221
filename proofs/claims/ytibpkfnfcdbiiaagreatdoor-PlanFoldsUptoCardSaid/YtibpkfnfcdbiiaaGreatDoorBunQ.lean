/- A set's bytes, in plain words. A set's bytes are read as the set, and nothing else is. batch.Write's function: a column's bytes onto those in a box. Rows of made cells. How long a column's bytes are. batch.each with Write's function, walked. batch.Write, walked. -/
import Derived.Test.YtibpkfnfcdbiiaaGreatDoorColLaw
import Derived.Test.YtibpkfnfcdbiiaaGreatDoorBunD
import Derived.Test.YtibpkfnfcdbiiaaGreatDoorBunH
namespace Go.Proofs.YtibpkfnfcdbiiaaGreatDoor
set_option linter.unusedSimpArgs false
open Go.RowKit
set_option linter.unusedVariables false
def colAt (a:List Pr) (j:Nat):List Cel:=a.map fun p=>p.row.getD j default
def wCols:List Col→Nat→List Pr→List UInt8
 | [],_,_=>[]
 | c::s,j,a=>wKind c.kind (colAt a j)++wCols s (j+1) a
def wWeights (a:List Pr):List UInt8:=a.flatMap fun p=>wInt p.weight
def wBatch (s:List Col) (a:List Pr):List UInt8:=uv a.length++wCols s 0 a++wWeights a
def pCols (n:Nat):List Col→List (List Cel)→List UInt8→Res (List (List Cel))
 | [],rows,d=> .ok rows d
 | c::s,rows,d=>match pCol c.kind n d with
   | .ok xs r=>pCols n s (List.zipWith (fun row x=>row++[x]) rows xs) r
   | .bad e r=> .bad e r
def pWeights:List (List Cel)→List UInt8→Res (List Pr)
 | [],d=> .ok [] d
 | row::rows,d=>match pInt d with
   | .ok x r=>if x=0 then .bad 2 r else (pWeights rows r).pre [⟨row,x⟩]
   | .bad e r=> .bad e r
def ordered (s:List Col):List Pr→Bool
 | []=>true
 | [_]=>true
 | p::q::l=>decide (rowCmp s p.row q.row<0)&&ordered s (q::l)
def pBatch (s:List Col) (d:List UInt8):Res (List Pr):=
 if schemaCheck s=0 then (match pUint 1024 d with
  | .bad e r=> .bad e r
  | .ok n r=>match pCols n s (List.replicate n []) r with
    | .bad e r=> .bad e r
    | .ok rows r=>match pWeights rows r with
      | .bad e r=> .bad e r
      | .ok a r=>if ordered s a=true then .ok a r else .bad 9 r)
 else .bad (schemaCheck s) d
theorem pWeights_ok:∀(rows:List (List Cel)) (d r:List UInt8) (a:List Pr),pWeights rows d= .ok a r↔a.map (·.row)=rows∧(∀p∈a,I64 p.weight∧p.weight≠0)∧d=wWeights a++r
 | [],d,r,a=>by
   constructor
   · intro h;cases h;exact ⟨rfl,by simp,rfl⟩
   · rintro ⟨h1,_,h3⟩
     obtain rfl:=List.map_eq_nil_iff.1 h1
     subst h3;rfl
 | row::rows,d,r,a=>by
   unfold pWeights
   constructor
   · intro h
     split at h
     · rename_i x r1 hx
       obtain ⟨h1,h2⟩:=pInt_ok.1 hx
       split at h
       · cases h
       · rename_i h0
         obtain ⟨a',rfl,h3⟩:=Res.pre_ok.1 h
         obtain ⟨h4,h5,h6⟩:=(pWeights_ok rows r1 r a').1 h3
         refine ⟨by simp[h4],?_,?_⟩
         · intro p hp
           rcases List.mem_cons.1 hp with rfl | hp
           · exact ⟨h1,h0⟩
           · exact h5 p hp
         · show d=(wInt x++wWeights a')++r
           rw[List.append_assoc,←h6];exact h2
     · cases h
   · rintro ⟨h1,h2,h3⟩
     cases a with
     | nil=>cases h1
     | cons p a=>
       obtain ⟨rw',x⟩:=p
       simp only[List.map_cons,List.cons.injEq] at h1
       obtain ⟨rfl,h1⟩:=h1
       obtain ⟨h4,h5⟩:=h2 ⟨rw',x⟩ (by simp)
       simp only at h4 h5
       have hp:pInt d= .ok x (wWeights a++r):=pInt_ok.2 ⟨h4,by rw[h3];simp[wWeights]⟩
       rw[hp]
       simp only[if_neg h5]
       exact Res.pre_ok.2 ⟨a,rfl,(pWeights_ok rows _ r a).2 ⟨h1,fun p hp=>h2 p (List.mem_cons_of_mem _ hp),rfl⟩⟩
def colR (rows:List (List Cel)) (j:Nat):List Cel:=rows.map fun r=>r.getD j default
def wColsR:List Col→Nat→List (List Cel)→List UInt8
 | [],_,_=>[]
 | c::s,j,rows=>wKind c.kind (colR rows j)++wColsR s (j+1) rows
theorem wCols_rows (a:List Pr):∀(s:List Col) (j:Nat),wCols s j a=wColsR s j (a.map (·.row))
 | [],_=>rfl
 | c::s,j=>by
   simp only[wCols,wColsR,wCols_rows a s (j+1)]
   congr 2
   simp[colAt,colR]
theorem zip_take (j:Nat):∀(rows:List (List Cel)) (xs:List Cel),rows.length=xs.length→(∀r∈rows,r.length=j)→
 (List.zipWith (fun row x=>row++[x]) rows xs).map (·.take j)=rows∧colR (List.zipWith (fun row x=>row++[x]) rows xs) j=xs∧(∀r∈List.zipWith (fun row x=>row++[x]) rows xs,r.length=j+1)
 | [],[],_,_=>⟨rfl,rfl,by simp⟩
 | [],_::_,h,_=>by simp at h
 | _::_,[],h,_=>by simp at h
 | r::rows,x::xs,h,hr=>by
   obtain ⟨h1,h2,h3⟩:=zip_take j rows xs (by simpa using h) (fun r hr' =>hr r (List.mem_cons_of_mem _ hr'))
   have hj:=hr r (by simp)
   subst hj
   refine ⟨?_,?_,?_⟩
   · simp only[List.zipWith_cons_cons,List.map_cons,List.take_left,h1]
   · unfold colR at h2 ⊢
     simp only[List.zipWith_cons_cons,List.map_cons,h2]
     simp
   · intro q hq
     rcases List.mem_cons.1 hq with rfl | hq
     · simp
     · exact h3 q hq
theorem take_zip (j:Nat):∀(out:List (List Cel)),(∀r∈out,j<r.length)→out.map (·.take (j+1))=List.zipWith (fun row x=>row++[x]) (out.map (·.take j)) (colR out j)
 | [],_=>rfl
 | r::out,h=>by
   have h1:=take_zip j out (fun r hr=>h r (List.mem_cons_of_mem _ hr))
   have hj:=h r (by simp)
   simp only[List.map_cons,colR,List.zipWith_cons_cons] at h1 ⊢
   rw[h1,List.take_succ_eq_append_getElem hj]
   simp[hj]
theorem pCols_ok (n:Nat) (hn:n≤1024):∀(s:List Col) (j:Nat) (rows:List (List Cel)) (d r:List UInt8) (out:List (List Cel)),(∀c∈s,cellKind c.kind=true)→rows.length=n→(∀r∈rows,r.length=j)→
 (pCols n s rows d= .ok out r↔out.map (·.take j)=rows∧(∀row∈out,row.length=j+s.length)∧(∀(k:Nat) (c:Col),s[k]? =some c→CellsOf c.kind (colR out (j+k)))∧d=wColsR s j out++r)
 | [],j,rows,d,r,out,hk,hl,hr=>by
   constructor
   · intro h
     cases h
     refine ⟨?_,fun row h=>by simpa using hr row h,by simp,rfl⟩
     conv=>rhs;rw[←List.map_id rows]
     exact List.map_congr_left (fun x hx=>(List.take_of_length_le (by have:=hr x hx;omega):x.take j=x))
   · rintro ⟨h1,h2,_,h4⟩
     have:out=rows:=by
      rw[←h1]
      conv=>lhs;rw[←List.map_id out]
      exact List.map_congr_left (fun x hx=>((List.take_of_length_le (by have:=h2 x hx;simp at this;omega):x.take j=x)).symm)
     subst this
     subst h4
     rfl
 | c::s,j,rows,d,r,out,hk,hl,hr=>by
   have hck:=hk c (by simp)
   have hks:=fun x hx=>hk x (List.mem_cons_of_mem c hx)
   unfold pCols pCol
   rw[hck,if_neg (by simp),if_neg (by omega)]
   constructor
   · intro h
     split at h
     · rename_i xs r1 hx
       obtain ⟨h1,h2,h3⟩:=(pKind_ok hck).1 hx
       obtain ⟨z1,z2,z3⟩:=zip_take j rows xs (by omega) hr
       obtain ⟨g1,g2,g3,g4⟩:=(pCols_ok n hn s (j+1) _ r1 r out hks (by rw[List.length_zipWith];omega) z3).1 h
       have hcol:colR out j=xs:=by
        rw[←z2,←g1]
        unfold colR
        rw[List.map_map]
        apply List.map_congr_left
        intro x hx
        have:=g2 x hx
        simp[List.getElem?_take]
       refine ⟨?_,fun row hrow=>by have:=g2 row hrow;simp;omega,?_,?_⟩
       · rw[←z1,←g1,List.map_map]
         apply List.map_congr_left
         intro x _
         simp[List.take_take]
       · intro k c' hc'
         cases k with
         | zero=>simp at hc';subst hc';rw[Nat.add_zero,hcol];exact h2
         | succ k=>rw[show j+(k+1)=j+1+k by omega];exact g3 k c' (by simpa using hc')
       · simp only[wColsR]
         rw[hcol,List.append_assoc,←g4];exact h3
     · cases h
   · rintro ⟨h1,h2,h3,h4⟩
     have hol:out.length=n:=by rw[←hl,←h1,List.length_map]
     have hx:pKind c.kind n d= .ok (colR out j) (wColsR s (j+1) out++r):=(pKind_ok hck).2 ⟨by simp[colR,hol],by have:=h3 0 c (by simp);simpa using this,by rw[h4];simp only[wColsR,List.append_assoc]⟩
     rw[hx]
     have htz:=take_zip j out (fun x hx=>by have:=h2 x hx;simp at this;omega)
     rw[h1] at htz
     have z:=zip_take j rows (colR out j) (by simp[colR,hol,hl]) hr
     refine (pCols_ok n hn s (j+1) _ _ r out hks (by rw[List.length_zipWith];simp[colR,hol,hl]) z.2.2).2 ⟨htz,fun row hrow=>by have:=h2 row hrow;simp at this;omega,fun k c' hc' =>by rw[show j+1+k=j+(k+1) by omega];exact h3 (k+1) c' (by simpa using hc'),rfl⟩
theorem ordered_pair {s:List Col}:∀{a:List Pr},(a.Pairwise fun p q=>rowCmp s p.row q.row<0)→ordered s a=true
 | [],_=>rfl
 | [_],_=>rfl
 | p::q::l,h=>by
   obtain ⟨h1,h2⟩:=List.pairwise_cons.1 h
   simp only[ordered,Bool.and_eq_true,decide_eq_true_eq]
   exact ⟨h1 q (by simp),ordered_pair h2⟩
theorem zGo_ordered {s:List Col}:∀{a:List Pr} {q:Option (List Cel)},(∀p∈a,rowCheck s p.row=0∧p.weight≠0)→(∀r p l,q=some r→a=p::l→rowCmp s r p.row<0)→ordered s a=true→zGo s q a=0
 | [],_,_,_,_=>rfl
 | p::l,q,h,hq,ho=>by
   obtain ⟨h1,h2⟩:=h p (by simp)
   have hl:ordered s l=true∧∀r p' l',some p.row=some r→l=p' ::l' →rowCmp s r p'.row<0:=by
    cases l with
    | nil=>exact ⟨rfl,fun r p' l' _ h=>by cases h⟩
    | cons p' l=>
      simp only[ordered,Bool.and_eq_true,decide_eq_true_eq] at ho
      refine ⟨ho.2,fun r p'' l' hr hl=>?_⟩
      cases hr;cases hl;exact ho.1
   have ih:=zGo_ordered (q:=some p.row) (fun x hx=>h x (List.mem_cons_of_mem _ hx)) hl.2 hl.1
   simp only[zGo]
   rw[if_pos h1,if_neg h2]
   cases q with
   | none=>simpa using ih
   | some q=>
     have:=hq q p l rfl rfl
     simp only[decide_eq_true_eq]
     rw[if_neg (by omega)]
     exact ih
theorem rowGo_iff:∀{s:List Col} {r:List Cel},r.length=s.length→(rowGo s r=0↔∀(k:Nat) (c:Col),s[k]? =some c→cellCheck c.kind (r.getD k default)=0)
 | [],[],_=>by simp[rowGo]
 | [],_::_,h=>by simp at h
 | _::_,[],h=>by simp at h
 | c::s,x::r,h=>by
   have ih:=rowGo_iff (s:=s) (r:=r) (by simpa using h)
   simp only[rowGo]
   constructor
   · intro h0 k c' hc'
     split at h0
     · rename_i hx
       cases k with
       | zero=>simp at hc';subst hc';simpa using hx
       | succ k=>simpa using ih.1 h0 k c' (by simpa using hc')
     · rename_i hx;exact absurd h0 hx
   · intro h0
     have hx:cellCheck c.kind x=0:=by simpa using h0 0 c (by simp)
     rw[if_pos hx]
     exact ih.2 (fun k c' hc' =>by simpa using h0 (k+1) c' (by simpa using hc'))
theorem kinds_of {s:List Col} (h:schemaCheck s=0):∀c∈s,cellKind c.kind=true:=fun c hc=>by
 obtain ⟨_,h1,h2⟩:=schemaCheck_col h c hc
 have a1: -1<c.kind:=by omega
 have a2:c.kind≤5:=by omega
 simp[cellKind,a1,a2]
theorem mem_col {rows:List (List Cel)} {row:List Cel} (h:row∈rows) (k:Nat):row.getD k default∈colR rows k:=List.mem_map.2 ⟨row,h,rfl⟩
theorem pBatch_ok {s:List Col} {d r:List UInt8} {a:List Pr}:pBatch s d= .ok a r↔zCheck s a=0∧PrOk a∧d=wBatch s a++r:=by
 unfold pBatch
 constructor
 · intro h
   split at h
   · rename_i h0
     split at h
     · cases h
     · rename_i n r1 hn
       obtain ⟨_,hn2,hn3⟩:=pUint_ok.1 hn
       split at h
       · cases h
       · rename_i rows r2 hc
         obtain ⟨c1,c2,c3,c4⟩:=(pCols_ok n hn2 s 0 _ r1 r2 rows (kinds_of h0) (by simp) (fun r hr=>by rw[List.eq_of_mem_replicate hr];rfl)).1 hc
         split at h
         · cases h
         · rename_i a' r3 hw
           split at h
           · rename_i ho
             cases h
             obtain ⟨w1,w2,w3⟩:=(pWeights_ok rows r2 r a).1 hw
             have hlr:rows.length=n:=by have:=congrArg List.length c1;simpa using this
             have hla:a.length=n:=by rw[←hlr,←w1,List.length_map]
             have hrow:∀p∈a,rowCheck s p.row=0:=fun p hp=>by
              have hm:p.row∈rows:=by rw[←w1];exact List.mem_map.2 ⟨p,hp,rfl⟩
              have hl:=c2 _ hm
              unfold rowCheck
              rw[if_pos h0,if_pos (by omega)]
              exact (rowGo_iff (by omega)).2 (fun k c hk=>(c3 k c hk _ (by rw[Nat.zero_add];exact mem_col hm k)).1)
             refine ⟨?_,fun p hp=>⟨(w2 p hp).1,fun c hc=>?_⟩,?_⟩
             · unfold zCheck
               rw[if_pos h0,if_neg (by omega)]
               exact zGo_ordered (fun p hp=>⟨hrow p hp,(w2 p hp).2⟩) (fun r p l h=>by cases h) ho
             · have hm:p.row∈rows:=by rw[←w1];exact List.mem_map.2 ⟨p,hp,rfl⟩
               have hl:=c2 _ hm
               obtain ⟨k,hk,rfl⟩:=List.mem_iff_getElem.1 hc
               have:=(c3 k s[k] (List.getElem?_eq_getElem (by omega)) _ (by rw[Nat.zero_add];exact mem_col hm k)).2
               simpa [hk] using this
             · unfold wBatch
               rw[wCols_rows,w1,hla,hn3,c4,w3];simp only[List.append_assoc]
           · cases h
   · cases h
 · rintro ⟨hz,hok,hd⟩
   obtain ⟨h0,hl,hg⟩:=zCheck_len hz
   have hrows:=zGo_rows hg
   have hca:=canon_of hok hz
   rw[if_pos h0]
   unfold wBatch at hd
   rw[List.append_assoc,List.append_assoc] at hd
   have e1:pUint 1024 d= .ok a.length (wCols s 0 a++(wWeights a++r)):=pUint_ok.2 ⟨by omega,hl,hd⟩
   rw[e1]
   simp only
   have hlen:∀p∈a,p.row.length=s.length:=fun p hp=>(rowCheck_zero (hrows p hp).1).2.1
   have e2:pCols a.length s (List.replicate a.length []) (wCols s 0 a++(wWeights a++r))= .ok (a.map (·.row)) (wWeights a++r):=by
    refine (pCols_ok a.length hl s 0 _ _ _ _ (kinds_of h0) (by simp) (fun r hr=>by rw[List.eq_of_mem_replicate hr];rfl)).2 ⟨?_,?_,?_,by rw[wCols_rows]⟩
    · rw[List.eq_replicate_iff];simp
    · intro row hr
      obtain ⟨p,hp,rfl⟩:=List.mem_map.1 hr
      rw[hlen p hp,Nat.zero_add]
    · intro k c hk x hx
      obtain ⟨row,hr,rfl⟩:=List.mem_map.1 hx
      obtain ⟨p,hp,rfl⟩:=List.mem_map.1 hr
      rw[Nat.zero_add]
      have hkl:k<s.length:=(List.getElem?_eq_some_iff.1 hk).1
      refine ⟨(rowGo_iff (hlen p hp)).1 (rowCheck_zero (hrows p hp).1).2.2 k c hk,?_⟩
      have hkr:k<p.row.length:=by rw[hlen p hp];exact hkl
      have:=(hok p hp).2 (p.row[k]) (List.getElem_mem hkr)
      simpa [hkr] using this
   rw[e2]
   simp only
   have e3:pWeights (a.map (·.row)) (wWeights a++r)= .ok a r:=(pWeights_ok _ _ _ _).2 ⟨rfl,fun p hp=>⟨(hok p hp).1,(hrows p hp).2⟩,rfl⟩
   rw[e3]
   simp only[ordered_pair hca.lt,if_true]
set_option maxRecDepth 100000 in
set_option maxHeartbeats 8000000 in
theorem batW1_any (S O:Nat→Prop) (w:World) (K:Int) (b:Option Addr) (cb:Nat) (l:List Cel) (hl:SV rCel 2 S w b cb l) (hS:∀k,S k→k<w.heap.size) (hl2:l.length≤1048576) (hL:Laid w)
 (c:Nat) (ao:Option Addr) (co:Nat) (pre:List UInt8) (hc:w.heap[c]? =some (.cells #[.slice ao pre.length co] 27 (0,0))) (hO:∀k,O k→k<w.heap.size) (hcO:¬O c) (hp:BV O w ao co pre) (hb:pre.length+(colBytes K l).length≤1099511627776):
 Calls Tryz.prog 118 #[.int .i64 K, .slice b l.length cb, .pointer (some ⟨c,0,none⟩)] w fun e w' =>∃a' c',e= .returned (.tuple #[])∧Fr (fun k=>k=c∨O k) w w' ∧
  w'.heap[c]? =some (.cells #[.slice a' (pre++colBytes K l).length c'] 27 (0,0))∧BV (grow O w w') w' a' c' (pre++colBytes K l):=by
 have hw:=colWrite_any S w K b cb l hl hS hl2 hL
 have hcw:c<w.heap.size:=heap_lt hc
 generalize colBytes K l=x at hw hb ⊢
 have HC:=Lib.hid hc
 have HP:=Lib.hid hp
 clear hl hL hc hp
 go_enter Tryz.func118,Tryz.ntmps118
 go_wp2_with fail
 refine hw.mono ?_
 rintro e w1 ⟨a1,c1,rfl,hf1,hv1⟩
 have HC1:=Lib.hid (hf1.heap HC.out id)
 have k1:w1.cell? ⟨c,0,none⟩=some (.slice ao pre.length co):=by have:=cell_of HC1.out 0;simpa using this
 have HV1:=Lib.hid (hv1.src (P:=Tryz.prog) Tryz.underlying27)
 have HP1:=Lib.hid (HP.out.vec.frN hf1)
 have HF1:=Lib.hid hf1
 clear hv1 hf1
 go_wp2_with (at_builtin;refine wpList_append_vec rfl _ _ _ _ rfl rfl HP1.out _ _ _ Tryz.underlying27 inf_u8 rfl _ x.length _ rfl HV1.out (by unfold maxLen;omega) (by omega) ?_)
 intro a6 c6 w6 hv6 hf6 _
 have HC6:=Lib.hid (hf6.heap HC1.out hcO)
 have k6:w6.cell? ⟨c,0,none⟩=some (.slice ao pre.length co):=by have:=cell_of HC6.out 0;simpa using this
 have z6:=frozen_of HC6.out 0
 have HV6:=Lib.hid hv6
 have HF6:=Lib.hid hf6
 clear hv6 hf6 k1
 go_wp2_with fail
 go_end0
 have hs1:=HF1.out.size
 have hs6:=HF6.out.size
 refine ⟨a6,c6,rfl,?_,?_,?_⟩
 · have h1:Fr (fun k=>k=c∨O k) w w6:=HF1.out.any.trans' (HF6.out.mono (fun k _ h=>Or.inr h))
   exact h1.setCell (p:=⟨c,0,none⟩) (Or.inl (Or.inl rfl)) _
 · have:=heap_set HC6.out 0 (.slice a6 (pre.length+x.length) c6)
   rw[List.length_append]
   simpa using this
 · unfold BV
   rw[List.length_append,bv_append]
   have hg:∀k,grow O w1 w6 k→grow O w w6 k:=fun k h=>h.elim Or.inl (fun h=>Or.inr ⟨by omega,h.2⟩)
   have hfs:Fr (fun k=>k=c) w6 (w6.setCell ⟨c,0,none⟩ (.slice a6 (pre.length+x.length) c6)):=(Fr.self c w6).set1 0 _
   exact ((HV6.out.mono hg).fr hfs (fun k hk e=>by subst e;exact hk.elim hcO (fun h=>by omega))).mono (fun k hk=>hk.elim Or.inl (fun h=>Or.inr ⟨h.1,Nat.lt_of_lt_of_le h.2 hfs.size⟩))
theorem made_two (a b:Value):∀n,(madeCells #[a,b] (n*2)).toList=(List.replicate n [a,b]).flatten:=by
 intro n
 have h:∀n,(List.range (n*2)).map (fun i=>if i%2=0 then a else b)=(List.replicate n [a,b]).flatten:=by
  intro n
  induction n with
  | zero=>rfl
  | succ n ih=>
    rw[show (n+1)*2=n*2+1+1 by omega,List.range_succ,List.range_succ,List.map_append,List.map_append,ih,List.replicate_succ',List.flatten_append]
    simp
 rw[←h n]
 unfold madeCells
 rw[Array.toList_map,Array.toList_range]
 apply List.map_congr_left
 intro i _
 show #[a,b][i%2]! =_
 rcases Nat.mod_two_eq_zero_or_one i with h | h
 · rw[h];rfl
 · rw[h];rfl
theorem run_made_cels (n:Nat) (hn:n≤1048576) (w:World):(Instr.makeSlice 64 (.int .i64 (n:Int)) (.int .i64 (n:Int))).run Tryz.prog w= .ok (.slice (some ⟨w.heap.size,0,none⟩) n n) (w.alloc (.cells (madeCells #[.int .u64 0, .string ⟨#[]⟩] (n*2)) 74)):=by
 obtain ⟨i,hi,hz,hsize,hby⟩:=info_parts inf_Cell
 have h:=run_make (P:=Tryz.prog) w 64 74 i _ Tryz.underlying64 hi hz .i64 .i64 n n (by omega) (by omega) (by rw[hby];omega) (by omega)
 rw[hsize,Int.toNat_natCast] at h
 exact h
theorem made_cels (n:Nat) (hn:n≤1048576) (w:World):SV rCel 2 (fun k=>k=w.heap.size) (w.alloc (.cells (madeCells #[.int .u64 0, .string ⟨#[]⟩] (n*2)) 74)) (some ⟨w.heap.size,0,none⟩) n (List.replicate n default):=by
 have h:=Vec.newrow w (madeCells #[.int .u64 0, .string ⟨#[]⟩] (n*2)) 74 (size:=2) (n:=n) (by rw[size_madeCells]) (by unfold maxLen;omega) (by
  rw[made_two]
  intro u hu
  obtain ⟨l,hl,hu⟩:=List.mem_flatten.1 hu
  rw[List.eq_of_mem_replicate hl] at hu
  simp at hu
  rcases hu with rfl | rfl<;>rfl)
 rw[made_two] at h
 refine vec_cels ?_ (fun c hc=>?_)
 · rw[List.length_replicate]
   have e:(List.replicate n (default:Cel)).flatMap celCells=(List.replicate n [Value.int .u64 0, .string ⟨#[]⟩]).flatten:=by
    rw[List.flatMap_def,List.map_replicate];rfl
   rw[e]
   exact h.mono (fun k hk=>by have h1:=hk.1;have h2:=hk.2;simp at h2;omega)
 · rw[List.eq_of_mem_replicate hc];exact ⟨by show 0<18446744073709551616;omega,by show 0≤lim;omega⟩
theorem wTexts_len:∀(l:List Cel) (last:List UInt8),last.length≤256→(∀c∈l,c.text.length≤256)→(wTexts last l).length≤276*l.length
 | [],_,_,_=>by simp[wTexts]
 | c::l,last,h,hl=>by
   have hc:=hl c (by simp)
   have h1:=wTexts_len l c.text hc (fun x hx=>hl x (List.mem_cons_of_mem _ hx))
   have h2:=(shared_le last c.text).1
   have h3:=uv_len10 (x:=shared last c.text) (by omega)
   have h4:(lenBytes (c.text.drop (shared last c.text))).length≤266:=lenBytes_le256 (by rw[List.length_drop];omega)
   simp only[wTexts,List.length_append,List.length_cons];omega
theorem wKind_len {k:Int} {l:List Cel} (h:CellsOf k l):(wKind k l).length≤276*l.length:=by
 unfold wKind
 split
 · have:=wBehind_len l 0;unfold wSigned;omega
 · split
   · cases l with
     | nil=>simp[wNumbers]
     | cons c l=>
       have h1:=uv_len10 (h c (by simp)).2
       have h2:=wBehind_len l c.num
       simp only[wNumbers,List.length_append,List.length_cons];omega
   · split
     · unfold wBools;rw[List.length_map,List.length_range];omega
     · exact wTexts_len l [] (by simp) (fun c hc=>(check_parts (h c hc).1).2.2.2.2.2)
theorem colBytes_of {k:Int} {l:List Cel} (hk:cellKind k=true) (h:CellsOf k l):colErr k l=0∧colBytes k l=wKind k l:=by
 have he:colErr k l=0:=by unfold colErr;rw[hk,if_neg (by simp)];exact cells_go h
 exact ⟨he,by unfold colBytes;rw[if_pos he]⟩
theorem cells_at {s:List Col} {a:List Pr} (hz:zCheck s a=0) (hok:PrOk a) {j:Nat} {c:Col} (hc:s[j]? =some c):CellsOf c.kind (colAt a j):=by
 intro x hx
 obtain ⟨p,hp,rfl⟩:=List.mem_map.1 hx
 obtain ⟨_,h1,h2⟩:=rowCheck_zero (zGo_rows (zCheck_len hz).2.2 p hp).1
 have hj:j<p.row.length:=by rw[h1];exact (List.getElem?_eq_some_iff.1 hc).1
 refine ⟨(rowGo_iff h1).1 h2 j c hc,?_⟩
 have:=(hok p hp).2 (p.row[j]) (List.getElem_mem hj)
 simpa [hj] using this
theorem wCols_snoc (a:List Pr) (c:Col):∀(s:List Col) (j:Nat),wCols (s++[c]) j a=wCols s j a++wKind c.kind (colAt a (j+s.length))
 | [],j=>by simp[wCols]
 | d::s,j=>by
   simp only[List.cons_append,wCols,wCols_snoc a c s (j+1),List.length_cons,List.append_assoc]
   rw[show j+1+s.length=j+(s.length+1) by omega]
theorem wCols_succ {s:List Col} {k:Nat} (h:k<s.length) (a:List Pr):wCols (s.take (k+1)) 0 a=wCols (s.take k) 0 a++wKind s[k].kind (colAt a k):=by
 rw[List.take_succ_eq_append_getElem h,wCols_snoc,List.length_take,Nat.zero_add,Nat.min_eq_left (by omega)]
theorem wCols_len {s:List Col} {a:List Pr} (hz:zCheck s a=0) (hok:PrOk a):∀k,k≤s.length→(wCols (s.take k) 0 a).length≤276*a.length*k
 | 0,_=>by simp[wCols]
 | k+1,h=>by
   have ih:=wCols_len hz hok k (by omega)
   have h1:=wKind_len (cells_at hz hok (List.getElem?_eq_getElem (show k<s.length by omega)))
   have h2:(colAt a k).length=a.length:=by simp[colAt]
   rw[h2] at h1
   rw[wCols_succ (by omega),List.length_append,Nat.mul_succ];omega
theorem cels_len (d:List Cel):(d.flatMap celCells).length=d.length*2:=by
 induction d with
 | nil=>rfl
 | cons e d ih=>simp only[List.flatMap_cons,List.length_append,List.length_cons,ih,show (celCells e).length=2 from rfl];omega
theorem cels_set (d:List Cel) (i:Nat) (e:Cel):(d.set i e).flatMap celCells=((d.flatMap celCells).set (i*2) (.int .u64 e.num)).set (i*2+1) (.string (bs e.text)):=by
 induction d generalizing i with
 | nil=>simp
 | cons x d ih=>
   cases i with
   | zero=>simp[celCells]
   | succ i=>
     simp only[List.set_cons_succ,List.flatMap_cons]
     have hx:(celCells x).length=2:=rfl
     rw[ih,List.set_append_right _ _ (by omega),List.set_append_right _ _ (by omega),hx,show (i+1)*2 - 2=i*2 by omega,show (i+1)*2+1 - 2=i*2+1 by omega]
theorem cels_put {S:Nat→Prop} {w:World} {b off cap:Nat} {xs:List Cel} (h:SV rCel 2 S w (some ⟨b,off,none⟩) cap xs) {i:Nat} (hi:i<xs.length) {y:Cel} (hy:CelFit y):
 SV rCel 2 S ((w.setCell ⟨b,off+i*2,none⟩ (.int .u64 y.num)).setCell ⟨b,off+i*2+1,none⟩ (.string (bs y.text))) (some ⟨b,off,none⟩) cap (xs.set i y)∧
  Fr S w ((w.setCell ⟨b,off+i*2,none⟩ (.int .u64 y.num)).setCell ⟨b,off+i*2+1,none⟩ (.string (bs y.text))):=by
 obtain ⟨hv,hf⟩:=cels_vec h
 obtain ⟨h1,f1⟩:=hv.set (j:=i*2) (by omega) (u:= .int .u64 y.num) rfl
 obtain ⟨h2,f2⟩:=h1.set (j:=i*2+1) (by omega) (u:= .string (bs y.text)) rfl
 rw[←cels_set,←Nat.add_assoc] at h2
 rw[←Nat.add_assoc] at f2
 refine ⟨vec_cels ?_ (fun c hc=>?_),f1.trans' f2⟩
 · rw[List.length_set];exact h2
 · rcases List.mem_or_eq_of_mem_set hc with hc | rfl
   · exact hf c hc
   · exact hy
theorem cels_room {S:Nat→Prop} {w:World} {b off cap:Nat} {xs:List Cel} (h:SV rCel 2 S w (some ⟨b,off,none⟩) cap xs) {i:Nat} (hi:i<xs.length):
 (∃v,w.cell? ⟨b,off+i*2,none⟩=some v)∧(∃v,w.cell? ⟨b,off+i*2+1,none⟩=some v)∧w.frozen? ⟨b,off+i*2,none⟩=false∧w.frozen? ⟨b,off+i*2+1,none⟩=false∧S b:=by
 obtain ⟨hv,_⟩:=cels_vec h
 have hle:=hv.le
 obtain ⟨b',off',e,hS,r1,r2,_⟩:=hv.addr (by omega)
 cases e
 exact ⟨r1 _ (by omega),by rw[Nat.add_assoc];exact r1 _ (by omega),r2 _ (by omega),by rw[Nat.add_assoc];exact r2 _ (by omega),hS⟩
def fillTo (xs:List Cel) (i:Nat):List Cel:=xs.take i++List.replicate (xs.length - i) default
theorem fillTo_len {xs:List Cel} {i:Nat} (h:i≤xs.length):(fillTo xs i).length=xs.length:=by simp[fillTo];omega
theorem fillTo_set {xs:List Cel} {i:Nat} (h:i<xs.length):(fillTo xs i).set i xs[i]=fillTo xs (i+1):=by
 unfold fillTo
 have hl:(xs.take i).length=i:=by rw[List.length_take];omega
 rw[List.set_append_right _ _ (by omega),hl,Nat.sub_self,List.take_succ_eq_append_getElem h,show xs.length - i=(xs.length - (i+1))+1 by omega,List.replicate_succ,List.set_cons_zero,List.append_assoc]
 rfl
theorem fillTo_zero (xs:List Cel):fillTo xs 0=List.replicate xs.length default:=by simp[fillTo]
theorem fillTo_all (xs:List Cel):fillTo xs xs.length=xs:=by simp[fillTo]
def EachOut (w:World) (c:Nat) (O:Nat→Prop) (x:List UInt8) (w' :World):Prop:=
 ∃(O' :Nat→Prop) (a' :Option Addr) (c' :Nat),w'.heap[c]? =some (.cells #[.slice a' x.length c'] 27 (0,0))∧BV O' w' a' c' x∧¬O' c∧Ev w (fun k=>k=c∨O k) w' (fun k=>k=c∨O' k)
set_option maxRecDepth 100000 in
set_option maxHeartbeats 16000000 in
theorem eachW_any (O:Nat→Prop) (w:World) (a b:Option Addr) (ca cb:Nat) (s:List Col) (l:List Pr) (c:Nat) (ao:Option Addr) (co:Nat) (pre:List UInt8)
 (hs:SV rCol 2 (free w (fun k=>k=c∨O k)) w a ca s) (hl:SV rPr 2 (free w (fun k=>k=c∨O k)) w b cb l) (hz:zCheck s l=0) (hok:PrOk l)
 (hc:w.heap[c]? =some (.cells #[.slice ao pre.length co] 27 (0,0))) (hO:∀k,O k→k<w.heap.size) (hcO:¬O c) (hp:BV O w ao co pre) (hpl:pre.length≤100) (hL:∀u,Fr (fun k=>k=c∨O k) w u→Laid u):
 Calls Tryz.prog 117 #[.slice a s.length ca, .slice b l.length cb, .func (.func 118) #[] #[.pointer (some ⟨c,0,none⟩)]] w fun e w' =>e= .returned (.tuple #[])∧EachOut w c O (pre++wCols s 0 l) w' :=by
 have hlt0:∀k,k=c∨O k→k<w.heap.size:=fun k hk=>hk.elim (fun h=>h ▸ heap_lt hc) (hO k)
 have HS:=Lib.hid (SV.keep rCol_ok hs)
 clear hs
 have HL:=Lib.hid (SV.keep rPr_ok hl)
 clear hl
 have HLA:=Lib.hid hL
 have HC:=Lib.hid hc
 have HP:=Lib.hid hp
 have HZ:=Lib.hid (⟨hz,hok⟩:_∧_)
 have HO:=Lib.hid hcO
 obtain ⟨h0,hl1024,hgo⟩:=zCheck_len hz
 have hs32:=(schemaCheck_le h0).2
 clear hL hc hp hcO hgo h0
 go_enter Tryz.func117,Tryz.ntmps117
 go_wp2_with fail
 go_loopw [13] (fun v13 wr=>∃(k:Nat) (O' :Nat→Prop) (a' :Option Addr) (c' :Nat),v13= .int .i64 k∧k≤s.length∧wr.heap[c]? =some (.cells #[.slice a' (pre++wCols (s.take k) 0 l).length c'] 27 (0,0))∧BV O' wr a' c' (pre++wCols (s.take k) 0 l)∧¬O' c∧Ev w (fun k=>k=c∨O k) wr (fun k=>k=c∨O' k)) (fun v13 _=>s.length - (intOf v13).toNat)
 case atStart=>exact ⟨0,O,ao,co,rfl,Nat.zero_le _,by simpa [wCols] using HC.out,by simpa [wCols] using HP.out,HO.out,Ev.refl hlt0⟩
 case round=>
  obtain ⟨k,O',a',c',rfl,hk,hbox,hbv,hcO',hev⟩:=hrel
  have HEV:=Lib.hid hev
  have HBOX:=Lib.hid hbox
  have HBV:=Lib.hid hbv
  have HO' :=Lib.hid hcO'
  clear hev hbox hbv hcO'
  by_cases hlt:k<s.length
  · obtain ⟨b1,off,rfl,_,hk64,hnl,c0,c1⟩:=col_at (HS.out _ _ HEV.out) hlt
    have hcells:=cells_at HZ.out.1 HZ.out.2 (List.getElem?_eq_getElem hlt)
    have hkind:=kinds_of (zCheck_len HZ.out.1).1 s[k] (List.getElem_mem hlt)
    have hsucc:=wCols_succ hlt l
    have hwl:=wCols_len HZ.out.1 HZ.out.2 (k+1) (by omega)
    obtain ⟨hce,hcb⟩:=colBytes_of hkind hcells
    have HX:=Lib.hid (⟨hsucc,hcb⟩:_∧_)
    have hxl:(pre++wCols (s.take k) 0 l).length+(colBytes s[k].kind (colAt l k)).length≤1099511627776:=by
     rw[hcb,List.length_append]
     rw[hsucc,List.length_append] at hwl
     have:276*l.length*(k+1)≤276*1024*32:=Nat.mul_le_mul (by omega) (by omega)
     omega
    have HXL:=Lib.hid hxl
    clear hsucc hwl hcb hce hcells hkind hxl
    have hmk:=fun x=>run_made_cels l.length (by omega) x
    have hcl:(colAt l k).length=l.length:=by simp[colAt]
    obtain ⟨w2,hw2⟩:∃x1,x1=wr.alloc (.cells #[.string (bs s[k].name), .int .i64 s[k].kind] 71 (0,0)):=⟨_,rfl⟩
    obtain ⟨w3,hw3⟩:∃x1,x1=w2.alloc (.cells (madeCells #[.int .u64 0, .string ⟨#[]⟩] (l.length*2)) 74):=⟨_,rfl⟩
    obtain ⟨z2,hz2⟩:∃x1,x1=wr.heap.size:=⟨_,rfl⟩
    have hz3:w2.heap.size=z2+1:=by rw[hw2,hz2];simp
    have hb2:w3.heap[z2]? =some (.cells #[.string (bs s[k].name), .int .i64 s[k].kind] 71 (0,0)):=by
     rw[hw3,hw2,hz2];exact heap_old (heap_new _ _) _
    have hf3:Fr nob wr w3:=by rw[hw3,hw2];exact ((Fr.refl nob wr).alloc _).alloc _
    have hv3:=made_cels l.length (by omega) w2
    rw[←hw3,hz3] at hv3
    have hs3:w3.heap.size=z2+1+1:=by rw[hw3];simp[hz3]
    have HB2:=Lib.hid hb2
    have HV3:=Lib.hid hv3
    have HW3:=Lib.hid hw3
    have HW2:=Lib.hid hw2
    have HZ2:=Lib.hid hz2
    have HS3:=Lib.hid hs3
    have e3:Ev wr (fun k=>k=c∨O' k) w3 (fun j=>(j=c∨O' j)∨j=z2+1):=Ev.more hf3 HEV.out.lt (fun j hj=>by omega)
    have HE3:=Lib.hid e3
    have HF3:=Lib.hid hf3
    clear hb2 hv3 hw3 hw2 hz2 hz3 hf3 e3 hs3
    go_wp2_with fail
    rw[←HW2.out,←HW3.out,←HZ2.out]
    clear c0 c1 hmk
    go_loopw [23] (fun v23 wx=>∃(i:Nat),v23= .int .i64 i∧i≤l.length∧SV rCel 2 (fun j=>j=z2+1) wx (some ⟨z2+1,0,none⟩) l.length (fillTo (colAt l k) i)∧Fr (fun j=>j=z2+1) w3 wx) (fun v23 _=>l.length - (intOf v23).toNat)
    case atStart=>exact ⟨0,rfl,Nat.zero_le _,by rw[fillTo_zero,hcl];exact HV3.out,Fr.refl _ _⟩
    case round=>
     obtain ⟨i,rfl,hi,hfill,hfx⟩:=hrel
     have HFILL:=Lib.hid hfill
     have HEX:=Lib.hid (Ev.turn (hfx.mono (fun k _ h=>Or.inr h)) HE3.out.lt)
     have HFX:=Lib.hid hfx
     clear hfill hfx
     by_cases hilt:i<l.length
     · obtain ⟨b2,off2,ra,rc,rfl,hb2,h64,hrl,hrow,c0,c1⟩:=pr_at (HL.out _ _ (HEV.out.trans (HE3.out.trans HEX.out))) hilt
       have hik:k<l[i].row.length:=by
        have:=(rowCheck_zero (zGo_rows (zCheck_len HZ.out.1).2.2 l[i] (List.getElem_mem hilt)).1).2.1
        omega
       obtain ⟨b3,off3,rfl,hb3,hn64,htl,d0,d1⟩:=cel_at hrow hik
       have hcv:(colAt l k)[i]'(by omega)=l[i].row[k]:=by simp[colAt,hik]
       have hfl:(fillTo (colAt l k) i).length=l.length:=by rw[fillTo_len (by omega)];exact hcl
       have hput:=cels_put HFILL.out (i:=i) (by omega) (y:=l[i].row[k]) ⟨hn64,htl⟩
       have hroom:=cels_room HFILL.out (i:=i) (by omega)
       have hset:=fillTo_set (xs:=colAt l k) (i:=i) (by omega)
       rw[hcv] at hset
       have HSET:=Lib.hid hset
       clear hset hcv hrow hfl
       generalize l[i].row[k]=y at hn64 htl d0 d1 HSET hput
       generalize l[i]=p at h64 hrl c0 c1 d0 d1 hik
       obtain ⟨row,wt⟩:=p
       obtain ⟨yn,yt⟩:=y
       simp only at h64 hrl c0 c1 hik hn64 htl d0 d1 hput
       obtain ⟨x5,hx5⟩:∃x1,x1=wr.alloc (.cells #[.slice (some ⟨b3,off3,none⟩) row.length rc, .int .i64 wt] 66 (0,0)):=⟨_,rfl⟩
       obtain ⟨z5,hz5⟩:∃x1,x1=wr.heap.size:=⟨_,rfl⟩
       have hf5:Fr nob wr x5:=by rw[hx5];exact (Fr.refl nob wr).alloc _
       have e0:=hf5.cell d0 id
       have e1:=hf5.cell d1 id
       obtain ⟨⟨r0,hr0⟩,⟨r1,hr1⟩,f0,f1,_⟩:=cels_room (HFILL.out.fr rCel_ok hf5 (fun _ _=>id)) (i:=i) (by rw[fillTo_len (by omega)];omega)
       have hput5:=cels_put (HFILL.out.fr rCel_ok hf5 (fun _ _=>id)) (i:=i) (by rw[fillTo_len (by omega)];omega) (y:=⟨yn,yt⟩) ⟨hn64,htl⟩
       simp only[Nat.zero_add] at hr0 hr1 f0 f1 hput5
       have HPUT:=Lib.hid (⟨hput5,hf5⟩:_∧_)
       have HX5:=Lib.hid hx5
       have HZ5:=Lib.hid hz5
       have hzne:z5≠z2+1:=by
        have:=(HFX.out).size;have:=HS3.out;omega
       rw[hx5] at e0 e1 hr0 hr1 f0 f1
       clear hput5 hput hroom hf5 hx5 hz5 d0 d1
       go_wp2_with fail
       rw[←HX5.out]
       refine ⟨⟨i+1,by go_num,by omega,?_,?_⟩,by simp[intOf];omega⟩
       · rw[←HSET.out];exact HPUT.out.1.1
       · exact HFX.out.trans' ((HPUT.out.2.any).trans' HPUT.out.1.2)
     · obtain rfl:i=l.length:=by omega
       have hfa:fillTo (colAt l k) l.length=colAt l k:=by rw[←hcl];exact fillTo_all _
       rw[hfa] at HFILL
       have hk2:wr.cell? ⟨z2,1,none⟩=some (.int .i64 s[k].kind):=by
        have:=cell_of (HFX.out.heap HB2.out (fun e=>by omega)) 1
        simpa using this
       have hzc:¬(c=z2+1):=fun e=>by have:=heap_lt HBOX.out;have:=HZ2.out;omega
       have hbx:=HFX.out.heap (HF3.out.heap HBOX.out id) hzc
       have hOz:∀j,O' j→j≠z2+1:=fun j hj e=>by have:=HEV.out.lt j (Or.inr hj);have:=HZ2.out;omega
       have hbv:=(HBV.out.frN HF3.out).fr HFX.out (fun j hj e=>hOz j hj e)
       have hOl:∀j,O' j→j<wr.heap.size:=fun j hj=>((HEV.out.trans (HE3.out.trans HEX.out))).lt j (Or.inl (Or.inr hj))
       have hw1:=batW1_any (fun j=>j=z2+1) O' wr s[k].kind (some ⟨z2+1,0,none⟩) l.length (colAt l k) HFILL.out (fun j hj=>by have:=HFX.out.size;have:=HS3.out;omega) (by omega) (HLA.out wr ((HEV.out.trans (HE3.out.trans HEX.out))).fr)
        c a' c' (pre++wCols (s.take k) 0 l) hbx hOl HO'.out hbv HXL.out
       rw[hcl] at hw1
       have HX2:=Lib.hid (⟨hfa,hOl⟩:_∧_)
       clear hfa hzc hbx hOz hbv hOl
       go_wp2_with fail
       refine hw1.mono ?_
       rintro e w6 ⟨a6,c6,rfl,hf6,hb6,hv6⟩
       have HR6:=Lib.hid (⟨hf6,hb6,hv6⟩:_∧_∧_)
       clear hw1 hf6 hb6 hv6 hk2
       go_wp2_with fail
       go_roundw
       case rel=>
        obtain ⟨hf6,hb6,hv6⟩:=HR6.out
        have hsu:pre++wCols (s.take (k+1)) 0 l=pre++wCols (s.take k) 0 l++colBytes s[k].kind (colAt l k):=by rw[HX.out.1,HX.out.2,List.append_assoc]
        refine ⟨k+1,grow O' wr w6,a6,c6,by go_num,by omega,by rw[hsu];exact hb6,by rw[hsu];exact hv6,?_,?_⟩
        · intro h
          rcases h with h | h
          · exact HO'.out h
          · have:=heap_lt HBOX.out;have:=HZ2.out;have:=HFX.out.size;have:=HS3.out;have:=h.1;omega
        · refine ((HEV.out.trans (HE3.out.trans HEX.out))).trans ⟨hf6.mono (fun j _ h=>Or.inl h),fun j hj=>?_,fun j hj=>?_⟩
          · rcases hj with hj | hj | hj
            · exact Or.inl (Or.inl (Or.inl hj))
            · exact Or.inl (Or.inl (Or.inr hj))
            · exact Or.inr hj.1
          · have:=hf6.size
            rcases hj with hj | hj | hj
            · subst hj;exact heap_lt hb6
            · have:=HX2.out.2 j hj;omega
            · exact hj.2
       case measure=>simp[intOf];omega
  · obtain rfl:k=s.length:=by omega
    rw[List.take_length] at HBOX HBV
    go_wp2_with fail
    go_end0
    exact ⟨rfl,O',a',c',HBOX.out,HBV.out,HO'.out,HEV.out⟩
theorem wWeights_succ {l:List Pr} {k:Nat} (h:k<l.length):wWeights (l.take (k+1))=wWeights (l.take k)++wInt l[k].weight:=by
 unfold wWeights
 rw[List.take_succ_eq_append_getElem h,List.flatMap_append];simp
theorem wWeights_len {l:List Pr} (h:PrOk l):∀k,k≤l.length→(wWeights (l.take k)).length≤10*k
 | 0,_=>by simp[wWeights]
 | k+1,hk=>by
   have ih:=wWeights_len h k (by omega)
   have h1:=wInt_len (h _ (List.getElem_mem (show k<l.length by omega))).1
   rw[wWeights_succ (by omega),List.length_append];omega
def batW (s:List Col) (a:List Pr):List UInt8:=if zCheck s a=0 then wBatch s a else []
theorem batW_ok {s:List Col} {a:List Pr} (h:zCheck s a=0):batW s a=wBatch s a:=if_pos h
theorem batW_no {s:List Col} {a:List Pr} (h:zCheck s a≠0):batW s a=[]:=if_neg h
theorem wBatch_len {s:List Col} {a:List Pr} (hz:zCheck s a=0) (hok:PrOk a):(uv a.length++wCols s 0 a).length≤2260992+10∧(wBatch s a).length≤2271242:=by
 obtain ⟨h0,hl,_⟩:=zCheck_len hz
 have h8:=(schemaCheck_le h0).2
 have h1:=wCols_len hz hok s.length (Nat.le_refl _)
 rw[List.take_length] at h1
 have h2:=wWeights_len hok a.length (Nat.le_refl _)
 rw[List.take_length] at h2
 have h3:=uv_len10 (x:=a.length) (by omega)
 have h4:276*a.length*s.length≤276*1024*8:=Nat.mul_le_mul (by omega) h8
 unfold wBatch
 simp only[List.length_append]
 omega
set_option maxRecDepth 100000 in
set_option maxHeartbeats 16000000 in
theorem batWrite_any (S R:Nat→Prop) (w:World) (a b:Option Addr) (ca cb:Nat) (s:List Col) (l:List Pr) (hs:SV rCol 2 S w a ca s) (hl:SV rPr 2 R w b cb l) (hok:PrOk l) (hL:Laid w) (h0:s.length≤lim) (h1:l.length≤lim)
 (hS:∀k,S k→k<w.heap.size) (hR:∀k,R k→k<w.heap.size):
 Calls Tryz.prog 91 #[.slice a s.length ca, .slice b l.length cb] w fun e w' =>∃a' c',e= .returned (.tuple #[.slice a' (batW s l).length c', .int .i64 (zCheck s l:Nat)])∧Fr nob w w' ∧BV (newb w w') w' a' c' (batW s l):=by
 have hzc:=zcheck_any _ _ w a b ca cb s l hs hl hL h0 h1
 have hs' :=hs.within rCol_ok hS
 have HS:=Lib.hid (SV.keep rCol_ok hs')
 clear hs'
 have hl' :=hl.within rPr_ok hR
 have HL:=Lib.hid (SV.keep rPr_ok hl')
 clear hl'
 have HLA:=Lib.hid (hL.keep)
 clear hs hl hL hS hR h0
 by_cases hz:zCheck s l=0
 · have HE:=Lib.hid (batW_ok hz)
   obtain ⟨hwl,hwl2⟩:=wBatch_len hz hok
   obtain ⟨_,hl1024,_⟩:=zCheck_len hz
   have HZ:=Lib.hid (⟨hz,hok⟩:_∧_)
   rw[HE.out,hz]
   rw[hz] at hzc
   clear hok hz
   have hcu:IntKind.u64.wrap (l.length:Int)=(l.length:Int):=by rw[IntKind.wrap_u64];omega
   have hul:=uv_len10 (x:=l.length) (by omega)
   go_enter Tryz.func91,Tryz.ntmps91
   go_wp2_with fail
   refine (hzc).mono ?_
   rintro e u1 ⟨rfl,hfr⟩
   have E1:=Lib.hid (Ev.of hfr (nob_lt _))
   have G1:=Lib.hid hfr
   clear hfr
   clear hzc
   go_wp2_with fail
   refine (uint_any l.length (by omega) u1).mono ?_
   rintro e u2 ⟨a1,c1,rfl,hfr,hv1⟩
   have E2:=Lib.hid (Ev.of hfr E1.out.lt)
   have G2:=Lib.hid hfr
   clear hfr
   obtain ⟨w3,hw3⟩:∃x1,x1=u2.alloc (.cells #[.slice a1 (uv l.length).length c1] 27 (0,0)):=⟨_,rfl⟩
   obtain ⟨c,hcz⟩:∃x1,x1=(u2).heap.size:=⟨_,rfl⟩
   have hbox:w3.heap[c]? =some (.cells #[.slice a1 (uv l.length).length c1] 27 (0,0)):=by rw[hw3,hcz];exact heap_new _ _
   have hf3:Fr nob u2 w3:=by rw[hw3];exact (Fr.refl nob _).alloc _
   have hs3:w3.heap.size=c+1:=by rw[hw3,hcz];simp
   have hsz:=((E1.out.trans E2.out)).fr.size
   have e3:Ev w nob w3 (fun k=>k=c∨newb u1 u2 k):=(((E1.out.trans E2.out)).trans (Ev.of hf3 (nob_lt _))).born (fun k hk=>by
    have hg:=E1.out.fr.size
    rcases hk with hk | hk
    · omega
    · have h1:=hk.1;have h2:=hk.2;omega)
   have HE3:=Lib.hid e3
   have hO3:∀k,newb u1 u2 k→k<w3.heap.size:=fun k hk=>by have:=hk.2;omega
   have hcO:¬newb u1 u2 c:=fun hk=>by have:=hk.2;omega
   have hp3:=hv1.frN hf3
   have HBX:=Lib.hid (⟨hbox,hp3,hO3,hcO⟩:_∧_∧_∧_)
   have HW3:=Lib.hid hw3
   have HCZ:=Lib.hid hcz
   have hlaid:∀u,Fr (fun k=>k=c∨newb u1 u2 k) w3 u→Laid u:=fun u hu=>by
    have hl0:=HLA.out _ _ (Ev.start w)
    refine hl0.frN (HE3.out.fr.trans hu (fun k hk hb=>?_))
    have hg:=E1.out.fr.size
    rcases hb with hb | hb
    · omega
    · have:=hb.1;omega
   have HLD:=Lib.hid hlaid
   clear hw3 hcz hbox hf3 e3 hO3 hcO hp3 hlaid hv1
   have hea:=eachW_any (newb u1 u2) w3 a b ca cb s l c a1 c1 (uv l.length) (HS.out _ _ HE3.out) (HL.out _ _ HE3.out) HZ.out.1 HZ.out.2 HBX.out.1 HBX.out.2.2.1 HBX.out.2.2.2 HBX.out.2.1 (by omega) HLD.out
   go_wp2_with fail
   rw[←HW3.out,←HCZ.out]
   refine hea.mono ?_
   rintro e w4 ⟨rfl,O4,a4,c4,hb4,hv4,hc4,he4⟩
   have HE4:=Lib.hid he4
   have HB4:=Lib.hid hb4
   have HV4:=Lib.hid hv4
   have HC4:=Lib.hid hc4
   clear hea he4 hb4 hv4 hc4
   go_wp2_with fail
   go_loopw [26] (fun v26 wr=>∃(k:Nat) (O' :Nat→Prop) (a' :Option Addr) (c' :Nat),v26= .int .i64 k∧k≤l.length∧wr.heap[c]? =some (.cells #[.slice a' (uv l.length++wCols s 0 l++wWeights (l.take k)).length c'] 27 (0,0))∧BV O' wr a' c' (uv l.length++wCols s 0 l++wWeights (l.take k))∧¬O' c∧Ev w nob wr (fun k=>k=c∨O' k)) (fun v26 _=>l.length - (intOf v26).toNat)
   case atStart=>exact ⟨0,O4,a4,c4,rfl,Nat.zero_le _,by simpa [wWeights] using HB4.out,by simpa [wWeights] using HV4.out,HC4.out,HE3.out.trans HE4.out⟩
   case round=>
    obtain ⟨k,O',a',c',rfl,hk,hbox,hbv,hcO',hev⟩:=hrel
    have HEV:=Lib.hid hev
    have HBOX:=Lib.hid hbox
    have HBV:=Lib.hid hbv
    have HO' :=Lib.hid hcO'
    clear hev hbox hbv hcO' HB4 HV4 HC4 HBX
    by_cases hlt:k<l.length
    · obtain ⟨b1,off,ra,rc,rfl,_,h64,hrl,_,c0,c1⟩:=pr_at (HL.out _ _ HEV.out) hlt
      have hsu:=wWeights_succ hlt
      have hwk:=wWeights_len HZ.out.2 (k+1) (by omega)
      rw[hsu] at hwk
      have hplen:(uv l.length++wCols s 0 l++wWeights (l.take k)).length≤2260992+10+10240:=by
       rw[List.length_append]
       rw[List.length_append] at hwk
       omega
      have HSU:=Lib.hid (show uv l.length++wCols s 0 l++wWeights (l.take (k+1))=uv l.length++wCols s 0 l++wWeights (l.take k)++wInt l[k].weight by rw[hsu,List.append_assoc (uv l.length++wCols s 0 l)])
      have hil:(wInt l[k].weight).length≤10:=wInt_len h64
      clear hsu hwk
      generalize uv l.length++wCols s 0 l++wWeights (l.take k)=pre at HBOX HBV HSU hplen
      generalize l[k]=p at h64 hrl c0 c1 HSU hil
      obtain ⟨row,wt⟩:=p
      simp only at h64 hrl c0 c1 HSU hil
      obtain ⟨w5,hw5⟩:∃x1,x1=wr.alloc (.cells #[.slice ra row.length rc, .int .i64 wt] 66 (0,0)):=⟨_,rfl⟩
      obtain ⟨z,hz⟩:∃x1,x1=wr.heap.size:=⟨_,rfl⟩
      have hB:=heap_new wr (.cells #[.slice ra row.length rc, .int .i64 wt] 66 (0,0))
      have hf5:Fr nob wr w5:=by rw[hw5];exact (Fr.refl nob wr).alloc _
      have hs5:w5.heap.size=z+1:=by rw[hw5,hz];simp
      rw[←hw5,←hz] at hB
      have hzO:¬O' z:=fun h=>by have:=HEV.out.lt z (Or.inr h);omega
      have hbox5:=hf5.heap HBOX.out id
      have q7:∀y,Fr (fun j=>O' j) w5 y→y.cell? ⟨c,0,none⟩=some (.slice a' pre.length c'):=fun y hy=>by have:=cell_of (hy.heap hbox5 HO'.out) 0;simpa using this
      have qz:∀y,Fr (fun j=>O' j) w5 y→y.cell? ⟨z,1,none⟩=some (.int .i64 wt):=fun y hy=>by have:=cell_of (hy.heap hB hzO) 1;simpa using this
      have HF5:=Lib.hid (⟨hf5,hs5,hbox5⟩:_∧_∧_)
      clear hB hf5 hs5 hbox5
      go_wp2_with fail
      rw[←hz,←hw5]
      clear hw5 hz c0 c1
      have E3:=Lib.hid (Ev.of HF5.out.1 HEV.out.lt)
      have G3:=Lib.hid HF5.out.1
      refine wp_region_ord2 5 [(0,true),(1,true),(2,true),(3,false),(4,false)] [(5,false)] (Fr (fun j=>O' j) w5) rfl (by kernel_rfl) (by kernel_rfl) (by kernel_rfl) (by decide) (fun c a d v w h=>by cases d<;>exact h) ((Fr.refl _ w5).drew) (fun ops hops hS=>?_)
      repeat (apply wpOrdB_free _ _ (by rw[hops.out];rfl) (by first | exact Wants.plain rfl | exact Wants.yes rfl (by rw[hops.out];rfl) rfl rfl);(focus (intro x hx;go_simp;rfl));go_simp)
      refine wpOrdB_act _ (by rw[hops.out];rfl) (by first | exact Wants.plain rfl | exact Wants.yes rfl (by rw[hops.out];rfl) rfl rfl) (fun K hK=>?_)
      go_wp2_with fail
      refine (wireInt_any wt h64 _).mono ?_
      rintro e u6 ⟨a6,c6,rfl,hf6,hv6⟩
      have g6:Fr (fun j=>O' j) w5 u6:=(Fr.refl _ w5).drew.andN hf6
      refine hK _ _ ⟨_,fun _ h=>h,g6,?_⟩
      clear hK
      go_simp
      repeat (apply wpOrdB_free _ _ (by rw[hops.out];rfl) (by first | exact Wants.plain rfl | exact Wants.yes rfl (by rw[hops.out];rfl) rfl rfl);(focus (intro x hx;go_simp;rfl));go_simp)
      refine wpOrdB_act _ (by rw[hops.out];rfl) (by first | exact Wants.plain rfl | exact Wants.yes rfl (by rw[hops.out];rfl) rfl rfl) (fun K hK=>?_)
      refine wp_append_vec _ _ _ _ rfl rfl ((HBV.out.vec.frN HF5.out.1).frN ((Fr.refl nob w5).drew.andN hf6)) _ _ _ Tryz.underlying27 inf_u8 rfl _ (wInt wt).length _ rfl (hv6.src Tryz.underlying27) (by unfold maxLen;omega) (by omega) ?_
      intro a7 c7 w7 hv7 hf7 _
      have g7:Fr (fun j=>O' j) w5 w7:=g6.trans' hf7
      refine hK _ _ ⟨_,fun _ h=>h,g7,?_⟩
      clear hK
      go_simp
      repeat (apply wpOrdB_free _ _ (by rw[hops.out];rfl) (by first | exact Wants.plain rfl | exact Wants.yes rfl (by rw[hops.out];rfl) rfl rfl);(focus (intro x hx;go_simp;rfl));go_simp)
      refine wpOrdB_nil (fun _=>True) trivial ?_
      have hb7:=g7.heap HF5.out.2.2 HO'.out
      have z7:=frozen_of hb7 0
      have k7:=q7 w7 g7
      have h6s:=g6.size
      have HV7:=Lib.hid (⟨hv7,g7,hb7,h6s⟩:_∧_∧_∧_)
      clear hv7 g7 hb7 q7 qz hf7 hf6 hv6 g6 hS h6s
      refine oA hops (by rfl) (by first | exact .plain rfl | exact .y hops rfl rfl rfl rfl) (fun K hK=>?_)
      go_wp2_with fail
      refine ⟨_,fun _ h=>h,trivial,wpOrd_nil ?_⟩
      have hf8:Fr (fun j=>j=c) w7 (w7.setCell ⟨c,0,none⟩ (.slice a7 (pre.length+(wInt wt).length) c7)):=(Fr.self c w7).set1 0 _
      have hb8:(w7.setCell ⟨c,0,none⟩ (.slice a7 (pre.length+(wInt wt).length) c7)).heap[c]? =some (.cells #[.slice a7 (pre.length+(wInt wt).length) c7] 27 (0,0)):=by
       have:=heap_set HV7.out.2.2.1 0 (.slice a7 (pre.length+(wInt wt).length) c7)
       simpa using this
      obtain ⟨w8,hw8⟩:∃x1,x1=w7.setCell ⟨c,0,none⟩ (.slice a7 (pre.length+(wInt wt).length) c7):=⟨_,rfl⟩
      rw[←hw8] at hf8 hb8 ⊢
      have HF8:=Lib.hid (⟨hf8,hb8⟩:_∧_)
      clear hw8 hf8 hb8 k7 z7
      go_wp2_with fail
      go_roundw
      case rel=>
       obtain ⟨hv7,g7,hb7,h6s⟩:=HV7.out
       obtain ⟨hf8,hb8⟩:=HF8.out
       have hcs:c<w5.heap.size:=heap_lt HF5.out.2.2
       have hgc:¬grow O' u6 w7 c:=fun h=>h.elim HO'.out (fun h=>by omega)
       refine ⟨k+1,grow O' u6 w7,a7,c7,by go_num,by omega,?_,?_,hgc,?_⟩
       · rw[HSU.out,List.length_append];exact hb8
       · rw[HSU.out]
         unfold BV
         rw[List.length_append,bv_append]
         exact hv7.fr hf8 (fun k hk e=>hgc (e ▸ hk))
       · have e5:=((HEV.out.trans E3.out))
         have e7:Ev w5 (fun k=>k=c∨O' k) w8 (fun k=>k=c∨grow O' u6 w7 k):=by
          refine ⟨(g7.mono (fun k _ h=>Or.inr h)).trans hf8 (fun k _ h=>Or.inl h),fun k hk=>?_,fun k hk=>?_⟩
          · rcases hk with hk | hk | hk
            · exact Or.inl (Or.inl hk)
            · exact Or.inl (Or.inr hk)
            · exact Or.inr (Nat.le_trans h6s hk.1)
          · have:=hf8.size
            have:=g7.size
            rcases hk with hk | hk | hk
            · omega
            · have:=e5.lt k (Or.inr hk);omega
            · have:=hk.2;omega
         exact e5.trans e7
      case measure=>simp[intOf];omega
    · obtain rfl:k=l.length:=by omega
      rw[List.take_length] at HBOX HBV
      have hcell:=cell_of HBOX.out 0
      simp only[List.getElem?_toArray,List.getElem?_cons_zero] at hcell
      have HW:=Lib.hid (show wBatch s l=uv l.length++wCols s 0 l++wWeights l from rfl)
      rw[←HW.out] at hcell HBV
      go_wp2_with fail
      go_ret2
      exact ⟨a',c',rfl,(HEV.out).toN,HBV.out.mono (fun k hk=>(HEV.out).news k (Or.inr hk))⟩
 · have HE:=Lib.hid (batW_no hz)
   have d1:=intne hz
   rw[HE.out]
   generalize zCheck s l=zc at hzc d1
   go_enter Tryz.func91,Tryz.ntmps91
   go_wp2_with fail
   refine (hzc).mono ?_
   rintro e u4 ⟨rfl,hfr⟩
   have E4:=Lib.hid (Ev.of hfr (nob_lt _))
   have G4:=Lib.hid hfr
   clear hfr
   go_wp2_with fail
   go_ret2
   exact ⟨none,0,rfl,(E4.out).toN,BV.nil _ _⟩
end Go.Proofs.YtibpkfnfcdbiiaaGreatDoor
