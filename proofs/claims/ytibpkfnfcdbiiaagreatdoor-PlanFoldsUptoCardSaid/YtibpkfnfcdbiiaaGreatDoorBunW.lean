/- What an encoding's beginning is. No program in sight. Plain laws of traces run through: what a trace's changes leave, and a snapshot behind. What is written is read back. No program in sight. A set of pairs is no longer than they are. No program in sight. How many bytes a set has, at most. A small set's entry has no error. No program in sight. The document's example, in memory; what Apply does to sets. The places of a trace that was written: numbers, offsets, prints. No program in sight. -/
import Derived.Test.YtibpkfnfcdbiiaaGreatDoorBunT
import Derived.Test.YtibpkfnfcdbiiaaGreatDoorBunV
import Derived.Test.YtibpkfnfcdbiiaaGreatDoorBunI
import Derived.Test.YtibpkfnfcdbiiaaGreatDoorBunQ
import Derived.Test.YtibpkfnfcdbiiaaGreatDoorEntryW
import Derived.Test.YtibpkfnfcdbiiaaGreatDoorEvA
import Derived.Test.YtibpkfnfcdbiiaaGreatDoorBunH
namespace Go.Proofs.YtibpkfnfcdbiiaaGreatDoor
set_option linter.unusedSimpArgs false
open Go.RowKit
set_option linter.unusedVariables false
theorem encF_zero {s:List Col} {l:List Ent} (h:(encF s l).1=0):schemaCheck s=0∧encF s l=encGo s .zero (headBytes s) 0 l:=by
 unfold encF at h ⊢
 by_cases hs:schemaCheck s=0
 · rw[if_pos hs];exact ⟨hs,rfl⟩
 · rw[if_neg hs] at h;exact absurd h hs
theorem encF_n {s:List Col} {l:List Ent} (h:(encF s l).1=0):(encF s l).2.1=l.length:=by
 obtain ⟨_,e⟩:=encF_zero h
 rw[e] at h ⊢
 have:=(encGo_n s l .zero (headBytes s) 0).2.2 h
 omega
theorem encF_take {s:List Col} {l:List Ent} (h:(encF s l).1=0) (i:Nat):(encF s (l.take i)).1=0∧∃d,(encF s l).2.2.1=(encF s (l.take i)).2.2.1++d:=by
 obtain ⟨hs,e⟩:=encF_zero h
 have ei:encF s (l.take i)=encGo s .zero (headBytes s) 0 (l.take i):=by unfold encF;rw[if_pos hs]
 rw[e] at h ⊢
 rw[ei]
 have ha:=encGo_append s (l.drop i) (l.take i) .zero (headBytes s) 0
 rw[List.take_append_drop] at ha
 by_cases h0:(encGo s .zero (headBytes s) 0 (l.take i)).1=0
 · rw[if_pos h0] at ha
   refine ⟨h0,?_⟩
   rw[ha] at h ⊢
   obtain ⟨d,hd,_⟩:=encGo_bytes s _ _ _ _ h
   exact ⟨d,hd⟩
 · rw[if_neg h0] at ha
   rw[ha] at h
   exact absurd h h0
theorem encF_head {s:List Col} {l:List Ent} (h:(encF s l).1=0):∃d,(encF s l).2.2.1=headBytes s++d:=by
 obtain ⟨hs,e⟩:=encF_zero h
 rw[e] at h ⊢
 obtain ⟨d,hd,_⟩:=encGo_bytes s _ _ _ _ h
 exact ⟨d,hd⟩
theorem encGo_len (s:List Col):∀(l:List Ent) (t:TSt) (b:List UInt8) (n:Nat),(encGo s t b n l).2.2.1.length≤b.length+l.length*1048591
 | [],_,b,_=>by simp[encGo]
 | x::r,t,b,n=>by
   simp only[encGo]
   split
   · split
     · have:=encGo_len s r (takeF s t x).2 (b++entryBy s x.kind x.seq x.prs) (n+1)
       have:=entryBy_len s x.kind x.seq x.prs
       rw[List.length_append] at*
       simp only[List.length_cons]
       omega
     · simp
   · simp
theorem encF_len (s:List Col) (l:List Ent):(encF s l).2.2.1.length≤2000+l.length*1048591:=by
 unfold encF
 split
 · rename_i h
   have:=encGo_len s l .zero (headBytes s) 0
   have:=headBytes_len h
   omega
 · simp
def dels:List Ent→List Pr
 | []=>[]
 | x::l=>(if x.kind=0 then x.prs else [])++dels l
def cnt:List Ent→Nat
 | []=>0
 | x::l=>(if x.kind=0 then 1 else 0)+cnt l
theorem dels_append (a b:List Ent):dels (a++b)=dels a++dels b:=by
 induction a with
 | nil=>rfl
 | cons x a ih=>simp only[List.cons_append,dels,ih,List.append_assoc]
theorem cnt_append (a b:List Ent):cnt (a++b)=cnt a+cnt b:=by
 induction a with
 | nil=>simp[cnt]
 | cons x a ih=>simp only[List.cons_append,cnt,ih];omega
theorem dels_take {l:List Ent} {k:Nat} (h:k<l.length):dels (l.take (k+1))=dels (l.take k)++(if l[k].kind=0 then l[k].prs else []):=by
 rw[List.take_succ_eq_append_getElem h,dels_append];simp[dels]
theorem cnt_take {l:List Ent} {k:Nat} (h:k<l.length):cnt (l.take (k+1))=cnt (l.take k)+(if l[k].kind=0 then 1 else 0):=by
 rw[List.take_succ_eq_append_getElem h,cnt_append];simp[cnt]
theorem dels_le (l:List Ent):(dels l).length≤(l.flatMap (·.prs)).length:=by
 induction l with
 | nil=>simp[dels]
 | cons x l ih=>
   simp only[dels,List.flatMap_cons,List.length_append]
   split
   · omega
   · rw[List.length_nil];omega
theorem cnt_le (l:List Ent):cnt l≤l.length:=by
 induction l with
 | nil=>simp[cnt]
 | cons x l ih=>simp only[cnt,List.length_cons];split<;>omega
theorem run_law {s:List Col}:∀{l:List Ent} {t t' :TSt} {n m:Nat},(∀x∈l,PrOk x.prs)→TOk s t→runGo s t n l=(0,m,t')→TOk s t' ∧t'.m=t.m+l.length∧t'.q=t.q+cnt l∧rowsCheck s (dels l)=0∧∀row,wt t'.l row=wt t.l row+wt (dels l) row
 | [],t,t',n,m,_,hok,h=>by
   simp only[runGo,Prod.mk.injEq] at h
   obtain ⟨_,_,rfl⟩:=h
   refine ⟨hok,by simp,by simp[cnt],rfl,fun row=>by simp[dels,wt]⟩
 | x::l,t,t',n,m,hp,hok,h=>by
   simp only[runGo] at h
   by_cases h0:(takeF s t x).1=0
   · rw[if_pos h0] at h
     have hx:=hp x (by simp)
     obtain ⟨h1,h2,h3,h4,h5⟩:=run_law (fun y hy=>hp y (List.mem_cons_of_mem _ hy)) (takeF_ok hok hx) h
     obtain ⟨hm,hc,hmm,hk⟩:=takeF_zero hok hx h0
     refine ⟨h1,by rw[h2,hmm,List.length_cons];omega,?_,?_,?_⟩
     · rw[h3]
       simp only[cnt]
       rcases hk with ⟨k1,_,_,k4,_⟩ | ⟨k1,_,k3,_⟩
       · rw[k4,if_neg (by omega)];omega
       · rw[k3,if_pos k1];omega
     · simp only[dels]
       rcases hk with ⟨k1,_,_,k4,_⟩ | ⟨k1,_,_,k4⟩
       · rw[if_neg (by omega)];exact h4
       · rw[if_pos k1]
         obtain ⟨_,hr,_⟩:=collected_zero k4
         exact rowsCheck_append (rowsCheck_of (fun p hp=>rowsCheck_all hr p (List.mem_append.2 (Or.inr hp)))) h4
     · intro row
       rw[h5]
       simp only[dels]
       rcases hk with ⟨k1,_,_,_,k5⟩ | ⟨k1,_,_,k4⟩
       · rw[k5,if_neg (by omega)];rfl
       · rw[if_pos k1]
         obtain ⟨_,_,_,_,hw⟩:=collected_zero k4
         rw[hw,wt_append,wt_append]
         omega
   · rw[if_neg h0] at h
     exact absurd (congrArg Prod.fst h) h0
theorem take_snap {s:List Col} {t:TSt} (h0:schemaCheck s=0) (hok:TOk s t) (hm:t.m<4096):takeF s t ⟨1,t.q,t.l⟩=(0,⟨t.q,t.l,t.m+1⟩):=by
 have hz:=of_canon h0 hok.can hok.len
 have hc:entryCheck s 1 t.q t.l=0:=by
  unfold entryCheck
  rw[if_neg (by omega),if_neg (by omega),if_neg (by have:=hok.q;omega)]
  exact hz
 have ha:Applied s t.q t.l 1 t.q t.l t.q t.l 0:=by
  unfold Applied
  rw[if_neg (by omega),if_neg (by have:=hok.q;omega),if_neg (by omega),if_pos rfl,if_neg (by simp),if_pos rfl]
  exact ⟨rfl,rfl,rfl⟩
 have hF:=applyF_of (x:=⟨1,t.q,t.l⟩) ha
 unfold takeF
 rw[if_neg (by omega),hF,if_pos rfl]
theorem entryErr_zero {s:List Col} {kind q:Int} {l:List Pr} (h:entryErr s kind q l=0):entryCheck s kind q l=0∧frameErr (fk kind) (entryPay s q l)=0:=by
 unfold entryErr at h
 split at h
 · rename_i h1;exact ⟨h1,h⟩
 · rename_i h1;exact absurd h h1
theorem readE_back {s:List Col} {kind q:Int} {l:List Pr} (h:entryErr s kind q l=0) (hok:PrOk l):readE s (fk kind) (entryPay s q l)=(⟨kind,q,l⟩,0):=by
 obtain ⟨hc,hf⟩:=entryErr_zero h
 obtain ⟨h0,hk,hq,hz⟩:=entryCheck_zero hc
 have hb:batW s l=wBatch s l:=by unfold batW;rw[if_pos hz]
 have hp:pEntry s (entryPay s q l)= .ok (q.toNat,l) []:=by
  unfold pEntry entryPay
  rw[hb,pUint_ok.2 ⟨by omega,by omega,rfl⟩]
  simp only
  rw[show pBatch s (wBatch s l)= .ok l [] from pBatch_ok.2 ⟨hz,hok,by simp⟩]
 have hfk:fk kind=1∨fk kind=2:=by unfold fk;split<;>simp
 unfold readE
 rw[if_neg (by omega),if_neg (by omega),hp]
 simp only[List.length_nil,if_true]
 have:(if fk kind=2 then (0:Int) else 1)=kind:=by unfold fk;split<;>simp<;>omega
 rw[this,Int.toNat_of_nonneg (by omega)]
theorem stepF_back {s:List Col} {t:TSt} {x:Ent} (h:entryErr s x.kind x.seq x.prs=0) (hok:PrOk x.prs) (hm:t.m<4096) (r:List UInt8):
 stepF s t (entryBy s x.kind x.seq x.prs++r)=(x,(entryBy s x.kind x.seq x.prs).length,(takeF s t x).1,(takeF s t x).2):=by
 obtain ⟨hc,hf⟩:=entryErr_zero h
 have he:entryBy s x.kind x.seq x.prs=frameBytes (fk x.kind) (entryPay s x.seq x.prs):=by unfold entryBy frameW;rw[if_pos hc,if_pos hf]
 have hl:(entryPay s x.seq x.prs).length≤1048576:=by
  have:=fk_le x.kind
  unfold frameErr at hf
  rw[if_neg (by omega)] at hf
  split at hf
  · omega
  · omega
 have hn:=nextF_of (fk_le x.kind) hl r
 unfold stepF
 rw[he,hn]
 simp only
 rw[readE_back h hok,if_neg (by omega),if_neg (by simp),if_neg (by simp)]
theorem entryBy_pos {s:List Col} {x:Ent} (h:entryErr s x.kind x.seq x.prs=0):0<(entryBy s x.kind x.seq x.prs).length:=by
 obtain ⟨hc,hf⟩:=entryErr_zero h
 unfold entryBy frameW
 rw[if_pos hc,if_pos hf]
 unfold frameBytes
 rw[crcSeal_len]
 omega
noncomputable def marksF (s:List Col):TSt→Nat→List Ent→List Mark
 | _,_,[]=>[]
 | t,at_,x::r=>⟨(takeF s t x).2.q,at_+(entryBy s x.kind x.seq x.prs).length,schemaPrint s⟩::marksF s (takeF s t x).2 (at_+(entryBy s x.kind x.seq x.prs).length) r
theorem marksF_len (s:List Col):∀(l:List Ent) (t:TSt) (at_:Nat),(marksF s t at_ l).length=l.length
 | [],_,_=>rfl
 | x::r,t,at_=>by simp only[marksF,List.length_cons,marksF_len s r]
theorem dec_enc {s:List Col}:∀(l:List Ent) (t:TSt) (b:List UInt8) (n:Nat) (fuel at_:Nat) (es:List Ent) (ms:List Mark),(∀x∈l,PrOk x.prs)→(encGo s t b n l).1=0→
 ∃d,(encGo s t b n l).2.2.1=b++d∧(d.length≤fuel→decGo s fuel t at_ es ms d=(⟨s,es++l,ms++marksF s t at_ l,at_+d.length,0⟩,(encGo s t b n l).2.2.2))
 | [],t,b,n,fuel,at_,es,ms,_,_=>by
   refine ⟨[],by simp[encGo],fun _=>?_⟩
   cases fuel<;>simp[decGo,encGo,marksF]
 | x::r,t,b,n,fuel,at_,es,ms,hp,h=>by
   unfold encGo at h ⊢
   by_cases h1:(takeF s t x).1=0
   · rw[if_pos h1] at h ⊢
     by_cases h2:entryErr s x.kind x.seq x.prs=0
     · rw[if_pos h2] at h ⊢
       have hm:t.m<4096:=by
        unfold takeF at h1
        by_cases h3:4096≤t.m
        · rw[if_pos h3] at h1;simp at h1
        · omega
       have hpos:=entryBy_pos h2
       unfold marksF
       obtain ⟨e,he⟩:∃e,e=entryBy s x.kind x.seq x.prs:=⟨_,rfl⟩
       obtain ⟨d,hd,hdec⟩:=dec_enc r (takeF s t x).2 (b++entryBy s x.kind x.seq x.prs) (n+1) (fuel - 1) (at_+(entryBy s x.kind x.seq x.prs).length) (es++[x]) (ms++[⟨(takeF s t x).2.q,at_+(entryBy s x.kind x.seq x.prs).length,schemaPrint s⟩]) (fun y hy=>hp y (List.mem_cons_of_mem _ hy)) h
       have hst:=stepF_back h2 (hp x (List.mem_cons_self ..)) hm d
       rw[←he] at hd hdec hst hpos h ⊢
       refine ⟨e++d,by rw[hd,List.append_assoc],fun hf=>?_⟩
       rw[List.length_append] at hf
       obtain ⟨f,rfl⟩:∃f,fuel=f+1:=⟨fuel - 1,by omega⟩
       have h5:=hdec (by omega)
       unfold decGo
       rw[if_neg (by rw[List.length_append];omega),hst]
       simp only
       rw[if_neg (by omega),List.drop_left]
       rw[Nat.add_sub_cancel] at h5
       rw[h5]
       simp[List.append_assoc,Nat.add_assoc]
     · rw[if_neg h2] at h;exact absurd h h2
   · rw[if_neg h1] at h;exact absurd h h1
noncomputable def marksOf (s:List Col) (l:List Ent):List Mark:=⟨0,(headBytes s).length,schemaPrint s⟩::marksF s .zero (headBytes s).length l
theorem marksOf_len (s:List Col) (l:List Ent):(marksOf s l).length=l.length+1:=by unfold marksOf;rw[List.length_cons,marksF_len]
theorem dec_back {s:List Col} {l:List Ent} (hp:∀x∈l,PrOk x.prs) (h:(encF s l).1=0):
 decT (encF s l).2.2.1=(⟨s,l,marksOf s l,(encF s l).2.2.1.length,0⟩,(encF s l).2.2.2):=by
 obtain ⟨hs,e⟩:=encF_zero h
 rw[e] at h ⊢
 obtain ⟨d,hd,hdec⟩:=dec_enc l .zero (headBytes s) 0 ((headBytes s++(encGo s .zero (headBytes s) 0 l).2.2.1.drop (headBytes s).length).length) (headBytes s).length [] [⟨0,(headBytes s).length,schemaPrint s⟩] hp h
 rw[hd] at hdec ⊢
 rw[List.drop_left] at hdec
 have h1:=hdec (by simp)
 rw[decT_head hs d,h1,List.length_append,List.nil_append]
 rfl
theorem decF_backM {s:List Col} {l:List Ent} (hp:∀x∈l,PrOk x.prs) (h:(encF s l).1=0):decF (encF s l).2.2.1=⟨s,l,marksOf s l,(encF s l).2.2.1.length,0⟩:=by
 unfold decF;rw[dec_back hp h]
theorem decF_back {s:List Col} {l:List Ent} (hp:∀x∈l,PrOk x.prs) (h:(encF s l).1=0):∃ms,decF (encF s l).2.2.1=⟨s,l,ms,(encF s l).2.2.1.length,0⟩∧ms.length=l.length+1:=
 ⟨_,decF_backM hp h,marksOf_len s l⟩
theorem nodup_le {α:Type} [DecidableEq α]:∀{a b:List α},a.Nodup→a ⊆ b→a.length≤b.length
 | [],_,_,_=>Nat.zero_le _
 | x::a,b,h,hs=>by
   obtain ⟨h1,h2⟩:=List.nodup_cons.1 h
   have hx:x∈b:=hs (by simp)
   have h3:a ⊆ b.erase x:=fun y hy=>(List.mem_erase_of_ne (fun e=>h1 (by rw[←e];exact hy))).2 (hs (List.mem_cons_of_mem _ hy))
   have h4:=nodup_le h2 h3
   rw[List.length_erase_of_mem hx] at h4
   have:=List.length_pos_of_mem hx
   simp only[List.length_cons];omega
theorem canon_short {s:List Col}:∀{A:List Pr} {l:List Pr},Canon s A→(∀row,wt A row=wt l row)→A.length≤l.length:=by
 intro A l hc hw
 have hnd:(A.map (·.row)).Nodup:=by
  unfold List.Nodup
  rw[List.pairwise_map]
  have h:=hc.lt
  have hrows:=hc.rows
  exact List.Pairwise.imp_of_mem (fun {p q} hp hq h e=>rowCmp_ne (hrows p hp) h e.symm) h
 have hsub:A.map (·.row) ⊆ l.map (·.row):=by
  intro row hr
  obtain ⟨p,hp,rfl⟩:=List.mem_map.1 hr
  have h1:wt l p.row≠0:=by rw[←hw,hc.wt_at hp];exact hc.nz p hp
  obtain ⟨q,hq,e⟩:=wt_mem h1
  exact List.mem_map.2 ⟨q,hq,e⟩
 have:=nodup_le hnd hsub
 simpa using this
theorem collected_short {s:List Col} {l A:List Pr} (h:Collected s l 0 A):A.length≤l.length:=by
 obtain ⟨_,_,hc,_,hw⟩:=collected_zero h
 exact canon_short hc hw
def textsOf (l:List Cel):Nat:=(l.map fun c=>c.text.length).sum
theorem textsOf_cons (c:Cel) (l:List Cel):textsOf (c::l)=c.text.length+textsOf l:=by simp[textsOf]
theorem textsOf_le {l:List Cel} (h:∀c∈l,c.text.length≤256):textsOf l≤256*l.length:=by
 induction l with
 | nil=>simp[textsOf]
 | cons c l ih=>
   have h1:=ih (fun x hx=>h x (List.mem_cons_of_mem _ hx))
   have h2:=h c (by simp)
   rw[textsOf_cons,List.length_cons];omega
theorem uv_len2 {x:Nat} (h:x<16384):(uv x).length≤2:=by
 by_cases h1:x<128
 · rw[uv_small h1];simp
 · rw[uv_great h1,uv_small (by omega)];simp
theorem wTexts_size:∀(l:List Cel) (last:List UInt8),last.length≤256→(∀c∈l,c.text.length≤256)→(wTexts last l).length≤10*l.length+textsOf l
 | [],_,_,_=>by simp[wTexts]
 | c::l,last,h,hl=>by
   have hc:=hl c (by simp)
   have h1:=wTexts_size l c.text hc (fun x hx=>hl x (List.mem_cons_of_mem _ hx))
   have h2:=(shared_le last c.text).1
   have h3:=uv_len2 (x:=shared last c.text) (by omega)
   have h4:=uv_len2 (x:=(c.text.drop (shared last c.text)).length) (by rw[List.length_drop];omega)
   have h5:(c.text.drop (shared last c.text)).length≤c.text.length:=by rw[List.length_drop];omega
   rw[textsOf_cons]
   simp only[wTexts,lenBytes,List.length_append,List.length_cons];omega
theorem wKind_size {k:Int} {l:List Cel} (h:CellsOf k l):(wKind k l).length≤10*l.length+textsOf l:=by
 unfold wKind
 split
 · have:=wBehind_len l 0;unfold wSigned;omega
 · split
   · cases l with
     | nil=>simp[wNumbers]
     | cons c l=>
       have h1:=uv_len10 (h c (by simp)).2
       have h2:=wBehind_len l c.num
       simp only[wNumbers,List.length_append,List.length_cons];omega
   · split
     · unfold wBools;rw[List.length_map,List.length_range];omega
     · exact wTexts_size l [] (by simp) (fun c hc=>(check_parts (h c hc).1).2.2.2.2.2)
def sumT:Nat→Nat→List Pr→Nat
 | 0,_,_=>0
 | m+1,j,a=>textsOf (colAt a j)+sumT m (j+1) a
def rowT:Nat→Nat→List Cel→Nat
 | 0,_,_=>0
 | m+1,j,r=>(r.getD j default).text.length+rowT m (j+1) r
theorem wCols_size (a:List Pr):∀(s:List Col) (j:Nat),(∀(i:Nat) (c:Col),s[i]? =some c→CellsOf c.kind (colAt a (j+i)))→(wCols s j a).length≤10*a.length*s.length+sumT s.length j a
 | [],_,_=>by simp[wCols]
 | c::s,j,h=>by
   have h1:=wCols_size a s (j+1) (fun i d hd=>by rw[show j+1+i=j+(i+1) by omega];exact h (i+1) d (by simpa using hd))
   have h2:=wKind_size (by have:=h 0 c (by simp);simpa using this:CellsOf c.kind (colAt a j))
   have h3:(colAt a j).length=a.length:=by simp[colAt]
   rw[h3] at h2
   simp only[wCols,List.length_append,List.length_cons,sumT,Nat.mul_succ];omega
theorem sumT_nil (m:Nat):∀j,sumT m j []=0:=by
 induction m with
 | zero=>intro j;rfl
 | succ m ih=>intro j;simp only[sumT,ih];simp[colAt,textsOf]
theorem sumT_cons (p:Pr) (a:List Pr) (m:Nat):∀j,sumT m j (p::a)=rowT m j p.row+sumT m j a:=by
 induction m with
 | zero=>intro j;rfl
 | succ m ih=>
   intro j
   simp only[sumT,rowT,ih]
   rw[show colAt (p::a) j=p.row.getD j default::colAt a j from rfl,textsOf_cons];omega
theorem rowT_drop:∀(m j:Nat) (r:List Cel),r.length=j+m→rowT m j r=textsOf (r.drop j)
 | 0,j,r,h=>by rw[List.drop_of_length_le (by omega)];rfl
 | m+1,j,r,h=>by
   rw[List.drop_eq_getElem_cons (show j<r.length by omega),textsOf_cons]
   simp only[rowT]
   rw[rowT_drop m (j+1) r (by omega)]
   simp[show j<r.length by omega]
def sizesOf (a:List Pr):Nat:=(a.map fun p=>textsOf p.row).sum
theorem sumT_sizes {n:Nat}:∀(a:List Pr),(∀p∈a,p.row.length=n)→sumT n 0 a=sizesOf a
 | [],_=>by rw[sumT_nil];rfl
 | p::a,h=>by
   have h1:=sumT_sizes a (fun q hq=>h q (List.mem_cons_of_mem _ hq))
   have h2:=h p (by simp)
   rw[sumT_cons,h1,rowT_drop n 0 p.row (by omega),List.drop_zero]
   simp[sizesOf]
theorem wBatch_size {s:List Col} {a:List Pr} (hz:zCheck s a=0) (hok:PrOk a):(wBatch s a).length≤12+10*a.length*(s.length+1)+sizesOf a:=by
 obtain ⟨h0,hl,hg⟩:=zCheck_len hz
 have h1:=wCols_size a s 0 (fun i c hc=>by rw[Nat.zero_add];exact cells_at hz hok hc)
 rw[sumT_sizes a (fun p hp=>(rowCheck_zero (zGo_rows hg p hp).1).2.1)] at h1
 have h2:=wWeights_len hok a.length (Nat.le_refl _)
 rw[List.take_length] at h2
 have h3:=uv_len2 (x:=a.length) (by omega)
 unfold wBatch
 simp only[List.length_append,Nat.mul_succ];omega
theorem row_texts {s:List Col} {a:List Pr} (hz:zCheck s a=0):∀p∈a,p.row.length≤8∧∀c∈p.row,c.text.length≤256:=fun p hp=>by
 obtain ⟨h0,hl,hg⟩:=zCheck_len hz
 obtain ⟨_,h1,h2⟩:=rowCheck_zero (zGo_rows hg p hp).1
 have h8:=(schemaCheck_le h0).2
 refine ⟨by omega,fun c hc=>?_⟩
 obtain ⟨k,hk,rfl⟩:=List.mem_iff_getElem.1 hc
 have h3:=(rowGo_iff h1).1 h2 k s[k] (List.getElem?_eq_getElem (by omega))
 have h4:=(check_parts h3).2.2.2.2.2
 simpa [hk] using h4
theorem sizes_le {s:List Col} {a:List Pr} (hz:zCheck s a=0):∀k,k≤a.length→sizesOf (a.take k)≤2048*k
 | 0,_=>by simp[sizesOf]
 | k+1,hk=>by
   have ih:=sizes_le hz k (by omega)
   obtain ⟨h1,h2⟩:=row_texts hz a[k] (List.getElem_mem _)
   have h3:=textsOf_le h2
   rw[List.take_succ_eq_append_getElem hk]
   unfold sizesOf at ih ⊢
   rw[List.map_append,List.sum_append]
   simp only[List.map_cons,List.map_nil,List.sum_cons,List.sum_nil]
   omega
theorem sizes_succ {a:List Pr} {k:Nat} (hk:k<a.length):sizesOf (a.take (k+1))=sizesOf (a.take k)+textsOf a[k].row:=by
 unfold sizesOf
 rw[List.take_succ_eq_append_getElem hk,List.map_append,List.sum_append]
 simp
theorem textsOf_succ {r:List Cel} {k:Nat} (hk:k<r.length):textsOf (r.take (k+1))=textsOf (r.take k)+r[k].text.length:=by
 unfold textsOf
 rw[List.take_succ_eq_append_getElem hk,List.map_append,List.sum_append]
 simp
theorem entry_small {s:List Col} {kind q:Int} {l:List Pr} (hc:entryCheck s kind q l=0) (hok:PrOk l) (hl:l.length≤200):entryErr s kind q l=0:=by
 obtain ⟨h0,hk,hq,hz⟩:=entryCheck_zero hc
 have hs:=(schemaCheck_le h0).2
 have h1:=wBatch_size hz hok
 have h2:=sizes_le hz l.length (Nat.le_refl _)
 rw[List.take_length] at h2
 have h3:10*l.length*(s.length+1)≤10*200*9:=Nat.mul_le_mul (by omega) (by omega)
 have h4:=uv_len10 (x:=q.toNat) (by omega)
 unfold entryErr
 rw[if_pos hc]
 unfold frameErr
 have:=fk_le kind
 rw[if_neg (by omega),if_neg]
 unfold entryPay
 rw[List.length_append,batW_ok hz]
 omega
def exS:List Col:=[⟨[105,100],0⟩,⟨[110,97,109,101],4⟩]
def exR:List Cel:=[⟨1,[]⟩,⟨0,[97]⟩]
def exA:List Pr:=[⟨exR,1⟩]
theorem ex_schema:schemaCheck exS=0:=by kernel_rfl
theorem ex_row:rowCheck exS exR=0:=by kernel_rfl
theorem ex_canon:Canon exS exA:=by
 refine ⟨fun p hp=>?_,fun p hp=>?_,fun p hp=>?_,by simp[exA]⟩
 · obtain rfl:p=⟨exR,1⟩:=by simpa [exA] using hp
   exact ⟨ex_row,by decide⟩
 · obtain rfl:p=⟨exR,1⟩:=by simpa [exA] using hp
   decide
 · obtain rfl:p=⟨exR,1⟩:=by simpa [exA] using hp
   exact ⟨by decide,by decide⟩
theorem cellInt_any (x:Nat) (hx:x≤1000) (w:World):Calls Tryz.prog 37 #[.int .i64 x] w fun e w' =>e= .returned (.agg #[.int .u64 x, .string ⟨#[]⟩])∧Fr nob w w' :=by
 have hc:IntKind.u64.wrap (x:Int)=x:=by rw[IntKind.wrap_u64];omega
 go_enter Tryz.func37,Tryz.ntmps37
 go_wp2_with fail
 refine bodyPost_ret (v:= .agg #[.int .u64 x, .string ⟨#[]⟩]) ?_ rfl ⟨rfl,(Fr.refl nob w).alloc _⟩
 simp[results,Tryz.results37,go_sem]
theorem applied_change {s:List Col} {seq:Int} {view l:List Pr} {n:Int} {out:List Pr} {en:Nat} (h0:schemaCheck s=0) (hv:Canon s view) (hvl:view.length≤1024) (hl:Canon s l) (hll:l.length≤1024) (hs:0≤seq∧seq<281474976710656) (h:Applied s seq view 0 (seq+1) l n out en):
 Collected s (view++l) en out∧n=(if en=0 then seq+1 else 0):=by
 have z1:=of_canon h0 hv hvl
 have z2:=of_canon h0 hl hll
 unfold Applied at h
 have ec:entryCheck s 0 (seq+1) l=0:=by
  unfold entryCheck
  rw[if_neg (by omega),if_neg (by omega),if_neg (by omega)];exact z2
 rw[if_neg (by omega),if_neg (by omega),if_neg (by omega),if_neg (by omega),if_neg (by omega)] at h
 exact ⟨(summed_is z1 z2).1 h.1,h.2⟩
theorem applied_snap {s:List Col} {seq:Int} {view l:List Pr} {n:Int} {out:List Pr} {en:Nat} (h0:schemaCheck s=0) (hv:Canon s view) (hvl:view.length≤1024) (hl:Canon s l) (hll:l.length≤1024) (hs:0≤seq∧seq≤281474976710656) (h:Applied s seq view 1 seq l n out en):
 (view=l∧n=seq∧out=view∧en=0)∨(view≠l∧n=0∧out=[]∧en=15):=by
 have z1:=of_canon h0 hv hvl
 have z2:=of_canon h0 hl hll
 unfold Applied at h
 have ec:entryCheck s 1 seq l=0:=by
  unfold entryCheck
  rw[if_neg (by omega),if_neg (by omega),if_neg (by omega)];exact z2
 rw[if_neg (by omega),if_neg (by omega),if_neg (by omega),if_pos rfl,if_neg (by simp)] at h
 by_cases e:view=l
 · rw[if_pos e] at h;exact Or.inl ⟨e,h⟩
 · rw[if_neg e] at h;exact Or.inr ⟨e,h⟩
theorem SV.newrow {α:Type} {R:Rep α} {size:Nat} (hR:R.Ok size) (w:World) (css:List (List Value)) (xs:List α) (t:TypeId) (hl:css.length=xs.length) (hm:xs.length≤1000000)
 (hr:∀(i:Nat) (c:List Value) (x:α),css[i]? =some c→xs[i]? =some x→R (old (w.alloc (.cells css.flatten.toArray t (0,0)))) (w.alloc (.cells css.flatten.toArray t (0,0))) c x):
 SV R size (old (w.alloc (.cells css.flatten.toArray t (0,0)))) (w.alloc (.cells css.flatten.toArray t (0,0))) (some ⟨w.heap.size,0,none⟩) xs.length xs:=by
 have hel:∀c∈css,c.length=size:=fun c hc=>by
  obtain ⟨k,hk,rfl⟩:=List.mem_iff_getElem.1 hc
  exact hR.len (hr k _ (xs[k]'(by omega)) (List.getElem?_eq_getElem hk) (List.getElem?_eq_getElem (by omega)))
 have hone:∀c∈css,∀u∈c,u.oneCell' =true:=fun c hc=>by
  obtain ⟨k,hk,rfl⟩:=List.mem_iff_getElem.1 hc
  exact hR.one (hr k _ (xs[k]'(by omega)) (List.getElem?_eq_getElem hk) (List.getElem?_eq_getElem (by omega)))
 have hfl:css.flatten.length=xs.length*size:=by
  rw[List.length_flatten,←hl]
  have:∀(l:List (List Value)),(∀c∈l,c.length=size)→(l.map List.length).sum=l.length*size:=by
   intro l hl'
   induction l with
   | nil=>simp
   | cons c l ih=>simp only[List.map_cons,List.sum_cons,List.length_cons];rw[ih (fun c hc' =>hl' c (List.mem_cons_of_mem _ hc')),hl' c (by simp),Nat.succ_mul];omega
  exact this _ hel
 have h:=Vec.newrow w css.flatten.toArray t (size:=size) (n:=xs.length) (by simpa using hfl) (by unfold maxLen;omega) (fun u hu=>by
  obtain ⟨c,hc,hu⟩:=List.mem_flatten.1 (by simpa using hu)
  exact hone c hc u hu)
 have h2:=h.mono (T:=old (w.alloc (.cells css.flatten.toArray t (0,0)))) (fun k hk=>hk.2)
 rw[List.toList_toArray] at h2
 exact ⟨css,hl,h2,hr⟩
theorem ex_cols (w:World):SV rCol 2 (old (w.alloc (.cells #[.string ⟨#[105,100]⟩, .int .i64 0, .string ⟨#[110,97,109,101]⟩, .int .i64 4] 71 (0,0)))) (w.alloc (.cells #[.string ⟨#[105,100]⟩, .int .i64 0, .string ⟨#[110,97,109,101]⟩, .int .i64 4] 71 (0,0))) (some ⟨w.heap.size,0,none⟩) 2 exS:=
 SV.newrow rCol_ok w [[.string ⟨#[105,100]⟩, .int .i64 0],[.string ⟨#[110,97,109,101]⟩, .int .i64 4]] exS 71 rfl (by decide) (fun i c x hc hx=>by
  match i,hc,hx with
  | 0,hc,hx=>cases hc;cases hx;exact ⟨⟨by decide,by decide⟩,by decide,rfl⟩
  | 1,hc,hx=>cases hc;cases hx;exact ⟨⟨by decide,by decide⟩,by decide,rfl⟩
  | i+2,hc,hx=>simp at hc)
theorem ex_cells (w:World):SV rCel 2 (old (w.alloc (.cells #[.int .u64 1, .string ⟨#[]⟩, .int .u64 0, .string ⟨#[97]⟩] 74 (0,0)))) (w.alloc (.cells #[.int .u64 1, .string ⟨#[]⟩, .int .u64 0, .string ⟨#[97]⟩] 74 (0,0))) (some ⟨w.heap.size,0,none⟩) 2 exR:=
 SV.newrow rCel_ok w [[.int .u64 1, .string ⟨#[]⟩],[.int .u64 0, .string ⟨#[97]⟩]] exR 74 rfl (by decide) (fun i c x hc hx=>by
  match i,hc,hx with
  | 0,hc,hx=>cases hc;cases hx;exact ⟨by decide,by decide,rfl⟩
  | 1,hc,hx=>cases hc;cases hx;exact ⟨by decide,by decide,rfl⟩
  | i+2,hc,hx=>simp at hc)
theorem ex_pairs (w:World) (a:Option Addr) (h:SV rCel 2 (old w) w a 2 exR):SV rPr 2 (old (w.alloc (.cells #[.slice a 2 2, .int .i64 1] 66 (0,0)))) (w.alloc (.cells #[.slice a 2 2, .int .i64 1] 66 (0,0))) (some ⟨w.heap.size,0,none⟩) 1 exA:=
 SV.newrow rPr_ok w [[.slice a 2 2, .int .i64 1]] exA 66 rfl (by decide) (fun i c x hc hx=>by
  match i,hc,hx with
  | 0,hc,hx=>
    cases hc;cases hx
    exact ⟨⟨by decide,by decide⟩,by decide,a,2,rfl,(h.frN rCel_ok ((Fr.refl nob w).alloc _)).mono rCel_ok (fun k hk=>by unfold old at*;simp;omega)⟩
  | i+1,hc,hx=>simp at hc)
theorem canon_nil (s:List Col):Canon s []:=⟨by simp,by simp,by simp,List.Pairwise.nil⟩
theorem entryBy_six {s:List Col} {x:Ent} (h:entryErr s x.kind x.seq x.prs=0):6≤(entryBy s x.kind x.seq x.prs).length:=by
 obtain ⟨hc,hf⟩:=entryErr_zero h
 unfold entryBy frameW
 rw[if_pos hc,if_pos hf]
 unfold frameBytes
 rw[crcSeal_len]
 have:0<(uv (entryPay s x.seq x.prs).length).length:=by
  by_cases h:(entryPay s x.seq x.prs).length<128
  · rw[uv_small h];simp
  · rw[uv_great (by omega)];simp
 simp only[List.length_append,List.length_cons,List.length_nil,lenBytes]
 omega
theorem encF_snoc {s:List Col} {l:List Ent} {x:Ent} (h:(encF s (l++[x])).1=0):(encF s l).1=0∧entryErr s x.kind x.seq x.prs=0∧takeF s (encF s l).2.2.2 x=(0,(encF s (l++[x])).2.2.2)∧(encF s (l++[x])).2.2.1=(encF s l).2.2.1++entryBy s x.kind x.seq x.prs:=by
 obtain ⟨hs,e⟩:=encF_zero h
 have el:encF s l=encGo s .zero (headBytes s) 0 l:=by unfold encF;rw[if_pos hs]
 have ha:=encGo_append s [x] l .zero (headBytes s) 0
 rw[e] at h ⊢
 rw[el]
 by_cases h0:(encGo s .zero (headBytes s) 0 l).1=0
 · rw[if_pos h0] at ha
   rw[ha] at h ⊢
   refine ⟨h0,?_⟩
   simp only[encGo] at h ⊢
   by_cases h1:(takeF s (encGo s .zero (headBytes s) 0 l).2.2.2 x).1=0
   · rw[if_pos h1] at h ⊢
     by_cases h2:entryErr s x.kind x.seq x.prs=0
     · rw[if_pos h2]
       exact ⟨h2,Prod.ext h1 rfl,rfl⟩
     · rw[if_neg h2] at h;exact absurd h h2
   · rw[if_neg h1] at h;exact absurd h h1
 · rw[if_neg h0] at ha
   rw[ha] at h
   exact absurd h h0
theorem marksF_at {s:List Col}:∀(l:List Ent) (t:TSt) (b:List UInt8) (n k:Nat),(encGo s t b n l).1=0→k<l.length→
 (marksF s t b.length l)[k]? =some ⟨(encGo s t b n (l.take (k+1))).2.2.2.q,((encGo s t b n (l.take (k+1))).2.2.1.length:Nat),schemaPrint s⟩
 | [],_,_,_,k,_,hk=>by simp at hk
 | x::r,t,b,n,k,h,hk=>by
   unfold encGo at h
   by_cases h1:(takeF s t x).1=0
   · rw[if_pos h1] at h
     by_cases h2:entryErr s x.kind x.seq x.prs=0
     · rw[if_pos h2] at h
       simp only[marksF,List.take_succ_cons]
       cases k with
       | zero=>
         simp only[List.take_zero,encGo,if_pos h1,if_pos h2,List.length_append,List.getElem?_cons_zero]
         rw[Int.natCast_add]
       | succ k=>
         rw[List.getElem?_cons_succ]
         have ih:=marksF_at r (takeF s t x).2 (b++entryBy s x.kind x.seq x.prs) (n+1) k h (by simp at hk;omega)
         rw[List.length_append] at ih
         rw[ih]
         simp only[encGo,if_pos h1,if_pos h2]
     · rw[if_neg h2] at h;exact absurd h h2
   · rw[if_neg h1] at h;exact absurd h h1
theorem marksOf_at {s:List Col} {l:List Ent} (h:(encF s l).1=0) {k:Nat} (hk:k≤l.length):(marksOf s l)[k]? =some ⟨(encF s (l.take k)).2.2.2.q,((encF s (l.take k)).2.2.1.length:Nat),schemaPrint s⟩:=by
 obtain ⟨hs,e⟩:=encF_zero h
 have ei:encF s (l.take k)=encGo s .zero (headBytes s) 0 (l.take k):=by unfold encF;rw[if_pos hs]
 rw[ei]
 unfold marksOf
 cases k with
 | zero=>rfl
 | succ k=>
   rw[List.getElem?_cons_succ]
   rw[e] at h
   exact marksF_at l .zero (headBytes s) 0 k h (by omega)
noncomputable def offF (s:List Col) (l:List Ent) (k:Nat):Nat:=(encF s (l.take k)).2.2.1.length
theorem offF_succ {s:List Col} {l:List Ent} (h:(encF s l).1=0) {k:Nat} (hk:k<l.length):offF s l (k+1)=offF s l k+(entryBy s l[k].kind l[k].seq l[k].prs).length∧6≤(entryBy s l[k].kind l[k].seq l[k].prs).length:=by
 have h1:=(encF_take h (k+1)).1
 unfold offF
 rw[List.take_succ_eq_append_getElem hk] at h1 ⊢
 obtain ⟨_,h2,_,h3⟩:=encF_snoc h1
 rw[h3,List.length_append]
 exact ⟨rfl,entryBy_six h2⟩
theorem offF_lt {s:List Col} {l:List Ent} (h:(encF s l).1=0) {i:Nat}:∀j,i<j→j≤l.length→offF s l i+6≤offF s l j
 | 0,hi,_=>by omega
 | j+1,hi,hj=>by
   obtain ⟨h1,h2⟩:=offF_succ h (show j<l.length by omega)
   by_cases e:i=j
   · subst e;omega
   · have:=offF_lt (i:=i) h j (by omega) (by omega);omega
theorem offF_le {s:List Col} {l:List Ent} (h:(encF s l).1=0) {k:Nat} (hk:k≤l.length):offF s l k≤(encF s l).2.2.1.length:=by
 have:=(encF_take h k).2
 obtain ⟨d,e⟩:=this
 unfold offF
 rw[e,List.length_append];omega
theorem offF_end (s:List Col) (l:List Ent):offF s l l.length=(encF s l).2.2.1.length:=by unfold offF;rw[List.take_length]
theorem encF_ok {s:List Col} {l:List Ent} (hp:∀x∈l,PrOk x.prs) (h:(encF s l).1=0):TOk s (encF s l).2.2.2∧(encF s l).2.2.2.m=l.length∧(encF s l).2.2.2.q=cnt l:=by
 obtain ⟨hs,e⟩:=encF_zero h
 rw[e] at h ⊢
 have hr:=encGo_run s l .zero (headBytes s) 0 h
 obtain ⟨h1,h2,h3,_⟩:=run_law hp (TOk.zero s) hr
 exact ⟨h1,by rw[h2];show 0+_=_;omega,by rw[h3];show (0:Int)+_=_;omega⟩
theorem mem_take {α:Type} {l:List α} {k:Nat} {x:α} (h:x∈l.take k):x∈l:=by
 have h2:x∈l.take k++l.drop k:=List.mem_append.2 (Or.inl h)
 rwa [List.take_append_drop] at h2
theorem seq_at {s:List Col} {l:List Ent} (hp:∀x∈l,PrOk x.prs) (h:(encF s l).1=0) (k:Nat):0≤(encF s (l.take k)).2.2.2.q∧(encF s (l.take k)).2.2.2.q≤281474976710656:=
 (encF_ok (fun x hx=>hp x (mem_take hx)) (encF_take h k).1).1.q
end Go.Proofs.YtibpkfnfcdbiiaaGreatDoor
