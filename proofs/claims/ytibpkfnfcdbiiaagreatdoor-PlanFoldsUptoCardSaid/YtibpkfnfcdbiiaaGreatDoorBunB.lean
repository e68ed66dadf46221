/- What comes in, read: slices of bytes. Data with depth: a slice whose elements read as data; how what comes in is so read. Small contracts and facts at this program's own numbers. The table's data in plain words: columns, cells, pairs; how they lie in memory. A map of strings to true: a set of names. The package-level variables, as the initialisers lay them; cell.Names, schema.kindly, utf8.ValidString. Contract of schema.seen.take. Contract of schema.Check. -/
import Derived.Test.YtibpkfnfcdbiiaaGreatDoorBunA
import Derived.ProofKit
import Derived.OpenShut
import Derived.ShutString
import Derived.ChangeOld
import Derived.Deep.Slices
import Derived.Deep.Strs
import Derived.Test.YtibpkfnfcdbiiaaGreatDoorChecked
import Derived.Lib.SlBytesConst
import Derived.Test.YtibpkfnfcdbiiaaGreatDoorShelf
namespace Go.Proofs.YtibpkfnfcdbiiaaGreatDoor
set_option linter.unusedSimpArgs false
open Go.ChangeShapes Go.WideShapes Go.ChangeAt Go.RowKit
open Go.ChangeMaps (open_string shut_string)
def old (w:World):Nat→Prop:=fun k=>k<w.heap.size
theorem addr_plain {w:World} {a:Addr} {v:Value} (h:w.cell? a=some v):a=⟨a.block,a.off,none⟩:=by
 obtain ⟨b,o,s⟩:=a
 cases s with
 | none=>rfl
 | some s=>
   unfold World.cell? at h
   split at h<;>simp at h
theorem open_bytes {H:Type} {enc:TypeId×Value→H} {P:Program} {W:World} {t e fuel:Nat} {cs:List Value} {d:DataW H} {p:List MemPlace} (ht:P.underlying t=some (.slice e)) (he:P.underlying e=some (.int .u8)) (hc:P.cellsOf e=1)
 (h:DataW.trod enc P W 0 (fun _=>true) true fuel t cs=some (d,p)) (hfz:W.noneFrozen p):
 ∃a cap l,cs=[.slice a l.length cap]∧BV (old W) W a cap l∧(d= .nil∧l=[]∨∃el sp,d= .slice el sp∧el.length=l.length):=by
 rcases open_ints ht he hc h with ⟨rfl,hx⟩ | ⟨a,len,cap,zs,rfl,_,hl,hm,hz,hx,hcell,hwz⟩
 · exact ⟨none,0,[],rfl,BV.nil _ _,Or.inl ⟨by simpa using congrArg Prod.fst hx,rfl⟩⟩
 · simp only[if_true] at hz
   have hwz' :∀i,i<zs.length→0≤zs.getD i 0∧zs.getD i 0<256:=fun i hi=>by
    have:=hwz (zs.getD i 0) (by rw[List.getD_eq_getElem?_getD,List.getElem?_eq_getElem hi];exact List.getElem_mem hi)
    have hb:=bounds_u8 this
    omega
   simp only[Prod.mk.injEq] at hx
   have hlen:((zs.take len).map fun z=>UInt8.ofNat z.toNat).length=len:=by simp;omega
   refine ⟨some a,cap,(zs.take len).map fun z=>UInt8.ofNat z.toNat,by rw[hlen],?_,Or.inr ⟨_,_,hx.1,by simp[lits]⟩⟩
   unfold BV
   rw[hlen]
   refine ⟨hl,hm,by simp;omega,by simp,bv_one _,fun hp=>?_⟩
   have h0:=hcell 0 (by omega)
   have ha:a=⟨a.block,a.off,none⟩:=by
    have:=addr_plain h0
    simpa [Addr.add] using this
   have h0' :W.cell? a=some (.int .u8 (zs.getD 0 0)):=by simpa [Addr.add] using h0
   have hadd:∀j,(⟨a.block,a.off,none⟩:Addr).add j=⟨a.block,a.off+j,none⟩:=fun j=>Addr.add_lit _ _ _
   rw[ha] at hcell
   simp only[hadd] at hcell
   refine ⟨a.block,a.off,by rw[←ha],World.block_lt_of_cell? W a h0',fun j hj=>⟨_,hcell j (by omega)⟩,fun j hj=>?_,fun j hj=>?_⟩
   · refine hfz _ _ ?_
     rw[hx.2]
     simp[MemPlace.row]
     omega
   · rw[hcell j (by omega),bv_get]
     have hb:=hwz' j (by omega)
     have hj' :j<zs.length:=by omega
     have hjl:j<len:=by omega
     simp[hjl,hj'] at hb ⊢
     omega
end Go.Proofs.YtibpkfnfcdbiiaaGreatDoor
namespace Go.Proofs.YtibpkfnfcdbiiaaGreatDoor
set_option linter.unusedSimpArgs false
open Go.ChangeShapes Go.WideShapes Go.ChangeAt Go.RowKit
set_option linter.unusedVariables false
abbrev Rep (α:Type):=(Nat→Prop)→World→List Value→α→Prop
structure Rep.Ok {α:Type} (R:Rep α) (size:Nat):Prop where
 fr:∀{S T:Nat→Prop} {w w' :World} {cs:List Value} {x:α},R S w cs x→Fr T w w' →(∀k,S k→¬T k)→R S w' cs x
 mono:∀{S T:Nat→Prop} {w:World} {cs:List Value} {x:α},R S w cs x→(∀k,S k→T k)→R T w cs x
 len:∀{S:Nat→Prop} {w:World} {cs:List Value} {x:α},R S w cs x→cs.length=size
 one:∀{S:Nat→Prop} {w:World} {cs:List Value} {x:α},R S w cs x→∀u∈cs,u.oneCell' =true
def SV {α:Type} (R:Rep α) (size:Nat) (S:Nat→Prop) (w:World) (a:Option Addr) (cap:Nat) (xs:List α):Prop:=
 ∃css:List (List Value),css.length=xs.length∧Vec S w size a xs.length cap css.flatten∧∀(i:Nat) (c:List Value) (x:α),css[i]? =some c→xs[i]? =some x→R S w c x
section
variable {α:Type} {R:Rep α} {size:Nat} {S T:Nat→Prop} {w w' :World} {a:Option Addr} {cap:Nat} {xs:List α}
theorem flatten_get (css:List (List Value)) (size:Nat) (hl:∀c∈css,c.length=size):∀(i:Nat) (c:List Value),css[i]? =some c→∀j,j<size→css.flatten[i*size+j]? =c[j]? :=by
 induction css with
 | nil=>intro i c h;simp at h
 | cons c0 css ih=>
   intro i c h j hj
   have h0:=hl c0 (by simp)
   cases i with
   | zero=>
     obtain rfl:c0=c:=by simpa using h
     rw[List.flatten_cons,Nat.zero_mul,Nat.zero_add,List.getElem?_append_left (by omega)]
   | succ i=>
     rw[List.flatten_cons,List.getElem?_append_right (by rw[Nat.succ_mul];omega),show (i+1)*size+j - c0.length=i*size+j by rw[Nat.succ_mul];omega]
     exact ih (fun c hc=>hl c (List.mem_cons_of_mem _ hc)) i c (by simpa using h) j hj
theorem SV.nil (R:Rep α) (S:Nat→Prop) (w:World) (size:Nat):SV R size S w none 0 []:=⟨[],rfl,Vec.nil S w size,fun i c x h=>by simp at h⟩
theorem SV.vec (h:SV R size S w a cap xs):∃cs,Vec S w size a xs.length cap cs:=let ⟨css,_,hv,_⟩:=h;⟨_,hv⟩
theorem SV.le (h:SV R size S w a cap xs):xs.length≤cap:=let ⟨_,_,hv,_⟩:=h;hv.le
theorem SV.nil0 (h:SV R size S w a cap xs):a=none→cap=0:=let ⟨_,_,hv,_⟩:=h;hv.nil0
theorem SV.fr (hR:R.Ok size) (h:SV R size S w a cap xs) (hf:Fr T w w') (hT:∀k,S k→¬T k):SV R size S w' a cap xs:=
 let ⟨css,hl,hv,hr⟩:=h;⟨css,hl,hv.fr hf hT,fun i c x h1 h2=>hR.fr (hr i c x h1 h2) hf hT⟩
theorem SV.frN (hR:R.Ok size) (h:SV R size S w a cap xs) (hf:Fr nob w w'):SV R size S w' a cap xs:=h.fr hR hf (fun _ _=>id)
theorem SV.mono (hR:R.Ok size) (h:SV R size S w a cap xs) (hS:∀k,S k→T k):SV R size T w a cap xs:=
 let ⟨css,hl,hv,hr⟩:=h;⟨css,hl,hv.mono hS,fun i c x h1 h2=>hR.mono (hr i c x h1 h2) hS⟩
theorem SV.get (hR:R.Ok size) (h:SV R size S w a cap xs) {i:Nat} (hi:i<xs.length):
 ∃b off c,a=some ⟨b,off,none⟩∧S b∧R S w c xs[i]∧c.length=size∧∀j,j<size→w.cell? ⟨b,off+i*size+j,none⟩=c[j]? :=by
 obtain ⟨css,hl,hv,hr⟩:=h
 obtain ⟨b,off,e,hS,_,_,r3⟩:=hv.addr (by have:=hv.le;omega)
 have hil:i<css.length:=by omega
 have hel:∀c∈css,c.length=size:=fun c hc=>by
  obtain ⟨k,hk,rfl⟩:=List.mem_iff_getElem.1 hc
  exact hR.len (hr k _ (xs[k]'(by omega)) (List.getElem?_eq_getElem hk) (List.getElem?_eq_getElem (by omega)))
 have hRi:=hr i css[i] xs[i] (List.getElem?_eq_getElem hil) (List.getElem?_eq_getElem hi)
 have hin:(i+1)*size≤xs.length*size:=Nat.mul_le_mul_right _ hi
 rw[Nat.succ_mul] at hin
 exact ⟨b,off,css[i],e,hS,hRi,hR.len hRi,fun j hj=>by rw[Nat.add_assoc,r3 _ (by omega),flatten_get css size hel i css[i] (List.getElem?_eq_getElem hil) j hj]⟩
end
theorem cells_get {w:World} {a:Addr} {n:Nat} {cs:List Value} (h:w.cells? 0 a n=some cs):cs.length=n∧∀j,j<n→w.cell? (a.add j)=cs[j]? :=by
 unfold World.cells? at h
 rw[if_pos (Nat.zero_le _)] at h
 have hl:cs.length=n:=by simpa using mapM_some_length h
 refine ⟨hl,fun j hj=>?_⟩
 have:=mapM_some_get h j j (by simp[hj])
 exact this
theorem open_SV {H:Type} {enc:TypeId×Value→H} {P:Program} {W:World} {α:Type} [Inhabited α] {R:Rep α} {E:α→DataW H→Prop} {t e size fuel:Nat} {cs:List Value} {d:DataW H} {p:List MemPlace}
 (hR:R.Ok size) (hpos:0<size) (ht:P.underlying t=some (.slice e)) (hc:P.cellsOf e=size)
 (hel:∀n cs' d' p',DataW.trod enc P W 0 (fun _=>true) true n e cs' =some (d',p')→W.noneFrozen p' →∃x,R (old W) W cs' x∧E x d')
 (h:DataW.trod enc P W 0 (fun _=>true) true fuel t cs=some (d,p)) (hfz:W.noneFrozen p):
 ∃a cap xs,cs=[.slice a xs.length cap]∧SV R size (old W) W a cap xs∧(d= .nil∧xs=[]∨∃(prs:List (α×DataW H)) (sp:List (DataW H)),xs=prs.map (·.1)∧d= .slice (prs.map (·.2)) sp∧∀y∈prs,E y.1 y.2):=by
 rcases Deep.open_slice ht h with ⟨rfl,hx⟩ | ⟨a,len,cap,m,n,D,Pl,rfl,_,hl,hm,hmc,hx,hi⟩
 · exact ⟨none,0,[],rfl,SV.nil _ _ _ _,Or.inl ⟨by simpa using congrArg Prod.fst hx,rfl⟩⟩
 simp only[if_true] at hmc
 subst hmc
 simp only[Prod.mk.injEq] at hx
 rw[hc] at hi hx
 have hz1:∀i,i<m→W.noneFrozen (Pl i):=fun i hi' b off hmem=>hfz b off (by rw[hx.2];exact List.mem_append_right _ (List.mem_flatMap.2 ⟨i,by simpa using hi',hmem⟩))
 have hall:∀i,i<m→∃z:List Value×α,W.cells? 0 (a.add (i*size)) size=some z.1∧R (old W) W z.1 z.2∧E z.2 (D i):=fun i hi' =>by
  obtain ⟨cs',h1,h2⟩:=hi i hi'
  obtain ⟨x,h3,h4⟩:=hel n cs' _ _ h2 (hz1 i hi')
  exact ⟨(cs',x),h1,h3,h4⟩
 obtain ⟨Z,hZ⟩:=Deep.choose_lt hall
 have hlen:((List.range len).map fun i=>(Z i).2).length=len:=by simp
 refine ⟨some a,m,(List.range len).map fun i=>(Z i).2,by rw[hlen],⟨(List.range len).map fun i=>(Z i).1,by simp,?_,?_⟩,Or.inr ⟨(List.range len).map fun i=>((Z i).2,D i),_,by simp[Function.comp_def],by rw[hx.1,List.map_map];rfl,?_⟩⟩
 · rw[hlen]
   have hel' :∀c∈(List.range len).map fun i=>(Z i).1,c.length=size:=fun c hc' =>by
    obtain ⟨i,hi',rfl⟩:=List.mem_map.1 hc'
    exact hR.len (hZ i (by have:=List.mem_range.1 hi';omega)).2.1
   have hfl:((List.range len).map fun i=>(Z i).1).flatten.length=len*size:=by
    rw[List.length_flatten]
    have:∀(l:List (List Value)),(∀c∈l,c.length=size)→(l.map List.length).sum=l.length*size:=by
     intro l hl'
     induction l with
     | nil=>simp
     | cons c l ih=>simp only[List.map_cons,List.sum_cons,List.length_cons];rw[ih (fun c hc' =>hl' c (List.mem_cons_of_mem _ hc')),hl' c (by simp),Nat.succ_mul];omega
    rw[this _ hel'];simp
   refine ⟨hl,hm,hfl,by simp,fun u hu=>?_,fun hp=>?_⟩
   · obtain ⟨c,hc',hu'⟩:=List.mem_flatten.1 hu
     obtain ⟨i,hi',rfl⟩:=List.mem_map.1 hc'
     exact hR.one (hZ i (by have:=List.mem_range.1 hi';omega)).2.1 u hu'
   · obtain ⟨l0,g0⟩:=cells_get (hZ 0 hp).1
     have e0:=g0 0 hpos
     rw[Nat.zero_mul] at e0
     have c0:W.cell? a=some ((Z 0).1[0]'(by omega)):=by rw[List.getElem?_eq_getElem (by omega)] at e0;simpa [Addr.add] using e0
     have ha:a=⟨a.block,a.off,none⟩:=addr_plain c0
     have hcell:∀i j,i<m→j<size→W.cell? ⟨a.block,a.off+(i*size+j),none⟩=(Z i).1[j]? :=fun i j hi' hj=>by
      have:=(cells_get (hZ i hi').1).2 j hj
      rw[ha,Addr.add_lit,Addr.add_lit] at this
      rw[←Nat.add_assoc];exact this
     have dm:∀k,k<m*size→k / size<m∧k%size<size∧k / size*size+k%size=k:=fun k hk=>⟨(Nat.div_lt_iff_lt_mul hpos).2 hk,Nat.mod_lt _ hpos,by rw[Nat.mul_comm];exact Nat.div_add_mod k size⟩
     refine ⟨a.block,a.off,by rw[←ha],World.block_lt_of_cell? W a c0,fun k hk=>?_,fun k hk=>?_,fun k hk=>?_⟩
     · obtain ⟨h1,h2,h3⟩:=dm k hk
       have:=hcell _ _ h1 h2
       rw[h3,List.getElem?_eq_getElem (by rw[hR.len (hZ _ h1).2.1];exact h2)] at this
       exact ⟨_,this⟩
     · refine hfz _ _ ?_
       rw[hx.2]
       refine List.mem_append_left _ ?_
       simp only[MemPlace.row,List.mem_map,List.mem_range]
       exact ⟨k,hk,rfl⟩
     · have hk' :k<m*size:=Nat.lt_of_lt_of_le hk (Nat.mul_le_mul_right _ hl)
       obtain ⟨h1,h2,h3⟩:=dm k hk'
       have h4:k / size<len:=(Nat.div_lt_iff_lt_mul hpos).2 hk
       have:=hcell _ _ h1 h2
       rw[h3] at this
       rw[this,←flatten_get _ size hel' (k / size) (Z (k / size)).1 (by simp[h4]) _ h2,h3]
 · intro i c x h1 h2
   by_cases hil:i<len
   · simp[hil] at h1 h2
     subst h1;subst h2
     exact (hZ i (by omega)).2.1
   · simp[hil] at h1
 · intro y hy
   obtain ⟨i,hi',rfl⟩:=List.mem_map.1 hy
   exact (hZ i (by have:=List.mem_range.1 hi';omega)).2.2
end Go.Proofs.YtibpkfnfcdbiiaaGreatDoor
namespace Go.Proofs.YtibpkfnfcdbiiaaGreatDoor
set_option linter.unusedSimpArgs false
open Go.RowKit
set_option linter.unusedVariables false
theorem inf_u8:((Tryz.prog).info? 5).map (fun i=>(i.zero,i.size,i.bytes))=some (some (.int .u8 0),1,1):=by kernel_rfl
theorem str_of {S:Nat→Prop} {w:World} {a:Option Addr} {cap:Nat} {l:List UInt8} (h:BV S w a cap l):(convert 27 9 (.slice a l.length cap)).run Tryz.prog w= .ok (.string (bs l)) w:=
 h.str Tryz.underlying27 Tryz.underlying5 Tryz.underlying9
theorem sub_of {S:Nat→Prop} {w:World} {a:Option Addr} {cap:Nat} {l:List UInt8} (h:BV S w a cap l)
 (lo hi' mx:Option Value) (x y m:Nat) (hb:∀w',(Instr.sliceBounds true l.length cap lo hi' mx).run Tryz.prog w' = .ok (x,y,m) w') (h1:x≤y) (h2:y≤l.length) (h3:y≤m) (h4:m≤cap):
 ∃a',(∀w',(Instr.slice 27 (.slice a l.length cap) lo hi' mx).run Tryz.prog w' = .ok (.slice a' (y - x) (m - x)) w')∧BV S w a' (m - x) ((l.drop x).take (y - x))∧(a' =none↔a=none):=by
 obtain ⟨i,hi,hz,hsize,hby⟩:=info_parts inf_u8
 exact h.sub 27 5 i Tryz.underlying27 hi hsize lo hi' mx x y m hb h1 h2 h3 h4
theorem sub_from {S:Nat→Prop} {w:World} {a:Option Addr} {cap:Nat} {l:List UInt8} (h:BV S w a cap l) (k:IntKind) (z:Int) (x:Nat) (hz:z=x) (hx:x≤l.length):
 ∃a',(∀w',(Instr.slice 27 (.slice a l.length cap) (some (.int k z)) none none).run Tryz.prog w' = .ok (.slice a' (l.drop x).length (cap - x)) w')∧BV S w a' (cap - x) (l.drop x)∧(a' =none↔a=none):=by
 obtain ⟨a',r1,r2,r3⟩:=sub_of h (some (.int k z)) none none x l.length cap (bounds_l k x z hz hx) hx (Nat.le_refl _) h.vec.le (Nat.le_refl _)
 rw[List.take_of_length_le (by simp)] at r2
 exact ⟨a',fun w' =>by rw[r1 w',List.length_drop],r2,r3⟩
theorem sub_to {S:Nat→Prop} {w:World} {a:Option Addr} {cap:Nat} {l:List UInt8} (h:BV S w a cap l) (k:IntKind) (z:Int) (y:Nat) (hz:z=y) (hy:y≤l.length):
 ∃a',(∀w',(Instr.slice 27 (.slice a l.length cap) none (some (.int k z)) none).run Tryz.prog w' = .ok (.slice a' (l.take y).length cap) w')∧BV S w a' cap (l.take y)∧(a' =none↔a=none):=by
 obtain ⟨a',r1,r2,r3⟩:=sub_of h none (some (.int k z)) none 0 y cap (bounds_h k y z hz (by have:=h.vec.le;omega)) (Nat.zero_le _) hy (by have:=h.vec.le;omega) (by have:=h.vec.le;omega)
 rw[List.drop_zero,Nat.sub_zero] at r2
 simp only[Nat.sub_zero] at r1 r2
 exact ⟨a',fun w' =>by rw[r1 w',List.length_take,Nat.min_eq_left hy],r2,r3⟩
theorem lit_of (w:World) (l:List UInt8) (hl:l.length≤1000000):BV (newb w (w.alloc (.cells (bv l).toArray 5))) (w.alloc (.cells (bv l).toArray 5)) (some ⟨w.heap.size,0,none⟩) l.length l:=by
 have h:=Vec.newrow w (bv l).toArray 5 (size:=1) (n:=l.length) (by simp) (by unfold maxLen;omega) (by simpa using bv_one l)
 unfold BV
 simpa using h
theorem Fr.any {T:Nat→Prop} {w w1:World} (h:Fr nob w w1):Fr T w w1:=h.mono (fun _ _ h=>h.elim)
theorem Fr.nthen {T:Nat→Prop} {w w1 w2:World} (h:Fr nob w w1) (h2:Fr T w1 w2):Fr T w w2:=h.any.trans' h2
def I64 (x:Int):Prop:= -9223372036854775808≤x∧x≤9223372036854775807
abbrev lim:Nat:=140737488355328
structure Col where
 name:List UInt8
 kind:Int
deriving DecidableEq
structure Cel where
 num:Nat
 text:List UInt8
deriving DecidableEq
structure Pr where
 row:List Cel
 weight:Int
deriving DecidableEq
instance:Inhabited Col:=⟨⟨[],0⟩⟩
instance:Inhabited Cel:=⟨⟨0,[]⟩⟩
instance:Inhabited Pr:=⟨⟨[],0⟩⟩
def rCol:Rep Col:=fun S w cs x=>I64 x.kind∧x.name.length≤lim∧cs=[.string (bs x.name), .int .i64 x.kind]
theorem rCol_ok:rCol.Ok 2:=by
 refine ⟨?_,?_,?_,?_⟩
 · rintro S T w w' cs x h hf hT;exact h
 · rintro S T w cs x h hS;exact h
 · rintro S w cs x ⟨_,_,rfl⟩;rfl
 · rintro S w cs x ⟨_,_,rfl⟩ u hu
   simp at hu
   rcases hu with rfl | rfl<;>rfl
def rCel:Rep Cel:=fun S w cs x=>x.num<18446744073709551616∧x.text.length≤lim∧cs=[.int .u64 x.num, .string (bs x.text)]
theorem rCel_ok:rCel.Ok 2:=by
 refine ⟨?_,?_,?_,?_⟩
 · rintro S T w w' cs x h hf hT;exact h
 · rintro S T w cs x h hS;exact h
 · rintro S w cs x ⟨_,_,rfl⟩;rfl
 · rintro S w cs x ⟨_,_,rfl⟩ u hu
   simp at hu
   rcases hu with rfl | rfl<;>rfl
def rPr:Rep Pr:=fun S w cs x=>I64 x.weight∧x.row.length≤lim∧∃a cap,cs=[.slice a x.row.length cap, .int .i64 x.weight]∧SV rCel 2 S w a cap x.row
theorem rPr_ok:rPr.Ok 2:=by
 refine ⟨?_,?_,?_,?_⟩
 · rintro S T w w' cs x ⟨h1,h2,a,cap,rfl,h⟩ hf hT;exact ⟨h1,h2,a,cap,rfl,h.fr rCel_ok hf hT⟩
 · rintro S T w cs x ⟨h1,h2,a,cap,rfl,h⟩ hS;exact ⟨h1,h2,a,cap,rfl,h.mono rCel_ok hS⟩
 · rintro S w cs x ⟨_,_,a,cap,rfl,_⟩;rfl
 · rintro S w cs x ⟨_,_,a,cap,rfl,_⟩ u hu
   simp at hu
   rcases hu with rfl | rfl<;>rfl
theorem bs_isEmpty (l:List UInt8):(bs l).toList.isEmpty=l.isEmpty:=by rw[bs_toList]
theorem bs_nil:bs []=⟨#[]⟩:=rfl
theorem col_at {S:Nat→Prop} {w:World} {a:Option Addr} {cap:Nat} {l:List Col} (h:SV rCol 2 S w a cap l) {k:Nat} (hk:k<l.length):
 ∃b off,a=some ⟨b,off,none⟩∧S b∧I64 l[k].kind∧l[k].name.length≤lim∧w.cell? ⟨b,off+k*2,none⟩=some (.string (bs l[k].name))∧w.cell? ⟨b,off+k*2+1,none⟩=some (.int .i64 l[k].kind):=by
 obtain ⟨b,off,c,ha,hS,⟨h1,h2,rfl⟩,_,hc⟩:=h.get rCol_ok hk
 exact ⟨b,off,ha,hS,h1,h2,by simpa using hc 0 (by omega),by simpa using hc 1 (by omega)⟩
theorem cel_at {S:Nat→Prop} {w:World} {a:Option Addr} {cap:Nat} {l:List Cel} (h:SV rCel 2 S w a cap l) {k:Nat} (hk:k<l.length):
 ∃b off,a=some ⟨b,off,none⟩∧S b∧l[k].num<18446744073709551616∧l[k].text.length≤lim∧w.cell? ⟨b,off+k*2,none⟩=some (.int .u64 l[k].num)∧w.cell? ⟨b,off+k*2+1,none⟩=some (.string (bs l[k].text)):=by
 obtain ⟨b,off,c,ha,hS,⟨h1,h2,rfl⟩,_,hc⟩:=h.get rCel_ok hk
 exact ⟨b,off,ha,hS,h1,h2,by simpa using hc 0 (by omega),by simpa using hc 1 (by omega)⟩
theorem pr_at {S:Nat→Prop} {w:World} {a:Option Addr} {cap:Nat} {l:List Pr} (h:SV rPr 2 S w a cap l) {k:Nat} (hk:k<l.length):
 ∃b off ra rc,a=some ⟨b,off,none⟩∧S b∧I64 l[k].weight∧l[k].row.length≤lim∧SV rCel 2 S w ra rc l[k].row∧w.cell? ⟨b,off+k*2,none⟩=some (.slice ra l[k].row.length rc)∧w.cell? ⟨b,off+k*2+1,none⟩=some (.int .i64 l[k].weight):=by
 obtain ⟨b,off,c,ha,hS,⟨h1,h2,ra,rc,rfl,h3⟩,_,hc⟩:=h.get rPr_ok hk
 exact ⟨b,off,ra,rc,ha,hS,h1,h2,h3,by simpa using hc 0 (by omega),by simpa using hc 1 (by omega)⟩
theorem inf_Pair:((Tryz.prog).info? 66).map (fun i=>(i.zero,i.size,i.bytes))=some (some (.agg #[.slice none 0 0, .int .i64 0]),2,32):=by kernel_rfl
theorem inf_Cell:((Tryz.prog).info? 74).map (fun i=>(i.zero,i.size,i.bytes))=some (some (.agg #[.int .u64 0, .string ⟨#[]⟩]),2,24):=by kernel_rfl
def SetMap (w:World) (m:Nat) (xs:List (List UInt8)):Prop:=
 ∃(es:Array MapEntry) (clk:Nat) (ks:List (List UInt8)),w.heap[m]? =some (.map es clk)∧es.toList.map (fun e=>(e.key,e.val))=ks.map (fun n=>(Value.string (bs n),Value.bool true))∧∀n,n∈ks↔n∈xs
theorem SetMap.made (w:World):SetMap (w.alloc (.map #[] 0)) w.heap.size []:=⟨#[],0,[],heap_new w _,rfl,fun _=>Iff.rfl⟩
theorem SetMap.fr {T:Nat→Prop} {w w' :World} {m:Nat} {xs:List (List UInt8)} (h:SetMap w m xs) (hf:Fr T w w') (hT:¬T m):SetMap w' m xs:=
 let ⟨es,clk,ks,h1,h2⟩:=h;⟨es,clk,ks,hf.heap h1 hT,h2⟩
theorem bs_beq (a b:List UInt8):(bs a == bs b)=decide (a=b):=by
 show ByteArray.beq (bs a) (bs b)=_
 by_cases h:a=b
 · subst h;simp[ByteArray.beq]
 · have:(bs a).data≠(bs b).data:=fun e=>h (by simpa [bs] using e)
   simp[ByteArray.beq,h,this]
theorem findNow_set (n:List UInt8):∀(l:List MapEntry) (ks:List (List UInt8)) (i:Nat),l.map (fun e=>(e.key,e.val))=ks.map (fun n=>(Value.string (bs n),Value.bool true))→
 (n∈ks∧∃j,Instr.findNow .string (.string (bs n)) l i=some (some (i+j, .bool true))∧ks[j]? =some n)∨(n ∉ ks∧Instr.findNow .string (.string (bs n)) l i=some none)
 | [],[],i,_=>Or.inr ⟨by simp,rfl⟩
 | [],_::_,i,h=>by simp at h
 | _::_,[],i,h=>by simp at h
 | e::l,k::ks,i,h=>by
   simp only[List.map_cons,List.cons.injEq,Prod.mk.injEq] at h
   obtain ⟨⟨h1,h2⟩,h3⟩:=h
   have hs:Instr.sameNow .string (.string (bs n)) e.key=some (decide (n=k)):=by rw[h1,←bs_beq];rfl
   by_cases hk:n=k
   · subst hk
     refine Or.inl ⟨by simp,0,?_,by simp⟩
     simp[Instr.findNow,hs,h2]
   · rw[decide_eq_false hk] at hs
     rcases findNow_set n l ks (i+1) h3 with ⟨hm,j,hj,hg⟩ | ⟨hm,hj⟩
     · refine Or.inl ⟨by simp[hm],j+1,?_,by simpa using hg⟩
       simp[Instr.findNow,hs,hj];omega
     · refine Or.inr ⟨by simp[hk,hm],?_⟩
       simp[Instr.findNow,hs,hj]
section
variable {P:Program} {t k e:TypeId}
theorem checkKey_string (hk:P.underlying k=some .string) (b:Bool) (s:ByteArray) (w:World):(Instr.checkKey b 10000 k (.string s)).run P w= .ok () w:=by
 show (Instr.checkKey b (9999+1) k (.string s)).run P w= .ok () w
 unfold Instr.checkKey
 simp[run_underlying hk]
theorem run_lookup_set {w:World} {m:Nat} {xs:List (List UInt8)} (h:SetMap w m xs) (ht:P.underlying t=some (.map k e)) (hk:P.underlying k=some .string) (hz:∀w,(zeroValue e).run P w= .ok (.bool false) w) (n:List UInt8):
 (Instr.lookup t (.map (some m)) (.string (bs n)) false).run P w= .ok (.bool (decide (n∈xs))) w:=by
 obtain ⟨es,clk,ks,h1,h2,h3⟩:=h
 have hg:(Sem.getObj m Sem.pure).run P w= .ok (.map es clk) w:=by simp[Sem.run,h1]
 unfold Instr.lookup
 rcases findNow_set n es.toList ks 0 h2 with ⟨hm,j,hj,_⟩ | ⟨hm,hj⟩
 · have hd:decide (n∈xs)=true:=by simpa using (h3 n).1 hm
   simp[run_underlying ht,getObj,hg,checkKey_string hk,Instr.findKey,run_underlying hk,hj,hd]
 · have hd:decide (n∈xs)=false:=by simpa using fun h=>hm ((h3 n).2 h)
   simp[run_underlying ht,getObj,hg,checkKey_string hk,Instr.findKey,run_underlying hk,hj,hd,hz]
theorem run_mapUpdate_set {w:World} {m:Nat} {xs:List (List UInt8)} (h:SetMap w m xs) (ht:P.underlying t=some (.map k e)) (hk:P.underlying k=some .string) (n:List UInt8):
 ∃w',(Instr.mapUpdate t (.map (some m)) (.string (bs n)) (.bool true)).run P w= .ok () w' ∧SetMap w' m (n::xs)∧Fr (fun b=>b=m) w w' :=by
 obtain ⟨es,clk,ks,h1,h2,h3⟩:=h
 have hlt:=heap_lt h1
 have hfr:∀o,Fr (fun b=>b=m) w {w with heap:=w.heap.setIfInBounds m o}:=fun o=>⟨rfl,rfl,rfl,by simp,fun b hb hne=>by simp[Array.getElem?_setIfInBounds_ne (fun e=>hne e.symm)]⟩
 have hget:∀o,({w with heap:=w.heap.setIfInBounds m o}:World).heap[m]? =some o:=fun o=>by simp[hlt]
 have hg:(Sem.getObj m Sem.pure).run P w= .ok (.map es clk) w:=by simp[Sem.run,h1]
 have hset:∀o,(Sem.setObj m o (Sem.pure ())).run P w= .ok () {w with heap:=w.heap.setIfInBounds m o}:=fun o=>by simp[Sem.run,h1]
 unfold Instr.mapUpdate
 rcases findNow_set n es.toList ks 0 h2 with ⟨hm,j,hj,hkj⟩ | ⟨hm,hj⟩
 · have hjl:j<ks.length:=(List.getElem?_eq_some_iff.1 hkj).1
   have hlen:es.size=ks.length:=by have:=congrArg List.length h2;simpa using this
   have hej:(es.toList.map (fun e=>(e.key,e.val)))[j]? =some (Value.string (bs n),Value.bool true):=by rw[h2,List.getElem?_map,hkj];rfl
   have hkey:es[j]?.map (·.key)=some (.string (bs n)):=by
    rw[List.getElem?_map,Array.getElem?_toList] at hej
    cases he:es[j]? with
    | none=>rw[he] at hej;simp at hej
    | some x=>rw[he] at hej;simp at hej;simp[hej.1]
   have hstay:(Instr.keyThatStays (.string (bs n)) (.string (bs n))).run P w= .ok (.string (bs n)) w:=by
    unfold Instr.keyThatStays
    rw[if_pos (show Instr.sameBits 10000 (.string (bs n)) (.string (bs n))=true from (show (bs n == bs n)=true by rw[bs_beq];simp))]
    rfl
   refine ⟨_,?_,⟨es.modify j fun e=>{e with key:= .string (bs n),val:= .bool true},clk,ks,hget _,?_,fun y=>by rw[h3 y];simp;intro hy;subst hy;exact (h3 _).1 hm⟩,hfr _⟩
   · simp[run_underlying ht,getObj,setObj,hg,hset,checkKey_string hk,Instr.findKey,run_underlying hk,hj,hkey,hstay]
   · rw[←h2]
     apply List.ext_getElem?
     intro i
     simp only[List.getElem?_map,Array.getElem?_toList,Array.getElem?_modify]
     by_cases hij:j=i
     · subst hij
       rw[List.getElem?_map,Array.getElem?_toList] at hej
       cases he:es[j]? with
       | none=>simp
       | some x=>rw[he] at hej;simp at hej;simp[hej]
     · simp[hij]
 · refine ⟨_,?_,⟨es.push {key:= .string (bs n),val:= .bool true,born:=clk},clk+1,ks++[n],hget _,by simp[h2],fun y=>by simp[h3 y,or_comm]⟩,hfr _⟩
   simp[run_underlying ht,getObj,setObj,hg,hset,checkKey_string hk,Instr.findKey,run_underlying hk,hj]
end
open Go.RowKit Go.Shelf Go.Lib
def kindNames:List (List UInt8):=[[105,110,116],[117,105,110,116],[98,111,111,108],[98,121,116,101,115],[116,101,120,116],[102,108,111,97,116]]
def nameVals:List Value:=kindNames.map fun n=> .string (bs n)
structure Laid (w:World):Prop where
 tabs:Utf8Tabs (Tryz.lays196_ren.g 3) (Tryz.lays196_ren.g 4) w
 names:∀j u,nameVals[j]? =some u→w.cell? ⟨1,j,none⟩=some u
theorem Laid.fr {T:Nat→Prop} {w w' :World} (h:Laid w) (hf:Fr T w w') (h0:¬T 2) (h1:¬T 3) (h2:¬T 1):Laid w' :=
 ⟨⟨fun c hc=>hf.cell (h.tabs.1 c hc) h0,fun i hi=>⟨hf.cell (h.tabs.2 i hi).1 h1,hf.cell (h.tabs.2 i hi).2 h1⟩⟩,fun j u hu=>hf.cell (h.names j u hu) h2⟩
theorem Laid.frN {w w' :World} (h:Laid w) (hf:Fr nob w w'):Laid w' :=h.fr hf id id id
theorem Laid.lt {w:World} (h:Laid w):2<w.heap.size∧3<w.heap.size∧1<w.heap.size:=
 ⟨World.block_lt_of_cell? w _ (h.tabs.1 0 (by omega)),World.block_lt_of_cell? w _ (h.tabs.2 0 (by omega)).1,World.block_lt_of_cell? w _ (h.names 0 _ rfl)⟩
theorem Laid.new {T:Nat→Prop} {w0 w w' :World} (h0:Laid w0) (h:Laid w) (hf:Fr T w w') (hT:∀k,T k→w0.heap.size≤k):Laid w' :=
 h.fr hf (fun ht=>by have:=hT _ ht;have:=h0.lt;omega) (fun ht=>by have:=hT _ ht;have:=h0.lt;omega) (fun ht=>by have:=hT _ ht;have:=h0.lt;omega)
theorem inf_string:((Tryz.prog).info? 9).map (fun i=>(i.zero,i.size,i.bytes))=some (some (.string ⟨#[]⟩),1,16):=by kernel_rfl
theorem nameVals_one:∀u∈nameVals,u.oneCell' =true:=by
 intro u hu
 obtain ⟨n,_,rfl⟩:=List.mem_map.1 hu
 rfl
set_option maxRecDepth 100000 in
theorem clonestr_any (w:World) (a:Addr) (n cap:Nat) (cs:List Value) (hs:Src Tryz.prog 1 199 (.slice (some a) n cap) n cs ((w.alloc (.cells #[] 9 (0,0))))) (hn:n≤1000):
 Calls Tryz.prog 159 #[.slice (some a) n cap] w fun e w' =>∃a' cap',e= .returned (.slice a' n cap')∧Fr nob w w' ∧Vec (newb w w') w' 1 a' n cap' cs:=by
 have H:=Lib.hid hs
 clear hs
 have kq:=fun (w:World)=>Lib.run_eql_slice_nil (P:=Tryz.prog) w 199 _ (some a) n cap 0 0 Tryz.underlying199
 go_enter Tryz.func159,Tryz.ntmps159
 go_wp2_with (at_builtin;refine wpList_append_vec rfl _ _ _ _ rfl rfl (Vec.empty w _ 1) _ _ _ Tryz.underlying199 inf_string rfl _ n cs rfl H.out (by unfold maxLen;omega) (by omega) ?_)
 intro a1 c1 w1 hv1 hf1 _
 go_wp2_with fail
 go_ret
 refine ⟨a1,c1,rfl,frN_newb _ _ hf1,?_⟩
 have h1:=hv1.mono (grow_newb w _ w1 (by simp) hf1.size)
 simpa using h1
set_option maxRecDepth 100000 in
theorem names_any (w:World) (hL:Laid w):
 Calls Tryz.prog 126 #[] w fun e w' =>∃a cap,e= .returned (.slice a 6 cap)∧Fr nob w w' ∧Vec (newb w w') w' 1 a 6 cap nameVals:=by
 have hs:Src Tryz.prog 1 199 (.slice (some ⟨1,0,none⟩) 6 6) 6 nameVals ((w.alloc (.cells #[] 9 (0,0)))):=
  Src.ofSlice _ Tryz.underlying199 _ _ _ _ rfl (fun j u hu=>by
   rw[Addr.add_lit,Nat.zero_add]
   exact (hL.frN ((Fr.refl nob w).alloc _)).names j u hu) nameVals_one
 have h:=clonestr_any w _ _ _ _ hs (by omega)
 go_enter Tryz.func126,Tryz.ntmps126
 go_wp2_with fail
 refine h.mono ?_
 rintro e w' ⟨a,cap,rfl,hf,hv⟩
 go_wp2_with fail
 go_ret
 exact ⟨a,cap,rfl,hf,hv⟩
def kindOk (k:Int):Bool:=decide (0≤k)&&decide (k<6)
set_option maxRecDepth 100000 in
theorem kindly_any (k:Int) (w:World) (hL:Laid w):
 Calls Tryz.prog 96 #[.int .i64 k] w fun e w' =>e= .returned (.bool (kindOk k))∧Fr nob w w' :=by
 have hn:=names_any w hL
 by_cases h0:0≤k
 · go_enter Tryz.func96,Tryz.ntmps96
   go_wp2_with fail
   refine hn.mono ?_
   rintro e w' ⟨a,cap,rfl,hf,hv⟩
   go_wp2_with fail
   go_ret
   exact ⟨by simp[kindOk,h0],hf⟩
 · have hd:decide (0≤k)=false:=decide_eq_false h0
   clear hn
   go_enter Tryz.func96,Tryz.ntmps96
   go_wp2_with fail
   go_ret
   exact ⟨by simp[kindOk];omega,Fr.refl _ _⟩
theorem valid_any (n:List UInt8) (hn:n.length≤lim) (w:World) (hL:Laid w):
 Calls Tryz.prog 129 #[.string (bs n)] w fun e w' =>e= .returned (.bool (validD n))∧Fr nob w w' :=by
 have h:=Any.utf8_ValidString Tryz.lays196 (bs n) w (by rw[bs_size];unfold lim at hn;omega) hL.tabs
 refine Calls.mono h ?_
 rintro e w' ⟨rfl,hB⟩
 exact ⟨rfl,Fr.ofBelow hB⟩
end Go.Proofs.YtibpkfnfcdbiiaaGreatDoor
namespace Go.Proofs.YtibpkfnfcdbiiaaGreatDoor
set_option linter.unusedSimpArgs false
open Go.RowKit Go.Shelf Go.Lib
set_option linter.unusedVariables false
def letters:List UInt8:=[97,98,99,100,101,102,103,104,105,106,107,108,109,110,111,112,113,114,115,116,117,118,119,120,121,122,48,49,50,51,52,53,54,55,56,57,95]
def nameOk (n:List UInt8):Bool:=!n.isEmpty&&n.all (letters.contains ·)
theorem dropWhile_nil {α:Type} (p:α→Bool):∀(l:List α),l.dropWhile p=[]↔l.all p=true
 | []=>by simp
 | a::l=>by
   rw[List.dropWhile_cons]
   cases h:p a<;>simp[h,dropWhile_nil p l]
theorem trimS_nil (l cs:List UInt8):trimS l cs=[]↔l.all (cs.contains ·)=true:=by
 unfold trimS trimLeftS trimRightS
 rw[dropWhile_nil]
 constructor
 · intro h
   have h1:((l.reverse.dropWhile (cs.contains ·)).all (cs.contains ·))=true:=by rw[←List.all_reverse];exact h
   have h2:l.reverse.all (cs.contains ·)=true:=by
    rw[←List.takeWhile_append_dropWhile (p:=(cs.contains ·)) (l:=l.reverse),List.all_append,h1]
    simp[List.all_takeWhile]
   rwa [List.all_reverse] at h2
 · intro h
   have h2:l.reverse.all (cs.contains ·)=true:=by rwa [List.all_reverse]
   rw[(dropWhile_nil _ _).2 h2]
   rfl
theorem trim_any (n:List UInt8) (hn:n.length≤lim) (w:World):
 Calls Tryz.prog 125 #[.string (bs n), .string ⟨#[97,98,99,100,101,102,103,104,105,106,107,108,109,110,111,112,113,114,115,116,117,118,119,120,121,122,48,49,50,51,52,53,54,55,56,57,95]⟩] w
  fun e w' =>e= .returned (.string (bs (trimS n letters)))∧Fr nob w w' :=by
 have h:=Any.strings_Trim_laid Tryz.lays160 (by kernel_rfl) (bs n) ⟨#[97,98,99,100,101,102,103,104,105,106,107,108,109,110,111,112,113,114,115,116,117,118,119,120,121,122,48,49,50,51,52,53,54,55,56,57,95]⟩ w (by rw[bs_size];unfold lim at hn;omega) (by decide) (ascii_of_all (by decide))
 refine Calls.mono h ?_
 rintro e w' ⟨rfl,hB⟩
 exact ⟨rfl,Fr.ofBelow hB⟩
set_option maxRecDepth 100000 in
theorem seentake_any (w:World) (m:Nat) (xs:List (List UInt8)) (n:List UInt8) (h:SetMap w m xs) (hn:n.length≤lim):
 Calls Tryz.prog 95 #[.map (some m), .string (bs n)] w fun e w' =>e= .returned (.bool (nameOk n&&!(decide (n∈xs))))∧SetMap w' m (n::xs)∧Fr (fun b=>b=m) w w' :=by
 have H:=Lib.hid h
 clear h
 by_cases h0:n=[]
 · subst h0
   obtain ⟨w',hu,hs,hf⟩:=run_mapUpdate_set (P:=Tryz.prog) (t:=165) H.out Tryz.underlying165 Tryz.underlying9 []
   rw[bs_nil] at hu ⊢
   go_enter Tryz.func95,Tryz.ntmps95
   go_wp2_with fail
   go_ret
   exact ⟨rfl,hs,hf⟩
 · have e0:(bs n).toList.isEmpty=false:=by rw[bs_isEmpty];cases n;exact absurd rfl h0;rfl
   have e1:((bs n).toList == [])=false:=by rw[bs_toList];cases n;exact absurd rfl h0;rfl
   obtain ⟨N,hN⟩:∃N,N=bs n:=⟨_,rfl⟩
   have ht:=trim_any n hn
   have hlen:n.isEmpty=false:=by cases n;exact absurd rfl h0;rfl
   by_cases h1:trimS n letters=[]
   · have hok:nameOk n=true:=by unfold nameOk;rw[hlen,(trimS_nil _ _).1 h1];rfl
     rw[h1,bs_nil] at ht
     rw[hok]
     have HN:=Lib.hid hN
     rw[←hN] at ht e0 e1 ⊢
     clear h0 hN hok hlen h1
     go_enter Tryz.func95,Tryz.ntmps95
     go_wp2_with fail
     refine (ht _).mono ?_
     rintro e w1 ⟨rfl,hf⟩
     have H1:=H.out.fr hf id
     have hl:=run_lookup_set (P:=Tryz.prog) (t:=165) H1 Tryz.underlying165 Tryz.underlying9 Tryz.zeroValue4 n
     obtain ⟨w',hu,hs,hf2⟩:=run_mapUpdate_set (P:=Tryz.prog) (t:=165) H1 Tryz.underlying165 Tryz.underlying9 n
     rw[←HN.out] at hl hu
     clear H1 ht
     go_wp2_with fail
     go_ret
     exact ⟨by simp,hs,hf.nthen hf2⟩
   · have hok:nameOk n=false:=by
      unfold nameOk
      rw[hlen]
      cases h2:n.all (letters.contains ·)
      · rfl
      · exact absurd ((trimS_nil _ _).2 h2) h1
     obtain ⟨t,hT⟩:∃t,t=trimS n letters:=⟨_,rfl⟩
     have t0:(bs t).toList.isEmpty=false:=by rw[bs_isEmpty];subst hT;cases h:trimS n letters;exact absurd h h1;rfl
     have t1:((bs t).toList == [])=false:=by rw[bs_toList];subst hT;cases h:trimS n letters;exact absurd h h1;rfl
     obtain ⟨T,hTT⟩:∃T,T=bs t:=⟨_,rfl⟩
     rw[←hT,←hTT] at ht
     rw[←hTT] at t0 t1
     rw[hok]
     have HN:=Lib.hid hN
     rw[←hN] at ht e0 e1 ⊢
     clear h0 hN hok hlen h1 hT hTT
     go_enter Tryz.func95,Tryz.ntmps95
     go_wp2_with fail
     refine (ht _).mono ?_
     rintro e w1 ⟨rfl,hf⟩
     have H1:=H.out.fr hf id
     obtain ⟨w',hu,hs,hf2⟩:=run_mapUpdate_set (P:=Tryz.prog) (t:=165) H1 Tryz.underlying165 Tryz.underlying9 n
     rw[←HN.out] at hu
     clear H1 ht
     go_wp2_with fail
     go_ret
     exact ⟨by simp,hs,hf.nthen hf2⟩
end Go.Proofs.YtibpkfnfcdbiiaaGreatDoor
namespace Go.Proofs.YtibpkfnfcdbiiaaGreatDoor
set_option linter.unusedSimpArgs false
open Go.RowKit
set_option linter.unusedVariables false
def schemaGo:List (List UInt8)→List Col→Nat
 | _,[]=>0
 | xs,c::r=>if 32<c.name.length then 7 else if (nameOk c.name&&!(decide (c.name∈xs)))=false then 2 else if kindOk c.kind=false then 10 else schemaGo (c.name::xs) r
def schemaCheck (s:List Col):Nat:=if s.length=0 then 4 else if 8<s.length then 13 else schemaGo [] s
def namesAhead (s:List Col) (k:Nat):List (List UInt8):=((s.take k).map (·.name)).reverse
theorem namesAhead_succ (s:List Col) {k:Nat} (h:k<s.length):namesAhead s (k+1)=s[k].name::namesAhead s k:=by
 unfold namesAhead
 rw[List.take_succ_eq_append_getElem h,List.map_append,List.reverse_append];rfl
set_option maxRecDepth 100000 in
set_option maxHeartbeats 1000000 in
theorem schema_any (S:Nat→Prop) (w:World) (a:Option Addr) (cap:Nat) (s:List Col) (h:SV rCol 2 S w a cap s) (hL:Laid w) (hl:s.length≤lim):
 Calls Tryz.prog 53 #[.slice a s.length cap] w fun e w' =>e= .returned (.int .i64 (schemaCheck s))∧Fr nob w w' :=by
 obtain ⟨E,hE⟩:∃E,E=schemaCheck s:=⟨_,rfl⟩
 rw[←hE]
 unfold lim at hl
 have HE:=Lib.hid hE
 have H:=Lib.hid h
 have HL:=Lib.hid hL
 clear hE h hL
 by_cases h0:s.length=0
 · have hEE:E=4:=by rw[HE.out];unfold schemaCheck;rw[if_pos h0]
   clear HE
   subst hEE
   rw[h0]
   go_enter Tryz.func53,Tryz.ntmps53
   go_wp2_with fail
   go_ret
   exact ⟨rfl,Fr.refl _ _⟩
 by_cases h8:8<s.length
 · have hEE:E=13:=by rw[HE.out];unfold schemaCheck;rw[if_neg h0,if_pos h8]
   clear HE
   subst hEE
   have d0:((s.length:Int) == 0)=false:=by rw[beq_eq_false_iff_ne];omega
   go_enter Tryz.func53,Tryz.ntmps53
   go_wp2_with fail
   go_ret
   exact ⟨rfl,Fr.refl _ _⟩
 have hEE:E=schemaGo (namesAhead s 0) (s.drop 0):=by rw[HE.out];unfold schemaCheck;rw[if_neg h0,if_neg h8];rfl
 have HEE:=Lib.hid hEE
 have d0:((s.length:Int) == 0)=false:=by rw[beq_eq_false_iff_ne];omega
 clear HE hEE h0
 have hM:=SetMap.made w
 have hmk:∀(w:World),(Instr.makeMap 165 none).run Tryz.prog w= .ok (.map (some w.heap.size)) (w.alloc (.map #[] 0)):=fun _=>rfl
 have hfM:=(Fr.refl nob w).alloc (.map #[] 0)
 go_enter Tryz.func53,Tryz.ntmps53
 go_wp2_with fail
 obtain ⟨m,hm⟩:∃m,m=w.heap.size:=⟨_,rfl⟩
 obtain ⟨w0,hw0⟩:∃w0,w0=w.alloc (.map #[] 0):=⟨_,rfl⟩
 rw[←hm,←hw0] at hM ⊢
 rw[←hw0] at hfM
 have HM:=Lib.hid hM
 have Hm:=Lib.hid hm
 clear hw0 hM hm
 go_loopw [17] (fun v17 wr=>∃k:Nat,k≤s.length∧v17= .int .i64 k∧E=schemaGo (namesAhead s k) (s.drop k)∧SetMap wr m (namesAhead s k)∧Fr nob w wr) (fun v17 _=>s.length - (intOf v17).toNat)
 case atStart=>exact ⟨0,Nat.zero_le _,rfl,HEE.out,HM.out,hfM⟩
 case round=>
  obtain ⟨k,hk,rfl,hEk,hMk,hf⟩:=hrel
  have HEk:=Lib.hid hEk
  have HMk:=Lib.hid hMk
  clear hEk hMk
  by_cases hlt:k<s.length
  · obtain ⟨b,off,rfl,hSb,hi,hnl,c0,c1⟩:=col_at (H.out.frN rCol_ok hf) hlt
    have hE2:E=if 32<s[k].name.length then 7 else if (nameOk s[k].name&&!(decide (s[k].name∈namesAhead s k)))=false then 2 else if kindOk s[k].kind=false then 10 else schemaGo (s[k].name::namesAhead s k) (s.drop (k+1)):=by
     rw[HEk.out,List.drop_eq_getElem_cons hlt];rfl
    have HE2:=Lib.hid hE2
    have hns:=namesAhead_succ s hlt
    obtain ⟨n,hn⟩:∃n,n=s[k].name:=⟨_,rfl⟩
    obtain ⟨kd,hkd⟩:∃kd,kd=s[k].kind:=⟨_,rfl⟩
    rw[←hn] at hnl c0 HE2 hns
    rw[←hkd] at hi c1 HE2
    have Hns:=Lib.hid hns
    unfold lim at hnl
    unfold I64 at hi
    clear hE2 HEk hns hn hkd
    have hsz:=bs_size n
    have hmlt:m<wr.heap.size:=let ⟨_,_,_,h,_⟩:=HMk.out;heap_lt h
    go_wp2_with fail
    · have h32:32<n.length:=by omega
      go_ret
      exact ⟨by rw[HE2.out,if_pos h32];rfl,hf.alloc _⟩
    · have h32:¬32<n.length:=by omega
      refine (seentake_any _ m (namesAhead s k) n (HMk.out.fr ((Fr.refl nob wr).alloc _) id) (by unfold lim;omega)).mono ?_
      rintro e w1 ⟨rfl,hs1,hf1⟩
      have hB:=hf1.heap (heap_new wr (.cells #[.string (bs n), .int .i64 kd] 71 (0,0))) (by omega)
      have k1:=cell_of hB 1
      simp at k1
      have hfw:Fr nob w w1:=hf.trans (((Fr.refl nob wr).alloc _).nthen hf1) (fun j hj e=>by subst e;have:=Hm.out;omega)
      have HS1:=Lib.hid hs1
      clear hs1
      cases hb:(nameOk n&&!(decide (n∈namesAhead s k)))
      · have hEE:E=2:=by rw[HE2.out,if_neg h32,if_pos hb]
        have HEE:=Lib.hid hEE
        clear hEE hb
        go_wp2_with fail
        go_ret
        exact ⟨by rw[HEE.out];rfl,hfw⟩
      · have hE3:E=if kindOk kd=false then 10 else schemaGo (n::namesAhead s k) (s.drop (k+1)):=by rw[HE2.out,if_neg h32,if_neg (by rw[hb];simp)]
        have HE3:=Lib.hid hE3
        clear hE3 hb
        go_wp2_with fail
        refine (kindly_any kd _ (HL.out.frN hfw)).mono ?_
        rintro e w2 ⟨rfl,hf2⟩
        cases hb:kindOk kd
        · have hEE:E=10:=by rw[HE3.out,if_pos hb]
          have HEE:=Lib.hid hEE
          clear hEE hb
          go_wp2_with fail
          go_ret
          exact ⟨by rw[HEE.out];rfl,hfw.andN hf2⟩
        · have hEE:E=schemaGo (namesAhead s (k+1)) (s.drop (k+1)):=by rw[HE3.out,if_neg (by rw[hb];simp),Hns.out]
          have HEE:=Lib.hid hEE
          clear hEE hb
          go_wp2_with fail
          go_roundw
          case rel=>exact ⟨k+1,by omega,by go_num,HEE.out,by rw[Hns.out];exact HS1.out.fr hf2 id,hfw.andN hf2⟩
          case measure=>simp[intOf];omega
  · have hEE:E=0:=by rw[HEk.out,List.drop_of_length_le (by omega)];rfl
    have HEE:=Lib.hid hEE
    clear hEE HEk
    go_wp2_with fail
    go_ret
    exact ⟨by rw[HEE.out];rfl,hf⟩
end Go.Proofs.YtibpkfnfcdbiiaaGreatDoor
