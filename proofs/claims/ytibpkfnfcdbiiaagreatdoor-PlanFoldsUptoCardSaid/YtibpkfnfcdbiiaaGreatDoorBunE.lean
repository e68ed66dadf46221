/- Sorted lists in plain words: what the steps of a merge in place come to. No program in sight. Pairs in a row, exchanged in place. Contracts of slices.swapRangeCmpFunc, rotateCmpFunc. Contract of slices.rotateCmpFunc. Contract of slices.insertionSortCmpFunc. -/
import Derived.WalkKit
import Derived.Test.YtibpkfnfcdbiiaaGreatDoorBunB
import Derived.Test.YtibpkfnfcdbiiaaGreatDoorBunA
namespace Go.Proofs.YtibpkfnfcdbiiaaGreatDoor
set_option linter.unusedSimpArgs false
set_option linter.unusedVariables false
structure Ordr {α:Type} (V:α→Prop) (cf:α→α→Int):Prop where
 anti:∀x y,V x→V y→(cf x y<0↔0<cf y x)
 trans:∀x y z,V x→V y→V z→cf x y≤0→cf y z≤0→cf x z≤0
section
variable {α:Type} {V:α→Prop} {cf:α→α→Int}
def Srt (cf:α→α→Int) (l:List α):Prop:=l.Pairwise (fun x y=>cf x y≤0)
theorem Ordr.le_of_not (h:Ordr V cf) {x y:α} (hx:V x) (hy:V y) (hn:¬cf x y<0):cf y x≤0:=by
 have:=h.anti x y hx hy;omega
theorem Ordr.le_of_lt (h:Ordr V cf) {x y:α} (hx:V x) (hy:V y) (hn:cf x y<0):cf x y≤0:=by omega
theorem Srt.append {a b:List α} (ha:Srt cf a) (hb:Srt cf b) (h:∀x∈a,∀y∈b,cf x y≤0):Srt cf (a++b):=List.pairwise_append.2 ⟨ha,hb,h⟩
theorem Srt.left {a b:List α} (h:Srt cf (a++b)):Srt cf a:=(List.pairwise_append.1 h).1
theorem Srt.right {a b:List α} (h:Srt cf (a++b)):Srt cf b:=(List.pairwise_append.1 h).2.1
theorem Srt.across {a b:List α} (h:Srt cf (a++b)):∀x∈a,∀y∈b,cf x y≤0:=(List.pairwise_append.1 h).2.2
theorem Srt.le_last {a:List α} {z:α} (h:Srt cf (a++[z])):∀x∈a,cf x z≤0:=fun x hx=>h.across x hx z (by simp)
theorem Srt.head_le {a:List α} {z:α} (h:Srt cf (z::a)):∀x∈a,cf z x≤0:=(List.pairwise_cons.1 h).1
theorem srt_insert (O:Ordr V cf) {x:α} {R1 R2:List α} (hx:V x) (hV:∀y∈R1++R2,V y) (hs:Srt cf (R1++R2)) (h1:R1=[]∨∃a z,R1=a++[z]∧cf z x≤0) (h2:R2=[]∨∃z a,R2=z::a∧cf x z≤0):
 Srt cf (R1++([x]++R2)):=by
 have g1:∀y∈R1,cf y x≤0:=by
  rcases h1 with rfl | ⟨a,z,rfl,hz⟩
  · simp
  · intro y hy
    rcases List.mem_append.1 hy with hy' | hy'
    · exact O.trans _ _ _ (hV y (by simp[hy'])) (hV z (by simp)) hx (hs.left.le_last y hy') hz
    · obtain rfl:y=z:=by simpa using hy'
      exact hz
 have g2:∀y∈R2,cf x y≤0:=by
  rcases h2 with rfl | ⟨z,a,rfl,hz⟩
  · simp
  · intro y hy
    rcases List.mem_cons.1 hy with rfl | hy'
    · exact hz
    · exact O.trans _ _ _ hx (hV z (by simp)) (hV y (by simp[hy'])) hz (hs.right.head_le y hy')
 refine hs.left.append (List.pairwise_append.2 ⟨by simp,hs.right,fun a ha y hy=>?_⟩) (fun y hy z hz=>?_)
 · obtain rfl:a=x:=by simpa using ha
   exact g2 y hy
 · rcases List.mem_append.1 hz with hz' | hz'
   · obtain rfl:z=x:=by simpa using hz'
     exact g1 y hy
   · exact hs.across y hy z hz'
theorem srt_cut (O:Ordr V cf) {L1 L2 R1 R2:List α} (hV:∀y∈(L1++L2)++(R1++R2),V y) (hL:Srt cf (L1++L2)) (hR:Srt cf (R1++R2))
 (h1:L1=[]∨R2=[]∨∃a z u b,L1=a++[z]∧R2=u::b∧cf z u≤0) (h2:R1=[]∨L2=[]∨∃a z u b,R1=a++[z]∧L2=u::b∧cf z u≤0)
 {X Y:List α} (hX:X.Perm (L1++R1)) (hY:Y.Perm (L2++R2)) (sX:Srt cf X) (sY:Srt cf Y):Srt cf (X++Y):=by
 have key:∀{A B C D:List α},(∀y∈(A++B)++(C++D),V y)→Srt cf (A++B)→Srt cf (C++D)→(A=[]∨D=[]∨∃a z u b,A=a++[z]∧D=u::b∧cf z u≤0)→∀x∈A,∀y∈D,cf x y≤0:=by
  intro A B C D hV' hA hC h x hx y hy
  rcases h with rfl | rfl | ⟨a,z,u,b,rfl,rfl,hzu⟩
  · simp at hx
  · simp at hy
  · have hz:cf x z≤0∨x=z:=by
     rcases List.mem_append.1 hx with hx' | hx'
     · exact Or.inl (hA.left.le_last x hx')
     · exact Or.inr (by simpa using hx')
    have hu:cf u y≤0∨u=y:=by
     rcases List.mem_cons.1 hy with e | hy'
     · exact Or.inr e.symm
     · exact Or.inl (hC.right.head_le y hy')
    have vx:V x:=hV' x (by simp only[List.mem_append] at hx ⊢;exact Or.inl (Or.inl hx))
    have vz:V z:=hV' z (by simp)
    have vu:V u:=hV' u (by simp)
    have vy:V y:=hV' y (by simp only[List.mem_append,List.mem_cons] at hy ⊢;exact Or.inr (Or.inr hy))
    have e1:cf x u≤0:=by
     rcases hz with hz | rfl
     · exact O.trans _ _ _ vx vz vu hz hzu
     · exact hzu
    rcases hu with hu | rfl
    · exact O.trans _ _ _ vx vu vy e1 hu
    · exact e1
 refine sX.append sY (fun x hx y hy=>?_)
 rcases List.mem_append.1 (hX.mem_iff.1 hx) with hx' | hx' <;>rcases List.mem_append.1 (hY.mem_iff.1 hy) with hy' | hy'
 · exact hL.across x hx' y hy'
 · exact key hV hL hR h1 x hx' y hy'
 · exact key (A:=R1) (B:=R2) (C:=L1) (D:=L2) (fun v hv=>hV v (by simp only[List.mem_append] at hv ⊢;rcases hv with h | h;exact Or.inr h;exact Or.inl h)) hR hL h2 x hx' y hy'
 · exact hR.across x hx' y hy'
theorem swap_next (A B:List α) (x y:α):((A++x::y::B).set A.length y).set (A.length+1) x=A++y::x::B:=by
 rw[List.set_append_right _ _ (Nat.le_refl _),Nat.sub_self,List.set_cons_zero,List.set_append_right _ _ (by omega),show A.length+1 - A.length=1 by omega]
 rfl
theorem swap_far (A M B:List α) (x y:α):((A++x::(M++y::B)).set A.length y).set (A.length+1+M.length) x=A++y::(M++x::B):=by
 rw[List.set_append_right _ _ (Nat.le_refl _),Nat.sub_self,List.set_cons_zero,List.set_append_right _ _ (by omega),show A.length+1+M.length - A.length=M.length+1 by omega,List.set_cons_succ,
  List.set_append_right _ _ (Nat.le_refl _),Nat.sub_self,List.set_cons_zero]
end
open Go.RowKit
structure Elt where
 p:Pr
 a:Option Addr
 c:Nat
instance:Inhabited Elt:=⟨⟨⟨[],0⟩,none,0⟩⟩
def eltCells (e:Elt):List Value:=[.slice e.a e.p.row.length e.c, .int .i64 e.p.weight]
def eltVal (e:Elt):Value:= .agg #[.slice e.a e.p.row.length e.c, .int .i64 e.p.weight]
theorem eltCells_len (e:Elt):(eltCells e).length=2:=rfl
theorem flat_len (d:List Elt):(d.flatMap eltCells).length=d.length*2:=by
 induction d with
 | nil=>rfl
 | cons e d ih=>simp only[List.flatMap_cons,List.length_append,List.length_cons,ih,eltCells_len];omega
theorem flat_get (d:List Elt) {i:Nat} (hi:i<d.length):(d.flatMap eltCells)[i*2]? =some (.slice d[i].a d[i].p.row.length d[i].c)∧(d.flatMap eltCells)[i*2+1]? =some (.int .i64 d[i].p.weight):=by
 induction d generalizing i with
 | nil=>simp at hi
 | cons e d ih=>
   cases i with
   | zero=>simp[eltCells]
   | succ i=>
     have:=ih (i:=i) (by simpa using hi)
     simp only[List.flatMap_cons,List.getElem_cons_succ]
     rw[List.getElem?_append_right (by rw[eltCells_len];omega),List.getElem?_append_right (by rw[eltCells_len];omega),eltCells_len,show (i+1)*2 - 2=i*2 by omega,show (i+1)*2+1 - 2=i*2+1 by omega]
     exact this
theorem flat_set (d:List Elt) (i:Nat) (e:Elt):(d.set i e).flatMap eltCells=((d.flatMap eltCells).set (i*2) (.slice e.a e.p.row.length e.c)).set (i*2+1) (.int .i64 e.p.weight):=by
 induction d generalizing i with
 | nil=>simp
 | cons x d ih=>
   cases i with
   | zero=>simp[eltCells]
   | succ i=>
     simp only[List.set_cons_succ,List.flatMap_cons]
     rw[ih,List.set_append_right _ _ (by rw[eltCells_len];omega),List.set_append_right _ _ (by rw[eltCells_len];omega),eltCells_len,show (i+1)*2 - 2=i*2 by omega,show (i+1)*2+1 - 2=i*2+1 by omega]
theorem flat_one (d:List Elt):∀u∈d.flatMap eltCells,u.oneCell' =true:=by
 intro u hu
 obtain ⟨e,_,hu⟩:=List.mem_flatMap.1 hu
 simp only[eltCells,List.mem_cons,List.not_mem_nil,or_false] at hu
 rcases hu with rfl | rfl<;>rfl
def EV (w:World) (b off cap:Nat) (d:List Elt):Prop:=Vec (fun k=>k=b) w 2 (some ⟨b,off,none⟩) d.length cap (d.flatMap eltCells)
section
variable {w w' :World} {b off cap:Nat} {d:List Elt}
theorem EV.frN (h:EV w b off cap d) (hf:Fr nob w w'):EV w' b off cap d:=Vec.frN h hf
theorem EV.cells (h:EV w b off cap d) {i:Nat} (hi:i<d.length):
 w.cell? ⟨b,off+i*2,none⟩=some (.slice d[i].a d[i].p.row.length d[i].c)∧w.cell? ⟨b,off+i*2+1,none⟩=some (.int .i64 d[i].p.weight)∧w.frozen? ⟨b,off+i*2,none⟩=false∧w.frozen? ⟨b,off+i*2+1,none⟩=false:=by
 have hv:Vec (fun k=>k=b) w 2 (some ⟨b,off,none⟩) d.length cap (d.flatMap eltCells):=h
 have hle:=hv.le
 obtain ⟨b',off',e,_,_,r2,r3⟩:=hv.addr (by omega)
 cases e
 have g:=flat_get d hi
 exact ⟨by rw[r3 _ (by omega)];exact g.1,by rw[Nat.add_assoc,r3 _ (by omega)];exact g.2,r2 _ (by omega),by rw[Nat.add_assoc];exact r2 _ (by omega)⟩
theorem EV.set (h:EV w b off cap d) {i:Nat} (hi:i<d.length) (e:Elt):
 EV ((w.setCell ⟨b,off+i*2,none⟩ (.slice e.a e.p.row.length e.c)).setCell ⟨b,off+i*2+1,none⟩ (.int .i64 e.p.weight)) b off cap (d.set i e)∧
  Fr (fun k=>k=b) w ((w.setCell ⟨b,off+i*2,none⟩ (.slice e.a e.p.row.length e.c)).setCell ⟨b,off+i*2+1,none⟩ (.int .i64 e.p.weight)):=by
 have hv:Vec (fun k=>k=b) w 2 (some ⟨b,off,none⟩) d.length cap (d.flatMap eltCells):=h
 obtain ⟨h1,f1⟩:=hv.set (j:=i*2) (by omega) (u:= .slice e.a e.p.row.length e.c) rfl
 obtain ⟨h2,f2⟩:=h1.set (j:=i*2+1) (by omega) (u:= .int .i64 e.p.weight) rfl
 rw[←flat_set,←Nat.add_assoc] at h2
 rw[←Nat.add_assoc] at f2
 refine ⟨?_,f1.trans' f2⟩
 unfold EV
 rw[List.length_set]
 exact h2
end
def CmpOk (P:Program) (g:Nat) (lb:Array Value) (V:Elt→Prop) (cf:Elt→Elt→Int) (b:Nat) (w0:World):Prop:=
 ∀x y,V x→V y→∀v,Fr (fun k=>k=b) w0 v→Calls P g (#[eltVal x,eltVal y]++lb) v fun e v' =>e= .returned (.int .i64 (cf x y))∧Fr nob v v'
theorem CmpOk.later {P:Program} {g:Nat} {lb:Array Value} {V:Elt→Prop} {cf:Elt→Elt→Int} {b:Nat} {w0 w1:World} (h:CmpOk P g lb V cf b w0) (hf:Fr (fun k=>k=b) w0 w1):CmpOk P g lb V cf b w1:=
 fun x y hx hy v hv=>h x y hx hy v (hf.trans' hv)
section
variable {w w' :World} {b off cap:Nat} {d A B M R:List Elt} {x y:Elt}
theorem EV.at (h:EV w b off cap d) (hd:d=A++x::R) (i:Nat) (hi:i=A.length):
 i<d.length∧w.cell? ⟨b,off+i*2,none⟩=some (.slice x.a x.p.row.length x.c)∧w.cell? ⟨b,off+i*2+1,none⟩=some (.int .i64 x.p.weight)∧w.frozen? ⟨b,off+i*2,none⟩=false∧w.frozen? ⟨b,off+i*2+1,none⟩=false:=by
 subst hd hi
 have hi:A.length<(A++x::R).length:=by simp
 have:=h.cells hi
 rw[List.getElem_append_right (Nat.le_refl _)] at this
 simp only[Nat.sub_self,List.getElem_cons_zero] at this
 exact ⟨hi,this⟩
theorem EV.swap (h:EV w b off cap d) (hd:d=A++x::(M++y::B)) (i j:Nat) (hi:i=A.length) (hj:j=A.length+1+M.length):
 EV ((((w.setCell ⟨b,off+i*2,none⟩ (.slice y.a y.p.row.length y.c)).setCell ⟨b,off+i*2+1,none⟩ (.int .i64 y.p.weight)).setCell ⟨b,off+j*2,none⟩ (.slice x.a x.p.row.length x.c)).setCell ⟨b,off+j*2+1,none⟩ (.int .i64 x.p.weight)) b off cap (A++y::(M++x::B))∧
  Fr (fun k=>k=b) w ((((w.setCell ⟨b,off+i*2,none⟩ (.slice y.a y.p.row.length y.c)).setCell ⟨b,off+i*2+1,none⟩ (.int .i64 y.p.weight)).setCell ⟨b,off+j*2,none⟩ (.slice x.a x.p.row.length x.c)).setCell ⟨b,off+j*2+1,none⟩ (.int .i64 x.p.weight)):=by
 subst hd hi hj
 obtain ⟨h1,f1⟩:=h.set (i:=A.length) (by simp) y
 obtain ⟨h2,f2⟩:=h1.set (i:=A.length+1+M.length) (by simp;omega) x
 rw[swap_far] at h2
 exact ⟨h2,f1.trans' f2⟩
theorem EV.found (h:EV w b off cap d) {i j:Nat} (hi:i<d.length) (hj:j<d.length) (y:Elt) (u:Value):
 (∃v,((w.setCell ⟨b,off+i*2,none⟩ (.slice y.a y.p.row.length y.c)).setCell ⟨b,off+i*2+1,none⟩ (.int .i64 y.p.weight)).cell? ⟨b,off+j*2,none⟩=some v)∧
 (∃v,((w.setCell ⟨b,off+i*2,none⟩ (.slice y.a y.p.row.length y.c)).setCell ⟨b,off+i*2+1,none⟩ (.int .i64 y.p.weight)).cell? ⟨b,off+j*2+1,none⟩=some v)∧
 (∃v,(((w.setCell ⟨b,off+i*2,none⟩ (.slice y.a y.p.row.length y.c)).setCell ⟨b,off+i*2+1,none⟩ (.int .i64 y.p.weight)).setCell ⟨b,off+j*2,none⟩ u).cell? ⟨b,off+j*2+1,none⟩=some v):=by
 obtain ⟨h1,_⟩:=h.set hi y
 obtain ⟨c0,c1,_,_⟩:=h1.cells (i:=j) (by rw[List.length_set];exact hj)
 exact ⟨⟨_,c0⟩,⟨_,c1⟩,⟨_,by rw[World.cell?_setCell_other _ _ _ _ (fun e=>by simp at e)];exact c1⟩⟩
theorem EV.swap' (h:EV w b off cap d) (hd:d=A++x::(M++y::B)) (i j:Nat) (hi:i=A.length) (hj:j=A.length+1+M.length):
 EV ((((w.setCell ⟨b,off+j*2,none⟩ (.slice x.a x.p.row.length x.c)).setCell ⟨b,off+j*2+1,none⟩ (.int .i64 x.p.weight)).setCell ⟨b,off+i*2,none⟩ (.slice y.a y.p.row.length y.c)).setCell ⟨b,off+i*2+1,none⟩ (.int .i64 y.p.weight)) b off cap (A++y::(M++x::B))∧
  Fr (fun k=>k=b) w ((((w.setCell ⟨b,off+j*2,none⟩ (.slice x.a x.p.row.length x.c)).setCell ⟨b,off+j*2+1,none⟩ (.int .i64 x.p.weight)).setCell ⟨b,off+i*2,none⟩ (.slice y.a y.p.row.length y.c)).setCell ⟨b,off+i*2+1,none⟩ (.int .i64 y.p.weight)):=by
 subst hd hi hj
 obtain ⟨h1,f1⟩:=h.set (i:=A.length+1+M.length) (by simp;omega) x
 obtain ⟨h2,f2⟩:=h1.set (i:=A.length) (by simp) y
 rw[List.set_comm _ _ (by omega),swap_far] at h2
 exact ⟨h2,f1.trans' f2⟩
end
theorem i64_nat (n:Int) (m:Nat) (h:n=m) (hm:m≤9223372036854775807):IntKind.i64.wrap n=m:=by
 rw[IntWalk.i64_in _ (by omega)];exact h
theorem swapped_regroup {α:Type} (A B M P Q:List α) {i:Nat} (hp:i<P.length) (hq:i<Q.length):
 (A++Q.take i)++Q[i]::((P.drop (i+1)++(M++P.take i))++P[i]::(Q.drop (i+1)++B))=A++((Q.take (i+1)++P.drop (i+1))++(M++((P.take (i+1)++Q.drop (i+1))++B))):=by
 rw[List.take_succ_eq_append_getElem hp,List.take_succ_eq_append_getElem hq]
 simp only[List.append_assoc,List.cons_append,List.nil_append]
theorem swapping_regroup {α:Type} (A B M P Q:List α) {i:Nat} (hp:i<P.length) (hq:i<Q.length):
 A++((Q.take i++P.drop i)++(M++((P.take i++Q.drop i)++B)))=(A++Q.take i)++P[i]::((P.drop (i+1)++(M++P.take i))++Q[i]::(Q.drop (i+1)++B)):=by
 rw[List.drop_eq_getElem_cons hp,List.drop_eq_getElem_cons hq]
 simp only[List.append_assoc,List.cons_append,List.nil_append]
set_option maxRecDepth 100000 in
set_option maxHeartbeats 4000000 in
theorem swapRange_any (w:World) (b off cap:Nat) (A B M P Q:List Elt) (cmp:Value) (hd:EV w b off cap (A++(P++(M++(Q++B))))) (hpq:P.length=Q.length) (hlen:(A++(P++(M++(Q++B)))).length≤1099511627776):
 Calls Tryz.prog 184 #[.slice (some ⟨b,off,none⟩) (A++(P++(M++(Q++B)))).length cap, .int .i64 A.length, .int .i64 (A.length+P.length+M.length:Nat), .int .i64 P.length,cmp] w
  fun e w' =>e= .returned (.tuple #[])∧EV w' b off cap (A++(Q++(M++(P++B))))∧Fr (fun k=>k=b) w w' :=by
 obtain ⟨N,hN⟩:∃N,N=(A++(P++(M++(Q++B)))).length:=⟨_,rfl⟩
 rw[←hN] at hlen ⊢
 have hN2:N=A.length+P.length+M.length+Q.length+B.length:=by rw[hN];simp;omega
 have HN:=Lib.hid hN2
 have HD:=Lib.hid hd
 have HPQ:=Lib.hid hpq
 obtain ⟨a0,ha0⟩:∃a0,a0=A.length:=⟨_,rfl⟩
 obtain ⟨b0,hb0⟩:∃b0,b0=A.length+P.length+M.length:=⟨_,rfl⟩
 obtain ⟨n0,hn0⟩:∃n0,n0=P.length:=⟨_,rfl⟩
 rw[←hb0,←hn0,←ha0]
 have Ha:=Lib.hid ha0
 have Hb:=Lib.hid hb0
 have Hn:=Lib.hid hn0
 have hb1:b0+n0≤N:=by omega
 have ha1:a0+n0≤N:=by omega
 clear hN hN2 hd hpq ha0 hb0 hn0
 go_enter Tryz.func184,Tryz.ntmps184
 go_wp2_with fail
 go_loopw [10] (fun v10 wr=>∃i:Nat,i≤n0∧v10= .int .i64 i∧EV wr b off cap (A++((Q.take i++P.drop i)++(M++((P.take i++Q.drop i)++B))))∧Fr (fun k=>k=b) w wr) (fun v10 _=>n0 - (intOf v10).toNat)
 case atStart=>exact ⟨0,Nat.zero_le _,rfl,by simpa using HD.out,Fr.refl _ _⟩
 case round=>
  obtain ⟨i,hi,rfl,hE,hf⟩:=hrel
  have HE:=Lib.hid hE
  clear hE
  by_cases hlt:i<n0
  · have hip:i<P.length:=by rw[←Hn.out];exact hlt
    have hiq:i<Q.length:=by rw[←HPQ.out];exact hip
    have hE2:=HE.out
    rw[swapping_regroup A B M P Q hip hiq] at hE2
    obtain ⟨p,hp⟩:∃p,p=a0+i:=⟨_,rfl⟩
    obtain ⟨q,hq⟩:∃q,q=b0+i:=⟨_,rfl⟩
    have lA:p=(A++Q.take i).length:=by simp;have:=Ha.out;omega
    have lM:q=(A++Q.take i).length+1+(P.drop (i+1)++(M++P.take i)).length:=by simp;have:=Ha.out;have:=Hb.out;omega
    have s1:IntKind.i64.wrap ((a0:Int)+i)=(p:Int):=i64_nat _ _ (by omega) (by omega)
    have s2:IntKind.i64.wrap ((b0:Int)+i)=(q:Int):=i64_nat _ _ (by omega) (by omega)
    have hpN:p<N:=by omega
    have hqN:q<N:=by omega
    obtain ⟨_,c0,c1,z0,z1⟩:=hE2.at rfl p lA
    obtain ⟨_,d0,d1,y0,y1⟩:=hE2.at (A:=(A++Q.take i)++P[i]::(P.drop (i+1)++(M++P.take i))) (x:=Q[i]) (R:=Q.drop (i+1)++B) (by simp) q (by rw[lM];simp;omega)
    have g:=EV.swap (hE2.frN (Fr.refl nob wr).drew) rfl p q lA lM
    rw[swapped_regroup A B M P Q hip hiq] at g
    obtain ⟨⟨x1,n1⟩,⟨x2,n2⟩,⟨x3,n3⟩⟩:=hE2.found (i:=p) (j:=q) (by rw[lA];simp) (by rw[lM];simp;omega) Q[i] (.slice P[i].a P[i].p.row.length P[i].c)
    generalize P[i]=px at c0 c1 g n1 n2 n3
    generalize Q[i]=qx at d0 d1 g n1 n2 n3
    have q0:∀v,Fr nob wr v→v.cell? ⟨b,off+p*2,none⟩=some (.slice px.a px.p.row.length px.c):=fun v hv=>hv.cell c0 id
    have q1:∀v,Fr nob wr v→v.cell? ⟨b,off+p*2+1,none⟩=some (.int .i64 px.p.weight):=fun v hv=>hv.cell c1 id
    have q2:∀v,Fr nob wr v→v.cell? ⟨b,off+q*2,none⟩=some (.slice qx.a qx.p.row.length qx.c):=fun v hv=>hv.cell d0 id
    have q3:∀v,Fr nob wr v→v.cell? ⟨b,off+q*2+1,none⟩=some (.int .i64 qx.p.weight):=fun v hv=>hv.cell d1 id
    have G:=Lib.hid g
    clear hE2 g lA lM hp hq
    go_wp2_with fail
    refine wp_region3 [0,1,2,3,4,5,6,7,8,9,10,11,12,14,15,16,17,18] [13,19,20] [21,22,23] (Fr nob wr) rfl (by kernel_rfl) (fun c a d v w h=>by cases d<;>exact h) ((Fr.refl nob wr).drew) (fun ops hops=>?_)
    repeat (apply wpA3N_free _ _ (by rw[hops.out];rfl) (by first | exact Wants.plain rfl | exact Wants.yes rfl (by rw[hops.out];rfl) rfl rfl);(focus (intro x hx;go_simp;rfl));go_simp)
    apply wpA3N_nil
    repeat (apply wpX3N_free _ _ (by rw[hops.out];rfl) (by first | exact Wants.plain rfl | exact Wants.yes rfl (by rw[hops.out];rfl) rfl rfl);(focus (intro x hx;go_simp;rfl));go_simp)
    apply wpX3N_nil
    refine wpT3N_act _ (by rw[hops.out];rfl) (by first | exact Wants.plain rfl | exact Wants.yes rfl (by rw[hops.out];rfl) rfl rfl) (fun K hK=>?_)
    go_wp2_with fail
    refine wpT3N_act _ (by rw[hops.out];rfl) (by first | exact Wants.plain rfl | exact Wants.yes rfl (by rw[hops.out];rfl) rfl rfl) (fun K hK=>?_)
    go_wp2_with fail
    refine wpT3N_act _ (by rw[hops.out];rfl) (by first | exact Wants.plain rfl | exact Wants.yes rfl (by rw[hops.out];rfl) rfl rfl) (fun K hK=>?_)
    go_wp2_with fail
    apply wpT3N_nil
    go_wp2_with fail
    go_roundw
    case rel=>exact ⟨i+1,by omega,by go_num,G.out.1,hf.drew.trans' G.out.2⟩
    case measure=>simp[intOf];omega
  · have hE2:=HE.out
    rw[List.take_of_length_le (by have:=HPQ.out;have:=Hn.out;omega),List.take_of_length_le (by have:=Hn.out;omega),List.drop_of_length_le (by have:=Hn.out;omega),List.drop_of_length_le (by have:=HPQ.out;have:=Hn.out;omega)] at hE2
    simp only[List.append_nil] at hE2
    have HE2:=Lib.hid hE2
    clear hE2
    go_wp2_with fail
    go_end0
    exact ⟨rfl,HE2.out,hf⟩
theorem swapRange_at (w:World) (b off cap:Nat) (A B M P Q d:List Elt) (cmp:Value) (N x y z:Nat) (hd:EV w b off cap d) (he:d=A++(P++(M++(Q++B)))) (hN:N=d.length) (hpq:P.length=Q.length) (hx:x=A.length) (hy:y=A.length+P.length+M.length) (hz:z=P.length) (hlen:N≤1099511627776):
 Calls Tryz.prog 184 #[.slice (some ⟨b,off,none⟩) N cap, .int .i64 x, .int .i64 y, .int .i64 z,cmp] w
  fun e w' =>e= .returned (.tuple #[])∧EV w' b off cap (A++(Q++(M++(P++B))))∧Fr (fun k=>k=b) w w' :=by
 subst he hN hx hy hz
 exact swapRange_any w b off cap A B M P Q cmp hd hpq hlen
set_option maxRecDepth 100000 in
set_option maxHeartbeats 4000000 in
theorem rotate_any (w:World) (b off cap:Nat) (A B X Y d:List Elt) (cmp:Value) (N a m e:Nat) (hd:EV w b off cap d) (he:d=A++(X++(Y++B))) (hN:N=d.length) (ha:a=A.length) (hm:m=A.length+X.length) (hb:e=A.length+X.length+Y.length) (hX:0<X.length) (hY:0<Y.length) (hlen:N≤1099511627776):
 Calls Tryz.prog 161 #[.slice (some ⟨b,off,none⟩) N cap, .int .i64 a, .int .i64 m, .int .i64 e,cmp] w
  fun r w' =>r= .returned (.tuple #[])∧EV w' b off cap (A++(Y++(X++B)))∧Fr (fun k=>k=b) w w' :=by
 have hNe:e≤N:=by subst hN he hb;simp;omega
 obtain ⟨T,hT⟩:∃T,T=A++(Y++(X++B)):=⟨_,rfl⟩
 rw[←hT]
 obtain ⟨i0,hi0⟩:∃i0,i0=X.length:=⟨_,rfl⟩
 obtain ⟨j0,hj0⟩:∃j0,j0=Y.length:=⟨_,rfl⟩
 have s1:IntKind.i64.wrap ((m:Int) - a)=(i0:Int):=i64_nat _ _ (by omega) (by omega)
 have s2:IntKind.i64.wrap ((e:Int) - m)=(j0:Int):=i64_nat _ _ (by omega) (by omega)
 have hNd:N=d.length:=hN
 have hst:∃(A1 B1 P Q dd:List Elt),EV w b off cap dd∧dd=A1++(P++(Q++B1))∧dd.length=N∧T=A1++(Q++(P++B1))∧A1.length+P.length=m∧P.length=i0∧Q.length=j0:=
  ⟨A,B,X,Y,d,hd,he,hN.symm,hT,hm.symm,hi0.symm,hj0.symm⟩
 have HST:=Lib.hid hst
 have hi0' :0<i0:=by omega
 have hj0' :0<j0:=by omega
 have hmN:m+j0≤N:=by omega
 have him:i0≤m:=by omega
 clear hst hd he hN hNd ha hm hb hT hi0 hj0 hX hY
 go_enter Tryz.func161,Tryz.ntmps161
 go_wp2_with fail
 go_loopw [10,11] (fun v10 v11 wr=>∃i j:Nat,0<i∧0<j∧i≤m∧m+j≤N∧v10= .int .i64 i∧v11= .int .i64 j∧(∃(A1 B1 P Q dd:List Elt),EV wr b off cap dd∧dd=A1++(P++(Q++B1))∧dd.length=N∧T=A1++(Q++(P++B1))∧A1.length+P.length=m∧P.length=i∧Q.length=j)∧Fr (fun k=>k=b) w wr) (fun v10 v11 _=>(intOf v10).toNat+(intOf v11).toNat)
 case atStart=>exact ⟨i0,j0,hi0',hj0',him,hmN,rfl,rfl,HST.out,Fr.refl _ _⟩
 case round=>
  obtain ⟨i,j,hi,hj,hle,hjN,rfl,rfl,⟨A1,B1,P,Q,dd,hE,hdd,hN,hT,hA,hP,hQ⟩,hf⟩:=hrel
  have HE:=Lib.hid hE
  have HDD:=Lib.hid hdd
  have HN:=Lib.hid hN
  have HT:=Lib.hid hT
  have HA:=Lib.hid hA
  have HP:=Lib.hid hP
  have HQ:=Lib.hid hQ
  clear hE hdd hN hT hA hP hQ HST s1 s2
  have t1:IntKind.i64.wrap ((m:Int) - i)=((m - i:Nat):Int):=i64_nat _ _ (by omega) (by omega)
  by_cases hij:i=j
  · subst hij
    have hc:=swapRange_at wr b off cap A1 B1 [] P Q dd cmp N (m - i) m i HE.out (by rw[HDD.out];simp) HN.out.symm (by rw[HP.out,HQ.out]) (by have:=HA.out;have:=HP.out;omega) (by have:=HA.out;simp;omega) HP.out.symm hlen
    generalize m - i=mi at t1 hc
    have hne:((i:Int) != i)=false:=by simp
    go_wp2_with fail
    refine hc.mono ?_
    rintro r w1 ⟨rfl,hE1,hf1⟩
    go_wp2_with fail
    go_end0
    exact ⟨rfl,by rw[HT.out];simpa using hE1,hf.trans' hf1⟩
  · have hne:((i:Int) != j)=true:=by rw[bne_iff_ne];omega
    by_cases hgt:j<i
    · have hc:=swapRange_at wr b off cap A1 B1 (P.drop j) (P.take j) Q dd cmp N (m - i) m j HE.out (by rw[HDD.out,←List.append_assoc (P.take j),List.take_append_drop]) HN.out.symm (by rw[List.length_take,HP.out,HQ.out];omega) (by have:=HA.out;have:=HP.out;omega) (by have:=HA.out;have:=HP.out;simp;omega) (by rw[List.length_take,HP.out];omega) hlen
      have t2:IntKind.i64.wrap ((i:Int) - j)=((i - j:Nat):Int):=i64_nat _ _ (by omega) (by omega)
      obtain ⟨mi,hmi⟩:∃mi,mi=m - i:=⟨_,rfl⟩
      obtain ⟨ij,hijn⟩:∃ij,ij=i - j:=⟨_,rfl⟩
      rw[←hmi] at t1 hc
      rw[←hijn] at t2
      clear hmi
      go_wp2_with fail
      refine hc.mono ?_
      rintro r w1 ⟨rfl,hE1,hf1⟩
      go_wp2_with fail
      go_roundw
      case rel=>
       refine ⟨ij,j,by omega,hj,by omega,hjN,by go_num,by go_num,⟨A1++Q,B1,P.drop j,P.take j,_,hE1,by simp,?_,?_,?_,?_,?_⟩,hf.trans' hf1⟩
       · rw[←HN.out,HDD.out];have:=HP.out;have:=HQ.out;simp;omega
       · rw[HT.out];simp only[List.append_assoc];rw[←List.append_assoc (P.take j),List.take_append_drop]
       · have:=HA.out;have:=HP.out;have:=HQ.out;simp;omega
       · have:=HP.out;simp;omega
       · have:=HP.out;simp;omega
      case measure=>simp[intOf];omega
    · have hlt:i<j:=by omega
      have hc:=swapRange_at wr b off cap A1 B1 (Q.take (j - i)) P (Q.drop (j - i)) dd cmp N (m - i) (m+j - i) i HE.out (by rw[HDD.out,←List.append_assoc (Q.take (j - i)),List.take_append_drop]) HN.out.symm (by rw[List.length_drop,HP.out,HQ.out];omega) (by have:=HA.out;have:=HP.out;omega) (by have:=HA.out;have:=HP.out;have:=HQ.out;simp;omega) HP.out.symm hlen
      have t2:IntKind.i64.wrap ((j:Int) - i)=((j - i:Nat):Int):=i64_nat _ _ (by omega) (by omega)
      have t3:IntKind.i64.wrap ((m:Int)+j)=((m+j:Nat):Int):=i64_nat _ _ (by omega) (by omega)
      have t4:IntKind.i64.wrap (((m+j:Nat):Int) - i)=((m+j - i:Nat):Int):=i64_nat _ _ (by omega) (by omega)
      obtain ⟨mi,hmi⟩:∃mi,mi=m - i:=⟨_,rfl⟩
      obtain ⟨ji,hji⟩:∃ji,ji=j - i:=⟨_,rfl⟩
      obtain ⟨mj,hmj⟩:∃mj,mj=m+j:=⟨_,rfl⟩
      obtain ⟨mji,hmji⟩:∃mji,mji=m+j - i:=⟨_,rfl⟩
      rw[←hmji] at hc t4
      rw[←hmi] at t1 hc
      rw[←hji] at t2 hc
      rw[←hmj] at t3 t4
      have Hji:=Lib.hid hji
      clear hmi hmj hmji hji
      go_wp2_with fail
      refine hc.mono ?_
      rintro r w1 ⟨rfl,hE1,hf1⟩
      go_wp2_with fail
      go_roundw
      case rel=>
       have hji:=Hji.out
       refine ⟨i,ji,hi,by omega,hle,by omega,by go_num,by go_num,⟨A1,P++B1,Q.drop ji,Q.take ji,_,hE1,by simp,?_,?_,?_,?_,?_⟩,hf.trans' hf1⟩
       · rw[←HN.out,HDD.out];have:=HP.out;have:=HQ.out;simp;omega
       · rw[HT.out,←List.append_assoc (Q.take ji),List.take_append_drop]
       · have:=HA.out;have:=HP.out;have:=HQ.out;simp;omega
       · have:=HQ.out;rw[List.length_drop];omega
       · have:=HQ.out;rw[List.length_take];omega
      case measure=>have hji:=Hji.out;simp[intOf];omega
def cmpV (bx:Nat):Value:= .func (.func 57) #[] #[.pointer (some ⟨bx,0,none⟩)]
abbrev CmpC (bx:Nat) (V:Elt→Prop) (cf:Elt→Elt→Int) (b:Nat) (w0:World):Prop:=CmpOk Tryz.prog 57 #[.pointer (some ⟨bx,0,none⟩)] V cf b w0
theorem insSort_tail {V:Elt→Prop} {cf:Elt→Elt→Int} (O:Ordr V cf) {X U V' R' :List Elt} {x:Elt} (hV:∀y∈X,V y) (hp:(U++V' ++x::R').Perm X) (hs:Srt cf (U++V')) (h1:U=[]∨∃t z,U=t++[z]∧cf z x≤0) (h2:V' =[]∨∃z t,V' =z::t∧cf x z≤0):
 ((U++([x]++V'))++R').Perm X∧Srt cf (U++([x]++V')):=by
 refine ⟨List.Perm.trans ?_ hp,srt_insert O (hV x (hp.mem_iff.1 (by simp))) (fun y hy=>hV y (hp.mem_iff.1 (by simp only[List.mem_append] at hy ⊢;exact Or.inl hy))) hs h1 h2⟩
 simp only[List.append_assoc,List.cons_append,List.nil_append]
 refine List.Perm.append_left U ?_
 exact List.perm_middle.symm
set_option maxRecDepth 100000 in
set_option maxHeartbeats 4000000 in
theorem insSort_any (w:World) (b off cap bx:Nat) (V:Elt→Prop) (cf:Elt→Elt→Int) (O:Ordr V cf) (A B X d:List Elt) (N a e:Nat) (hd:EV w b off cap d) (he:d=A++(X++B)) (hN:N=d.length) (ha:a=A.length) (hb:e=A.length+X.length) (hV:∀x∈X,V x) (hlen:N≤1099511627776) (hc:CmpC bx V cf b w):
 Calls Tryz.prog 130 #[.slice (some ⟨b,off,none⟩) N cap, .int .i64 a, .int .i64 e,cmpV bx] w
  fun r w' =>r= .returned (.tuple #[])∧(∃X',X'.Perm X∧Srt cf X' ∧EV w' b off cap (A++(X' ++B)))∧Fr (fun k=>k=b) w w' :=by
 have hNe:e≤N:=by subst hN he hb;simp only[List.length_append];omega
 have s1:IntKind.i64.wrap ((a:Int)+1)=((a+1:Nat):Int):=i64_nat _ _ (by omega) (by omega)
 unfold cmpV
 by_cases hX:X=[]
 · have hae:a=e:=by subst hX;simp at hb;omega
   subst hae
   have HE:=Lib.hid hd
   have HX:=Lib.hid hX
   have hE2:EV w b off cap (A++(X++B)):=by rw[←he];exact hd
   have HE2:=Lib.hid hE2
   clear hd he hN ha hb hX hV hE2
   go_enter Tryz.func130,Tryz.ntmps130
   go_wp2_with fail
   go_loopw [8,9] (fun v8 v9 wr=>v8= .int .i64 ((a+1:Nat):Int)∧wr=w) (fun _ _ _=>0)
   case atStart=>exact ⟨by go_num,rfl⟩
   case round=>
    obtain ⟨rfl,rfl⟩:=hrel
    go_wp2_with fail
    go_end0
    exact ⟨rfl,⟨X,List.Perm.refl _,by rw[HX.out];exact List.Pairwise.nil,HE2.out⟩,Fr.refl _ _⟩
 · have hpos:0<X.length:=List.length_pos_iff.2 hX
   have hst:∃(S R dd:List Elt),EV w b off cap dd∧dd=A++(S++(R++B))∧dd.length=N∧(S++R).Perm X∧Srt cf S∧S.length=1:=by
    refine ⟨X.take 1,X.drop 1,d,hd,by rw[he,←List.append_assoc (X.take 1),List.take_append_drop],hN.symm,by rw[List.take_append_drop],?_,by simp;omega⟩
    match X,hX with
    | x::X,_=>simp[Srt]
   have HST:=Lib.hid hst
   have HA:=Lib.hid ha
   have HB:=Lib.hid hb
   have HV:=Lib.hid hV
   have HC:=Lib.hid hc
   clear hst hd he hN ha hb hX hV
   go_enter Tryz.func130,Tryz.ntmps130
   go_wp2_with fail
   go_loopw [8,9] (fun v8 v9 wr=>∃i:Nat,v8= .int .i64 (a+i:Nat)∧0<i∧a+i≤e∧(∃(S R dd:List Elt),EV wr b off cap dd∧dd=A++(S++(R++B))∧dd.length=N∧(S++R).Perm X∧Srt cf S∧S.length=i)∧Fr (fun k=>k=b) w wr) (fun v8 v9 _=>e - (intOf v8).toNat)
   case atStart=>exact ⟨1,by go_num,by omega,by have:=HB.out;have:=HA.out;omega,HST.out,Fr.refl _ _⟩
   case round=>
    obtain ⟨i,rfl,hi,hle,⟨S,R,dd,hE,hdd,hdn,hperm,hsrt,hsl⟩,hf⟩:=hrel
    have HPERM:=Lib.hid hperm
    have HSRT:=Lib.hid hsrt
    have HSL:=Lib.hid hsl
    have HDD:=Lib.hid hdd
    have HDN:=Lib.hid hdn
    have HE:=Lib.hid hE
    clear hE hdd hdn hperm hsrt hsl HST s1
    obtain ⟨wo,rfl⟩:∃wo:World,wo=wr:=⟨_,rfl⟩
    by_cases hlt:a+i<e
    · have hRl:S.length+R.length=X.length:=by have:=HPERM.out.length_eq;simpa using this
      have hR:0<R.length:=by have:=HSL.out;have:=HB.out;have:=HA.out;omega
      have hst2:∃(x:Elt) (U V' R' dd:List Elt),EV wo b off cap dd∧dd=A++(U++(x::(V' ++(R' ++B))))∧dd.length=N∧(U++V' ++x::R').Perm X∧Srt cf (U++V')∧U.length=i∧U.length+V'.length=i∧(V' =[]∨∃z t,V' =z::t∧cf x z≤0):=by
       match R,hR with
       | x::R',_=>exact ⟨x,S,[],R',dd,HE.out,by rw[HDD.out];simp,HDN.out,by simpa using HPERM.out,by simpa using HSRT.out,HSL.out,by simpa using HSL.out,Or.inl rfl⟩
      have HST2:=Lib.hid hst2
      clear hst2 hRl hR
      have t1:IntKind.i64.wrap (((a+i:Nat):Int)+1)=((a+(i+1):Nat):Int):=i64_nat _ _ (by omega) (by omega)
      obtain ⟨ai,hai⟩:∃ai,ai=a+i:=⟨_,rfl⟩
      rw[←hai] at t1 hlt ⊢
      have HAI:=Lib.hid hai
      clear hai
      go_wp2_with fail
      go_loopw [9] (fun v9 wr=>∃j:Nat,v9= .int .i64 (a+j:Nat)∧j≤i∧(∃(x:Elt) (U V' R' dd:List Elt),EV wr b off cap dd∧dd=A++(U++(x::(V' ++(R' ++B))))∧dd.length=N∧(U++V' ++x::R').Perm X∧Srt cf (U++V')∧U.length=j∧U.length+V'.length=i∧(V' =[]∨∃z t,V' =z::t∧cf x z≤0))∧Fr (fun k=>k=b) w wr) (fun v9 _=>(intOf v9).toNat - a)
      case atStart=>exact ⟨i,by rw[HAI.out],Nat.le_refl _,HST2.out,hf⟩
      case round=>
       obtain ⟨j,rfl,hji,⟨x,U,V',R',d2,hE2,hd2,hd2n,hp2,hs2,hu2,huv2,hx2⟩,hf2⟩:=hrel
       have HE2:=Lib.hid hE2
       have HD2:=Lib.hid hd2
       have HD2N:=Lib.hid hd2n
       have HP2:=Lib.hid hp2
       have HS2:=Lib.hid hs2
       have HU2:=Lib.hid hu2
       have HUV:=Lib.hid huv2
       have HX2:=Lib.hid hx2
       obtain ⟨aj,haj⟩:∃aj,aj=a+j:=⟨_,rfl⟩
       rw[←haj]
       have HAJ:=Lib.hid haj
       rcases List.eq_nil_or_concat U with hU | ⟨U',z,hU⟩
       · have hj0:j=0:=by rw[←hu2,hU];rfl
         have dg:decide (a<aj)=false:=decide_eq_false (by omega)
         have HU:=Lib.hid hU
         clear hE2 hd2 hd2n hp2 hs2 hu2 huv2 hx2 haj hU
         go_wp2_with fail
         refine wp_region_ord [(0,true),(1,true),(2,true),(3,true),(4,true),(5,true),(6,true),(7,true),(8,true),(9,true),(10,true),(11,true),(12,true),(13,true),(14,false),(15,true),(16,true)] (Fr nob _) rfl (by kernel_rfl) (by kernel_rfl) (by decide) (fun c a d v w h=>by cases d<;>exact h) ((Fr.refl nob _).drew) (fun ops hops hS=>?_)
         repeat (first | (apply oF hops (by rfl) (by first | exact .plain rfl | exact .y hops rfl rfl rfl rfl);(focus (intro x hx;go_simp;rfl));go_simp) | (apply oS hops (by rfl) (by first | exact .n hops rfl rfl rfl rfl | exact .u hops rfl rfl rfl rfl);go_simp) | (apply oP hops (by rfl) (by first | exact .n hops rfl rfl rfl rfl | exact .u hops rfl rfl rfl rfl) (by assumption);go_simp))
         apply wpOrd_nil
         go_wp2_with fail
         go_roundw
         case rel=>
          obtain ⟨g1,g2⟩:=insSort_tail O HV.out HP2.out HS2.out (Or.inl HU.out) HX2.out
          refine ⟨i+1,by go_num,by omega,by have:=HAI.out;omega,⟨U++([x]++V'),R',d2,HE2.out.frN (Fr.refl nob wr).drew,by rw[HD2.out];simp,HD2N.out,g1,g2,by have:=HUV.out;simp;omega⟩,hf2.drew⟩
         case measure=>have:=HAI.out;simp[intOf];omega
       · rw[List.concat_eq_append] at hU
         have hjl:j=U'.length+1:=by rw[←hu2,hU];simp
         have dg:decide (a<aj)=true:=decide_eq_true (by omega)
         obtain ⟨ak,hak⟩:∃ak,ak=a+U'.length:=⟨_,rfl⟩
         have hak1:IntKind.i64.wrap ((aj:Int) - 1)=(ak:Int):=i64_nat _ _ (by omega) (by omega)
         have hdz:d2=(A++U')++z::([]++x::(V' ++(R' ++B))):=by rw[hd2,hU];simp
         have la:ak=(A++U').length:=by rw[hak,HA.out];simp
         have lj:aj=(A++U').length+1+([]:List Elt).length:=by rw[haj,hjl,HA.out];simp only[List.length_append,List.length_nil];omega
         obtain ⟨hakN,c0,c1,z0,z1⟩:=hE2.at hdz ak la
         obtain ⟨hajN,d0,d1,y0,y1⟩:=hE2.at (A:=(A++U')++[z]) (x:=x) (R:=V' ++(R' ++B)) (by rw[hdz];simp) aj (by rw[lj];simp only[List.length_append,List.length_nil,List.length_cons])
         rw[hd2n] at hakN hajN
         have hVx:V x:=HV.out x (hp2.mem_iff.1 (by simp))
         have hVz:V z:=HV.out z (hp2.mem_iff.1 (by rw[hU];simp))
         have hcall:=fun v (hv:Fr nob wr v)=>HC.out x z hVx hVz v (hf2.andN hv)
         have g:=EV.swap' (hE2.frN (Fr.refl nob wr).drew) hdz ak aj la lj
         obtain ⟨⟨x1,n1⟩,⟨x2,n2⟩,⟨x3,n3⟩⟩:=hE2.found (i:=aj) (j:=ak) (by rw[hd2n];exact hajN) (by rw[hd2n];exact hakN) z (.slice x.a x.p.row.length x.c)
         have q0:∀v,Fr nob wr v→v.cell? ⟨b,off+ak*2,none⟩=some (.slice z.a z.p.row.length z.c):=fun v hv=>hv.cell c0 id
         have q1:∀v,Fr nob wr v→v.cell? ⟨b,off+ak*2+1,none⟩=some (.int .i64 z.p.weight):=fun v hv=>hv.cell c1 id
         have q2:∀v,Fr nob wr v→v.cell? ⟨b,off+aj*2,none⟩=some (.slice x.a x.p.row.length x.c):=fun v hv=>hv.cell d0 id
         have q3:∀v,Fr nob wr v→v.cell? ⟨b,off+aj*2+1,none⟩=some (.int .i64 x.p.weight):=fun v hv=>hv.cell d1 id
         have HU:=Lib.hid hU
         unfold eltVal at hcall
         have hle:=fun (hn:¬cf x z<0)=>O.le_of_not hVx hVz hn
         have hcfd:∃cv,cv=cf x z:=⟨_,rfl⟩
         obtain ⟨cv,hcv⟩:=hcfd
         rw[←hcv] at hcall hle
         have HCV:=Lib.hid hcv
         have HAK:=Lib.hid hak
         have HDZ:=Lib.hid hdz
         have HLA:=Lib.hid la
         have HLJ:=Lib.hid lj
         have HZ:=Lib.hid (And.intro z0 (And.intro z1 (And.intro y0 y1)))
         clear hE2 hd2 hd2n hp2 hs2 hu2 huv2 hx2 haj hU hVx hVz hcv hak hdz la lj n1 n2 n3 g c0 c1 d0 d1 z0 z1 y0 y1 hjl
         go_wp2_with fail
         refine wp_region_ord [(0,true),(1,true),(2,true),(3,true),(4,true),(5,true),(6,true),(7,true),(8,true),(9,true),(10,true),(11,true),(12,true),(13,true),(14,false),(15,true),(16,true)] (Fr nob _) rfl (by kernel_rfl) (by kernel_rfl) (by decide) (fun c a d v w h=>by cases d<;>exact h) ((Fr.refl nob _).drew) (fun ops hops hS=>?_)
         repeat (first | (apply oF hops (by rfl) (by first | exact .plain rfl | exact .y hops rfl rfl rfl rfl);(focus (intro x hx;go_simp;rfl));go_simp) | (apply oS hops (by rfl) (by first | exact .n hops rfl rfl rfl rfl | exact .u hops rfl rfl rfl rfl);go_simp) | (apply oP hops (by rfl) (by first | exact .n hops rfl rfl rfl rfl | exact .u hops rfl rfl rfl rfl) (by assumption);go_simp))
         refine oA hops (by rfl) (by first | exact .plain rfl | exact .y hops rfl rfl rfl rfl) (fun K hK=>?_)
         go_wp2_with fail
         refine (hcall _ (Fr.refl nob wr).drew).mono ?_
         rintro r w4 ⟨rfl,hf4⟩
         have g4:Fr nob wr w4:=(Fr.refl nob wr).drew.andN hf4
         refine hK _ _ ⟨_,fun _ h=>h,g4,?_⟩
         clear hK
         go_simp
         repeat (first | (apply oF hops (by rfl) (by first | exact .plain rfl | exact .y hops rfl rfl rfl rfl);(focus (intro x hx;go_simp;rfl));go_simp) | (apply oS hops (by rfl) (by first | exact .n hops rfl rfl rfl rfl | exact .u hops rfl rfl rfl rfl);go_simp) | (apply oP hops (by rfl) (by first | exact .n hops rfl rfl rfl rfl | exact .u hops rfl rfl rfl rfl) (by assumption);go_simp))
         apply wpOrd_nil
         by_cases hlt4:cv<0
         · have E4:=HE2.out.frN g4
           have g:=EV.swap' (E4.frN (Fr.refl nob w4).drew) HDZ.out ak aj HLA.out HLJ.out
           obtain ⟨⟨x1,n1⟩,⟨x2,n2⟩,⟨x3,n3⟩⟩:=E4.found (i:=aj) (j:=ak) (by rw[HD2N.out];exact hajN) (by rw[HD2N.out];exact hakN) z (.slice x.a x.p.row.length x.c)
           obtain ⟨_,_,_,z0,z1⟩:=E4.at HDZ.out ak HLA.out
           obtain ⟨_,d0,d1,y0,y1⟩:=E4.at (A:=(A++U')++[z]) (x:=x) (R:=V' ++(R' ++B)) (by rw[HDZ.out];simp) aj (by rw[HLJ.out];simp only[List.length_append,List.length_nil,List.length_cons])
           have r0:∀v,Fr nob w4 v→v.cell? ⟨b,off+ak*2,none⟩=some (.slice z.a z.p.row.length z.c):=fun v hv=>q0 v (g4.andN hv)
           have r1:∀v,Fr nob w4 v→v.cell? ⟨b,off+ak*2+1,none⟩=some (.int .i64 z.p.weight):=fun v hv=>q1 v (g4.andN hv)
           have r2:∀v,Fr nob w4 v→v.cell? ⟨b,off+aj*2,none⟩=some (.slice x.a x.p.row.length x.c):=fun v hv=>q2 v (g4.andN hv)
           have r3:∀v,Fr nob w4 v→v.cell? ⟨b,off+aj*2+1,none⟩=some (.int .i64 x.p.weight):=fun v hv=>q3 v (g4.andN hv)
           have G:=Lib.hid g
           clear g E4 q0 q1 q2 q3
           go_wp2_with fail
           refine wp_region3 [0,1,2,3,4,5,6,7,8,10,11,12] [9,13,14] [15,16,17] (Fr nob w4) rfl (by kernel_rfl) (fun c a d v w h=>by cases d<;>exact h) ((Fr.refl nob w4).drew) (fun ops hops=>?_)
           repeat (apply wpA3N_free _ _ (by rw[hops.out];rfl) (by first | exact Wants.plain rfl | exact Wants.yes rfl (by rw[hops.out];rfl) rfl rfl);(focus (intro x hx;go_simp;rfl));go_simp)
           apply wpA3N_nil
           repeat (apply wpX3N_free _ _ (by rw[hops.out];rfl) (by first | exact Wants.plain rfl | exact Wants.yes rfl (by rw[hops.out];rfl) rfl rfl);(focus (intro x hx;go_simp;rfl));go_simp)
           apply wpX3N_nil
           refine wpT3N_act _ (by rw[hops.out];rfl) (by first | exact Wants.plain rfl | exact Wants.yes rfl (by rw[hops.out];rfl) rfl rfl) (fun K hK=>?_)
           go_wp2_with fail
           refine wpT3N_act _ (by rw[hops.out];rfl) (by first | exact Wants.plain rfl | exact Wants.yes rfl (by rw[hops.out];rfl) rfl rfl) (fun K hK=>?_)
           go_wp2_with fail
           refine wpT3N_act _ (by rw[hops.out];rfl) (by first | exact Wants.plain rfl | exact Wants.yes rfl (by rw[hops.out];rfl) rfl rfl) (fun K hK=>?_)
           go_wp2_with fail
           apply wpT3N_nil
           go_wp2_with fail
           go_roundw
           case rel=>
            have hjl:j=U'.length+1:=by rw[←HU2.out,HU.out];simp
            refine ⟨U'.length,by have:=HAK.out;rw[this],by omega,⟨x,U',z::V',R',_,G.out.1,by simp,by rw[←HD2N.out,HDZ.out];simp,?_,?_,rfl,?_,Or.inr ⟨z,V',rfl,?_⟩⟩,(hf2.andN g4).drew.trans' G.out.2⟩
            · have h:=HP2.out
              rw[HU.out] at h
              simpa using h
            · have h:=HS2.out
              rw[HU.out] at h
              simpa using h
            · have:=HUV.out;rw[HU.out] at this;simp at this ⊢;omega
            · have:=HCV.out;omega
           case measure=>have:=HAJ.out;have:=HAK.out;have hjl:j=U'.length+1:=by rw[←HU2.out,HU.out];simp
                         simp[intOf];omega
         · have hzx:=hle (by omega)
           go_wp2_with fail
           go_roundw
           case rel=>
            obtain ⟨g1,g2⟩:=insSort_tail O HV.out HP2.out HS2.out (Or.inr ⟨U',z,HU.out,hzx⟩) HX2.out
            refine ⟨i+1,by go_num,by omega,by have:=HAI.out;omega,⟨U++([x]++V'),R',d2,HE2.out.frN g4,by rw[HD2.out];simp,HD2N.out,g1,g2,by have:=HUV.out;simp;omega⟩,hf2.andN g4⟩
           case measure=>have:=HAI.out;simp[intOf];omega
    · have hR:R=[]:=by
       have:=HPERM.out.length_eq
       have:=HSL.out
       have:=HB.out
       have:=HA.out
       rw[List.length_append] at*
       exact List.eq_nil_of_length_eq_zero (by omega)
      have HR:=Lib.hid hR
      clear hR
      go_wp2_with fail
      go_end0
      refine ⟨rfl,⟨S,?_,HSRT.out,?_⟩,hf⟩
      · have h:=HPERM.out;rw[HR.out] at h;simpa using h
      · have h:=HE.out;rw[HDD.out,HR.out] at h;simpa using h
end Go.Proofs.YtibpkfnfcdbiiaaGreatDoor
