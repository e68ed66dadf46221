/- A column's cells and its bytes, in plain words. -/
import Derived.Test.YtibpkfnfcdbiiaaGreatDoorColWrite
namespace Go.Proofs.YtibpkfnfcdbiiaaGreatDoor
set_option linter.unusedSimpArgs false
open Go.RowKit
set_option linter.unusedVariables false
def CellsOf (k:Int) (l:List Cel):Prop:=∀c∈l,cellCheck k c=0∧c.num<18446744073709551616
theorem check_of {k:Int} {c:Cel} (hk:cellKind k=true) (h1:textyB k=true→c.num=0) (h2:textyB k=false→c.text=[]) (h3:k=2→c.num≤1) (h4:k=4→Lib.validD c.text=true) (h5:c.text.length≤256):cellCheck k c=0:=by
 unfold cellCheck
 rw[hk,if_neg (by simp),if_neg ?_,if_neg (by omega)]
 simp only[Bool.not_eq_true,Bool.or_eq_false_iff,Bool.and_eq_false_iff]
 refine ⟨⟨⟨?_,?_⟩,?_⟩,?_⟩
 · cases ht:textyB k
   · exact Or.inl rfl
   · exact Or.inr (by simp[h1 ht])
 · cases ht:textyB k
   · exact Or.inr (by simp[h2 ht])
   · exact Or.inl rfl
 · by_cases h:k=2
   · exact Or.inr (by have:=h3 h;simp;omega)
   · exact Or.inl (by simp[h])
 · by_cases h:k=4
   · exact Or.inr (by simp[h4 h])
   · exact Or.inl (by simp[h])
theorem numbers_iff {k:Int} (hk:k=0∨k=1∨k=5) (l:List Cel):Numbers l↔CellsOf k l:=by
 have hck:cellKind k=true:=by rcases hk with rfl | rfl | rfl<;>rfl
 have htx:textyB k=false:=by rcases hk with rfl | rfl | rfl<;>rfl
 constructor
 · intro h c hc
   obtain ⟨h1,h2⟩:=h c hc
   exact ⟨check_of hck (fun h=>by rw[htx] at h;cases h) (fun _=>h2) (fun h=>by omega) (fun h=>by omega) (by rw[h2];simp),h1⟩
 · intro h c hc
   obtain ⟨h1,h2⟩:=h c hc
   exact ⟨h2,(check_parts h1).2.2.1 htx⟩
theorem truths_iff (l:List Cel):Truths l↔CellsOf 2 l:=by
 constructor
 · intro h c hc
   obtain ⟨h1,h2⟩:=h c hc
   exact ⟨check_of rfl (fun h=>by cases h) (fun _=>h2) (fun _=>h1) (fun h=>by omega) (by rw[h2];simp),by omega⟩
 · intro h c hc
   obtain ⟨h1,h2⟩:=h c hc
   exact ⟨(check_parts h1).2.2.2.1 rfl,(check_parts h1).2.2.1 rfl⟩
theorem texts_iff {k:Int} (hk:k=3∨k=4) (l:List Cel):Texts (k == 4) l↔CellsOf k l:=by
 have hck:cellKind k=true:=by rcases hk with rfl | rfl<;>rfl
 have htx:textyB k=true:=by rcases hk with rfl | rfl<;>rfl
 constructor
 · intro h c hc
   obtain ⟨h1,h2,h3⟩:=h c hc
   exact ⟨check_of hck (fun _=>h1) (fun h=>by rw[htx] at h;cases h) (fun h=>by omega) (fun h=>h3 (by simp[h])) h2,by omega⟩
 · intro h c hc
   obtain ⟨h1,h2⟩:=h c hc
   have hp:=check_parts h1
   exact ⟨hp.2.1 htx,hp.2.2.2.2.2,fun h=>hp.2.2.2.2.1 (by simpa using h)⟩
theorem pKind_ok {k:Int} (hk:cellKind k=true) {n:Nat} {d r:List UInt8} {l:List Cel}:pKind k n d= .ok l r↔l.length=n∧CellsOf k l∧d=wKind k l++r:=by
 rcases cellKind_cases hk with rfl | rfl | rfl | rfl | rfl | rfl
 · rw[←numbers_iff (Or.inl rfl)];exact pSigned_ok
 · rw[←numbers_iff (Or.inr (Or.inl rfl))];exact pNumbers_ok
 · rw[←truths_iff];exact pBools_ok _ _ _ _
 · rw[←texts_iff (Or.inl rfl)];exact pTexts_ok _ _ [] _ _ _ (by simp)
 · rw[←texts_iff (Or.inr rfl)];exact pTexts_ok _ _ [] _ _ _ (by simp)
 · rw[←numbers_iff (Or.inr (Or.inr rfl))];exact pNumbers_ok
theorem cells_go {k:Int} {l:List Cel} (h:CellsOf k l):colGo k l=0:=by
 induction l with
 | nil=>rfl
 | cons c l ih=>
   unfold colGo
   rw[if_pos (h c (by simp)).1]
   exact ih (fun x hx=>h x (List.mem_cons_of_mem _ hx))
end Go.Proofs.YtibpkfnfcdbiiaaGreatDoor
