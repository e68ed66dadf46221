/- Contract of slices.Clone of bytes. -/
import Derived.Test.YtibpkfnfcdbiiaaGreatDoorBunK
namespace Go.Proofs.YtibpkfnfcdbiiaaGreatDoor
set_option linter.unusedSimpArgs false
open Go.RowKit
set_option linter.unusedVariables false
theorem cloneBytes_any (S:Nat→Prop) (w:World) (a:Option Addr) (cap:Nat) (l:List UInt8) (h:BV S w a cap l) (hn:l.length≤140737488355328):
 Calls Tryz.prog 82 #[.slice a l.length cap] w fun e w' =>∃a' cap',e= .returned (.slice a' l.length cap')∧Fr nob w w' ∧BV (newb w w') w' a' cap' l:=by
 have q:=fun (w:World) (n c n' c' :Nat)=>Lib.run_eql_slice_nil (P:=Tryz.prog) w 27 _ a n c n' c' Tryz.underlying27
 cases a with
 | none=>
   obtain rfl:=h.vec.nil0 rfl
   obtain rfl:l=[]:=List.eq_nil_of_length_eq_zero (by have:=h.vec.le;omega)
   go_enter Tryz.func82,Tryz.ntmps82
   go_wp2_with fail
   go_ret
   exact ⟨none,0,rfl,Fr.refl _ _,BV.nil _ _⟩
 | some ad=>
   go_enter Tryz.func82,Tryz.ntmps82
   go_wp2_with (at_builtin;refine wpList_append_vec rfl _ _ _ _ rfl rfl (Vec.empty w _ 1) _ _ _ Tryz.underlying27 inf_u8 rfl _ l.length (bv l) rfl (BV.src (h.frN ((Fr.refl nob w).alloc _)) Tryz.underlying27) (by unfold maxLen;omega) (by omega) ?_)
   intro a' cap' w' hv hf hn'
   go_wp2_with fail
   go_ret
   refine ⟨a',cap',by simp,frN_newb w _ hf,?_⟩
   have h1:=Vec.mono hv (grow_newb w _ _ ((Fr.refl nob w).alloc _).size hf.size)
   unfold BV
   simpa using h1
end Go.Proofs.YtibpkfnfcdbiiaaGreatDoor
