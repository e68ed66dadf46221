/- Contract of crc's Seal. -/
import Derived.Test.YtibpkfnfcdbiiaaGreatDoorBunK
namespace Go.Proofs.YtibpkfnfcdbiiaaGreatDoor
set_option linter.unusedSimpArgs false
open Go.RowKit
set_option linter.unusedVariables false
theorem seal_any (S:Nat→Prop) (w:World) (a:Option Addr) (cap:Nat) (l:List UInt8) (h:BV S w a cap l) (hl:l.length≤1099511627776):
 Calls Tryz.prog 76 #[.slice a l.length cap] w fun e w' =>∃a' cap',e= .returned (.slice a' (crcSeal l).length cap')∧Fr nob w w' ∧BV (newb w w') w' a' cap' (crcSeal l):=by
 have H:=Lib.hid h
 clear h
 go_enter Tryz.func76,Tryz.ntmps76
 go_wp2_with (at_builtin;refine wpList_append_vec rfl _ _ _ _ rfl rfl (Vec.empty w _ 1) _ _ _ Tryz.underlying27 inf_u8 rfl _ l.length (bv l) rfl (BV.src (H.out.frN ((Fr.refl nob w).alloc _)) Tryz.underlying27) (by unfold maxLen;omega) (by omega) ?_)
 intro a1 c1 w1 hv1 hf1 _
 have f1:Fr nob w w1:=frN_newb w _ hf1
 have hv1:Vec (newb w w1) w1 1 a1 l.length c1 (bv l):=by
  have h:=Vec.mono hv1 (grow_newb w _ _ ((Fr.refl nob w).alloc _).size hf1.size)
  simpa using h
 go_wp2_with fail
 refine (crcsum_any _ _ _ _ l (H.out.frN f1) hl).mono ?_
 rintro e w2 ⟨rfl,hf2⟩
 go_wp2_with fail
 refine (put_any _ (crcSum_lt l) _).mono ?_
 rintro e w3 ⟨a3,rfl,hf3,hv3⟩
 have f23:=hf2.andN hf3
 have hv1:=hv1.frN f23
 have hp:=hv3.vec
 rw[crcPut_len] at hp
 go_wp2_with (at_builtin;refine wpList_append_vec rfl _ _ _ _ rfl rfl hv1 _ _ _ Tryz.underlying27 inf_u8 rfl _ 4 (bv (crcPut (crcSum l))) rfl (Vec.src hp Tryz.underlying27) (by unfold maxLen;omega) (by omega) ?_)
 intro a4 c4 w4 hv4 hf4 _
 go_wp2
 go_ret
 have f3:=f1.andN f23
 refine ⟨a4,c4,by simp[crcSeal,crcPut_len],f3.trans hf4 (fun k hk hk' =>absurd hk'.1 (by omega)),?_⟩
 unfold BV
 rw[show (crcSeal l).length=l.length+4 by simp[crcSeal,crcPut_len],crcSeal,bv_append]
 refine hv4.mono ?_
 rintro k (hk | hk)
 · exact ⟨hk.1,by have:=hk.2;have:=f23.size;have:=hf4.size;omega⟩
 · exact ⟨by have:=f3.size;omega,hk.2⟩
end Go.Proofs.YtibpkfnfcdbiiaaGreatDoor
