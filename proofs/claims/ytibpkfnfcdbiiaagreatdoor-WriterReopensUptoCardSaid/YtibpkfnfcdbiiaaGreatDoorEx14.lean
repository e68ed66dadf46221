/- decklelaw14.example. -/
import Derived.Test.YtibpkfnfcdbiiaaGreatDoorBunW
import Derived.Test.YtibpkfnfcdbiiaaGreatDoorBunR
namespace Go.Proofs.YtibpkfnfcdbiiaaGreatDoor
set_option linter.unusedSimpArgs false
open Go.RowKit
set_option linter.unusedVariables false
set_option maxRecDepth 100000 in
theorem example14_any (w:World):Calls Tryz.prog 47 #[] w fun e w' =>∃a,e= .returned (.slice a 2 2)∧Fr nob w w' ∧SV rCol 2 (old w') w' a 2 exS:=by
 have h:=ex_cols w
 go_enter Tryz.func47,Tryz.ntmps47
 go_wp2_with fail
 go_ret
 exact ⟨_,rfl,(Fr.refl nob w).alloc _,h⟩
def ex14P:List Pr:=[⟨exR,2⟩,⟨exR, -1⟩]
theorem ex_check:zCheck exS exA=0:=by kernel_rfl
theorem ex_bytes_len:(batW exS exA).length≤1000:=by
 rw[batW_ok ex_check]
 simp[wBatch,exS,exA,exR,wCols,wKind,colAt,wSigned,wBehind,wTexts,wWeights,wInt,zig,sub64,wrap64,shared,lenBytes,uv_small]
theorem ex_entry (k:Nat) (hk:k<2):entryErr exS k 1 exA=0:=by
 have hul:=uv_len10 (x:=1) (by omega)
 have hbl:=ex_bytes_len
 have hc:entryCheck exS k 1 exA=0:=by
  unfold entryCheck
  rw[if_neg (by rw[ex_schema];omega),if_neg (by omega),if_neg (by omega)]
  exact ex_check
 have hf:=fk_le k
 unfold entryErr
 rw[if_pos hc]
 unfold frameErr
 rw[if_neg (by omega),if_neg]
 unfold entryPay
 rw[List.length_append]
 have:(uv (1:Int).toNat).length≤10:=hul
 omega
theorem wt_ex (row:List Cel):wt exA row=wt ex14P row:=by
 unfold exA ex14P
 by_cases h:exR=row
 · subst h;simp[wt]
 · simp[wt,h]
theorem append_ex {w w' :World} {O:Nat→Prop} {v:Nat} {d:List UInt8} {e:Ending} (h:Appending w O v exS d 0 0 [] ex14P e w'):
 ∃O' a c,e= .returned (.tuple #[.slice a (entryBy exS 0 1 exA).length c, .int .i64 0])∧Ev w (wB v O) w' (wB v O')∧BV (free w' (wB v O')) w' a c (entryBy exS 0 1 exA)∧WrAt w' O' v exS (d++entryBy exS 0 1 exA) 1 1 exA:=by
 rcases h with ⟨h,_⟩ | ⟨_,en,out,hc,h⟩
 · omega
 obtain ⟨rfl,rfl⟩:=collected_of ex_schema (by kernel_rfl) ex_canon wt_ex (by decide) hc
 rcases h with ⟨h,_⟩ | ⟨_,n,out,en,ha,h⟩
 · exact absurd rfl h
 obtain ⟨hc2,hn⟩:=applied_change ex_schema (canon_nil exS) (by simp) ex_canon (by decide) ⟨by omega,by omega⟩ ha
 obtain ⟨rfl,rfl⟩:=collected_of ex_schema (by kernel_rfl) ex_canon (fun row=>by simp) (by decide) hc2
 have he:=ex_entry 0 (by omega)
 rcases h with ⟨h,_⟩ | ⟨_,h,_⟩ | ⟨_,_,O',a,c,h3,h4,h5,h6,_⟩
 · exact absurd rfl h
 · exact absurd he h
 · rw[if_pos rfl] at hn
   subst hn
   exact ⟨O',a,c,h3,h4,h5,h6⟩
theorem snap_ex {w w' :World} {O:Nat→Prop} {v:Nat} {d:List UInt8} {e:Ending} (h:Snapping w O v exS d 1 1 exA e w'):
 ∃O' a c,e= .returned (.tuple #[.slice a (entryBy exS 1 1 exA).length c, .int .i64 0])∧Ev w (wB v O) w' (wB v O')∧BV (free w' (wB v O')) w' a c (entryBy exS 1 1 exA)∧WrAt w' O' v exS (d++entryBy exS 1 1 exA) 2 1 exA:=by
 rcases h with ⟨h,_⟩ | ⟨_,n,out,en,ha,h⟩
 · omega
 have he:=ex_entry 1 (by omega)
 rcases applied_snap ex_schema ex_canon (by decide) ex_canon (by decide) ⟨by omega,by omega⟩ ha with ⟨_,rfl,rfl,rfl⟩ | ⟨h1,_⟩
 · rcases h with ⟨h,_⟩ | ⟨_,h,_⟩ | ⟨_,_,O',a,c,h3,h4,h5,h6,_⟩
   · exact absurd rfl h
   · exact absurd he h
   · exact ⟨O',a,c,h3,h4,h5,h6⟩
 · exact absurd rfl h1
end Go.Proofs.YtibpkfnfcdbiiaaGreatDoor
