/- One list of pairs, as a list of lists; elements in a world that goes on. -/
import Derived.Test.YtibpkfnfcdbiiaaGreatDoorBunJ
import Derived.Test.YtibpkfnfcdbiiaaGreatDoorEvo
import Derived.Test.YtibpkfnfcdbiiaaGreatDoorBunH
namespace Go.Proofs.YtibpkfnfcdbiiaaGreatDoor
set_option linter.unusedSimpArgs false
open Go.RowKit
set_option linter.unusedVariables false
theorem pl_lit (w:World) (B:Nat→Prop) (hB:∀k,B k→k<w.heap.size) (b:Option Addr) (cb:Nat) (l:List Pr) (h:SV rPr 2 (free w B) w b cb l) (hl:l.length≤lim):SV rPL 1 (free (w.alloc (.cells #[.slice b l.length cb] 24 (0,0))) B) (w.alloc (.cells #[.slice b l.length cb] 24 (0,0))) (some ⟨w.heap.size,0,none⟩) 1 [l]:=
 SV.lit rPL_ok w B hB [[.slice b l.length cb]] [l] 24 rfl (by simp) (fun i c x hc hx=>by
  match i,hc,hx with
  | 0,hc,hx=>cases hc;cases hx;exact ⟨hl,b,cb,rfl,h⟩
  | i+1,hc,hx=>simp at hc)
theorem RowAt.ev {w w' :World} {B B' :Nat→Prop} {x:Elt} (h:RowAt (free w B) w x) (e:Ev w B w' B'):RowAt (free w' B') w' x:=(h.fr e.fr (fun k hk=>hk.2)).mono e.frees
end Go.Proofs.YtibpkfnfcdbiiaaGreatDoor
