/- Slices of slices of pairs that came in, with a bound on their bulk. -/
import Derived.Test.YtibpkfnfcdbiiaaGreatDoorBunS
namespace Go.Proofs.YtibpkfnfcdbiiaaGreatDoor
set_option linter.unusedSimpArgs false
open Go.ChangeShapes Go.WideShapes Go.ChangeAt Go.RowKit
set_option linter.unusedVariables false
section
variable {H:Type} {enc:TypeId×Value→H} {W:World}
theorem open_prl_b {fuel:Nat} {cs:List Value} {d:DataW H} {p:List MemPlace} (h:DataW.trod enc Tryz.prog W 0 (fun _=>true) true fuel 23 cs=some (d,p)) (hfz:W.noneFrozen p) (hr:Rch 23 d) (hb:Rows.uptoBulk d≤1048576):
 ∃a cap xs,cs=[.slice a xs.length cap]∧SV rPL 1 (old W) W a cap xs∧xs.length≤lim∧xs.flatten.length≤1048576:=by
 obtain ⟨a,cap,xs,e,hsv,hd⟩:=open_SV (E:=fun (x:List Pr) d=>(Rch 24 d→PLB x)∧x.length+1≤Rows.uptoBulk d) rPL0_ok (by omega) Tryz.underlying23 (by kernel_rfl) open_pl_b h hfz
 obtain ⟨h1,h2⟩:=rch_slice (B:=PLB) Tryz.underlying23 (by rw[show (Tryz.prog).bytesOf 24=24 from by kernel_rfl];omega) (hd.imp id (fun ⟨prs,sp,h1,h2,h3⟩=>⟨prs,sp,h1,h2,fun y hy=>(h3 y hy).1⟩)) hr
 have h3:=bulk_sum (f:=fun x:List Pr=>x.length+1) (hd.imp id (fun ⟨prs,sp,h1,h2,h3⟩=>⟨prs,sp,h1,h2,fun y hy=>(h3 y hy).2⟩))
 have h4:=sum_flat xs (fun x=>x)
 rw[List.flatMap_id'] at h4
 exact ⟨a,cap,xs,e,hsv.up (fun x hx c hc=>up_pl hc (h2 x hx)),h1,by omega⟩
end
end Go.Proofs.YtibpkfnfcdbiiaaGreatDoor
