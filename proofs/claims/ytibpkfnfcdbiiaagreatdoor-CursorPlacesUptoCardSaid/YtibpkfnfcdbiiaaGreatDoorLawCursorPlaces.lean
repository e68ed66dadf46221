/- decklelaw18.CursorPlaces answers true whatever it is given, and each argument reads behind the call as it read before. -/
import Derived.Test.YtibpkfnfcdbiiaaGreatDoorLaidOfF
import Derived.Test.YtibpkfnfcdbiiaaGreatDoorTie
import Derived.Test.YtibpkfnfcdbiiaaGreatDoorCards
import Derived.Test.YtibpkfnfcdbiiaaGreatDoorPlaces18
import Derived.Test.YtibpkfnfcdbiiaaGreatDoorOpenTr
import Derived.Test.YtibpkfnfcdbiiaaGreatDoorBunJ
import Derived.ProofKit
import Derived.Lay
import Derived.SevenTiedAt
import Derived.Stop.Joined
import Derived.Deep.DeepHandedRow
import Derived.WalkKit
namespace Go.Proofs.YtibpkfnfcdbiiaaGreatDoor.cursorPlaces
set_option linter.unusedSimpArgs false
set_option linter.unusedVariables false
open Go.ChangeShapes Go.WideShapes Go.ChangeAt Go.RowKit
theorem own:ownKnob Tryz.prog.godebug=none:=by kernel_rfl
theorem laidOut:laidOutB Tryz.prog=true:=by kernel_rfl
set_option maxRecDepth 100000 in
set_option maxHeartbeats 4000000 in
theorem lifted (os:Os) (started:os.Started) (H:Type) (enc:TypeId×Value→H) (Fi:Stop.Interp):
 ReturnsInHanded {} Tryz.checked os 4 .any ((Rows.OpenSpec.upto Rows.cursorPlacesSpec).preRow enc Tryz.prog Tryz.f4 Rows.cursorPlacesUptoRow.domain false Rows.cursorPlacesUptoRow.laid) (((Rows.OpenSpec.upto Rows.cursorPlacesSpec).at Fi).post enc Tryz.prog Tryz.f4 false true false false):=by
 have hx:DataW.whole enc Tryz.prog ((World.laidAll Tryz.prog os laidLF).forCall (fun _ _=>0) ⟨#[],#[.agg #[.slice none 0 0, .slice none 0 0], .int .i32 0],[]⟩).memory Tryz.f4.params.toList Rows.cursorPlacesSpec.vars false #[.agg #[.slice none 0 0, .slice none 0 0], .int .i32 0].toList 8=some ([.agg [.nil, .nil], .lit (.int .i32 0)],[],[]):=by kernel_rfl
 refine returnsInHanded_of_row (C:=Tryz.checked) (s:=Rows.OpenSpec.upto Rows.cursorPlacesSpec) own started (by kernel_rfl) Tryz.func4
  (witness_row_at (enc:=enc) (C:=Tryz.checked) false (World.laidAll Tryz.prog os laidLF) #[.agg #[.slice none 0 0, .slice none 0 0], .int .i32 0] (World.laidAll_os _ _ _) (by kernel_rfl) (by kernel_rfl) (by kernel_rfl)
   (OpenSpec.preRow_of_cond 8 hx (by kernel_rfl) (fun k hk=>by cases hk;kernel_rfl) (by kernel_rfl) (by rw[MakeChecks.laidMetH_plain _ _ _ (by kernel_rfl)];exact laidMet_laidAll _ (by kernel_rfl) (by kernel_rfl)))) ?_
 intro W base args ds gs before hval0 hW hc hcond hwt hL _ _
 have hbk:=hcond _ rfl
 have hval:∀(j:Nat) t v,Tryz.f4.params[j]? =some t→args[j]? =some v→Value.okWide Tryz.prog W .any base t v:=hval0
 have hW' :=hW
 obtain ⟨p,q,hA0,hV,rfl,hfz,hnd⟩:=hW
 have hA:DataW.TrodAll enc Tryz.prog W 0 (fun _=>true) true Tryz.f4.params.toList args.toList ds p:=hA0
 rw[Tryz.params4] at hA hval hwt
 obtain ⟨v0,vs0,d0,ds0,p0,q0,hargs,rfl,rfl,h0,r0⟩:=trodAll_cons hA
 obtain ⟨v1,vs1,d1,ds1,p1,q1,rfl,rfl,rfl,h1,r1⟩:=trodAll_cons r0
 obtain ⟨rfl,rfl,rfl⟩:=trodAll_nil r1
 obtain rfl:args=#[v0,v1]:=by cases args;simp_all
 obtain ⟨rfl,rfl⟩:=trodVars_none hV
 have hw:∀n∈DataW.weightsEach Tryz.prog [36,21] [d0,d1],n≤lim:=fun n hn=>by
  have hwt' :(DataW.weightsEach Tryz.prog [36,21] [d0,d1]).all (· ≤reachBytes)=true:=hwt
  have h:=List.all_eq_true.1 hwt' n hn
  have h:=of_decide_eq_true h
  unfold reachBytes at h
  unfold lim
  omega
 have hbk' :Rows.uptoBulkAll [d0,d1]≤1048576:=by
  have h:Rows.uptoSmall H [d0,d1]=true:=hbk
  exact of_decide_eq_true h
 have bk0:Rows.uptoBulk d0≤1048576:=Nat.le_trans (bulk_part (by simp)) hbk'
 have bk1:Rows.uptoBulk d1≤1048576:=Nat.le_trans (bulk_part (by simp)) hbk'
 have lt0:∀x∈p0,x.block<W.heap.size:=by obtain ⟨m,hm⟩:=h0;exact DataW.trod_lt m _ _ _ hm
 have z0:W.noneFrozen p0:=fun b off hm=>hfz b off (by simp[hm])
 have s0:=h0
 have w0:Rch 36 d0:=fun n hn=>hw n (by simp only[DataW.weightsEach,List.mem_append];exact Or.inl hn)
 have lt1:∀x∈p1,x.block<W.heap.size:=by obtain ⟨m,hm⟩:=h1;exact DataW.trod_lt m _ _ _ hm
 have z1:W.noneFrozen p1:=fun b off hm=>hfz b off (by simp[hm])
 have s1:=h1
 have w1:Rch 21 d1:=fun n hn=>hw n (by simp only[DataW.weightsEach,List.mem_append];exact Or.inr (Or.inl hn))
 obtain ⟨sa0,sc0,x0,ea0,ec0,y0,rfl,hs0,hl0,ts0,tl0,tt0⟩:=open_trace (hval 0 _ v0 rfl rfl) h0 z0 w0 bk0
 obtain ⟨x1,rfl,rfl,rfl,wf1⟩:=open_int Tryz.underlying21 (hval 1 _ v1 rfl rfl) h1
 have bd1:=bounds_i32 wf1
 clear hA0 hval0
 refine (cursorPlaces_card W (laidF_of hL).1 (laidF_of hL).2 sa0 sc0 x0 hs0 hl0 ea0 ec0 y0 ts0 tl0 tt0 x1 bd1.1 bd1.2).mono fun e W' ⟨he,bel'⟩=>?_
 have bel:=bel'.below
 subst he
 exact ⟨_,rfl,_,_,_,[],_,[],hW',trodAll_mk1 (shut_bool Tryz.underlying4 _),(trodAll_cons_mk (Below.trod laidOut (by kernel_rfl) (of_decide_eq_true (by kernel_rfl)) s0 bel lt0) (trodAll_cons_mk (Below.trod laidOut (by kernel_rfl) (of_decide_eq_true (by kernel_rfl)) s1 bel lt1) trodAll_mk0)),rfl,bel.frame _,fun h=>by cases h⟩
theorem over:Rows.CursorPlacesUptoSaid:=
 OpenClaim.holds_of_cond 4 Tryz.f4 rfl rfl rfl rfl rfl rfl rfl ⟨rfl,rfl,rfl,rfl,rfl⟩ rfl rfl rfl rfl rfl (by kernel_rfl) Tryz.func4 (by kernel_rfl)
  (of_decide_eq_true (by kernel_rfl)) (by unfold Func.isWrapper;first | (rw[if_pos (by decide+kernel)];kernel_rfl) | (rw[if_neg (by decide+kernel)];exact ⟨rfl,rfl⟩))
  (fun os started H enc _ F=>by rw[OpenClaim.pre_eq_preRow];exact lifted os started H enc F)
theorem proved:Rows.CursorPlacesUptoCardSaid:=
 Claim7.holds_tied_plain_at .later [] [.data, .widerDeep, .widerDeep, .pinned] true (true, "69f4ce3d37c59502d9a53de068533c7bf3ef9447f863a6a2241faef027105daf") true over (fun _ h=>by cases h) (by kernel_rfl) (fun _ h=>by cases h) cursorPlacesUpto_row_tie rfl ⟨rfl,rfl⟩ (by kernel_rfl) rfl
  (fun f fn hf hfn=>by
   obtain rfl:f=4:=Option.some.inj ((show Tryz.prog.funcNamed "deckle/decklelaw18.CursorPlaces"=some 4 by kernel_rfl).symm.trans hf) |>.symm
   obtain rfl:fn=Tryz.f4:=(Option.some.inj (Tryz.func4.symm.trans hfn)).symm
   exact ⟨by kernel_rfl,fun j t ht=>by
    rw[Tryz.params4] at ht
    have hm:t∈[36,21]:=by simpa using Array.mem_of_getElem? ht
    have hall:([36,21].all fun u=>!(Tryz.prog).wantsStandIn u)=true:=by kernel_rfl
    exact (show (Tryz.prog).wantsStandIn t=false by simpa using List.all_eq_true.1 hall t hm)⟩)
  (by kernel_rfl)
#print axioms proved
end Go.Proofs.YtibpkfnfcdbiiaaGreatDoor.cursorPlaces
