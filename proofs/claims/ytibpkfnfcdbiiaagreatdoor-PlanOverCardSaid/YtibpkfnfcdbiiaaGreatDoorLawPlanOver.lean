/- decklelaw19.PlanOver answers true whatever it is given, and each argument reads behind the call as it read before. -/
import Derived.Test.YtibpkfnfcdbiiaaGreatDoorLaidOfF
import Derived.Test.YtibpkfnfcdbiiaaGreatDoorTie
import Derived.Test.YtibpkfnfcdbiiaaGreatDoorCards
import Derived.Test.YtibpkfnfcdbiiaaGreatDoorOver19
import Derived.Test.YtibpkfnfcdbiiaaGreatDoorBunJ
import Derived.ProofKit
import Derived.Lay
import Derived.SevenTiedAt
import Derived.Stop.Joined
namespace Go.Proofs.YtibpkfnfcdbiiaaGreatDoor.planOver
set_option linter.unusedSimpArgs false
set_option linter.unusedVariables false
open Go.ChangeShapes Go.WideShapes Go.ChangeAt Go.RowKit
theorem own:ownKnob Tryz.prog.godebug=none:=by kernel_rfl
theorem laidOut:laidOutB Tryz.prog=true:=by kernel_rfl
set_option maxRecDepth 100000 in
set_option maxHeartbeats 4000000 in
theorem lifted (os:Os) (started:os.Started) (H:Type) (enc:TypeId×Value→H):
 ReturnsInHanded {} Tryz.checked os 7 .any (fun w args=>(Rows.planOverSpec.pre enc Tryz.prog Tryz.f7 Rows.planOverRow.domain false w args∧laidMetH Tryz.prog Rows.planOverRow.laid w)∧sizedMet enc Tryz.prog Tryz.f7 (OpenSpec.ofChange Rows.planOverSpec) false w args)
  (Rows.planOverSpec.post enc Tryz.prog Tryz.f7 false true false false):=by
 refine returnsInHanded_of_change_and (C:=Tryz.checked) (X:=fun w _=>laidMetH Tryz.prog laidLF w) (fun _ _ _ hh h=>h.of_heap hh) own started (by kernel_rfl) Tryz.func7
  (ChangeSpec.witness_shaped (enc:=enc) (C:=Tryz.checked) (os:=os) (X:=fun w _=>laidMetH Tryz.prog laidLF w) false (World.laidAll Tryz.prog os laidLF) #[.int .i64 0, .int .i64 0] 8 (World.laidAll_os _ _ _)
   (World.shaped_of_ZipB (by kernel_rfl) (by kernel_rfl)) (by kernel_rfl) (by kernel_rfl) (by kernel_rfl)
   (by rw[MakeChecks.laidMetH_plain _ _ _ (by kernel_rfl)];exact laidMet_laidAll _ (by kernel_rfl) (by kernel_rfl))) ?_
 intro W base args ds gs before hval0 hW hc hwt hL _
 have hval:∀(j:Nat) t v,Tryz.f7.params[j]? =some t→args[j]? =some v→Value.okWide Tryz.prog W .any base t v:=hval0
 have hW' :=hW
 obtain ⟨p,q,hA0,hV,rfl,hfz,hnd⟩:=hW
 have hA:DataW.TrodAll enc Tryz.prog W 0 (fun _=>true) true Tryz.f7.params.toList args.toList ds p:=hA0
 rw[Tryz.params7] at hA hval hwt
 obtain ⟨v0,vs0,d0,ds0,p0,q0,hargs,rfl,rfl,h0,r0⟩:=trodAll_cons hA
 obtain ⟨v1,vs1,d1,ds1,p1,q1,rfl,rfl,rfl,h1,r1⟩:=trodAll_cons r0
 obtain ⟨rfl,rfl,rfl⟩:=trodAll_nil r1
 obtain rfl:args=#[v0,v1]:=by cases args;simp_all
 obtain ⟨rfl,rfl⟩:=trodVars_none hV
 have hw:∀n∈DataW.weightsEach Tryz.prog [2,2] [d0,d1],n≤lim:=fun n hn=>by
  have hwt' :(DataW.weightsEach Tryz.prog [2,2] [d0,d1]).all (· ≤reachBytes)=true:=hwt
  have h:=List.all_eq_true.1 hwt' n hn
  have h:=of_decide_eq_true h
  unfold reachBytes at h
  unfold lim
  omega
 have lt0:∀x∈p0,x.block<W.heap.size:=by obtain ⟨m,hm⟩:=h0;exact DataW.trod_lt m _ _ _ hm
 have z0:W.noneFrozen p0:=fun b off hm=>hfz b off (by simp[hm])
 have s0:=h0
 have w0:Rch 2 d0:=fun n hn=>hw n (by simp only[DataW.weightsEach,List.mem_append];exact Or.inl hn)
 have lt1:∀x∈p1,x.block<W.heap.size:=by obtain ⟨m,hm⟩:=h1;exact DataW.trod_lt m _ _ _ hm
 have z1:W.noneFrozen p1:=fun b off hm=>hfz b off (by simp[hm])
 have s1:=h1
 have w1:Rch 2 d1:=fun n hn=>hw n (by simp only[DataW.weightsEach,List.mem_append];exact Or.inr (Or.inl hn))
 obtain ⟨x0,rfl,rfl,rfl,wf0⟩:=open_int Tryz.underlying2 (hval 0 _ v0 rfl rfl) h0
 have bd0:=bounds_i64 wf0
 obtain ⟨x1,rfl,rfl,rfl,wf1⟩:=open_int Tryz.underlying2 (hval 1 _ v1 rfl rfl) h1
 have bd1:=bounds_i64 wf1
 clear hA0 hval0
 refine (planOver_card W (laidF_of hL).1 (laidF_of hL).2 x0 bd0.1 bd0.2 x1 bd1.1 bd1.2).mono fun e W' ⟨he,bel'⟩=>?_
 have bel:=bel'.below
 subst he
 exact ⟨_,rfl,_,_,_,[],_,[],hW',trodAll_mk1 (shut_bool Tryz.underlying4 _),(trodAll_cons_mk (Below.trod laidOut (by kernel_rfl) (of_decide_eq_true (by kernel_rfl)) s0 bel lt0) (trodAll_cons_mk (Below.trod laidOut (by kernel_rfl) (of_decide_eq_true (by kernel_rfl)) s1 bel lt1) trodAll_mk0)),rfl,bel.frame _,fun h=>by cases h⟩
theorem over:Rows.PlanOverSaid:=
 OpenClaim.holds_of_wide 7 Tryz.f7 rfl rfl rfl rfl rfl rfl rfl ⟨rfl,rfl,rfl,rfl,rfl⟩ rfl rfl rfl rfl rfl (by kernel_rfl) Tryz.func7 (by kernel_rfl)
  (of_decide_eq_true (by kernel_rfl)) (by unfold Func.isWrapper;first | (rw[if_pos (by decide+kernel)];kernel_rfl) | (rw[if_neg (by decide+kernel)];exact ⟨rfl,rfl⟩))
  (fun os started H enc _=>lifted os started H enc)
theorem proved:Rows.PlanOverCardSaid:=
 Claim7.holds_tied_plain_at .later [] [.data, .widerDeep, .widerDeep, .pinned] true (true, "69f4ce3d37c59502d9a53de068533c7bf3ef9447f863a6a2241faef027105daf") true over (fun _ h=>by cases h) (by kernel_rfl) (fun _ h=>by cases h) planOver_row_tie rfl ⟨rfl,rfl⟩ (by kernel_rfl) rfl
  (fun f fn hf hfn=>by
   obtain rfl:f=7:=Option.some.inj ((show Tryz.prog.funcNamed "deckle/decklelaw19.PlanOver"=some 7 by kernel_rfl).symm.trans hf) |>.symm
   obtain rfl:fn=Tryz.f7:=(Option.some.inj (Tryz.func7.symm.trans hfn)).symm
   exact ⟨by kernel_rfl,fun j t ht=>by
    rw[Tryz.params7] at ht
    have hm:t∈[2,2]:=by simpa using Array.mem_of_getElem? ht
    have hall:([2,2].all fun u=>!(Tryz.prog).wantsStandIn u)=true:=by kernel_rfl
    exact (show (Tryz.prog).wantsStandIn t=false by simpa using List.all_eq_true.1 hall t hm)⟩)
  (by kernel_rfl)
#print axioms proved
end Go.Proofs.YtibpkfnfcdbiiaaGreatDoor.planOver
