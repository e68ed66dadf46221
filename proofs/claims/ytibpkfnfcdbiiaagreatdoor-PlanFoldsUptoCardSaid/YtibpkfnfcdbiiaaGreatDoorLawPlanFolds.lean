/- decklelaw19.PlanFolds answers true whatever it is given, and each argument reads behind the call as it read before. -/
import Derived.Test.YtibpkfnfcdbiiaaGreatDoorLaidOfF
import Derived.Test.YtibpkfnfcdbiiaaGreatDoorTie
import Derived.Test.YtibpkfnfcdbiiaaGreatDoorCards
import Derived.Test.YtibpkfnfcdbiiaaGreatDoorFolds19
import Derived.Test.YtibpkfnfcdbiiaaGreatDoorOpenTr
import Derived.Test.YtibpkfnfcdbiiaaGreatDoorBunJ
import Derived.ProofKit
import Derived.Lay
import Derived.SevenTiedAt
import Derived.Stop.Joined
import Derived.Deep.DeepHandedRow
import Derived.WalkKit
namespace Go.Proofs.YtibpkfnfcdbiiaaGreatDoor.planFolds
set_option linter.unusedSimpArgs false
set_option linter.unusedVariables false
open Go.ChangeShapes Go.WideShapes Go.ChangeAt Go.RowKit
theorem own:ownKnob Tryz.prog.godebug=none:=by kernel_rfl
theorem laidOut:laidOutB Tryz.prog=true:=by kernel_rfl
set_option maxRecDepth 100000 in
set_option maxHeartbeats 16000000 in
theorem lifted (os:Os) (started:os.Started) (H:Type) (enc:TypeId×Value→H) (Fi:Stop.Interp):
 ReturnsInHanded {} Tryz.checked os 12 .any ((Rows.OpenSpec.upto Rows.planFoldsSpec).preRow enc Tryz.prog Tryz.f12 Rows.planFoldsUptoRow.domain false Rows.planFoldsUptoRow.laid) (((Rows.OpenSpec.upto Rows.planFoldsSpec).at Fi).post enc Tryz.prog Tryz.f12 false true false false):=by
 have hx:DataW.whole enc Tryz.prog ((World.laidAll Tryz.prog os laidLF).forCall (fun _ _=>0) ⟨#[],#[.agg #[.slice none 0 0, .slice none 0 0], .agg #[.int .u8 0, .int .u8 0]],[]⟩).memory Tryz.f12.params.toList Rows.planFoldsSpec.vars false #[.agg #[.slice none 0 0, .slice none 0 0], .agg #[.int .u8 0, .int .u8 0]].toList 8=some ([.agg [.nil, .nil], .agg [.lit (.int .u8 0), .lit (.int .u8 0)]],[],[]):=by kernel_rfl
 refine returnsInHanded_of_row (C:=Tryz.checked) (s:=Rows.OpenSpec.upto Rows.planFoldsSpec) own started (by kernel_rfl) Tryz.func12
  (witness_row_at (enc:=enc) (C:=Tryz.checked) false (World.laidAll Tryz.prog os laidLF) #[.agg #[.slice none 0 0, .slice none 0 0], .agg #[.int .u8 0, .int .u8 0]] (World.laidAll_os _ _ _) (by kernel_rfl) (by kernel_rfl) (by kernel_rfl)
   (OpenSpec.preRow_of_cond 8 hx (by kernel_rfl) (fun k hk=>by cases hk;kernel_rfl) (by kernel_rfl) (by rw[MakeChecks.laidMetH_plain _ _ _ (by kernel_rfl)];exact laidMet_laidAll _ (by kernel_rfl) (by kernel_rfl)))) ?_
 intro W base args ds gs before hval0 hW hc hcond hwt hL _ _
 have hbk:=hcond _ rfl
 have hval:∀(j:Nat) t v,Tryz.f12.params[j]? =some t→args[j]? =some v→Value.okWide Tryz.prog W .any base t v:=hval0
 have hW' :=hW
 obtain ⟨p,q,hA0,hV,rfl,hfz,hnd⟩:=hW
 have hA:DataW.TrodAll enc Tryz.prog W 0 (fun _=>true) true Tryz.f12.params.toList args.toList ds p:=hA0
 rw[Tryz.params12] at hA hval hwt
 obtain ⟨v0,vs0,d0,ds0,p0,q0,hargs,rfl,rfl,h0,r0⟩:=trodAll_cons hA
 obtain ⟨v1,vs1,d1,ds1,p1,q1,rfl,rfl,rfl,h1,r1⟩:=trodAll_cons r0
 obtain ⟨rfl,rfl,rfl⟩:=trodAll_nil r1
 obtain rfl:args=#[v0,v1]:=by cases args;simp_all
 obtain ⟨rfl,rfl⟩:=trodVars_none hV
 have hw:∀n∈DataW.weightsEach Tryz.prog [36,84] [d0,d1],n≤lim:=fun n hn=>by
  have hwt' :(DataW.weightsEach Tryz.prog [36,84] [d0,d1]).all (· ≤reachBytes)=true:=hwt
  have h:=List.all_eq_true.1 hwt' n hn
  have h:=of_decide_eq_true h
  unfold reachBytes at h
  unfold lim
  omega
 have hbk' :Rows.uptoBulkAll [d0,d1]≤1048576:=by
  have h:Rows.uptoSmall H [d0,d1]=true:=hbk
  exact of_decide_eq_true h
 have bk0:Rows.uptoBulk d0≤1048576:=Nat.le_trans (bulk_part (by simp)) hbk'
 have bk1:Rows.uptoBulk d1≤1048576:=Nat.le_trans (bulk_part (by simp)) hbk'
 have lt0:∀x∈p0,x.block<W.heap.size:=by obtain ⟨m,hm⟩:=h0;exact DataW.trod_lt m _ _ _ hm
 have z0:W.noneFrozen p0:=fun b off hm=>hfz b off (by simp[hm])
 have s0:=h0
 have w0:Rch 36 d0:=fun n hn=>hw n (by simp only[DataW.weightsEach,List.mem_append];exact Or.inl hn)
 have lt1:∀x∈p1,x.block<W.heap.size:=by obtain ⟨m,hm⟩:=h1;exact DataW.trod_lt m _ _ _ hm
 have z1:W.noneFrozen p1:=fun b off hm=>hfz b off (by simp[hm])
 have s1:=h1
 have w1:Rch 84 d1:=fun n hn=>hw n (by simp only[DataW.weightsEach,List.mem_append];exact Or.inr (Or.inl hn))
 obtain ⟨sa0,sc0,x0,ea0,ec0,y0,rfl,hs0,hl0,ts0,tl0,tt0⟩:=open_trace (hval 0 _ v0 rfl rfl) h0 z0 w0 bk0
 obtain ⟨y1,rfl,l1⟩:∃cs,v1= .agg cs∧cs.size=2:=by
  have h:Value.okWide Tryz.prog W .any base 84 v1:=hval 1 _ v1 rfl rfl
  unfold Value.okWide at h
  rw[Tryz.underlying84] at h
  obtain ⟨cs,rfl,hl,_⟩:=h
  exact ⟨cs,rfl,hl.trans (by kernel_rfl)⟩
 obtain ⟨u1a,u1b,rfl⟩:∃u0 u1,y1=#[u0,u1]:=by
  obtain ⟨x1⟩:=y1
  have l1:x1.length=2:=l1
  rcases x1 with _ | ⟨u0,_ | ⟨u1,_ | ⟨u2,x1⟩⟩⟩
  · simp at l1
  · simp at l1
  · exact ⟨u0,u1,rfl⟩
  · simp at l1
 obtain ⟨m1,g1⟩:=h1
 obtain ⟨ys1,m1',_,ex1,_,ly1,hel1⟩:=DataW.trod_array Tryz.underlying84 g1
 obtain ⟨y1a,y1b,rfl⟩:∃y0 y1,ys1=[y0,y1]:=by
  rcases ys1 with _ | ⟨y0,_ | ⟨y1,_ | ⟨y2,ys⟩⟩⟩
  · simp at ly1
  · simp at ly1
  · exact ⟨y0,y1,rfl⟩
  · simp at ly1
 simp only[Prod.mk.injEq] at ex1
 have g1a:=hel1 0 (by omega)
 have g1b:=hel1 1 (by omega)
 rw[show (Tryz.prog).cellsOf 5=1 from by kernel_rfl] at g1a g1b
 simp[Value.cells] at g1a g1b
 obtain ⟨x1,ea1,_,wa1⟩:=DataW.trod_int Tryz.underlying5 g1a
 obtain ⟨t1,eb1,_,wb1⟩:=DataW.trod_int Tryz.underlying5 g1b
 simp at ea1 eb1
 subst ea1 eb1
 have ba1:=bounds_u8 wa1
 have bb1:=bounds_u8 wb1
 obtain ⟨x1,rfl⟩:∃n:Nat,x1=n:=⟨x1.toNat,by omega⟩
 obtain ⟨t1,rfl⟩:∃n:Nat,t1=n:=⟨t1.toNat,by omega⟩
 clear hA0 hval0
 refine (planFolds_card W (laidF_of hL).1 (laidF_of hL).2 sa0 sc0 x0 hs0 hl0 ea0 ec0 y0 ts0 tl0 tt0 x1 t1 (by omega) (by omega)).mono fun e W' ⟨he,bel'⟩=>?_
 have bel:=bel'.below
 subst he
 exact ⟨_,rfl,_,_,_,[],_,[],hW',trodAll_mk1 (shut_bool Tryz.underlying4 _),(trodAll_cons_mk (Below.trod laidOut (by kernel_rfl) (of_decide_eq_true (by kernel_rfl)) s0 bel lt0) (trodAll_cons_mk (Below.trod laidOut (by kernel_rfl) (of_decide_eq_true (by kernel_rfl)) s1 bel lt1) trodAll_mk0)),rfl,bel.frame _,fun h=>by cases h⟩
theorem over:Rows.PlanFoldsUptoSaid:=
 OpenClaim.holds_of_cond 12 Tryz.f12 rfl rfl rfl rfl rfl rfl rfl ⟨rfl,rfl,rfl,rfl,rfl⟩ rfl rfl rfl rfl rfl (by kernel_rfl) Tryz.func12 (by kernel_rfl)
  (of_decide_eq_true (by kernel_rfl)) (by unfold Func.isWrapper;first | (rw[if_pos (by decide+kernel)];kernel_rfl) | (rw[if_neg (by decide+kernel)];exact ⟨rfl,rfl⟩))
  (fun os started H enc _ F=>by rw[OpenClaim.pre_eq_preRow];exact lifted os started H enc F)
theorem proved:Rows.PlanFoldsUptoCardSaid:=
 Claim7.holds_tied_plain_at .later [] [.data, .widerDeep, .widerDeep, .pinned] true (true, "69f4ce3d37c59502d9a53de068533c7bf3ef9447f863a6a2241faef027105daf") true over (fun _ h=>by cases h) (by kernel_rfl) (fun _ h=>by cases h) planFoldsUpto_row_tie rfl ⟨rfl,rfl⟩ (by kernel_rfl) rfl
  (fun f fn hf hfn=>by
   obtain rfl:f=12:=Option.some.inj ((show Tryz.prog.funcNamed "deckle/decklelaw19.PlanFolds"=some 12 by kernel_rfl).symm.trans hf) |>.symm
   obtain rfl:fn=Tryz.f12:=(Option.some.inj (Tryz.func12.symm.trans hfn)).symm
   exact ⟨by kernel_rfl,fun j t ht=>by
    rw[Tryz.params12] at ht
    have hm:t∈[36,84]:=by simpa using Array.mem_of_getElem? ht
    have hall:([36,84].all fun u=>!(Tryz.prog).wantsStandIn u)=true:=by kernel_rfl
    exact (show (Tryz.prog).wantsStandIn t=false by simpa using List.all_eq_true.1 hall t hm)⟩)
  (by kernel_rfl)
#print axioms proved
end Go.Proofs.YtibpkfnfcdbiiaaGreatDoor.planFolds
