/- decklelaw14.WriterReopens answers true whatever it is given, and each argument reads behind the call as it read before. -/
import Derived.Test.YtibpkfnfcdbiiaaGreatDoorLaidOfF
import Derived.Test.YtibpkfnfcdbiiaaGreatDoorTie
import Derived.Test.YtibpkfnfcdbiiaaGreatDoorCards
import Derived.Test.YtibpkfnfcdbiiaaGreatDoorReopens
import Derived.Test.YtibpkfnfcdbiiaaGreatDoorBunS
import Derived.Test.YtibpkfnfcdbiiaaGreatDoorBunJ
import Derived.ProofKit
import Derived.Lay
import Derived.SevenTiedAt
import Derived.Stop.Joined
import Derived.Deep.DeepHandedRow
import Derived.WalkKit
namespace Go.Proofs.YtibpkfnfcdbiiaaGreatDoor.writerReopens
set_option linter.unusedSimpArgs false
set_option linter.unusedVariables false
open Go.ChangeShapes Go.WideShapes Go.ChangeAt Go.RowKit
theorem own:ownKnob Tryz.prog.godebug=none:=by kernel_rfl
theorem laidOut:laidOutB Tryz.prog=true:=by kernel_rfl
set_option maxRecDepth 100000 in
set_option maxHeartbeats 4000000 in
theorem lifted (os:Os) (started:os.Started) (H:Type) (enc:TypeId×Value→H) (Fi:Stop.Interp):
 ReturnsInHanded {} Tryz.checked os 9 .any ((Rows.OpenSpec.upto Rows.writerReopensSpec).preRow enc Tryz.prog Tryz.f9 Rows.writerReopensUptoRow.domain false Rows.writerReopensUptoRow.laid) (((Rows.OpenSpec.upto Rows.writerReopensSpec).at Fi).post enc Tryz.prog Tryz.f9 false true false false):=by
 have hx:DataW.whole enc Tryz.prog ((World.laidAll Tryz.prog os laidLF).forCall (fun _ _=>0) ⟨#[],#[.slice none 0 0, .slice none 0 0, .int .u8 0],[]⟩).memory Tryz.f9.params.toList Rows.writerReopensSpec.vars false #[.slice none 0 0, .slice none 0 0, .int .u8 0].toList 8=some ([.nil, .nil, .lit (.int .u8 0)],[],[]):=by kernel_rfl
 refine returnsInHanded_of_row (C:=Tryz.checked) (s:=Rows.OpenSpec.upto Rows.writerReopensSpec) own started (by kernel_rfl) Tryz.func9
  (witness_row_at (enc:=enc) (C:=Tryz.checked) false (World.laidAll Tryz.prog os laidLF) #[.slice none 0 0, .slice none 0 0, .int .u8 0] (World.laidAll_os _ _ _) (by kernel_rfl) (by kernel_rfl) (by kernel_rfl)
   (OpenSpec.preRow_of_cond 8 hx (by kernel_rfl) (fun k hk=>by cases hk;kernel_rfl) (by kernel_rfl) (by rw[MakeChecks.laidMetH_plain _ _ _ (by kernel_rfl)];exact laidMet_laidAll _ (by kernel_rfl) (by kernel_rfl)))) ?_
 intro W base args ds gs before hval0 hW hc hcond hwt hL _ _
 have hbk:=hcond _ rfl
 have hval:∀(j:Nat) t v,Tryz.f9.params[j]? =some t→args[j]? =some v→Value.okWide Tryz.prog W .any base t v:=hval0
 have hW' :=hW
 obtain ⟨p,q,hA0,hV,rfl,hfz,hnd⟩:=hW
 have hA:DataW.TrodAll enc Tryz.prog W 0 (fun _=>true) true Tryz.f9.params.toList args.toList ds p:=hA0
 rw[Tryz.params9] at hA hval hwt
 obtain ⟨v0,vs0,d0,ds0,p0,q0,hargs,rfl,rfl,h0,r0⟩:=trodAll_cons hA
 obtain ⟨v1,vs1,d1,ds1,p1,q1,rfl,rfl,rfl,h1,r1⟩:=trodAll_cons r0
 obtain ⟨v2,vs2,d2,ds2,p2,q2,rfl,rfl,rfl,h2,r2⟩:=trodAll_cons r1
 obtain ⟨rfl,rfl,rfl⟩:=trodAll_nil r2
 obtain rfl:args=#[v0,v1,v2]:=by cases args;simp_all
 obtain ⟨rfl,rfl⟩:=trodVars_none hV
 have hw:∀n∈DataW.weightsEach Tryz.prog [22,86,5] [d0,d1,d2],n≤lim:=fun n hn=>by
  have hwt' :(DataW.weightsEach Tryz.prog [22,86,5] [d0,d1,d2]).all (· ≤reachBytes)=true:=hwt
  have h:=List.all_eq_true.1 hwt' n hn
  have h:=of_decide_eq_true h
  unfold reachBytes at h
  unfold lim
  omega
 have hbk' :Rows.uptoBulkAll [d0,d1,d2]≤1048576:=by
  have h:Rows.uptoSmall H [d0,d1,d2]=true:=hbk
  exact of_decide_eq_true h
 have bk0:Rows.uptoBulk d0≤1048576:=Nat.le_trans (bulk_part (by simp)) hbk'
 have bk1:Rows.uptoBulk d1≤1048576:=Nat.le_trans (bulk_part (by simp)) hbk'
 have bk2:Rows.uptoBulk d2≤1048576:=Nat.le_trans (bulk_part (by simp)) hbk'
 have lt0:∀x∈p0,x.block<W.heap.size:=by obtain ⟨m,hm⟩:=h0;exact DataW.trod_lt m _ _ _ hm
 have z0:W.noneFrozen p0:=fun b off hm=>hfz b off (by simp[hm])
 have s0:=h0
 have w0:Rch 22 d0:=fun n hn=>hw n (by simp only[DataW.weightsEach,List.mem_append];exact Or.inl hn)
 have lt1:∀x∈p1,x.block<W.heap.size:=by obtain ⟨m,hm⟩:=h1;exact DataW.trod_lt m _ _ _ hm
 have z1:W.noneFrozen p1:=fun b off hm=>hfz b off (by simp[hm])
 have s1:=h1
 have w1:Rch 86 d1:=fun n hn=>hw n (by simp only[DataW.weightsEach,List.mem_append];exact Or.inr (Or.inl hn))
 have lt2:∀x∈p2,x.block<W.heap.size:=by obtain ⟨m,hm⟩:=h2;exact DataW.trod_lt m _ _ _ hm
 have z2:W.noneFrozen p2:=fun b off hm=>hfz b off (by simp[hm])
 have s2:=h2
 have w2:Rch 5 d2:=fun n hn=>hw n (by simp only[DataW.weightsEach,List.mem_append];exact Or.inr (Or.inr (Or.inl hn)))
 obtain ⟨a00,n00,c00,rfl⟩:=okWide_slice Tryz.underlying22 (hval 0 _ v0 rfl rfl)
 obtain ⟨m0,g0⟩:=h0
 obtain ⟨a0,ca0,x0,e0,sv0,ls0⟩:=open_cols g0 z0 w0
 simp[Value.cells] at e0
 obtain ⟨rfl,rfl,rfl⟩:=e0
 obtain ⟨a01,n01,c01,rfl⟩:=okWide_slice Tryz.underlying86 (hval 1 _ v1 rfl rfl)
 obtain ⟨m1,g1⟩:=h1
 obtain ⟨a1,ca1,x1,e1,sv1,ls1,lb1⟩:=open_acts_b g1 z1 w1 bk1
 simp[Value.cells] at e1
 obtain ⟨rfl,rfl,rfl⟩:=e1
 obtain ⟨x2,rfl,rfl,rfl,wf2⟩:=open_int Tryz.underlying5 (hval 2 _ v2 rfl rfl) h2
 have bd2:=bounds_u8 wf2
 obtain ⟨x2,rfl⟩:∃n:Nat,x2=n:=⟨x2.toNat,by omega⟩
 clear hA0 hval0
 refine (writerReopens_card W (laidF_of hL).1 (laidF_of hL).2 a00 c00 x0 sv0 ls0 a01 c01 x1 sv1 ls1 lb1 x2 (by omega)).mono fun e W' ⟨he,bel'⟩=>?_
 have bel:=bel'.below
 subst he
 exact ⟨_,rfl,_,_,_,[],_,[],hW',trodAll_mk1 (shut_bool Tryz.underlying4 _),(trodAll_cons_mk (Below.trod laidOut (by kernel_rfl) (of_decide_eq_true (by kernel_rfl)) s0 bel lt0) (trodAll_cons_mk (Below.trod laidOut (by kernel_rfl) (of_decide_eq_true (by kernel_rfl)) s1 bel lt1) (trodAll_cons_mk (Below.trod laidOut (by kernel_rfl) (of_decide_eq_true (by kernel_rfl)) s2 bel lt2) trodAll_mk0))),rfl,bel.frame _,fun h=>by cases h⟩
theorem over:Rows.WriterReopensUptoSaid:=
 OpenClaim.holds_of_cond 9 Tryz.f9 rfl rfl rfl rfl rfl rfl rfl ⟨rfl,rfl,rfl,rfl,rfl⟩ rfl rfl rfl rfl rfl (by kernel_rfl) Tryz.func9 (by kernel_rfl)
  (of_decide_eq_true (by kernel_rfl)) (by unfold Func.isWrapper;first | (rw[if_pos (by decide+kernel)];kernel_rfl) | (rw[if_neg (by decide+kernel)];exact ⟨rfl,rfl⟩))
  (fun os started H enc _ F=>by rw[OpenClaim.pre_eq_preRow];exact lifted os started H enc F)
theorem proved:Rows.WriterReopensUptoCardSaid:=
 Claim7.holds_tied_plain_at .later [] [.data, .widerDeep, .widerDeep, .pinned] true (true, "69f4ce3d37c59502d9a53de068533c7bf3ef9447f863a6a2241faef027105daf") true over (fun _ h=>by cases h) (by kernel_rfl) (fun _ h=>by cases h) writerReopensUpto_row_tie rfl ⟨rfl,rfl⟩ (by kernel_rfl) rfl
  (fun f fn hf hfn=>by
   obtain rfl:f=9:=Option.some.inj ((show Tryz.prog.funcNamed "deckle/decklelaw14.WriterReopens"=some 9 by kernel_rfl).symm.trans hf) |>.symm
   obtain rfl:fn=Tryz.f9:=(Option.some.inj (Tryz.func9.symm.trans hfn)).symm
   exact ⟨by kernel_rfl,fun j t ht=>by
    rw[Tryz.params9] at ht
    have hm:t∈[22,86,5]:=by simpa using Array.mem_of_getElem? ht
    have hall:([22,86,5].all fun u=>!(Tryz.prog).wantsStandIn u)=true:=by kernel_rfl
    exact (show (Tryz.prog).wantsStandIn t=false by simpa using List.all_eq_true.1 hall t hm)⟩)
  (by kernel_rfl)
#print axioms proved
end Go.Proofs.YtibpkfnfcdbiiaaGreatDoor.writerReopens
