/- The package-level variables, out of the row's own condition, where entry.frames is one of them. -/
import Derived.Test.YtibpkfnfcdbiiaaGreatDoorRows
import Derived.Test.YtibpkfnfcdbiiaaGreatDoorEntryW
import Derived.Lib.LaidU8T
import Derived.OpenShut
import Derived.LaidMore
namespace Go.Proofs.YtibpkfnfcdbiiaaGreatDoor
set_option linter.unusedSimpArgs false
open Go.RowKit Go.Shelf Go.Lib
set_option linter.unusedVariables false
abbrev laidLF:List (String×DataW Unit):=[("unicode/utf8.acceptRanges",Rows.laid_unicode_utf8_acceptRanges),("deckle/cell.names",Rows.laid_deckle_cell_names),("deckle/entry.frames",Rows.laid_deckle_entry_frames),("unicode/utf8.first",Rows.laid_unicode_utf8_first)]
theorem firstF_is:Rows.laid_unicode_utf8_first=firstData:=by kernel_rfl
theorem acceptF_is:(Rows.laid_unicode_utf8_acceptRanges:DataW Unit)=acceptData:=by kernel_rfl
set_option maxRecDepth 100000 in
theorem namesF_of {W:World} (h:VarReads Tryz.prog W "deckle/cell.names" Rows.laid_deckle_cell_names):∀j u,nameVals[j]? =some u→W.cell? ⟨1,j,none⟩=some u:=by
 intro j u hj
 obtain ⟨g,t,cs,fuel,p,hg,hty,hvar,hd⟩:=h
 obtain rfl:=Option.some.inj ((show (Tryz.prog).globalNamed "deckle/cell.names"=some 1 by kernel_rfl).symm.trans hg)
 obtain rfl:=Option.some.inj ((show ((Tryz.prog).globals[1]?).map (·.type)=some 234 by kernel_rfl).symm.trans hty)
 obtain ⟨xs,m,_,ex,_,hl,hel⟩:=DataW.trod_array Tryz.underlying234 hd
 have hj6:j<6:=by have:=(List.getElem?_eq_some_iff.1 hj).1;simpa [nameVals,kindNames] using this
 have hE:=hel j hj6
 rw[show (Tryz.prog).cellsOf 9=1 from by kernel_rfl,Nat.mul_one,List.getElem?_eq_getElem (by omega)] at hE
 obtain ⟨s,e1,e2,_⟩:=DataW.trod_string Tryz.underlying9 hE
 have e3:xs.map (·.1)=kindNames.map fun n=> .lit (.string n):=(DataW.agg.inj (Prod.mk.inj ex).1).symm
 have e4:(xs.map (·.1))[j]? =(kindNames.map fun n=>(DataW.lit (.string n):DataW Unit))[j]? :=by rw[e3]
 have hkl:j<kindNames.length:=hj6
 rw[List.getElem?_map,List.getElem?_map,List.getElem?_eq_getElem (by omega:j<xs.length),List.getElem?_eq_getElem hkl,e2] at e4
 simp only[Option.map_some,Option.some.injEq,DataW.lit.injEq,Lit.string.injEq] at e4
 have hu:u= .string s:=by
  unfold nameVals at hj
  rw[List.getElem?_map,List.getElem?_eq_getElem hkl] at hj
  simp only[Option.map_some,Option.some.injEq] at hj
  rw[←hj,←e4,bs_of]
 rw[World.var?_cell hg hvar j,hu]
 have:cs.toList[j]? =some (.string s):=by
  have h0:((cs.toList.drop j).take 1)[0]? =some (.string s):=by rw[e1];rfl
  simpa using h0
 simpa using this
set_option maxRecDepth 100000 in
theorem frames_of {W:World} (h:VarReads Tryz.prog W "deckle/entry.frames" Rows.laid_deckle_entry_frames):Frames W:=by
 intro j hj
 obtain ⟨g,t,cs,fuel,p,hg,hty,hvar,hd⟩:=h
 obtain rfl:=Option.some.inj ((show (Tryz.prog).globalNamed "deckle/entry.frames"=some 0 by kernel_rfl).symm.trans hg)
 obtain rfl:=Option.some.inj ((show ((Tryz.prog).globals[0]?).map (·.type)=some 157 by kernel_rfl).symm.trans hty)
 obtain ⟨xs,m,_,ex,_,hl,hel⟩:=DataW.trod_array Tryz.underlying157 hd
 have hE:=hel j hj
 rw[show (Tryz.prog).cellsOf 3=1 from by kernel_rfl,Nat.mul_one,List.getElem?_eq_getElem (by omega)] at hE
 obtain ⟨n,e1,e2,_⟩:=DataW.trod_int Tryz.underlying3 hE
 have e3:xs.map (·.1)=[.lit (.int .i64 2), .lit (.int .i64 1)]:=(DataW.agg.inj (Prod.mk.inj ex).1).symm
 have e4:(xs.map (·.1))[j]? =[(DataW.lit (.int .i64 2):DataW Unit), .lit (.int .i64 1)][j]? :=by rw[e3]
 rw[List.getElem?_map,List.getElem?_eq_getElem (by omega:j<xs.length),e2] at e4
 have hn:n=(fk j:Nat):=by
  match j,hj,e4 with
  | 0,_,e4=>simp at e4;simp[fk,e4]
  | 1,_,e4=>simp at e4;simp[fk,e4]
 rw[World.var?_cell hg hvar j]
 have:cs.toList[j]? =some (.int .i64 n):=by
  have h0:((cs.toList.drop j).take 1)[0]? =some (.int .i64 n):=by rw[e1];rfl
  simpa using h0
 rw[←hn]
 simpa using this
theorem laidF_of {W:World} (h:laidMetH Tryz.prog laidLF W):Laid W∧Frames W:=by
 rw[MakeChecks.laidMetH_plain _ _ _ (by kernel_rfl)] at h
 have h1:=laidMet.reads h (n:= "unicode/utf8.acceptRanges") (d:=Rows.laid_unicode_utf8_acceptRanges) (.head _)
 have h2:=laidMet.reads h (n:= "deckle/cell.names") (d:=Rows.laid_deckle_cell_names) (.tail _ (.head _))
 have h3:=laidMet.reads h (n:= "unicode/utf8.first") (d:=Rows.laid_unicode_utf8_first) (.tail _ (.tail _ (.tail _ (.head _))))
 have h4:=laidMet.reads h (n:= "deckle/entry.frames") (d:=Rows.laid_deckle_entry_frames) (.tail _ (.tail _ (.head _)))
 rw[acceptF_is] at h1
 rw[firstF_is] at h3
 exact ⟨⟨utf8Tabs_of_readsT (U8Types.of196 Tryz.lays196) ⟨by kernel_rfl,by kernel_rfl,by kernel_rfl,by kernel_rfl,by kernel_rfl,by kernel_rfl,by kernel_rfl⟩ h3 h1,namesF_of h2⟩,frames_of h4⟩
end Go.Proofs.YtibpkfnfcdbiiaaGreatDoor
