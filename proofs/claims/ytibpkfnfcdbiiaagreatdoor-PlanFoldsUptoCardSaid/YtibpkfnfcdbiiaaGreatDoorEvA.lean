/- Worlds that go on: what was read stays read, but for the blocks that are somebody's own; the contracts of sets in these words. -/
import Derived.Test.YtibpkfnfcdbiiaaGreatDoorBunI
import Derived.Test.YtibpkfnfcdbiiaaGreatDoorBunH
import Derived.Test.YtibpkfnfcdbiiaaGreatDoorEvo
namespace Go.Proofs.YtibpkfnfcdbiiaaGreatDoor
set_option linter.unusedSimpArgs false
open Go.RowKit
set_option linter.unusedVariables false
noncomputable def collectF (s:List Col) (l:List Pr):Nat×List Pr:=open Classical in if h:∃p:Nat×List Pr,Collected s l p.1 p.2 then Classical.choose h else (0,[])
theorem collectF_of {s:List Col} {l:List Pr} {e:Nat} {out:List Pr} (h:Collected s l e out):collectF s l=(e,out):=by
 unfold collectF
 have h0:∃p:Nat×List Pr,Collected s l p.1 p.2:=⟨(e,out),h⟩
 rw[dif_pos h0]
 obtain ⟨h1,h2⟩:=collected_det (Classical.choose_spec h0) h
 exact Prod.ext h1 h2
section
variable {w:World} {B:Nat→Prop} {a b c:Option Addr} {ca cb cc:Nat} {s:List Col} {l r:List Pr}
theorem collect_o (hs:SV rCol 2 (free w B) w a ca s) (hl:SV rPr 2 (free w B) w b cb l) (hL:Laid w) (h0:s.length≤lim) (h1:l.length≤1000000) (hB:∀k,B k→k<w.heap.size):
 Calls Tryz.prog 18 #[.slice a s.length ca, .slice b l.length cb] w fun e w' =>∃en out ao co,e= .returned (.tuple #[.slice ao out.length co, .int .i64 (en:Nat)])∧Collected s l en out∧Fr nob w w' ∧SV rPr 2 (free w' B) w' ao co out∧(en≠0→ao=none∧co=0):=
 (collect_any _ _ w a b ca cb s l hs hl hL h0 h1 (fun k h=>h.1) (fun k h=>h.1)).mono (fun e w' ⟨en,out,ao,co,he,hc,hf,hsv,h⟩=>⟨en,out,ao,co,he,hc,hf,hsv.new rPr_ok hB,h⟩)
theorem zsum_o (hs:SV rCol 2 (free w B) w a ca s) (hl:SV rPr 2 (free w B) w b cb l) (hr:SV rPr 2 (free w B) w c cc r) (hL:Laid w) (h0:s.length≤lim) (h1:l.length≤400000) (h2:r.length≤400000) (hB:∀k,B k→k<w.heap.size):
 Calls Tryz.prog 20 #[.slice a s.length ca, .slice b l.length cb, .slice c r.length cc] w fun e w' =>∃en out ao co,e= .returned (.tuple #[.slice ao out.length co, .int .i64 (en:Nat)])∧Summed s l r en out∧Fr nob w w' ∧SV rPr 2 (free w' B) w' ao co out∧(en≠0→ao=none∧co=0):=
 (zsum_any _ _ w a b c ca cb cc s l r hs hl hr hL h0 h1 h2 (fun k h=>h.1) (fun k h=>h.1)).mono (fun e w' ⟨en,out,ao,co,he,hc,hf,hsv,h⟩=>⟨en,out,ao,co,he,hc,hf,hsv.new rPr_ok hB,h⟩)
theorem zcheck_o (hs:SV rCol 2 (free w B) w a ca s) (hl:SV rPr 2 (free w B) w b cb l) (hL:Laid w) (h0:s.length≤lim) (h1:l.length≤lim):
 Calls Tryz.prog 65 #[.slice a s.length ca, .slice b l.length cb] w fun e w' =>e= .returned (.int .i64 (zCheck s l))∧Fr nob w w' :=
 zcheck_any _ _ w a b ca cb s l hs hl hL h0 h1
theorem zsame_o (hl:SV rPr 2 (free w B) w a ca l) (hr:SV rPr 2 (free w B) w b cb r) (h1:l.length≤lim) (h2:r.length≤lim):
 Calls Tryz.prog 19 #[.slice a l.length ca, .slice b r.length cb] w fun e w' =>e= .returned (.bool (decide (l=r)))∧Fr nob w w' :=
 zsame_any _ _ w a b ca cb l r hl hr h1 h2
theorem zsame_yes (hl:SV rPr 2 (free w B) w a ca l) (hr:SV rPr 2 (free w B) w b cb r) (h1:l.length≤lim) (h2:r.length≤lim) (h:l=r):
 Calls Tryz.prog 19 #[.slice a l.length ca, .slice b r.length cb] w fun e w' =>e= .returned (.bool true)∧Fr nob w w' :=
 (zsame_o hl hr h1 h2).mono (fun e w' h' =>⟨by rw[h'.1,decide_eq_true h],h'.2⟩)
theorem zsame_no (hl:SV rPr 2 (free w B) w a ca l) (hr:SV rPr 2 (free w B) w b cb r) (h1:l.length≤lim) (h2:r.length≤lim) (h:l≠r):
 Calls Tryz.prog 19 #[.slice a l.length ca, .slice b r.length cb] w fun e w' =>e= .returned (.bool false)∧Fr nob w w' :=
 (zsame_o hl hr h1 h2).mono (fun e w' h' =>⟨by rw[h'.1,decide_eq_false h],h'.2⟩)
theorem apply_o {seq kind eseq:Int} {view:List Pr} (hs:SV rCol 2 (free w B) w a ca s) (hv:SV rPr 2 (free w B) w b cb view) (hl:SV rPr 2 (free w B) w c cc l) (hL:Laid w) (h0:s.length≤lim) (h1:view.length≤lim) (h2:l.length≤lim) (h64:I64 seq) (hB:∀k,B k→k<w.heap.size):
 Calls Tryz.prog 112 #[.slice a s.length ca, .int .i64 seq, .slice b view.length cb, .agg #[.int .i64 kind, .int .i64 eseq, .slice c l.length cc]] w fun e w' =>∃n en out ao co,e= .returned (.tuple #[.int .i64 n, .slice ao out.length co, .int .i64 (en:Nat)])∧Applied s seq view kind eseq l n out en∧Fr nob w w' ∧SV rPr 2 (free w' B) w' ao co out:=
 (apply_any _ _ w a b c ca cb cc s seq view kind eseq l hs hv hl hL h0 h1 h2 (fun k h=>h.1) (fun k h=>h.1) h64).mono (fun e w' ⟨n,en,out,ao,co,he,hc,hf,hsv⟩=>⟨n,en,out,ao,co,he,hc,hf,hsv.mono rPr_ok (fun k hk=>hk.elim (fun h=>⟨Nat.lt_of_lt_of_le h.1 hf.size,h.2⟩) (fun h=>⟨h.2,fun hb=>absurd (hB k hb) (by have:=h.1;omega)⟩))⟩)
theorem apply_o2 {seq kind eseq:Int} {view:List Pr} (hs:SV rCol 2 (free w B) w a ca s) (hv:SV rPr 2 (free w B) w b cb view) (hl:SV rPr 2 (free w B) w c cc l) (hL:Laid w) (h0:s.length≤lim) (h1:view.length≤lim) (h2:l.length≤lim) (h64:I64 seq) (hB:∀k,B k→k<w.heap.size):
 Calls Tryz.prog 112 #[.slice a s.length ca, .int .i64 seq, .slice b view.length cb, .agg #[.int .i64 kind, .int .i64 eseq, .slice c l.length cc]] w fun e w' =>∃n en out ao co,e= .returned (.tuple #[.int .i64 n, .slice ao out.length co, .int .i64 (en:Nat)])∧Applied s seq view kind eseq l n out en∧Fr nob w w' ∧SV rPr 2 (free w' B) w' ao co out∧(kind=1→en=0→ao=b∧co=cb):=
 (apply_any2 _ _ w a b c ca cb cc s seq view kind eseq l hs hv hl hL h0 h1 h2 (fun k h=>h.1) (fun k h=>h.1) h64).mono (fun e w' ⟨n,en,out,ao,co,he,hc,hf,hsv,hk⟩=>⟨n,en,out,ao,co,he,hc,hf,hsv.mono rPr_ok (fun k hk=>hk.elim (fun h=>⟨Nat.lt_of_lt_of_le h.1 hf.size,h.2⟩) (fun h=>⟨h.2,fun hb=>absurd (hB k hb) (by have:=h.1;omega)⟩)),hk⟩)
end
end Go.Proofs.YtibpkfnfcdbiiaaGreatDoor
