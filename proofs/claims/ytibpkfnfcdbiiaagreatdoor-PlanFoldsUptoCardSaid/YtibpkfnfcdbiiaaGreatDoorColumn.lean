/- Package column: kinds, kindly, Write, Take. -/
import Derived.Test.YtibpkfnfcdbiiaaGreatDoorBunP
import Derived.Laws.EntriesVeiled
namespace Go.Proofs.YtibpkfnfcdbiiaaGreatDoor
set_option linter.unusedSimpArgs false
open Go.RowKit
set_option linter.unusedVariables false
def kindsVal:Value:= .agg #[.func (.func 174) #[] #[], .func (.func 175) #[] #[], .func (.func 172) #[] #[], .func (.func 173) #[] #[],
 .func (.func 176) #[] #[], .func (.func 177) #[] #[], .func (.func 168) #[] #[], .func (.func 169) #[] #[],
 .func (.func 168) #[] #[], .func (.func 171) #[] #[], .func (.func 172) #[] #[], .func (.func 173) #[] #[]]
set_option maxRecDepth 100000 in
set_option maxHeartbeats 4000000 in
theorem kinds_any (w:World):Calls Tryz.prog 143 #[] w fun e w' =>e= .returned kindsVal∧Fr nob w w' :=by
 go_enter Tryz.func143,Tryz.ntmps143
 go_wp2_with fail
 simp[bodyPost,results,go_sem,Tryz.results143,kindsVal]
 exact (((((Fr.refl nob w).alloc _).alloc _).alloc _).alloc _)
set_option maxRecDepth 100000 in
set_option maxHeartbeats 4000000 in
theorem colKind_any (k:Int) (w:World):Calls Tryz.prog 142 #[.int .i64 k] w fun e w' =>e= .returned (.bool (cellKind k))∧Fr nob w w' :=by
 have hk:=kinds_any w
 by_cases h:0≤k
 · have h1: -1<k:=by omega
   by_cases h2:k≤5
   · have hE:cellKind k=true:=by simp[cellKind,h1,h2]
     rw[hE]
     have h3:k<6:=by omega
     go_enter Tryz.func142,Tryz.ntmps142
     go_wp2_with fail
     refine hk.mono ?_
     rintro e w1 ⟨rfl,hf⟩
     go_wp2_with fail
     go_ret
     exact ⟨rfl,hf⟩
   · have hE:cellKind k=false:=by simp[cellKind,h1,h2]
     rw[hE]
     have h3:decide (k<6)=false:=by rw[decide_eq_false_iff_not];omega
     go_enter Tryz.func142,Tryz.ntmps142
     go_wp2_with fail
     refine hk.mono ?_
     rintro e w1 ⟨rfl,hf⟩
     go_wp2_with fail
     go_ret
     exact ⟨rfl,hf⟩
 · have hE:cellKind k=false:=by
    have:¬ -1<k:=by omega
    simp[cellKind,this]
   rw[hE]
   go_enter Tryz.func142,Tryz.ntmps142
   go_wp2_with fail
   go_ret
   exact ⟨rfl,Fr.refl _ _⟩
theorem takeBytes_o (S:Nat→Prop) (w:World) (r:Nat) (hr:r<w.heap.size) (hSr:¬S r) (hS:∀k,S k→k<w.heap.size) (a:Option Addr) (cap:Nat) (l d:List UInt8) (hA:At w r a l cap d) (hb:BV S w a cap l) (hn:l.length≤1099511627776) (n:Nat) (hnn:n≤1024) (hL:LaidR w r):
 Calls Tryz.prog 169 #[.pointer (some ⟨r,0,none⟩), .int .i64 n] w fun e w' =>TOut w w' r a l cap (pTexts false [] n d) e:=by
 have hc:=takeTexts_o S w r hr hSr hS a cap l d hA hb hn n hnn false hL
 cases ho:pTexts false [] n d with
 | ok v d' =>
   rw[ho] at hc
   clear hA hb hL
   go_enter Tryz.func169,Tryz.ntmps169
   go_wp2_with fail
   refine hc.mono ?_
   intro e w1 h
   have H:=Lib.hid h
   obtain ⟨⟨a',c',rfl,hv⟩,hf,hA1⟩:=h.ok rfl
   clear h hv hf hA1
   go_wp2_with fail
   go_ret
   exact H.out
 | bad c d' =>
   rw[ho] at hc
   clear hA hb hL
   go_enter Tryz.func169,Tryz.ntmps169
   go_wp2_with fail
   refine hc.mono ?_
   intro e w1 h
   have H:=Lib.hid h
   obtain ⟨rfl,hf,hA1⟩:=h.bad rfl
   clear h hf hA1
   go_wp2_with fail
   exact ⟨rfl,H.out⟩
theorem takeText_o (S:Nat→Prop) (w:World) (r:Nat) (hr:r<w.heap.size) (hSr:¬S r) (hS:∀k,S k→k<w.heap.size) (a:Option Addr) (cap:Nat) (l d:List UInt8) (hA:At w r a l cap d) (hb:BV S w a cap l) (hn:l.length≤1099511627776) (n:Nat) (hnn:n≤1024) (hL:LaidR w r):
 Calls Tryz.prog 171 #[.pointer (some ⟨r,0,none⟩), .int .i64 n] w fun e w' =>TOut w w' r a l cap (pTexts true [] n d) e:=by
 have hc:=takeTexts_o S w r hr hSr hS a cap l d hA hb hn n hnn true hL
 cases ho:pTexts true [] n d with
 | ok v d' =>
   rw[ho] at hc
   clear hA hb hL
   go_enter Tryz.func171,Tryz.ntmps171
   go_wp2_with fail
   refine hc.mono ?_
   intro e w1 h
   have H:=Lib.hid h
   obtain ⟨⟨a',c',rfl,hv⟩,hf,hA1⟩:=h.ok rfl
   clear h hv hf hA1
   go_wp2_with fail
   go_ret
   exact H.out
 | bad c d' =>
   rw[ho] at hc
   clear hA hb hL
   go_enter Tryz.func171,Tryz.ntmps171
   go_wp2_with fail
   refine hc.mono ?_
   intro e w1 h
   have H:=Lib.hid h
   obtain ⟨rfl,hf,hA1⟩:=h.bad rfl
   clear h hf hA1
   go_wp2_with fail
   exact ⟨rfl,H.out⟩
def pKind (k:Int) (n:Nat) (d:List UInt8):Res (List Cel):=
 if k=0 then pSigned n d else if k=1∨k=5 then pNumbers n d else if k=2 then pBools n d else pTexts (k == 4) [] n d
def wKind (k:Int) (l:List Cel):List UInt8:=
 if k=0 then wSigned l else if k=1∨k=5 then wNumbers l else if k=2 then wBools l else wTexts [] l
def pCol (k:Int) (n:Nat) (d:List UInt8):Res (List Cel):=if cellKind k=false then .bad 10 d else if 1024<n then .bad 3 d else pKind k n d
theorem cellKind_cases {k:Int} (h:cellKind k=true):k=0∨k=1∨k=2∨k=3∨k=4∨k=5:=by
 simp[cellKind] at h;omega
end Go.Proofs.YtibpkfnfcdbiiaaGreatDoor
