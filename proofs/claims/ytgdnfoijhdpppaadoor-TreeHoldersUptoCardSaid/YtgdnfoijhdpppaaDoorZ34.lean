import Derived.Shelf.Strings.Search3
import Derived.Test.YtgdnfoijhdpppaaDoorRows
import Derived.Test.YtgdnfoijhdpppaaDoorZ19
import Derived.Test.YtgdnfoijhdpppaaDoorZ21
import Derived.Test.YtgdnfoijhdpppaaDoorZ31
import Derived.Test.YtgdnfoijhdpppaaDoorZ33
set_option linter.unusedVariables false
set_option linter.unusedSimpArgs false
section
namespace Go.Ab
def idxX (f g:Nat):CallF:=fun f' args h=>if f' = f then match args.toList with
 | [.string s,.string t]=>match h.get g with
  | some (.cells c _ _,_)=>match (c[0]?:Option Value) with
   | some (.int .i64 _)=>if s.size < 4294967281 then some (.int .i64 (Lib.index s.data.toList t.data.toList),false,h) else none
   | _=>none
  | _=>none
 | _=>none
 else none
theorem idxX_eq {f g:Nat} {f':FuncId} {args:Array Value} {h h':AH} {v:Value} {q:Bool} (hh:idxX f g f' args h=some (v,q,h')):f' = f∧h' = h∧q=false∧∃ s t c e fz so m,args = #[.string s,.string t]∧h.get g=some (.cells c e fz,so)∧c[0]?=some (.int .i64 m)∧s.size < 4294967281∧v=.int .i64 (Lib.index s.data.toList t.data.toList):=by
 unfold idxX at hh
 split at hh
 case isFalse=>cases hh
 rename_i hf
 split at hh
 case h_2=>cases hh
 rename_i s t ha
 split at hh
 case h_2=>cases hh
 rename_i c e fz so hg
 split at hh
 case h_2=>cases hh
 rename_i m hm
 split at hh
 case isFalse=>cases hh
 rename_i hs
 cases hh
 exact ⟨hf,rfl,rfl,s,t,c,e,fz,so,m,Array.ext' (by rw [ha]),hg,hm,hs,rfl⟩
theorem idxX_ok {P:Program} {f g:Nat} (hg:g < P.globals.size) (hc:∀ (s sub:ByteArray) (m:Int) (w:World),s.size < 4294967281→w.cell? ⟨g,0,none⟩=some (.int .i64 m) →
  Calls P f #[.string s,.string sub] w fun e w'=>e=.returned (.int .i64 (Lib.index s.data.toList sub.data.toList))∧w' = w):CallOk P (idxX f g):=by
 intro f' args h v q h' hh
 obtain ⟨rfl,rfl,rfl,s,t,c,e,fz,so,m,rfl,h1,h2,h3,rfl⟩:=idxX_eq hh
 refine ⟨fun _=>rfl,fun E w args' r ra=>?_⟩
 have hargs:args' = #[.string s,.string t]:=by
  have:=RV.eq_of_plain (n:=13) (v:=.tuple #[.string s,.string t]) (v':=.tuple args') (E:=E) (by simp [plainN]) (.tuple ra.1 ra.2)
  cases this;rfl
 subst hargs
 obtain ⟨c',fz',g1,g2,g3,_⟩:=r.cells h1 (r.glob g hg)
 have hlt:0 < c.size:=(Array.getElem?_eq_some_iff.1 h2).1
 have h5:=g3 0 _ _ h2 (Array.getElem?_eq_getElem (by omega))
 have h6:w.cell? ⟨g,0,none⟩=some (.int .i64 m):=by
  have h7:c'[0]?=some (Value.int .i64 m):=by
   rw [Array.getElem?_eq_getElem (by omega)]
   generalize hz:c'[0]=z at h5
   cases h5
   rfl
  simp [World.cell?,g1,h7]
 refine (hc s t m w h3 h6).mono ?_
 rintro e' w' ⟨rfl,rfl⟩
 exact ⟨E,_,rfl,r,.refl E w',.int _ _⟩
theorem idxX_logs {f g:Nat}:CallLogs (idxX f g):=by
 intro f' args h v q h' hh
 obtain ⟨_,rfl,_⟩:=idxX_eq hh
 exact .refl _
abbrev runX (P:Program) (X:CallF) (n:Nat):FCall:=(lv P X n).1
theorem HC.of_runX {P:Program} {X:CallF} (hX:CallOk P X) (hl:CallLogs X) (n:Nat) {f:FuncId} {args:Array Value} {h h':AH} {p:Bool} {v:Value} {q:Bool} (hh:runX P X n f args h=some (p,v,q,h')):HC P f args h fun r g=>r=resOf p v∧g=h' :=
 ((lv_ok P hX hl n).1 _ _ _ _ _ _ _ hh).2
theorem Ex.of_runX {P:Program} {X:CallF} (hX:CallOk P X) (hl:CallLogs X) (n:Nat) {f:FuncId} {args:Array Value} {h h':AH} {v:Value} {q:Bool} (hh:runX P X n f args h=some (false,v,q,h')):Ex P f args h v h':=HC.of_runX hX hl n hh
end Go.Ab
end
section
namespace Go.Proofs.YtgdnfoijhdpppaaDoor
open Go.Ab
abbrev X:CallF:=idxX 77 0
theorem X_ok:CallOk Tryd.prog X:=idxX_ok (of_decide_eq_true (by kernel_rfl)) fun s sub m w hs hm=>Tryd.stringslite_Index s sub m w hs hm
theorem X_logs:CallLogs X:=idxX_logs
noncomputable def heap0 (l:List (String × DataW Unit)) (m:Int):AH:=AH.laidM Tryd.prog l 0 3 m
theorem heap0_rw {W:World} {l:List (String × DataW Unit)} (hl:laidMetH Tryd.prog l W) (hs:W.ShapedOpen Tryd.prog) (hh:(l.filter fun x=>x.2.handleName?.isSome).isEmpty=true):∃ m,RW Tryd.prog (stillR Tryd.prog W) (heap0 l m) W:=by
 obtain ⟨m,hm⟩:=Tryd.laysM219.s1_3 W hs
 exact ⟨m,rw_laidM (by kernel_rfl) hs hh hl (of_decide_eq_true (by kernel_rfl)) (by kernel_rfl) hm⟩
end Go.Proofs.YtgdnfoijhdpppaaDoor
end
section
namespace Go.Proofs.YtgdnfoijhdpppaaDoor
open Go.Ab
set_option maxRecDepth 1000000 in
theorem speaks_run (m:Int):Ex Tryd.prog 5 #[] (heap0 Rows.treeHoldersUptoRow.laid m) (.bool true) (heap0 Rows.treeHoldersUptoRow.laid m) :=
 Ex.of_runX X_ok X_logs 100 (q:=false) (by kernel_rfl)
end Go.Proofs.YtgdnfoijhdpppaaDoor
end
section
namespace Go.Proofs.YtgdnfoijhdpppaaDoor.L
open Go.Ab Go.Tr Go.Mh Go.Proofs.YtgdnfoijhdpppaaDoor.X
set_option maxRecDepth 100000
theorem Gl.fr {h h':AH} {lo bt:Nat} {σ:St} {K:List Pt} (t:TreeH h lo bt σ K) (g:Gl h) (f:Fr σ h h') (hlo:3 ≤ lo):Gl h':=by
 obtain ⟨m,e,fz,so,hg⟩:=g
 refine ⟨m,e,fz,so,(f.2 _ (by have:=t.lo_le;omega) fun p r hp hk=>?_).trans hg⟩
 have:=(t.tw.bnd p r _ hp hk).1
 omega
def Inf.cells (x:Inf):Array Value:=#[.bool x.d,.bool x.o,.int .i64 x.hd,.int .i64 x.q,.int .i64 x.c,.int .i64 x.s,slV (x.ps.map encPc)]
theorem inf_new (h:AH) (x:Inf):∃ h1,stN 7 (h.push (.cells #[.bool false,.bool false,.int .i64 0,.int .i64 0,.int .i64 0,.int .i64 0,.slice none 0 0] 46 (0,0)) none) (ptr h.size) x.val=some h1∧h1.get h.size=some (.cells x.cells 46 (0,0),none)∧Kp h.size h h1∧h1.size=h.size + 1:=by
 refine ⟨(h.push (.cells #[.bool false,.bool false,.int .i64 0,.int .i64 0,.int .i64 0,.int .i64 0,.slice none 0 0] 46 (0,0)) none).put h.size (some (.cells x.val.cells 46 (0,0),none)),stN_full (get_push_eq rfl) rfl rfl fun v hv=>?_,?_,?_,?_⟩
 ·simp only [Inf.val,cells_agg,List.mem_cons,List.not_mem_nil,or_false] at hv
  rcases hv with rfl | rfl | rfl | rfl | rfl | rfl | rfl <;> first | rfl | exact one_slV _
 ·exact get_put_eq rfl
 ·exact ((Kp.refl _ _).push _ _ (Nat.le_refl _)).put _ _ (Nat.le_refl _)
 ·simp
theorem holders_loop {l:List OpD} {sv:Value} (hlen:lenL sv=some (.int .i64 (l.length:Nat))) (hia:∀ i x,l[i]?=some x→ia 10 sv (.int .i64 (i:Nat))=some (FPv (chV x).cells)) (hl:∀ x ∈ l,x.path.size ≤ 1048576∧x.to_.size ≤ 1048576) (hn:l.length ≤ 1048576) {p:ByteArray} {cl:Int} (hp:p.size ≤ 1048576) {bt:Nat} {Q:Res→AH→Prop} (hq:∀ h,Q (.ret (.bool true)) h) :
  ∀ (d i:Nat) (h:AH) (σ:St) (K:List Pt),i + d=l.length→TreeH h 3 bt σ K→Gl h→K.length ≤ i + 1→H4_5 sv (.string p) (.int .i64 cl) (ptr bt) (.int .i64 (i:Nat)) h Q:=by
 intro d
 induction d with
 | zero =>
  intro i h σ K hi t G hK
  refine X4_5_ok ?_
  unfold X4_5
  have e:¬ ((i:Int) < (l.length:Nat)):=by omega
  generalize hs7:stN 7=s7
  simp (disch:=(first | omega | (simp only [beq_iff_eq,sz_push,sz_put,SC,Nat.reduceAdd,Nat.reduceLeDiff];done) | (simp only [beq_iff_eq,ne_eq,sz_push,sz_put];omega) | assumption | fail)) only [e,hlen,SXB,SX,reduceIte,Int.reduceLT,Int.reduceLE,Int.reduceToNat,Int.reduceBEq,Int.reduceBNe,Nat.reduceAdd,Nat.reduceMul,Nat.reduceSub,Nat.reduceLeDiff]
  refine stat_rel t G hp fun x e0 S0=>?_
  obtain ⟨h1,s1,g9,K1,z1⟩:=inf_new h x
  rw [hs7] at s1
  simp (disch:=(first | omega | (simp only [beq_iff_eq,sz_push,sz_put,SC,Nat.reduceAdd,Nat.reduceLeDiff];done) | (simp only [beq_iff_eq,ne_eq,sz_push,sz_put];omega) | assumption | fail)) only [s1,SXB,SX,reduceIte,Int.reduceLT,Int.reduceLE,Int.reduceToNat,Int.reduceBEq,Int.reduceBNe,Nat.reduceAdd,Nat.reduceMul,Nat.reduceSub,Nat.reduceLeDiff]
  have t1:=t.kp K1
  have G1:=G.kp K1 t.lo_le
  refine apply_ok (x:=⟨3,p,⟨#[]⟩,cl,⟨0,0,0,1,0⟩,0⟩) t1 G1 (by omega) hp (Nat.zero_le _) fun e1 h2 σ1 L1 t2 f1 m1 n1 _ A1 _=>?_
  have A:=A1 rfl
  have G2:=Gl.fr t1 G1 f1 (Nat.le_refl _)
  have g9a:=(f1.2 h.size (by omega) fun q r hq hk=>by have:=(t.tw.bnd q r _ hq hk).2;omega).trans g9
  simp (disch:=(first | omega | (simp only [beq_iff_eq,sz_push,sz_put,SC,Nat.reduceAdd,Nat.reduceLeDiff];done) | (simp only [beq_iff_eq,ne_eq,sz_push,sz_put];omega) | assumption | fail)) only [SXB,SX,reduceIte,Int.reduceLT,Int.reduceLE,Int.reduceToNat,Int.reduceBEq,Int.reduceBNe,Nat.reduceAdd,Nat.reduceMul,Nat.reduceSub,Nat.reduceLeDiff]
  refine apply_ok (x:=⟨4,p,⟨#[]⟩,cl,⟨0,0,0,0,0⟩,0⟩) t2 G2 (by omega) hp (Nat.zero_le _) fun e2 h3 σ2 L2 t3 f2 m2 n2 _ _ C1=>?_
  have C:=C1 rfl
  have G3:=Gl.fr t2 G2 f2 (Nat.le_refl _)
  have g9b:=(f2.2 h.size (by have:=f1.1;omega) fun q r hq hk=>by
   rcases m1 q r _ hq hk with ⟨q',s,hs,hk'⟩ | hk'
   ·have:=(t.tw.bnd q' s _ hs hk').2;omega
   ·omega).trans g9a
  simp (disch:=(first | omega | (simp only [beq_iff_eq,sz_push,sz_put,SC,Nat.reduceAdd,Nat.reduceLeDiff];done) | (simp only [beq_iff_eq,ne_eq,sz_push,sz_put];omega) | assumption | fail)) only [SXB,SX,reduceIte,Int.reduceLT,Int.reduceLE,Int.reduceToNat,Int.reduceBEq,Int.reduceBNe,Nat.reduceAdd,Nat.reduceMul,Nat.reduceSub,Nat.reduceLeDiff]
  refine stat_rel t3 G3 hp fun y e3 S1=>?_
  obtain ⟨h4,s4,g13,K4,z4⟩:=inf_new h3 y
  rw [hs7] at s4
  simp (disch:=(first | omega | (simp only [beq_iff_eq,sz_push,sz_put,SC,Nat.reduceAdd,Nat.reduceLeDiff];done) | (simp only [beq_iff_eq,ne_eq,sz_push,sz_put];omega) | assumption | fail)) only [s4,SXB,SX,reduceIte,Int.reduceLT,Int.reduceLE,Int.reduceToNat,Int.reduceBEq,Int.reduceBNe,Nat.reduceAdd,Nat.reduceMul,Nat.reduceSub,Nat.reduceLeDiff]
  have g9c:=(K4.get h.size (by have:=f1.1;have:=f2.1;omega)).trans g9b
  have hpl:=holders_plain t2.ok t3.ok rfl S0 A C S1
  clear s1 s4 g9 g9a g9b
  unfold Inf.cells at g9c g13
  have el:(x.ps.map encPc).length=x.ps.length:=by simp
  rcases hpl with ⟨n0,a1,a2,a3⟩ | ⟨n0,n1,a1,a2⟩ | ⟨n0,n1,n2,a1,a2,a3,a4⟩ | ⟨n0,n1,n2,n3,n4,a1,a2,a3⟩ | ⟨n0,n1,n2,n3,n4,a1,a2,a3,a4,a5⟩
  ·have b0:(e0 != 0)=true:=by simpa using n0
   have b1:(e1 == e0)=true:=by simpa using a1
   have b2:(e2 == e0)=true:=by simpa using a2
   have b3:(e3 == e0)=true:=by simpa using a3
   simp (disch:=(first | omega | (simp only [beq_iff_eq,sz_push,sz_put,SC,Nat.reduceAdd,Nat.reduceLeDiff];done) | (simp only [beq_iff_eq,ne_eq,sz_push,sz_put];omega) | assumption | fail)) only [b0,b1,b2,b3,SXB,SX,reduceIte,Int.reduceLT,Int.reduceLE,Int.reduceToNat,Int.reduceBEq,Int.reduceBNe,Nat.reduceAdd,Nat.reduceMul,Nat.reduceSub,Nat.reduceLeDiff]
   exact hq _
  ·have b0:(e0 != 0)=false:=by simpa using n0
   have b1:(e1 == 73)=true:=by simpa using a1
   have b2:(e2 == 73)=true:=by simpa using a2
   rw [n1] at g9c
   simp (disch:=(first | omega | (simp only [beq_iff_eq,sz_push,sz_put,SC,Nat.reduceAdd,Nat.reduceLeDiff];done) | (simp only [beq_iff_eq,ne_eq,sz_push,sz_put];omega) | assumption | fail)) only [b0,b1,b2,g9c,SXB,SX,reduceIte,Int.reduceLT,Int.reduceLE,Int.reduceToNat,Int.reduceBEq,Int.reduceBNe,Nat.reduceAdd,Nat.reduceMul,Nat.reduceSub,Nat.reduceLeDiff]
   exact hq _
  ·have b0:(e0 != 0)=false:=by simpa using n0
   have b1:(e1 == 75)=true:=by simpa using a1
   have b2:(e2 == 75)=true:=by simpa using a2
   have b3:(y.s == x.s)=true:=by simpa using a3
   have b4:(y.o == x.o)=true:=by simpa using a4
   rw [n1] at g9c
   rcases n2 with n2 | ⟨n2,n3⟩
   ·rw [n2] at g9c b4
    simp (disch:=(first | omega | (simp only [beq_iff_eq,sz_push,sz_put,SC,Nat.reduceAdd,Nat.reduceLeDiff];done) | (simp only [beq_iff_eq,ne_eq,sz_push,sz_put];omega) | assumption | fail)) only [b0,b1,b2,b3,b4,g9c,g13,SXB,SX,reduceIte,Int.reduceLT,Int.reduceLE,Int.reduceToNat,Int.reduceBEq,Int.reduceBNe,Nat.reduceAdd,Nat.reduceMul,Nat.reduceSub,Nat.reduceLeDiff]
    exact hq _
   ·rw [n2] at g9c b4
    have b5:(x.hd != cl)=true:=by simpa using n3
    simp (disch:=(first | omega | (simp only [beq_iff_eq,sz_push,sz_put,SC,Nat.reduceAdd,Nat.reduceLeDiff];done) | (simp only [beq_iff_eq,ne_eq,sz_push,sz_put];omega) | assumption | fail)) only [b0,b1,b2,b3,b4,b5,g9c,g13,SXB,SX,reduceIte,Int.reduceLT,Int.reduceLE,Int.reduceToNat,Int.reduceBEq,Int.reduceBNe,Nat.reduceAdd,Nat.reduceMul,Nat.reduceSub,Nat.reduceLeDiff]
    exact hq _
  ·have b0:(e0 != 0)=false:=by simpa using n0
   have b1:(e1 == 1)=true:=by simpa using a1
   have b2:(e2 == 0)=true:=by simpa using a2
   have b5:(x.hd != cl)=false:=by simpa using n3
   have b6:(1024:Int) ≤ (x.ps.length:Nat):=by omega
   rw [n1,n2] at g9c
   rw [a3] at g13
   simp (disch:=(first | omega | (simp only [beq_iff_eq,sz_push,sz_put,SC,Nat.reduceAdd,Nat.reduceLeDiff];done) | (simp only [beq_iff_eq,ne_eq,sz_push,sz_put];omega) | assumption | fail)) only [b0,b1,b2,b5,b6,el,g9c,g13,SXB,SX,reduceIte,Int.reduceLT,Int.reduceLE,Int.reduceToNat,Int.reduceBEq,Int.reduceBNe,Nat.reduceAdd,Nat.reduceMul,Nat.reduceSub,Nat.reduceLeDiff]
   exact hq _
  ·have b0:(e0 != 0)=false:=by simpa using n0
   have b1:(e1 == 0)=true:=by simpa using a1
   have b2:(e2 == 0)=true:=by simpa using a2
   have b3:(y.s == IntKind.wrap .i64 (x.s + 1))=true:=by simpa using a3
   have b5:(x.hd != cl)=false:=by simpa using n3
   have b6:¬ (1024:Int) ≤ (x.ps.length:Nat):=by omega
   rw [n1,n2] at g9c
   rw [a4,a5] at g13
   simp (disch:=(first | omega | (simp only [beq_iff_eq,sz_push,sz_put,SC,Nat.reduceAdd,Nat.reduceLeDiff];done) | (simp only [beq_iff_eq,ne_eq,sz_push,sz_put];omega) | assumption | fail)) only [b0,b1,b2,b3,b5,b6,el,g9c,g13,SXB,SX,reduceIte,Int.reduceLT,Int.reduceLE,Int.reduceToNat,Int.reduceBEq,Int.reduceBNe,Nat.reduceAdd,Nat.reduceMul,Nat.reduceSub,Nat.reduceLeDiff]
   exact hq _
 | succ d ih =>
  intro i h σ K hi t G hK
  refine X4_5_ok ?_
  unfold X4_5
  have e:(i:Int) < (l.length:Nat):=by omega
  have ei:(i:Int) + 1=((i + 1:Nat):Int):=by omega
  obtain ⟨x,hx⟩:∃ x,l[i]?=some x:=⟨_,List.getElem?_eq_getElem (by omega)⟩
  have hx1:=hia i x hx
  have hxl:=hl x (List.mem_of_getElem? hx)
  have hld:ldN 10 h (FPv (chV x).cells)=some (chV x):=rfl
  generalize hl10:ldN 10=l10 at hld ⊢
  generalize hcx:chV x=cx at hx1 hld
  simp (disch:=(first | omega | (simp only [beq_iff_eq,sz_push,sz_put,SC,Nat.reduceAdd,Nat.reduceLeDiff];done) | (simp only [beq_iff_eq,ne_eq,sz_push,sz_put];omega) | assumption | fail)) only [e,hlen,hx1,hld,SXB,SX,reduceIte,Int.reduceLT,Int.reduceLE,Int.reduceToNat,Int.reduceBEq,Int.reduceBNe,Nat.reduceAdd,Nat.reduceMul,Nat.reduceSub,Nat.reduceLeDiff]
  rw [← hcx]
  refine HC.exact (op_ok x) ?_
  refine apply_ok t G (by omega) hxl.1 hxl.2 fun e1 h2 σ1 L1 t2 f1 m1 n1 _ _ _=>?_
  simp (disch:=(first | omega | (simp only [beq_iff_eq,sz_push,sz_put,SC,Nat.reduceAdd,Nat.reduceLeDiff];done) | (simp only [beq_iff_eq,ne_eq,sz_push,sz_put];omega) | assumption | fail)) only [SXB,SX,reduceIte,Int.reduceLT,Int.reduceLE,Int.reduceToNat,Int.reduceBEq,Int.reduceBNe,Nat.reduceAdd,Nat.reduceMul,Nat.reduceSub,Nat.reduceLeDiff]
  rw [ei]
  exact ih (i + 1) h2 σ1 L1 (by omega) t2 (Gl.fr t G f1 (Nat.le_refl _)) (by omega)
theorem holders_main {m:Int} {l:List OpD} {sv:Value} (hlen:lenL sv=some (.int .i64 (l.length:Nat))) (hia:∀ i x,l[i]?=some x→ia 10 sv (.int .i64 (i:Nat))=some (FPv (chV x).cells))
  (hl:∀ x ∈ l,x.path.size ≤ 1048576∧x.to_.size ≤ 1048576) (hn:l.length ≤ 1048576) {p:ByteArray} {cl:Int} (hp:p.size ≤ 1048576) :
  HC Tryd.prog 4 [sv,.string p,.int .i64 cl].toArray (heap0 Rows.treeHoldersUptoRow.laid m) fun r g=>∃ v,r=.ret v∧v=.bool true:=by
 refine X4_ok ?_
 unfold X4
 have hm:(heap0 Rows.treeHoldersUptoRow.laid m).get 0=some (.cells #[.int .i64 m] 3 (0,1),none):=by
  unfold heap0 AH.laidM
  rw [AH.get_put,if_pos rfl]
 have h3:3 ≤ (heap0 Rows.treeHoldersUptoRow.laid m).size:=of_decide_eq_true (by kernel_rfl)
 have hsp:=speaks_run m
 generalize heap0 Rows.treeHoldersUptoRow.laid m=h at hm h3 hsp ⊢
 have G:Gl h:=⟨m,_,_,_,hm⟩
 simp (disch:=(first | omega | (simp only [beq_iff_eq,sz_push,sz_put,SC,Nat.reduceAdd,Nat.reduceLeDiff];done) | (simp only [beq_iff_eq,ne_eq,sz_push,sz_put];omega) | assumption | fail)) only [SXB,SX,reduceIte,Int.reduceLT,Int.reduceLE,Int.reduceToNat,Int.reduceBEq,Int.reduceBNe,Nat.reduceAdd,Nat.reduceMul,Nat.reduceSub,Nat.reduceLeDiff]
 refine HC.exact hsp ?_
 simp (disch:=(first | omega | (simp only [beq_iff_eq,sz_push,sz_put,SC,Nat.reduceAdd,Nat.reduceLeDiff];done) | (simp only [beq_iff_eq,ne_eq,sz_push,sz_put];omega) | assumption | fail)) only [SXB,SX,reduceIte,Int.reduceLT,Int.reduceLE,Int.reduceToNat,Int.reduceBEq,Int.reduceBNe,Nat.reduceAdd,Nat.reduceMul,Nat.reduceSub,Nat.reduceLeDiff]
 refine new_ok h3 fun h' bt σ t K1 _ _=>?_
 simp (disch:=(first | omega | (simp only [beq_iff_eq,sz_push,sz_put,SC,Nat.reduceAdd,Nat.reduceLeDiff];done) | (simp only [beq_iff_eq,ne_eq,sz_push,sz_put];omega) | assumption | fail)) only [SXB,SX,reduceIte,Int.reduceLT,Int.reduceLE,Int.reduceToNat,Int.reduceBEq,Int.reduceBNe,Nat.reduceAdd,Nat.reduceMul,Nat.reduceSub,Nat.reduceLeDiff]
 exact holders_loop hlen hia hl hn hp (fun h=>⟨_,rfl,rfl⟩) l.length 0 h' σ [[]] (by omega) t (G.kp K1 h3) (by simp)
abbrev chTy:Ty:=.cons (.int .i64) (.cons (.int .i64) (.cons (.int .i64) (.cons .str (.cons .str (.cons (.cons (.cons (.int .i64) (.cons (.int .i64) (.cons (.int .i64) .nil))) (.cons (.int .i64) (.cons (.int .u32) .nil))) .nil)))))
def toX (x:chTy.T):OpD:=⟨x.1,x.2.2.2.1,x.2.2.2.2.1,x.2.1,⟨x.2.2.2.2.2.1.1.1,x.2.2.2.2.2.1.1.2.1,x.2.2.2.2.2.1.1.2.2.1,x.2.2.2.2.2.1.2.1,x.2.2.2.2.2.1.2.2.1⟩,x.2.2.1⟩
theorem toX_bulk (x:chTy.T):(toX x).path.size + (toX x).to_.size + 1 ≤ chTy.bulk x:=by
 have:chTy.bulk x=1 + (1 + (1 + ((toX x).path.size + 1 + ((toX x).to_.size + 1 + ((1 + (1 + (1 + 0)) + (1 + (1 + 0))) + 0))))):=rfl
 omega
theorem len_sum:∀ (l:List chTy.T),l.length ≤ (l.map chTy.bulk).sum
 | []=>Nat.le_refl _
 | x::l=>by
  rw [List.map_cons,List.sum_cons,List.length_cons]
  have:=len_sum l
  have:=toX_bulk x
  omega
theorem sum_le:∀ (l:List Nat) (x:Nat),x ∈ l→x ≤ l.sum
 | [],x,h=>by cases h
 | y::l,x,h=>by
  rw [List.sum_cons]
  rcases List.mem_cons.1 h with rfl | h
  ·omega
  ·have:=sum_le l x h;omega
theorem ch_small {l:List chTy.T} {n:Nat} (h:(l.map chTy.bulk).sum ≤ n):∀ x ∈ l.map toX,x.path.size ≤ n∧x.to_.size ≤ n:=by
 intro x hx
 obtain ⟨y,hy,rfl⟩:=List.mem_map.1 hx
 have h1:=sum_le _ _ (List.mem_map.2 ⟨y,hy,rfl⟩:chTy.bulk y ∈ l.map chTy.bulk)
 have h2:=toX_bulk y
 constructor <;> omega
theorem treeHolders_law (m:Int) (script:(Ty.slice chTy).T) (path:Ty.str.T) (client:(Ty.int .i64).T) (w0:(Ty.slice chTy).WF script) (w1:Ty.str.WF path) (w2:(Ty.int .i64).WF client) (hb:(Ty.slice chTy).bulk script + Ty.str.bulk path + (Ty.int .i64).bulk client ≤ 1048576) :
  HF Tryd.prog 4 #[(Ty.slice chTy).val script,Ty.str.val path,(Ty.int .i64).val client] (heap0 Rows.treeHoldersUptoRow.laid m) fun v _=>v=.bool true:=by
 have hp:ByteArray.size path ≤ 1048576:=by
  have:Ty.str.bulk path=ByteArray.size path + 1:=rfl
  omega
 match script,hb with
 | none,_=>exact HC.to_HF (holders_main (l:=[]) (sv:=.slice none 0 0) rfl (fun i x h=>by cases h) (fun x h=>by cases h) (Nat.zero_le _) hp)
 | some l,hb =>
  have h1:(Ty.slice chTy).bulk (some l)=(l.map chTy.bulk).sum + 1:=rfl
  have h2:=len_sum l
  refine HC.to_HF (holders_main (l:=l.map toX) (sv:=VSl (l.map fun x=>chTy.one (chTy.enc x))) ?_ (fun i x hx=>?_) (ch_small (by omega)) (by rw [List.length_map];omega) hp)
  ·rw [lenL_vs,List.length_map,List.length_map]
  ·have hx':(l.map fun x=>chTy.one (chTy.enc x))[i]?=some (chV x):=by
    rw [List.getElem?_map] at hx ⊢
    cases hy:l[i]? with
    | none=>rw [hy] at hx;cases hx
    | some y=>rw [hy] at hx;cases hx;rfl
   rw [ia_vs,if_pos (Int.natCast_nonneg i),Int.toNat_natCast,hx']
   rfl
end Go.Proofs.YtgdnfoijhdpppaaDoor.L
end
