import Derived.Shelf.Strings.Search3
import Derived.Test.YtgdnfoijhdpppaaDoorRows
import Derived.Test.YtgdnfoijhdpppaaDoorZ19
import Derived.Test.YtgdnfoijhdpppaaDoorZ21
import Derived.Test.YtgdnfoijhdpppaaDoorZ31
import Derived.Test.YtgdnfoijhdpppaaDoorZ33
set_option linter.unusedVariables false
set_option linter.unusedSimpArgs false
section
namespace Go.Ab
def idxX (f g:Nat):CallF:=fun f' args h=>if f' = f then match args.toList with
 | [.string s,.string t]=>match h.get g with
  | some (.cells c _ _,_)=>match (c[0]?:Option Value) with
   | some (.int .i64 _)=>if s.size < 4294967281 then some (.int .i64 (Lib.index s.data.toList t.data.toList),false,h) else none
   | _=>none
  | _=>none
 | _=>none
 else none
theorem idxX_eq {f g:Nat} {f':FuncId} {args:Array Value} {h h':AH} {v:Value} {q:Bool} (hh:idxX f g f' args h=some (v,q,h')):f' = f∧h' = h∧q=false∧∃ s t c e fz so m,args = #[.string s,.string t]∧h.get g=some (.cells c e fz,so)∧c[0]?=some (.int .i64 m)∧s.size < 4294967281∧v=.int .i64 (Lib.index s.data.toList t.data.toList):=by
 unfold idxX at hh
 split at hh
 case isFalse=>cases hh
 rename_i hf
 split at hh
 case h_2=>cases hh
 rename_i s t ha
 split at hh
 case h_2=>cases hh
 rename_i c e fz so hg
 split at hh
 case h_2=>cases hh
 rename_i m hm
 split at hh
 case isFalse=>cases hh
 rename_i hs
 cases hh
 exact ⟨hf,rfl,rfl,s,t,c,e,fz,so,m,Array.ext' (by rw [ha]),hg,hm,hs,rfl⟩
theorem idxX_ok {P:Program} {f g:Nat} (hg:g < P.globals.size) (hc:∀ (s sub:ByteArray) (m:Int) (w:World),s.size < 4294967281→w.cell? ⟨g,0,none⟩=some (.int .i64 m) →
  Calls P f #[.string s,.string sub] w fun e w'=>e=.returned (.int .i64 (Lib.index s.data.toList sub.data.toList))∧w' = w):CallOk P (idxX f g):=by
 intro f' args h v q h' hh
 obtain ⟨rfl,rfl,rfl,s,t,c,e,fz,so,m,rfl,h1,h2,h3,rfl⟩:=idxX_eq hh
 refine ⟨fun _=>rfl,fun E w args' r ra=>?_⟩
 have hargs:args' = #[.string s,.string t]:=by
  have:=RV.eq_of_plain (n:=13) (v:=.tuple #[.string s,.string t]) (v':=.tuple args') (E:=E) (by simp [plainN]) (.tuple ra.1 ra.2)
  cases this;rfl
 subst hargs
 obtain ⟨c',fz',g1,g2,g3,_⟩:=r.cells h1 (r.glob g hg)
 have hlt:0 < c.size:=(Array.getElem?_eq_some_iff.1 h2).1
 have h5:=g3 0 _ _ h2 (Array.getElem?_eq_getElem (by omega))
 have h6:w.cell? ⟨g,0,none⟩=some (.int .i64 m):=by
  have h7:c'[0]?=some (Value.int .i64 m):=by
   rw [Array.getElem?_eq_getElem (by omega)]
   generalize hz:c'[0]=z at h5
   cases h5
   rfl
  simp [World.cell?,g1,h7]
 refine (hc s t m w h3 h6).mono ?_
 rintro e' w' ⟨rfl,rfl⟩
 exact ⟨E,_,rfl,r,.refl E w',.int _ _⟩
theorem idxX_logs {f g:Nat}:CallLogs (idxX f g):=by
 intro f' args h v q h' hh
 obtain ⟨_,rfl,_⟩:=idxX_eq hh
 exact .refl _
abbrev runX (P:Program) (X:CallF) (n:Nat):FCall:=(lv P X n).1
theorem HC.of_runX {P:Program} {X:CallF} (hX:CallOk P X) (hl:CallLogs X) (n:Nat) {f:FuncId} {args:Array Value} {h h':AH} {p:Bool} {v:Value} {q:Bool} (hh:runX P X n f args h=some (p,v,q,h')):HC P f args h fun r g=>r=resOf p v∧g=h' :=
 ((lv_ok P hX hl n).1 _ _ _ _ _ _ _ hh).2
theorem Ex.of_runX {P:Program} {X:CallF} (hX:CallOk P X) (hl:CallLogs X) (n:Nat) {f:FuncId} {args:Array Value} {h h':AH} {v:Value} {q:Bool} (hh:runX P X n f args h=some (false,v,q,h')):Ex P f args h v h':=HC.of_runX hX hl n hh
end Go.Ab
end
section
namespace Go.Proofs.YtgdnfoijhdpppaaDoor
open Go.Ab
abbrev X:CallF:=idxX 77 0
theorem X_ok:CallOk Tryd.prog X:=idxX_ok (of_decide_eq_true (by kernel_rfl)) fun s sub m w hs hm=>Tryd.stringslite_Index s sub m w hs hm
theorem X_logs:CallLogs X:=idxX_logs
noncomputable def heap0 (l:List (String × DataW Unit)) (m:Int):AH:=AH.laidM Tryd.prog l 0 3 m
theorem heap0_rw {W:World} {l:List (String × DataW Unit)} (hl:laidMetH Tryd.prog l W) (hs:W.ShapedOpen Tryd.prog) (hh:(l.filter fun x=>x.2.handleName?.isSome).isEmpty=true):∃ m,RW Tryd.prog (stillR Tryd.prog W) (heap0 l m) W:=by
 obtain ⟨m,hm⟩:=Tryd.laysM219.s1_3 W hs
 exact ⟨m,rw_laidM (by kernel_rfl) hs hh hl (of_decide_eq_true (by kernel_rfl)) (by kernel_rfl) hm⟩
end Go.Proofs.YtgdnfoijhdpppaaDoor
end
section
namespace Go.Proofs.YtgdnfoijhdpppaaDoor
open Go.Ab
set_option maxRecDepth 1000000 in
theorem speaks_run (m:Int):Ex Tryd.prog 5 #[] (heap0 Rows.treeHoldersUptoRow.laid m) (.bool true) (heap0 Rows.treeHoldersUptoRow.laid m) :=
 Ex.of_runX X_ok X_logs 100 (q:=false) (by kernel_rfl)
end Go.Proofs.YtgdnfoijhdpppaaDoor
end
section
namespace Go.Proofs.YtgdnfoijhdpppaaDoor.L
open Go.Ab Go.Tr Go.Mh Go.Proofs.YtgdnfoijhdpppaaDoor.X
set_option maxRecDepth 100000
theorem Gl.fr {h h':AH} {lo bt:Nat} {σ:St} {K:List Pt} (t:TreeH h lo bt σ K) (g:Gl h) (f:Fr σ h h') (hlo:3 ≤ lo):Gl h':=by
 obtain ⟨m,e,fz,so,hg⟩:=g
 refine ⟨m,e,fz,so,(f.2 _ (by have:=t.lo_le;omega) fun p r hp hk=>?_).trans hg⟩
 have:=(t.tw.bnd p r _ hp hk).1
 omega
def Inf.cells (x:Inf):Array Value:=#[.bool x.d,.bool x.o,.int .i64 x.hd,.int .i64 x.q,.int .i64 x.c,.int .i64 x.s,slV (x.ps.map encPc)]
theorem inf_new (h:AH) (x:Inf):∃ h1,stN 7 (h.push (.cells #[.bool false,.bool false,.int .i64 0,.int .i64 0,.int .i64 0,.int .i64 0,.slice none 0 0] 46 (0,0)) none) (ptr h.size) x.val=some h1∧h1.get h.size=some (.cells x.cells 46 (0,0),none)∧Kp h.size h h1∧h1.size=h.size + 1:=by
 refine ⟨(h.push (.cells #[.bool false,.bool false,.int .i64 0,.int .i64 0,.int .i64 0,.int .i64 0,.slice none 0 0] 46 (0,0)) none).put h.size (some (.cells x.val.cells 46 (0,0),none)),stN_full (get_push_eq rfl) rfl rfl fun v hv=>?_,?_,?_,?_⟩
 ·simp only [Inf.val,cells_agg,List.mem_cons,List.not_mem_nil,or_false] at hv
  rcases hv with rfl | rfl | rfl | rfl | rfl | rfl | rfl <;> first | rfl | exact one_slV _
 ·exact get_put_eq rfl
 ·exact ((Kp.refl _ _).push _ _ (Nat.le_refl _)).put _ _ (Nat.le_refl _)
 ·simp
abbrev chTy:Ty:=.cons (.int .i64) (.cons (.int .i64) (.cons (.int .i64) (.cons .str (.cons .str (.cons (.cons (.cons (.int .i64) (.cons (.int .i64) (.cons (.int .i64) .nil))) (.cons (.int .i64) (.cons (.int .u32) .nil))) .nil)))))
def toX (x:chTy.T):OpD:=⟨x.1,x.2.2.2.1,x.2.2.2.2.1,x.2.1,⟨x.2.2.2.2.2.1.1.1,x.2.2.2.2.2.1.1.2.1,x.2.2.2.2.2.1.1.2.2.1,x.2.2.2.2.2.1.2.1,x.2.2.2.2.2.1.2.2.1⟩,x.2.2.1⟩
theorem toX_bulk (x:chTy.T):(toX x).path.size + (toX x).to_.size + 1 ≤ chTy.bulk x:=by
 have:chTy.bulk x=1 + (1 + (1 + ((toX x).path.size + 1 + ((toX x).to_.size + 1 + ((1 + (1 + (1 + 0)) + (1 + (1 + 0))) + 0))))):=rfl
 omega
theorem len_sum:∀ (l:List chTy.T),l.length ≤ (l.map chTy.bulk).sum
 | []=>Nat.le_refl _
 | x::l=>by
  rw [List.map_cons,List.sum_cons,List.length_cons]
  have:=len_sum l
  have:=toX_bulk x
  omega
theorem sum_le:∀ (l:List Nat) (x:Nat),x ∈ l→x ≤ l.sum
 | [],x,h=>by cases h
 | y::l,x,h=>by
  rw [List.sum_cons]
  rcases List.mem_cons.1 h with rfl | h
  ·omega
  ·have:=sum_le l x h;omega
theorem ch_small {l:List chTy.T} {n:Nat} (h:(l.map chTy.bulk).sum ≤ n):∀ x ∈ l.map toX,x.path.size ≤ n∧x.to_.size ≤ n:=by
 intro x hx
 obtain ⟨y,hy,rfl⟩:=List.mem_map.1 hx
 have h1:=sum_le _ _ (List.mem_map.2 ⟨y,hy,rfl⟩:chTy.bulk y ∈ l.map chTy.bulk)
 have h2:=toX_bulk y
 constructor <;> omega
end Go.Proofs.YtgdnfoijhdpppaaDoor.L
end
section
namespace Go.Proofs.YtgdnfoijhdpppaaDoor.L
open Go.Ab Go.Tr Go.Mh Go.Proofs.YtgdnfoijhdpppaaDoor.X
set_option maxRecDepth 100000
structure Tab (h:AH) (sc sn:Value) (D:List (ByteArray × Int)):Prop where
 c:∀ (i:Nat) (x:ByteArray × Int),D[i]?=some x→∃ a,ia 1 sc (.int .i64 (i:Nat))=some a∧Pt h a #[.int .i64 x.2]
 n:Rd h 1 sn (D.map fun x=>.string x.1)
theorem Tab.mono {h h':AH} {sc sn:Value} {D:List (ByteArray × Int)} (t:Tab h sc sn D) (K:Kp h.size h h'):Tab h' sc sn D :=
 ⟨fun i x hx=>by obtain ⟨a,h1,h2⟩:=t.c i x hx;exact ⟨a,h1,h2.mono K⟩,t.n.mono K⟩
def wasF (s:ByteArray) (D:List (ByteArray × Int)):Int:=D.foldl (fun w x=>if (x.1.toList == s.toList)=true then x.2 else w) 0
theorem wasF_snoc (s:ByteArray) (D:List (ByteArray × Int)) (x:ByteArray × Int):wasF s (D++[x])=if (x.1.toList == s.toList)=true then x.2 else wasF s D:=by
 unfold wasF;rw [List.foldl_append];rfl
set_option maxHeartbeats 4000000 in
theorem quota_inner {h:AH} {D:List (ByteArray × Int)} {t0 t3 sc sn t7 t8 t9:Value} {i k b11:Nat} (tab:Tab h sc sn D) (hD:D.length ≤ 1000000000) {x:OpD} (hx:ia 10 t0 (.int .i64 (i:Nat))=some (FPv (chV x).cells)) {s:ByteArray} {q0 q c:Int} (hk:ia 6 t7 (.int .i64 (k:Nat))=some (FPv #[.string s,.bool true,.bool false,.int .i64 0,.int .i64 q0,.slice none 0 0]))
  (g11:h.get b11=some (.cells #[.bool true,.bool false,.int .i64 0,.int .i64 q,.int .i64 c,.int .i64 0,.slice none 0 0] 46 (0,0),none))
  (hchk:q ≤ 0 ∨ c ≤ q ∨ c ≤ wasF s D ∨ (x.kind=6∧x.to_.size ≤ s.size∧s.extract 0 x.to_.size=x.to_))
  {s8 s9:Value} {h2 h3:AH} (ap1:apT 3 1 8 (some (.int .i64 0)) (h.push (.cells #[.int .i64 c] 3 (0,0)) none) t8 (.slice (some ⟨h.size,0,none⟩) 1 1)=some (s8,h2))
  (ap2:apT 9 1 16 (some (.string (ByteArray.mk #[]))) (h2.push (.cells #[.string s] 9 (0,0)) none) t9 (.slice (some ⟨h2.size,0,none⟩) 1 1)=some (s9,h3))
  {Q:Res→AH→Prop} (next:True→K3_15 t0 t3 sc sn (.int .i64 (i:Nat)) t7 s8 s9 (.int .i64 (k:Nat)) h3 Q) :
  ∀ (d j:Nat),j + d=D.length→H3_22 t0 t3 sc sn (.int .i64 (i:Nat)) t7 t8 t9 (.int .i64 (k:Nat)) (ptr b11) (.int .i64 (wasF s (D.take j))) (.int .i64 (j:Nat)) h Q:=by
 intro d
 induction d with
 | zero =>
  intro j hj
  refine X3_22_ok ?_
  unfold X3_22
  have e:¬ ((j:Int) < (D.length:Nat)):=by omega
  have hln:=tab.n.len
  rw [List.length_map] at hln
  have htk:D.take j=D:=List.take_of_length_le (by omega)
  rw [htk]
  have hcx:(chV x).cells = #[.int .i64 x.kind,.int .i64 x.client,.int .i64 x.quota,.string x.path,.string x.to_,.int .i64 x.pc.c,.int .i64 x.pc.k,.int .i64 x.pc.t,.int .i64 x.pc.s,.int .u32 x.pc.u]:=rfl
  rw [hcx] at hx
  by_cases k6:x.kind=6
  ·have b84:(x.kind == 6)=true:=by simp [k6]
   by_cases hs:x.to_.size ≤ s.size
   ·have b98:((x.to_.size:Nat):Int) ≤ ((s.size:Nat):Int):=by omega
    have b112:=fun (h:AH)=>sub_hi (h:=h) hs
    by_cases b122:(0:Int) < q
    ·by_cases b128:q < c
     ·by_cases b134:wasF s D < c
      ·rcases hchk with a | a | a | ⟨_,_,a⟩
       ·exact absurd a (by omega)
       ·exact absurd a (by omega)
       ·exact absurd a (by omega)
       ·rw [a] at b112
        simp (maxSteps:=3000000) (disch:=(first | omega | (simp only [beq_iff_eq,sz_push,sz_put,SC,Nat.reduceAdd,Nat.reduceLeDiff];done) | (simp only [beq_iff_eq,ne_eq,sz_push,sz_put];omega) | assumption | fail)) only [e,hln,hx,hk,g11,b84,b98,b112,b122,b128,b134,ap1,ap2,SXB,SX,reduceIte,Int.reduceLT,Int.reduceLE,Int.reduceToNat,Int.reduceBEq,Int.reduceBNe,Nat.reduceAdd,Nat.reduceMul,Nat.reduceSub,Nat.reduceLeDiff]
        exact next trivial
      ·simp (maxSteps:=3000000) (disch:=(first | omega | (simp only [beq_iff_eq,sz_push,sz_put,SC,Nat.reduceAdd,Nat.reduceLeDiff];done) | (simp only [beq_iff_eq,ne_eq,sz_push,sz_put];omega) | assumption | fail)) only [e,hln,hx,hk,g11,b84,b98,b112,b122,b128,b134,ap1,ap2,SXB,SX,reduceIte,Int.reduceLT,Int.reduceLE,Int.reduceToNat,Int.reduceBEq,Int.reduceBNe,Nat.reduceAdd,Nat.reduceMul,Nat.reduceSub,Nat.reduceLeDiff]
       exact next trivial
     ·simp (maxSteps:=3000000) (disch:=(first | omega | (simp only [beq_iff_eq,sz_push,sz_put,SC,Nat.reduceAdd,Nat.reduceLeDiff];done) | (simp only [beq_iff_eq,ne_eq,sz_push,sz_put];omega) | assumption | fail)) only [e,hln,hx,hk,g11,b84,b98,b112,b122,b128,ap1,ap2,SXB,SX,reduceIte,Int.reduceLT,Int.reduceLE,Int.reduceToNat,Int.reduceBEq,Int.reduceBNe,Nat.reduceAdd,Nat.reduceMul,Nat.reduceSub,Nat.reduceLeDiff]
      exact next trivial
    ·simp (maxSteps:=3000000) (disch:=(first | omega | (simp only [beq_iff_eq,sz_push,sz_put,SC,Nat.reduceAdd,Nat.reduceLeDiff];done) | (simp only [beq_iff_eq,ne_eq,sz_push,sz_put];omega) | assumption | fail)) only [e,hln,hx,hk,g11,b84,b98,b112,b122,ap1,ap2,SXB,SX,reduceIte,Int.reduceLT,Int.reduceLE,Int.reduceToNat,Int.reduceBEq,Int.reduceBNe,Nat.reduceAdd,Nat.reduceMul,Nat.reduceSub,Nat.reduceLeDiff]
     exact next trivial
   ·have b98:¬ ((x.to_.size:Nat):Int) ≤ ((s.size:Nat):Int):=by omega
    by_cases b122:(0:Int) < q
    ·by_cases b128:q < c
     ·have b134:¬ wasF s D < c:=by
       rcases hchk with a | a | a | ⟨_,a,_⟩
       ·omega
       ·omega
       ·omega
       ·exact absurd a hs
      simp (maxSteps:=3000000) (disch:=(first | omega | (simp only [beq_iff_eq,sz_push,sz_put,SC,Nat.reduceAdd,Nat.reduceLeDiff];done) | (simp only [beq_iff_eq,ne_eq,sz_push,sz_put];omega) | assumption | fail)) only [e,hln,hx,hk,g11,b84,b98,b122,b128,b134,ap1,ap2,SXB,SX,reduceIte,Int.reduceLT,Int.reduceLE,Int.reduceToNat,Int.reduceBEq,Int.reduceBNe,Nat.reduceAdd,Nat.reduceMul,Nat.reduceSub,Nat.reduceLeDiff]
      exact next trivial
     ·simp (maxSteps:=3000000) (disch:=(first | omega | (simp only [beq_iff_eq,sz_push,sz_put,SC,Nat.reduceAdd,Nat.reduceLeDiff];done) | (simp only [beq_iff_eq,ne_eq,sz_push,sz_put];omega) | assumption | fail)) only [e,hln,hx,hk,g11,b84,b98,b122,b128,ap1,ap2,SXB,SX,reduceIte,Int.reduceLT,Int.reduceLE,Int.reduceToNat,Int.reduceBEq,Int.reduceBNe,Nat.reduceAdd,Nat.reduceMul,Nat.reduceSub,Nat.reduceLeDiff]
      exact next trivial
    ·simp (maxSteps:=3000000) (disch:=(first | omega | (simp only [beq_iff_eq,sz_push,sz_put,SC,Nat.reduceAdd,Nat.reduceLeDiff];done) | (simp only [beq_iff_eq,ne_eq,sz_push,sz_put];omega) | assumption | fail)) only [e,hln,hx,hk,g11,b84,b98,b122,ap1,ap2,SXB,SX,reduceIte,Int.reduceLT,Int.reduceLE,Int.reduceToNat,Int.reduceBEq,Int.reduceBNe,Nat.reduceAdd,Nat.reduceMul,Nat.reduceSub,Nat.reduceLeDiff]
     exact next trivial
  ·have b84:(x.kind == 6)=false:=by simp [k6]
   by_cases b122:(0:Int) < q
   ·by_cases b128:q < c
    ·have b134:¬ wasF s D < c:=by
      rcases hchk with a | a | a | ⟨a,_,_⟩
      ·omega
      ·omega
      ·omega
      ·exact absurd a k6
     simp (maxSteps:=3000000) (disch:=(first | omega | (simp only [beq_iff_eq,sz_push,sz_put,SC,Nat.reduceAdd,Nat.reduceLeDiff];done) | (simp only [beq_iff_eq,ne_eq,sz_push,sz_put];omega) | assumption | fail)) only [e,hln,hx,hk,g11,b84,b122,b128,b134,ap1,ap2,SXB,SX,reduceIte,Int.reduceLT,Int.reduceLE,Int.reduceToNat,Int.reduceBEq,Int.reduceBNe,Nat.reduceAdd,Nat.reduceMul,Nat.reduceSub,Nat.reduceLeDiff]
     exact next trivial
    ·simp (maxSteps:=3000000) (disch:=(first | omega | (simp only [beq_iff_eq,sz_push,sz_put,SC,Nat.reduceAdd,Nat.reduceLeDiff];done) | (simp only [beq_iff_eq,ne_eq,sz_push,sz_put];omega) | assumption | fail)) only [e,hln,hx,hk,g11,b84,b122,b128,ap1,ap2,SXB,SX,reduceIte,Int.reduceLT,Int.reduceLE,Int.reduceToNat,Int.reduceBEq,Int.reduceBNe,Nat.reduceAdd,Nat.reduceMul,Nat.reduceSub,Nat.reduceLeDiff]
     exact next trivial
   ·simp (maxSteps:=3000000) (disch:=(first | omega | (simp only [beq_iff_eq,sz_push,sz_put,SC,Nat.reduceAdd,Nat.reduceLeDiff];done) | (simp only [beq_iff_eq,ne_eq,sz_push,sz_put];omega) | assumption | fail)) only [e,hln,hx,hk,g11,b84,b122,ap1,ap2,SXB,SX,reduceIte,Int.reduceLT,Int.reduceLE,Int.reduceToNat,Int.reduceBEq,Int.reduceBNe,Nat.reduceAdd,Nat.reduceMul,Nat.reduceSub,Nat.reduceLeDiff]
    exact next trivial
 | succ d ih =>
  intro j hj
  refine X3_22_ok ?_
  unfold X3_22
  have e:(j:Int) < (D.length:Nat):=by omega
  have ej:(j:Int) + 1=((j + 1:Nat):Int):=by omega
  have hln:=tab.n.len
  rw [List.length_map] at hln
  obtain ⟨y,hy⟩:∃ y,D[j]?=some y:=⟨_,List.getElem?_eq_getElem (by omega)⟩
  obtain ⟨a1,n1,n2,_⟩:=tab.n.el j (.string y.1) (by rw [List.getElem?_map,hy];rfl)
  have n3:ld1 h a1=some (.string y.1):=n2.ld1 (Nat.zero_lt_one)
  obtain ⟨a2,m1,m2⟩:=tab.c j y hy
  have m3:ld1 h a2=some (.int .i64 y.2):=m2.ld1 (Nat.zero_lt_one)
  have hw:wasF s (D.take (j + 1))=if (y.1.toList == s.toList)=true then y.2 else wasF s (D.take j):=by
   rw [List.take_add_one,hy,Option.toList_some,wasF_snoc]
  have ih':∀ _:True,_:=fun _=>ih (j + 1) (by omega)
  clear ih next ap1 ap2 hchk g11 hx
  cases hb:(y.1.toList == s.toList) with
  | true =>
   rw [hb,if_pos rfl] at hw
   simp (maxSteps:=3000000) (disch:=(first | omega | (simp only [beq_iff_eq,sz_push,sz_put,SC,Nat.reduceAdd,Nat.reduceLeDiff];done) | (simp only [beq_iff_eq,ne_eq,sz_push,sz_put];omega) | assumption | fail)) only [e,hln,n1,n3,m1,m3,hk,hb,SXB,SX,reduceIte,Int.reduceLT,Int.reduceLE,Int.reduceToNat,Int.reduceBEq,Int.reduceBNe,Nat.reduceAdd,Nat.reduceMul,Nat.reduceSub,Nat.reduceLeDiff]
   refine X3_23_ok ?_
   unfold X3_23
   simp (maxSteps:=3000000) (disch:=(first | omega | (simp only [beq_iff_eq,sz_push,sz_put,SC,Nat.reduceAdd,Nat.reduceLeDiff];done) | (simp only [beq_iff_eq,ne_eq,sz_push,sz_put];omega) | assumption | fail)) only [SXB,SX,reduceIte,Int.reduceLT,Int.reduceLE,Int.reduceToNat,Int.reduceBEq,Int.reduceBNe,Nat.reduceAdd,Nat.reduceMul,Nat.reduceSub,Nat.reduceLeDiff]
   rw [ej,← hw]
   exact ih' trivial
  | false =>
   rw [hb,if_neg (by simp)] at hw
   simp (maxSteps:=3000000) (disch:=(first | omega | (simp only [beq_iff_eq,sz_push,sz_put,SC,Nat.reduceAdd,Nat.reduceLeDiff];done) | (simp only [beq_iff_eq,ne_eq,sz_push,sz_put];omega) | assumption | fail)) only [e,hln,n1,n3,hk,hb,SXB,SX,reduceIte,Int.reduceLT,Int.reduceLE,Int.reduceToNat,Int.reduceBEq,Int.reduceBNe,Nat.reduceAdd,Nat.reduceMul,Nat.reduceSub,Nat.reduceLeDiff]
   refine X3_23_ok ?_
   unfold X3_23
   simp (maxSteps:=3000000) (disch:=(first | omega | (simp only [beq_iff_eq,sz_push,sz_put,SC,Nat.reduceAdd,Nat.reduceLeDiff];done) | (simp only [beq_iff_eq,ne_eq,sz_push,sz_put];omega) | assumption | fail)) only [SXB,SX,reduceIte,Int.reduceLT,Int.reduceLE,Int.reduceToNat,Int.reduceBEq,Int.reduceBNe,Nat.reduceAdd,Nat.reduceMul,Nat.reduceSub,Nat.reduceLeDiff]
   rw [ej,← hw]
   exact ih' trivial
end Go.Proofs.YtgdnfoijhdpppaaDoor.L
end
section
namespace Go.Proofs.YtgdnfoijhdpppaaDoor.L
open Go.Ab Go.Tr Go.Mh Go.Proofs.YtgdnfoijhdpppaaDoor.X
set_option maxRecDepth 100000
theorem moved_pre {x:OpD} {p:Pt} (h:Moved x p):x.kind=6∧x.to_.size ≤ (mkB (joinL p)).size∧(mkB (joinL p)).extract 0 x.to_.size=x.to_:=by
 obtain ⟨h1,h2,h3⟩:=h
 obtain ⟨ps,e1,e2,e3⟩:=okL_iff.1 h2
 rw [e3,(parts_flat e2 e1).2.1] at h3
 obtain ⟨r,rfl⟩:=Tr.within_iff.1 h3
 have e4:joinL (ps++r)=x.to_.data.toList++flat r:=by
  unfold joinL
  rw [if_neg (by simp [e1]),flat_append,e3]
 have e5:=size_len x.to_
 refine ⟨h1,?_,ba_ext ?_⟩
 ·rw [mkB_size,e4,List.length_append,e5];omega
 ·rw [ext_data,mkB_data,e4,e5]
  simp
def dirsOf (σ:St) (M:List Pt):List (ByteArray × Int):=M.flatMap fun p=>match dirAt σ p with
 | some x=>[(mkB (joinL p),x.2)]
 | none=>[]
theorem dirsOf_snoc (σ:St) (M:List Pt) (p:Pt):dirsOf σ (M++[p])=dirsOf σ M++match dirAt σ p with
 | some x=>[(mkB (joinL p),x.2)]
 | none=>[]:=by
 unfold dirsOf;rw [List.flatMap_append];simp
theorem dirsOf_len (σ:St) (M:List Pt):(dirsOf σ M).length ≤ M.length:=by
 induction M with
 | nil=>exact Nat.le_refl _
 | cons p M ih =>
  have:dirsOf σ (p::M)=(match dirAt σ p with | some x=>[(mkB (joinL p),x.2)] | none=>[])++dirsOf σ M:=rfl
  rw [this,List.length_append,List.length_cons]
  cases dirAt σ p <;> simp <;> omega
theorem wasF_all {s:ByteArray} {c:Int}:∀ (D:List (ByteArray × Int)),(∀ x ∈ D,(x.1.toList == s.toList)=true→x.2=c)→(∃ x ∈ D,(x.1.toList == s.toList)=true)→wasF s D=c:=by
 have key:∀ (D:List (ByteArray × Int)) (w:Int),(∀ x ∈ D,(x.1.toList == s.toList)=true→x.2=c)→(w=c ∨ ∃ x ∈ D,(x.1.toList == s.toList)=true)→D.foldl (fun w x=>if (x.1.toList == s.toList)=true then x.2 else w) w=c:=by
  intro D
  induction D with
  | nil =>
   intro w h1 h2
   rcases h2 with h2 | ⟨x,hx,_⟩
   ·exact h2
   ·cases hx
  | cons y D ih =>
   intro w h1 h2
   rw [List.foldl_cons]
   refine ih _ (fun x hx=>h1 x (List.mem_cons_of_mem _ hx)) ?_
   by_cases hy:(y.1.toList == s.toList)=true
   ·rw [if_pos hy];exact .inl (h1 y (by simp) hy)
   ·rw [if_neg hy]
    rcases h2 with h2 | ⟨x,hx,h3⟩
    ·exact .inl h2
    ·rcases List.mem_cons.1 hx with rfl | hx
     ·exact absurd h3 hy
     ·exact .inr ⟨x,hx,h3⟩
 intro D h1 h2
 exact key D 0 h1 (.inr h2)
theorem toList_mkB (l:List UInt8):(mkB l).toList=l:=by rw [Lib.toList_data,mkB_data]
theorem was_dirs {σ:St} {M:List Pt} (hv:∀ p ∈ M,validL p=true) (hM:∀ x,x ∈ M ↔ (σ x).isSome=true) {p:Pt} {q c:Int} (hp:dirAt σ p=some (q,c)):wasF (mkB (joinL p)) (dirsOf σ M)=c:=by
 obtain ⟨b,m,clk,ks,hr⟩:=dirAt_iff.1 hp
 have hm:p ∈ M:=(hM p).2 (by rw [hr];rfl)
 refine wasF_all _ (fun x hx he=>?_) ⟨(mkB (joinL p),c),?_,by simp⟩
 ·obtain ⟨p',hp',hx⟩:=List.mem_flatMap.1 hx
  cases hd:dirAt σ p' with
  | none=>rw [hd] at hx;cases hx
  | some y =>
   rw [hd] at hx
   rw [List.mem_singleton.1 hx] at he ⊢
   have e1:joinL p' = joinL p:=by
    have:=eq_of_beq he
    rwa [toList_mkB,toList_mkB] at this
   have e2:p' = p:=by rw [← (ok_join (hv p' hp')).2,e1,(ok_join (hv p hm)).2]
   rw [e2,hp] at hd
   cases hd;rfl
 ·refine List.mem_flatMap.2 ⟨p,hm,?_⟩
  rw [hp]
  exact List.mem_singleton.2 rfl
theorem quota_loop {h1:AH} {bt:Nat} {σ σ':St} {K:List Pt} (t1:TreeH h1 3 bt σ' K) (G1:Gl h1) {D:List (ByteArray × Int)} {t0 sc sn t7:Value} {i:Nat} (tab:Tab h1 sc sn D) (hD:D.length ≤ 1000000000) (hi0:i < 1000000000) {x:OpD} (hx:ia 10 t0 (.int .i64 (i:Nat))=some (FPv (chV x).cells))
  (qu:Quo (Moved x) σ σ') (hW:∀ p q c,dirAt σ p=some (q,c)→wasF (mkB (joinL p)) D=c) {M:List Pt} (hM:∀ p,p ∈ M ↔ (σ' p).isSome=true) (hMl:M.length ≤ 1000000000) (hlen:lenL t7=some (.int .i64 (M.length:Nat))) (hia:∀ k p,M[k]?=some p→ia 6 t7 (.int .i64 (k:Nat))=some (FPv (entryV σ' p).cells))
  {Q:Res→AH→Prop} (hend:∀ h s8 s9,Kp h1.size h1 h→Hld 3 1 h h1.size s8 ((dirsOf σ' M).map fun y=>.int .i64 y.2)→Hld 9 1 h h1.size s9 ((dirsOf σ' M).map fun y=>.string y.1)→(∀ k,blkOf s8=some k→k < h.size)→(∀ k,blkOf s9=some k→k < h.size)→H3_7 t0 (ptr bt) s8 s9 (.int .i64 ((i + 1:Nat):Int)) h Q) :
  ∀ (d k:Nat) (h:AH) (s8 s9:Value),k + d=M.length→Kp h1.size h1 h→Hld 3 1 h h1.size s8 ((dirsOf σ' (M.take k)).map fun y=>.int .i64 y.2)→Hld 9 1 h h1.size s9 ((dirsOf σ' (M.take k)).map fun y=>.string y.1)→(∀ j,blkOf s8=some j→j < h.size)→(∀ j,blkOf s9=some j→j < h.size)→(∀ j,blkOf s8=some j→blkOf s9 ≠ some j) →
   H3_14 t0 (ptr bt) sc sn (.int .i64 (i:Nat)) t7 s8 s9 (.int .i64 (k:Nat)) h Q:=by
 intro d
 induction d with
 | zero =>
  intro k h s8 s9 hk K1 o8 o9 b8 b9 ne
  refine X3_14_ok ?_
  unfold X3_14
  have e:¬ ((k:Int) < (M.length:Nat)):=by omega
  have ei:(i:Int) + 1=((i + 1:Nat):Int):=by omega
  have htk:M.take k=M:=List.take_of_length_le (by omega)
  rw [htk] at o8 o9
  have fin:=hend h s8 s9 K1 o8 o9 b8 b9
  clear hend
  have fin':True→_:=fun _=>fin
  clear fin
  simp (maxSteps:=3000000) (disch:=(first | omega | (simp only [beq_iff_eq,sz_push,sz_put,SC,Nat.reduceAdd,Nat.reduceLeDiff];done) | (simp only [beq_iff_eq,ne_eq,sz_push,sz_put];omega) | assumption | fail)) only [e,hlen,SXB,SX,reduceIte,Int.reduceLT,Int.reduceLE,Int.reduceToNat,Int.reduceBEq,Int.reduceBNe,Nat.reduceAdd,Nat.reduceMul,Nat.reduceSub,Nat.reduceLeDiff]
  rw [ei]
  exact fin' trivial
 | succ d ih =>
  intro k h s8 s9 hk K1 o8 o9 b8 b9 ne
  refine X3_14_ok ?_
  unfold X3_14
  have e:(k:Int) < (M.length:Nat):=by omega
  have ek:(k:Int) + 1=((k + 1:Nat):Int):=by omega
  obtain ⟨p,hp⟩:∃ p,M[k]?=some p:=⟨_,List.getElem?_eq_getElem (by omega)⟩
  have hi:=hia k p hp
  have hpm:=(hM p).1 (List.mem_of_getElem? hp)
  obtain ⟨r,hr⟩:=Option.isSome_iff_exists.1 hpm
  have hval:=t1.valid p ((t1.ok.mem p).1 hpm)
  have htk:dirsOf σ' (M.take (k + 1))=dirsOf σ' (M.take k)++match dirAt σ' p with
    | some x=>[(mkB (joinL p),x.2)]
    | none=>[]:=by rw [List.take_add_one,hp,Option.toList_some,dirsOf_snoc]
  have hlk:(dirsOf σ' (M.take k)).length ≤ 1000000000:=by
   have:=dirsOf_len σ' (M.take k)
   rw [List.length_take] at this
   omega
  have t:=t1.kp K1
  have G:=G1.kp K1 t1.lo_le
  have lol:=K1.size
  cases r with
  | file b sl oo hd ps =>
   have hent:(entryV σ' p).cells = #[.string (mkB (joinL p)),.bool false,.bool oo,.int .i64 hd,.int .i64 0,slV (ps.map encPc)]:=by unfold entryV;rw [hr];rfl
   rw [hent] at hi
   have hda:dirAt σ' p=none:=by unfold dirAt;rw [hr]
   rw [hda] at htk
   rw [List.append_nil] at htk
   have nx:=ih (k + 1) h s8 s9 (by omega) K1 (by rw [htk];exact o8) (by rw [htk];exact o9) b8 b9 ne
   clear hend ih
   have nx':True→_:=fun _=>nx
   clear nx
   simp (maxSteps:=3000000) (disch:=(first | omega | (simp only [beq_iff_eq,sz_push,sz_put,SC,Nat.reduceAdd,Nat.reduceLeDiff];done) | (simp only [beq_iff_eq,ne_eq,sz_push,sz_put];omega) | assumption | fail)) only [e,hlen,hi,SXB,SX,reduceIte,Int.reduceLT,Int.reduceLE,Int.reduceToNat,Int.reduceBEq,Int.reduceBNe,Nat.reduceAdd,Nat.reduceMul,Nat.reduceSub,Nat.reduceLeDiff]
   refine X3_15_ok ?_
   unfold X3_15
   simp (maxSteps:=3000000) (disch:=(first | omega | (simp only [beq_iff_eq,sz_push,sz_put,SC,Nat.reduceAdd,Nat.reduceLeDiff];done) | (simp only [beq_iff_eq,ne_eq,sz_push,sz_put];omega) | assumption | fail)) only [SXB,SX,reduceIte,Int.reduceLT,Int.reduceLE,Int.reduceToNat,Int.reduceBEq,Int.reduceBNe,Nat.reduceAdd,Nat.reduceMul,Nat.reduceSub,Nat.reduceLeDiff]
   rw [ek]
   exact nx' trivial
  | dir b m clk q c ks =>
   have hent:(entryV σ' p).cells = #[.string (mkB (joinL p)),.bool true,.bool false,.int .i64 0,.int .i64 q,.slice none 0 0]:=by unfold entryV;rw [hr];rfl
   rw [hent] at hi
   have hda:dirAt σ' p=some (q,c):=by unfold dirAt;rw [hr]
   rw [hda] at htk
   have hps:(mkB (joinL p)).size ≤ 1048576:=by have:=path_size hval;omega
   have hfp:findP σ' (mkB (joinL p))=.ok (.dir b m clk q c ks):=findP_ofD t.ok (by rw [mkB_data];exact (ok_join hval).1) (by rw [mkB_data,(ok_join hval).2];exact hr)
   obtain ⟨h2,s1,g11,K2,z2⟩:=inf_new h ⟨true,false,0,q,c,0,[]⟩
   have o8':=o8.mono fun j hj=>K2.get j (b8 j hj)
   have o9':=o9.mono fun j hj=>K2.get j (b9 j hj)
   obtain ⟨s8',h3,ap1,o8a,z3,f3,w8⟩:=o8'.append1 (v:=.int .i64 c) (bytes:=8) (zero:=.int .i64 0) rfl (fun j hj=>by have:=b8 j hj;omega) (by omega) (fun v hv=>by obtain ⟨y,_,rfl⟩:=List.mem_map.1 hv;rfl) rfl (fun v hv=>by rw [List.mem_singleton.1 hv];rfl) (by omega) (by omega) (by omega) rfl (by rw [List.length_map];omega)
   have o9'':=o9'.mono (h':=h3) fun j hj=>f3 j (by have:=b9 j hj;omega) fun e8=>ne j e8 hj
   obtain ⟨s9',h4,ap2,o9a,z4,f4,w9⟩:=o9''.append1 (v:=.string (mkB (joinL p))) (bytes:=16) (zero:=.string ⟨#[]⟩) rfl (fun j hj=>by have:=b9 j hj;omega) (by omega) (fun v hv=>by obtain ⟨y,_,rfl⟩:=List.mem_map.1 hv;rfl) rfl (fun v hv=>by rw [List.mem_singleton.1 hv];rfl) (by omega) (by omega) (by omega) rfl (by rw [List.length_map];omega)
   have b8a:∀ j,blkOf s8' = some j→j < h3.size:=fun j hj=>by
    rcases w8 with w | ⟨j',w,_,w3⟩
    ·rw [w] at hj;have:=b8 j hj;omega
    ·rw [w] at hj;cases hj;exact w3
   have ne8:∀ j,blkOf s8' = some j→blkOf s9 ≠ some j:=fun j hj e9=>by
    rcases w8 with w | ⟨j',w,w2,_⟩
    ·rw [w] at hj;exact ne j hj e9
    ·rw [w] at hj;cases hj;have:=b9 j e9;omega
   have o8b:=o8a.mono (h':=h4) fun j hj=>f4 j (b8a j hj) (ne8 j hj)
   have b9a:∀ j,blkOf s9' = some j→j < h4.size:=fun j hj=>by
    rcases w9 with w | ⟨j',w,_,w3⟩
    ·rw [w] at hj;have:=b9 j hj;omega
    ·rw [w] at hj;cases hj;exact w3
   have ne9:∀ j,blkOf s8' = some j→blkOf s9' ≠ some j:=fun j hj e9=>by
    rcases w9 with w | ⟨j',w,w2,_⟩
    ·rw [w] at e9;exact ne8 j hj e9
    ·rw [w] at e9;cases e9;have:=b8a j hj;omega
   have K4:Kp h1.size h1 h4:=by
    refine ⟨by omega,fun j hj=>?_⟩
    rw [f4 j (by omega) fun e=>by have:=o9.key j e;omega,f3 j (by omega) fun e=>by have:=o8.key j e;omega,K2.get j (by omega)]
    exact K1.get j hj
   have nx:=ih (k + 1) h4 s8' s9' (by omega) K4 (by rw [htk,List.map_append];exact o8b) (by rw [htk,List.map_append];exact o9a) (fun j hj=>by have:=b8a j hj;omega) b9a ne9
   have nx':True→_:=fun _=>nx
   clear nx hend ih
   have next:True→K3_15 t0 (ptr bt) sc sn (.int .i64 (i:Nat)) t7 s8' s9' (.int .i64 (k:Nat)) h4 Q:=fun _=>by
    refine X3_15_ok ?_
    unfold X3_15
    simp (maxSteps:=3000000) (disch:=(first | omega | (simp only [beq_iff_eq,sz_push,sz_put,SC,Nat.reduceAdd,Nat.reduceLeDiff];done) | (simp only [beq_iff_eq,ne_eq,sz_push,sz_put];omega) | assumption | fail)) only [SXB,SX,reduceIte,Int.reduceLT,Int.reduceLE,Int.reduceToNat,Int.reduceBEq,Int.reduceBNe,Nat.reduceAdd,Nat.reduceMul,Nat.reduceSub,Nat.reduceLeDiff]
    rw [ek]
    exact nx' trivial
   clear nx'
   have hchk:q ≤ 0 ∨ c ≤ q ∨ c ≤ wasF (mkB (joinL p)) D ∨ (x.kind=6∧x.to_.size ≤ (mkB (joinL p)).size∧(mkB (joinL p)).extract 0 x.to_.size=x.to_):=by
    rcases qu p q c hda with a | a | a | a | ⟨q0,c0,a1,a2⟩
    ·exact .inr (.inr (.inr (moved_pre a)))
    ·exact .inl a
    ·exact .inr (.inl a)
    ·by_cases hq:q ≤ 0
     ·exact .inl hq
     ·exact .inr (.inl (by omega))
    ·exact .inr (.inr (.inl (by rw [hW p q0 c0 a1];exact a2)))
   have inner:=quota_inner (t3:=ptr bt) (q:=q) (c:=c) ((tab.mono K1).mono K2) hD hx hi g11 hchk ap1 ap2 next D.length 0 (by omega)
   have inner':True→_:=fun _=>inner
   clear inner next
   have s1':stN 7 (h.push (.cells #[.bool false,.bool false,.int .i64 0,.int .i64 0,.int .i64 0,.int .i64 0,.slice none 0 0] 46 (0,0)) none) (ptr h.size) (infoR (.dir b m clk q c ks))=some h2:=s1
   clear s1
   generalize hs7:stN 7=s7 at s1' ⊢
   simp (maxSteps:=3000000) (disch:=(first | omega | (simp only [beq_iff_eq,sz_push,sz_put,SC,Nat.reduceAdd,Nat.reduceLeDiff];done) | (simp only [beq_iff_eq,ne_eq,sz_push,sz_put];omega) | assumption | fail)) only [e,hlen,hi,SXB,SX,reduceIte,Int.reduceLT,Int.reduceLE,Int.reduceToNat,Int.reduceBEq,Int.reduceBNe,Nat.reduceAdd,Nat.reduceMul,Nat.reduceSub,Nat.reduceLeDiff]
   refine stat_ok t G hps (fun r hr'=>?_) (fun e he _=>?_)
   ·rw [hfp] at hr'
    cases hr'
    simp (maxSteps:=3000000) (disch:=(first | omega | (simp only [beq_iff_eq,sz_push,sz_put,SC,Nat.reduceAdd,Nat.reduceLeDiff];done) | (simp only [beq_iff_eq,ne_eq,sz_push,sz_put];omega) | assumption | fail)) only [s1',SXB,SX,reduceIte,Int.reduceLT,Int.reduceLE,Int.reduceToNat,Int.reduceBEq,Int.reduceBNe,Nat.reduceAdd,Nat.reduceMul,Nat.reduceSub,Nat.reduceLeDiff]
    exact inner' trivial
   ·rw [hfp] at he;cases he
end Go.Proofs.YtgdnfoijhdpppaaDoor.L
end
section
namespace Go.Proofs.YtgdnfoijhdpppaaDoor.L
open Go.Ab Go.Tr Go.Mh Go.Proofs.YtgdnfoijhdpppaaDoor.X
set_option maxRecDepth 100000
theorem Hld.lo0 {e z lo:Nat} {h:AH} {s:Value} {l:List Value} (o:Hld e z h lo s l):Hld e z h 0 s l:=by
 cases o with
 | nil=>exact .nil
 | row hk hg hc hp=>exact .row (Nat.zero_le _) hg hc hp
def Off (h:AH) (σ:St) (s:Value):Prop:=∀ k,blkOf s=some k→k < h.size∧∀ p r,σ p=some r→k ∉ own r
theorem Off.step {h h':AH} {σ σ':St} {s:Value} (o:Off h σ s) (f:Fr σ h h') (m:MvT σ σ' h.size):Off h' σ' s:=fun k hk=>by
 obtain ⟨h1,h2⟩:=o k hk
 refine ⟨by have:=f.1;omega,fun p r hp hm=>?_⟩
 rcases m p r k hp hm with ⟨q,s,hq,hs⟩ | h3
 ·exact h2 q s hq hs
 ·omega
structure Kept (h:AH) (σ:St) (sc sn:Value) (D:List (ByteArray × Int)):Prop where
 n:Hld 9 1 h 0 sn (D.map fun y=>.string y.1)
 c:D=[] ∨ (Hld 3 1 h 0 sc (D.map fun y=>.int .i64 y.2)∧Off h σ sc)
 bn:Off h σ sn
theorem Kept.step {h h':AH} {σ σ':St} {sc sn:Value} {D:List (ByteArray × Int)} (k:Kept h σ sc sn D) (f:Fr σ h h') (m:MvT σ σ' h.size):Kept h' σ' sc sn D :=
 ⟨k.n.mono fun j hj=>f.2 j (k.bn j hj).1 (k.bn j hj).2,k.c.imp id fun ⟨h1,h2⟩=>⟨h1.mono fun j hj=>f.2 j (h2 j hj).1 (h2 j hj).2,h2.step f m⟩,k.bn.step f m⟩
theorem Kept.tab {h:AH} {σ:St} {sc sn:Value} {D:List (ByteArray × Int)} (k:Kept h σ sc sn D):Tab h sc sn D:=by
 refine ⟨fun i x hx=>?_,Rd.of_hld k.n (fun v hv=>by obtain ⟨y,_,rfl⟩:=List.mem_map.1 hv;rfl) fun j hj=>(k.bn j hj).1⟩
 rcases k.c with rfl | ⟨h1,h2⟩
 ·cases hx
 ·have R:=Rd.of_hld h1 (fun v hv=>by obtain ⟨y,_,rfl⟩:=List.mem_map.1 hv;rfl) fun j hj=>(h2 j hj).1
  obtain ⟨a,a1,a2,_⟩:=R.el i (.int .i64 x.2) (by rw [List.getElem?_map,hx];rfl)
  exact ⟨a,a1,a2⟩
theorem quotas_loop {l:List OpD} {sv:Value} (hlen:lenL sv=some (.int .i64 (l.length:Nat))) (hia:∀ i x,l[i]?=some x→ia 10 sv (.int .i64 (i:Nat))=some (FPv (chV x).cells)) (hl:∀ x ∈ l,x.path.size ≤ 1048576∧x.to_.size ≤ 1048576) (hn:l.length ≤ 1048576) {bt:Nat} {Q:Res→AH→Prop} (hq:∀ h,Q (.ret (.bool true)) h) :
  ∀ (d i:Nat) (h:AH) (σ:St) (K:List Pt) (sc sn:Value) (D:List (ByteArray × Int)),i + d=l.length→TreeH h 3 bt σ K→Gl h→K.length ≤ i + 1→Kept h σ sc sn D→D.length ≤ 1000000000→(∀ p q c,dirAt σ p=some (q,c)→wasF (mkB (joinL p)) D=c) →
   H3_7 sv (ptr bt) sc sn (.int .i64 (i:Nat)) h Q:=by
 intro d
 induction d with
 | zero =>
  intro i h σ K sc sn D hi t G hK kp hD hW
  refine X3_7_ok ?_
  unfold X3_7
  have e:¬ ((i:Int) < (l.length:Nat)):=by omega
  simp (maxSteps:=3000000) (disch:=(first | omega | (simp only [beq_iff_eq,sz_push,sz_put,SC,Nat.reduceAdd,Nat.reduceLeDiff];done) | (simp only [beq_iff_eq,ne_eq,sz_push,sz_put];omega) | assumption | fail)) only [e,hlen,SXB,SX,reduceIte,Int.reduceLT,Int.reduceLE,Int.reduceToNat,Int.reduceBEq,Int.reduceBNe,Nat.reduceAdd,Nat.reduceMul,Nat.reduceSub,Nat.reduceLeDiff]
  exact hq h
 | succ d ih =>
  intro i h σ K sc sn D hi t G hK kp hD hW
  refine X3_7_ok ?_
  unfold X3_7
  have e:(i:Int) < (l.length:Nat):=by omega
  obtain ⟨x,hx⟩:∃ x,l[i]?=some x:=⟨_,List.getElem?_eq_getElem (by omega)⟩
  have hx1:=hia i x hx
  have hxl:=hl x (List.mem_of_getElem? hx)
  have hld:ldN 10 h (FPv (chV x).cells)=some (chV x):=rfl
  have hx2:=hx1
  generalize hl10:ldN 10=l10 at hld ⊢
  generalize hcx:chV x=cx at hx2 hld
  simp (maxSteps:=3000000) (disch:=(first | omega | (simp only [beq_iff_eq,sz_push,sz_put,SC,Nat.reduceAdd,Nat.reduceLeDiff];done) | (simp only [beq_iff_eq,ne_eq,sz_push,sz_put];omega) | assumption | fail)) only [e,hlen,hx2,hld,SXB,SX,reduceIte,Int.reduceLT,Int.reduceLE,Int.reduceToNat,Int.reduceBEq,Int.reduceBNe,Nat.reduceAdd,Nat.reduceMul,Nat.reduceSub,Nat.reduceLeDiff]
  rw [← hcx]
  refine HC.exact (op_ok x) ?_
  refine apply_ok t G (by omega) hxl.1 hxl.2 fun e1 h2 σ1 L1 t2 f1 m1 n1 qu _ _=>?_
  simp (maxSteps:=3000000) (disch:=(first | omega | (simp only [beq_iff_eq,sz_push,sz_put,SC,Nat.reduceAdd,Nat.reduceLeDiff];done) | (simp only [beq_iff_eq,ne_eq,sz_push,sz_put];omega) | assumption | fail)) only [SXB,SX,reduceIte,Int.reduceLT,Int.reduceLE,Int.reduceToNat,Int.reduceBEq,Int.reduceBNe,Nat.reduceAdd,Nat.reduceMul,Nat.reduceSub,Nat.reduceLeDiff]
  have G2:=Gl.fr t G f1 (Nat.le_refl _)
  refine entries_ok t2 (by omega) fun M hM hMl=>?_
  simp (maxSteps:=3000000) (disch:=(first | omega | (simp only [beq_iff_eq,sz_push,sz_put,SC,Nat.reduceAdd,Nat.reduceLeDiff];done) | (simp only [beq_iff_eq,ne_eq,sz_push,sz_put];omega) | assumption | fail)) only [SXB,SX,reduceIte,Int.reduceLT,Int.reduceLE,Int.reduceToNat,Int.reduceBEq,Int.reduceBNe,Nat.reduceAdd,Nat.reduceMul,Nat.reduceSub,Nat.reduceLeDiff]
  refine quota_loop t2 G2 (kp.step f1 m1).tab hD (by omega) hx1 qu hW hM (by omega) (by rw [lenL_slV,List.length_map]) (fun k p hp=>?_) (fun h3 s8 s9 K3 o8 o9 b8 b9=>?_) M.length 0 h2 _ _ (by omega) (Kp.refl _ _) .nil .nil (fun j hj=>by cases hj) (fun j hj=>by cases hj) (fun j hj=>by cases hj)
  ·have hg:(M.map (entryV σ1))[k]?=some (entryV σ1 p):=by rw [List.getElem?_map,hp];rfl
   have hne:M.map (entryV σ1) ≠ []:=fun e0=>by rw [e0] at hg;cases hg
   rw [slV_of hne,ia_vs,if_pos (Int.natCast_nonneg k),Int.toNat_natCast,hg,Option.bind_some,if_pos (entryV_size σ1 p)]
  ·have off:∀ {s:Value},(∀ k,blkOf s=some k→h2.size ≤ k)→(∀ k,blkOf s=some k→k < h3.size)→Off h3 σ1 s:=fun a1 a2 k hk=>⟨a2 k hk,fun p r hp hm=>by have:=(t2.tw.bnd p r k hp hm).2;have:=a1 k hk;omega⟩
   have hdl:=dirsOf_len σ1 M
   refine ih (i + 1) h3 σ1 L1 s8 s9 (dirsOf σ1 M) (by omega) (t2.kp K3) (G2.kp K3 t2.lo_le) (by omega) ⟨Hld.lo0 o9,.inr ⟨Hld.lo0 o8,off (fun k hk=>o8.key k hk) b8⟩,off (fun k hk=>o9.key k hk) b9⟩ (by omega) fun p q c hd=>was_dirs (fun p hp=>t2.valid p ((t2.ok.mem p).1 ((hM p).1 hp))) hM hd
theorem mk0 {h:AH}:opMakeSlice Tryd.prog h 26 (.int .i64 0) (.int .i64 0)=some (.slice (some ⟨h.size,0,none⟩) 0 0,h.push (.cells #[] 3 (0,0)) none):=by kernel_rfl
theorem quotas_main {m:Int} {l:List OpD} {sv:Value} (hlen:lenL sv=some (.int .i64 (l.length:Nat))) (hia:∀ i x,l[i]?=some x→ia 10 sv (.int .i64 (i:Nat))=some (FPv (chV x).cells))
  (hl:∀ x ∈ l,x.path.size ≤ 1048576∧x.to_.size ≤ 1048576) (hn:l.length ≤ 1048576) :
  HC Tryd.prog 3 [sv].toArray (heap0 Rows.treeHoldersUptoRow.laid m) fun r g=>∃ v,r=.ret v∧v=.bool true:=by
 refine X3_ok ?_
 unfold X3
 have hm:(heap0 Rows.treeHoldersUptoRow.laid m).get 0=some (.cells #[.int .i64 m] 3 (0,1),none):=by
  unfold heap0 AH.laidM
  rw [AH.get_put,if_pos rfl]
 have h3:3 ≤ (heap0 Rows.treeHoldersUptoRow.laid m).size:=of_decide_eq_true (by kernel_rfl)
 have hsp:=speaks_run m
 generalize heap0 Rows.treeHoldersUptoRow.laid m=h at hm h3 hsp ⊢
 have G:Gl h:=⟨m,_,_,_,hm⟩
 simp (maxSteps:=3000000) (disch:=(first | omega | (simp only [beq_iff_eq,sz_push,sz_put,SC,Nat.reduceAdd,Nat.reduceLeDiff];done) | (simp only [beq_iff_eq,ne_eq,sz_push,sz_put];omega) | assumption | fail)) only [SXB,SX,reduceIte,Int.reduceLT,Int.reduceLE,Int.reduceToNat,Int.reduceBEq,Int.reduceBNe,Nat.reduceAdd,Nat.reduceMul,Nat.reduceSub,Nat.reduceLeDiff]
 refine HC.exact hsp ?_
 simp (maxSteps:=3000000) (disch:=(first | omega | (simp only [beq_iff_eq,sz_push,sz_put,SC,Nat.reduceAdd,Nat.reduceLeDiff];done) | (simp only [beq_iff_eq,ne_eq,sz_push,sz_put];omega) | assumption | fail)) only [SXB,SX,reduceIte,Int.reduceLT,Int.reduceLE,Int.reduceToNat,Int.reduceBEq,Int.reduceBNe,Nat.reduceAdd,Nat.reduceMul,Nat.reduceSub,Nat.reduceLeDiff]
 refine new_ok h3 fun h' bt σ t K1 _ _=>?_
 have K2:Kp h'.size h' (h'.push (.cells #[] 3 (0,0)) none):=(Kp.refl _ _).push _ _ (Nat.le_refl _)
 simp (maxSteps:=3000000) (disch:=(first | omega | (simp only [beq_iff_eq,sz_push,sz_put,SC,Nat.reduceAdd,Nat.reduceLeDiff];done) | (simp only [beq_iff_eq,ne_eq,sz_push,sz_put];omega) | assumption | fail)) only [mk0,SXB,SX,reduceIte,Int.reduceLT,Int.reduceLE,Int.reduceToNat,Int.reduceBEq,Int.reduceBNe,Nat.reduceAdd,Nat.reduceMul,Nat.reduceSub,Nat.reduceLeDiff]
 refine quotas_loop hlen hia hl hn (fun h=>⟨_,rfl,rfl⟩) l.length 0 _ σ [[]] _ _ [] (by omega) (t.kp K2) ((G.kp K1 h3).kp K2 t.lo_le) (by simp) ⟨.nil,.inl rfl,fun k hk=>by cases hk⟩ (by simp) fun p q c hd=>?_
 obtain ⟨b,m',clk,ks,hr⟩:=dirAt_iff.1 hd
 rw [t.ok.count p _ _ _ _ _ _ hr]
 have:([[]]:List Pt).filter (Tr.below p)=[]:=by simp [Tr.below]
 rw [this]
 rfl
theorem treeQuotas_law (m:Int) (script:(Ty.slice chTy).T) (w0:(Ty.slice chTy).WF script) (hb:(Ty.slice chTy).bulk script ≤ 1048576) :
  HF Tryd.prog 3 #[(Ty.slice chTy).val script] (heap0 Rows.treeQuotasUptoRow.laid m) fun v _=>v=.bool true:=by
 match script,hb with
 | none,_=>exact HC.to_HF (quotas_main (l:=[]) (sv:=.slice none 0 0) rfl (fun i x h=>by cases h) (fun x h=>by cases h) (Nat.zero_le _))
 | some l,hb =>
  have h1:(Ty.slice chTy).bulk (some l)=(l.map chTy.bulk).sum + 1:=rfl
  have h2:=len_sum l
  refine HC.to_HF (quotas_main (l:=l.map toX) (sv:=VSl (l.map fun x=>chTy.one (chTy.enc x))) ?_ (fun i x hx=>?_) (ch_small (by omega)) (by rw [List.length_map];omega))
  ·rw [lenL_vs,List.length_map,List.length_map]
  ·have hx':(l.map fun x=>chTy.one (chTy.enc x))[i]?=some (chV x):=by
    rw [List.getElem?_map] at hx ⊢
    cases hy:l[i]? with
    | none=>rw [hy] at hx;cases hx
    | some y=>rw [hy] at hx;cases hx;rfl
   rw [ia_vs,if_pos (Int.natCast_nonneg i),Int.toNat_natCast,hx']
   rfl
end Go.Proofs.YtgdnfoijhdpppaaDoor.L
end
