import Derived.KernelRfl
import Derived.Test.YtgdnfoijhdpppaaDoorProg
import Derived.Test.YtgdnfoijhdpppaaDoorZ19
import Derived.Test.YtgdnfoijhdpppaaDoorZ30
set_option linter.unusedVariables false
set_option linter.unusedSimpArgs false
section
namespace Go.Proofs.YtgdnfoijhdpppaaDoor.L
open Go.Ab Go.Tr Go.Mh Go.Proofs.YtgdnfoijhdpppaaDoor.X
set_option maxRecDepth 100000
theorem new_ok {h:AH} (h3:3 ≤ h.size) {Q:Res→AH→Prop} (hq:∀ h' bt σ,TreeH h' 3 bt σ [[]]→Kp h.size h h'→(∀ p r k,σ p=some r→k ∈ own r→h.size ≤ k)→h.size ≤ bt→Q (.ret (ptr bt)) h'):HC Tryd.prog 6 [].toArray h Q:=by
 refine X6_ok ?_
 unfold X6
 simp (disch:=(first | omega | (simp only [beq_iff_eq,sz_push,sz_put,SC,Nat.reduceAdd,Nat.reduceLeDiff];done) | (simp only [beq_iff_eq,ne_eq,sz_push,sz_put];omega) | assumption | fail)) only [SXB,SX,reduceIte,Int.reduceLT,Int.reduceLE,Int.reduceToNat,Int.reduceBEq,Int.reduceBNe,Nat.reduceAdd,Nat.reduceMul,Nat.reduceSub,Nat.reduceLeDiff]
 refine newDir_ok fun h2 K2 z2 gm gd=>?_
 simp (disch:=(first | omega | (simp only [beq_iff_eq,sz_push,sz_put,SC,Nat.reduceAdd,Nat.reduceLeDiff];done) | (simp only [beq_iff_eq,ne_eq,sz_push,sz_put];omega) | assumption | fail)) only [SXB,SX,reduceIte,Int.reduceLT,Int.reduceLE,Int.reduceToNat,Int.reduceBEq,Int.reduceBNe,Nat.reduceAdd,Nat.reduceMul,Nat.reduceSub,Nat.reduceLeDiff]
 have K3:Kp h2.size h2 (h2.push (.cells #[ptr (h.size + 1)] 54 (0,0)) none):=(Kp.refl _ _).push _ _ (Nat.le_refl _)
 have gb:(h2.push (.cells #[ptr (h.size + 1)] 54 (0,0)) none).get h2.size=some (.cells #[ptr (h.size + 1)] 54 (0,0),none):=get_push_eq rfl
 have z3:(h2.push (.cells #[ptr (h.size + 1)] 54 (0,0)) none).size=h2.size + 1:=by simp
 generalize h2.push (.cells #[ptr (h.size + 1)] 54 (0,0)) none=h4 at K3 gb z3 ⊢
 have gm':=(K3.get h.size (by omega)).trans gm
 have gd':=(K3.get (h.size + 1) (by omega)).trans gd
 have hown:∀ p r k,single (.dir (h.size + 1) h.size 0 0 0 []) p=some r→k ∈ own r→k=h.size + 1 ∨ k=h.size:=fun p r k hp hk=>by
  obtain ⟨_,rfl⟩:=single_some.1 hp
  simpa [own] using hk
 refine hq h4 h2.size (single (.dir (h.size + 1) h.size 0 0 0 [])) ⟨dir_single gd' gm' (by omega) ⟨by omega,by omega⟩ ⟨by omega,by omega⟩,single_ok rfl,⟨_,_,_,_,_,_,rfl⟩,fun p hp=>?_,by simp,gb,⟨by omega,by omega⟩,fun p r hp hk=>?_⟩ (K2.trans (K3.less K2.size)) (fun p r k hp hk=>?_) (by omega)
 ·rw [List.mem_singleton.1 hp];decide
 ·have:=hown p r _ hp hk;omega
 ·have:=hown p r _ hp hk;omega
def chV (x:OpD):Value:=.agg #[.int .i64 x.kind,.int .i64 x.client,.int .i64 x.quota,.string x.path,.string x.to_,.int .i64 x.pc.c,.int .i64 x.pc.k,.int .i64 x.pc.t,.int .i64 x.pc.s,.int .u32 x.pc.u]
theorem op_ok {h:AH} (x:OpD):Ex Tryd.prog 8 [chV x].toArray h (opV x) h:=by
 refine Ex.pureF ?_ (X8_ok ?_)
 ·refine .agg fun v hv=>?_
  simp only [List.mem_cons,List.not_mem_nil,or_false] at hv
  rcases hv with rfl | rfl | rfl | rfl | rfl | rfl | rfl | rfl | rfl | rfl <;> first | exact .int _ _ | exact .string _
 ·unfold X8 chV
  simp (disch:=(first | omega | (simp only [beq_iff_eq,sz_push,sz_put,SC,Nat.reduceAdd,Nat.reduceLeDiff];done) | (simp only [beq_iff_eq,ne_eq,sz_push,sz_put];omega) | assumption | fail)) only [SXB,SX,reduceIte,Int.reduceLT,Int.reduceLE,Int.reduceToNat,Int.reduceBEq,Int.reduceBNe,Nat.reduceAdd,Nat.reduceMul,Nat.reduceSub,Nat.reduceLeDiff]
  refine ⟨rfl,?_⟩
  exact ((((Kp.refl _ _).push _ _ (Nat.le_refl _)).push _ _ (by simp))).put _ _ (by simp)
def sizeF (ps:List Pc):Int:=ps.foldl (fun n p=>IntKind.wrap .i64 (n + p.s)) 0
def infoF (o:Bool) (hd:Int) (ps:List Pc):Value:=.agg #[.bool false,.bool o,.int .i64 hd,.int .i64 0,.int .i64 0,.int .i64 (sizeF ps),slV (ps.map encPc)]
def infoD (q c:Int):Value:=.agg #[.bool true,.bool false,.int .i64 0,.int .i64 q,.int .i64 c,.int .i64 0,.slice none 0 0]
def info0:Value:=.agg #[.bool false,.bool false,.int .i64 0,.int .i64 0,.int .i64 0,.int .i64 0,.slice none 0 0]
theorem stat_loop {h0:AH} {sl:Value} {ps:List Pc} (R:Rd h0 5 sl (ps.map encPc)) (hn:ps.length ≤ 1024) {k4 k11:Nat} (hk4:h0.size ≤ k4) (hk:k4 < k11) {o:Bool} {hd:Int} {c4:Array Value} (hc4:c4.size=7) {Q:Res→AH→Prop}
  (hq:∀ h',Kp h0.size h0 h'→Q (.ret (.tuple #[infoF o hd ps,.int .i64 0])) h') :
  ∀ (d i:Nat) (h:AH),i + d=ps.length→Kp h0.size h0 h→k11 < h.size→h.get k4=some (.cells c4 46 (0,0),none)→h.get k11=some (.cells #[.bool false,.bool o,.int .i64 hd,.int .i64 0,.int .i64 0,.int .i64 (sizeF (ps.take i)),slV (ps.map encPc)] 46 (0,0),none) →
   H10_14 (ptr k4) (ptr k11) sl (.int .i64 (ps.length:Nat)) (.int .i64 (i:Nat)) h Q:=by
 intro d
 induction d with
 | zero =>
  intro i h hi K0 hz g4 g11
  refine X10_14_ok ?_
  unfold X10_14
  have e:¬ ((i:Int) < (ps.length:Nat)):=by omega
  have htk:ps.take i=ps:=List.take_of_length_le (by omega)
  rw [htk] at g11
  have l11:ldN 7 h (ptr k11)=some (infoF o hd ps):=ldN_full g11 rfl
  have s4:stN 7 h (ptr k4) (infoF o hd ps)=some (h.put k4 (some (.cells (infoF o hd ps).cells 46 (0,0),none))):=stN_full g4 hc4 rfl fun v hv=>by
   simp only [infoF,cells_agg,List.mem_cons,List.not_mem_nil,or_false] at hv
   rcases hv with rfl | rfl | rfl | rfl | rfl | rfl | rfl <;> first | rfl | exact one_slV _
  have l4:ldN 7 (h.put k4 (some (.cells (infoF o hd ps).cells 46 (0,0),none))) (ptr k4)=some (infoF o hd ps):=ldN_full (get_put_eq rfl) rfl
  have K1:Kp h0.size h0 (h.put k4 (some (.cells (infoF o hd ps).cells 46 (0,0),none))):=K0.put _ _ hk4
  generalize hl:ldN 7=l7 at l11 l4
  generalize hs:stN 7=s7 at s4
  generalize h.put k4 (some (.cells (infoF o hd ps).cells 46 (0,0),none))=h2 at s4 l4 K1
  simp (disch:=(first | omega | (simp only [beq_iff_eq,sz_push,sz_put,SC,Nat.reduceAdd,Nat.reduceLeDiff];done) | (simp only [beq_iff_eq,ne_eq,sz_push,sz_put];omega) | assumption | fail)) only [e,hl,hs,l11,s4,l4,SXB,SX,reduceIte,Int.reduceLT,Int.reduceLE,Int.reduceToNat,Int.reduceBEq,Int.reduceBNe,Nat.reduceAdd,Nat.reduceMul,Nat.reduceSub,Nat.reduceLeDiff]
  exact hq h2 K1
 | succ d ih =>
  intro i h hi K0 hz g4 g11
  refine X10_14_ok ?_
  unfold X10_14
  have e:(i:Int) < (ps.length:Nat):=by omega
  have ei:(i:Int) + 1=((i + 1:Nat):Int):=by omega
  obtain ⟨p,hp⟩:∃ p,ps[i]?=some p:=⟨_,List.getElem?_eq_getElem (by omega)⟩
  obtain ⟨a,r1,r2,r3⟩:=(R.mono K0).el i (encPc p) (by rw [List.getElem?_map,hp];rfl)
  have l5:ldN 5 h a=some (encPc p):=r2.ldN r3
  have hsz:sizeF (ps.take (i + 1))=IntKind.wrap .i64 (sizeF (ps.take i) + p.s):=by
   unfold sizeF
   rw [List.take_add_one,hp,Option.toList_some,List.foldl_append]
   rfl
  have g11':=(get_push_ne (h:=h) (o:=.cells #[.int .i64 p.c,.int .i64 p.k,.int .i64 p.t,.int .i64 p.s,.int .u32 p.u] 34 (0,0)) (s:=none) (j:=k11) (by omega)).trans g11
  unfold encPc at l5
  have hne:k11 ≠ h.size:=by omega
  have hsl1:∀ l,(slV l).oneCell' = true:=one_slV
  simp (disch:=(first | omega | (simp only [beq_iff_eq,sz_push,sz_put,SC,Nat.reduceAdd,Nat.reduceLeDiff];done) | (simp only [beq_iff_eq,ne_eq,sz_push,sz_put];omega) | assumption | fail)) only [e,r1,l5,g11,SXB,SX,reduceIte,Int.reduceLT,Int.reduceLE,Int.reduceToNat,Int.reduceBEq,Int.reduceBNe,Nat.reduceAdd,Nat.reduceMul,Nat.reduceSub,Nat.reduceLeDiff]
  rw [← hsz,ei]
  refine ih (i + 1) _ (by omega) ?_ (by simp;omega) ?_ (get_put_eq rfl)
  ·exact ((K0.push _ _ (by have:=K0.size;omega)).put _ _ (by have:=K0.size;omega)).put _ _ (by omega)
  ·rw [get_put_ne (by omega),get_put_ne (by omega),get_push_ne (by omega)]
   exact g4
end Go.Proofs.YtgdnfoijhdpppaaDoor.L
end
section
namespace Go.Proofs.YtgdnfoijhdpppaaDoor.L
open Go.Ab Go.Tr Go.Mh Go.Proofs.YtgdnfoijhdpppaaDoor.X
set_option maxRecDepth 100000
def infoR:Row→Value
 | .file _ _ o hd ps=>infoF o hd ps
 | .dir _ _ _ q c _=>infoD q c
theorem below_infoF {n:Nat} (o:Bool) (hd:Int) (ps:List Pc):Below n (infoF o hd ps):=by
 refine .agg fun v hv=>?_
 simp only [List.mem_cons,List.not_mem_nil,or_false] at hv
 rcases hv with rfl | rfl | rfl | rfl | rfl | rfl | rfl <;> first | exact .bool _ | exact .int _ _ | exact below_slV (below_pc ps)
theorem below_infoD {n:Nat} (q c:Int):Below n (infoD q c):=by
 refine .agg fun v hv=>?_
 simp only [List.mem_cons,List.not_mem_nil,or_false] at hv
 rcases hv with rfl | rfl | rfl | rfl | rfl | rfl | rfl <;> first | exact .bool _ | exact .int _ _ | exact .nilSlice 0 0
theorem below_info0 {n:Nat}:Below n info0:=by
 refine .agg fun v hv=>?_
 simp only [List.mem_cons,List.not_mem_nil,or_false] at hv
 rcases hv with rfl | rfl | rfl | rfl | rfl | rfl | rfl <;> first | exact .bool _ | exact .int _ _ | exact .nilSlice 0 0
theorem below_two {n:Nat} {a:Value} {k:IntKind} {i:Int} (h:Below n a):Below n (.tuple #[a,.int k i]):=below_tup (l:=[a,.int k i]) fun v hv=>by
 simp only [List.mem_cons,List.not_mem_nil,or_false] at hv
 rcases hv with rfl | rfl
 ·exact h
 ·exact .int _ _
theorem stat_ok {h:AH} {lo bt:Nat} {σ:St} {K:List Pt} (t:TreeH h lo bt σ K) (G:Gl h) {p:ByteArray} (hp:p.size ≤ 1048576) {Q:Res→AH→Prop}
  (hok:∀ r,findP σ p=.ok r→Q (.ret (.tuple #[infoR r,.int .i64 0])) h)
  (her:∀ e:Int,findP σ p=.error e→e ≠ 0→Q (.ret (.tuple #[info0,.int .i64 e])) h):HC Tryd.prog 10 [ptr bt,.string p].toArray h Q:=by
 refine HC.pureF (X10_ok ?_)
 unfold X10
 have K1:Kp h.size h (h.push (.cells #[.bool false,.bool false,.int .i64 0,.int .i64 0,.int .i64 0,.int .i64 0,.slice none 0 0] 46 (0,0)) none):=(Kp.refl _ _).push _ _ (Nat.le_refl _)
 have t1:=t.kp K1
 have G1:=G.kp K1 (by have:=t.tb;omega)
 have z1:(h.push (.cells #[.bool false,.bool false,.int .i64 0,.int .i64 0,.int .i64 0,.int .i64 0,.slice none 0 0] 46 (0,0)) none).size=h.size + 1:=by simp
 have g0:(h.push (.cells #[.bool false,.bool false,.int .i64 0,.int .i64 0,.int .i64 0,.int .i64 0,.slice none 0 0] 46 (0,0)) none).get h.size=some (.cells #[.bool false,.bool false,.int .i64 0,.int .i64 0,.int .i64 0,.int .i64 0,.slice none 0 0] 46 (0,0),none):=get_push_eq rfl
 have new1:(opNew h 46 #[.bool false,.bool false,.int .i64 0,.int .i64 0,.int .i64 0,.int .i64 0,.slice none 0 0]).1=ptr h.size:=rfl
 have new2:(opNew h 46 #[.bool false,.bool false,.int .i64 0,.int .i64 0,.int .i64 0,.int .i64 0,.slice none 0 0]).2=h.push (.cells #[.bool false,.bool false,.int .i64 0,.int .i64 0,.int .i64 0,.int .i64 0,.slice none 0 0] 46 (0,0)) none:=rfl
 rw [new1,new2]
 generalize h.push (.cells #[.bool false,.bool false,.int .i64 0,.int .i64 0,.int .i64 0,.int .i64 0,.slice none 0 0] 46 (0,0)) none=h1 at K1 t1 G1 z1 g0 ⊢
 generalize hl:ldN 7=l7
 generalize hs:stN 7=s7
 simp (disch:=(first | omega | (simp only [beq_iff_eq,sz_push,sz_put,SC,Nat.reduceAdd,Nat.reduceLeDiff];done) | (simp only [beq_iff_eq,ne_eq,sz_push,sz_put];omega) | assumption | fail)) only [SXB,SX,reduceIte,Int.reduceLT,Int.reduceLE,Int.reduceToNat,Int.reduceBEq,Int.reduceBNe,Nat.reduceAdd,Nat.reduceMul,Nat.reduceSub,Nat.reduceLeDiff]
 refine find_pure t1 G1 hp (fun r hr=>?_) (fun l e he h0=>?_)
 ·cases r with
  | dir b m clk q c ks =>
   unfold ifcR
   obtain ⟨g1,_⟩:=t1.tw.dir (findP_some hr).2.2
   have s4:stN 7 h1 (ptr h.size) (infoD q c)=some (h1.put h.size (some (.cells (infoD q c).cells 46 (0,0),none))):=stN_full g0 rfl rfl fun v hv=>by
    simp only [infoD,cells_agg,List.mem_cons,List.not_mem_nil,or_false] at hv
    rcases hv with rfl | rfl | rfl | rfl | rfl | rfl | rfl <;> rfl
   have l4:ldN 7 (h1.put h.size (some (.cells (infoD q c).cells 46 (0,0),none))) (ptr h.size)=some (infoD q c):=ldN_full (get_put_eq rfl) rfl
   have K2:Kp h.size h (h1.put h.size (some (.cells (infoD q c).cells 46 (0,0),none))):=K1.put _ _ (Nat.le_refl _)
   generalize h1.put h.size (some (.cells (infoD q c).cells 46 (0,0),none))=h2 at s4 l4 K2
   unfold infoD at s4
   rw [hs] at s4
   rw [hl] at l4
   simp (disch:=(first | omega | (simp only [beq_iff_eq,sz_push,sz_put,SC,Nat.reduceAdd,Nat.reduceLeDiff];done) | (simp only [beq_iff_eq,ne_eq,sz_push,sz_put];omega) | assumption | fail)) only [ta_dir,g1,s4,l4,SXB,SX,reduceIte,Int.reduceLT,Int.reduceLE,Int.reduceToNat,Int.reduceBEq,Int.reduceBNe,Nat.reduceAdd,Nat.reduceMul,Nat.reduceSub,Nat.reduceLeDiff]
   exact ⟨K2,below_two (below_infoD q c),hok _ hr⟩
  | file b sl o hd ps =>
   unfold ifcR
   obtain ⟨g1,g2,g3,g4⟩:=t1.tw.file (findP_some hr).2.2
   have hb:=(t1.tw.bnd _ _ b (findP_some hr).2.2 (by simp [own])).2
   have hbs:∀ k,blkOf sl=some k→k < h1.size:=fun k hk=>(t1.tw.bnd _ _ k (findP_some hr).2.2 (by simp [own,hk])).2
   simp (disch:=(first | omega | (simp only [beq_iff_eq,sz_push,sz_put,SC,Nat.reduceAdd,Nat.reduceLeDiff];done) | (simp only [beq_iff_eq,ne_eq,sz_push,sz_put];omega) | assumption | fail)) only [ta_dirN,ta_file,g1,SXB,SX,reduceIte,Int.reduceLT,Int.reduceLE,Int.reduceToNat,Int.reduceBEq,Int.reduceBNe,Nat.reduceAdd,Nat.reduceMul,Nat.reduceSub,Nat.reduceLeDiff]
   refine exP_of (clone_ok g2 hbs g4) ⟨rfl,?_⟩
   simp (disch:=(first | omega | (simp only [beq_iff_eq,sz_push,sz_put,SC,Nat.reduceAdd,Nat.reduceLeDiff];done) | (simp only [beq_iff_eq,ne_eq,sz_push,sz_put];omega) | assumption | fail)) only [g1,SXB,SX,reduceIte,Int.reduceLT,Int.reduceLE,Int.reduceToNat,Int.reduceBEq,Int.reduceBNe,Nat.reduceAdd,Nat.reduceMul,Nat.reduceSub,Nat.reduceLeDiff]
   have gp:(h1.push (.cells #[.bool false,.bool false,.int .i64 0,.int .i64 0,.int .i64 0,.int .i64 0,.slice none 0 0] 46 (0,0)) none).get h1.size=some (.cells #[.bool false,.bool false,.int .i64 0,.int .i64 0,.int .i64 0,.int .i64 0,.slice none 0 0] 46 (0,0),none):=get_push_eq rfl
   have K2:Kp h1.size h1 (h1.push (.cells #[.bool false,.bool false,.int .i64 0,.int .i64 0,.int .i64 0,.int .i64 0,.slice none 0 0] 46 (0,0)) none):=(Kp.refl _ _).push _ _ (Nat.le_refl _)
   have z2:(h1.push (.cells #[.bool false,.bool false,.int .i64 0,.int .i64 0,.int .i64 0,.int .i64 0,.slice none 0 0] 46 (0,0)) none).size=h1.size + 1:=by simp
   generalize h1.push (.cells #[.bool false,.bool false,.int .i64 0,.int .i64 0,.int .i64 0,.int .i64 0,.slice none 0 0] 46 (0,0)) none=h2 at gp K2 z2 ⊢
   have s5:stN 7 h2 (ptr h1.size) (.agg #[.bool false,.bool o,.int .i64 hd,.int .i64 0,.int .i64 0,.int .i64 0,slV (ps.map encPc)])=some (h2.put h1.size (some (.cells #[.bool false,.bool o,.int .i64 hd,.int .i64 0,.int .i64 0,.int .i64 0,slV (ps.map encPc)] 46 (0,0),none))):=stN_full gp rfl rfl fun v hv=>by
    simp only [cells_agg,List.mem_cons,List.not_mem_nil,or_false] at hv
    rcases hv with rfl | rfl | rfl | rfl | rfl | rfl | rfl <;> first | rfl | exact one_slV _
   rw [hs] at s5
   have K3:Kp h1.size h1 (h2.put h1.size (some (.cells #[.bool false,.bool o,.int .i64 hd,.int .i64 0,.int .i64 0,.int .i64 0,slV (ps.map encPc)] 46 (0,0),none))):=K2.put _ _ (Nat.le_refl _)
   have g11:(h2.put h1.size (some (.cells #[.bool false,.bool o,.int .i64 hd,.int .i64 0,.int .i64 0,.int .i64 0,slV (ps.map encPc)] 46 (0,0),none))).get h1.size=some (.cells #[.bool false,.bool o,.int .i64 hd,.int .i64 0,.int .i64 0,.int .i64 (sizeF (ps.take 0)),slV (ps.map encPc)] 46 (0,0),none):=get_put_eq rfl
   have z3:(h2.put h1.size (some (.cells #[.bool false,.bool o,.int .i64 hd,.int .i64 0,.int .i64 0,.int .i64 0,slV (ps.map encPc)] 46 (0,0),none))).size=h1.size + 1:=by rw [AH.size_put];exact z2
   generalize h2.put h1.size (some (.cells #[.bool false,.bool o,.int .i64 hd,.int .i64 0,.int .i64 0,.int .i64 0,slV (ps.map encPc)] 46 (0,0),none))=h3 at s5 K3 g11 z3
   have t3:=t1.kp K3
   obtain ⟨f1,f2,f3,f4⟩:=t3.tw.file (findP_some hr).2.2
   have hln:=f2.len
   rw [List.length_map] at hln
   have Kh:Kp h.size h h3:=K1.trans (K3.less (by omega))
   simp (disch:=(first | omega | (simp only [beq_iff_eq,sz_push,sz_put,SC,Nat.reduceAdd,Nat.reduceLeDiff];done) | (simp only [beq_iff_eq,ne_eq,sz_push,sz_put];omega) | assumption | fail)) only [s5,f1,hln,SXB,SX,reduceIte,Int.reduceLT,Int.reduceLE,Int.reduceToNat,Int.reduceBEq,Int.reduceBNe,Nat.reduceAdd,Nat.reduceMul,Nat.reduceSub,Nat.reduceLeDiff]
   refine ⟨exP_of (clone_ok (g2.mono fun k hk=>K2.get k (hbs k hk)) (fun k hk=>by have:=hbs k hk;omega) g4) ⟨rfl,rfl⟩,?_⟩
   have g4':h3.get h.size=some (.cells #[.bool false,.bool false,.int .i64 0,.int .i64 0,.int .i64 0,.int .i64 0,.slice none 0 0] 46 (0,0),none):=(K3.get h.size (by omega)).trans g0
   obtain ⟨e1,e2,e3,e4⟩:=t.tw.file (findP_some hr).2.2
   refine stat_loop (Rd.of_hld e2 (pc_size ps) fun k hk=>(t.tw.bnd _ _ k (findP_some hr).2.2 (by simp [own,hk])).2) g4 (k4:=h.size) (k11:=h1.size) (Nat.le_refl _) (by omega) rfl (fun h' K'=>?_) ps.length 0 h3 (by omega) Kh (by omega) g4' g11
   exact ⟨K',below_two (below_infoF o hd ps),hok _ hr⟩
 ·have he0:(e != 0)=true:=by simpa using h0
  have s4:stN 7 h1 (ptr h.size) info0=some (h1.put h.size (some (.cells info0.cells 46 (0,0),none))):=stN_full g0 rfl rfl fun v hv=>by
   simp only [info0,cells_agg,List.mem_cons,List.not_mem_nil,or_false] at hv
   rcases hv with rfl | rfl | rfl | rfl | rfl | rfl | rfl <;> rfl
  have l4:ldN 7 (h1.put h.size (some (.cells info0.cells 46 (0,0),none))) (ptr h.size)=some info0:=ldN_full (get_put_eq rfl) rfl
  have K2:Kp h.size h (h1.put h.size (some (.cells info0.cells 46 (0,0),none))):=K1.put _ _ (Nat.le_refl _)
  generalize h1.put h.size (some (.cells info0.cells 46 (0,0),none))=h2 at s4 l4 K2
  unfold info0 at s4
  rw [hs] at s4
  rw [hl] at l4
  simp (disch:=(first | omega | (simp only [beq_iff_eq,sz_push,sz_put,SC,Nat.reduceAdd,Nat.reduceLeDiff];done) | (simp only [beq_iff_eq,ne_eq,sz_push,sz_put];omega) | assumption | fail)) only [he0,s4,l4,SXB,SX,reduceIte,Int.reduceLT,Int.reduceLE,Int.reduceToNat,Int.reduceBEq,Int.reduceBNe,Nat.reduceAdd,Nat.reduceMul,Nat.reduceSub,Nat.reduceLeDiff]
  exact ⟨K2,below_two below_info0,her e he h0⟩
end Go.Proofs.YtgdnfoijhdpppaaDoor.L
end
section
namespace Go.Proofs.YtgdnfoijhdpppaaDoor.X
open Go.Ab
set_option maxRecDepth 100000
noncomputable def code4:Code:=match Tryd.f4.body with | some c=>c | none=>.skip
noncomputable def res4:List ResultVar:=Tryd.f4.results.toList
def L4:Nat→Option (List Nat):=fun r=>if r=5 then some [0,1,2,7,8] else none
noncomputable def H4_5 (t0 t1 t2 t7 t8:Value) (h:AH) (Q:Res→AH→Prop):Prop:=HL Tryd.prog (cAt code4 [.r,.r,.r,.l,.r,.i,.i]) (mkA 145 [(0,t0),(1,t1),(2,t2),(7,t7),(8,t8)]) h (ctxAt Tryd.prog L4 code4 [.r,.r,.r,.l,.r,.i] (retK Tryd.prog res4 Q))
noncomputable def X4_5 (t0 t1 t2 t7 t8:Value) (h:AH) (Q:Res→AH→Prop):Prop :=
 let t18:Value:=t8
 let t19:Value:=t0
 bq (lenL t19) fun t20 =>
 bq (binV Tryd.prog .lss 3 (.tmp 18) (.tmp 20) t18 t20 h) fun t21 =>
 condP (some t21)
 (let t24:Value:=t7
 let t25:Value:=t0
 let t26:Value:=t8
 bq (ia 10 t25 t26) fun t27 =>
 bq (ldN 10 h t27) fun t28 =>
 HC Tryd.prog 8 (([]:List Value)++[t28]++([]:List Value)).toArray h (resK (fun t29 h =>
 HC Tryd.prog 7 (([]:List Value)++[t24,t29]++([]:List Value)).toArray h (resK (fun t30 h =>
 let t22:Value:=t8
 bq (binV Tryd.prog .add 3 (.tmp 22) (.const (Value.int .i64 1)) t22 (Value.int .i64 1) h) fun t23 =>
 let t8:Value:=t23
 H4_5 t0 t1 t2 t7 t8 h Q) (fun v h=>Q (.pan v) h))) (fun v h=>Q (.pan v) h)))
 (let t32:Value:=t7
 let t33:Value:=t1
 HC Tryd.prog 10 (([]:List Value)++[t32,t33]++([]:List Value)).toArray h (resK (fun t34 h =>
 let t31:Value:=t34
 bq (opExtract t31 0) fun t35 =>
 bq (opExtract t31 1) fun t36 =>
 (fun t9 h =>
 bq (stN 7 h t9 t35) fun h=>(fun _ h =>
 let t10:Value:=t36
 let t37:Value:=t7
 let t38:Value:=t1
 let t39:Value:=t2
 bq (bd #[(Value.int .i64 0),(Value.int .i64 0),(Value.int .i64 0),(Value.int .i64 0),(Value.int .u32 0)] [(3,1,(Value.int .i64 1))]) fun t40 =>
 bq (bd #[(Value.int .i64 0),(Value.string (ByteArray.mk #[])),(Value.string (ByteArray.mk #[])),(Value.int .i64 0),(Value.int .i64 0),(Value.int .i64 0),(Value.int .i64 0),(Value.int .i64 0),(Value.int .u32 0),(Value.int .i64 0)] [(0,1,(Value.int .i64 3)),(1,1,t38),(3,1,t39),(4,5,t40)]) fun t41 =>
 HC Tryd.prog 7 (([]:List Value)++[t37,t41]++([]:List Value)).toArray h (resK (fun t42 h =>
 let t11:Value:=t42
 let t43:Value:=t7
 let t44:Value:=t1
 let t45:Value:=t2
 bq (bd #[(Value.int .i64 0),(Value.string (ByteArray.mk #[])),(Value.string (ByteArray.mk #[])),(Value.int .i64 0),(Value.int .i64 0),(Value.int .i64 0),(Value.int .i64 0),(Value.int .i64 0),(Value.int .u32 0),(Value.int .i64 0)] [(0,1,(Value.int .i64 4)),(1,1,t44),(3,1,t45)]) fun t46 =>
 HC Tryd.prog 7 (([]:List Value)++[t43,t46]++([]:List Value)).toArray h (resK (fun t47 h =>
 let t12:Value:=t47
 let t49:Value:=t7
 let t50:Value:=t1
 HC Tryd.prog 10 (([]:List Value)++[t49,t50]++([]:List Value)).toArray h (resK (fun t51 h =>
 let t48:Value:=t51
 bq (opExtract t48 0) fun t52 =>
 bq (opExtract t48 1) fun t53 =>
 (fun t13 h =>
 bq (stN 7 h t13 t52) fun h=>(fun _ h =>
 let t14:Value:=t53
 let t54:Value:=t10
 bq (binV Tryd.prog .neq 28 (.tmp 54) (.const (Value.int .i64 0)) t54 (Value.int .i64 0) h) fun t55 =>
 condP (some t55)
 (let t56:Value:=t11
 let t57:Value:=t10
 bq (binV Tryd.prog .eql 28 (.tmp 56) (.tmp 57) t56 t57 h) fun t58 =>
 let t59:Value:=t58
 guardQ t59 true h (fun k=>k t12 h) fun t60 h =>
 guardQ t59 true h (fun k=>k t10 h) fun t61 h =>
 guardQ t59 true h (fun k=>bq (binV Tryd.prog .eql 28 (.tmp 60) (.tmp 61) t60 t61 h) fun v=>k v h) fun t62 h =>
 bq (pickV t59 t62 (Value.bool false)) fun t63 =>
 let t64:Value:=t63
 guardQ t64 true h (fun k=>k t14 h) fun t65 h =>
 guardQ t64 true h (fun k=>k t10 h) fun t66 h =>
 guardQ t64 true h (fun k=>bq (binV Tryd.prog .eql 28 (.tmp 65) (.tmp 66) t65 t66 h) fun v=>k v h) fun t67 h =>
 bq (pickV t64 t67 (Value.bool false)) fun t68 =>
 let t6:Value:=t68
 Q (.ret t6) h)
 (bq (fa 0 1 t9) fun t69 =>
 bq (ld1 h t69) fun t70 =>
 condP (some t70)
 (let t71:Value:=t11
 bq (binV Tryd.prog .eql 28 (.tmp 71) (.const (Value.int .i64 73)) t71 (Value.int .i64 73) h) fun t72 =>
 let t73:Value:=t72
 guardQ t73 true h (fun k=>k t12 h) fun t74 h =>
 guardQ t73 true h (fun k=>bq (binV Tryd.prog .eql 28 (.tmp 74) (.const (Value.int .i64 73)) t74 (Value.int .i64 73) h) fun v=>k v h) fun t75 h =>
 bq (pickV t73 t75 (Value.bool false)) fun t76 =>
 let t6:Value:=t76
 Q (.ret t6) h)
 (bq (fa 1 1 t9) fun t77 =>
 bq (ld1 h t77) fun t78 =>
 bq (unV Tryd.prog .not t78) fun t79 =>
 let t80:Value:=t79
 guardQ t80 false h (fun k=>bq (fa 2 1 t9) fun v=>k v h) fun t81 h =>
 guardQ t80 false h (fun k=>bq (ld1 h t81) fun v=>k v h) fun t82 h =>
 guardQ t80 false h (fun k=>k t2 h) fun t83 h =>
 guardQ t80 false h (fun k=>bq (binV Tryd.prog .neq 3 (.tmp 82) (.tmp 83) t82 t83 h) fun v=>k v h) fun t84 h =>
 bq (pickV t80 (Value.bool true) t84) fun t85 =>
 condP (some t85)
 (let t86:Value:=t11
 bq (binV Tryd.prog .eql 28 (.tmp 86) (.const (Value.int .i64 75)) t86 (Value.int .i64 75) h) fun t87 =>
 let t88:Value:=t87
 guardQ t88 true h (fun k=>k t12 h) fun t89 h =>
 guardQ t88 true h (fun k=>bq (binV Tryd.prog .eql 28 (.tmp 89) (.const (Value.int .i64 75)) t89 (Value.int .i64 75) h) fun v=>k v h) fun t90 h =>
 bq (pickV t88 t90 (Value.bool false)) fun t91 =>
 let t92:Value:=t91
 guardQ t92 true h (fun k=>bq (fa 5 1 t13) fun v=>k v h) fun t93 h =>
 guardQ t92 true h (fun k=>bq (ld1 h t93) fun v=>k v h) fun t94 h =>
 guardQ t92 true h (fun k=>bq (fa 5 1 t9) fun v=>k v h) fun t95 h =>
 guardQ t92 true h (fun k=>bq (ld1 h t95) fun v=>k v h) fun t96 h =>
 guardQ t92 true h (fun k=>bq (binV Tryd.prog .eql 3 (.tmp 94) (.tmp 96) t94 t96 h) fun v=>k v h) fun t97 h =>
 bq (pickV t92 t97 (Value.bool false)) fun t98 =>
 let t99:Value:=t98
 guardQ t99 true h (fun k=>bq (fa 1 1 t13) fun v=>k v h) fun t100 h =>
 guardQ t99 true h (fun k=>bq (ld1 h t100) fun v=>k v h) fun t101 h =>
 guardQ t99 true h (fun k=>bq (fa 1 1 t9) fun v=>k v h) fun t102 h =>
 guardQ t99 true h (fun k=>bq (ld1 h t102) fun v=>k v h) fun t103 h =>
 guardQ t99 true h (fun k=>bq (binV Tryd.prog .eql 4 (.tmp 101) (.tmp 103) t101 t103 h) fun v=>k v h) fun t104 h =>
 bq (pickV t99 t104 (Value.bool false)) fun t105 =>
 let t6:Value:=t105
 Q (.ret t6) h)
 (bq (fa 6 1 t9) fun t106 =>
 bq (ld1 h t106) fun t107 =>
 bq (lenL t107) fun t108 =>
 bq (binV Tryd.prog .geq 3 (.tmp 108) (.const (Value.int .i64 1024)) t108 (Value.int .i64 1024) h) fun t109 =>
 condP (some t109)
 (let t110:Value:=t11
 bq (binV Tryd.prog .eql 28 (.tmp 110) (.const (Value.int .i64 1)) t110 (Value.int .i64 1) h) fun t111 =>
 let t112:Value:=t111
 guardQ t112 true h (fun k=>k t12 h) fun t113 h =>
 guardQ t112 true h (fun k=>bq (binV Tryd.prog .eql 28 (.tmp 113) (.const (Value.int .i64 0)) t113 (Value.int .i64 0) h) fun v=>k v h) fun t114 h =>
 bq (pickV t112 t114 (Value.bool false)) fun t115 =>
 let t116:Value:=t115
 guardQ t116 true h (fun k=>bq (fa 1 1 t13) fun v=>k v h) fun t117 h =>
 guardQ t116 true h (fun k=>bq (ld1 h t117) fun v=>k v h) fun t118 h =>
 guardQ t116 true h (fun k=>bq (unV Tryd.prog .not t118) fun v=>k v h) fun t119 h =>
 bq (pickV t116 t119 (Value.bool false)) fun t120 =>
 let t6:Value:=t120
 Q (.ret t6) h)
 (let t121:Value:=t11
 bq (binV Tryd.prog .eql 28 (.tmp 121) (.const (Value.int .i64 0)) t121 (Value.int .i64 0) h) fun t122 =>
 let t123:Value:=t122
 guardQ t123 true h (fun k=>k t12 h) fun t124 h =>
 guardQ t123 true h (fun k=>bq (binV Tryd.prog .eql 28 (.tmp 124) (.const (Value.int .i64 0)) t124 (Value.int .i64 0) h) fun v=>k v h) fun t125 h =>
 bq (pickV t123 t125 (Value.bool false)) fun t126 =>
 let t127:Value:=t126
 guardQ t127 true h (fun k=>bq (fa 5 1 t13) fun v=>k v h) fun t128 h =>
 guardQ t127 true h (fun k=>bq (ld1 h t128) fun v=>k v h) fun t129 h =>
 guardQ t127 true h (fun k=>bq (fa 5 1 t9) fun v=>k v h) fun t130 h =>
 guardQ t127 true h (fun k=>bq (ld1 h t130) fun v=>k v h) fun t131 h =>
 guardQ t127 true h (fun k=>bq (binV Tryd.prog .add 3 (.tmp 131) (.const (Value.int .i64 1)) t131 (Value.int .i64 1) h) fun v=>k v h) fun t132 h =>
 guardQ t127 true h (fun k=>bq (binV Tryd.prog .eql 3 (.tmp 129) (.tmp 132) t129 t132 h) fun v=>k v h) fun t133 h =>
 bq (pickV t127 t133 (Value.bool false)) fun t134 =>
 let t135:Value:=t134
 guardQ t135 true h (fun k=>bq (fa 1 1 t13) fun v=>k v h) fun t136 h =>
 guardQ t135 true h (fun k=>bq (ld1 h t136) fun v=>k v h) fun t137 h =>
 guardQ t135 true h (fun k=>bq (unV Tryd.prog .not t137) fun v=>k v h) fun t138 h =>
 bq (pickV t135 t138 (Value.bool false)) fun t139 =>
 let t140:Value:=t139
 guardQ t140 true h (fun k=>bq (fa 2 1 t13) fun v=>k v h) fun t141 h =>
 guardQ t140 true h (fun k=>bq (ld1 h t141) fun v=>k v h) fun t142 h =>
 guardQ t140 true h (fun k=>bq (binV Tryd.prog .eql 3 (.tmp 142) (.const (Value.int .i64 0)) t142 (Value.int .i64 0) h) fun v=>k v h) fun t143 h =>
 bq (pickV t140 t143 (Value.bool false)) fun t144 =>
 let t6:Value:=t144
 Q (.ret t6) h))))) undef h) (opNew h 46 #[(Value.bool false),(Value.bool false),(Value.int .i64 0),(Value.int .i64 0),(Value.int .i64 0),(Value.int .i64 0),(Value.slice none 0 0)]).1 (opNew h 46 #[(Value.bool false),(Value.bool false),(Value.int .i64 0),(Value.int .i64 0),(Value.int .i64 0),(Value.int .i64 0),(Value.slice none 0 0)]).2) (fun v h=>Q (.pan v) h))) (fun v h=>Q (.pan v) h))) (fun v h=>Q (.pan v) h))) undef h) (opNew h 46 #[(Value.bool false),(Value.bool false),(Value.int .i64 0),(Value.int .i64 0),(Value.int .i64 0),(Value.int .i64 0),(Value.slice none 0 0)]).1 (opNew h 46 #[(Value.bool false),(Value.bool false),(Value.int .i64 0),(Value.int .i64 0),(Value.int .i64 0),(Value.int .i64 0),(Value.slice none 0 0)]).2) (fun v h=>Q (.pan v) h)))
theorem X4_5_eq (t0 t1 t2 t7 t8:Value) (h:AH) (Q:Res→AH→Prop):X4_5 t0 t1 t2 t7 t8 h Q=wpC Tryd.prog L4 (cAt code4 [.r,.r,.r,.l,.r,.i,.i]) (mkA 145 [(0,t0),(1,t1),(2,t2),(7,t7),(8,t8)]) h (ctxAt Tryd.prog L4 code4 [.r,.r,.r,.l,.r,.i,.i] (retK Tryd.prog res4 Q)):=by kernel_rfl
theorem X4_5_ok {t0 t1 t2 t7 t8:Value} {h:AH} {Q:Res→AH→Prop} (H:X4_5 t0 t1 t2 t7 t8 h Q):H4_5 t0 t1 t2 t7 t8 h Q:=HL.step (L:=L4) ((X4_5_eq t0 t1 t2 t7 t8 h Q).mp H)
noncomputable def X4 (t0 t1 t2:Value) (h:AH) (Q:Res→AH→Prop):Prop :=
 let t6:Value:=(Value.bool false)
 HC Tryd.prog 5 (([]:List Value)++[]++([]:List Value)).toArray h (resK (fun t15 h =>
 bq (unV Tryd.prog .not t15) fun t16 =>
 condP (some t16)
 (let t6:Value:=(Value.bool false)
 Q (.ret t6) h)
 (HC Tryd.prog 6 (([]:List Value)++[]++([]:List Value)).toArray h (resK (fun t17 h =>
 let t7:Value:=t17
 let t8:Value:=(Value.int .i64 0)
 H4_5 t0 t1 t2 t7 t8 h Q) (fun v h=>Q (.pan v) h)))) (fun v h=>Q (.pan v) h))
theorem X4_eq (t0 t1 t2:Value) (h:AH) (Q:Res→AH→Prop):X4 t0 t1 t2 h Q=wpC Tryd.prog L4 code4 (argA [t0,t1,t2] Tryd.f4.ntmps) h (retK Tryd.prog res4 Q):=by kernel_rfl
theorem X4_body:Tryd.f4.body=some code4:=by kernel_rfl
theorem X4_ok {t0 t1 t2:Value} {h:AH} {Q:Res→AH→Prop} (H:X4 t0 t1 t2 h Q):HC Tryd.prog 4 [t0,t1,t2].toArray h Q:=HC.body Tryd.func4 X4_body ((X4_eq t0 t1 t2 h Q).mp H)
end Go.Proofs.YtgdnfoijhdpppaaDoor.X
end
section
namespace Go.Proofs.YtgdnfoijhdpppaaDoor.L
open Go.Ab Go.Tr Go.Mh Go.Proofs.YtgdnfoijhdpppaaDoor.X
set_option maxRecDepth 100000
theorem findF_ofD {σ:St} {K:List Pt} (o:OkD σ K):∀ {l p:Pt} {r:Row},σ (p++l)=some r→findF σ p l=.ok r:=by
 intro l
 induction l with
 | nil =>
  intro p r h
  unfold findF
  rw [List.append_nil] at h
  rw [h]
 | cons nm l ih =>
  intro p r h
  obtain ⟨b,m,clk,q,c,ks,hd⟩:=o.ups (nm::l) p (by simp) (by rw [h];rfl)
  unfold findF
  rw [hd]
  have h2:σ ((p++[nm])++l)=some r:=by simpa using h
  have h3:(σ (p++[nm])).isSome=true:=by
   by_cases hl:l=[]
   ·subst hl;rw [List.append_nil] at h2;rw [h2];rfl
   ·obtain ⟨_,_,_,_,_,_,hd2⟩:=o.ups l (p++[nm]) hl (by rw [h2];rfl)
    rw [hd2];rfl
  obtain ⟨r2,hr2⟩:=Option.isSome_iff_exists.1 h3
  simp only [hr2]
  exact ih h2
theorem findP_ofD {σ:St} {K:List Pt} (o:OkD σ K) {p:ByteArray} {r:Row} (ho:Mh.okP p.data.toList=true) (h:σ (partsL p.data.toList)=some r):findP σ p=.ok r:=by
 unfold findP
 rw [if_pos ho]
 exact findF_ofD o (by simpa using h)
structure Inf where
 d:Bool
 o:Bool
 hd:Int
 q:Int
 c:Int
 s:Int
 ps:List Pc
def Inf.val (x:Inf):Value:=.agg #[.bool x.d,.bool x.o,.int .i64 x.hd,.int .i64 x.q,.int .i64 x.c,.int .i64 x.s,slV (x.ps.map encPc)]
def infR:Row→Inf
 | .file _ _ o hd ps=>⟨false,o,hd,0,0,sizeF ps,ps⟩
 | .dir _ _ _ q c _=>⟨true,false,0,q,c,0,[]⟩
def inf0:Inf:=⟨false,false,0,0,0,0,[]⟩
def StatRel (σ:St) (p:ByteArray) (x:Inf) (e:Int):Prop:=(e=0∧∃ r,findP σ p=.ok r∧x=infR r) ∨ (e ≠ 0∧findP σ p=.error e∧x=inf0)
theorem stat_rel {h:AH} {lo bt:Nat} {σ:St} {K:List Pt} (t:TreeH h lo bt σ K) (G:Gl h) {p:ByteArray} (hp:p.size ≤ 1048576) {Q:Res→AH→Prop}
  (hq:∀ x e,StatRel σ p x e→Q (.ret (.tuple #[x.val,.int .i64 e])) h):HC Tryd.prog 10 [ptr bt,.string p].toArray h Q:=by
 refine stat_ok t G hp (fun r hr=>?_) (fun e he h0=>?_)
 ·have:=hq (infR r) 0 (.inl ⟨rfl,r,hr,rfl⟩)
  cases r <;> exact this
 ·exact hq inf0 e (.inr ⟨h0,he,rfl⟩)
theorem holders_plain {σ σ1 σ2:St} {K1 K2:List Pt} (o1:OkD σ1 K1) (o2:OkD σ2 K2) {p z:ByteArray} {cl q q':Int} {pc pc':Pc} (hs:pc.s=1) {x y:Inf} {e0 e1 e2 e3:Int} (h0:StatRel σ p x e0) (h1:AddRel ⟨3,p,z,cl,pc,q⟩ σ σ1 e1) (h2:CloseRel ⟨4,p,z,cl,pc',q'⟩ σ1 σ2 e2) (h3:StatRel σ2 p y e3) :
  (e0 ≠ 0∧e1=e0∧e2=e0∧e3=e0) ∨ (e0=0∧x.d=true∧e1=73∧e2=73) ∨
  (e0=0∧x.d=false∧(x.o=false ∨ (x.o=true∧x.hd ≠ cl))∧e1=75∧e2=75∧y.s=x.s∧y.o=x.o) ∨
  (e0=0∧x.d=false∧x.o=true∧x.hd=cl∧1024 ≤ x.ps.length∧e1=1∧e2=0∧y.o=false) ∨
  (e0=0∧x.d=false∧x.o=true∧x.hd=cl∧x.ps.length < 1024∧e1=0∧e2=0∧y.s=IntKind.wrap .i64 (x.s + 1)∧y.o=false∧y.hd=0):=by
 have same:∀ {a b:Except Int Row},findP σ p=a→findP σ p=b→a=b:=fun h h'=>h.symm.trans h'
 -- nothing held: nothing changes
 have held:∀ {e:Int},HeldErr σ p cl false e→e ≠ 0→σ1=σ∧e1=e:=by
  intro e he hne
  rcases h1 with ⟨n1,rfl,h1 | ⟨b,sl,ps,h1,_⟩⟩ | ⟨_,b,sl,sl',ps,h1,_⟩
  ·refine ⟨rfl,?_⟩
   rcases he with he | ⟨rfl,b,m,clk,qq,c,ks,he⟩ | ⟨rfl,b,sl,o,hd,ps,he,ho⟩ <;> rcases h1 with h1 | ⟨rfl,b',m',clk',qq',c',ks',h1⟩ | ⟨rfl,b',sl',o',hd',ps',h1,ho'⟩ <;>
    first | rfl | (have:=same he h1;cases this;rfl) | (have:=same he h1;cases this)
  ·exfalso
   rcases he with he | ⟨rfl,b',m,clk,qq,c,ks,he⟩ | ⟨rfl,b',sl',o',hd,ps',he,ho⟩
   ·cases same he h1
   ·cases same he h1
   ·cases same he h1
    rcases ho with ho | ⟨_,ho⟩
    ·cases ho
    ·exact ho rfl
  ·exfalso
   rcases he with he | ⟨rfl,b',m,clk,qq,c,ks,he⟩ | ⟨rfl,b',sl',o',hd,ps',he,ho⟩
   ·cases same he h1
   ·cases same he h1
   ·cases same he h1
    rcases ho with ho | ⟨_,ho⟩
    ·cases ho
    ·exact ho rfl
 have held2:∀ {e:Int},HeldErr σ p cl false e→e ≠ 0→σ1=σ→σ2=σ∧e2=e:=by
  intro e he hne hs1
  subst hs1
  rcases h2 with ⟨n1,rfl,h1⟩ | ⟨_,b,sl,hd,ps,h1,h4,_⟩
  ·refine ⟨rfl,?_⟩
   have h1:HeldErr σ2 p cl false e2:=h1
   rcases he with he | ⟨rfl,b,m,clk,qq,c,ks,he⟩ | ⟨rfl,b,sl,o,hd,ps,he,ho⟩ <;> rcases h1 with h1 | ⟨rfl,b',m',clk',qq',c',ks',h1⟩ | ⟨rfl,b',sl',o',hd',ps',h1,ho'⟩ <;>
    first | rfl | (have:=same he h1;cases this;rfl) | (have:=same he h1;cases this)
  ·exfalso
   have h1:findP σ1 p=.ok (.file b sl true hd ps):=h1
   rcases he with he | ⟨rfl,b',m,clk,qq,c,ks,he⟩ | ⟨rfl,b',sl',o',hd',ps',he,ho⟩
   ·cases same he h1
   ·cases same he h1
   ·cases same he h1
    rcases ho with ho | ⟨_,ho⟩
    ·cases ho
    ·rcases h4 with h4 | h4
     ·cases h4
     ·exact ho h4
 rcases h0 with ⟨rfl,r,hr,rfl⟩ | ⟨n0,he,rfl⟩
 ·cases r with
  | dir b m clk qq c ks =>
   have H:HeldErr σ p cl false 73:=.inr (.inl ⟨rfl,_,_,_,_,_,_,hr⟩)
   obtain ⟨a1,a2⟩:=held H (by decide)
   obtain ⟨a3,a4⟩:=held2 H (by decide) a1
   exact .inr (.inl ⟨rfl,rfl,a2,a4⟩)
  | file b sl o hd ps =>
   by_cases hh:o=true∧hd=cl
   ·obtain ⟨rfl,rfl⟩:=hh
    obtain ⟨ho,_,hf⟩:=findP_some hr
    -- it is held
    have after:∀ {b1:Nat} {sl1:Value} {ps1:List Pc},findP σ1 p=.ok (.file b1 sl1 true hd ps1)→e2=0∧σ2=upd σ1 (partsL p.data.toList) (.file b1 sl1 false 0 ps1):=by
     intro b1 sl1 ps1 hr1
     rcases h2 with ⟨n1,_,h1⟩ | ⟨h4,b',sl',hd',ps',h1,_,h5⟩
     ·exfalso
      have h1:HeldErr σ1 p hd false e2:=h1
      rcases h1 with h1 | ⟨rfl,b',m',clk',qq',c',ks',h1⟩ | ⟨rfl,b',sl',o',hd',ps',h1,ho'⟩
      ·rw [hr1] at h1;cases h1
      ·rw [hr1] at h1;cases h1
      ·rw [hr1] at h1;cases h1
       rcases ho' with ho' | ⟨_,ho'⟩
       ·cases ho'
       ·exact ho' rfl
     ·have h1:findP σ1 p=.ok (.file b' sl' true hd' ps'):=h1
      rw [hr1] at h1;cases h1
      exact ⟨h4,h5⟩
    have fin:∀ {b1:Nat} {sl1:Value} {ps1:List Pc},σ2=upd σ1 (partsL p.data.toList) (.file b1 sl1 false 0 ps1)→y=⟨false,false,0,0,0,sizeF ps1,ps1⟩:=by
     intro b1 sl1 ps1 h4
     have h5:findP σ2 p=.ok (.file b1 sl1 false 0 ps1):=findP_ofD o2 ho (by rw [h4];unfold upd;rw [if_pos rfl])
     rcases h3 with ⟨_,r,hr3,rfl⟩ | ⟨_,he3,_⟩
     ·rw [h5] at hr3;cases hr3;rfl
     ·rw [h5] at he3;cases he3
    rcases h1 with ⟨n1,hs1,h1 | ⟨b',sl',ps',h1,h4⟩⟩ | ⟨h5,b',sl',sl2,ps',h1,h4,h6⟩
    ·exfalso
     have h1:HeldErr σ p hd false e1:=h1
     rcases h1 with h1 | ⟨rfl,b',m',clk',qq',c',ks',h1⟩ | ⟨rfl,b',sl',o',hd',ps',h1,ho'⟩
     ·cases same hr h1
     ·cases same hr h1
     ·cases same hr h1
      rcases ho' with ho' | ⟨_,ho'⟩
      ·cases ho'
      ·exact ho' rfl
    ·cases same hr h1
     rcases h4 with ⟨_,h4⟩ | ⟨h4,h5⟩
     ·exact absurd ⟨by show 1 ≤ pc.s;omega,by show pc.s ≤ 4096;omega⟩ h4
     ·obtain ⟨a1,a2⟩:=after (by rw [hs1];exact hr)
      have a3:=fin a2
      exact .inr (.inr (.inr (.inl ⟨rfl,rfl,rfl,rfl,h5,h4,a1,by rw [a3]⟩)))
    ·cases same hr h1
     have hr1:findP σ1 p=.ok (.file b sl2 true hd (ps++[pc])):=findP_ofD o1 ho (by rw [h6];unfold upd;rw [if_pos rfl])
     obtain ⟨a1,a2⟩:=after hr1
     have a3:=fin a2
     refine .inr (.inr (.inr (.inr ⟨rfl,rfl,rfl,rfl,h4,h5,a1,?_,by rw [a3],by rw [a3]⟩)))
     rw [a3]
     show sizeF (ps++[pc])=IntKind.wrap .i64 (sizeF ps + 1)
     unfold sizeF
     rw [List.foldl_append]
     show IntKind.wrap .i64 (List.foldl (fun n p=>IntKind.wrap .i64 (n + p.s)) 0 ps + pc.s)=_
     rw [hs]
   ·have hh':o=false ∨ (o=true∧hd ≠ cl):=by
     cases o with
     | false=>exact .inl rfl
     | true=>exact .inr ⟨rfl,fun e=>hh ⟨rfl,e⟩⟩
    have H:HeldErr σ p cl false 75:=.inr (.inr ⟨rfl,b,sl,o,hd,ps,hr,hh'.imp id fun h=>⟨rfl,h.2⟩⟩)
    obtain ⟨a1,a2⟩:=held H (by decide)
    obtain ⟨a3,a4⟩:=held2 H (by decide) a1
    subst a3
    have hy:y=infR (.file b sl o hd ps):=by
     rcases h3 with ⟨_,r,hr3,rfl⟩ | ⟨_,he3,_⟩
     ·cases same hr hr3;rfl
     ·cases same hr he3
    exact .inr (.inr (.inl ⟨rfl,rfl,hh',a2,a4,by rw [hy],by rw [hy]⟩))
 ·have H:HeldErr σ p cl false e0:=.inl he
  obtain ⟨a1,a2⟩:=held H n0
  obtain ⟨a3,a4⟩:=held2 H n0 a1
  subst a3
  refine .inl ⟨n0,a2,a4,?_⟩
  rcases h3 with ⟨_,r,hr3,rfl⟩ | ⟨_,he3,_⟩
  ·cases same he hr3
  ·cases same he he3;rfl
end Go.Proofs.YtgdnfoijhdpppaaDoor.L
end
