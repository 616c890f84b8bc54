import Derived.KernelRfl
import Derived.Test.YtgdnfoijhdpppaaDoorProg
import Derived.Test.YtgdnfoijhdpppaaDoorZ19
import Derived.Test.YtgdnfoijhdpppaaDoorZ30
set_option linter.unusedVariables false
set_option linter.unusedSimpArgs false
section
namespace Go.Proofs.YtgdnfoijhdpppaaDoor.L
open Go.Ab Go.Tr Go.Mh Go.Proofs.YtgdnfoijhdpppaaDoor.X
set_option maxRecDepth 100000
theorem new_ok {h:AH} (h3:3 ≤ h.size) {Q:Res→AH→Prop} (hq:∀ h' bt σ,TreeH h' 3 bt σ [[]]→Kp h.size h h'→(∀ p r k,σ p=some r→k ∈ own r→h.size ≤ k)→h.size ≤ bt→Q (.ret (ptr bt)) h'):HC Tryd.prog 6 [].toArray h Q:=by
 refine X6_ok ?_
 unfold X6
 simp (disch:=(first | omega | (simp only [beq_iff_eq,sz_push,sz_put,SC,Nat.reduceAdd,Nat.reduceLeDiff];done) | (simp only [beq_iff_eq,ne_eq,sz_push,sz_put];omega) | assumption | fail)) only [SXB,SX,reduceIte,Int.reduceLT,Int.reduceLE,Int.reduceToNat,Int.reduceBEq,Int.reduceBNe,Nat.reduceAdd,Nat.reduceMul,Nat.reduceSub,Nat.reduceLeDiff]
 refine newDir_ok fun h2 K2 z2 gm gd=>?_
 simp (disch:=(first | omega | (simp only [beq_iff_eq,sz_push,sz_put,SC,Nat.reduceAdd,Nat.reduceLeDiff];done) | (simp only [beq_iff_eq,ne_eq,sz_push,sz_put];omega) | assumption | fail)) only [SXB,SX,reduceIte,Int.reduceLT,Int.reduceLE,Int.reduceToNat,Int.reduceBEq,Int.reduceBNe,Nat.reduceAdd,Nat.reduceMul,Nat.reduceSub,Nat.reduceLeDiff]
 have K3:Kp h2.size h2 (h2.push (.cells #[ptr (h.size + 1)] 54 (0,0)) none):=(Kp.refl _ _).push _ _ (Nat.le_refl _)
 have gb:(h2.push (.cells #[ptr (h.size + 1)] 54 (0,0)) none).get h2.size=some (.cells #[ptr (h.size + 1)] 54 (0,0),none):=get_push_eq rfl
 have z3:(h2.push (.cells #[ptr (h.size + 1)] 54 (0,0)) none).size=h2.size + 1:=by simp
 generalize h2.push (.cells #[ptr (h.size + 1)] 54 (0,0)) none=h4 at K3 gb z3 ⊢
 have gm':=(K3.get h.size (by omega)).trans gm
 have gd':=(K3.get (h.size + 1) (by omega)).trans gd
 have hown:∀ p r k,single (.dir (h.size + 1) h.size 0 0 0 []) p=some r→k ∈ own r→k=h.size + 1 ∨ k=h.size:=fun p r k hp hk=>by
  obtain ⟨_,rfl⟩:=single_some.1 hp
  simpa [own] using hk
 refine hq h4 h2.size (single (.dir (h.size + 1) h.size 0 0 0 [])) ⟨dir_single gd' gm' (by omega) ⟨by omega,by omega⟩ ⟨by omega,by omega⟩,single_ok rfl,⟨_,_,_,_,_,_,rfl⟩,fun p hp=>?_,by simp,gb,⟨by omega,by omega⟩,fun p r hp hk=>?_⟩ (K2.trans (K3.less K2.size)) (fun p r k hp hk=>?_) (by omega)
 ·rw [List.mem_singleton.1 hp];decide
 ·have:=hown p r _ hp hk;omega
 ·have:=hown p r _ hp hk;omega
def chV (x:OpD):Value:=.agg #[.int .i64 x.kind,.int .i64 x.client,.int .i64 x.quota,.string x.path,.string x.to_,.int .i64 x.pc.c,.int .i64 x.pc.k,.int .i64 x.pc.t,.int .i64 x.pc.s,.int .u32 x.pc.u]
theorem op_ok {h:AH} (x:OpD):Ex Tryd.prog 8 [chV x].toArray h (opV x) h:=by
 refine Ex.pureF ?_ (X8_ok ?_)
 ·refine .agg fun v hv=>?_
  simp only [List.mem_cons,List.not_mem_nil,or_false] at hv
  rcases hv with rfl | rfl | rfl | rfl | rfl | rfl | rfl | rfl | rfl | rfl <;> first | exact .int _ _ | exact .string _
 ·unfold X8 chV
  simp (disch:=(first | omega | (simp only [beq_iff_eq,sz_push,sz_put,SC,Nat.reduceAdd,Nat.reduceLeDiff];done) | (simp only [beq_iff_eq,ne_eq,sz_push,sz_put];omega) | assumption | fail)) only [SXB,SX,reduceIte,Int.reduceLT,Int.reduceLE,Int.reduceToNat,Int.reduceBEq,Int.reduceBNe,Nat.reduceAdd,Nat.reduceMul,Nat.reduceSub,Nat.reduceLeDiff]
  refine ⟨rfl,?_⟩
  exact ((((Kp.refl _ _).push _ _ (Nat.le_refl _)).push _ _ (by simp))).put _ _ (by simp)
def sizeF (ps:List Pc):Int:=ps.foldl (fun n p=>IntKind.wrap .i64 (n + p.s)) 0
def infoF (o:Bool) (hd:Int) (ps:List Pc):Value:=.agg #[.bool false,.bool o,.int .i64 hd,.int .i64 0,.int .i64 0,.int .i64 (sizeF ps),slV (ps.map encPc)]
def infoD (q c:Int):Value:=.agg #[.bool true,.bool false,.int .i64 0,.int .i64 q,.int .i64 c,.int .i64 0,.slice none 0 0]
def info0:Value:=.agg #[.bool false,.bool false,.int .i64 0,.int .i64 0,.int .i64 0,.int .i64 0,.slice none 0 0]
theorem stat_loop {h0:AH} {sl:Value} {ps:List Pc} (R:Rd h0 5 sl (ps.map encPc)) (hn:ps.length ≤ 1024) {k4 k11:Nat} (hk4:h0.size ≤ k4) (hk:k4 < k11) {o:Bool} {hd:Int} {c4:Array Value} (hc4:c4.size=7) {Q:Res→AH→Prop}
  (hq:∀ h',Kp h0.size h0 h'→Q (.ret (.tuple #[infoF o hd ps,.int .i64 0])) h') :
  ∀ (d i:Nat) (h:AH),i + d=ps.length→Kp h0.size h0 h→k11 < h.size→h.get k4=some (.cells c4 46 (0,0),none)→h.get k11=some (.cells #[.bool false,.bool o,.int .i64 hd,.int .i64 0,.int .i64 0,.int .i64 (sizeF (ps.take i)),slV (ps.map encPc)] 46 (0,0),none) →
   H10_14 (ptr k4) (ptr k11) sl (.int .i64 (ps.length:Nat)) (.int .i64 (i:Nat)) h Q:=by
 intro d
 induction d with
 | zero =>
  intro i h hi K0 hz g4 g11
  refine X10_14_ok ?_
  unfold X10_14
  have e:¬ ((i:Int) < (ps.length:Nat)):=by omega
  have htk:ps.take i=ps:=List.take_of_length_le (by omega)
  rw [htk] at g11
  have l11:ldN 7 h (ptr k11)=some (infoF o hd ps):=ldN_full g11 rfl
  have s4:stN 7 h (ptr k4) (infoF o hd ps)=some (h.put k4 (some (.cells (infoF o hd ps).cells 46 (0,0),none))):=stN_full g4 hc4 rfl fun v hv=>by
   simp only [infoF,cells_agg,List.mem_cons,List.not_mem_nil,or_false] at hv
   rcases hv with rfl | rfl | rfl | rfl | rfl | rfl | rfl <;> first | rfl | exact one_slV _
  have l4:ldN 7 (h.put k4 (some (.cells (infoF o hd ps).cells 46 (0,0),none))) (ptr k4)=some (infoF o hd ps):=ldN_full (get_put_eq rfl) rfl
  have K1:Kp h0.size h0 (h.put k4 (some (.cells (infoF o hd ps).cells 46 (0,0),none))):=K0.put _ _ hk4
  generalize hl:ldN 7=l7 at l11 l4
  generalize hs:stN 7=s7 at s4
  generalize h.put k4 (some (.cells (infoF o hd ps).cells 46 (0,0),none))=h2 at s4 l4 K1
  simp (disch:=(first | omega | (simp only [beq_iff_eq,sz_push,sz_put,SC,Nat.reduceAdd,Nat.reduceLeDiff];done) | (simp only [beq_iff_eq,ne_eq,sz_push,sz_put];omega) | assumption | fail)) only [e,hl,hs,l11,s4,l4,SXB,SX,reduceIte,Int.reduceLT,Int.reduceLE,Int.reduceToNat,Int.reduceBEq,Int.reduceBNe,Nat.reduceAdd,Nat.reduceMul,Nat.reduceSub,Nat.reduceLeDiff]
  exact hq h2 K1
 | succ d ih =>
  intro i h hi K0 hz g4 g11
  refine X10_14_ok ?_
  unfold X10_14
  have e:(i:Int) < (ps.length:Nat):=by omega
  have ei:(i:Int) + 1=((i + 1:Nat):Int):=by omega
  obtain ⟨p,hp⟩:∃ p,ps[i]?=some p:=⟨_,List.getElem?_eq_getElem (by omega)⟩
  obtain ⟨a,r1,r2,r3⟩:=(R.mono K0).el i (encPc p) (by rw [List.getElem?_map,hp];rfl)
  have l5:ldN 5 h a=some (encPc p):=r2.ldN r3
  have hsz:sizeF (ps.take (i + 1))=IntKind.wrap .i64 (sizeF (ps.take i) + p.s):=by
   unfold sizeF
   rw [List.take_add_one,hp,Option.toList_some,List.foldl_append]
   rfl
  have g11':=(get_push_ne (h:=h) (o:=.cells #[.int .i64 p.c,.int .i64 p.k,.int .i64 p.t,.int .i64 p.s,.int .u32 p.u] 34 (0,0)) (s:=none) (j:=k11) (by omega)).trans g11
  unfold encPc at l5
  have hne:k11 ≠ h.size:=by omega
  have hsl1:∀ l,(slV l).oneCell' = true:=one_slV
  simp (disch:=(first | omega | (simp only [beq_iff_eq,sz_push,sz_put,SC,Nat.reduceAdd,Nat.reduceLeDiff];done) | (simp only [beq_iff_eq,ne_eq,sz_push,sz_put];omega) | assumption | fail)) only [e,r1,l5,g11,SXB,SX,reduceIte,Int.reduceLT,Int.reduceLE,Int.reduceToNat,Int.reduceBEq,Int.reduceBNe,Nat.reduceAdd,Nat.reduceMul,Nat.reduceSub,Nat.reduceLeDiff]
  rw [← hsz,ei]
  refine ih (i + 1) _ (by omega) ?_ (by simp;omega) ?_ (get_put_eq rfl)
  ·exact ((K0.push _ _ (by have:=K0.size;omega)).put _ _ (by have:=K0.size;omega)).put _ _ (by omega)
  ·rw [get_put_ne (by omega),get_put_ne (by omega),get_push_ne (by omega)]
   exact g4
end Go.Proofs.YtgdnfoijhdpppaaDoor.L
end
section
namespace Go.Proofs.YtgdnfoijhdpppaaDoor.L
open Go.Ab Go.Tr Go.Mh Go.Proofs.YtgdnfoijhdpppaaDoor.X
set_option maxRecDepth 100000
def infoR:Row→Value
 | .file _ _ o hd ps=>infoF o hd ps
 | .dir _ _ _ q c _=>infoD q c
theorem below_infoF {n:Nat} (o:Bool) (hd:Int) (ps:List Pc):Below n (infoF o hd ps):=by
 refine .agg fun v hv=>?_
 simp only [List.mem_cons,List.not_mem_nil,or_false] at hv
 rcases hv with rfl | rfl | rfl | rfl | rfl | rfl | rfl <;> first | exact .bool _ | exact .int _ _ | exact below_slV (below_pc ps)
theorem below_infoD {n:Nat} (q c:Int):Below n (infoD q c):=by
 refine .agg fun v hv=>?_
 simp only [List.mem_cons,List.not_mem_nil,or_false] at hv
 rcases hv with rfl | rfl | rfl | rfl | rfl | rfl | rfl <;> first | exact .bool _ | exact .int _ _ | exact .nilSlice 0 0
theorem below_info0 {n:Nat}:Below n info0:=by
 refine .agg fun v hv=>?_
 simp only [List.mem_cons,List.not_mem_nil,or_false] at hv
 rcases hv with rfl | rfl | rfl | rfl | rfl | rfl | rfl <;> first | exact .bool _ | exact .int _ _ | exact .nilSlice 0 0
theorem below_two {n:Nat} {a:Value} {k:IntKind} {i:Int} (h:Below n a):Below n (.tuple #[a,.int k i]):=below_tup (l:=[a,.int k i]) fun v hv=>by
 simp only [List.mem_cons,List.not_mem_nil,or_false] at hv
 rcases hv with rfl | rfl
 ·exact h
 ·exact .int _ _
theorem stat_ok {h:AH} {lo bt:Nat} {σ:St} {K:List Pt} (t:TreeH h lo bt σ K) (G:Gl h) {p:ByteArray} (hp:p.size ≤ 1048576) {Q:Res→AH→Prop}
  (hok:∀ r,findP σ p=.ok r→Q (.ret (.tuple #[infoR r,.int .i64 0])) h)
  (her:∀ e:Int,findP σ p=.error e→e ≠ 0→Q (.ret (.tuple #[info0,.int .i64 e])) h):HC Tryd.prog 10 [ptr bt,.string p].toArray h Q:=by
 refine HC.pureF (X10_ok ?_)
 unfold X10
 have K1:Kp h.size h (h.push (.cells #[.bool false,.bool false,.int .i64 0,.int .i64 0,.int .i64 0,.int .i64 0,.slice none 0 0] 46 (0,0)) none):=(Kp.refl _ _).push _ _ (Nat.le_refl _)
 have t1:=t.kp K1
 have G1:=G.kp K1 (by have:=t.tb;omega)
 have z1:(h.push (.cells #[.bool false,.bool false,.int .i64 0,.int .i64 0,.int .i64 0,.int .i64 0,.slice none 0 0] 46 (0,0)) none).size=h.size + 1:=by simp
 have g0:(h.push (.cells #[.bool false,.bool false,.int .i64 0,.int .i64 0,.int .i64 0,.int .i64 0,.slice none 0 0] 46 (0,0)) none).get h.size=some (.cells #[.bool false,.bool false,.int .i64 0,.int .i64 0,.int .i64 0,.int .i64 0,.slice none 0 0] 46 (0,0),none):=get_push_eq rfl
 have new1:(opNew h 46 #[.bool false,.bool false,.int .i64 0,.int .i64 0,.int .i64 0,.int .i64 0,.slice none 0 0]).1=ptr h.size:=rfl
 have new2:(opNew h 46 #[.bool false,.bool false,.int .i64 0,.int .i64 0,.int .i64 0,.int .i64 0,.slice none 0 0]).2=h.push (.cells #[.bool false,.bool false,.int .i64 0,.int .i64 0,.int .i64 0,.int .i64 0,.slice none 0 0] 46 (0,0)) none:=rfl
 rw [new1,new2]
 generalize h.push (.cells #[.bool false,.bool false,.int .i64 0,.int .i64 0,.int .i64 0,.int .i64 0,.slice none 0 0] 46 (0,0)) none=h1 at K1 t1 G1 z1 g0 ⊢
 generalize hl:ldN 7=l7
 generalize hs:stN 7=s7
 simp (disch:=(first | omega | (simp only [beq_iff_eq,sz_push,sz_put,SC,Nat.reduceAdd,Nat.reduceLeDiff];done) | (simp only [beq_iff_eq,ne_eq,sz_push,sz_put];omega) | assumption | fail)) only [SXB,SX,reduceIte,Int.reduceLT,Int.reduceLE,Int.reduceToNat,Int.reduceBEq,Int.reduceBNe,Nat.reduceAdd,Nat.reduceMul,Nat.reduceSub,Nat.reduceLeDiff]
 refine find_pure t1 G1 hp (fun r hr=>?_) (fun l e he h0=>?_)
 ·cases r with
  | dir b m clk q c ks =>
   unfold ifcR
   obtain ⟨g1,_⟩:=t1.tw.dir (findP_some hr).2.2
   have s4:stN 7 h1 (ptr h.size) (infoD q c)=some (h1.put h.size (some (.cells (infoD q c).cells 46 (0,0),none))):=stN_full g0 rfl rfl fun v hv=>by
    simp only [infoD,cells_agg,List.mem_cons,List.not_mem_nil,or_false] at hv
    rcases hv with rfl | rfl | rfl | rfl | rfl | rfl | rfl <;> rfl
   have l4:ldN 7 (h1.put h.size (some (.cells (infoD q c).cells 46 (0,0),none))) (ptr h.size)=some (infoD q c):=ldN_full (get_put_eq rfl) rfl
   have K2:Kp h.size h (h1.put h.size (some (.cells (infoD q c).cells 46 (0,0),none))):=K1.put _ _ (Nat.le_refl _)
   generalize h1.put h.size (some (.cells (infoD q c).cells 46 (0,0),none))=h2 at s4 l4 K2
   unfold infoD at s4
   rw [hs] at s4
   rw [hl] at l4
   simp (disch:=(first | omega | (simp only [beq_iff_eq,sz_push,sz_put,SC,Nat.reduceAdd,Nat.reduceLeDiff];done) | (simp only [beq_iff_eq,ne_eq,sz_push,sz_put];omega) | assumption | fail)) only [ta_dir,g1,s4,l4,SXB,SX,reduceIte,Int.reduceLT,Int.reduceLE,Int.reduceToNat,Int.reduceBEq,Int.reduceBNe,Nat.reduceAdd,Nat.reduceMul,Nat.reduceSub,Nat.reduceLeDiff]
   exact ⟨K2,below_two (below_infoD q c),hok _ hr⟩
  | file b sl o hd ps =>
   unfold ifcR
   obtain ⟨g1,g2,g3,g4⟩:=t1.tw.file (findP_some hr).2.2
   have hb:=(t1.tw.bnd _ _ b (findP_some hr).2.2 (by simp [own])).2
   have hbs:∀ k,blkOf sl=some k→k < h1.size:=fun k hk=>(t1.tw.bnd _ _ k (findP_some hr).2.2 (by simp [own,hk])).2
   simp (disch:=(first | omega | (simp only [beq_iff_eq,sz_push,sz_put,SC,Nat.reduceAdd,Nat.reduceLeDiff];done) | (simp only [beq_iff_eq,ne_eq,sz_push,sz_put];omega) | assumption | fail)) only [ta_dirN,ta_file,g1,SXB,SX,reduceIte,Int.reduceLT,Int.reduceLE,Int.reduceToNat,Int.reduceBEq,Int.reduceBNe,Nat.reduceAdd,Nat.reduceMul,Nat.reduceSub,Nat.reduceLeDiff]
   refine exP_of (clone_ok g2 hbs g4) ⟨rfl,?_⟩
   simp (disch:=(first | omega | (simp only [beq_iff_eq,sz_push,sz_put,SC,Nat.reduceAdd,Nat.reduceLeDiff];done) | (simp only [beq_iff_eq,ne_eq,sz_push,sz_put];omega) | assumption | fail)) only [g1,SXB,SX,reduceIte,Int.reduceLT,Int.reduceLE,Int.reduceToNat,Int.reduceBEq,Int.reduceBNe,Nat.reduceAdd,Nat.reduceMul,Nat.reduceSub,Nat.reduceLeDiff]
   have gp:(h1.push (.cells #[.bool false,.bool false,.int .i64 0,.int .i64 0,.int .i64 0,.int .i64 0,.slice none 0 0] 46 (0,0)) none).get h1.size=some (.cells #[.bool false,.bool false,.int .i64 0,.int .i64 0,.int .i64 0,.int .i64 0,.slice none 0 0] 46 (0,0),none):=get_push_eq rfl
   have K2:Kp h1.size h1 (h1.push (.cells #[.bool false,.bool false,.int .i64 0,.int .i64 0,.int .i64 0,.int .i64 0,.slice none 0 0] 46 (0,0)) none):=(Kp.refl _ _).push _ _ (Nat.le_refl _)
   have z2:(h1.push (.cells #[.bool false,.bool false,.int .i64 0,.int .i64 0,.int .i64 0,.int .i64 0,.slice none 0 0] 46 (0,0)) none).size=h1.size + 1:=by simp
   generalize h1.push (.cells #[.bool false,.bool false,.int .i64 0,.int .i64 0,.int .i64 0,.int .i64 0,.slice none 0 0] 46 (0,0)) none=h2 at gp K2 z2 ⊢
   have s5:stN 7 h2 (ptr h1.size) (.agg #[.bool false,.bool o,.int .i64 hd,.int .i64 0,.int .i64 0,.int .i64 0,slV (ps.map encPc)])=some (h2.put h1.size (some (.cells #[.bool false,.bool o,.int .i64 hd,.int .i64 0,.int .i64 0,.int .i64 0,slV (ps.map encPc)] 46 (0,0),none))):=stN_full gp rfl rfl fun v hv=>by
    simp only [cells_agg,List.mem_cons,List.not_mem_nil,or_false] at hv
    rcases hv with rfl | rfl | rfl | rfl | rfl | rfl | rfl <;> first | rfl | exact one_slV _
   rw [hs] at s5
   have K3:Kp h1.size h1 (h2.put h1.size (some (.cells #[.bool false,.bool o,.int .i64 hd,.int .i64 0,.int .i64 0,.int .i64 0,slV (ps.map encPc)] 46 (0,0),none))):=K2.put _ _ (Nat.le_refl _)
   have g11:(h2.put h1.size (some (.cells #[.bool false,.bool o,.int .i64 hd,.int .i64 0,.int .i64 0,.int .i64 0,slV (ps.map encPc)] 46 (0,0),none))).get h1.size=some (.cells #[.bool false,.bool o,.int .i64 hd,.int .i64 0,.int .i64 0,.int .i64 (sizeF (ps.take 0)),slV (ps.map encPc)] 46 (0,0),none):=get_put_eq rfl
   have z3:(h2.put h1.size (some (.cells #[.bool false,.bool o,.int .i64 hd,.int .i64 0,.int .i64 0,.int .i64 0,slV (ps.map encPc)] 46 (0,0),none))).size=h1.size + 1:=by rw [AH.size_put];exact z2
   generalize h2.put h1.size (some (.cells #[.bool false,.bool o,.int .i64 hd,.int .i64 0,.int .i64 0,.int .i64 0,slV (ps.map encPc)] 46 (0,0),none))=h3 at s5 K3 g11 z3
   have t3:=t1.kp K3
   obtain ⟨f1,f2,f3,f4⟩:=t3.tw.file (findP_some hr).2.2
   have hln:=f2.len
   rw [List.length_map] at hln
   have Kh:Kp h.size h h3:=K1.trans (K3.less (by omega))
   simp (disch:=(first | omega | (simp only [beq_iff_eq,sz_push,sz_put,SC,Nat.reduceAdd,Nat.reduceLeDiff];done) | (simp only [beq_iff_eq,ne_eq,sz_push,sz_put];omega) | assumption | fail)) only [s5,f1,hln,SXB,SX,reduceIte,Int.reduceLT,Int.reduceLE,Int.reduceToNat,Int.reduceBEq,Int.reduceBNe,Nat.reduceAdd,Nat.reduceMul,Nat.reduceSub,Nat.reduceLeDiff]
   refine ⟨exP_of (clone_ok (g2.mono fun k hk=>K2.get k (hbs k hk)) (fun k hk=>by have:=hbs k hk;omega) g4) ⟨rfl,rfl⟩,?_⟩
   have g4':h3.get h.size=some (.cells #[.bool false,.bool false,.int .i64 0,.int .i64 0,.int .i64 0,.int .i64 0,.slice none 0 0] 46 (0,0),none):=(K3.get h.size (by omega)).trans g0
   obtain ⟨e1,e2,e3,e4⟩:=t.tw.file (findP_some hr).2.2
   refine stat_loop (Rd.of_hld e2 (pc_size ps) fun k hk=>(t.tw.bnd _ _ k (findP_some hr).2.2 (by simp [own,hk])).2) g4 (k4:=h.size) (k11:=h1.size) (Nat.le_refl _) (by omega) rfl (fun h' K'=>?_) ps.length 0 h3 (by omega) Kh (by omega) g4' g11
   exact ⟨K',below_two (below_infoF o hd ps),hok _ hr⟩
 ·have he0:(e != 0)=true:=by simpa using h0
  have s4:stN 7 h1 (ptr h.size) info0=some (h1.put h.size (some (.cells info0.cells 46 (0,0),none))):=stN_full g0 rfl rfl fun v hv=>by
   simp only [info0,cells_agg,List.mem_cons,List.not_mem_nil,or_false] at hv
   rcases hv with rfl | rfl | rfl | rfl | rfl | rfl | rfl <;> rfl
  have l4:ldN 7 (h1.put h.size (some (.cells info0.cells 46 (0,0),none))) (ptr h.size)=some info0:=ldN_full (get_put_eq rfl) rfl
  have K2:Kp h.size h (h1.put h.size (some (.cells info0.cells 46 (0,0),none))):=K1.put _ _ (Nat.le_refl _)
  generalize h1.put h.size (some (.cells info0.cells 46 (0,0),none))=h2 at s4 l4 K2
  unfold info0 at s4
  rw [hs] at s4
  rw [hl] at l4
  simp (disch:=(first | omega | (simp only [beq_iff_eq,sz_push,sz_put,SC,Nat.reduceAdd,Nat.reduceLeDiff];done) | (simp only [beq_iff_eq,ne_eq,sz_push,sz_put];omega) | assumption | fail)) only [he0,s4,l4,SXB,SX,reduceIte,Int.reduceLT,Int.reduceLE,Int.reduceToNat,Int.reduceBEq,Int.reduceBNe,Nat.reduceAdd,Nat.reduceMul,Nat.reduceSub,Nat.reduceLeDiff]
  exact ⟨K2,below_two below_info0,her e he h0⟩
end Go.Proofs.YtgdnfoijhdpppaaDoor.L
end
section
namespace Go.Proofs.YtgdnfoijhdpppaaDoor.X
open Go.Ab
set_option maxRecDepth 100000
noncomputable def code3:Code:=match Tryd.f3.body with | some c=>c | none=>.skip
noncomputable def res3:List ResultVar:=Tryd.f3.results.toList
def L3:Nat→Option (List Nat):=fun r=>if r=7 then some [0,3,4,5,6] else if r=14 then some [0,3,4,5,6,7,8,9,10] else if r=15 then some [0,3,4,5,6,7,8,9,10] else if r=22 then some [0,3,4,5,6,7,8,9,10,11,13,14] else if r=23 then some [0,3,4,5,6,7,8,9,10,11,13,14] else none
noncomputable def H3_7 (t0 t3 t4 t5 t6:Value) (h:AH) (Q:Res→AH→Prop):Prop:=HL Tryd.prog (cAt code3 [.r,.r,.r,.r,.r,.l,.r,.i,.i]) (mkA 155 [(0,t0),(3,t3),(4,t4),(5,t5),(6,t6)]) h (ctxAt Tryd.prog L3 code3 [.r,.r,.r,.r,.r,.l,.r,.i] (retK Tryd.prog res3 Q))
noncomputable def H3_14 (t0 t3 t4 t5 t6 t7 t8 t9 t10:Value) (h:AH) (Q:Res→AH→Prop):Prop:=HL Tryd.prog (cAt code3 (Dir.r::Dir.r::Dir.r::Dir.r::Dir.r::Dir.l::Dir.r::Dir.i::Dir.i::Dir.r::Dir.l::Dir.i::Dir.r::Dir.r::Dir.r::Dir.r::Dir.l::Dir.r::Dir.i::Dir.i::[])) (mkA 155 [(0,t0),(3,t3),(4,t4),(5,t5),(6,t6),(7,t7),(8,t8),(9,t9),(10,t10)]) h (ctxAt Tryd.prog L3 code3 (Dir.r::Dir.r::Dir.r::Dir.r::Dir.r::Dir.l::Dir.r::Dir.i::Dir.i::Dir.r::Dir.l::Dir.i::Dir.r::Dir.r::Dir.r::Dir.r::Dir.l::Dir.r::Dir.i::[]) (retK Tryd.prog res3 Q))
noncomputable def J3_15 (t0 t3 t4 t5 t6 t7 t8 t9 t10:Value) (h:AH) (Q:Res→AH→Prop):Prop:=wpC Tryd.prog L3 (cAt code3 (Dir.r::Dir.r::Dir.r::Dir.r::Dir.r::Dir.l::Dir.r::Dir.i::Dir.i::Dir.r::Dir.l::Dir.i::Dir.r::Dir.r::Dir.r::Dir.r::Dir.l::Dir.r::Dir.i::Dir.i::Dir.r::Dir.r::[])) (mkA 155 [(0,t0),(3,t3),(4,t4),(5,t5),(6,t6),(7,t7),(8,t8),(9,t9),(10,t10)]) h (ctxAt Tryd.prog L3 code3 (Dir.r::Dir.r::Dir.r::Dir.r::Dir.r::Dir.l::Dir.r::Dir.i::Dir.i::Dir.r::Dir.l::Dir.i::Dir.r::Dir.r::Dir.r::Dir.r::Dir.l::Dir.r::Dir.i::Dir.i::Dir.r::Dir.r::[]) (retK Tryd.prog res3 Q))
noncomputable def K3_15 (t0 t3 t4 t5 t6 t7 t8 t9 t10:Value) (h:AH) (Q:Res→AH→Prop):Prop:=(ctxAt Tryd.prog L3 code3 (Dir.r::Dir.r::Dir.r::Dir.r::Dir.r::Dir.l::Dir.r::Dir.i::Dir.i::Dir.r::Dir.l::Dir.i::Dir.r::Dir.r::Dir.r::Dir.r::Dir.l::Dir.r::Dir.i::Dir.i::Dir.r::Dir.l::[]) (retK Tryd.prog res3 Q)) .normal (mkA 155 [(0,t0),(3,t3),(4,t4),(5,t5),(6,t6),(7,t7),(8,t8),(9,t9),(10,t10)]) h
theorem K3_15_eq (t0 t3 t4 t5 t6 t7 t8 t9 t10:Value) (h:AH) (Q:Res→AH→Prop):J3_15 t0 t3 t4 t5 t6 t7 t8 t9 t10 h Q=K3_15 t0 t3 t4 t5 t6 t7 t8 t9 t10 h Q:=join_eq (p:=(Dir.r::Dir.r::Dir.r::Dir.r::Dir.r::Dir.l::Dir.r::Dir.i::Dir.i::Dir.r::Dir.l::Dir.i::Dir.r::Dir.r::Dir.r::Dir.r::Dir.l::Dir.r::Dir.i::Dir.i::Dir.r::[])) (code:=code3) (by kernel_rfl) (by kernel_rfl)
noncomputable def H3_22 (t0 t3 t4 t5 t6 t7 t8 t9 t10 t11 t13 t14:Value) (h:AH) (Q:Res→AH→Prop):Prop:=HL Tryd.prog (cAt code3 (Dir.r::Dir.r::Dir.r::Dir.r::Dir.r::Dir.l::Dir.r::Dir.i::Dir.i::Dir.r::Dir.l::Dir.i::Dir.r::Dir.r::Dir.r::Dir.r::Dir.l::Dir.r::Dir.i::Dir.i::Dir.r::Dir.l::Dir.i::Dir.r::Dir.r::Dir.r::Dir.r::Dir.l::Dir.r::Dir.i::Dir.i::[])) (mkA 155 [(0,t0),(3,t3),(4,t4),(5,t5),(6,t6),(7,t7),(8,t8),(9,t9),(10,t10),(11,t11),(13,t13),(14,t14)]) h (ctxAt Tryd.prog L3 code3 (Dir.r::Dir.r::Dir.r::Dir.r::Dir.r::Dir.l::Dir.r::Dir.i::Dir.i::Dir.r::Dir.l::Dir.i::Dir.r::Dir.r::Dir.r::Dir.r::Dir.l::Dir.r::Dir.i::Dir.i::Dir.r::Dir.l::Dir.i::Dir.r::Dir.r::Dir.r::Dir.r::Dir.l::Dir.r::Dir.i::[]) (retK Tryd.prog res3 Q))
noncomputable def J3_23 (t0 t3 t4 t5 t6 t7 t8 t9 t10 t11 t13 t14:Value) (h:AH) (Q:Res→AH→Prop):Prop:=wpC Tryd.prog L3 (cAt code3 (Dir.r::Dir.r::Dir.r::Dir.r::Dir.r::Dir.l::Dir.r::Dir.i::Dir.i::Dir.r::Dir.l::Dir.i::Dir.r::Dir.r::Dir.r::Dir.r::Dir.l::Dir.r::Dir.i::Dir.i::Dir.r::Dir.l::Dir.i::Dir.r::Dir.r::Dir.r::Dir.r::Dir.l::Dir.r::Dir.i::Dir.i::Dir.r::Dir.r::[])) (mkA 155 [(0,t0),(3,t3),(4,t4),(5,t5),(6,t6),(7,t7),(8,t8),(9,t9),(10,t10),(11,t11),(13,t13),(14,t14)]) h (ctxAt Tryd.prog L3 code3 (Dir.r::Dir.r::Dir.r::Dir.r::Dir.r::Dir.l::Dir.r::Dir.i::Dir.i::Dir.r::Dir.l::Dir.i::Dir.r::Dir.r::Dir.r::Dir.r::Dir.l::Dir.r::Dir.i::Dir.i::Dir.r::Dir.l::Dir.i::Dir.r::Dir.r::Dir.r::Dir.r::Dir.l::Dir.r::Dir.i::Dir.i::Dir.r::Dir.r::[]) (retK Tryd.prog res3 Q))
noncomputable def K3_23 (t0 t3 t4 t5 t6 t7 t8 t9 t10 t11 t13 t14:Value) (h:AH) (Q:Res→AH→Prop):Prop:=(ctxAt Tryd.prog L3 code3 (Dir.r::Dir.r::Dir.r::Dir.r::Dir.r::Dir.l::Dir.r::Dir.i::Dir.i::Dir.r::Dir.l::Dir.i::Dir.r::Dir.r::Dir.r::Dir.r::Dir.l::Dir.r::Dir.i::Dir.i::Dir.r::Dir.l::Dir.i::Dir.r::Dir.r::Dir.r::Dir.r::Dir.l::Dir.r::Dir.i::Dir.i::Dir.r::Dir.l::[]) (retK Tryd.prog res3 Q)) .normal (mkA 155 [(0,t0),(3,t3),(4,t4),(5,t5),(6,t6),(7,t7),(8,t8),(9,t9),(10,t10),(11,t11),(13,t13),(14,t14)]) h
theorem K3_23_eq (t0 t3 t4 t5 t6 t7 t8 t9 t10 t11 t13 t14:Value) (h:AH) (Q:Res→AH→Prop):J3_23 t0 t3 t4 t5 t6 t7 t8 t9 t10 t11 t13 t14 h Q=K3_23 t0 t3 t4 t5 t6 t7 t8 t9 t10 t11 t13 t14 h Q:=join_eq (p:=(Dir.r::Dir.r::Dir.r::Dir.r::Dir.r::Dir.l::Dir.r::Dir.i::Dir.i::Dir.r::Dir.l::Dir.i::Dir.r::Dir.r::Dir.r::Dir.r::Dir.l::Dir.r::Dir.i::Dir.i::Dir.r::Dir.l::Dir.i::Dir.r::Dir.r::Dir.r::Dir.r::Dir.l::Dir.r::Dir.i::Dir.i::Dir.r::[])) (code:=code3) (by kernel_rfl) (by kernel_rfl)
noncomputable def X3_23 (t0 t3 t4 t5 t6 t7 t8 t9 t10 t11 t13 t14:Value) (h:AH) (Q:Res→AH→Prop):Prop :=
 let t63:Value:=t14
 bq (binV Tryd.prog .add 3 (.tmp 63) (.const (Value.int .i64 1)) t63 (Value.int .i64 1) h) fun t64 =>
 let t14:Value:=t64
 H3_22 t0 t3 t4 t5 t6 t7 t8 t9 t10 t11 t13 t14 h Q
theorem X3_23_eq (t0 t3 t4 t5 t6 t7 t8 t9 t10 t11 t13 t14:Value) (h:AH) (Q:Res→AH→Prop):X3_23 t0 t3 t4 t5 t6 t7 t8 t9 t10 t11 t13 t14 h Q=wpC Tryd.prog L3 (cAt code3 (Dir.r::Dir.r::Dir.r::Dir.r::Dir.r::Dir.l::Dir.r::Dir.i::Dir.i::Dir.r::Dir.l::Dir.i::Dir.r::Dir.r::Dir.r::Dir.r::Dir.l::Dir.r::Dir.i::Dir.i::Dir.r::Dir.l::Dir.i::Dir.r::Dir.r::Dir.r::Dir.r::Dir.l::Dir.r::Dir.i::Dir.i::Dir.r::Dir.r::[])) (mkA 155 [(0,t0),(3,t3),(4,t4),(5,t5),(6,t6),(7,t7),(8,t8),(9,t9),(10,t10),(11,t11),(13,t13),(14,t14)]) h (ctxAt Tryd.prog L3 code3 (Dir.r::Dir.r::Dir.r::Dir.r::Dir.r::Dir.l::Dir.r::Dir.i::Dir.i::Dir.r::Dir.l::Dir.i::Dir.r::Dir.r::Dir.r::Dir.r::Dir.l::Dir.r::Dir.i::Dir.i::Dir.r::Dir.l::Dir.i::Dir.r::Dir.r::Dir.r::Dir.r::Dir.l::Dir.r::Dir.i::Dir.i::Dir.r::Dir.r::[]) (retK Tryd.prog res3 Q)):=by kernel_rfl
theorem X3_23_ok {t0 t3 t4 t5 t6 t7 t8 t9 t10 t11 t13 t14:Value} {h:AH} {Q:Res→AH→Prop} (H:X3_23 t0 t3 t4 t5 t6 t7 t8 t9 t10 t11 t13 t14 h Q):K3_23 t0 t3 t4 t5 t6 t7 t8 t9 t10 t11 t13 t14 h Q:=(K3_23_eq t0 t3 t4 t5 t6 t7 t8 t9 t10 t11 t13 t14 h Q).mp (((X3_23_eq t0 t3 t4 t5 t6 t7 t8 t9 t10 t11 t13 t14 h Q).mp H))
noncomputable def X3_22 (t0 t3 t4 t5 t6 t7 t8 t9 t10 t11 t13 t14:Value) (h:AH) (Q:Res→AH→Prop):Prop :=
 let t59:Value:=t14
 let t60:Value:=t5
 bq (lenL t60) fun t61 =>
 bq (binV Tryd.prog .lss 3 (.tmp 59) (.tmp 61) t59 t61 h) fun t62 =>
 condP (some t62)
 (let t65:Value:=t5
 let t66:Value:=t14
 bq (ia 1 t65 t66) fun t67 =>
 bq (ld1 h t67) fun t68 =>
 let t69:Value:=t7
 let t70:Value:=t10
 bq (ia 6 t69 t70) fun t71 =>
 bq (fa 0 1 t71) fun t72 =>
 bq (ld1 h t72) fun t73 =>
 bq (binV Tryd.prog .eql 9 (.tmp 68) (.tmp 73) t68 t73 h) fun t74 =>
 condP (some t74)
 (let t75:Value:=t4
 let t76:Value:=t14
 bq (ia 1 t75 t76) fun t77 =>
 bq (ld1 h t77) fun t78 =>
 let t13:Value:=t78
 K3_23 t0 t3 t4 t5 t6 t7 t8 t9 t10 t11 t13 t14 h Q)
 (K3_23 t0 t3 t4 t5 t6 t7 t8 t9 t10 t11 t13 t14 h Q))
 (let t79:Value:=t0
 let t80:Value:=t6
 bq (ia 10 t79 t80) fun t81 =>
 bq (fa 0 1 t81) fun t82 =>
 bq (ld1 h t82) fun t83 =>
 bq (binV Tryd.prog .eql 3 (.tmp 83) (.const (Value.int .i64 6)) t83 (Value.int .i64 6) h) fun t84 =>
 let t85:Value:=t84
 guardQ t85 true h (fun k=>k t7 h) fun t86 h =>
 guardQ t85 true h (fun k=>k t10 h) fun t87 h =>
 guardQ t85 true h (fun k=>bq (ia 6 t86 t87) fun v=>k v h) fun t88 h =>
 guardQ t85 true h (fun k=>bq (fa 0 1 t88) fun v=>k v h) fun t89 h =>
 guardQ t85 true h (fun k=>bq (ld1 h t89) fun v=>k v h) fun t90 h =>
 guardQ t85 true h (fun k=>bq (lenS t90) fun v=>k v h) fun t91 h =>
 guardQ t85 true h (fun k=>k t0 h) fun t92 h =>
 guardQ t85 true h (fun k=>k t6 h) fun t93 h =>
 guardQ t85 true h (fun k=>bq (ia 10 t92 t93) fun v=>k v h) fun t94 h =>
 guardQ t85 true h (fun k=>bq (fa 4 1 t94) fun v=>k v h) fun t95 h =>
 guardQ t85 true h (fun k=>bq (ld1 h t95) fun v=>k v h) fun t96 h =>
 guardQ t85 true h (fun k=>bq (lenS t96) fun v=>k v h) fun t97 h =>
 guardQ t85 true h (fun k=>bq (binV Tryd.prog .geq 3 (.tmp 91) (.tmp 97) t91 t97 h) fun v=>k v h) fun t98 h =>
 bq (pickV t85 t98 (Value.bool false)) fun t99 =>
 let t100:Value:=t99
 guardQ t100 true h (fun k=>k t7 h) fun t101 h =>
 guardQ t100 true h (fun k=>k t10 h) fun t102 h =>
 guardQ t100 true h (fun k=>bq (ia 6 t101 t102) fun v=>k v h) fun t103 h =>
 guardQ t100 true h (fun k=>bq (fa 0 1 t103) fun v=>k v h) fun t104 h =>
 guardQ t100 true h (fun k=>bq (ld1 h t104) fun v=>k v h) fun t105 h =>
 guardQ t100 true h (fun k=>k t0 h) fun t106 h =>
 guardQ t100 true h (fun k=>k t6 h) fun t107 h =>
 guardQ t100 true h (fun k=>bq (ia 10 t106 t107) fun v=>k v h) fun t108 h =>
 guardQ t100 true h (fun k=>bq (fa 4 1 t108) fun v=>k v h) fun t109 h =>
 guardQ t100 true h (fun k=>bq (ld1 h t109) fun v=>k v h) fun t110 h =>
 guardQ t100 true h (fun k=>bq (lenS t110) fun v=>k v h) fun t111 h =>
 guardQ t100 true h (fun k=>bq (sliceV Tryd.prog h 9 t105 none (some t111)) fun v=>k v h) fun t112 h =>
 guardQ t100 true h (fun k=>k t0 h) fun t113 h =>
 guardQ t100 true h (fun k=>k t6 h) fun t114 h =>
 guardQ t100 true h (fun k=>bq (ia 10 t113 t114) fun v=>k v h) fun t115 h =>
 guardQ t100 true h (fun k=>bq (fa 4 1 t115) fun v=>k v h) fun t116 h =>
 guardQ t100 true h (fun k=>bq (ld1 h t116) fun v=>k v h) fun t117 h =>
 guardQ t100 true h (fun k=>bq (binV Tryd.prog .eql 9 (.tmp 112) (.tmp 117) t112 t117 h) fun v=>k v h) fun t118 h =>
 bq (pickV t100 t118 (Value.bool false)) fun t119 =>
 let t15:Value:=t119
 bq (fa 3 1 t11) fun t120 =>
 bq (ld1 h t120) fun t121 =>
 bq (binV Tryd.prog .gtr 3 (.tmp 121) (.const (Value.int .i64 0)) t121 (Value.int .i64 0) h) fun t122 =>
 let t123:Value:=t122
 guardQ t123 true h (fun k=>bq (fa 4 1 t11) fun v=>k v h) fun t124 h =>
 guardQ t123 true h (fun k=>bq (ld1 h t124) fun v=>k v h) fun t125 h =>
 guardQ t123 true h (fun k=>bq (fa 3 1 t11) fun v=>k v h) fun t126 h =>
 guardQ t123 true h (fun k=>bq (ld1 h t126) fun v=>k v h) fun t127 h =>
 guardQ t123 true h (fun k=>bq (binV Tryd.prog .gtr 3 (.tmp 125) (.tmp 127) t125 t127 h) fun v=>k v h) fun t128 h =>
 bq (pickV t123 t128 (Value.bool false)) fun t129 =>
 let t130:Value:=t129
 guardQ t130 true h (fun k=>bq (fa 4 1 t11) fun v=>k v h) fun t131 h =>
 guardQ t130 true h (fun k=>bq (ld1 h t131) fun v=>k v h) fun t132 h =>
 guardQ t130 true h (fun k=>k t13 h) fun t133 h =>
 guardQ t130 true h (fun k=>bq (binV Tryd.prog .gtr 3 (.tmp 132) (.tmp 133) t132 t133 h) fun v=>k v h) fun t134 h =>
 bq (pickV t130 t134 (Value.bool false)) fun t135 =>
 let t136:Value:=t135
 guardQ t136 true h (fun k=>k t15 h) fun t137 h =>
 guardQ t136 true h (fun k=>bq (unV Tryd.prog .not t137) fun v=>k v h) fun t138 h =>
 bq (pickV t136 t138 (Value.bool false)) fun t139 =>
 condP (some t139)
 (let t2:Value:=(Value.bool false)
 Q (.ret t2) h)
 (let t140:Value:=t8
 bq (fa 4 1 t11) fun t141 =>
 bq (ld1 h t141) fun t142 =>
 bq (bs 3 #[(Value.int .i64 0)] 1 h [(0,1,t142)]) fun r=>(fun t143 h =>
 bq (apT 3 1 8 (some (Value.int .i64 0)) h t140 t143) fun r=>(fun t144 h =>
 let t8:Value:=t144
 let t145:Value:=t9
 let t146:Value:=t7
 let t147:Value:=t10
 bq (ia 6 t146 t147) fun t148 =>
 bq (fa 0 1 t148) fun t149 =>
 bq (ld1 h t149) fun t150 =>
 bq (bs 9 #[(Value.string (ByteArray.mk #[]))] 1 h [(0,1,t150)]) fun r=>(fun t151 h =>
 bq (apT 9 1 16 (some (Value.string (ByteArray.mk #[]))) h t145 t151) fun r=>(fun t152 h =>
 let t9:Value:=t152
 K3_15 t0 t3 t4 t5 t6 t7 t8 t9 t10 h Q) r.1 r.2) r.1 r.2) r.1 r.2) r.1 r.2))
theorem X3_22_eq (t0 t3 t4 t5 t6 t7 t8 t9 t10 t11 t13 t14:Value) (h:AH) (Q:Res→AH→Prop):X3_22 t0 t3 t4 t5 t6 t7 t8 t9 t10 t11 t13 t14 h Q=wpC Tryd.prog L3 (cAt code3 (Dir.r::Dir.r::Dir.r::Dir.r::Dir.r::Dir.l::Dir.r::Dir.i::Dir.i::Dir.r::Dir.l::Dir.i::Dir.r::Dir.r::Dir.r::Dir.r::Dir.l::Dir.r::Dir.i::Dir.i::Dir.r::Dir.l::Dir.i::Dir.r::Dir.r::Dir.r::Dir.r::Dir.l::Dir.r::Dir.i::Dir.i::[])) (mkA 155 [(0,t0),(3,t3),(4,t4),(5,t5),(6,t6),(7,t7),(8,t8),(9,t9),(10,t10),(11,t11),(13,t13),(14,t14)]) h (ctxAt Tryd.prog L3 code3 (Dir.r::Dir.r::Dir.r::Dir.r::Dir.r::Dir.l::Dir.r::Dir.i::Dir.i::Dir.r::Dir.l::Dir.i::Dir.r::Dir.r::Dir.r::Dir.r::Dir.l::Dir.r::Dir.i::Dir.i::Dir.r::Dir.l::Dir.i::Dir.r::Dir.r::Dir.r::Dir.r::Dir.l::Dir.r::Dir.i::Dir.i::[]) (retK Tryd.prog res3 Q)):=by kernel_rfl
theorem X3_22_ok {t0 t3 t4 t5 t6 t7 t8 t9 t10 t11 t13 t14:Value} {h:AH} {Q:Res→AH→Prop} (H:X3_22 t0 t3 t4 t5 t6 t7 t8 t9 t10 t11 t13 t14 h Q):H3_22 t0 t3 t4 t5 t6 t7 t8 t9 t10 t11 t13 t14 h Q:=HL.step (L:=L3) ((X3_22_eq t0 t3 t4 t5 t6 t7 t8 t9 t10 t11 t13 t14 h Q).mp H)
noncomputable def X3_15 (t0 t3 t4 t5 t6 t7 t8 t9 t10:Value) (h:AH) (Q:Res→AH→Prop):Prop :=
 let t39:Value:=t10
 bq (binV Tryd.prog .add 3 (.tmp 39) (.const (Value.int .i64 1)) t39 (Value.int .i64 1) h) fun t40 =>
 let t10:Value:=t40
 H3_14 t0 t3 t4 t5 t6 t7 t8 t9 t10 h Q
theorem X3_15_eq (t0 t3 t4 t5 t6 t7 t8 t9 t10:Value) (h:AH) (Q:Res→AH→Prop):X3_15 t0 t3 t4 t5 t6 t7 t8 t9 t10 h Q=wpC Tryd.prog L3 (cAt code3 (Dir.r::Dir.r::Dir.r::Dir.r::Dir.r::Dir.l::Dir.r::Dir.i::Dir.i::Dir.r::Dir.l::Dir.i::Dir.r::Dir.r::Dir.r::Dir.r::Dir.l::Dir.r::Dir.i::Dir.i::Dir.r::Dir.r::[])) (mkA 155 [(0,t0),(3,t3),(4,t4),(5,t5),(6,t6),(7,t7),(8,t8),(9,t9),(10,t10)]) h (ctxAt Tryd.prog L3 code3 (Dir.r::Dir.r::Dir.r::Dir.r::Dir.r::Dir.l::Dir.r::Dir.i::Dir.i::Dir.r::Dir.l::Dir.i::Dir.r::Dir.r::Dir.r::Dir.r::Dir.l::Dir.r::Dir.i::Dir.i::Dir.r::Dir.r::[]) (retK Tryd.prog res3 Q)):=by kernel_rfl
theorem X3_15_ok {t0 t3 t4 t5 t6 t7 t8 t9 t10:Value} {h:AH} {Q:Res→AH→Prop} (H:X3_15 t0 t3 t4 t5 t6 t7 t8 t9 t10 h Q):K3_15 t0 t3 t4 t5 t6 t7 t8 t9 t10 h Q:=(K3_15_eq t0 t3 t4 t5 t6 t7 t8 t9 t10 h Q).mp (((X3_15_eq t0 t3 t4 t5 t6 t7 t8 t9 t10 h Q).mp H))
noncomputable def X3_14 (t0 t3 t4 t5 t6 t7 t8 t9 t10:Value) (h:AH) (Q:Res→AH→Prop):Prop :=
 let t35:Value:=t10
 let t36:Value:=t7
 bq (lenL t36) fun t37 =>
 bq (binV Tryd.prog .lss 3 (.tmp 35) (.tmp 37) t35 t37 h) fun t38 =>
 condP (some t38)
 (let t41:Value:=t7
 let t42:Value:=t10
 bq (ia 6 t41 t42) fun t43 =>
 bq (fa 1 1 t43) fun t44 =>
 bq (ld1 h t44) fun t45 =>
 bq (unV Tryd.prog .not t45) fun t46 =>
 condP (some t46)
 (K3_15 t0 t3 t4 t5 t6 t7 t8 t9 t10 h Q)
 (let t48:Value:=t3
 let t49:Value:=t7
 let t50:Value:=t10
 bq (ia 6 t49 t50) fun t51 =>
 bq (fa 0 1 t51) fun t52 =>
 bq (ld1 h t52) fun t53 =>
 HC Tryd.prog 10 (([]:List Value)++[t48,t53]++([]:List Value)).toArray h (resK (fun t54 h =>
 let t47:Value:=t54
 bq (opExtract t47 0) fun t55 =>
 bq (opExtract t47 1) fun t56 =>
 (fun t11 h =>
 bq (stN 7 h t11 t55) fun h=>(fun _ h =>
 let t12:Value:=t56
 let t57:Value:=t12
 bq (binV Tryd.prog .neq 28 (.tmp 57) (.const (Value.int .i64 0)) t57 (Value.int .i64 0) h) fun t58 =>
 condP (some t58)
 (let t2:Value:=(Value.bool false)
 Q (.ret t2) h)
 (let t13:Value:=(Value.int .i64 0)
 let t14:Value:=(Value.int .i64 0)
 H3_22 t0 t3 t4 t5 t6 t7 t8 t9 t10 t11 t13 t14 h Q)) undef h) (opNew h 46 #[(Value.bool false),(Value.bool false),(Value.int .i64 0),(Value.int .i64 0),(Value.int .i64 0),(Value.int .i64 0),(Value.slice none 0 0)]).1 (opNew h 46 #[(Value.bool false),(Value.bool false),(Value.int .i64 0),(Value.int .i64 0),(Value.int .i64 0),(Value.int .i64 0),(Value.slice none 0 0)]).2) (fun v h=>Q (.pan v) h))))
 (let t153:Value:=t8
 let t154:Value:=t9
 let t4:Value:=t153
 let t5:Value:=t154
 let t24:Value:=t6
 bq (binV Tryd.prog .add 3 (.tmp 24) (.const (Value.int .i64 1)) t24 (Value.int .i64 1) h) fun t25 =>
 let t6:Value:=t25
 H3_7 t0 t3 t4 t5 t6 h Q)
theorem X3_14_eq (t0 t3 t4 t5 t6 t7 t8 t9 t10:Value) (h:AH) (Q:Res→AH→Prop):X3_14 t0 t3 t4 t5 t6 t7 t8 t9 t10 h Q=wpC Tryd.prog L3 (cAt code3 (Dir.r::Dir.r::Dir.r::Dir.r::Dir.r::Dir.l::Dir.r::Dir.i::Dir.i::Dir.r::Dir.l::Dir.i::Dir.r::Dir.r::Dir.r::Dir.r::Dir.l::Dir.r::Dir.i::Dir.i::[])) (mkA 155 [(0,t0),(3,t3),(4,t4),(5,t5),(6,t6),(7,t7),(8,t8),(9,t9),(10,t10)]) h (ctxAt Tryd.prog L3 code3 (Dir.r::Dir.r::Dir.r::Dir.r::Dir.r::Dir.l::Dir.r::Dir.i::Dir.i::Dir.r::Dir.l::Dir.i::Dir.r::Dir.r::Dir.r::Dir.r::Dir.l::Dir.r::Dir.i::Dir.i::[]) (retK Tryd.prog res3 Q)):=by kernel_rfl
theorem X3_14_ok {t0 t3 t4 t5 t6 t7 t8 t9 t10:Value} {h:AH} {Q:Res→AH→Prop} (H:X3_14 t0 t3 t4 t5 t6 t7 t8 t9 t10 h Q):H3_14 t0 t3 t4 t5 t6 t7 t8 t9 t10 h Q:=HL.step (L:=L3) ((X3_14_eq t0 t3 t4 t5 t6 t7 t8 t9 t10 h Q).mp H)
noncomputable def X3_7 (t0 t3 t4 t5 t6:Value) (h:AH) (Q:Res→AH→Prop):Prop :=
 let t20:Value:=t6
 let t21:Value:=t0
 bq (lenL t21) fun t22 =>
 bq (binV Tryd.prog .lss 3 (.tmp 20) (.tmp 22) t20 t22 h) fun t23 =>
 condP (some t23)
 (let t26:Value:=t3
 let t27:Value:=t0
 let t28:Value:=t6
 bq (ia 10 t27 t28) fun t29 =>
 bq (ldN 10 h t29) fun t30 =>
 HC Tryd.prog 8 (([]:List Value)++[t30]++([]:List Value)).toArray h (resK (fun t31 h =>
 HC Tryd.prog 7 (([]:List Value)++[t26,t31]++([]:List Value)).toArray h (resK (fun t32 h =>
 let t33:Value:=t3
 HC Tryd.prog 9 (([]:List Value)++[t33]++([]:List Value)).toArray h (resK (fun t34 h =>
 let t7:Value:=t34
 let t8:Value:=(Value.slice none 0 0)
 let t9:Value:=(Value.slice none 0 0)
 let t10:Value:=(Value.int .i64 0)
 H3_14 t0 t3 t4 t5 t6 t7 t8 t9 t10 h Q) (fun v h=>Q (.pan v) h))) (fun v h=>Q (.pan v) h))) (fun v h=>Q (.pan v) h)))
 (let t2:Value:=(Value.bool true)
 Q (.ret t2) h)
theorem X3_7_eq (t0 t3 t4 t5 t6:Value) (h:AH) (Q:Res→AH→Prop):X3_7 t0 t3 t4 t5 t6 h Q=wpC Tryd.prog L3 (cAt code3 [.r,.r,.r,.r,.r,.l,.r,.i,.i]) (mkA 155 [(0,t0),(3,t3),(4,t4),(5,t5),(6,t6)]) h (ctxAt Tryd.prog L3 code3 [.r,.r,.r,.r,.r,.l,.r,.i,.i] (retK Tryd.prog res3 Q)):=by kernel_rfl
theorem X3_7_ok {t0 t3 t4 t5 t6:Value} {h:AH} {Q:Res→AH→Prop} (H:X3_7 t0 t3 t4 t5 t6 h Q):H3_7 t0 t3 t4 t5 t6 h Q:=HL.step (L:=L3) ((X3_7_eq t0 t3 t4 t5 t6 h Q).mp H)
noncomputable def X3 (t0:Value) (h:AH) (Q:Res→AH→Prop):Prop :=
 let t2:Value:=(Value.bool false)
 HC Tryd.prog 5 (([]:List Value)++[]++([]:List Value)).toArray h (resK (fun t16 h =>
 bq (unV Tryd.prog .not t16) fun t17 =>
 condP (some t17)
 (let t2:Value:=(Value.bool false)
 Q (.ret t2) h)
 (HC Tryd.prog 6 (([]:List Value)++[]++([]:List Value)).toArray h (resK (fun t18 h =>
 let t3:Value:=t18
 bq (opMakeSlice Tryd.prog h 26 (Value.int .i64 0) (Value.int .i64 0)) fun r=>(fun t19 h =>
 let t4:Value:=t19
 let t5:Value:=(Value.slice none 0 0)
 let t6:Value:=(Value.int .i64 0)
 H3_7 t0 t3 t4 t5 t6 h Q) r.1 r.2) (fun v h=>Q (.pan v) h)))) (fun v h=>Q (.pan v) h))
theorem X3_eq (t0:Value) (h:AH) (Q:Res→AH→Prop):X3 t0 h Q=wpC Tryd.prog L3 code3 (argA [t0] Tryd.f3.ntmps) h (retK Tryd.prog res3 Q):=by kernel_rfl
theorem X3_body:Tryd.f3.body=some code3:=by kernel_rfl
theorem X3_ok {t0:Value} {h:AH} {Q:Res→AH→Prop} (H:X3 t0 h Q):HC Tryd.prog 3 [t0].toArray h Q:=HC.body Tryd.func3 X3_body ((X3_eq t0 h Q).mp H)
end Go.Proofs.YtgdnfoijhdpppaaDoor.X
end
section
namespace Go.Proofs.YtgdnfoijhdpppaaDoor.L
open Go.Ab Go.Tr Go.Mh Go.Proofs.YtgdnfoijhdpppaaDoor.X
set_option maxRecDepth 100000
theorem findF_ofD {σ:St} {K:List Pt} (o:OkD σ K):∀ {l p:Pt} {r:Row},σ (p++l)=some r→findF σ p l=.ok r:=by
 intro l
 induction l with
 | nil =>
  intro p r h
  unfold findF
  rw [List.append_nil] at h
  rw [h]
 | cons nm l ih =>
  intro p r h
  obtain ⟨b,m,clk,q,c,ks,hd⟩:=o.ups (nm::l) p (by simp) (by rw [h];rfl)
  unfold findF
  rw [hd]
  have h2:σ ((p++[nm])++l)=some r:=by simpa using h
  have h3:(σ (p++[nm])).isSome=true:=by
   by_cases hl:l=[]
   ·subst hl;rw [List.append_nil] at h2;rw [h2];rfl
   ·obtain ⟨_,_,_,_,_,_,hd2⟩:=o.ups l (p++[nm]) hl (by rw [h2];rfl)
    rw [hd2];rfl
  obtain ⟨r2,hr2⟩:=Option.isSome_iff_exists.1 h3
  simp only [hr2]
  exact ih h2
theorem findP_ofD {σ:St} {K:List Pt} (o:OkD σ K) {p:ByteArray} {r:Row} (ho:Mh.okP p.data.toList=true) (h:σ (partsL p.data.toList)=some r):findP σ p=.ok r:=by
 unfold findP
 rw [if_pos ho]
 exact findF_ofD o (by simpa using h)
structure Inf where
 d:Bool
 o:Bool
 hd:Int
 q:Int
 c:Int
 s:Int
 ps:List Pc
def Inf.val (x:Inf):Value:=.agg #[.bool x.d,.bool x.o,.int .i64 x.hd,.int .i64 x.q,.int .i64 x.c,.int .i64 x.s,slV (x.ps.map encPc)]
end Go.Proofs.YtgdnfoijhdpppaaDoor.L
end
