import Derived.Test.YtgdnfoijhdpppaaDoorZ28
set_option linter.unusedVariables false
set_option linter.unusedSimpArgs false
section
namespace Go.Proofs.YtgdnfoijhdpppaaDoor.L
open Go.Ab Go.Tr Go.Mh Go.Proofs.YtgdnfoijhdpppaaDoor.X
set_option maxRecDepth 100000
theorem slV_way {σ:St} {l:Pt} {nm:Nm}:slV (wayB σ (l++[nm]))=VSl (wayB σ (l++[nm])):=by
 rw [wayB_snoc]
 cases wayB σ l <;> rfl
theorem OkD.updQ {σ:St} {K:List Pt} (o:OkD σ K) {p:Pt} {b m clk:Nat} {q q' c:Int} {ks:List (Nm × Nat)} (hp:σ p=some (.dir b m clk q c ks)):OkD (upd σ p (.dir b m clk q' c ks)) K:=by
 have hs:∀ x,(upd σ p (.dir b m clk q' c ks) x).isSome=(σ x).isSome:=by
  intro x
  unfold upd
  split
  ·rename_i e;subst e;rw [hp];rfl
  ·rfl
 have hd:∀ x b2 m2 clk2 q2 c2 ks2,upd σ p (.dir b m clk q' c ks) x=some (.dir b2 m2 clk2 q2 c2 ks2)→∃ q3,σ x=some (.dir b2 m2 clk2 q3 c2 ks2):=by
  intro x b2 m2 clk2 q2 c2 ks2 h
  unfold upd at h
  split at h
  ·rename_i e;subst e;cases h;exact ⟨_,hp⟩
  ·exact ⟨_,h⟩
 refine ⟨fun x=>by rw [hs];exact o.mem x,o.nodup,fun x nm h=>?_,fun x b2 m2 clk2 q2 c2 ks2 h nm=>?_,fun x b2 m2 clk2 q2 c2 ks2 h=>?_,fun x b2 m2 clk2 q2 c2 ks2 h=>?_,fun x b2 m2 clk2 q2 c2 ks2 h=>?_⟩
 ·rw [hs] at h
  obtain ⟨b2,m2,clk2,q2,c2,ks2,h1⟩:=o.up x nm h
  unfold upd
  split
  ·exact ⟨_,_,_,_,_,_,rfl⟩
  ·exact ⟨_,_,_,_,_,_,h1⟩
 ·rw [hs]
  obtain ⟨q3,h1⟩:=hd _ _ _ _ _ _ _ h
  exact o.kids _ _ _ _ _ _ _ h1 nm
 ·obtain ⟨q3,h1⟩:=hd _ _ _ _ _ _ _ h
  exact o.knod _ _ _ _ _ _ _ h1
 ·obtain ⟨q3,h1⟩:=hd _ _ _ _ _ _ _ h
  exact o.born _ _ _ _ _ _ _ h1
 ·obtain ⟨q3,h1⟩:=hd _ _ _ _ _ _ _ h
  exact o.count _ _ _ _ _ _ _ h1
theorem TreeH.setQ {h:AH} {lo bt:Nat} {σ:St} {K:List Pt} (t:TreeH h lo bt σ K) {p:Pt} {b m clk:Nat} {q q' c:Int} {ks:List (Nm × Nat)} (hp:σ p=some (.dir b m clk q c ks)) :
  TreeH (h.put b (some (.cells #[.int .i64 q',.int .i64 c,.map (some m)] 67 (0,0),none))) lo bt (upd σ p (.dir b m clk q' c ks)) K∧Fr σ h (h.put b (some (.cells #[.int .i64 q',.int .i64 c,.map (some m)] 67 (0,0),none)))∧MvT σ (upd σ p (.dir b m clk q' c ks)) h.size:=by
 have hbo:b ∈ own (.dir b m clk q c ks):=by simp [own]
 have hmv:MvT σ (upd σ p (.dir b m clk q' c ks)) h.size:=fun x r k hx hk=>by
  unfold upd at hx
  split at hx
  ·rename_i e;subst e;cases hx;exact .inl ⟨_,_,hp,hk⟩
  ·exact .inl ⟨x,r,hx,hk⟩
 have hbk:blkAt (upd σ p (.dir b m clk q' c ks)) []=blkAt σ []:=by
  unfold blkAt upd
  by_cases e:([]:Pt)=p
  ·subst e
   rw [if_pos rfl,hp];rfl
  ·rw [if_neg e]
 obtain ⟨b0,m0,clk0,q0,c0,ks0,hr⟩:=t.root
 refine ⟨⟨t.tw.setDir hp,OkD.updQ t.ok hp,?_,t.valid,t.few,?_,⟨t.tb.1,by simpa using t.tb.2⟩,fun x r hx hk=>?_⟩,⟨by simp,fun k hk hn=>get_put_ne fun e=>hn p _ hp (by rw [e];exact hbo)⟩,hmv⟩
 ·unfold upd
  split
  ·exact ⟨_,_,_,_,_,_,rfl⟩
  ·exact ⟨_,_,_,_,_,_,hr⟩
 ·rw [hbk,get_put_ne fun e=>t.nt p _ hp (by rw [e];exact hbo)]
  exact t.tp
 ·rcases hmv x r bt hx hk with ⟨y,s,h1,h2⟩ | h1
  ·exact t.nt y s h1 h2
  ·have:=t.tb.2;omega
theorem limit_ok {h:AH} {lo bt:Nat} {σ:St} {K:List Pt} (t:TreeH h lo bt σ K) (G:Gl h) {x:OpD} (hp:x.path.size ≤ 1048576) {Q:Res→AH→Prop}
  (hq:∀ (e:Int) h' σ',TreeH h' lo bt σ' K→Fr σ h h'→MvT σ σ' h.size→Quo (fun _=>False) σ σ'→Q (.ret (.int .i64 e)) h'):HC Tryd.prog 17 [ptr bt,opV x].toArray h Q:=by
 refine X17_ok ?_
 unfold X17 opV
 have K1:Kp h.size h (h.push (.cells (opC x) 36 (0,0)) none):=(Kp.refl _ _).push _ _ (Nat.le_refl _)
 have t1:=t.kp K1
 have G1:=G.kp K1 (by have:=t.tb;omega)
 have z1:(h.push (.cells (opC x) 36 (0,0)) none).size=h.size + 1:=by simp
 have g0:(h.push (.cells (opC x) 36 (0,0)) none).get h.size=some (.cells (opC x) 36 (0,0),none):=get_push_eq rfl
 unfold opC at K1 t1 G1 z1 g0
 rw [new1,new2,cells_agg]
 generalize h.push (.cells _ 36 (0,0)) none=h1 at K1 t1 G1 z1 g0 ⊢
 have no:∀ e:Int,Q (.ret (.int .i64 e)) h1:=fun e=>hq e h1 σ t1 (Fr.kp K1) (MvT.refl _ _) (Quo.refl _ _)
 simp (disch:=(first | omega | (simp only [beq_iff_eq,sz_push,sz_put,SC,Nat.reduceAdd,Nat.reduceLeDiff];done) | (simp only [beq_iff_eq,ne_eq,sz_push,sz_put];omega) | assumption | fail)) only [g0,SXB,SX,reduceIte,Int.reduceLT,Int.reduceLE,Int.reduceToNat,Int.reduceBEq,Int.reduceBNe,Nat.reduceAdd,Nat.reduceMul,Nat.reduceSub,Nat.reduceLeDiff]
 refine find_pure t1 G1 hp (fun r hr=>?_) (fun l e he h0=>?_)
 ·cases r with
  | file b sl o hd ps =>
   unfold ifcR
   simp (disch:=(first | omega | (simp only [beq_iff_eq,sz_push,sz_put,SC,Nat.reduceAdd,Nat.reduceLeDiff];done) | (simp only [beq_iff_eq,ne_eq,sz_push,sz_put];omega) | assumption | fail)) only [ta_dirN,SXB,SX,reduceIte,Int.reduceLT,Int.reduceLE,Int.reduceToNat,Int.reduceBEq,Int.reduceBNe,Nat.reduceAdd,Nat.reduceMul,Nat.reduceSub,Nat.reduceLeDiff]
   exact no 72
  | dir b m clk q c ks =>
   unfold ifcR
   have hfs:=(findP_some hr).2.2
   obtain ⟨f1,f2,f3⟩:=t1.tw.dir hfs
   by_cases hneg:x.quota < 0
   ·simp (disch:=(first | omega | (simp only [beq_iff_eq,sz_push,sz_put,SC,Nat.reduceAdd,Nat.reduceLeDiff];done) | (simp only [beq_iff_eq,ne_eq,sz_push,sz_put];omega) | assumption | fail)) only [ta_dir,g0,hneg,SXB,SX,reduceIte,Int.reduceLT,Int.reduceLE,Int.reduceToNat,Int.reduceBEq,Int.reduceBNe,Nat.reduceAdd,Nat.reduceMul,Nat.reduceSub,Nat.reduceLeDiff]
    exact no 2
   ·simp (disch:=(first | omega | (simp only [beq_iff_eq,sz_push,sz_put,SC,Nat.reduceAdd,Nat.reduceLeDiff];done) | (simp only [beq_iff_eq,ne_eq,sz_push,sz_put];omega) | assumption | fail)) only [ta_dir,g0,hneg,f1,SXB,SX,reduceIte,Int.reduceLT,Int.reduceLE,Int.reduceToNat,Int.reduceBEq,Int.reduceBNe,Nat.reduceAdd,Nat.reduceMul,Nat.reduceSub,Nat.reduceLeDiff]
    obtain ⟨r1,r2,r3⟩:=t1.setQ (q':=x.quota) hfs
    refine hq 0 _ _ r1 ⟨by have:=r2.1;omega,fun k hk hn=>(r2.2 k (by omega) hn).trans (K1.get k hk)⟩ (fun p r k hp2 hk=>?_) (Quo.same fun p q2 c2 hd=>?_)
    ·rcases r3 p r k hp2 hk with h8 | h8
     ·exact .inl h8
     ·exact .inr (by omega)
    ·obtain ⟨b2,m2,clk2,ks2,h1⟩:=dirAt_iff.1 hd
     unfold upd at h1
     split at h1
     ·rename_i e;subst e;cases h1
      exact ⟨q,dirAt_iff.2 ⟨_,_,_,_,hfs⟩⟩
     ·exact ⟨q2,dirAt_iff.2 ⟨_,_,_,_,h1⟩⟩
 ·have he0:(e != 0)=true:=by simpa using h0
  simp (disch:=(first | omega | (simp only [beq_iff_eq,sz_push,sz_put,SC,Nat.reduceAdd,Nat.reduceLeDiff];done) | (simp only [beq_iff_eq,ne_eq,sz_push,sz_put];omega) | assumption | fail)) only [he0,SXB,SX,reduceIte,Int.reduceLT,Int.reduceLE,Int.reduceToNat,Int.reduceBEq,Int.reduceBNe,Nat.reduceAdd,Nat.reduceMul,Nat.reduceSub,Nat.reduceLeDiff]
  exact no e
theorem drop_ok {h:AH} {lo bt:Nat} {σ:St} {K:List Pt} (t:TreeH h lo bt σ K) (G:Gl h) {x:OpD} (hp:x.path.size ≤ 1048576) {Q:Res→AH→Prop}
  (hq:∀ (e:Int) h' σ' K',TreeH h' lo bt σ' K'→Fr σ h h'→MvT σ σ' h.size→K'.length ≤ K.length→Quo (fun _=>False) σ σ'→Q (.ret (.int .i64 e)) h'):HC Tryd.prog 15 [ptr bt,opV x].toArray h Q:=by
 refine X15_ok ?_
 unfold X15 opV
 have K1:Kp h.size h (h.push (.cells (opC x) 36 (0,0)) none):=(Kp.refl _ _).push _ _ (Nat.le_refl _)
 have t1:=t.kp K1
 have G1:=G.kp K1 (by have:=t.tb;omega)
 have z1:(h.push (.cells (opC x) 36 (0,0)) none).size=h.size + 1:=by simp
 have g0:(h.push (.cells (opC x) 36 (0,0)) none).get h.size=some (.cells (opC x) 36 (0,0),none):=get_push_eq rfl
 unfold opC at K1 t1 G1 z1 g0
 rw [new1,new2,cells_agg]
 generalize h.push (.cells _ 36 (0,0)) none=h1 at K1 t1 G1 z1 g0 ⊢
 have no:∀ e:Int,Q (.ret (.int .i64 e)) h1:=fun e=>hq e h1 σ K t1 (Fr.kp K1) (MvT.refl _ _) (Nat.le_refl _) (Quo.refl _ _)
 simp (disch:=(first | omega | (simp only [beq_iff_eq,sz_push,sz_put,SC,Nat.reduceAdd,Nat.reduceLeDiff];done) | (simp only [beq_iff_eq,ne_eq,sz_push,sz_put];omega) | assumption | fail)) only [g0,SXB,SX,reduceIte,Int.reduceLT,Int.reduceLE,Int.reduceToNat,Int.reduceBEq,Int.reduceBNe,Nat.reduceAdd,Nat.reduceMul,Nat.reduceSub,Nat.reduceLeDiff]
 refine HC.exact (base_ok G1 hp) ?_
 cases ho:okL x.path.data.toList with
 | false =>
  simp (disch:=(first | omega | (simp only [beq_iff_eq,sz_push,sz_put,SC,Nat.reduceAdd,Nat.reduceLeDiff];done) | (simp only [beq_iff_eq,ne_eq,sz_push,sz_put];omega) | assumption | fail)) only [SXB,SX,reduceIte,Int.reduceLT,Int.reduceLE,Int.reduceToNat,Int.reduceBEq,Int.reduceBNe,Nat.reduceAdd,Nat.reduceMul,Nat.reduceSub,Nat.reduceLeDiff]
  exact no 60
 | true =>
  simp (disch:=(first | omega | (simp only [beq_iff_eq,sz_push,sz_put,SC,Nat.reduceAdd,Nat.reduceLeDiff];done) | (simp only [beq_iff_eq,ne_eq,sz_push,sz_put];omega) | assumption | fail)) only [g0,SXB,SX,reduceIte,Int.reduceLT,Int.reduceLE,Int.reduceToNat,Int.reduceBEq,Int.reduceBNe,Nat.reduceAdd,Nat.reduceMul,Nat.reduceSub,Nat.reduceLeDiff]
  obtain ⟨init,last,e1,e2,e3,e4,e5,e6⟩:=last_split ho
  rw [e5]
  have h16:init.length ≤ 16:=by
   have:=parts16 x.path
   rw [e1] at this
   simp at this;omega
  refine find_pure t1 G1 hp (fun r hr=>?_) (fun l e he h0=>?_)
  ·have hfs:=(findP_some hr).2.2
   rw [e1] at hfs
   rw [e1,slV_way]
   simp (disch:=(first | omega | (simp only [beq_iff_eq,sz_push,sz_put,SC,Nat.reduceAdd,Nat.reduceLeDiff];done) | (simp only [beq_iff_eq,ne_eq,sz_push,sz_put];omega) | assumption | fail)) only [SXB,SX,reduceIte,Int.reduceLT,Int.reduceLE,Int.reduceToNat,Int.reduceBEq,Int.reduceBNe,Nat.reduceAdd,Nat.reduceMul,Nat.reduceSub,Nat.reduceLeDiff]
   refine take_ok t1.tw t1.ok hfs (few_of t1) (by omega) fun h' hs hfr tw _ _=>?_
   simp (disch:=(first | omega | (simp only [beq_iff_eq,sz_push,sz_put,SC,Nat.reduceAdd,Nat.reduceLeDiff];done) | (simp only [beq_iff_eq,ne_eq,sz_push,sz_put];omega) | assumption | fail)) only [SXB,SX,reduceIte,Int.reduceLT,Int.reduceLE,Int.reduceToNat,Int.reduceBEq,Int.reduceBNe,Nat.reduceAdd,Nat.reduceMul,Nat.reduceSub,Nat.reduceLeDiff]
   refine X15_7_ok ?_
   unfold X15_7
   have T:=t1.take hfs tw hs hfr
   have hfl:=List.length_filter_le (fun p=>!within (init++[last]) p) K
   refine hq 0 h' _ _ T ⟨by omega,fun k hk hn=>(hfr k hn).trans (K1.get k hk)⟩ (fun p s k hx hk=>?_) hfl (Quo.take ?_)
   ·cases hwx:within (init++[last]) p with
    | true=>rw [prune_in hwx] at hx;cases hx
    | false =>
     rw [prune_out hwx] at hx
     obtain ⟨r',h1,h2,_⟩:=delCK_own hx
     exact .inl ⟨p,r',h1,h2 ▸ hk⟩
   ·have:=weight_bnd (δ:=Tr.sub (init++[last]) σ) (r0:=r) (by unfold Tr.sub;rw [List.append_nil];exact hfs) (fun p b m clk q c ks hp=>few_of t1 _ _ _ _ _ _ _ hp)
    omega
  ·have he0:(e == 0)=false:=by simpa using h0
   simp (disch:=(first | omega | (simp only [beq_iff_eq,sz_push,sz_put,SC,Nat.reduceAdd,Nat.reduceLeDiff];done) | (simp only [beq_iff_eq,ne_eq,sz_push,sz_put];omega) | assumption | fail)) only [he0,SXB,SX,reduceIte,Int.reduceLT,Int.reduceLE,Int.reduceToNat,Int.reduceBEq,Int.reduceBNe,Nat.reduceAdd,Nat.reduceMul,Nat.reduceSub,Nat.reduceLeDiff]
   refine X15_7_ok ?_
   unfold X15_7
   exact no e
end Go.Proofs.YtgdnfoijhdpppaaDoor.L
end
section
namespace Go.Proofs.YtgdnfoijhdpppaaDoor.L
open Go.Ab Go.Tr Go.Mh Go.Proofs.YtgdnfoijhdpppaaDoor.X
set_option maxRecDepth 100000
def withinL (a b:List UInt8):Bool:=Mh.okP a && Mh.okP b && ((a == b) || (b == [47]) || Lib.hasPrefix a (b++[47]))
theorem withinL_of {a b:List UInt8} (ha:Mh.okP a=true) (hb:Mh.okP b=true) (h:within (partsL b) (partsL a)=true):withinL a b=true:=by
 obtain ⟨r,hr⟩:=Tr.within_iff.1 h
 unfold withinL
 rw [ha,hb]
 by_cases h1:r=[]
 ·subst h1
  rw [List.append_nil] at hr
  have:=parts_inj ha hb hr
  subst this
  simp
 ·by_cases h2:partsL b=[]
  ·have:=(parts_nil hb).1 h2
   simp [this]
  ·have e1:=(join_ok ha).2
   have e2:=(join_ok hb).2
   rw [hr] at e1
   unfold joinL at e1 e2
   rw [if_neg (by simp [h2]),flat_append] at e1
   rw [if_neg h2] at e2
   cases r with
   | nil=>exact absurd rfl h1
   | cons x r =>
    rw [flat_cons] at e1
    have:Lib.hasPrefix a (b++[47])=true:=by
     show (b++[47]).isPrefixOf a=true
     rw [List.isPrefixOf_iff_prefix,← e1,e2]
     exact ⟨x++Mh.flat r,by simp⟩
    simp [this]
theorem withinL_len {a b:List UInt8} (h:withinL a b=true) (hb:b ≠ [47]):b.length ≤ a.length:=by
 unfold withinL at h
 simp only [Bool.and_eq_true,Bool.or_eq_true,beq_iff_eq] at h
 rcases h.2 with (h1 | h1) | h1
 ·rw [h1];exact Nat.le_refl _
 ·exact absurd h1 hb
 ·have h2:(b++[47]).isPrefixOf a=true:=h1
  rw [List.isPrefixOf_iff_prefix] at h2
  have:=h2.length_le
  simp at this;omega
theorem within_ok {h:AH} (G:Gl h) {a b:ByteArray} (ha:a.size ≤ 1048576) (hb:b.size ≤ 1048576):Ex Tryd.prog 28 [.string a,.string b].toArray h (.bool (withinL a.data.toList b.data.toList)) h:=by
 refine X28_ok ?_
 unfold X28 withinL
 simp (disch:=(first | omega | (simp only [beq_iff_eq,sz_push,sz_put,SC,Nat.reduceAdd,Nat.reduceLeDiff];done) | (simp only [beq_iff_eq,ne_eq,sz_push,sz_put];omega) | assumption | fail)) only [SXB,SX,reduceIte,Int.reduceLT,Int.reduceLE,Int.reduceToNat,Int.reduceBEq,Int.reduceBNe,Nat.reduceAdd,Nat.reduceMul,Nat.reduceSub,Nat.reduceLeDiff]
 refine HC.exact (check_ok G ha) ?_
 cases h1:Mh.okP a.data.toList with
 | false =>
  simp (disch:=(first | omega | (simp only [beq_iff_eq,sz_push,sz_put,SC,Nat.reduceAdd,Nat.reduceLeDiff];done) | (simp only [beq_iff_eq,ne_eq,sz_push,sz_put];omega) | assumption | fail)) only [code_eq,SXB,SX,reduceIte,Int.reduceLT,Int.reduceLE,Int.reduceToNat,Int.reduceBEq,Int.reduceBNe,Nat.reduceAdd,Nat.reduceMul,Nat.reduceSub,Nat.reduceLeDiff]
  first | done | rfl | exact ⟨rfl,rfl⟩ | trivial
 | true =>
  simp (disch:=(first | omega | (simp only [beq_iff_eq,sz_push,sz_put,SC,Nat.reduceAdd,Nat.reduceLeDiff];done) | (simp only [beq_iff_eq,ne_eq,sz_push,sz_put];omega) | assumption | fail)) only [code_eq,SXB,SX,reduceIte,Int.reduceLT,Int.reduceLE,Int.reduceToNat,Int.reduceBEq,Int.reduceBNe,Nat.reduceAdd,Nat.reduceMul,Nat.reduceSub,Nat.reduceLeDiff]
  refine HC.exact (check_ok G hb) ?_
  cases h2:Mh.okP b.data.toList with
  | false =>
   simp (disch:=(first | omega | (simp only [beq_iff_eq,sz_push,sz_put,SC,Nat.reduceAdd,Nat.reduceLeDiff];done) | (simp only [beq_iff_eq,ne_eq,sz_push,sz_put];omega) | assumption | fail)) only [code_eq,SXB,SX,reduceIte,Int.reduceLT,Int.reduceLE,Int.reduceToNat,Int.reduceBEq,Int.reduceBNe,Nat.reduceAdd,Nat.reduceMul,Nat.reduceSub,Nat.reduceLeDiff]
   first | done | rfl | exact ⟨rfl,rfl⟩ | trivial
  | true =>
   have q1:(a.toList == b.toList)=(a.data.toList == b.data.toList):=beqT a b
   have q2:(b.toList == (ByteArray.mk #[47]).toList)=(b.data.toList == [47]):=by rw [slashB,Lib.toList_data]
   have hz:(ByteArray.mk #[47]).size=1:=rfl
   have q3:(b++ByteArray.mk #[47]).data.toList=b.data.toList++[47]:=by simp
   generalize (a.data.toList == b.data.toList)=b1 at q1 ⊢
   generalize (b.data.toList == [47])=b2 at q2 ⊢
   cases b1 with
   | true =>
    simp (disch:=(first | omega | (simp only [beq_iff_eq,sz_push,sz_put,SC,Nat.reduceAdd,Nat.reduceLeDiff];done) | (simp only [beq_iff_eq,ne_eq,sz_push,sz_put];omega) | assumption | fail)) only [code_eq,q1,SXB,SX,reduceIte,Int.reduceLT,Int.reduceLE,Int.reduceToNat,Int.reduceBEq,Int.reduceBNe,Nat.reduceAdd,Nat.reduceMul,Nat.reduceSub,Nat.reduceLeDiff]
    first | done | rfl | exact ⟨rfl,rfl⟩ | trivial
   | false=>cases b2 with
    | true =>
     simp (disch:=(first | omega | (simp only [beq_iff_eq,sz_push,sz_put,SC,Nat.reduceAdd,Nat.reduceLeDiff];done) | (simp only [beq_iff_eq,ne_eq,sz_push,sz_put];omega) | assumption | fail)) only [code_eq,q1,q2,SXB,SX,reduceIte,Int.reduceLT,Int.reduceLE,Int.reduceToNat,Int.reduceBEq,Int.reduceBNe,Nat.reduceAdd,Nat.reduceMul,Nat.reduceSub,Nat.reduceLeDiff]
     first | done | rfl | exact ⟨rfl,rfl⟩ | trivial
    | false =>
     simp (disch:=(first | omega | (simp only [beq_iff_eq,sz_push,sz_put,SC,Nat.reduceAdd,Nat.reduceLeDiff];done) | (simp only [beq_iff_eq,ne_eq,sz_push,sz_put];omega) | assumption | fail)) only [code_eq,q1,q2,SXB,SX,reduceIte,Int.reduceLT,Int.reduceLE,Int.reduceToNat,Int.reduceBEq,Int.reduceBNe,Nat.reduceAdd,Nat.reduceMul,Nat.reduceSub,Nat.reduceLeDiff]
     refine HC.exact (hasPre_ok a (b++ByteArray.mk #[47])) ?_
     rw [q3]
     simp (disch:=(first | omega | (simp only [beq_iff_eq,sz_push,sz_put,SC,Nat.reduceAdd,Nat.reduceLeDiff];done) | (simp only [beq_iff_eq,ne_eq,sz_push,sz_put];omega) | assumption | fail)) only [SXB,SX,reduceIte,Int.reduceLT,Int.reduceLE,Int.reduceToNat,Int.reduceBEq,Int.reduceBNe,Nat.reduceAdd,Nat.reduceMul,Nat.reduceSub,Nat.reduceLeDiff]
     first | done | rfl | exact ⟨rfl,rfl⟩ | trivial
theorem slFrom {h:AH} {l:List Value} {i:Nat} (hi:i ≤ l.length) (hl:∀ v ∈ l,v.cells.size=1):sliceV Tryd.prog h 60 (VSl l) (some (.int .i64 (i:Int))) none=some (VSl (l.drop i)):=by
 have hu:(Tryd.prog).underlying 60=some (.slice 51):=by kernel_rfl
 obtain ⟨d,hd,hds⟩:∃ d,(Tryd.prog).info? 51=some d∧d.size=1:=⟨_,rfl,by kernel_rfl⟩
 show opSlice Tryd.prog h 60 (VSl l) (some (.int .i64 (i:Int))) none=_
 unfold opSlice
 rw [hu]
 have hb:bounds? l.toArray.size l.toArray.size (some (.int .i64 (i:Int))) none=some (i,l.length):=by
  unfold bounds? bound?
  have e1:(0:Int) ≤ (i:Int)∧(i:Int) ≤ (l.toArray.size:Nat):=by simp;omega
  simp only [e1,and_self,if_true]
  simp
 simp only [VSl,hd,hb]
 have e1:(l.toArray[0]?).all (fun x=>decide (x.cells.size=d.size))=true:=by
  cases l with
  | nil=>rfl
  | cons a l=>simp [hl a (by simp),hds]
 rw [if_pos e1]
 have e2:(l.drop i).take (l.length - i)=l.drop i:=List.take_of_length_le (by simp)
 simp [e2]
theorem blk_inj {h:AH} {lo:Nat} {σ:St} (t:TW h lo σ) {p q:Pt} (hp:(σ p).isSome=true) (hq:(σ q).isSome=true) (he:blkAt σ p=blkAt σ q):p=q:=by
 obtain ⟨r,hr⟩:=Option.isSome_iff_exists.1 hp
 obtain ⟨s,hs⟩:=Option.isSome_iff_exists.1 hq
 unfold blkAt at he
 rw [hr,hs] at he
 simp only at he
 refine t.apart p q r s r.blk hr hs ?_ ?_
 ·cases r <;> simp [own,Row.blk]
 ·rw [he];cases s <;> simp [own,Row.blk]
theorem flat_inj {ps qs:Pt} (hp:∀ x ∈ ps,∀ b ∈ x,b ≠ 47) (hq:∀ x ∈ qs,∀ b ∈ x,b ≠ 47) (he:Mh.flat ps=Mh.flat qs):ps=qs:=by
 cases ps with
 | nil =>
  cases qs with
  | nil=>rfl
  | cons y qs=>rw [flat_cons] at he;cases he
 | cons x ps =>
  cases qs with
  | nil=>rw [flat_cons] at he;cases he
  | cons y qs =>
   rw [flat_cons,flat_cons] at he
   have h1:x++Mh.flat ps=y++Mh.flat qs:=by injection he
   have h2:=segs_flat ps x (hp x (by simp)) (fun z hz=>hp z (by simp [hz]))
   have h3:=segs_flat qs y (hq y (by simp)) (fun z hz=>hq z (by simp [hz]))
   rw [h1,h3] at h2
   exact h2.symm
theorem plain_of {p:Pt} (h:validL p=true):∀ x ∈ p,∀ b ∈ x,b ≠ 47:=by
 intro x hx
 unfold validL at h
 simp only [Bool.and_eq_true] at h
 exact part_plain (List.all_eq_true.1 h.1.1 x hx)
theorem moved_ok {to_ from_ r:Pt} (ht:validL to_=true) (ht0:to_ ≠ []) (hp:validL (from_++r)=true) (h:Mh.okP (Mh.flat to_++Mh.flat r)=true):validL (to_++r)=true:=by
 rw [← flat_append] at h
 have hpl:∀ x ∈ to_++r,∀ b ∈ x,b ≠ 47:=fun x hx=>by
  rcases List.mem_append.1 hx with h1 | h1
  ·exact plain_of ht x h1
  ·exact plain_of hp x (by simp [h1])
 have h1:=join_ok h
 have hne:partsL (Mh.flat (to_++r)) ≠ []:=by
  intro e
  have h2:=(parts_nil h).1 e
  cases to_ with
  | nil=>exact ht0 rfl
  | cons x l =>
   rw [List.cons_append,flat_cons] at h2
   simp only [List.cons.injEq,List.append_eq_nil_iff] at h2
   have:partL x=true:=by
    unfold validL at ht
    simp only [Bool.and_eq_true] at ht
    exact List.all_eq_true.1 ht.1.1 x (by simp)
   exact part_ne this h2.2.1
 have h3:=h1.2
 unfold joinL at h3
 rw [if_neg hne] at h3
 have:=flat_inj (plain_of h1.1) hpl h3
 rw [← this]
 exact h1.1
end Go.Proofs.YtgdnfoijhdpppaaDoor.L
end
section
namespace Go.Proofs.YtgdnfoijhdpppaaDoor.L
open Go.Ab Go.Tr Go.Mh Go.Proofs.YtgdnfoijhdpppaaDoor.X
set_option maxRecDepth 100000
theorem entryV_form (σ:St) (p:Pt):∃ b1 b2 c1 c2 l,entryV σ p=.agg #[.string (mkB (joinL p)),.bool b1,.bool b2,.int .i64 c1,.int .i64 c2,slV l]:=by
 unfold entryV
 split
 ·rename_i r _
  cases r with
  | file b sl o hd ps=>exact ⟨_,_,_,_,_,rfl⟩
  | dir b m clk q c ks=>exact ⟨true,false,0,q,[],rfl⟩
 ·exact ⟨false,false,0,0,[],rfl⟩
theorem eq_dirs {h:AH} {b1 b2:Nat} {c1 c2:Array Value} {t1 t2:TypeId} {x y:Operand} (h1:h.get b1=some (.cells c1 t1 (0,0),none)) (h2:h.get b2=some (.cells c2 t2 (0,0),none)) :
  binV Tryd.prog .eql 51 x y (ptr b1) (ptr b2) h=some (.bool (b1 == b2)):=by
 have hu:(Tryd.prog).underlying 51=some (.pointer 67):=by kernel_rfl
 obtain ⟨d,hd,hds⟩:∃ d,(Tryd.prog).info? 67=some d∧d.size=3:=⟨_,rfl,by kernel_rfl⟩
 have hp:opEqPtr Tryd.prog h 51 (ptr b1) (ptr b2)=some (b1 == b2):=by
  unfold opEqPtr
  simp only [hu,hd,hds]
  rw [if_neg (by simp)]
  by_cases e:b1=b2
  ·subst e;simp
  ·rw [if_neg e]
   simp only [h1,h2]
   rw [beq_eq_false_iff_ne.2 e]
 have hpl:(plain (ptr b1) && plain (ptr b2))=false:=rfl
 unfold binV absBin
 rw [hpl]
 simp [hp]
structure MoveOk (σ:St) (x:OpD) (l l2:Pt) (nm nm2:Nm) (r:Row):Prop where
 okf:okL x.path.data.toList=true
 pf:partsL x.path.data.toList=l++[nm]
 row:σ (l++[nm])=some r
 out:within (l++[nm]) (l2++[nm2])=false
 free:Free σ x.to_ l2 nm2
theorem ren_same {h:AH} {lo bt:Nat} {σ:St} {K:List Pt} (t:TreeH h lo bt σ K) {x:OpD} {l l2:Pt} {nm nm2:Nm} {r:Row} (M:MoveOk σ x l l2 nm nm2 r) (hv:∀ p,within (l++[nm]) p=true→(σ p).isSome=true→validL (l2++[nm2]++p.drop (l++[nm]).length)=true) {Q:Res→AH→Prop}
  (hq:∀ (e:Int) h' σ' K',TreeH h' lo bt σ' K'→Fr σ h h'→MvT σ σ' h.size→K'.length ≤ K.length→Quo (fun p=>within (partsL x.to_.data.toList) p=true) σ σ'→Q (.ret (.int .i64 e)) h') :
  ∀ (d i:Nat),i + d=l.length + 2→i ≤ l.length + 1→i ≤ l2.length + 1→(∀ j,j < i→l.take j=l2.take j) →
   H16_22 (.string (mkB nm)) (VSl (wayB σ (l++[nm]))) (ifcR r) (VSl (wayB σ (l2++[nm2]))) (.string (mkB nm2)) (.int .i64 (i:Nat)) h Q:=by
 have hl16:l.length ≤ 16:=by have:=parts16 x.path;rw [M.pf] at this;simp at this;omega
 have hl26:l2.length ≤ 16:=by have:=parts16 x.to_;rw [M.free.parts] at this;simp at this;omega
 have hdl:∀ i,i ≤ l.length→∃ b m clk q c ks,σ (l.take i)=some (.dir b m clk q c ks):=by
  intro i hi
  refine t.ok.ups (l.drop i++[nm]) _ (by simp) ?_
  rw [← List.append_assoc,List.take_append_drop,M.row];rfl
 have hdl2:∀ i,i ≤ l2.length→∃ b m clk q c ks,σ (l2.take i)=some (.dir b m clk q c ks):=by
  intro i hi
  by_cases hc:i=l2.length
  ·rw [hc,List.take_length];exact M.free.dir
  ·refine t.ok.ups (l2.drop i) _ (fun e=>?_) (by rw [List.take_append_drop];obtain ⟨_,_,_,_,_,_,h1⟩:=M.free.dir;rw [h1];rfl)
   have:=congrArg List.length e
   simp at this;omega
 have hlen1:(wayB σ (l++[nm])).length=l.length + 1:=by rw [wayB_len];simp
 have hlen2:(wayB σ (l2++[nm2])).length=l2.length + 1:=by rw [wayB_len];simp
 have hr0:Tr.sub (l++[nm]) σ []=some r:=by unfold Tr.sub;rw [List.append_nil];exact M.row
 have hfδ:Few (Tr.sub (l++[nm]) σ):=fun p b m clk q c ks hp=>few_of t _ _ _ _ _ _ _ hp
 obtain ⟨wb1,wb2⟩:=weight_bnd hr0 hfδ
 have no:∀ e:Int,Q (.ret (.int .i64 e)) h:=fun e=>hq e h σ K t (Fr.kp (Kp.refl _ _)) (MvT.refl _ _) (Nat.le_refl _) (Quo.refl _ _)
 -- when the ways part
 have part:∀ i,i ≤ l2.length + 1→(∀ j,j < i→l.take j=l2.take j)→i ≤ l.length + 1 →
   HC Tryd.prog 22 [VSl ((wayB σ (l2++[nm2])).drop i),.int .i64 (weightR r)].toArray h (resK (fun t118 h =>
    bq (binV Tryd.prog .neq 28 (.tmp 119) (.const (Value.int .i64 0)) t118 (Value.int .i64 0) h) fun t120 =>
    condP (some t120) (Q (.ret t118) h)
     (HC Tryd.prog 27 (([]:List Value)++[VSl (wayB σ (l++[nm])),.string (mkB nm),ifcR r]++([]:List Value)).toArray h (resK (fun t125 h =>
      HC Tryd.prog 23 (([]:List Value)++[VSl (wayB σ (l2++[nm2])),.string (mkB nm2),ifcR r]++([]:List Value)).toArray h (resK (fun t129 h=>Q (.ret (.int .i64 0)) h) (fun v h=>Q (.pan v) h))) (fun v h=>Q (.pan v) h)))) (fun v h=>Q (.pan v) h)):=by
  intro i hi hsame hil
  refine room_ok t (n:=weightR r) (by omega) M.free.dir hi (by omega) (fun hr=>?_) ?_
  ·simp (disch:=(first | omega | (simp only [beq_iff_eq,sz_push,sz_put,SC,Nat.reduceAdd,Nat.reduceLeDiff];done) | (simp only [beq_iff_eq,ne_eq,sz_push,sz_put];omega) | assumption | fail)) only [SXB,SX,reduceIte,Int.reduceLT,Int.reduceLE,Int.reduceToNat,Int.reduceBEq,Int.reduceBNe,Nat.reduceAdd,Nat.reduceMul,Nat.reduceSub,Nat.reduceLeDiff]
   refine take_ok t.tw t.ok M.row (few_of t) (by omega) fun h1 hs1 hf1 tw1 tδ1 hap=>?_
   simp (disch:=(first | omega | (simp only [beq_iff_eq,sz_push,sz_put,SC,Nat.reduceAdd,Nat.reduceLeDiff];done) | (simp only [beq_iff_eq,ne_eq,sz_push,sz_put];omega) | assumption | fail)) only [SXB,SX,reduceIte,Int.reduceLT,Int.reduceLE,Int.reduceToNat,Int.reduceBEq,Int.reduceBNe,Nat.reduceAdd,Nat.reduceMul,Nat.reduceSub,Nat.reduceLeDiff]
   have T1:=t.take M.row tw1 hs1 hf1
   have hw:weightR r=((K.filter (within (l++[nm]))).length:Int):=by
    rw [t.ok.weight M.row]
    cases r <;> rfl
   have oδ:=t.ok.sub (l++[nm])
   have hD:((K.filter (within (l++[nm]))).map (fun k=>k.drop (l++[nm]).length)).length=(K.filter (within (l++[nm]))).length:=List.length_map ..
   -- the place is still there,and free
   have hno:∀ q,within (l++[nm]) q=true→within q (l2++[nm2])=true→False:=fun q h3 h4=>by
    have:=within_trans h3 h4
    rw [M.out] at this;cases this
   have hout:∀ i,within (l++[nm]) (l2.take i)=false:=fun i=>by
    cases h3:within (l++[nm]) (l2.take i) with
    | false=>rfl
    | true=>exact (hno _ h3 (within_trans (take_within l2 i) (within_app _ _))).elim
   have hσ1:∀ q,within (l++[nm]) q=false→blkAt (prune (l++[nm]) (delK l nm (addC l (-weightR r) σ))) q=blkAt σ q:=fun q h3=>by
    unfold blkAt
    rw [prune_out h3]
    cases h4:delK l nm (addC l (-weightR r) σ) q with
    | none =>
     have:(σ q).isSome=false:=by rw [← addC_some (l:=l) (w:=-weightR r),← delK_some (l:=l) (nm:=nm),h4];rfl
     cases h5:σ q with
     | none=>rfl
     | some _=>rw [h5] at this;cases this
    | some s =>
     obtain ⟨s',h5,_,h6⟩:=delCK_own h4
     rw [h5]
     exact h6.symm
   have hway:wayB (prune (l++[nm]) (delK l nm (addC l (-weightR r) σ))) (l2++[nm2])=wayB σ (l2++[nm2]):=by
    unfold wayB
    refine List.map_congr_left fun j hj=>?_
    have hj2:j ≤ l2.length:=by have:=List.mem_range.1 hj;simp at this;omega
    rw [List.take_append_of_le_length hj2,hσ1 _ (hout j)]
   obtain ⟨b2,m2,clk2,q2,c2,ks2,hd2⟩:=M.free.dir
   have hl2:∃ b m clk q c ks,prune (l++[nm]) (delK l nm (addC l (-weightR r) σ)) l2=some (.dir b m clk q c ks):=by
    have h3:=hout l2.length
    rw [List.take_length] at h3
    rw [prune_out h3]
    unfold delK
    rw [addC_of hd2]
    simp only
    split <;> exact ⟨_,_,_,_,_,_,rfl⟩
   have hn2:prune (l++[nm]) (delK l nm (addC l (-weightR r) σ)) (l2++[nm2])=none:=by
    rw [prune_out M.out]
    have:(delK l nm (addC l (-weightR r) σ) (l2++[nm2])).isSome=false:=by rw [delK_some,addC_some,M.free.free];rfl
    simpa using this
   rw [← hway]
   refine lay_ok tw1 tδ1 T1.ok hl2 hn2 hr0 (few_of T1) hfδ hap (by omega) fun h2 hs2 hf2 tw2=>?_
   simp (disch:=(first | omega | (simp only [beq_iff_eq,sz_push,sz_put,SC,Nat.reduceAdd,Nat.reduceLeDiff];done) | (simp only [beq_iff_eq,ne_eq,sz_push,sz_put];omega) | assumption | fail)) only [SXB,SX,reduceIte,Int.reduceLT,Int.reduceLE,Int.reduceToNat,Int.reduceBEq,Int.reduceBNe,Nat.reduceAdd,Nat.reduceMul,Nat.reduceSub,Nat.reduceLeDiff]
   have hsum:=filter_split (fun _=>true) (within (l++[nm])) K
   have hall:∀ L:List Pt,L.filter (fun _=>true)=L:=fun L=>List.filter_eq_self.2 fun _ _=>rfl
   rw [hall,hall,hall] at hsum
   have T2:=T1.lay hl2 hn2 oδ hr0 (by rw [hD];exact hw) (fun d hd=>by
     rw [sub_mem t.ok] at hd
     have:=hv (l++[nm]++d) (within_app _ _) ((t.ok.mem _).2 hd)
     rw [List.drop_left] at this
     exact this) (by rw [hD];have:=t.few;omega) tw2 hs2 hf2 (fun p s hp hk=>t.nt _ s hp hk)
   refine hq 0 h2 _ _ T2 ⟨by omega,fun k hk hn=>?_⟩ (fun p s k hp hk=>?_) (by simp only [List.length_append,List.length_map];omega) ?_
   ·rw [hf2 k fun p s hp hk2=>?_]
    ·exact hf1 k hn
    ·cases hw3:within (l++[nm]) p with
     | true=>rw [prune_in hw3] at hp;cases hp
     | false =>
      rw [prune_out hw3] at hp
      obtain ⟨s',h3,h4,_⟩:=delCK_own hp
      exact hn p s' h3 (h4 ▸ hk2)
   ·cases hw3:within (l2++[nm2]) p with
    | true =>
     rw [graft_in hw3] at hp
     exact .inl ⟨_,s,hp,hk⟩
    | false =>
     rw [graft_out hw3] at hp
     obtain ⟨s1,h3,h4,_⟩:=addCK_own hp
     cases hw4:within (l++[nm]) p with
     | true=>rw [prune_in hw4] at h3;cases h3
     | false =>
      rw [prune_out hw4] at h3
      obtain ⟨s',h5,h6,_⟩:=delCK_own h3
      exact .inl ⟨p,s',h5,by rw [h6,h4];exact hk⟩
   ·rw [M.free.parts]
    refine Quo.move (by omega) fun p q c h3 h4 h5=>?_
    obtain ⟨h6,h7⟩:=within_len h3
    rw [h7] at h5
    refine hr p.length ?_ h6 q c h5
    apply Classical.byContradiction
    intro h8
    have h9:=hsame p.length (by omega)
    rw [← h7] at h9
    have:within p l=true:=by rw [← h9];exact take_within l _
    rw [h4] at this;cases this
  ·simp (disch:=(first | omega | (simp only [beq_iff_eq,sz_push,sz_put,SC,Nat.reduceAdd,Nat.reduceLeDiff];done) | (simp only [beq_iff_eq,ne_eq,sz_push,sz_put];omega) | assumption | fail)) only [SXB,SX,reduceIte,Int.reduceLT,Int.reduceLE,Int.reduceToNat,Int.reduceBEq,Int.reduceBNe,Nat.reduceAdd,Nat.reduceMul,Nat.reduceSub,Nat.reduceLeDiff]
   exact no 74
 intro d
 induction d with
 | zero=>intro i hi h1;omega
 | succ d ih =>
  intro i hi h1 h2 hsame
  refine X16_22_ok ?_
  unfold X16_22
  have e0:(0:Int) ≤ (i:Nat):=by omega
  have ei:(i:Int) + 1=((i + 1:Nat):Int):=by omega
  have hsl:=slFrom (h:=h) (l:=wayB σ (l2++[nm2])) (i:=i) (by rw [hlen2];exact h2) (wayB_one σ _)
  have P:=part i h2 hsame h1
  by_cases c1:(i:Int) < ((l.length + 1:Nat):Int)
  ·by_cases c2:(i:Int) < ((l2.length + 1:Nat):Int)
   ·have er1:(wayB σ (l++[nm]))[i]?=some (ptr (blkAt σ (l.take i))):=by
     rw [wayB_get (by simp;omega),List.take_append_of_le_length (by omega)]
    have er2:(wayB σ (l2++[nm2]))[i]?=some (ptr (blkAt σ (l2.take i))):=by
     rw [wayB_get (by simp;omega),List.take_append_of_le_length (by omega)]
    have heq:binV Tryd.prog .eql 51 (.tmp 104) (.tmp 108) (ptr (blkAt σ (l.take i))) (ptr (blkAt σ (l2.take i))) h=some (.bool (blkAt σ (l.take i) == blkAt σ (l2.take i))):=by
     obtain ⟨b1,m1,clk1,q1,c1',ks1,hd1⟩:=hdl i (by omega)
     obtain ⟨b2,m2,clk2,q2,c2',ks2,hd2⟩:=hdl2 i (by omega)
     have e1:blkAt σ (l.take i)=b1:=by unfold blkAt;rw [hd1];rfl
     have e2:blkAt σ (l2.take i)=b2:=by unfold blkAt;rw [hd2];rfl
     rw [e1,e2]
     exact eq_dirs (t.tw.dir hd1).1 (t.tw.dir hd2).1
    cases hc:(blkAt σ (l.take i) == blkAt σ (l2.take i)) with
    | true =>
     rw [hc] at heq
     simp (disch:=(first | omega | (simp only [beq_iff_eq,sz_push,sz_put,SC,Nat.reduceAdd,Nat.reduceLeDiff];done) | (simp only [beq_iff_eq,ne_eq,sz_push,sz_put];omega) | assumption | fail)) only [c1,c2,hlen1,hlen2,e0,er1,er2,heq,SXB,SX,reduceIte,Int.reduceLT,Int.reduceLE,Int.reduceToNat,Int.reduceBEq,Int.reduceBNe,Nat.reduceAdd,Nat.reduceMul,Nat.reduceSub,Nat.reduceLeDiff]
     rw [ei]
     refine ih (i + 1) (by omega) (by omega) (by omega) fun j hj=>?_
     by_cases hji:j=i
     ·subst hji
      obtain ⟨_,_,_,_,_,_,h3⟩:=hdl j (by omega)
      obtain ⟨_,_,_,_,_,_,h4⟩:=hdl2 j (by omega)
      exact blk_inj t.tw (by rw [h3];rfl) (by rw [h4];rfl) (by simpa using hc)
     ·exact hsame j (by omega)
    | false =>
     rw [hc] at heq
     simp (disch:=(first | omega | (simp only [beq_iff_eq,sz_push,sz_put,SC,Nat.reduceAdd,Nat.reduceLeDiff];done) | (simp only [beq_iff_eq,ne_eq,sz_push,sz_put];omega) | assumption | fail)) only [c1,c2,hlen1,hlen2,e0,er1,er2,heq,hsl,SXB,SX,reduceIte,Int.reduceLT,Int.reduceLE,Int.reduceToNat,Int.reduceBEq,Int.reduceBNe,Nat.reduceAdd,Nat.reduceMul,Nat.reduceSub,Nat.reduceLeDiff]
     refine weight_step (t.tw.sub (l++[nm])) hr0 hfδ ?_
     simp (disch:=(first | omega | (simp only [beq_iff_eq,sz_push,sz_put,SC,Nat.reduceAdd,Nat.reduceLeDiff];done) | (simp only [beq_iff_eq,ne_eq,sz_push,sz_put];omega) | assumption | fail)) only [hsl,SXB,SX,reduceIte,Int.reduceLT,Int.reduceLE,Int.reduceToNat,Int.reduceBEq,Int.reduceBNe,Nat.reduceAdd,Nat.reduceMul,Nat.reduceSub,Nat.reduceLeDiff]
     exact P
   ·simp (disch:=(first | omega | (simp only [beq_iff_eq,sz_push,sz_put,SC,Nat.reduceAdd,Nat.reduceLeDiff];done) | (simp only [beq_iff_eq,ne_eq,sz_push,sz_put];omega) | assumption | fail)) only [c1,c2,hlen1,hlen2,hsl,SXB,SX,reduceIte,Int.reduceLT,Int.reduceLE,Int.reduceToNat,Int.reduceBEq,Int.reduceBNe,Nat.reduceAdd,Nat.reduceMul,Nat.reduceSub,Nat.reduceLeDiff]
    refine weight_step (t.tw.sub (l++[nm])) hr0 hfδ ?_
    simp (disch:=(first | omega | (simp only [beq_iff_eq,sz_push,sz_put,SC,Nat.reduceAdd,Nat.reduceLeDiff];done) | (simp only [beq_iff_eq,ne_eq,sz_push,sz_put];omega) | assumption | fail)) only [hsl,SXB,SX,reduceIte,Int.reduceLT,Int.reduceLE,Int.reduceToNat,Int.reduceBEq,Int.reduceBNe,Nat.reduceAdd,Nat.reduceMul,Nat.reduceSub,Nat.reduceLeDiff]
    exact P
  ·simp (disch:=(first | omega | (simp only [beq_iff_eq,sz_push,sz_put,SC,Nat.reduceAdd,Nat.reduceLeDiff];done) | (simp only [beq_iff_eq,ne_eq,sz_push,sz_put];omega) | assumption | fail)) only [c1,hlen1,hsl,SXB,SX,reduceIte,Int.reduceLT,Int.reduceLE,Int.reduceToNat,Int.reduceBEq,Int.reduceBNe,Nat.reduceAdd,Nat.reduceMul,Nat.reduceSub,Nat.reduceLeDiff]
   refine weight_step (t.tw.sub (l++[nm])) hr0 hfδ ?_
   simp (disch:=(first | omega | (simp only [beq_iff_eq,sz_push,sz_put,SC,Nat.reduceAdd,Nat.reduceLeDiff];done) | (simp only [beq_iff_eq,ne_eq,sz_push,sz_put];omega) | assumption | fail)) only [hsl,SXB,SX,reduceIte,Int.reduceLT,Int.reduceLE,Int.reduceToNat,Int.reduceBEq,Int.reduceBNe,Nat.reduceAdd,Nat.reduceMul,Nat.reduceSub,Nat.reduceLeDiff]
   exact P
end Go.Proofs.YtgdnfoijhdpppaaDoor.L
end
