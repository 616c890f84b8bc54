import Derived.Test.YtgdnfoijhdpppaaDoorZ29
set_option linter.unusedVariables false
set_option linter.unusedSimpArgs false
section
namespace Go.Proofs.YtgdnfoijhdpppaaDoor.L
open Go.Ab Go.Tr Go.Mh Go.Proofs.YtgdnfoijhdpppaaDoor.X
set_option maxRecDepth 100000
theorem ren_loop {h0:AH} {lo bt k3:Nat} {σ:St} {K:List Pt} (t:TreeH h0 lo bt σ K) (G:Gl h0) {x:OpD} (g0:h0.get k3=some (.cells (opC x) 36 (0,0),none)) (hk3:k3 < h0.size) (hx1:x.path.size ≤ 1048576) (hx2:x.to_.size ≤ 1048576)
  (okf:okL x.path.data.toList=true) (okt:okL x.to_.data.toList=true) {M:List Pt} (hM:∀ p ∈ M,(σ p).isSome=true) (hMl:M.length ≤ 1000000000) {v5 v9 v11 v12:Value} {r:Row} {Q:Res→AH→Prop} (hno:∀ h,Kp h0.size h0 h→Q (.ret (.int .i64 60)) h)
  (hgo:∀ h,Kp h0.size h0 h→(∀ p ∈ M,within (partsL x.path.data.toList) p=true→validL (partsL x.to_.data.toList++p.drop (partsL x.path.data.toList).length)=true) →
   invokeP Tryd.prog (ifcR r) "mahout/tree.opened" [] h (fun t89 h=>condP (some t89) (Q (.ret (.int .i64 76)) h) (H16_22 v5 v9 (ifcR r) v11 v12 (.int .i64 0) h Q)) (fun v h=>Q (.pan v) h)) :
  ∀ (d i:Nat) (h:AH),i + d=M.length→Kp h0.size h0 h→(∀ p ∈ M.take i,within (partsL x.path.data.toList) p=true→validL (partsL x.to_.data.toList++p.drop (partsL x.path.data.toList).length)=true) →
   H16_14 (ptr k3) v5 v9 (ifcR r) v11 v12 (VSl (M.map (entryV σ))) (.int .i64 (M.length:Nat)) (.int .i64 (i:Nat)) h Q:=by
 intro d
 induction d with
 | zero =>
  intro i h hi K0 hv
  refine X16_14_ok ?_
  unfold X16_14
  have e:¬ ((i:Int) < (M.length:Nat)):=by omega
  have htk:M.take i=M:=List.take_of_length_le (by omega)
  rw [htk] at hv
  simp (disch:=(first | omega | (simp only [beq_iff_eq,sz_push,sz_put,SC,Nat.reduceAdd,Nat.reduceLeDiff];done) | (simp only [beq_iff_eq,ne_eq,sz_push,sz_put];omega) | assumption | fail)) only [e,SXB,SX,reduceIte,Int.reduceLT,Int.reduceLE,Int.reduceToNat,Int.reduceBEq,Int.reduceBNe,Nat.reduceAdd,Nat.reduceMul,Nat.reduceSub,Nat.reduceLeDiff]
  exact hgo h K0 hv
 | succ d ih =>
  intro i h hi K0 hv
  refine X16_14_ok ?_
  unfold X16_14
  have e:(i:Int) < (M.length:Nat):=by omega
  have e0:(0:Int) ≤ (i:Nat):=by omega
  have ei:(i:Int) + 1=((i + 1:Nat):Int):=by omega
  obtain ⟨p,hp⟩:∃ p,M[i]?=some p:=⟨_,List.getElem?_eq_getElem (by omega)⟩
  have hpM:=List.mem_of_getElem? hp
  have hval:=t.valid p ((t.ok.mem p).1 (hM p hpM))
  have er:(M.map (entryV σ))[i]?=some (entryV σ p):=by rw [List.getElem?_map,hp];rfl
  obtain ⟨b1,b2,c1,c2,ll,he⟩:=entryV_form σ p
  rw [he] at er
  have K1:Kp h.size h (h.push (.cells #[.string ⟨#[]⟩,.bool false,.bool false,.int .i64 0,.int .i64 0,.slice none 0 0] 44 (0,0)) none):=(Kp.refl _ _).push _ _ (Nat.le_refl _)
  have K2:Kp h.size h ((h.push (.cells #[.string ⟨#[]⟩,.bool false,.bool false,.int .i64 0,.int .i64 0,.slice none 0 0] 44 (0,0)) none).put h.size (some (.cells #[.string (mkB (joinL p)),.bool b1,.bool b2,.int .i64 c1,.int .i64 c2,slV ll] 44 (0,0),none))):=K1.put _ _ (Nat.le_refl _)
  have hst:stN 6 (h.push (.cells #[.string ⟨#[]⟩,.bool false,.bool false,.int .i64 0,.int .i64 0,.slice none 0 0] 44 (0,0)) none) (ptr h.size) (.agg #[.string (mkB (joinL p)),.bool b1,.bool b2,.int .i64 c1,.int .i64 c2,slV ll]) =
    some ((h.push (.cells #[.string ⟨#[]⟩,.bool false,.bool false,.int .i64 0,.int .i64 0,.slice none 0 0] 44 (0,0)) none).put h.size (some (.cells #[.string (mkB (joinL p)),.bool b1,.bool b2,.int .i64 c1,.int .i64 c2,slV ll] 44 (0,0),none))):=by
   refine stN_full (get_push_eq rfl) rfl rfl fun v hv2=>?_
   simp only [cells_agg,List.mem_cons,List.not_mem_nil,or_false] at hv2
   rcases hv2 with rfl | rfl | rfl | rfl | rfl | rfl <;> first | rfl | exact one_slV _
  have gh:((h.push (.cells #[.string ⟨#[]⟩,.bool false,.bool false,.int .i64 0,.int .i64 0,.slice none 0 0] 44 (0,0)) none).put h.size (some (.cells #[.string (mkB (joinL p)),.bool b1,.bool b2,.int .i64 c1,.int .i64 c2,slV ll] 44 (0,0),none))).get h.size=some (.cells #[.string (mkB (joinL p)),.bool b1,.bool b2,.int .i64 c1,.int .i64 c2,slV ll] 44 (0,0),none):=get_put_eq rfl
  have K3:=K0.trans (K2.less K0.size)
  have gop:=(K3.get k3 hk3).trans g0
  unfold opC at gop
  have G3:=G.kp K3 (by have:=t.tb;omega)
  generalize hs2:stN 6=s2 at hst
  simp (disch:=(first | omega | (simp only [beq_iff_eq,sz_push,sz_put,SC,Nat.reduceAdd,Nat.reduceLeDiff];done) | (simp only [beq_iff_eq,ne_eq,sz_push,sz_put];omega) | assumption | fail)) only [e,e0,er,hs2,hst,SXB,SX,reduceIte,Int.reduceLT,Int.reduceLE,Int.reduceToNat,Int.reduceBEq,Int.reduceBNe,Nat.reduceAdd,Nat.reduceMul,Nat.reduceSub,Nat.reduceLeDiff]
  generalize ((h.push (.cells #[.string ⟨#[]⟩,.bool false,.bool false,.int .i64 0,.int .i64 0,.slice none 0 0] 44 (0,0)) none).put h.size (some (.cells #[.string (mkB (joinL p)),.bool b1,.bool b2,.int .i64 c1,.int .i64 c2,slV ll] 44 (0,0),none)))=h2 at K2 gh K3 gop G3 ⊢
  have hps:=path_size hval
  simp (disch:=(first | omega | (simp only [beq_iff_eq,sz_push,sz_put,SC,Nat.reduceAdd,Nat.reduceLeDiff];done) | (simp only [beq_iff_eq,ne_eq,sz_push,sz_put];omega) | assumption | fail)) only [gh,gop,SXB,SX,reduceIte,Int.reduceLT,Int.reduceLE,Int.reduceToNat,Int.reduceBEq,Int.reduceBNe,Nat.reduceAdd,Nat.reduceMul,Nat.reduceSub,Nat.reduceLeDiff]
  refine HC.exact (within_ok G3 (by omega) hx1) ?_
  rw [mkB_data]
  obtain ⟨fi,fl,f1,f2,f3,f4,f5,f6⟩:=last_split okf
  obtain ⟨gi,gl,g1,g2,g3,g4,g5,g6⟩:=last_split okt
  have hokp:=ok_join hval
  cases hw:withinL (joinL p) x.path.data.toList with
  | false =>
   simp (disch:=(first | omega | (simp only [beq_iff_eq,sz_push,sz_put,SC,Nat.reduceAdd,Nat.reduceLeDiff];done) | (simp only [beq_iff_eq,ne_eq,sz_push,sz_put];omega) | assumption | fail)) only [SXB,SX,reduceIte,Int.reduceLT,Int.reduceLE,Int.reduceToNat,Int.reduceBEq,Int.reduceBNe,Nat.reduceAdd,Nat.reduceMul,Nat.reduceSub,Nat.reduceLeDiff]
   rw [ei]
   refine ih (i + 1) h2 (by omega) K3 fun y hy hyw=>?_
   rw [List.take_add_one,hp] at hy
   rcases List.mem_append.1 hy with h1 | h1
   ·exact hv y h1 hyw
   ·simp only [Option.toList_some,List.mem_singleton] at h1
    subst h1
    have:=withinL_of hokp.1 (okL_okP okf) (by rw [hokp.2];exact hyw)
    rw [hw] at this;cases this
  | true =>
   have hpne:x.path.data.toList ≠ [47]:=fun e=>by rw [e] at okf;exact absurd okf (by decide)
   have hle:=withinL_len hw hpne
   have hsub:sliceV Tryd.prog h2 9 (.string (mkB (joinL p))) (some (.int .i64 ((x.path.size:Nat):Int))) none=some (.string ((mkB (joinL p)).extract x.path.size (mkB (joinL p)).size)):=sub_lo (by rw [mkB_size,size_len];exact hle)
   have hexs:((mkB (joinL p)).extract x.path.size (mkB (joinL p)).size).size ≤ 256:=by
    rw [size_len,ext_data]
    have:=size_len (mkB (joinL p))
    simp;omega
   have hcs:(x.to_++(mkB (joinL p)).extract x.path.size (mkB (joinL p)).size).size ≤ 1048576:=by
    rw [ByteArray.size_append]
    have:x.to_.size ≤ 256:=by
     rw [size_len]
     unfold okL at okt
     simp only [Bool.and_eq_true,decide_eq_true_eq] at okt
     exact okt.2
    omega
   have hcd:(x.to_++(mkB (joinL p)).extract x.path.size (mkB (joinL p)).size).data.toList=x.to_.data.toList++(joinL p).drop x.path.data.toList.length:=by
    have h1:(x.to_++(mkB (joinL p)).extract x.path.size (mkB (joinL p)).size).data.toList=x.to_.data.toList++((mkB (joinL p)).extract x.path.size (mkB (joinL p)).size).data.toList:=by simp
    rw [h1,ext_data,mkB_data,size_len x.path,size_len (mkB _),mkB_data,List.take_of_length_le (by simp)]
   simp (disch:=(first | omega | (simp only [beq_iff_eq,sz_push,sz_put,SC,Nat.reduceAdd,Nat.reduceLeDiff];done) | (simp only [beq_iff_eq,ne_eq,sz_push,sz_put];omega) | assumption | fail)) only [gh,gop,hsub,SXB,SX,reduceIte,Int.reduceLT,Int.reduceLE,Int.reduceToNat,Int.reduceBEq,Int.reduceBNe,Nat.reduceAdd,Nat.reduceMul,Nat.reduceSub,Nat.reduceLeDiff]
   refine HC.exact (check_ok G3 hcs) ?_
   rw [hcd]
   cases hok:Mh.okP (x.to_.data.toList++(joinL p).drop x.path.data.toList.length) with
   | false =>
    simp (disch:=(first | omega | (simp only [beq_iff_eq,sz_push,sz_put,SC,Nat.reduceAdd,Nat.reduceLeDiff];done) | (simp only [beq_iff_eq,ne_eq,sz_push,sz_put];omega) | assumption | fail)) only [code_eq,SXB,SX,reduceIte,Int.reduceLT,Int.reduceLE,Int.reduceToNat,Int.reduceBEq,Int.reduceBNe,Nat.reduceAdd,Nat.reduceMul,Nat.reduceSub,Nat.reduceLeDiff]
    exact hno h2 K3
   | true =>
    simp (disch:=(first | omega | (simp only [beq_iff_eq,sz_push,sz_put,SC,Nat.reduceAdd,Nat.reduceLeDiff];done) | (simp only [beq_iff_eq,ne_eq,sz_push,sz_put];omega) | assumption | fail)) only [code_eq,SXB,SX,reduceIte,Int.reduceLT,Int.reduceLE,Int.reduceToNat,Int.reduceBEq,Int.reduceBNe,Nat.reduceAdd,Nat.reduceMul,Nat.reduceSub,Nat.reduceLeDiff]
    rw [ei]
    refine ih (i + 1) h2 (by omega) K3 fun y hy hyw=>?_
    rw [List.take_add_one,hp] at hy
    rcases List.mem_append.1 hy with h1 | h1
    ·exact hv y h1 hyw
    ·simp only [Option.toList_some,List.mem_singleton] at h1
     subst h1
     obtain ⟨rr,hrr⟩:=Tr.within_iff.1 hyw
     have hvf:=(join_ok (okL_okP okf)).1
     have hvt:=(join_ok (okL_okP okt)).1
     have e1:x.path.data.toList=Mh.flat (partsL x.path.data.toList):=by
      have h2:=(join_ok (okL_okP okf)).2
      unfold joinL at h2
      rw [if_neg (by rw [f1];simp)] at h2
      exact h2.symm
     have e2:x.to_.data.toList=Mh.flat (partsL x.to_.data.toList):=by
      have h2:=(join_ok (okL_okP okt)).2
      unfold joinL at h2
      rw [if_neg (by rw [g1];simp)] at h2
      exact h2.symm
     rw [hrr,List.drop_left]
     rw [hrr] at hval
     refine moved_ok hvt (by rw [g1];simp) hval ?_
     have e3:joinL y=Mh.flat (partsL x.path.data.toList)++Mh.flat rr:=by
      rw [hrr]
      unfold joinL
      rw [if_neg (by rw [f1];simp),flat_append]
     rw [e3] at hok
     have e4:(Mh.flat (partsL x.path.data.toList)++Mh.flat rr).drop x.path.data.toList.length=Mh.flat rr:=by
      conv=>lhs;arg 1;rw [e1]
      rw [List.drop_left]
     rw [e4,e2] at hok
     exact hok
end Go.Proofs.YtgdnfoijhdpppaaDoor.L
end
section
namespace Go.Proofs.YtgdnfoijhdpppaaDoor.L
open Go.Ab Go.Tr Go.Mh Go.Proofs.YtgdnfoijhdpppaaDoor.X
set_option maxRecDepth 100000
def Moved (x:OpD) (p:Pt):Prop:=x.kind=6∧okL x.to_.data.toList=true∧within (partsL x.to_.data.toList) p=true
theorem rename_ok {h:AH} {lo bt:Nat} {σ:St} {K:List Pt} (t:TreeH h lo bt σ K) (G:Gl h) (hK:K.length ≤ 1000000000) {x:OpD} (hx1:x.path.size ≤ 1048576) (hx2:x.to_.size ≤ 1048576) {Q:Res→AH→Prop}
  (hq:∀ (e:Int) h' σ' K',TreeH h' lo bt σ' K'→Fr σ h h'→MvT σ σ' h.size→K'.length ≤ K.length→Quo (fun p=>okL x.to_.data.toList=true∧within (partsL x.to_.data.toList) p=true) σ σ'→Q (.ret (.int .i64 e)) h'):HC Tryd.prog 16 [ptr bt,opV x].toArray h Q:=by
 refine X16_ok ?_
 unfold X16 opV
 have K1:Kp h.size h (h.push (.cells (opC x) 36 (0,0)) none):=(Kp.refl _ _).push _ _ (Nat.le_refl _)
 have t1:=t.kp K1
 have G1:=G.kp K1 (by have:=t.tb;omega)
 have z1:(h.push (.cells (opC x) 36 (0,0)) none).size=h.size + 1:=by simp
 have g0:(h.push (.cells (opC x) 36 (0,0)) none).get h.size=some (.cells (opC x) 36 (0,0),none):=get_push_eq rfl
 have g0':=g0
 unfold opC at g0
 rw [new1,new2,cells_agg]
 have eo:(#[.int .i64 x.kind,.string x.path,.string x.to_,.int .i64 x.client,.int .i64 x.pc.c,.int .i64 x.pc.k,.int .i64 x.pc.t,.int .i64 x.pc.s,.int .u32 x.pc.u,.int .i64 x.quota]:Array Value)=opC x:=rfl
 rw [eo] at g0 ⊢
 generalize h.push (.cells (opC x) 36 (0,0)) none=h1 at K1 t1 G1 z1 g0 g0' ⊢
 unfold opC at g0
 have no:∀ (e:Int) h2,Kp h1.size h1 h2→Q (.ret (.int .i64 e)) h2:=fun e h2 k=>hq e h2 σ K (t1.kp k) (Fr.kp (K1.trans (k.less K1.size))) (MvT.refl _ _) (Nat.le_refl _) (Quo.refl _ _)
 have no1:∀ e:Int,Q (.ret (.int .i64 e)) h1:=fun e=>no e h1 (Kp.refl _ _)
 simp (disch:=(first | omega | (simp only [beq_iff_eq,sz_push,sz_put,SC,Nat.reduceAdd,Nat.reduceLeDiff];done) | (simp only [beq_iff_eq,ne_eq,sz_push,sz_put];omega) | assumption | fail)) only [g0,SXB,SX,reduceIte,Int.reduceLT,Int.reduceLE,Int.reduceToNat,Int.reduceBEq,Int.reduceBNe,Nat.reduceAdd,Nat.reduceMul,Nat.reduceSub,Nat.reduceLeDiff]
 refine HC.exact (base_ok G1 hx1) ?_
 cases ho:okL x.path.data.toList with
 | false =>
  simp (disch:=(first | omega | (simp only [beq_iff_eq,sz_push,sz_put,SC,Nat.reduceAdd,Nat.reduceLeDiff];done) | (simp only [beq_iff_eq,ne_eq,sz_push,sz_put];omega) | assumption | fail)) only [g0,SXB,SX,reduceIte,Int.reduceLT,Int.reduceLE,Int.reduceToNat,Int.reduceBEq,Int.reduceBNe,Nat.reduceAdd,Nat.reduceMul,Nat.reduceSub,Nat.reduceLeDiff]
  refine HC.exact (base_ok G1 hx2) ?_
  cases okL x.to_.data.toList <;> (simp (disch:=(first | omega | (simp only [beq_iff_eq,sz_push,sz_put,SC,Nat.reduceAdd,Nat.reduceLeDiff];done) | (simp only [beq_iff_eq,ne_eq,sz_push,sz_put];omega) | assumption | fail)) only [SXB,SX,reduceIte,Int.reduceLT,Int.reduceLE,Int.reduceToNat,Int.reduceBEq,Int.reduceBNe,Nat.reduceAdd,Nat.reduceMul,Nat.reduceSub,Nat.reduceLeDiff];exact no1 60)
 | true =>
  simp (disch:=(first | omega | (simp only [beq_iff_eq,sz_push,sz_put,SC,Nat.reduceAdd,Nat.reduceLeDiff];done) | (simp only [beq_iff_eq,ne_eq,sz_push,sz_put];omega) | assumption | fail)) only [g0,SXB,SX,reduceIte,Int.reduceLT,Int.reduceLE,Int.reduceToNat,Int.reduceBEq,Int.reduceBNe,Nat.reduceAdd,Nat.reduceMul,Nat.reduceSub,Nat.reduceLeDiff]
  refine HC.exact (base_ok G1 hx2) ?_
  cases ho2:okL x.to_.data.toList with
  | false =>
   simp (disch:=(first | omega | (simp only [beq_iff_eq,sz_push,sz_put,SC,Nat.reduceAdd,Nat.reduceLeDiff];done) | (simp only [beq_iff_eq,ne_eq,sz_push,sz_put];omega) | assumption | fail)) only [SXB,SX,reduceIte,Int.reduceLT,Int.reduceLE,Int.reduceToNat,Int.reduceBEq,Int.reduceBNe,Nat.reduceAdd,Nat.reduceMul,Nat.reduceSub,Nat.reduceLeDiff]
   exact no1 60
  | true =>
   simp (disch:=(first | omega | (simp only [beq_iff_eq,sz_push,sz_put,SC,Nat.reduceAdd,Nat.reduceLeDiff];done) | (simp only [beq_iff_eq,ne_eq,sz_push,sz_put];omega) | assumption | fail)) only [g0,SXB,SX,reduceIte,Int.reduceLT,Int.reduceLE,Int.reduceToNat,Int.reduceBEq,Int.reduceBNe,Nat.reduceAdd,Nat.reduceMul,Nat.reduceSub,Nat.reduceLeDiff]
   obtain ⟨fi,fl,f1,f2,f3,f4,f5,f6⟩:=last_split ho
   rw [f5]
   refine find_pure t1 G1 hx1 (fun r hr=>?_) (fun l e he h0=>?_)
   ·have hfs:=(findP_some hr).2.2
    rw [f1] at hfs
    rw [f1,slV_way]
    simp (disch:=(first | omega | (simp only [beq_iff_eq,sz_push,sz_put,SC,Nat.reduceAdd,Nat.reduceLeDiff];done) | (simp only [beq_iff_eq,ne_eq,sz_push,sz_put];omega) | assumption | fail)) only [g0,SXB,SX,reduceIte,Int.reduceLT,Int.reduceLE,Int.reduceToNat,Int.reduceBEq,Int.reduceBNe,Nat.reduceAdd,Nat.reduceMul,Nat.reduceSub,Nat.reduceLeDiff]
    refine HC.exact (within_ok G1 hx2 hx1) ?_
    cases hw:withinL x.to_.data.toList x.path.data.toList with
    | true =>
     simp (disch:=(first | omega | (simp only [beq_iff_eq,sz_push,sz_put,SC,Nat.reduceAdd,Nat.reduceLeDiff];done) | (simp only [beq_iff_eq,ne_eq,sz_push,sz_put];omega) | assumption | fail)) only [SXB,SX,reduceIte,Int.reduceLT,Int.reduceLE,Int.reduceToNat,Int.reduceBEq,Int.reduceBNe,Nat.reduceAdd,Nat.reduceMul,Nat.reduceSub,Nat.reduceLeDiff]
     exact no1 77
    | false =>
     simp (disch:=(first | omega | (simp only [beq_iff_eq,sz_push,sz_put,SC,Nat.reduceAdd,Nat.reduceLeDiff];done) | (simp only [beq_iff_eq,ne_eq,sz_push,sz_put];omega) | assumption | fail)) only [g0,SXB,SX,reduceIte,Int.reduceLT,Int.reduceLE,Int.reduceToNat,Int.reduceBEq,Int.reduceBNe,Nat.reduceAdd,Nat.reduceMul,Nat.reduceSub,Nat.reduceLeDiff]
     refine place_ok t1 G1 hx2 (fun l2 nm2 F=>?_) (fun e he=>?_)
     ·simp (disch:=(first | omega | (simp only [beq_iff_eq,sz_push,sz_put,SC,Nat.reduceAdd,Nat.reduceLeDiff];done) | (simp only [beq_iff_eq,ne_eq,sz_push,sz_put];omega) | assumption | fail)) only [SXB,SX,reduceIte,Int.reduceLT,Int.reduceLE,Int.reduceToNat,Int.reduceBEq,Int.reduceBNe,Nat.reduceAdd,Nat.reduceMul,Nat.reduceSub,Nat.reduceLeDiff]
      refine entries_ok t1 hK fun M hM hMl=>?_
      have hMne:M ≠ []:=by
       rintro rfl
       obtain ⟨_,_,_,_,_,_,hr2⟩:=t.root
       have:=(hM []).2 (by rw [hr2];rfl)
       cases this
      have hsl:slV (M.map (entryV σ))=VSl (M.map (entryV σ)):=by
       cases M with
       | nil=>exact absurd rfl hMne
       | cons a l=>rfl
      have hml:(M.map (entryV σ)).length=M.length:=List.length_map ..
      rw [hsl]
      simp (disch:=(first | omega | (simp only [beq_iff_eq,sz_push,sz_put,SC,Nat.reduceAdd,Nat.reduceLeDiff];done) | (simp only [beq_iff_eq,ne_eq,sz_push,sz_put];omega) | assumption | fail)) only [hml,SXB,SX,reduceIte,Int.reduceLT,Int.reduceLE,Int.reduceToNat,Int.reduceBEq,Int.reduceBNe,Nat.reduceAdd,Nat.reduceMul,Nat.reduceSub,Nat.reduceLeDiff]
      have hout:within (fi++[fl]) (l2++[nm2])=false:=by
       cases h5:within (fi++[fl]) (l2++[nm2]) with
       | false=>rfl
       | true =>
        have:=withinL_of (okL_okP ho2) (okL_okP ho) (by rw [f1,F.parts];exact h5)
        rw [hw] at this;cases this
      refine ren_loop t1 G1 g0' (by omega) hx1 hx2 ho ho2 (fun p hp=>(hM p).1 hp) (by omega) (no 60) (fun h2 K2 hv=>?_) M.length 0 h1 (by omega) (Kp.refl _ _) (fun p hp=>by simp at hp)
      refine opened_all t1.ok ((K.filter (below (fi++[fl]))).length + 1) (fi++[fl]) r h2 (by omega) (t1.kp K2).tw hfs fun b=>?_
      cases b with
      | true =>
       simp (disch:=(first | omega | (simp only [beq_iff_eq,sz_push,sz_put,SC,Nat.reduceAdd,Nat.reduceLeDiff];done) | (simp only [beq_iff_eq,ne_eq,sz_push,sz_put];omega) | assumption | fail)) only [SXB,SX,reduceIte,Int.reduceLT,Int.reduceLE,Int.reduceToNat,Int.reduceBEq,Int.reduceBNe,Nat.reduceAdd,Nat.reduceMul,Nat.reduceSub,Nat.reduceLeDiff]
       exact no 76 h2 K2
      | false =>
       simp (disch:=(first | omega | (simp only [beq_iff_eq,sz_push,sz_put,SC,Nat.reduceAdd,Nat.reduceLeDiff];done) | (simp only [beq_iff_eq,ne_eq,sz_push,sz_put];omega) | assumption | fail)) only [SXB,SX,reduceIte,Int.reduceLT,Int.reduceLE,Int.reduceToNat,Int.reduceBEq,Int.reduceBNe,Nat.reduceAdd,Nat.reduceMul,Nat.reduceSub,Nat.reduceLeDiff]
       have MO:MoveOk σ x fi l2 fl nm2 r:=⟨ho,f1,hfs,hout,F⟩
       refine ren_same (t1.kp K2) MO (fun p hp hs=>?_) (fun e h' σ' K' T fr mv kl qu=>?_) (fi.length + 2) 0 (by omega) (by omega) (by omega) (fun j hj=>absurd hj (by omega))
       ·have:=hv p ((hM p).2 hs) (by rw [f1];exact hp)
        rw [f1,F.parts] at this
        exact this
       ·refine hq e h' σ' K' T ⟨by have:=fr.1;have:=K2.size;omega,fun k hk hn=>?_⟩ (fun p r k hp hk=>?_) kl (fun p q c hd=>?_)
        ·rw [fr.2 k (by have:=K2.size;omega) hn,K2.get k (by omega)]
         exact K1.get k hk
        ·rcases mv p r k hp hk with h8 | h8
         ·exact .inl h8
         ·exact .inr (by have:=K2.size;omega)
        ·rcases qu p q c hd with h8 | h8
         ·exact .inl ⟨ho2,h8⟩
         ·exact .inr h8
     ·have he0:(e != 0)=true:=by simpa using he
      simp (disch:=(first | omega | (simp only [beq_iff_eq,sz_push,sz_put,SC,Nat.reduceAdd,Nat.reduceLeDiff];done) | (simp only [beq_iff_eq,ne_eq,sz_push,sz_put];omega) | assumption | fail)) only [he0,SXB,SX,reduceIte,Int.reduceLT,Int.reduceLE,Int.reduceToNat,Int.reduceBEq,Int.reduceBNe,Nat.reduceAdd,Nat.reduceMul,Nat.reduceSub,Nat.reduceLeDiff]
      exact no1 e
   ·have he0:(e != 0)=true:=by simpa using h0
    simp (disch:=(first | omega | (simp only [beq_iff_eq,sz_push,sz_put,SC,Nat.reduceAdd,Nat.reduceLeDiff];done) | (simp only [beq_iff_eq,ne_eq,sz_push,sz_put];omega) | assumption | fail)) only [he0,SXB,SX,reduceIte,Int.reduceLT,Int.reduceLE,Int.reduceToNat,Int.reduceBEq,Int.reduceBNe,Nat.reduceAdd,Nat.reduceMul,Nat.reduceSub,Nat.reduceLeDiff]
    exact no1 e
end Go.Proofs.YtgdnfoijhdpppaaDoor.L
end
section
namespace Go.Proofs.YtgdnfoijhdpppaaDoor.L
open Go.Ab Go.Tr Go.Mh Go.Proofs.YtgdnfoijhdpppaaDoor.X
set_option maxRecDepth 100000
theorem newDir_ok {h:AH} {q:Int} {Q:Res→AH→Prop}
  (hq:∀ h',Kp h.size h h'→h'.size=h.size + 2→h'.get h.size=some (.map #[] 0,none)→h'.get (h.size + 1)=some (.cells #[.int .i64 q,.int .i64 0,.map (some h.size)] 67 (0,0),none)→Q (.ret (ptr (h.size + 1))) h'):HC Tryd.prog 11 [.int .i64 q].toArray h Q:=by
 refine X11_ok ?_
 unfold X11
 simp (disch:=(first | omega | (simp only [beq_iff_eq,sz_push,sz_put,SC,Nat.reduceAdd,Nat.reduceLeDiff];done) | (simp only [beq_iff_eq,ne_eq,sz_push,sz_put];omega) | assumption | fail)) only [SXB,SX,reduceIte,Int.reduceLT,Int.reduceLE,Int.reduceToNat,Int.reduceBEq,Int.reduceBNe,Nat.reduceAdd,Nat.reduceMul,Nat.reduceSub,Nat.reduceLeDiff]
 refine hq _ (((Kp.refl _ _).push _ _ (Nat.le_refl _)).push _ _ (by simp)) (by simp) ?_ (get_push_eq (by simp))
 rw [get_push_ne (by simp),get_push_eq rfl]
theorem dir_single {h:AH} {lo b m:Nat} {q:Int} (g1:h.get b=some (.cells #[.int .i64 q,.int .i64 0,.map (some m)] 67 (0,0),none)) (g2:h.get m=some (.map #[] 0,none)) (hne:b ≠ m) (hb:lo ≤ b∧b < h.size) (hm:lo ≤ m∧m < h.size):TW h lo (single (.dir b m 0 q 0 [])):=by
 refine ⟨fun p r hp=>?_,fun p q r s k hp hq _ _=>?_,fun p r k hp hk=>?_⟩
 ·obtain ⟨_,rfl⟩:=single_some.1 hp
  exact ⟨g1,g2,hne⟩
 ·rw [(single_some.1 hp).1,(single_some.1 hq).1]
 ·obtain ⟨_,rfl⟩:=single_some.1 hp
  simp only [own,List.mem_cons,List.not_mem_nil,or_false] at hk
  rcases hk with rfl | rfl
  ·exact hb
  ·exact hm
theorem file_single {h:AH} {lo b:Nat} {cl:Int} (g1:h.get b=some (.cells #[.bool true,.int .i64 cl,.slice none 0 0] 58 (0,0),none)) (hb:lo ≤ b∧b < h.size):TW h lo (single (.file b (.slice none 0 0) true cl [])):=by
 refine ⟨fun p r hp=>?_,fun p q r s k hp hq _ _=>?_,fun p r k hp hk=>?_⟩
 ·obtain ⟨_,rfl⟩:=single_some.1 hp
  exact ⟨g1,.nil,(fun e=>by cases e),Nat.zero_le _⟩
 ·rw [(single_some.1 hp).1,(single_some.1 hq).1]
 ·obtain ⟨_,rfl⟩:=single_some.1 hp
  simp only [own,blkOf,Option.toList_none,List.mem_cons,List.not_mem_nil,or_false] at hk
  subst hk
  exact hb
theorem TreeH.lo_le {h:AH} {lo bt:Nat} {σ:St} {K:List Pt} (t:TreeH h lo bt σ K):lo ≤ h.size:=by
 obtain ⟨b,m,clk,q,c,ks,hr⟩:=t.root
 have:=t.tw.bnd [] _ b hr (by simp [own])
 omega
theorem Quo.weaken {mv mv':Pt→Prop} {σ σ':St} (h:Quo mv σ σ') (hm:∀ p,mv p→mv' p):Quo mv' σ σ':=fun p q c hd=>(h p q c hd).imp (hm p) id
theorem AddRel.quo {x:OpD} {σ σ':St} {e:Int} (h:AddRel x σ σ' e) (mv:Pt→Prop):Quo mv σ σ':=by
 rcases h with ⟨_,rfl,_⟩ | ⟨_,b,sl,sl',ps,h1,_,rfl⟩
 ·exact Quo.refl _ _
 ·refine Quo.same fun p q c hd=>⟨q,?_⟩
  obtain ⟨b2,m2,clk2,ks2,h2⟩:=dirAt_iff.1 hd
  unfold upd at h2
  split at h2
  ·cases h2
  ·exact dirAt_iff.2 ⟨_,_,_,_,h2⟩
theorem CloseRel.quo {x:OpD} {σ σ':St} {e:Int} (h:CloseRel x σ σ' e) (mv:Pt→Prop):Quo mv σ σ':=by
 rcases h with ⟨_,rfl,_⟩ | ⟨_,b,sl,hd2,ps,h1,_,rfl⟩
 ·exact Quo.refl _ _
 ·refine Quo.same fun p q c hd=>⟨q,?_⟩
  obtain ⟨b2,m2,clk2,ks2,h2⟩:=dirAt_iff.1 hd
  unfold upd at h2
  split at h2
  ·cases h2
  ·exact dirAt_iff.2 ⟨_,_,_,_,h2⟩
theorem apply_ok {h:AH} {lo bt:Nat} {σ:St} {K:List Pt} (t:TreeH h lo bt σ K) (G:Gl h) (hK:K.length ≤ 1000000000) {x:OpD} (hx1:x.path.size ≤ 1048576) (hx2:x.to_.size ≤ 1048576) {Q:Res→AH→Prop}
  (hq:∀ (e:Int) h' σ' K',TreeH h' lo bt σ' K'→Fr σ h h'→MvT σ σ' h.size→K'.length ≤ K.length + 1→Quo (Moved x) σ σ'→(x.kind=3→AddRel x σ σ' e)→(x.kind=4→CloseRel x σ σ' e)→Q (.ret (.int .i64 e)) h'):HC Tryd.prog 7 [ptr bt,opV x].toArray h Q:=by
 refine X7_ok ?_
 unfold X7 opV
 have K1:Kp h.size h (h.push (.cells (opC x) 36 (0,0)) none):=(Kp.refl _ _).push _ _ (Nat.le_refl _)
 have t1:=t.kp K1
 have G1:=G.kp K1 (by have:=t.tb;omega)
 have z1:(h.push (.cells (opC x) 36 (0,0)) none).size=h.size + 1:=by simp
 have g0:(h.push (.cells (opC x) 36 (0,0)) none).get h.size=some (.cells (opC x) 36 (0,0),none):=get_push_eq rfl
 rw [new1,new2,cells_agg]
 have eo:(#[.int .i64 x.kind,.string x.path,.string x.to_,.int .i64 x.client,.int .i64 x.pc.c,.int .i64 x.pc.k,.int .i64 x.pc.t,.int .i64 x.pc.s,.int .u32 x.pc.u,.int .i64 x.quota]:Array Value)=opC x:=rfl
 rw [eo]
 generalize h.push (.cells (opC x) 36 (0,0)) none=h1 at K1 t1 G1 z1 g0 ⊢
 have ld10:ldN 10 h1 (ptr h.size)=some (opV x):=ldN_full g0 rfl
 unfold opC at g0
 have lol:=t1.lo_le
 have fr1:∀ {h':AH},Fr σ h1 h'→Fr σ h h':=fun f=>⟨by have:=f.1;omega,fun k hk hn=>(f.2 k (by omega) hn).trans (K1.get k hk)⟩
 have mv1:∀ {σ':St} {n:Nat},h.size ≤ n→MvT σ σ' n→MvT σ σ' h.size:=fun hn m p r k hp hk=>(m p r k hp hk).imp id fun h=>by omega
 by_cases k1:x.kind=1
 ·have e1:(x.kind == 1)=true:=by simp [k1]
  simp (disch:=(first | omega | (simp only [beq_iff_eq,sz_push,sz_put,SC,Nat.reduceAdd,Nat.reduceLeDiff];done) | (simp only [beq_iff_eq,ne_eq,sz_push,sz_put];omega) | assumption | fail)) only [g0,e1,SXB,SX,reduceIte,Int.reduceLT,Int.reduceLE,Int.reduceToNat,Int.reduceBEq,Int.reduceBNe,Nat.reduceAdd,Nat.reduceMul,Nat.reduceSub,Nat.reduceLeDiff]
  refine newDir_ok fun h2 K2 z2 gm gd=>?_
  have gop:=(K2.get h.size (by omega)).trans g0
  simp (disch:=(first | omega | (simp only [beq_iff_eq,sz_push,sz_put,SC,Nat.reduceAdd,Nat.reduceLeDiff];done) | (simp only [beq_iff_eq,ne_eq,sz_push,sz_put];omega) | assumption | fail)) only [gop,mi_dir,SXB,SX,reduceIte,Int.reduceLT,Int.reduceLE,Int.reduceToNat,Int.reduceBEq,Int.reduceBNe,Nat.reduceAdd,Nat.reduceMul,Nat.reduceSub,Nat.reduceLeDiff]
  have e2:Value.iface 51 (ptr (h1.size + 1))=ifcR (.dir (h1.size + 1) h1.size 0 0 0 []):=rfl
  rw [e2]
  refine make_ok (n0:=h1.size) (t1.kp K2) (G1.kp K2 (by have:=t1.tb;omega)) (by omega) hx1 rfl (dir_single gd gm (by omega) ⟨by omega,by omega⟩ ⟨by omega,by omega⟩) (fun k hk=>?_) (fun p s k hp hk=>(t1.tw.bnd p s k hp hk).2) t1.tb.2 fun e h' σ' K' T fr mv kl qu=>?_
  ·simp only [own,List.mem_cons,List.not_mem_nil,or_false] at hk
   rcases hk with rfl | rfl <;> omega
  ·simp (disch:=(first | omega | (simp only [beq_iff_eq,sz_push,sz_put,SC,Nat.reduceAdd,Nat.reduceLeDiff];done) | (simp only [beq_iff_eq,ne_eq,sz_push,sz_put];omega) | assumption | fail)) only [SXB,SX,reduceIte,Int.reduceLT,Int.reduceLE,Int.reduceToNat,Int.reduceBEq,Int.reduceBNe,Nat.reduceAdd,Nat.reduceMul,Nat.reduceSub,Nat.reduceLeDiff]
   exact hq e h' σ' K' T (fr1 ⟨by have:=fr.1;have:=K2.size;omega,fun k hk hn=>(fr.2 k (by have:=K2.size;omega) hn).trans (K2.get k hk)⟩) (mv1 (by omega) mv) kl (Quo.weaken qu fun _ h=>h.elim) (fun h=>by omega) (fun h=>by omega)
 ·have n1:(x.kind == 1)=false:=by simp [k1]
  by_cases k2:x.kind=2
  ·have e1:(x.kind == 2)=true:=by simp [k2]
   simp (disch:=(first | omega | (simp only [beq_iff_eq,sz_push,sz_put,SC,Nat.reduceAdd,Nat.reduceLeDiff];done) | (simp only [beq_iff_eq,ne_eq,sz_push,sz_put];omega) | assumption | fail)) only [g0,n1,e1,SXB,SX,reduceIte,Int.reduceLT,Int.reduceLE,Int.reduceToNat,Int.reduceBEq,Int.reduceBNe,Nat.reduceAdd,Nat.reduceMul,Nat.reduceSub,Nat.reduceLeDiff]
   have K2:Kp h1.size h1 (h1.push (.cells #[.bool true,.int .i64 x.client,.slice none 0 0] 58 (0,0)) none):=(Kp.refl _ _).push _ _ (Nat.le_refl _)
   have gf:(h1.push (.cells #[.bool true,.int .i64 x.client,.slice none 0 0] 58 (0,0)) none).get h1.size=some (.cells #[.bool true,.int .i64 x.client,.slice none 0 0] 58 (0,0),none):=get_push_eq rfl
   have z2:(h1.push (.cells #[.bool true,.int .i64 x.client,.slice none 0 0] 58 (0,0)) none).size=h1.size + 1:=by simp
   have e2:Value.iface 56 (ptr h1.size)=ifcR (.file h1.size (.slice none 0 0) true x.client []):=rfl
   have mif:∀ v,mi 56 v=some (.iface 56 v):=fun v=>rfl
   simp (disch:=(first | omega | (simp only [beq_iff_eq,sz_push,sz_put,SC,Nat.reduceAdd,Nat.reduceLeDiff];done) | (simp only [beq_iff_eq,ne_eq,sz_push,sz_put];omega) | assumption | fail)) only [mif,SXB,SX,reduceIte,Int.reduceLT,Int.reduceLE,Int.reduceToNat,Int.reduceBEq,Int.reduceBNe,Nat.reduceAdd,Nat.reduceMul,Nat.reduceSub,Nat.reduceLeDiff]
   rw [e2]
   generalize h1.push (.cells #[.bool true,.int .i64 x.client,.slice none 0 0] 58 (0,0)) none=h2 at K2 gf z2 ⊢
   refine make_ok (n0:=h1.size) (t1.kp K2) (G1.kp K2 (by have:=t1.tb;omega)) (by omega) hx1 rfl (file_single gf ⟨by omega,by omega⟩) (fun k hk=>?_) (fun p s k hp hk=>(t1.tw.bnd p s k hp hk).2) t1.tb.2 fun e h' σ' K' T fr mv kl qu=>?_
   ·simp only [own,blkOf,Option.toList_none,List.mem_cons,List.not_mem_nil,or_false] at hk
    omega
   ·simp (disch:=(first | omega | (simp only [beq_iff_eq,sz_push,sz_put,SC,Nat.reduceAdd,Nat.reduceLeDiff];done) | (simp only [beq_iff_eq,ne_eq,sz_push,sz_put];omega) | assumption | fail)) only [SXB,SX,reduceIte,Int.reduceLT,Int.reduceLE,Int.reduceToNat,Int.reduceBEq,Int.reduceBNe,Nat.reduceAdd,Nat.reduceMul,Nat.reduceSub,Nat.reduceLeDiff]
    exact hq e h' σ' K' T (fr1 ⟨by have:=fr.1;have:=K2.size;omega,fun k hk hn=>(fr.2 k (by have:=K2.size;omega) hn).trans (K2.get k hk)⟩) (mv1 (by omega) mv) kl (Quo.weaken qu fun _ h=>h.elim) (fun h=>by omega) (fun h=>by omega)
  ·have n2:(x.kind == 2)=false:=by simp [k2]
   by_cases k3:x.kind=3
   ·have e1:(x.kind == 3)=true:=by simp [k3]
    simp (disch:=(first | omega | (simp only [beq_iff_eq,sz_push,sz_put,SC,Nat.reduceAdd,Nat.reduceLeDiff];done) | (simp only [beq_iff_eq,ne_eq,sz_push,sz_put];omega) | assumption | fail)) only [g0,n1,n2,e1,SXB,SX,reduceIte,Int.reduceLT,Int.reduceLE,Int.reduceToNat,Int.reduceBEq,Int.reduceBNe,Nat.reduceAdd,Nat.reduceMul,Nat.reduceSub,Nat.reduceLeDiff]
    refine add_ok (x:=x) t1 G1 hx1 fun e h' σ' T fr mv rel=>?_
    simp (disch:=(first | omega | (simp only [beq_iff_eq,sz_push,sz_put,SC,Nat.reduceAdd,Nat.reduceLeDiff];done) | (simp only [beq_iff_eq,ne_eq,sz_push,sz_put];omega) | assumption | fail)) only [SXB,SX,reduceIte,Int.reduceLT,Int.reduceLE,Int.reduceToNat,Int.reduceBEq,Int.reduceBNe,Nat.reduceAdd,Nat.reduceMul,Nat.reduceSub,Nat.reduceLeDiff]
    exact hq e h' σ' K T (fr1 fr) (mv1 (by omega) mv) (by omega) (rel.quo _) (fun _=>rel) (fun h=>by omega)
   ·have n3:(x.kind == 3)=false:=by simp [k3]
    have closes:(x.kind=4 ∨ x.kind=8)→K7_12 (ptr bt) (ptr h.size) (.int .i64 x.kind) (.bool true) h1 Q:=fun hk=>by
     refine X7_12_ok ?_
     unfold X7_12
     simp (disch:=(first | omega | (simp only [beq_iff_eq,sz_push,sz_put,SC,Nat.reduceAdd,Nat.reduceLeDiff];done) | (simp only [beq_iff_eq,ne_eq,sz_push,sz_put];omega) | assumption | fail)) only [g0,SXB,SX,reduceIte,Int.reduceLT,Int.reduceLE,Int.reduceToNat,Int.reduceBEq,Int.reduceBNe,Nat.reduceAdd,Nat.reduceMul,Nat.reduceSub,Nat.reduceLeDiff]
     refine close_ok (x:=x) t1 G1 hx1 fun e h' σ' T fr mv rel=>?_
     simp (disch:=(first | omega | (simp only [beq_iff_eq,sz_push,sz_put,SC,Nat.reduceAdd,Nat.reduceLeDiff];done) | (simp only [beq_iff_eq,ne_eq,sz_push,sz_put];omega) | assumption | fail)) only [SXB,SX,reduceIte,Int.reduceLT,Int.reduceLE,Int.reduceToNat,Int.reduceBEq,Int.reduceBNe,Nat.reduceAdd,Nat.reduceMul,Nat.reduceSub,Nat.reduceLeDiff]
     exact hq e h' σ' K T (fr1 fr) (mv1 (by omega) mv) (by omega) (rel.quo _) (fun h=>absurd h k3) (fun _=>rel)
    by_cases k4:x.kind=4
    ·have e1:(x.kind == 4)=true:=by simp [k4]
     simp (disch:=(first | omega | (simp only [beq_iff_eq,sz_push,sz_put,SC,Nat.reduceAdd,Nat.reduceLeDiff];done) | (simp only [beq_iff_eq,ne_eq,sz_push,sz_put];omega) | assumption | fail)) only [g0,n1,n2,n3,e1,SXB,SX,reduceIte,Int.reduceLT,Int.reduceLE,Int.reduceToNat,Int.reduceBEq,Int.reduceBNe,Nat.reduceAdd,Nat.reduceMul,Nat.reduceSub,Nat.reduceLeDiff]
     exact closes (.inl k4)
    ·have n4:(x.kind == 4)=false:=by simp [k4]
     by_cases k8:x.kind=8
     ·have e1:(x.kind == 8)=true:=by simp [k8]
      simp (disch:=(first | omega | (simp only [beq_iff_eq,sz_push,sz_put,SC,Nat.reduceAdd,Nat.reduceLeDiff];done) | (simp only [beq_iff_eq,ne_eq,sz_push,sz_put];omega) | assumption | fail)) only [g0,n1,n2,n3,n4,e1,SXB,SX,reduceIte,Int.reduceLT,Int.reduceLE,Int.reduceToNat,Int.reduceBEq,Int.reduceBNe,Nat.reduceAdd,Nat.reduceMul,Nat.reduceSub,Nat.reduceLeDiff]
      exact closes (.inr k8)
     ·have n8:(x.kind == 8)=false:=by simp [k8]
      simp (disch:=(first | omega | (simp only [beq_iff_eq,sz_push,sz_put,SC,Nat.reduceAdd,Nat.reduceLeDiff];done) | (simp only [beq_iff_eq,ne_eq,sz_push,sz_put];omega) | assumption | fail)) only [g0,n1,n2,n3,n4,n8,SXB,SX,reduceIte,Int.reduceLT,Int.reduceLE,Int.reduceToNat,Int.reduceBEq,Int.reduceBNe,Nat.reduceAdd,Nat.reduceMul,Nat.reduceSub,Nat.reduceLeDiff]
      refine X7_12_ok ?_
      unfold X7_12
      by_cases k5:x.kind=5
      ·have e1:(x.kind == 5)=true:=by simp [k5]
       simp (disch:=(first | omega | (simp only [beq_iff_eq,sz_push,sz_put,SC,Nat.reduceAdd,Nat.reduceLeDiff];done) | (simp only [beq_iff_eq,ne_eq,sz_push,sz_put];omega) | assumption | fail)) only [g0,e1,SXB,SX,reduceIte,Int.reduceLT,Int.reduceLE,Int.reduceToNat,Int.reduceBEq,Int.reduceBNe,Nat.reduceAdd,Nat.reduceMul,Nat.reduceSub,Nat.reduceLeDiff]
       refine drop_ok (x:=x) t1 G1 hx1 fun e h' σ' K' T fr mv kl qu=>?_
       simp (disch:=(first | omega | (simp only [beq_iff_eq,sz_push,sz_put,SC,Nat.reduceAdd,Nat.reduceLeDiff];done) | (simp only [beq_iff_eq,ne_eq,sz_push,sz_put];omega) | assumption | fail)) only [SXB,SX,reduceIte,Int.reduceLT,Int.reduceLE,Int.reduceToNat,Int.reduceBEq,Int.reduceBNe,Nat.reduceAdd,Nat.reduceMul,Nat.reduceSub,Nat.reduceLeDiff]
       exact hq e h' σ' K' T (fr1 fr) (mv1 (by omega) mv) (by omega) (Quo.weaken qu fun _ h=>h.elim) (fun h=>absurd h k3) (fun h=>absurd h k4)
      ·have n5:(x.kind == 5)=false:=by simp [k5]
       by_cases k6:x.kind=6
       ·have e1:(x.kind == 6)=true:=by simp [k6]
        simp (disch:=(first | omega | (simp only [beq_iff_eq,sz_push,sz_put,SC,Nat.reduceAdd,Nat.reduceLeDiff];done) | (simp only [beq_iff_eq,ne_eq,sz_push,sz_put];omega) | assumption | fail)) only [g0,n5,e1,SXB,SX,reduceIte,Int.reduceLT,Int.reduceLE,Int.reduceToNat,Int.reduceBEq,Int.reduceBNe,Nat.reduceAdd,Nat.reduceMul,Nat.reduceSub,Nat.reduceLeDiff]
        refine rename_ok (x:=x) t1 G1 hK hx1 hx2 fun e h' σ' K' T fr mv kl qu=>?_
        simp (disch:=(first | omega | (simp only [beq_iff_eq,sz_push,sz_put,SC,Nat.reduceAdd,Nat.reduceLeDiff];done) | (simp only [beq_iff_eq,ne_eq,sz_push,sz_put];omega) | assumption | fail)) only [SXB,SX,reduceIte,Int.reduceLT,Int.reduceLE,Int.reduceToNat,Int.reduceBEq,Int.reduceBNe,Nat.reduceAdd,Nat.reduceMul,Nat.reduceSub,Nat.reduceLeDiff]
        exact hq e h' σ' K' T (fr1 fr) (mv1 (by omega) mv) (by omega) (Quo.weaken qu fun _ h=>⟨k6,h⟩) (fun h=>absurd h k3) (fun h=>absurd h k4)
       ·have n6:(x.kind == 6)=false:=by simp [k6]
        by_cases k7:x.kind=7
        ·have e1:(x.kind == 7)=true:=by simp [k7]
         simp (disch:=(first | omega | (simp only [beq_iff_eq,sz_push,sz_put,SC,Nat.reduceAdd,Nat.reduceLeDiff];done) | (simp only [beq_iff_eq,ne_eq,sz_push,sz_put];omega) | assumption | fail)) only [g0,n5,n6,e1,SXB,SX,reduceIte,Int.reduceLT,Int.reduceLE,Int.reduceToNat,Int.reduceBEq,Int.reduceBNe,Nat.reduceAdd,Nat.reduceMul,Nat.reduceSub,Nat.reduceLeDiff]
         refine limit_ok (x:=x) t1 G1 hx1 fun e h' σ' T fr mv qu=>?_
         simp (disch:=(first | omega | (simp only [beq_iff_eq,sz_push,sz_put,SC,Nat.reduceAdd,Nat.reduceLeDiff];done) | (simp only [beq_iff_eq,ne_eq,sz_push,sz_put];omega) | assumption | fail)) only [SXB,SX,reduceIte,Int.reduceLT,Int.reduceLE,Int.reduceToNat,Int.reduceBEq,Int.reduceBNe,Nat.reduceAdd,Nat.reduceMul,Nat.reduceSub,Nat.reduceLeDiff]
         exact hq e h' σ' K T (fr1 fr) (mv1 (by omega) mv) (by omega) (Quo.weaken qu fun _ h=>h.elim) (fun h=>absurd h k3) (fun h=>absurd h k4)
        ·have n7:(x.kind == 7)=false:=by simp [k7]
         simp (disch:=(first | omega | (simp only [beq_iff_eq,sz_push,sz_put,SC,Nat.reduceAdd,Nat.reduceLeDiff];done) | (simp only [beq_iff_eq,ne_eq,sz_push,sz_put];omega) | assumption | fail)) only [n5,n6,n7,SXB,SX,reduceIte,Int.reduceLT,Int.reduceLE,Int.reduceToNat,Int.reduceBEq,Int.reduceBNe,Nat.reduceAdd,Nat.reduceMul,Nat.reduceSub,Nat.reduceLeDiff]
         exact hq 2 h1 σ K t1 (Fr.kp K1) (MvT.refl _ _) (by omega) (Quo.refl _ _) (fun h=>absurd h k3) (fun h=>absurd h k4)
end Go.Proofs.YtgdnfoijhdpppaaDoor.L
end
