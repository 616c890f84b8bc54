import Derived.Test.YtgdnfoijhdpppaaDoorZ0
import Derived.Test.YtgdnfoijhdpppaaDoorZ22
set_option linter.unusedVariables false
set_option linter.unusedSimpArgs false
section
namespace Go.Tr
open Go.Mh
def dirAt (σ:St) (p:Pt):Option (Int × Int):=match σ p with
 | some (.dir _ _ _ q c _)=>some (q,c)
 | _=>none
theorem dirAt_iff {σ:St} {p:Pt} {q c:Int}:dirAt σ p=some (q,c) ↔ ∃ b m clk ks,σ p=some (.dir b m clk q c ks):=by
 unfold dirAt
 split
 ·rename_i h
  rw [h]
  constructor
  ·intro e;cases e;exact ⟨_,_,_,_,rfl⟩
  ·rintro ⟨_,_,_,_,e⟩;cases e;rfl
 ·rename_i h
  constructor
  ·intro e;cases e
  ·rintro ⟨_,_,_,_,e⟩;exact absurd e (h _ _ _ _ _ _)
theorem dirAt_addC {l:Pt} {w:Int} {σ:St} {p:Pt}:dirAt (addC l w σ) p=(dirAt σ p).map fun x=>(x.1,x.2 + if within p l then w else 0):=by
 unfold dirAt
 cases h:σ p with
 | none=>unfold addC;rw [h];rfl
 | some r=>cases r with
  | file b sl o hd ps=>rw [addC_file.2 h];rfl
  | dir b m clk q c ks=>rw [addC_of h];rfl
theorem dirAt_addK {l:Pt} {nm:Nm} {σ:St} {p:Pt}:dirAt (addK l nm σ) p=dirAt σ p:=by
 unfold dirAt addK
 cases h:σ p with
 | none=>rfl
 | some r=>cases r with
  | file b sl o hd ps=>rfl
  | dir b m clk q c ks=>by_cases e:p=l <;> simp [e]
theorem dirAt_delK {l:Pt} {nm:Nm} {σ:St} {p:Pt}:dirAt (delK l nm σ) p=dirAt σ p:=by
 unfold dirAt delK
 cases h:σ p with
 | none=>rfl
 | some r=>cases r with
  | file b sl o hd ps=>rfl
  | dir b m clk q c ks=>by_cases e:p=l <;> simp [e]
theorem dirAt_graft {d:Pt} {δ σ:St} {p:Pt}:dirAt (graft d δ σ) p=if within d p then dirAt δ (p.drop d.length) else dirAt σ p:=by
 unfold dirAt graft
 by_cases e:within d p=true <;> simp [e]
theorem dirAt_prune {d:Pt} {σ:St} {p:Pt}:dirAt (prune d σ) p=if within d p then none else dirAt σ p:=by
 unfold dirAt prune
 by_cases e:within d p=true <;> simp [e]
def Quo (mv:Pt→Prop) (σ σ':St):Prop:=∀ p q c,dirAt σ' p=some (q,c)→mv p ∨ q ≤ 0 ∨ c ≤ q ∨ c ≤ 0 ∨ ∃ q0 c0,dirAt σ p=some (q0,c0)∧c ≤ c0
theorem Quo.refl (mv:Pt→Prop) (σ:St):Quo mv σ σ:=fun p q c h=>.inr (.inr (.inr (.inr ⟨q,c,h,Int.le_refl _⟩)))
theorem Quo.same {mv:Pt→Prop} {σ σ':St} (h:∀ p q c,dirAt σ' p=some (q,c)→∃ q0,dirAt σ p=some (q0,c)):Quo mv σ σ':=fun p q c hd=>by
 obtain ⟨q0,h0⟩:=h p q c hd
 exact .inr (.inr (.inr (.inr ⟨q0,c,h0,Int.le_refl _⟩)))
theorem Quo.lay {mv:Pt→Prop} {σ δ:St} {l:Pt} {nm:Nm} {w:Int} (hr:∀ p q c,within p l=true→dirAt σ p=some (q,c)→q ≤ 0 ∨ c + w ≤ q)
  (hδ:∀ r q c,dirAt δ r=some (q,c)→c ≤ 0):Quo mv σ (graft (l++[nm]) δ (addK l nm (addC l w σ))):=by
 intro p q c h
 rw [dirAt_graft] at h
 split at h
 ·exact .inr (.inr (.inr (.inl (hδ _ _ _ h))))
 ·rw [dirAt_addK,dirAt_addC] at h
  cases hd:dirAt σ p with
  | none=>rw [hd] at h;cases h
  | some x =>
   obtain ⟨q0,c0⟩:=x
   rw [hd] at h
   simp only [Option.map_some,Option.some.injEq,Prod.mk.injEq] at h
   obtain ⟨rfl,rfl⟩:=h
   by_cases hw:within p l=true
   ·rw [if_pos hw]
    rcases hr p _ _ hw hd with h1 | h1
    ·exact .inr (.inl h1)
    ·exact .inr (.inr (.inl h1))
   ·rw [if_neg hw]
    exact .inr (.inr (.inr (.inr ⟨_,_,rfl,by omega⟩)))
theorem Quo.take {mv:Pt→Prop} {σ:St} {l:Pt} {nm:Nm} {w:Int} (hw:0 ≤ w):Quo mv σ (prune (l++[nm]) (delK l nm (addC l (-w) σ))):=by
 intro p q c h
 rw [dirAt_prune] at h
 split at h
 ·cases h
 ·rw [dirAt_delK,dirAt_addC] at h
  cases hd:dirAt σ p with
  | none=>rw [hd] at h;cases h
  | some x =>
   obtain ⟨q0,c0⟩:=x
   rw [hd] at h
   simp only [Option.map_some,Option.some.injEq,Prod.mk.injEq] at h
   obtain ⟨rfl,rfl⟩:=h
   exact .inr (.inr (.inr (.inr ⟨_,_,rfl,by split <;> omega⟩)))
theorem Quo.move {σ δ:St} {l l2:Pt} {nm nm2:Nm} {w:Int} (hw:0 ≤ w) (hr:∀ p q c,within p l2=true→within p l=false→dirAt σ p=some (q,c)→q ≤ 0 ∨ c + w ≤ q) :
  Quo (fun p=>within (l2++[nm2]) p=true) σ (graft (l2++[nm2]) δ (addK l2 nm2 (addC l2 w (prune (l++[nm]) (delK l nm (addC l (-w) σ)))))):=by
 intro p q c h
 rw [dirAt_graft] at h
 split at h
 ·rename_i hm;exact .inl hm
 ·rw [dirAt_addK,dirAt_addC,dirAt_prune] at h
  by_cases hp:within (l++[nm]) p=true
  ·rw [if_pos hp] at h;cases h
  ·rw [if_neg hp,dirAt_delK,dirAt_addC] at h
   cases hd:dirAt σ p with
   | none=>rw [hd] at h;cases h
   | some x =>
    obtain ⟨q0,c0⟩:=x
    rw [hd] at h
    simp only [Option.map_some,Option.some.injEq,Prod.mk.injEq] at h
    obtain ⟨rfl,rfl⟩:=h
    cases hl:within p l with
    | true =>
     refine .inr (.inr (.inr (.inr ⟨_,_,rfl,?_⟩)))
     rw [if_pos rfl]
     split <;> omega
    | false =>
     rw [if_neg Bool.false_ne_true]
     cases hl2:within p l2 with
     | true =>
      rw [if_pos rfl]
      rcases hr p _ _ hl2 hl hd with h1 | h1
      ·exact .inr (.inl h1)
      ·exact .inr (.inr (.inl (by omega)))
     | false =>
      rw [if_neg Bool.false_ne_true]
      exact .inr (.inr (.inr (.inr ⟨_,_,rfl,by omega⟩)))
end Go.Tr
end
section
namespace Go.Proofs.YtgdnfoijhdpppaaDoor.L
open Go.Ab Go.Tr Go.Mh Go.Proofs.YtgdnfoijhdpppaaDoor.X
set_option maxRecDepth 100000
structure TreeH (h:AH) (lo bt:Nat) (σ:St) (K:List Pt):Prop where
 tw:TW h lo σ
 ok:OkD σ K
 root:∃ b m clk q c ks,σ []=some (.dir b m clk q c ks)
 valid:∀ p ∈ K,validL p=true
 few:K.length ≤ 1099511627776
 tp:h.get bt=some (.cells #[ptr (blkAt σ [])] 54 (0,0),none)
 tb:3 ≤ bt∧bt < h.size
 nt:∀ p r,σ p=some r→bt ∉ own r
theorem TreeH.kp {h h':AH} {lo bt:Nat} {σ:St} {K:List Pt} (t:TreeH h lo bt σ K) (k:Kp h.size h h'):TreeH h' lo bt σ K :=
 ⟨t.tw.kp k,t.ok,t.root,t.valid,t.few,(k.get bt t.tb.2).trans t.tp,⟨t.tb.1,Nat.lt_of_lt_of_le t.tb.2 k.size⟩,t.nt⟩
def findP (σ:St) (p:ByteArray):Except Int Row:=if Mh.okP p.data.toList then findF σ [] (partsL p.data.toList) else .error 60
theorem walk_ok {h:AH} {lo bt:Nat} {σ:St} {K:List Pt} (t:TreeH h lo bt σ K) {parts:Pt} (hp:parts.length ≤ 1000000) {Q:Res→AH→Prop}
  (hok:∀ r s h',findF σ [] parts=.ok r→Kp h.size h h'→Hld 51 1 h' h.size s (wayB σ parts)→(∀ k,blkOf s=some k→k < h'.size)→Q (.ret (.tuple #[s,ifcR r,.int .i64 0])) h')
  (her:∀ s (l:Pt) (e:Int) h',findF σ [] parts=.error e→Kp h.size h h'→Hld 51 1 h' h.size s (wayB σ l)→(∀ k,blkOf s=some k→k < h'.size)→Q (.ret (.tuple #[s,.nilIface,.int .i64 e])) h'):HC Tryd.prog 33 [ptr bt,slV (strs parts)].toArray h Q:=by
 refine X33_ok ?_
 unfold X33
 obtain ⟨b,m,clk,q,c,ks,hr⟩:=t.root
 have hb:blkAt σ []=b:=by unfold blkAt;rw [hr];rfl
 have g:=t.tp
 rw [hb] at g
 cases parts with
 | nil =>
  have hs:slV (strs [])=.slice none 0 0:=rfl
  rw [hs]
  simp (disch:=(first | omega | (simp only [beq_iff_eq,sz_push,sz_put,SC,Nat.reduceAdd,Nat.reduceLeDiff];done) | (simp only [beq_iff_eq,ne_eq,sz_push,sz_put];omega) | assumption | fail)) only [g,mi_dir,SXB,SX,reduceIte,Int.reduceLT,Int.reduceLE,Int.reduceToNat,Int.reduceBEq,Int.reduceBNe,Nat.reduceAdd,Nat.reduceMul,Nat.reduceSub,Nat.reduceLeDiff]
  refine X33_4_ok ?_
  unfold X33_4
  have e:¬ ((0:Int) < ((0:Nat):Int)):=by omega
  simp (disch:=(first | omega | (simp only [beq_iff_eq,sz_push,sz_put,SC,Nat.reduceAdd,Nat.reduceLeDiff];done) | (simp only [beq_iff_eq,ne_eq,sz_push,sz_put];omega) | assumption | fail)) only [e,SXB,SX,reduceIte,Int.reduceLT,Int.reduceLE,Int.reduceToNat,Int.reduceBEq,Int.reduceBNe,Nat.reduceAdd,Nat.reduceMul,Nat.reduceSub,Nat.reduceLeDiff]
  exact hok (.dir b m clk q c ks) (.slice none 0 0) h (by unfold findF;rw [hr]) (Kp.refl _ _) .nil (fun k hk=>by cases hk)
 | cons nm l =>
  have hs:slV (strs (nm::l))=VSl (strs (nm::l)):=rfl
  have hl:(strs (nm::l)).length=(nm::l).length:=List.length_map ..
  rw [hs]
  simp (disch:=(first | omega | (simp only [beq_iff_eq,sz_push,sz_put,SC,Nat.reduceAdd,Nat.reduceLeDiff];done) | (simp only [beq_iff_eq,ne_eq,sz_push,sz_put];omega) | assumption | fail)) only [g,mi_dir,hl,SXB,SX,reduceIte,Int.reduceLT,Int.reduceLE,Int.reduceToNat,Int.reduceBEq,Int.reduceBNe,Nat.reduceAdd,Nat.reduceMul,Nat.reduceSub,Nat.reduceLeDiff]
  exact walk_loop t.ok t.tw hp hok her (l.length + 1) [] (nm::l) (.dir b m clk q c ks) (.slice none 0 0) h rfl rfl hr rfl (Kp.refl _ _) .nil (fun k hk=>by cases hk)
theorem splitP_strs (p:ByteArray):(splitP p).1.map Value.string=strs (partsL p.data.toList):=by
 rw [splitP_eq]
 unfold partsP strs
 rw [List.map_map]
 rfl
theorem parts16 (p:ByteArray):(partsL p.data.toList).length ≤ 16:=by
 cases ho:Mh.okP p.data.toList with
 | true =>
  have:=(join_ok ho).1
  unfold validL at this
  simp only [Bool.and_eq_true,decide_eq_true_eq] at this
  exact this.1.2
 | false=>rw [parts_bad ho];simp
theorem find_ok {h:AH} {lo bt:Nat} {σ:St} {K:List Pt} (t:TreeH h lo bt σ K) (G:Gl h) {p:ByteArray} (hp:p.size ≤ 1048576) {Q:Res→AH→Prop}
  (hok:∀ r s h',findP σ p=.ok r→Kp h.size h h'→Hld 51 1 h' h.size s (wayB σ (partsL p.data.toList))→(∀ k,blkOf s=some k→k < h'.size)→Q (.ret (.tuple #[s,ifcR r,.int .i64 0])) h')
  (her:∀ s (l:Pt) (e:Int) h',findP σ p=.error e→e ≠ 0→Kp h.size h h'→Hld 51 1 h' h.size s (wayB σ l)→(∀ k,blkOf s=some k→k < h'.size)→Q (.ret (.tuple #[s,.nilIface,.int .i64 e])) h'):HC Tryd.prog 19 [ptr bt,.string p].toArray h Q:=by
 refine X19_ok ?_
 unfold X19
 simp (disch:=(first | omega | (simp only [beq_iff_eq,sz_push,sz_put,SC,Nat.reduceAdd,Nat.reduceLeDiff];done) | (simp only [beq_iff_eq,ne_eq,sz_push,sz_put];omega) | assumption | fail)) only [SXB,SX,reduceIte,Int.reduceLT,Int.reduceLE,Int.reduceToNat,Int.reduceBEq,Int.reduceBNe,Nat.reduceAdd,Nat.reduceMul,Nat.reduceSub,Nat.reduceLeDiff]
 refine HC.exact (split_ok G hp) ?_
 rw [splitP_strs,splitP_eq]
 cases ho:Mh.okP p.data.toList with
 | false =>
  simp (disch:=(first | omega | (simp only [beq_iff_eq,sz_push,sz_put,SC,Nat.reduceAdd,Nat.reduceLeDiff];done) | (simp only [beq_iff_eq,ne_eq,sz_push,sz_put];omega) | assumption | fail)) only [code_eq,SXB,SX,reduceIte,Int.reduceLT,Int.reduceLE,Int.reduceToNat,Int.reduceBEq,Int.reduceBNe,Nat.reduceAdd,Nat.reduceMul,Nat.reduceSub,Nat.reduceLeDiff]
  exact her _ [] 60 h (by unfold findP;rw [ho];rfl) (by decide) (Kp.refl _ _) .nil (fun k hk=>by cases hk)
 | true =>
  simp (disch:=(first | omega | (simp only [beq_iff_eq,sz_push,sz_put,SC,Nat.reduceAdd,Nat.reduceLeDiff];done) | (simp only [beq_iff_eq,ne_eq,sz_push,sz_put];omega) | assumption | fail)) only [code_eq,SXB,SX,reduceIte,Int.reduceLT,Int.reduceLE,Int.reduceToNat,Int.reduceBEq,Int.reduceBNe,Nat.reduceAdd,Nat.reduceMul,Nat.reduceSub,Nat.reduceLeDiff]
  have hf:findP σ p=findF σ [] (partsL p.data.toList):=by unfold findP;rw [ho,if_pos rfl]
  rw [hf] at hok her
  refine walk_ok t (by have:=parts16 p;omega) (fun r s h' h1 h2 h3 h4=>?_) (fun s l e h' h1 h2 h3 h4=>?_)
  ·simp (disch:=(first | omega | (simp only [beq_iff_eq,sz_push,sz_put,SC,Nat.reduceAdd,Nat.reduceLeDiff];done) | (simp only [beq_iff_eq,ne_eq,sz_push,sz_put];omega) | assumption | fail)) only [SXB,SX,reduceIte,Int.reduceLT,Int.reduceLE,Int.reduceToNat,Int.reduceBEq,Int.reduceBNe,Nat.reduceAdd,Nat.reduceMul,Nat.reduceSub,Nat.reduceLeDiff]
   exact hok r s h' h1 h2 h3 h4
  ·simp (disch:=(first | omega | (simp only [beq_iff_eq,sz_push,sz_put,SC,Nat.reduceAdd,Nat.reduceLeDiff];done) | (simp only [beq_iff_eq,ne_eq,sz_push,sz_put];omega) | assumption | fail)) only [SXB,SX,reduceIte,Int.reduceLT,Int.reduceLE,Int.reduceToNat,Int.reduceBEq,Int.reduceBNe,Nat.reduceAdd,Nat.reduceMul,Nat.reduceSub,Nat.reduceLeDiff]
   refine her s l e h' h1 ?_ h2 h3 h4
   have:∀ (l p:Pt),findF σ p l ≠ .error 0:=by
    intro l
    induction l with
    | nil=>intro p;unfold findF;split <;> (intro h;cases h)
    | cons nm l ih =>
     intro p
     unfold findF
     split
     ·split
      ·exact ih _
      ·intro h;cases h
     ·intro h;cases h
     ·intro h;cases h
   rintro rfl
   exact this _ _ h1
theorem dweight_ok {h:AH} {lo:Nat} {σ:St} (t:TW h lo σ) {p:Pt} {b m clk:Nat} {q c:Int} {ks:List (Nm × Nat)} (hp:σ p=some (.dir b m clk q c ks)) (h0:0 ≤ c) (h1:c ≤ 1099511627776) :
  Ex Tryd.prog 102 [ptr b].toArray h (.int .i64 (1 + c)) h:=by
 refine X102_ok ?_
 unfold X102
 obtain ⟨g1,g2,g3⟩:=t.dir hp
 have hw:IntKind.wrap .i64 (1 + c)=1 + c:=wrap64 (by omega) (by omega)
 simp (disch:=(first | omega | (simp only [beq_iff_eq,sz_push,sz_put,SC,Nat.reduceAdd,Nat.reduceLeDiff];done) | (simp only [beq_iff_eq,ne_eq,sz_push,sz_put];omega) | assumption | fail)) only [g1,hw,SXB,SX,reduceIte,Int.reduceLT,Int.reduceLE,Int.reduceToNat,Int.reduceBEq,Int.reduceBNe,Nat.reduceAdd,Nat.reduceMul,Nat.reduceSub,Nat.reduceLeDiff]
 first | done | rfl | exact ⟨rfl,rfl⟩ | trivial
theorem fweight_ok {h:AH} {v:Value}:Ex Tryd.prog 104 [v].toArray h (.int .i64 1) h:=by
 refine X104_ok ?_
 unfold X104
 simp (disch:=(first | omega | (simp only [beq_iff_eq,sz_push,sz_put,SC,Nat.reduceAdd,Nat.reduceLeDiff];done) | (simp only [beq_iff_eq,ne_eq,sz_push,sz_put];omega) | assumption | fail)) only [SXB,SX,reduceIte,Int.reduceLT,Int.reduceLE,Int.reduceToNat,Int.reduceBEq,Int.reduceBNe,Nat.reduceAdd,Nat.reduceMul,Nat.reduceSub,Nat.reduceLeDiff]
 first | done | rfl | exact ⟨rfl,rfl⟩ | trivial
def weightR:Row→Int
 | .file _ _ _ _ _=>1
 | .dir _ _ _ _ c _=>1 + c
theorem TreeH.cnt {h:AH} {lo bt:Nat} {σ:St} {K:List Pt} (t:TreeH h lo bt σ K) {p:Pt} {b m clk:Nat} {q c:Int} {ks:List (Nm × Nat)} (hp:σ p=some (.dir b m clk q c ks)):0 ≤ c∧c ≤ 1099511627776:=by
 have h1:=t.ok.count _ _ _ _ _ _ _ hp
 have h2:=List.length_filter_le (below p) K
 have h3:=t.few
 omega
theorem wayB_get {σ:St} {l:Pt} {i:Nat} (hi:i < l.length):(wayB σ l)[i]?=some (ptr (blkAt σ (l.take i))):=by
 unfold wayB
 rw [List.getElem?_map,List.getElem?_range hi]
 rfl
theorem room_loop {h:AH} {lo bt:Nat} {σ:St} {K:List Pt} (t:TreeH h lo bt σ K) {l:Pt} {nm:Nm} {n:Int} (hn:0 ≤ n∧n ≤ 1099511627777) (hl:∃ b m clk q c ks,σ l=some (.dir b m clk q c ks)) {i0:Nat} (hi0:i0 ≤ l.length + 1)
  (h1048:l.length ≤ 1000000) {Q:Res→AH→Prop} (hok:(∀ i,i0 ≤ i→i ≤ l.length→∀ q c,dirAt σ (l.take i)=some (q,c)→q ≤ 0 ∨ c + n ≤ q)→Q (.ret (.int .i64 0)) h) (her:Q (.ret (.int .i64 74)) h) :
  ∀ (d i:Nat),i0 + i + d=l.length + 1→(∀ j,i0 ≤ j→j < i0 + i→∀ q c,dirAt σ (l.take j)=some (q,c)→q ≤ 0 ∨ c + n ≤ q) →
   H22_2 (.int .i64 n) (VSl ((wayB σ (l++[nm])).drop i0)) (.int .i64 ((l.length + 1 - i0:Nat):Int)) (.int .i64 (i:Nat)) h Q:=by
 intro d
 induction d with
 | zero =>
  intro i hi ha
  refine X22_2_ok ?_
  unfold X22_2
  have e:¬ ((i:Int) < ((l.length + 1 - i0:Nat):Int)):=by omega
  simp (disch:=(first | omega | (simp only [beq_iff_eq,sz_push,sz_put,SC,Nat.reduceAdd,Nat.reduceLeDiff];done) | (simp only [beq_iff_eq,ne_eq,sz_push,sz_put];omega) | assumption | fail)) only [e,SXB,SX,reduceIte,Int.reduceLT,Int.reduceLE,Int.reduceToNat,Int.reduceBEq,Int.reduceBNe,Nat.reduceAdd,Nat.reduceMul,Nat.reduceSub,Nat.reduceLeDiff]
  exact hok fun j h1 h2=>ha j h1 (by omega)
 | succ d ih =>
  intro i hi ha
  refine X22_2_ok ?_
  unfold X22_2
  have e:(i:Int) < ((l.length + 1 - i0:Nat):Int):=by omega
  have e0:(0:Int) ≤ (i:Nat):=by omega
  have ei:(i:Int) + 1=((i + 1:Nat):Int):=by omega
  obtain ⟨b,m,clk,q,c,ks,hd⟩:∃ b m clk q c ks,σ (l.take (i0 + i))=some (.dir b m clk q c ks):=by
   by_cases hc:i0 + i=l.length
   ·rw [hc,List.take_length];exact hl
   ·refine t.ok.ups (l.drop (i0 + i)) _ (fun e=>?_) (by rw [List.take_append_drop];obtain ⟨_,_,_,_,_,_,h1⟩:=hl;rw [h1];rfl)
    have:=congrArg List.length e
    simp at this;omega
  have hb:blkAt σ (l.take (i0 + i))=b:=by unfold blkAt;rw [hd];rfl
  have er:((wayB σ (l++[nm])).drop i0)[i]?=some (ptr b):=by
   rw [List.getElem?_drop,wayB_get (by simp;omega),List.take_append_of_le_length (by omega),hb]
  obtain ⟨g1,g2,g3⟩:=t.tw.dir hd
  obtain ⟨c1,c2⟩:=t.cnt hd
  have hda:dirAt σ (l.take (i0 + i))=some (q,c):=dirAt_iff.2 ⟨b,m,clk,ks,hd⟩
  have hw:IntKind.wrap .i64 (c + n)=c + n:=wrap64 (by omega) (by omega)
  have next:(q ≤ 0 ∨ c + n ≤ q)→∀ j,i0 ≤ j→j < i0 + (i + 1)→∀ q c,dirAt σ (l.take j)=some (q,c)→q ≤ 0 ∨ c + n ≤ q:=by
   intro hx j h1 h2 q2 c2 h3
   by_cases hj:j=i0 + i
   ·subst hj;rw [hda] at h3;cases h3;exact hx
   ·exact ha j h1 (by omega) q2 c2 h3
  by_cases hq:0 < q
  ·by_cases hq2:q < c + n
   ·simp (disch:=(first | omega | (simp only [beq_iff_eq,sz_push,sz_put,SC,Nat.reduceAdd,Nat.reduceLeDiff];done) | (simp only [beq_iff_eq,ne_eq,sz_push,sz_put];omega) | assumption | fail)) only [e,e0,er,g1,hq,hw,hq2,SXB,SX,reduceIte,Int.reduceLT,Int.reduceLE,Int.reduceToNat,Int.reduceBEq,Int.reduceBNe,Nat.reduceAdd,Nat.reduceMul,Nat.reduceSub,Nat.reduceLeDiff]
    exact her
   ·simp (disch:=(first | omega | (simp only [beq_iff_eq,sz_push,sz_put,SC,Nat.reduceAdd,Nat.reduceLeDiff];done) | (simp only [beq_iff_eq,ne_eq,sz_push,sz_put];omega) | assumption | fail)) only [e,e0,er,g1,hq,hw,hq2,SXB,SX,reduceIte,Int.reduceLT,Int.reduceLE,Int.reduceToNat,Int.reduceBEq,Int.reduceBNe,Nat.reduceAdd,Nat.reduceMul,Nat.reduceSub,Nat.reduceLeDiff]
    rw [ei]
    exact ih (i + 1) (by omega) (next (.inr (by omega)))
  ·simp (disch:=(first | omega | (simp only [beq_iff_eq,sz_push,sz_put,SC,Nat.reduceAdd,Nat.reduceLeDiff];done) | (simp only [beq_iff_eq,ne_eq,sz_push,sz_put];omega) | assumption | fail)) only [e,e0,er,g1,hq,SXB,SX,reduceIte,Int.reduceLT,Int.reduceLE,Int.reduceToNat,Int.reduceBEq,Int.reduceBNe,Nat.reduceAdd,Nat.reduceMul,Nat.reduceSub,Nat.reduceLeDiff]
   rw [ei]
   exact ih (i + 1) (by omega) (next (.inl (by omega)))
theorem room_ok {h:AH} {lo bt:Nat} {σ:St} {K:List Pt} (t:TreeH h lo bt σ K) {l:Pt} {nm:Nm} {n:Int} (hn:0 ≤ n∧n ≤ 1099511627777) (hl:∃ b m clk q c ks,σ l=some (.dir b m clk q c ks)) {i0:Nat} (hi0:i0 ≤ l.length + 1)
  (h1048:l.length ≤ 1000000) {Q:Res→AH→Prop} (hok:(∀ i,i0 ≤ i→i ≤ l.length→∀ q c,dirAt σ (l.take i)=some (q,c)→q ≤ 0 ∨ c + n ≤ q)→Q (.ret (.int .i64 0)) h) (her:Q (.ret (.int .i64 74)) h) :
  HC Tryd.prog 22 [VSl ((wayB σ (l++[nm])).drop i0),.int .i64 n].toArray h Q:=by
 refine X22_ok ?_
 unfold X22
 have hlen:((wayB σ (l++[nm])).drop i0).length=l.length + 1 - i0:=by rw [List.length_drop,wayB_len];simp
 simp (disch:=(first | omega | (simp only [beq_iff_eq,sz_push,sz_put,SC,Nat.reduceAdd,Nat.reduceLeDiff];done) | (simp only [beq_iff_eq,ne_eq,sz_push,sz_put];omega) | assumption | fail)) only [hlen,SXB,SX,reduceIte,Int.reduceLT,Int.reduceLE,Int.reduceToNat,Int.reduceBEq,Int.reduceBNe,Nat.reduceAdd,Nat.reduceMul,Nat.reduceSub,Nat.reduceLeDiff]
 exact room_loop t hn hl hi0 h1048 hok her (l.length + 1 - i0) 0 (by omega) (fun j h1 h2=>absurd h2 (by omega))
end Go.Proofs.YtgdnfoijhdpppaaDoor.L
end
section
namespace Go.Proofs.YtgdnfoijhdpppaaDoor.L
open Go.Ab Go.Tr Go.Mh Go.Proofs.YtgdnfoijhdpppaaDoor.X
set_option maxRecDepth 100000
theorem blkAt_lt {h:AH} {lo:Nat} {σ:St} (t:TW h lo σ) (h0:0 < h.size) (p:Pt):blkAt σ p < h.size:=by
 unfold blkAt
 split
 ·rename_i r hr
  refine (t.bnd p r r.blk hr ?_).2
  cases r <;> simp [own,Row.blk]
 ·exact h0
theorem wayB_below {h:AH} {lo:Nat} {σ:St} (t:TW h lo σ) (h0:0 < h.size) (l:Pt):∀ v ∈ wayB σ l,Below h.size v:=by
 intro v hv
 obtain ⟨i,_,rfl⟩:=List.mem_map.1 hv
 exact .ptr (blkAt_lt t h0 _)
theorem flatC_one {l:List Value} (hl:∀ v ∈ l,v.cells = #[v]):flatC l=l:=by
 induction l with
 | nil=>rfl
 | cons v l ih =>
  show v.cells.toList++flatC l=_
  rw [hl v (by simp),ih fun w hw=>hl w (by simp [hw])]
  rfl
theorem flatC_way (σ:St) (l:Pt):flatC (wayB σ l)=wayB σ l:=flatC_one fun v hv=>by
 obtain ⟨i,_,rfl⟩:=List.mem_map.1 hv
 rfl
theorem below_vsl {n:Nat} {l:List Value} (h:∀ v ∈ flatC l,Below n v):Below n (VSl l):=.vs (by simpa using h)
theorem below_slV {n:Nat} {l:List Value} (h:∀ v ∈ flatC l,Below n v):Below n (slV l):=by
 cases l with
 | nil=>exact .nilSlice 0 0
 | cons a l=>exact below_vsl h
theorem below_ifcR {h:AH} {lo:Nat} {σ:St} (t:TW h lo σ) {p:Pt} {r:Row} (hr:σ p=some r):Below h.size (ifcR r):=by
 cases r with
 | file b sl o hd ps=>exact .iface _ (.ptr (t.bnd p _ b hr (by simp [own])).2)
 | dir b m clk q c ks=>exact .iface _ (.ptr (t.bnd p _ b hr (by simp [own])).2)
theorem below_tup {n:Nat} {l:List Value} (h:∀ v ∈ l,Below n v):Below n (.tuple l.toArray):=.tuple (by simpa using h)
theorem findP_some {σ:St} {p:ByteArray} {r:Row} (h:findP σ p=.ok r):Mh.okP p.data.toList=true∧findF σ [] (partsL p.data.toList)=.ok r∧σ (partsL p.data.toList)=some r:=by
 unfold findP at h
 split at h
 ·rename_i ho
  exact ⟨ho,h,by simpa using findF_ok h⟩
 ·cases h
theorem find_pure {h:AH} {lo bt:Nat} {σ:St} {K:List Pt} (t:TreeH h lo bt σ K) (G:Gl h) {p:ByteArray} (hp:p.size ≤ 1048576) {Q:Res→AH→Prop}
  (hok:∀ r,findP σ p=.ok r→Q (.ret (.tuple #[slV (wayB σ (partsL p.data.toList)),ifcR r,.int .i64 0])) h)
  (her:∀ (l:Pt) (e:Int),findP σ p=.error e→e ≠ 0→Q (.ret (.tuple #[slV (wayB σ l),.nilIface,.int .i64 e])) h):HC Tryd.prog 19 [ptr bt,.string p].toArray h Q:=by
 have h0:0 < h.size:=by have:=t.tb;omega
 refine HC.pureF (HC.ghOr (find_ok t G hp (fun r s h' h1 h2 h3 h4=>?_) (fun s l e h' h1 h2 h3 h4 h5=>?_)))
 ·obtain ⟨h3',gu,gf,gs⟩:=h3.turn (P:=Tryd.prog) (by omega) (wayB_one σ _)
  refine .inl ⟨_,_,h3',rfl,Gh.turn gu (.tuple (l:=[s,ifcR r,.int .i64 0]) (.cons .here (.cons (.same _) (.cons (.same _) .nil)))),h2.trans ⟨by omega,fun k hk=>gf k fun e=>by have:=h3.key k e;omega⟩,?_,hok r h1⟩
  refine below_tup fun v hv=>?_
  simp only [List.mem_cons,List.not_mem_nil,or_false] at hv
  rcases hv with rfl | rfl | rfl
  ·exact below_slV (by rw [flatC_way];exact wayB_below t.tw h0 _)
  ·exact below_ifcR t.tw (findP_some h1).2.2
  ·exact .int _ _
 ·obtain ⟨h3',gu,gf,gs⟩:=h4.turn (P:=Tryd.prog) (by omega) (wayB_one σ _)
  refine .inl ⟨_,_,h3',rfl,Gh.turn gu (.tuple (l:=[s,.nilIface,.int .i64 e]) (.cons .here (.cons (.same _) (.cons (.same _) .nil)))),h3.trans ⟨by omega,fun k hk=>gf k fun e=>by have:=h4.key k e;omega⟩,?_,her l e h1 h2⟩
  refine below_tup fun v hv=>?_
  simp only [List.mem_cons,List.not_mem_nil,or_false] at hv
  rcases hv with rfl | rfl | rfl
  ·exact below_slV (by rw [flatC_way];exact wayB_below t.tw h0 _)
  ·exact .nilIface
  ·exact .int _ _
structure Free (σ:St) (p:ByteArray) (l:Pt) (nm:Nm):Prop where
 ok:okL p.data.toList=true
 parts:partsL p.data.toList=l++[nm]
 dir:∃ b m clk q c ks,σ l=some (.dir b m clk q c ks)
 free:σ (l++[nm])=none
theorem place_ok {h:AH} {lo bt:Nat} {σ:St} {K:List Pt} (t:TreeH h lo bt σ K) (G:Gl h) {p:ByteArray} (hp:p.size ≤ 1048576) {Q:Res→AH→Prop}
  (hok:∀ l nm,Free σ p l nm→Q (.ret (.tuple #[VSl (wayB σ (l++[nm])),.string (mkB nm),.int .i64 0])) h)
  (her:∀ (e:Int),e ≠ 0→Q (.ret (.tuple #[.slice none 0 0,.string ⟨#[]⟩,.int .i64 e])) h):HC Tryd.prog 21 [ptr bt,.string p].toArray h Q:=by
 have h0:0 < h.size:=by have:=t.tb;omega
 have fin:∀ (e:Int) h',e ≠ 0→Kp h.size h h'→(∃ v v' h₂,Res.ret (.tuple #[.slice none 0 0,.string ⟨#[]⟩,.int .i64 e])=.ret v∧Gh Tryd.prog h' v h₂ v'∧(Kp h.size h h₂∧(Res.ret v').Below h.size∧Q (.ret v') h)) ∨
   (Kp h.size h h'∧(Res.ret (.tuple #[.slice none 0 0,.string ⟨#[]⟩,.int .i64 e])).Below h.size∧Q (.ret (.tuple #[.slice none 0 0,.string ⟨#[]⟩,.int .i64 e])) h):=fun e h' he hk=>by
  refine .inr ⟨hk,below_tup fun v hv=>?_,her e he⟩
  simp only [List.mem_cons,List.not_mem_nil,or_false] at hv
  rcases hv with rfl | rfl | rfl
  ·exact .nilSlice 0 0
  ·exact .string _
  ·exact .int _ _
 refine HC.pureF (HC.ghOr (X21_ok ?_))
 unfold X21
 simp (disch:=(first | omega | (simp only [beq_iff_eq,sz_push,sz_put,SC,Nat.reduceAdd,Nat.reduceLeDiff];done) | (simp only [beq_iff_eq,ne_eq,sz_push,sz_put];omega) | assumption | fail)) only [SXB,SX,reduceIte,Int.reduceLT,Int.reduceLE,Int.reduceToNat,Int.reduceBEq,Int.reduceBNe,Nat.reduceAdd,Nat.reduceMul,Nat.reduceSub,Nat.reduceLeDiff]
 refine HC.exact (base_ok G hp) ?_
 cases ho:okL p.data.toList with
 | false =>
  simp (disch:=(first | omega | (simp only [beq_iff_eq,sz_push,sz_put,SC,Nat.reduceAdd,Nat.reduceLeDiff];done) | (simp only [beq_iff_eq,ne_eq,sz_push,sz_put];omega) | assumption | fail)) only [SXB,SX,reduceIte,Int.reduceLT,Int.reduceLE,Int.reduceToNat,Int.reduceBEq,Int.reduceBNe,Nat.reduceAdd,Nat.reduceMul,Nat.reduceSub,Nat.reduceLeDiff]
  exact fin 60 h (by decide) (Kp.refl _ _)
 | true =>
  simp (disch:=(first | omega | (simp only [beq_iff_eq,sz_push,sz_put,SC,Nat.reduceAdd,Nat.reduceLeDiff];done) | (simp only [beq_iff_eq,ne_eq,sz_push,sz_put];omega) | assumption | fail)) only [SXB,SX,reduceIte,Int.reduceLT,Int.reduceLE,Int.reduceToNat,Int.reduceBEq,Int.reduceBNe,Nat.reduceAdd,Nat.reduceMul,Nat.reduceSub,Nat.reduceLeDiff]
  refine HC.exact (parent_ok G hp) ?_
  rw [ho]
  obtain ⟨init,last,e1,e2,e3,e4,e5,e6⟩:=last_split ho
  rw [e4,e5]
  simp (disch:=(first | omega | (simp only [beq_iff_eq,sz_push,sz_put,SC,Nat.reduceAdd,Nat.reduceLeDiff];done) | (simp only [beq_iff_eq,ne_eq,sz_push,sz_put];omega) | assumption | fail)) only [SXB,SX,reduceIte,Int.reduceLT,Int.reduceLE,Int.reduceToNat,Int.reduceBEq,Int.reduceBNe,Nat.reduceAdd,Nat.reduceMul,Nat.reduceSub,Nat.reduceLeDiff]
  have hup:(mkB (joinL init)).size ≤ 1048576:=by
   rw [mkB_size]
   unfold joinL
   split
   ·simp
   ·have:=e6
    unfold validL at this
    simp only [Bool.and_eq_true,decide_eq_true_eq] at this
    omega
  have hpi:partsL (mkB (joinL init)).data.toList=init:=by rw [mkB_data];exact (ok_join e6).2
  refine find_ok t G hup (fun r s h' h1 h2 h3 h4=>?_) (fun s l e h' h1 h2 h3 h4 h5=>?_)
  ·rw [hpi] at h3
   have hr:=(findP_some h1).2.2
   rw [hpi] at hr
   cases r with
   | file b sl oo hd2 ps =>
    unfold ifcR
    simp (disch:=(first | omega | (simp only [beq_iff_eq,sz_push,sz_put,SC,Nat.reduceAdd,Nat.reduceLeDiff];done) | (simp only [beq_iff_eq,ne_eq,sz_push,sz_put];omega) | assumption | fail)) only [ta_dirN,SXB,SX,reduceIte,Int.reduceLT,Int.reduceLE,Int.reduceToNat,Int.reduceBEq,Int.reduceBNe,Nat.reduceAdd,Nat.reduceMul,Nat.reduceSub,Nat.reduceLeDiff]
    exact fin 72 h' (by decide) h2
   | dir b m clk q c ks =>
    unfold ifcR
    have t2:=t.kp h2
    obtain ⟨g1,g2,g3⟩:=t2.tw.dir hr
    have lk:=look_kid t2.tw t2.ok hr last
    simp (disch:=(first | omega | (simp only [beq_iff_eq,sz_push,sz_put,SC,Nat.reduceAdd,Nat.reduceLeDiff];done) | (simp only [beq_iff_eq,ne_eq,sz_push,sz_put];omega) | assumption | fail)) only [ta_dir,g1,lk,SXB,SX,reduceIte,Int.reduceLT,Int.reduceLE,Int.reduceToNat,Int.reduceBEq,Int.reduceBNe,Nat.reduceAdd,Nat.reduceMul,Nat.reduceSub,Nat.reduceLeDiff]
    cases hs2:σ (init++[last]) with
    | some r2 =>
     simp (disch:=(first | omega | (simp only [beq_iff_eq,sz_push,sz_put,SC,Nat.reduceAdd,Nat.reduceLeDiff];done) | (simp only [beq_iff_eq,ne_eq,sz_push,sz_put];omega) | assumption | fail)) only [Option.isSome_some,SXB,SX,reduceIte,Int.reduceLT,Int.reduceLE,Int.reduceToNat,Int.reduceBEq,Int.reduceBNe,Nat.reduceAdd,Nat.reduceMul,Nat.reduceSub,Nat.reduceLeDiff]
     exact fin 71 h' (by decide) h2
    | none =>
     have hw:wayB σ (init++[last])=wayB σ init++[ptr b]:=by
      rw [wayB_snoc]
      congr 3
      unfold blkAt;rw [hr];rfl
     have hwl:=wayB_len σ init
     have hi16:init.length ≤ 16:=by have:=parts16 (mkB (joinL init));rw [hpi] at this;exact this
     obtain ⟨s',h'',a1,a2,a3,a4,a5⟩:=h3.append1 (v:=ptr b) (c:=#[ptr b]) (bytes:=8) (zero:=.pointer none) rfl h4 (by have:=h2.size;omega) (wayB_one σ init) rfl (by simp [one_pointer]) (by omega) (by omega) (by omega) rfl (by rw [hwl];omega)
     simp (disch:=(first | omega | (simp only [beq_iff_eq,sz_push,sz_put,SC,Nat.reduceAdd,Nat.reduceLeDiff];done) | (simp only [beq_iff_eq,ne_eq,sz_push,sz_put];omega) | assumption | fail)) only [Option.isSome_none,a1,SXB,SX,reduceIte,Int.reduceLT,Int.reduceLE,Int.reduceToNat,Int.reduceBEq,Int.reduceBNe,Nat.reduceAdd,Nat.reduceMul,Nat.reduceSub,Nat.reduceLeDiff]
     rw [← hw] at a2
     obtain ⟨h3',gu,gf,gs⟩:=a2.turn (P:=Tryd.prog) (by omega) (wayB_one σ _)
     have hne:slV (wayB σ (init++[last]))=VSl (wayB σ (init++[last])):=by
      rw [hw]
      cases wayB σ init <;> rfl
     rw [hne] at gu
     have hKK:Kp h.size h h3':=h2.trans ⟨by omega,fun k hk=>by
      have hks:blkOf s' ≠ some k:=fun e=>by have:=a2.key k e;omega
      rw [gf k hks]
      exact a4 k (by have:=h2.size;omega) fun e=>by have:=h3.key k e;omega⟩
     refine .inl ⟨_,_,h3',rfl,Gh.turn gu (.tuple (l:=[s',.string (mkB last),.int .i64 0]) (.cons .here (.cons (.same _) (.cons (.same _) .nil)))),hKK,?_,hok init last ⟨ho,e1,⟨_,_,_,_,_,_,hr⟩,hs2⟩⟩
     refine below_tup fun v hv=>?_
     simp only [List.mem_cons,List.not_mem_nil,or_false] at hv
     rcases hv with rfl | rfl | rfl
     ·exact below_vsl (by rw [flatC_way];exact wayB_below t.tw h0 _)
     ·exact .string _
     ·exact .int _ _
  ·have he:(e != 0)=true:=by simpa using h2
   simp (disch:=(first | omega | (simp only [beq_iff_eq,sz_push,sz_put,SC,Nat.reduceAdd,Nat.reduceLeDiff];done) | (simp only [beq_iff_eq,ne_eq,sz_push,sz_put];omega) | assumption | fail)) only [he,SXB,SX,reduceIte,Int.reduceLT,Int.reduceLE,Int.reduceToNat,Int.reduceBEq,Int.reduceBNe,Nat.reduceAdd,Nat.reduceMul,Nat.reduceSub,Nat.reduceLeDiff]
   exact fin e h' h2 h3
end Go.Proofs.YtgdnfoijhdpppaaDoor.L
end
section
namespace Go.Proofs.YtgdnfoijhdpppaaDoor.L
open Go.Ab Go.Tr Go.Mh Go.Proofs.YtgdnfoijhdpppaaDoor.X
set_option maxRecDepth 100000
theorem inv_dw {b:Nat} {h:AH} {k pk:Value→AH→Prop}:invokeP Tryd.prog (.iface 51 (ptr b)) "mahout/tree.weight" [] h k pk=HC Tryd.prog 102 [ptr b].toArray h (resK k pk):=by
 have hm:methodOf Tryd.prog 51 (ptr b) "mahout/tree.weight" = some (102,ptr b):=by kernel_rfl
 unfold invokeP
 simp only [hm]
 exact callP_func (P:=Tryd.prog) (f:=102) (a:=#[]) (b:=#[]) (args:=[ptr b]) (h:=h) (k:=k) (pk:=pk) (by kernel_rfl)
theorem inv_fw {b:Nat} {h:AH} {k pk:Value→AH→Prop}:invokeP Tryd.prog (.iface 56 (ptr b)) "mahout/tree.weight" [] h k pk=HC Tryd.prog 104 [ptr b].toArray h (resK k pk):=by
 have hm:methodOf Tryd.prog 56 (ptr b) "mahout/tree.weight" = some (104,ptr b):=by kernel_rfl
 unfold invokeP
 simp only [hm]
 exact callP_func (P:=Tryd.prog) (f:=104) (a:=#[]) (b:=#[]) (args:=[ptr b]) (h:=h) (k:=k) (pk:=pk) (by kernel_rfl)
def upd (σ:St) (p:Pt) (r:Row):St:=fun x=>if x=p then some r else σ x
theorem ent_congr {σ σ':St} (h:∀ x,ifc (σ' x)=ifc (σ x)) (p:Pt):ent σ' p=ent σ p:=by
 funext x
 unfold ent
 rw [h]
theorem RowH.congr {h:AH} {σ σ':St} {p:Pt} {r:Row} (x:RowH h σ p r) (hi:∀ x,ifc (σ' x)=ifc (σ x)):RowH h σ' p r:=by
 cases r with
 | file b sl o hd ps=>exact x
 | dir b m clk q c ks =>
  obtain ⟨h1,h2,h3⟩:=x
  exact ⟨h1,by rw [ent_congr hi];exact h2,h3⟩
theorem TW.setDir {h:AH} {lo:Nat} {σ:St} (t:TW h lo σ) {p:Pt} {b m clk:Nat} {q c q' c':Int} {ks:List (Nm × Nat)} (hp:σ p=some (.dir b m clk q c ks)) :
  TW (h.put b (some (.cells #[.int .i64 q',.int .i64 c',.map (some m)] 67 (0,0),none))) lo (upd σ p (.dir b m clk q' c' ks)):=by
 have hi:∀ x,ifc (upd σ p (.dir b m clk q' c' ks) x)=ifc (σ x):=by
  intro x
  unfold upd
  split
  ·rename_i e;subst e;rw [hp];rfl
  ·rfl
 have hown:∀ x r,upd σ p (.dir b m clk q' c' ks) x=some r→∃ r',σ x=some r'∧own r' = own r:=by
  intro x r hx
  unfold upd at hx
  split at hx
  ·rename_i e;subst e;cases hx;exact ⟨_,hp,rfl⟩
  ·exact ⟨r,hx,rfl⟩
 refine ⟨fun x r hx=>?_,fun x y r s k hx hy hr hs=>?_,fun x r k hx hr=>?_⟩
 ·unfold upd at hx
  split at hx
  ·rename_i e;subst e;cases hx
   obtain ⟨g1,g2,g3⟩:=t.dir hp
   exact ⟨get_put_eq rfl,by rw [get_put_ne (fun e=>g3 e.symm),ent_congr hi];exact g2,g3⟩
  ·rename_i e
   refine ((t.rows x r hx).mono fun k hk=>get_put_ne fun e2=>?_).congr hi
   subst e2
   exact e (t.apart _ _ _ _ k hx hp hk (by simp [own]))
 ·obtain ⟨r',h1,h2⟩:=hown x r hx
  obtain ⟨s',h3,h4⟩:=hown y s hy
  exact t.apart x y r' s' k h1 h3 (h2 ▸ hr) (h4 ▸ hs)
 ·obtain ⟨r',h1,h2⟩:=hown x r hx
  have:=t.bnd x r' k h1 (h2 ▸ hr)
  exact ⟨this.1,by simpa using this.2⟩
def addCn (l:Pt) (i:Nat) (w:Int) (σ:St):St:=fun p=>match σ p with
 | some (.dir b m clk q c ks)=>if within p l && decide (p.length < i) then some (.dir b m clk q (c + w) ks) else some (.dir b m clk q c ks)
 | r=>r
theorem addCn_zero (l:Pt) (w:Int) (σ:St):addCn l 0 w σ=σ:=by
 funext p
 unfold addCn
 cases h:σ p with
 | none=>rfl
 | some r=>cases r <;> simp
theorem within_len {p l:Pt} (h:within p l=true):p.length ≤ l.length∧p=l.take p.length:=by
 obtain ⟨r,rfl⟩:=Tr.within_iff.1 h
 simp
theorem addCn_all (l:Pt) (w:Int) (σ:St):addCn l (l.length + 1) w σ=addC l w σ:=by
 funext p
 unfold addCn addC
 cases h:σ p with
 | none=>rfl
 | some r=>cases r with
  | file b sl o hd ps=>rfl
  | dir b m clk q c ks =>
   cases hw:within p l with
   | false=>simp
   | true =>
    have:=(within_len hw).1
    have e:p.length < l.length + 1:=by omega
    simp [e]
theorem take_within (l:Pt) (i:Nat):within (l.take i) l=true:=Tr.within_iff.2 ⟨l.drop i,by simp⟩
theorem addCn_at {l:Pt} {i:Nat} {w:Int} {σ:St} (hi:i ≤ l.length) {b m clk:Nat} {q c:Int} {ks:List (Nm × Nat)} (h:σ (l.take i)=some (.dir b m clk q c ks)):addCn l i w σ (l.take i)=some (.dir b m clk q c ks):=by
 unfold addCn
 rw [h]
 have:(l.take i).length=i:=by simp;omega
 simp [this]
theorem addCn_succ {l:Pt} {i:Nat} {w:Int} {σ:St} (hi:i ≤ l.length) {b m clk:Nat} {q c:Int} {ks:List (Nm × Nat)} (h:σ (l.take i)=some (.dir b m clk q c ks)) :
  upd (addCn l i w σ) (l.take i) (.dir b m clk q (c + w) ks)=addCn l (i + 1) w σ:=by
 funext p
 have hlen:(l.take i).length=i:=by simp;omega
 unfold upd
 split
 ·rename_i e
  subst e
  unfold addCn
  rw [h]
  simp [take_within,hlen]
 ·rename_i e
  unfold addCn
  split
  ·rename_i hs
   cases hw:within p l with
   | false=>simp
   | true =>
    obtain ⟨h1,h2⟩:=within_len hw
    have:p.length ≠ i:=fun e2=>e (by rw [h2,e2])
    have e3:decide (p.length < i)=decide (p.length < i + 1):=by rw [decide_eq_decide];omega
    rw [e3]
  ·rfl
theorem addCn_own {l:Pt} {i:Nat} {w:Int} {σ:St} {p:Pt} {r:Row} (h:addCn l i w σ p=some r):∃ r',σ p=some r'∧own r' = own r∧ifcR r' = ifcR r:=by
 unfold addCn at h
 split at h
 ·rename_i hs
  split at h
  ·cases h;exact ⟨_,hs,rfl,rfl⟩
  ·cases h;exact ⟨_,hs,rfl,rfl⟩
 ·exact ⟨r,h,rfl,rfl⟩
end Go.Proofs.YtgdnfoijhdpppaaDoor.L
end
