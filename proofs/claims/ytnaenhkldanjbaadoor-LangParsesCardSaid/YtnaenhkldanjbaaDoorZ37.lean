import Derived.Test.YtnaenhkldanjbaaDoorZ33
import Derived.Test.YtnaenhkldanjbaaDoorZ36
set_option linter.unusedVariables false
set_option linter.unusedSimpArgs false
section
namespace Go.Proofs.YtnaenhkldanjbaaDoor.L
open Go.Ab Go.Lang Go.Proofs.YtnaenhkldanjbaaDoor.X
set_option maxRecDepth 100000
theorem span_ge (p:UInt8→Bool) (s:ByteArray):∀ (n i:Nat),i ≤ span p s n i∧(i ≤ s.size→span p s n i ≤ s.size):=by
 intro n
 induction n with
 | zero=>intro i;exact ⟨Nat.le_refl _,id⟩
 | succ n ih =>
  intro i
  unfold span
  split
  ·split
   ·have:=ih (i + 1)
    exact ⟨by omega,fun _=>this.2 (by omega)⟩
   ·exact ⟨Nat.le_refl _,id⟩
  ·exact ⟨Nat.le_refl _,id⟩
theorem quotedF_ge {s:ByteArray}:∀ {n i:Nat} {acc l:List UInt8} {k:Nat},quotedF s n i acc=some (l,k)→i < k∧k ≤ s.size:=by
 intro n
 induction n with
 | zero=>intro i acc l k h;cases h
 | succ n ih =>
  intro i acc l k h
  unfold quotedF at h
  split at h
  ·simp only at h
   split at h
   ·cases h;omega
   ·split at h
    ·cases h
    ·split at h
     ·split at h
      ·split at h
       ·have:=ih h;omega
       ·cases h
      ·cases h
     ·have:=ih h;omega
  ·cases h
theorem SPf.cons {Q:RQ} {h:AH} {toks:List Tok} {t:Tok} {rs:Except Nat (List Tok)} (hq:SPf Q h toks (match rs with | .ok l=>.ok (t::l) | .error e=>.error e)):SPf Q h (toks++[t]) rs:=by
 cases rs with
 | ok l=>exact fun h' v K O hb=>hq h' v K (by simpa using O) hb
 | error e=>exact hq
theorem scan_loop {h:AH} {s:ByteArray} (hs:s.size ≤ 4096) {Q:RQ}:∀ (n i:Nat) (h1:AH) (c:Array Value) (toks:List Tok) (tv:Value),s.size - i + 1 ≤ n→i ≤ s.size→toks.length ≤ i→SC h h1 c toks tv→SPf Q h toks (scanF s n i) →
  H9_5 (.string s) (.pointer (some ⟨h.size,0,none⟩)) tv (.int .i64 i) (.pointer (some ⟨h.size + 1,0,none⟩)) h1 Q:=by
 intro n
 induction n with
 | zero=>intro i h1 c toks tv hn;omega
 | succ n ih =>
  intro i h1 c toks tv hn hi ha X hq
  refine X9_5_ok ?_
  unfold X9_5
  unfold scanF at hq
  generalize hs3:stN 3=s3
  generalize hs2:stN 2=s2
  generalize hl2:ldN 2=l2
  by_cases hlt:i < s.size
  ·have e:(i:Int) < s.size:=by omega
   have e0:=ixS_at rfl (at_bang hlt)
   have w1:IntKind.i64.wrap ((i:Int) + 1)=((i + 1:Nat):Int):=by rw [wrap64 (by omega) (by omega)];omega
   have e2:((i:Int) == (s.size:Nat))=false:=by simp;omega
   rw [if_pos hlt] at hq
   have step:∀ t k,tokF s i=some (t,k)→SPf Q h toks (match tokF s i with | none=>.error i | some (t,k)=>match scanF s n k with | .ok l=>.ok (t::l) | .error e=>.error e)→i < k→k ≤ s.size→∀ h2 c2 tv2,SC h h2 c2 (toks++[t]) tv2→H9_5 (.string s) (.pointer (some ⟨h.size,0,none⟩)) tv2 (.int .i64 k) (.pointer (some ⟨h.size + 1,0,none⟩)) h2 Q:=fun t k ht hq h1 h2 h3 c2 tv2 Y=>by
    rw [ht] at hq
    exact ih k h3 c2 (toks++[t]) tv2 (by omega) h2 (by simp;omega) Y hq.cons
   have bad:tokF s i=none→SPf Q h toks (match tokF s i with | none=>.error i | some (t,k)=>match scanF s n k with | .ok l=>.ok (t::l) | .error e=>.error e)→∀ h2 c2,SC h h2 c2 toks tv→G9_31 (.string s) (.pointer (some ⟨h.size,0,none⟩)) tv (.int .i64 i) (.pointer (some ⟨h.size + 1,0,none⟩)) h2 Q:=fun ht hq h2 c2 Y=>by
    rw [ht] at hq
    exact scan_bad Y hq
   simp (disch:=(first | exact dz | fail)) only [e,e0,SXB,SX,reduceIte,Int.reduceLT,Int.reduceLE,Int.reduceToNat,Int.reduceBEq,Int.reduceBNe,Nat.reduceAdd,Nat.reduceMul,Nat.reduceSub,Nat.reduceLeDiff]
   refine HC.exact (indexByte_ok _ s[i]!) ?_
   have eb:=blank_ix s[i]!
   cases hb:Lang.blank s[i]! with
   | true =>
    rw [hb] at eb
    have eb':Lib.indexByte (ByteArray.mk #[32,9,13,10]).data.toList s[i]! ≥ 0:=of_decide_eq_true eb
    rw [if_pos hb] at hq
    simp (disch:=(first | exact dz | fail)) only [eb',w1,SXB,SX,reduceIte,Int.reduceLT,Int.reduceLE,Int.reduceToNat,Int.reduceBEq,Int.reduceBNe,Nat.reduceAdd,Nat.reduceMul,Nat.reduceSub,Nat.reduceLeDiff]
    exact ih (i + 1) h1 c toks tv (by omega) (by omega) (by omega) X hq
   | false =>
    rw [hb] at eb
    have eb':¬ (Lib.indexByte (ByteArray.mk #[32,9,13,10]).data.toList s[i]! ≥ 0):=of_decide_eq_false eb
    rw [if_neg (by simp [hb])] at hq
    have e7:bdF #[.int .i64 0,.int .i64 0,.string ⟨#[]⟩] [(1,1,.int .i64 (i:Nat))]=some #[.int .i64 0,.int .i64 (i:Nat),.string ⟨#[]⟩]:=by rfl
    simp (disch:=(first | exact dz | fail)) only [eb',e2,e7,w1,e0,SXB,SX,reduceIte,Int.reduceLT,Int.reduceLE,Int.reduceToNat,Int.reduceBEq,Int.reduceBNe,Nat.reduceAdd,Nat.reduceMul,Nat.reduceSub,Nat.reduceLeDiff]
    subst hs3 hs2 hl2
    refine bq_of (stN_full X.tok X.csz rfl (fun z hz=>by simp [Value.cells] at hz;rcases hz with rfl | rfl | rfl <;> rfl)) ?_
    have X1:SC h (h1.put (h.size + 1) (some (.cells (Value.agg #[.int .i64 0,.int .i64 (i:Nat),.string ⟨#[]⟩]).cells 52 (0,0),none))) #[.int .i64 0,.int .i64 (i:Nat),.string ⟨#[]⟩] toks tv:=X.put rfl
    generalize h1.put (h.size + 1) (some (.cells (Value.agg #[.int .i64 0,.int .i64 (i:Nat),.string ⟨#[]⟩]).cells 52 (0,0),none))=h3 at X1 ⊢
    have ei:(i:Int) + 1=((i + 1:Nat):Int):=by omega
    try rw [ei]
    have gt:=X1.tok
    have ht:toks.length ≤ 5000:=by omega
    refine HC.exact (letter_ok s[i]!) ?_
    cases hl:Lang.letter s[i]! with
    | true =>
     have T:tokF s i=some (⟨1,i,s.extract i (span alnum s s.size (i + 1))⟩,span alnum s s.size (i + 1)):=by
      unfold tokF;simp only [hl,if_true]
     have sp:=span_ge alnum s s.size (i + 1)
     simp (disch:=(first | exact dz | fail)) only [gt,SXB,SX,reduceIte,Int.reduceLT,Int.reduceLE,Int.reduceToNat,Int.reduceBEq,Int.reduceBNe,Nat.reduceAdd,Nat.reduceMul,Nat.reduceSub,Nat.reduceLeDiff]
     refine word_loop hs s.size (i + 1) _ (by omega) (by omega) (X1.put (c':=#[.int .i64 (1:Nat),.int .i64 (i:Nat),.string ⟨#[]⟩]) rfl) fun h2 X3=>?_
     exact tok_cut (x:=.nilIface) (y:=.nilIface) X3 ht (by omega) (by omega) (sp.2 (by omega)) (step _ _ T hq (by omega) (sp.2 (by omega)))
    | false =>
     simp (disch:=(first | exact dz | fail)) only [SXB,SX,reduceIte,Int.reduceLT,Int.reduceLE,Int.reduceToNat,Int.reduceBEq,Int.reduceBNe,Nat.reduceAdd,Nat.reduceMul,Nat.reduceSub,Nat.reduceLeDiff]
     refine HC.exact (digit_ok s[i]!) ?_
     cases hd:Lang.digit s[i]! with
     | true =>
      simp (disch:=(first | exact dz | fail)) only [gt,SXB,SX,reduceIte,Int.reduceLT,Int.reduceLE,Int.reduceToNat,Int.reduceBEq,Int.reduceBNe,Nat.reduceAdd,Nat.reduceMul,Nat.reduceSub,Nat.reduceLeDiff]
      have T:tokF s i=let k:=span digit s s.size (i + 1);if 9 < k - i || (1 < k - i && s[i]! == 48) then none else some (⟨2,i,s.extract i k⟩,k):=by
       unfold tokF;simp only [hl,hd,if_true,Bool.false_eq_true,if_false]
      have sp:=span_ge digit s s.size (i + 1)
      have bnd:∀ t k,tokF s i=some (t,k)→i < k∧k ≤ s.size:=fun t k hk=>by
       rw [T] at hk
       simp only at hk
       split at hk
       ·cases hk
       ·cases hk;exact ⟨by omega,sp.2 (by omega)⟩
      exact num_loop hs hlt (tokF s i) s.size (i + 1) _ (by omega) (by omega) (by omega) (X1.put (c':=#[.int .i64 (2:Nat),.int .i64 (i:Nat),.string ⟨#[]⟩]) rfl) ht T (fun h2 c2 tv2 t k hk Y=>step t k hk hq (bnd t k hk).1 (bnd t k hk).2 h2 c2 tv2 Y) fun h2 c2 hk Y=>bad hk hq h2 c2 Y
     | false =>
      have u0:=u_eq s[i]! 34 (by omega)
      cases hqt:s[i]! == 34 with
      | true =>
       have u0':((s[i]!.toNat:Int) == 34)=true:=u0.trans hqt
       simp (disch:=(first | exact dz | fail)) only [gt,u0',SXB,SX,reduceIte,Int.reduceLT,Int.reduceLE,Int.reduceToNat,Int.reduceBEq,Int.reduceBNe,Nat.reduceAdd,Nat.reduceMul,Nat.reduceSub,Nat.reduceLeDiff]
       have X2:=X1.put (c':=#[.int .i64 (3:Nat),.int .i64 (i:Nat),.string ⟨#[]⟩]) rfl
       have T:tokF s i=match quotedF s s.size (i + 1) [] with
         | some (l,k)=>some (⟨3,i,⟨l.toArray⟩⟩,k)
         | none=>none:=by
        unfold tokF;simp only [hl,hd,hqt,if_true,Bool.false_eq_true,if_false];rfl
       refine quoted_ok hs (n:=s.size) (by omega) (by omega) fun h4 K4=>?_
       have X3:=X2.keep K4
       have g3:=X3.tok
       cases hqq:quotedF s s.size (i + 1) [] with
       | none =>
        rw [hqq] at T
        simp only at T
        simp (disch:=(first | exact dz | fail)) only [qres,g3,SXB,SX,reduceIte,Int.reduceLT,Int.reduceLE,Int.reduceToNat,Int.reduceBEq,Int.reduceBNe,Nat.reduceAdd,Nat.reduceMul,Nat.reduceSub,Nat.reduceLeDiff]
        exact bad T hq _ _ (X3.put (c':=#[.int .i64 (3:Nat),.int .i64 (i:Nat),.string ⟨#[]⟩]) rfl)
       | some y =>
        obtain ⟨l,k⟩:=y
        rw [hqq] at T
        simp only at T
        have kb:=quotedF_ge hqq
        have e9:¬ ((k:Int) < 0):=by omega
        simp (disch:=(first | exact dz | fail)) only [qres,g3,e9,SXB,SX,reduceIte,Int.reduceLT,Int.reduceLE,Int.reduceToNat,Int.reduceBEq,Int.reduceBNe,Nat.reduceAdd,Nat.reduceMul,Nat.reduceSub,Nat.reduceLeDiff]
        refine X9_27_ok ?_
        unfold X9_27
        have X4:=X3.put (c':=#[.int .i64 (3:Nat),.int .i64 (i:Nat),.string ⟨l.toArray⟩]) rfl
        have g4:=X4.tok
        simp (disch:=(first | exact dz | fail)) only [g4,SXB,SX,reduceIte,Int.reduceLT,Int.reduceLE,Int.reduceToNat,Int.reduceBEq,Int.reduceBNe,Nat.reduceAdd,Nat.reduceMul,Nat.reduceSub,Nat.reduceLeDiff]
        exact tok_done (t:=⟨3,i,⟨l.toArray⟩⟩) X4 ht (step _ _ T hq (by omega) kb.2)
      | false =>
       have u0':((s[i]!.toNat:Int) == 34)=false:=u0.trans hqt
       simp (disch:=(first | exact dz | fail)) only [gt,u0',SXB,SX,reduceIte,Int.reduceLT,Int.reduceLE,Int.reduceToNat,Int.reduceBEq,Int.reduceBNe,Nat.reduceAdd,Nat.reduceMul,Nat.reduceSub,Nat.reduceLeDiff]
       refine HC.exact (indexByte_ok _ s[i]!) ?_
       have em:=mark_ix s[i]!
       cases hm:Lang.isMark s[i]! with
       | true =>
        rw [hm] at em
        have em':Lib.indexByte (ByteArray.mk #[123,125,40,41,44,59,61]).data.toList s[i]! ≥ 0:=of_decide_eq_true em
        have T:tokF s i=some (⟨4,i,s.extract i (i + 1)⟩,i + 1):=by
         unfold tokF;simp only [hl,hd,hqt,hm,if_true,Bool.false_eq_true,if_false]
        simp (disch:=(first | exact dz | fail)) only [em',gt,SXB,SX,reduceIte,Int.reduceLT,Int.reduceLE,Int.reduceToNat,Int.reduceBEq,Int.reduceBNe,Nat.reduceAdd,Nat.reduceMul,Nat.reduceSub,Nat.reduceLeDiff]
        exact tok_cut (x:=.nilIface) (y:=.nilIface) (X1.put (c':=#[.int .i64 (4:Nat),.int .i64 (i:Nat),.string ⟨#[]⟩]) rfl) ht (by omega) (by omega) (by omega) (step _ _ T hq (by omega) (by omega))
       | false =>
        rw [hm] at em
        have em':¬ (Lib.indexByte (ByteArray.mk #[123,125,40,41,44,59,61]).data.toList s[i]! ≥ 0):=of_decide_eq_false em
        have T:tokF s i=none:=by
         unfold tokF;simp only [hl,hd,hqt,hm,Bool.false_eq_true,if_false]
        simp (disch:=(first | exact dz | fail)) only [em',gt,SXB,SX,reduceIte,Int.reduceLT,Int.reduceLE,Int.reduceToNat,Int.reduceBEq,Int.reduceBNe,Nat.reduceAdd,Nat.reduceMul,Nat.reduceSub,Nat.reduceLeDiff]
        exact bad T hq _ _ X1
  ·have e:¬ ((i:Int) < s.size):=by omega
   have hie:i=s.size:=by omega
   have e2:((i:Int) == (s.size:Nat))=true:=by simp;omega
   rw [if_neg hlt] at hq
   simp (disch:=(first | exact dz | fail)) only [e,e2,SXB,SX,reduceIte,Int.reduceLT,Int.reduceLE,Int.reduceToNat,Int.reduceBEq,Int.reduceBNe,Nat.reduceAdd,Nat.reduceMul,Nat.reduceSub,Nat.reduceLeDiff]
   subst hs2 hl2 hs3
   refine bq_of (x:=.agg #[.int .i64 0,.int .i64 (i:Nat),.string ⟨#[]⟩]) rfl ?_
   refine bq_of (x:=(Value.slice (some ⟨h1.size,0,none⟩) 1 1,h1.push (.cells #[.int .i64 0,.int .i64 (i:Nat),.string ⟨#[]⟩] 52 (0,0)) none)) rfl ?_
   have hl:(toks.map encT).length=toks.length:=by simp
   have hsz:=X.size
   obtain ⟨s',h2,q1,q2,q3,q4,q5⟩:=X.out.append1 (v:=encT ⟨0,s.size,empty⟩) (c:=#[.int .i64 0,.int .i64 (i:Nat),.string ⟨#[]⟩]) (bytes:=32) (zero:=.agg #[.int .i64 0,.int .i64 0,.string ⟨#[]⟩]) (by rw [hie];rfl) X.lt hsz (fun v hv=>by
    obtain ⟨d,_,rfl⟩:=List.mem_map.1 hv;rfl) rfl (fun z hz=>by simp at hz;rcases hz with rfl | rfl | rfl <;> rfl) (by omega) (by omega) (by omega) rfl (by omega)
   refine bq_of q1 ?_
   have g:∀ k,k < h.size + 2→h2.get k=h1.get k:=fun k hk=>q4 k (by omega) fun e=>by have:=X.out.key k e;omega
   have K:=X.K
   refine bq_of (stN_full ((g _ (by omega)).trans X.err) rfl rfl (fun z hz=>by simp [Value.cells] at hz;rcases hz with rfl | rfl <;> rfl)) ?_
   rw [ldN_full (n:=2) (get_put_eq rfl) rfl]
   simp (disch:=(first | exact dz | fail)) only [SXB,SX,reduceIte,Int.reduceLT,Int.reduceLE,Int.reduceToNat,Int.reduceBEq,Int.reduceBNe,Nat.reduceAdd,Nat.reduceMul,Nat.reduceSub,Nat.reduceLeDiff]
   refine hq _ _ ⟨by rw [sz_put];exact Nat.le_trans K.size q3,fun k hk=>?_⟩ ?_ ?_
   ·rw [get_put_ne (by omega)]
    exact (g k (by omega)).trans (K.get k hk)
   ·rw [List.map_append]
    exact q2.mono fun k hk=>get_put_ne (by have:=q2.key k hk;omega)
   ·intro k hk
    rw [sz_put]
    rcases q5 with e | ⟨k',e,h1,h3⟩
    ·rw [e] at hk;exact Nat.lt_of_lt_of_le (X.lt k hk) q3
    ·rw [e] at hk;cases hk;exact h3
theorem scan_ok {h:AH} {s:ByteArray} (hs:s.size ≤ 4096) {Q:RQ} (hq:SPf Q h [] (scanF s (s.size + 1) 0)):HC Tryd.prog 9 [.string s].toArray h Q:=by
 refine X9_ok ?_
 unfold X9
 simp (disch:=(first | exact dz | fail)) only [SXB,SX,reduceIte,Int.reduceLT,Int.reduceLE,Int.reduceToNat,Int.reduceBEq,Int.reduceBNe,Nat.reduceAdd,Nat.reduceMul,Nat.reduceSub,Nat.reduceLeDiff]
 refine XE9_1_ok ?_
 unfold XE9_1
 simp (disch:=(first | exact dz | fail)) only [SXB,SX,reduceIte,Int.reduceLT,Int.reduceLE,Int.reduceToNat,Int.reduceBEq,Int.reduceBNe,Nat.reduceAdd,Nat.reduceMul,Nat.reduceSub,Nat.reduceLeDiff]
 refine XS9_5_ok ?_
 unfold XS9_5
 have X0:SC h ((h.push (.cells #[.int .i64 0,.int .i64 0] 26 (0,0)) none).push (.cells #[.int .i64 0,.int .i64 0,.string ⟨#[]⟩] 52 (0,0)) none) #[.int .i64 0,.int .i64 0,.string ⟨#[]⟩] [] (.slice none 0 0):=by
  refine ⟨?_,get_push_eq (by simp),rfl,.nil,fun k hk=>(nomatch hk),by simp,?_⟩
  ·rw [get_push_ne (by simp)];exact get_push_eq rfl
  ·(repeat (first | exact Kp.refl _ _ | assumption | refine Kp.push ?_ _ _ (by first | omega | (simp only [sz_push,sz_put];omega)) | refine Kp.put ?_ _ _ (by first | omega | (simp only [sz_push,sz_put];omega))))
 exact scan_loop hs (s.size + 1) 0 _ _ [] (.slice none 0 0) (by omega) (Nat.zero_le _) (Nat.le_refl _) X0 hq
end Go.Proofs.YtnaenhkldanjbaaDoor.L
end
section
namespace Go.Proofs.YtnaenhkldanjbaaDoor.L
open Go.Ab Go.Lang Go.Proofs.YtnaenhkldanjbaaDoor.X
theorem span_all (p:UInt8→Bool) (s:ByteArray):∀ (n i j:Nat),i ≤ j→j < span p s n i→p s[j]! = true:=by
 intro n
 induction n with
 | zero=>intro i j h1 h2;unfold span at h2;omega
 | succ n ih =>
  intro i j h1 h2
  unfold span at h2
  split at h2
  ·split at h2
   ·rename_i h3
    by_cases e:j=i
    ·rw [e];exact h3
    ·exact ih (i + 1) j (by omega) h2
   ·omega
  ·omega
theorem extract_mem {s:ByteArray} {i k:Nat} {c:UInt8} (h:c ∈ (s.extract i k).data.toList):∃ j,i ≤ j∧j < k∧j < s.size∧s[j]! = c:=by
 rw [ByteArray.data_extract,Array.mem_toList_iff] at h
 obtain ⟨n,hn,rfl⟩:=Array.mem_iff_getElem.1 h
 rw [Array.size_extract] at hn
 have hsz:s.data.size=s.size:=rfl
 refine ⟨i + n,by omega,by omega,by omega,?_⟩
 rw [getElem!_pos s (i + n) (by omega)]
 simp [ByteArray.getElem_eq_getElem_data]
theorem extract_size {s:ByteArray} {i k:Nat} (h:i ≤ k) (hk:k ≤ s.size):(s.extract i k).size=k - i:=by
 rw [ByteArray.size_extract];omega
theorem quotedF_len {s:ByteArray}:∀ {n i:Nat} {acc l:List UInt8} {k:Nat},quotedF s n i acc=some (l,k)→acc.length ≤ i→l.length ≤ s.size:=by
 intro n
 induction n with
 | zero=>intro i acc l k h;cases h
 | succ n ih =>
  intro i acc l k h ha
  unfold quotedF at h
  split at h
  ·simp only at h
   split at h
   ·cases h;omega
   ·split at h
    ·cases h
    ·split at h
     ·split at h
      ·split at h
       ·exact ih h (by simp;omega)
       ·cases h
      ·cases h
     ·exact ih h (by simp;omega)
  ·cases h
theorem tokF_ok {s:ByteArray} (hs:s.size ≤ 4096) {i k:Nat} {t:Tok} (hi:i < s.size) (h:tokF s i=some (t,k)):TokGood t∧i < k∧k ≤ s.size:=by
 unfold tokF at h
 simp only at h
 by_cases hl:letter s[i]! = true
 ·rw [if_pos hl] at h
  cases h
  have sp:=span_ge alnum s s.size (i + 1)
  have sz:=extract_size (s:=s) (i:=i) (k:=span alnum s s.size (i + 1)) (by omega) (sp.2 (by omega))
  refine ⟨⟨by simp,by simp,by show i ≤ 4096;omega,fun _ c hc=>?_,fun h=>(by cases h),by show (s.extract i _).size ≤ 4096;omega⟩,by omega,sp.2 (by omega)⟩
  obtain ⟨j,h1,h2,h3,rfl⟩:=extract_mem hc
  by_cases e:j=i
  ·rw [e];unfold alnum;rw [hl];rfl
  ·exact span_all alnum s _ (i + 1) j (by omega) h2
 rw [if_neg hl] at h
 by_cases hd:digit s[i]! = true
 ·rw [if_pos hd] at h
  have sp:=span_ge digit s s.size (i + 1)
  have sz:=extract_size (s:=s) (i:=i) (k:=span digit s s.size (i + 1)) (by omega) (sp.2 (by omega))
  split at h
  ·cases h
  ·rename_i hc0
   cases h
   have h9:¬ (9 < span digit s s.size (i + 1) - i):=fun e=>hc0 (by simp [e])
   refine ⟨⟨by simp,by simp,by show i ≤ 4096;omega,fun h=>(by cases h),fun _=>⟨by show 0 < (s.extract i _).size;omega,by show (s.extract i _).size ≤ 9;omega,fun c hc=>?_⟩,by show (s.extract i _).size ≤ 4096;omega⟩,by omega,sp.2 (by omega)⟩
   obtain ⟨j,h1,h2,h3,rfl⟩:=extract_mem hc
   by_cases e:j=i
   ·rw [e];exact hd
   ·exact span_all digit s _ (i + 1) j (by omega) h2
 rw [if_neg hd] at h
 by_cases hq:(s[i]! == 34)=true
 ·rw [if_pos hq] at h
  split at h
  ·rename_i l k' hqq
   cases h
   have:=quotedF_ge hqq
   have hlen:=quotedF_len hqq (Nat.zero_le _)
   exact ⟨⟨by simp,by simp,by show i ≤ 4096;omega,fun h=>(by cases h),fun h=>(by cases h),by show l.toArray.size ≤ 4096;simp;omega⟩,by omega,this.2⟩
  ·cases h
 rw [if_neg hq] at h
 split at h
 ·cases h
  have sz:=extract_size (s:=s) (i:=i) (k:=i + 1) (by omega) (by omega)
  exact ⟨⟨by simp,by simp,by show i ≤ 4096;omega,fun h=>(by cases h),fun h=>(by cases h),by show (s.extract i _).size ≤ 4096;omega⟩,by omega,by omega⟩
 ·cases h
theorem scanF_ok {s:ByteArray} (hs:s.size ≤ 4096):∀ (n i:Nat) (l:List Tok),i ≤ s.size→scanF s n i=.ok l→TokOK l∧l.length ≤ s.size - i + 1:=by
 intro n
 induction n with
 | zero=>intro i l _ h;cases h
 | succ n ih =>
  intro i l hi h
  unfold scanF at h
  split at h
  ·rename_i hlt
   split at h
   ·have:=ih _ _ (by omega) h
    exact ⟨this.1,by omega⟩
   ·split at h
    ·cases h
    ·rename_i t k ht
     have:=tokF_ok hs hlt ht
     split at h
     ·rename_i l' hl'
      cases h
      have h2:=ih _ _ this.2.2 hl'
      exact ⟨.cons this.1 h2.1,by simp;omega⟩
     ·cases h
  ·cases h
   exact ⟨.one _ rfl rfl (by show s.size ≤ 4096;omega),by simp⟩
end Go.Proofs.YtnaenhkldanjbaaDoor.L
end
section
namespace Go.Proofs.YtnaenhkldanjbaaDoor.L
open Go.Ab Go.Lang Go.Proofs.YtnaenhkldanjbaaDoor.X
set_option maxRecDepth 100000
theorem rletter_ok {h:AH} (c:UInt8):Ex Tryd.prog 29 [.int .u8 c.toNat].toArray h (.bool (Lang.letter c)) h:=by
 refine X29_ok ?_
 have e1:=u_ge97 c
 have e2:=u_le122 c
 have e3:=u_ge65 c
 have e4:=u_le90 c
 unfold Lang.letter
 generalize decide ((97:UInt8) ≤ c)=b1 at e1 ⊢
 generalize decide (c ≤ (122:UInt8))=b2 at e2 ⊢
 generalize decide ((65:UInt8) ≤ c)=b3 at e3 ⊢
 generalize decide (c ≤ (90:UInt8))=b4 at e4 ⊢
 unfold X29
 cases b1 <;> cases b2 <;> cases b3 <;> cases b4 <;> simp (disch:=(first | exact dz | fail)) only [e1,e2,e3,e4,SXB,SX,reduceIte,Int.reduceLT,Int.reduceLE,Int.reduceToNat,Int.reduceBEq,Int.reduceBNe,Nat.reduceAdd,Nat.reduceMul,Nat.reduceSub,Nat.reduceLeDiff] <;> first | done | exact ⟨rfl,rfl⟩
theorem rdigit_ok {h:AH} (c:UInt8):Ex Tryd.prog 30 [.int .u8 c.toNat].toArray h (.bool (Lang.digit c)) h:=by
 refine X30_ok ?_
 have e1:=u_ge48 c
 have e2:=u_le57 c
 unfold Lang.digit
 generalize decide ((48:UInt8) ≤ c)=b1 at e1 ⊢
 generalize decide (c ≤ (57:UInt8))=b2 at e2 ⊢
 unfold X30
 cases b1 <;> cases b2 <;> simp (disch:=(first | exact dz | fail)) only [e1,e2,SXB,SX,reduceIte,Int.reduceLT,Int.reduceLE,Int.reduceToNat,Int.reduceBEq,Int.reduceBNe,Nat.reduceAdd,Nat.reduceMul,Nat.reduceSub,Nat.reduceLeDiff] <;> first | done | exact ⟨rfl,rfl⟩
structure SCR (h h1:AH) (toks:List Tok) (tv:Value):Prop where
 K:Kp h.size h h1
 out:Hld 72 3 h1 h.size tv (toks.map encT)
 lt:∀ k,blkOf tv=some k→k < h1.size
theorem SCR.keep {h h1 h2:AH} {toks:List Tok} {tv:Value} (x:SCR h h1 toks tv) (K:Kp h1.size h1 h2):SCR h h2 toks tv :=
 ⟨⟨Nat.le_trans x.K.size K.size,fun k hk=>(K.get k (Nat.lt_of_lt_of_le hk x.K.size)).trans (x.K.get k hk)⟩,x.out.mono fun k hk=>K.get k (x.lt k hk),fun k hk=>Nat.lt_of_lt_of_le (x.lt k hk) K.size⟩
def SPr (Q:RQ) (h:AH) (toks:List Tok) (rs:Except Nat (List Tok)):Prop:=match rs with
 | .ok l=>∀ h' v,Kp h.size h h'→Hld 72 3 h' h.size v ((toks++l).map encT)→(∀ k,blkOf v=some k→k < h'.size)→Q (.ret (.tuple #[v,.int .i64 (-1)])) h'
 | .error j=>∀ h',Kp h.size h h'→Q (.ret (.tuple #[.slice none 0 0,.int .i64 (j:Nat)])) h'
theorem SPr.cons {Q:RQ} {h:AH} {toks:List Tok} {t:Tok} {rs:Except Nat (List Tok)} (hq:SPr Q h toks (match rs with | .ok l=>.ok (t::l) | .error e=>.error e)):SPr Q h (toks++[t]) rs:=by
 cases rs with
 | ok l=>exact fun h' v K O hb=>hq h' v K (by simpa using O) hb
 | error e=>exact hq
theorem rtok_push {h h1:AH} {toks:List Tok} {tv:Value} (t:Tok) (x:SCR h h1 toks tv) (ht:toks.length ≤ 5000) :
  ∃ s' h2,apT 72 3 32 (some (.agg #[.int .i64 0,.int .i64 0,.string ⟨#[]⟩])) (h1.push (.cells #[.int .i64 t.cls,.int .i64 t.at_,.string t.text] 72 (0,0)) none) tv (.slice (some ⟨h1.size,0,none⟩) 1 1)=some (s',h2)∧SCR h h2 (toks++[t]) s':=by
 have hl:(toks.map encT).length=toks.length:=by simp
 obtain ⟨s',h2,q1,q2,q3,q4,q5⟩:=x.out.append1 (v:=encT t) (c:=#[.int .i64 t.cls,.int .i64 t.at_,.string t.text]) (bytes:=32) (zero:=.agg #[.int .i64 0,.int .i64 0,.string ⟨#[]⟩]) rfl x.lt x.K.size (fun v hv=>by
  obtain ⟨d,_,rfl⟩:=List.mem_map.1 hv;rfl) rfl (fun z hz=>by simp at hz;rcases hz with rfl | rfl | rfl <;> rfl) (by omega) (by omega) (by omega) rfl (by omega)
 refine ⟨s',h2,q1,⟨Nat.le_trans x.K.size q3,fun k hk=>(q4 k (Nat.lt_of_lt_of_le hk x.K.size) fun e=>by have:=x.out.key k e;omega).trans (x.K.get k hk)⟩,by rw [List.map_append];exact q2,fun k hk=>?_⟩
 rcases q5 with e | ⟨k',e,h1,h3⟩
 ·rw [e] at hk;exact Nat.lt_of_lt_of_le (x.lt k hk) q3
 ·rw [e] at hk;cases hk;exact h3
theorem rtok_done {h h1:AH} {toks:List Tok} {s:ByteArray} {tv:Value} {t:Tok} {k:Nat} {Q:RQ} (x:SCR h h1 toks tv) (ht:toks.length ≤ 5000)
  (next:∀ h2 tv2,SCR h h2 (toks++[t]) tv2→H12_3 (.string s) tv2 (.int .i64 k) h2 Q) :
  bq (apT 72 3 32 (some (.agg #[.int .i64 0,.int .i64 0,.string ⟨#[]⟩])) (h1.push (.cells #[.int .i64 t.cls,.int .i64 t.at_,.string t.text] 72 (0,0)) none) tv (.slice (some ⟨h1.size,0,none⟩) 1 1)) fun r=>K12_48 (.string s) r.1 (.int .i64 k) r.2 Q:=by
 obtain ⟨s',h2,q1,x2⟩:=rtok_push t x ht
 refine bq_of q1 ?_
 refine X12_48_ok ?_
 unfold X12_48
 simp (disch:=(first | exact dz | fail)) only [SXB,SX,reduceIte,Int.reduceLT,Int.reduceLE,Int.reduceToNat,Int.reduceBEq,Int.reduceBNe,Nat.reduceAdd,Nat.reduceMul,Nat.reduceSub,Nat.reduceLeDiff]
 exact next h2 s' x2
theorem rtok_cut {h h1:AH} {toks:List Tok} {s:ByteArray} {tv:Value} {i k:Nat} {cls:Nat} {cv:Value} {Q:RQ} (hcv:cv=.int .i64 (cls:Nat)) (ht:toks.length ≤ 5000) (hik:i ≤ k) (hk:k ≤ s.size) (X:SCR h h1 toks tv)
  (next:∀ h2 tv2,SCR h h2 (toks++[⟨cls,i,s.extract i k⟩]) tv2→H12_3 (.string s) tv2 (.int .i64 k) h2 Q) :
  bq (sliceV Tryd.prog h1 9 (.string s) (some (.int .i64 i)) (some (.int .i64 k))) fun t63=>bq (Option.map Value.agg (bdF #[.int .i64 0,.int .i64 0,.string ⟨#[]⟩] [(0,1,cv),(1,1,.int .i64 i),(2,1,t63)])) fun t64 =>
   bq (Option.map (fun c=>(Value.slice (some ⟨h1.size,0,none⟩) 1 1,h1.push (.cells c 72 (0,0)) none)) (bdF #[.int .i64 0,.int .i64 0,.string ⟨#[]⟩] [(0,3,t64)])) fun r=>bq (apT 72 3 32 (some (.agg #[.int .i64 0,.int .i64 0,.string ⟨#[]⟩])) r.2 tv r.1) fun r=>K12_48 (.string s) r.1 (.int .i64 k) r.2 Q:=by
 subst hcv
 have e2:=sub_str (P:=Tryd.prog) (t:=9) (h:=h1) (s:=s) (by kernel_rfl) hik hk
 refine bq_of e2 ?_
 refine bq_of (x:=.agg #[.int .i64 cls,.int .i64 i,.string (s.extract i k)]) rfl ?_
 refine bq_of (x:=(Value.slice (some ⟨h1.size,0,none⟩) 1 1,h1.push (.cells #[.int .i64 cls,.int .i64 i,.string (s.extract i k)] 72 (0,0)) none)) rfl ?_
 exact rtok_done (t:=⟨cls,i,s.extract i k⟩) X ht next
theorem rword_loop {h h1:AH} {toks:List Tok} {s:ByteArray} {tv:Value} {i:Nat} {x y:Value} {Q:RQ} (hs:s.size ≤ 4096) (ht:toks.length ≤ 5000) (X:SCR h h1 toks tv):∀ (n k:Nat),s.size - k ≤ n→i ≤ k→k ≤ s.size →
  (∀ h2 tv2,SCR h h2 (toks++[⟨1,i,s.extract i (span alnum s n k)⟩]) tv2→H12_3 (.string s) tv2 (.int .i64 (span alnum s n k)) h2 Q) →
  H12_10 (.string s) tv (.int .i64 i) x (.int .i64 k) y h1 Q:=by
 intro n
 induction n with
 | zero =>
  intro k hn hik hk next
  refine X12_10_ok ?_
  unfold X12_10
  have e:¬ ((k:Int) < s.size):=by omega
  simp (disch:=(first | exact dz | fail)) only [e,SXB,SX,reduceIte,Int.reduceLT,Int.reduceLE,Int.reduceToNat,Int.reduceBEq,Int.reduceBNe,Nat.reduceAdd,Nat.reduceMul,Nat.reduceSub,Nat.reduceLeDiff]
  exact rtok_cut rfl ht hik hk X next
 | succ n ih =>
  intro k hn hik hk next
  refine X12_10_ok ?_
  unfold X12_10
  by_cases hlt:k < s.size
  ·have e:(k:Int) < s.size:=by omega
   have e0:=ixS_at rfl (at_bang hlt)
   have w1:IntKind.i64.wrap ((k:Int) + 1)=((k + 1:Nat):Int):=by rw [wrap64 (by omega) (by omega)];omega
   unfold span at next
   rw [if_pos hlt] at next
   generalize s[k]! = d at e0 next
   simp (disch:=(first | exact dz | fail)) only [e,e0,SXB,SX,reduceIte,Int.reduceLT,Int.reduceLE,Int.reduceToNat,Int.reduceBEq,Int.reduceBNe,Nat.reduceAdd,Nat.reduceMul,Nat.reduceSub,Nat.reduceLeDiff]
   refine HC.exact (rletter_ok d) ?_
   unfold alnum at next
   cases hl:Lang.letter d with
   | true =>
    rw [hl] at next
    simp (disch:=(first | exact dz | fail)) only [w1,SXB,SX,reduceIte,Int.reduceLT,Int.reduceLE,Int.reduceToNat,Int.reduceBEq,Int.reduceBNe,Nat.reduceAdd,Nat.reduceMul,Nat.reduceSub,Nat.reduceLeDiff]
    exact ih (k + 1) (by omega) (by omega) (by omega) next
   | false =>
    rw [hl] at next
    simp (disch:=(first | exact dz | fail)) only [e0,SXB,SX,reduceIte,Int.reduceLT,Int.reduceLE,Int.reduceToNat,Int.reduceBEq,Int.reduceBNe,Nat.reduceAdd,Nat.reduceMul,Nat.reduceSub,Nat.reduceLeDiff]
    refine HC.exact (rdigit_ok d) ?_
    cases hd:Lang.digit d with
    | true =>
     rw [hd] at next
     simp (disch:=(first | exact dz | fail)) only [w1,SXB,SX,reduceIte,Int.reduceLT,Int.reduceLE,Int.reduceToNat,Int.reduceBEq,Int.reduceBNe,Nat.reduceAdd,Nat.reduceMul,Nat.reduceSub,Nat.reduceLeDiff]
     exact ih (k + 1) (by omega) (by omega) (by omega) next
    | false =>
     rw [hd] at next
     simp (disch:=(first | exact dz | fail)) only [SXB,SX,reduceIte,Int.reduceLT,Int.reduceLE,Int.reduceToNat,Int.reduceBEq,Int.reduceBNe,Nat.reduceAdd,Nat.reduceMul,Nat.reduceSub,Nat.reduceLeDiff]
     exact rtok_cut rfl ht hik hk X next
  ·have e:¬ ((k:Int) < s.size):=by omega
   unfold span at next
   rw [if_neg hlt] at next
   simp (disch:=(first | exact dz | fail)) only [e,SXB,SX,reduceIte,Int.reduceLT,Int.reduceLE,Int.reduceToNat,Int.reduceBEq,Int.reduceBNe,Nat.reduceAdd,Nat.reduceMul,Nat.reduceSub,Nat.reduceLeDiff]
   exact rtok_cut rfl ht hik hk X next
theorem rdig_loop {h h1:AH} {toks:List Tok} {s:ByteArray} {tv:Value} {i:Nat} {d0:UInt8} {y:Value} {Q:RQ} (hs:s.size ≤ 4096) (ht:toks.length ≤ 5000) (X:SCR h h1 toks tv):∀ (n k:Nat),s.size - k ≤ n→i < k→k ≤ s.size →
  (∀ h2 tv2,¬ (9 < span digit s n k - i)→¬ (1 < span digit s n k - i∧d0=48)→SCR h h2 (toks++[⟨2,i,s.extract i (span digit s n k)⟩]) tv2→H12_3 (.string s) tv2 (.int .i64 (span digit s n k)) h2 Q) →
  ((9 < span digit s n k - i ∨ (1 < span digit s n k - i∧d0=48))→Q (.ret (.tuple #[.slice none 0 0,.int .i64 i])) h1) →
  H12_14 (.string s) tv (.int .i64 i) (.int .u8 d0.toNat) (.int .i64 k) y h1 Q:=by
 intro n
 induction n with
 | zero =>
  intro k hn hik hk next bad
  refine X12_14_ok ?_
  unfold X12_14
  have e:¬ ((k:Int) < s.size):=by omega
  unfold span at next bad
  by_cases h9:9 < k - i
  ·have e9b:(9:Int) < (k:Int) - i:=by omega
   simp (disch:=(first | exact dz | fail)) only [e,e9b,SXB,SX,reduceIte,Int.reduceLT,Int.reduceLE,Int.reduceToNat,Int.reduceBEq,Int.reduceBNe,Nat.reduceAdd,Nat.reduceMul,Nat.reduceSub,Nat.reduceLeDiff]
   exact bad (.inl h9)
  ·have e9b:¬ ((9:Int) < (k:Int) - i):=by omega
   by_cases hd0:d0=48
   ·have u0':((d0.toNat:Int) == 48)=true:=by rw [hd0];rfl
    by_cases h8:1 < k - i
    ·have e8b:(1:Int) < (k:Int) - i:=by omega
     simp (disch:=(first | exact dz | fail)) only [e,e9b,u0',e8b,SXB,SX,reduceIte,Int.reduceLT,Int.reduceLE,Int.reduceToNat,Int.reduceBEq,Int.reduceBNe,Nat.reduceAdd,Nat.reduceMul,Nat.reduceSub,Nat.reduceLeDiff]
     exact bad (.inr ⟨h8,hd0⟩)
    ·have e8b:¬ ((1:Int) < (k:Int) - i):=by omega
     simp (disch:=(first | exact dz | fail)) only [e,e9b,u0',e8b,SXB,SX,reduceIte,Int.reduceLT,Int.reduceLE,Int.reduceToNat,Int.reduceBEq,Int.reduceBNe,Nat.reduceAdd,Nat.reduceMul,Nat.reduceSub,Nat.reduceLeDiff]
     exact rtok_cut rfl ht (by omega) hk X fun h2 tv2=>next h2 tv2 h9 (fun h=>h8 h.1)
   ·have u0':((d0.toNat:Int) == 48)=false:=(u_eq d0 48 (by omega)).trans (by simpa using hd0)
    simp (disch:=(first | exact dz | fail)) only [e,e9b,u0',SXB,SX,reduceIte,Int.reduceLT,Int.reduceLE,Int.reduceToNat,Int.reduceBEq,Int.reduceBNe,Nat.reduceAdd,Nat.reduceMul,Nat.reduceSub,Nat.reduceLeDiff]
    exact rtok_cut rfl ht (by omega) hk X fun h2 tv2=>next h2 tv2 h9 (fun h=>hd0 h.2)
 | succ n ih =>
  intro k hn hik hk next bad
  refine X12_14_ok ?_
  unfold X12_14
  unfold span at next bad
  by_cases hlt:k < s.size
  ·have e:(k:Int) < s.size:=by omega
   have e0:=ixS_at rfl (at_bang hlt)
   have w1:IntKind.i64.wrap ((k:Int) + 1)=((k + 1:Nat):Int):=by rw [wrap64 (by omega) (by omega)];omega
   rw [if_pos hlt] at next bad
   generalize s[k]! = d at e0 next bad
   simp (disch:=(first | exact dz | fail)) only [e,e0,SXB,SX,reduceIte,Int.reduceLT,Int.reduceLE,Int.reduceToNat,Int.reduceBEq,Int.reduceBNe,Nat.reduceAdd,Nat.reduceMul,Nat.reduceSub,Nat.reduceLeDiff]
   refine HC.exact (rdigit_ok d) ?_
   cases hd:Lang.digit d with
   | true =>
    rw [hd] at next bad
    simp (disch:=(first | exact dz | fail)) only [w1,SXB,SX,reduceIte,Int.reduceLT,Int.reduceLE,Int.reduceToNat,Int.reduceBEq,Int.reduceBNe,Nat.reduceAdd,Nat.reduceMul,Nat.reduceSub,Nat.reduceLeDiff]
    exact ih (k + 1) (by omega) (by omega) (by omega) next bad
   | false =>
    rw [hd] at next bad
    simp only [Bool.false_eq_true,if_false] at next bad
    by_cases h9:9 < k - i
    ·have e9b:(9:Int) < (k:Int) - i:=by omega
     simp (disch:=(first | exact dz | fail)) only [e9b,SXB,SX,reduceIte,Int.reduceLT,Int.reduceLE,Int.reduceToNat,Int.reduceBEq,Int.reduceBNe,Nat.reduceAdd,Nat.reduceMul,Nat.reduceSub,Nat.reduceLeDiff]
     exact bad (.inl h9)
    ·have e9b:¬ ((9:Int) < (k:Int) - i):=by omega
     by_cases hd0:d0=48
     ·have u0':((d0.toNat:Int) == 48)=true:=by rw [hd0];rfl
      by_cases h8:1 < k - i
      ·have e8b:(1:Int) < (k:Int) - i:=by omega
       simp (disch:=(first | exact dz | fail)) only [e9b,u0',e8b,SXB,SX,reduceIte,Int.reduceLT,Int.reduceLE,Int.reduceToNat,Int.reduceBEq,Int.reduceBNe,Nat.reduceAdd,Nat.reduceMul,Nat.reduceSub,Nat.reduceLeDiff]
       exact bad (.inr ⟨h8,hd0⟩)
      ·have e8b:¬ ((1:Int) < (k:Int) - i):=by omega
       simp (disch:=(first | exact dz | fail)) only [e9b,u0',e8b,SXB,SX,reduceIte,Int.reduceLT,Int.reduceLE,Int.reduceToNat,Int.reduceBEq,Int.reduceBNe,Nat.reduceAdd,Nat.reduceMul,Nat.reduceSub,Nat.reduceLeDiff]
       exact rtok_cut rfl ht (by omega) hk X fun h2 tv2=>next h2 tv2 h9 (fun h=>h8 h.1)
     ·have u0':((d0.toNat:Int) == 48)=false:=(u_eq d0 48 (by omega)).trans (by simpa using hd0)
      simp (disch:=(first | exact dz | fail)) only [e9b,u0',SXB,SX,reduceIte,Int.reduceLT,Int.reduceLE,Int.reduceToNat,Int.reduceBEq,Int.reduceBNe,Nat.reduceAdd,Nat.reduceMul,Nat.reduceSub,Nat.reduceLeDiff]
      exact rtok_cut rfl ht (by omega) hk X fun h2 tv2=>next h2 tv2 h9 (fun h=>hd0 h.2)
  ·have e:¬ ((k:Int) < s.size):=by omega
   rw [if_neg hlt] at next bad
   by_cases h9:9 < k - i
   ·have e9b:(9:Int) < (k:Int) - i:=by omega
    simp (disch:=(first | exact dz | fail)) only [e,e9b,SXB,SX,reduceIte,Int.reduceLT,Int.reduceLE,Int.reduceToNat,Int.reduceBEq,Int.reduceBNe,Nat.reduceAdd,Nat.reduceMul,Nat.reduceSub,Nat.reduceLeDiff]
    exact bad (.inl h9)
   ·have e9b:¬ ((9:Int) < (k:Int) - i):=by omega
    by_cases hd0:d0=48
    ·have u0':((d0.toNat:Int) == 48)=true:=by rw [hd0];rfl
     by_cases h8:1 < k - i
     ·have e8b:(1:Int) < (k:Int) - i:=by omega
      simp (disch:=(first | exact dz | fail)) only [e,e9b,u0',e8b,SXB,SX,reduceIte,Int.reduceLT,Int.reduceLE,Int.reduceToNat,Int.reduceBEq,Int.reduceBNe,Nat.reduceAdd,Nat.reduceMul,Nat.reduceSub,Nat.reduceLeDiff]
      exact bad (.inr ⟨h8,hd0⟩)
     ·have e8b:¬ ((1:Int) < (k:Int) - i):=by omega
      simp (disch:=(first | exact dz | fail)) only [e,e9b,u0',e8b,SXB,SX,reduceIte,Int.reduceLT,Int.reduceLE,Int.reduceToNat,Int.reduceBEq,Int.reduceBNe,Nat.reduceAdd,Nat.reduceMul,Nat.reduceSub,Nat.reduceLeDiff]
      exact rtok_cut rfl ht (by omega) hk X fun h2 tv2=>next h2 tv2 h9 (fun h=>h8 h.1)
    ·have u0':((d0.toNat:Int) == 48)=false:=(u_eq d0 48 (by omega)).trans (by simpa using hd0)
     simp (disch:=(first | exact dz | fail)) only [e,e9b,u0',SXB,SX,reduceIte,Int.reduceLT,Int.reduceLE,Int.reduceToNat,Int.reduceBEq,Int.reduceBNe,Nat.reduceAdd,Nat.reduceMul,Nat.reduceSub,Nat.reduceLeDiff]
     exact rtok_cut rfl ht (by omega) hk X fun h2 tv2=>next h2 tv2 h9 (fun h=>hd0 h.2)
end Go.Proofs.YtnaenhkldanjbaaDoor.L
end
