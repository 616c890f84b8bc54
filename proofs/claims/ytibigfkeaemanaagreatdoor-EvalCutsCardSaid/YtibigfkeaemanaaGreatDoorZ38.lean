import Derived.KernelRfl
import Derived.Test.YtibigfkeaemanaaGreatDoorZ18
import Derived.Test.YtibigfkeaemanaaGreatDoorZ24
import Derived.Test.YtibigfkeaemanaaGreatDoorZ37
set_option linter.unusedVariables false
set_option linter.unusedSimpArgs false
section
namespace Go.Proofs.YtibigfkeaemanaaGreatDoor.L
open Go.Ab Go.Lang Go.Proofs.YtibigfkeaemanaaGreatDoor.X
set_option maxRecDepth 100000
theorem span_ge (p:UInt8→Bool) (s:ByteArray):∀ (n i:Nat),i ≤ span p s n i∧(i ≤ s.size→span p s n i ≤ s.size):=by
 intro n
 induction n with
 | zero=>intro i;exact ⟨Nat.le_refl _,id⟩
 | succ n ih =>
  intro i
  unfold span
  split
  ·split
   ·have:=ih (i + 1)
    exact ⟨by omega,fun _=>this.2 (by omega)⟩
   ·exact ⟨Nat.le_refl _,id⟩
  ·exact ⟨Nat.le_refl _,id⟩
theorem quotedF_ge {s:ByteArray}:∀ {n i:Nat} {acc l:List UInt8} {k:Nat},quotedF s n i acc=some (l,k)→i < k∧k ≤ s.size:=by
 intro n
 induction n with
 | zero=>intro i acc l k h;cases h
 | succ n ih =>
  intro i acc l k h
  unfold quotedF at h
  split at h
  ·simp only at h
   split at h
   ·cases h;omega
   ·split at h
    ·cases h
    ·split at h
     ·split at h
      ·split at h
       ·have:=ih h;omega
       ·cases h
      ·cases h
     ·have:=ih h;omega
  ·cases h
theorem SPf.cons {Q:RQ} {h:AH} {toks:List Tok} {t:Tok} {rs:Except Nat (List Tok)} (hq:SPf Q h toks (match rs with | .ok l=>.ok (t::l) | .error e=>.error e)):SPf Q h (toks++[t]) rs:=by
 cases rs with
 | ok l=>exact fun h' v K O hb=>hq h' v K (by simpa using O) hb
 | error e=>exact hq
theorem scan_loop {h:AH} {s:ByteArray} (hs:s.size ≤ 4096) {Q:RQ}:∀ (n i:Nat) (h1:AH) (c:Array Value) (toks:List Tok) (tv:Value),s.size - i + 1 ≤ n→i ≤ s.size→toks.length ≤ i→SC h h1 c toks tv→SPf Q h toks (scanF s n i) →
  H15_5 (.string s) (.pointer (some ⟨h.size,0,none⟩)) tv (.int .i64 i) (.pointer (some ⟨h.size + 1,0,none⟩)) h1 Q:=by
 intro n
 induction n with
 | zero=>intro i h1 c toks tv hn;omega
 | succ n ih =>
  intro i h1 c toks tv hn hi ha X hq
  refine X15_5_ok ?_
  unfold X15_5
  unfold scanF at hq
  generalize hs3:stN 3=s3
  generalize hs2:stN 2=s2
  generalize hl2:ldN 2=l2
  by_cases hlt:i < s.size
  ·have e:(i:Int) < s.size:=by omega
   have e0:=ixS_at rfl (at_bang hlt)
   have w1:IntKind.i64.wrap ((i:Int) + 1)=((i + 1:Nat):Int):=by rw [wrap64 (by omega) (by omega)];omega
   have e2:((i:Int) == (s.size:Nat))=false:=by simp;omega
   rw [if_pos hlt] at hq
   have step:∀ t k,tokF s i=some (t,k)→SPf Q h toks (match tokF s i with | none=>.error i | some (t,k)=>match scanF s n k with | .ok l=>.ok (t::l) | .error e=>.error e)→i < k→k ≤ s.size→∀ h2 c2 tv2,SC h h2 c2 (toks++[t]) tv2→H15_5 (.string s) (.pointer (some ⟨h.size,0,none⟩)) tv2 (.int .i64 k) (.pointer (some ⟨h.size + 1,0,none⟩)) h2 Q:=fun t k ht hq h1 h2 h3 c2 tv2 Y=>by
    rw [ht] at hq
    exact ih k h3 c2 (toks++[t]) tv2 (by omega) h2 (by simp;omega) Y hq.cons
   have bad:tokF s i=none→SPf Q h toks (match tokF s i with | none=>.error i | some (t,k)=>match scanF s n k with | .ok l=>.ok (t::l) | .error e=>.error e)→∀ h2 c2,SC h h2 c2 toks tv→G15_31 (.string s) (.pointer (some ⟨h.size,0,none⟩)) tv (.int .i64 i) (.pointer (some ⟨h.size + 1,0,none⟩)) h2 Q:=fun ht hq h2 c2 Y=>by
    rw [ht] at hq
    exact scan_bad Y hq
   simp (disch:=(first | exact dz | fail)) only [e,e0,SXB,SX,reduceIte,Int.reduceLT,Int.reduceLE,Int.reduceToNat,Int.reduceBEq,Int.reduceBNe,Nat.reduceAdd,Nat.reduceMul,Nat.reduceSub,Nat.reduceLeDiff]
   refine HC.exact (indexByte_ok _ s[i]!) ?_
   have eb:=blank_ix s[i]!
   cases hb:Lang.blank s[i]! with
   | true =>
    rw [hb] at eb
    have eb':Lib.indexByte (ByteArray.mk #[32,9,13,10]).data.toList s[i]! ≥ 0:=of_decide_eq_true eb
    rw [if_pos hb] at hq
    simp (disch:=(first | exact dz | fail)) only [eb',w1,SXB,SX,reduceIte,Int.reduceLT,Int.reduceLE,Int.reduceToNat,Int.reduceBEq,Int.reduceBNe,Nat.reduceAdd,Nat.reduceMul,Nat.reduceSub,Nat.reduceLeDiff]
    exact ih (i + 1) h1 c toks tv (by omega) (by omega) (by omega) X hq
   | false =>
    rw [hb] at eb
    have eb':¬ (Lib.indexByte (ByteArray.mk #[32,9,13,10]).data.toList s[i]! ≥ 0):=of_decide_eq_false eb
    rw [if_neg (by simp [hb])] at hq
    have e7:bdF #[.int .i64 0,.int .i64 0,.string ⟨#[]⟩] [(1,1,.int .i64 (i:Nat))]=some #[.int .i64 0,.int .i64 (i:Nat),.string ⟨#[]⟩]:=by rfl
    simp (disch:=(first | exact dz | fail)) only [eb',e2,e7,w1,e0,SXB,SX,reduceIte,Int.reduceLT,Int.reduceLE,Int.reduceToNat,Int.reduceBEq,Int.reduceBNe,Nat.reduceAdd,Nat.reduceMul,Nat.reduceSub,Nat.reduceLeDiff]
    subst hs3 hs2 hl2
    refine bq_of (stN_full X.tok X.csz rfl (fun z hz=>by simp [Value.cells] at hz;rcases hz with rfl | rfl | rfl <;> rfl)) ?_
    have X1:SC h (h1.put (h.size + 1) (some (.cells (Value.agg #[.int .i64 0,.int .i64 (i:Nat),.string ⟨#[]⟩]).cells 55 (0,0),none))) #[.int .i64 0,.int .i64 (i:Nat),.string ⟨#[]⟩] toks tv:=X.put rfl
    generalize h1.put (h.size + 1) (some (.cells (Value.agg #[.int .i64 0,.int .i64 (i:Nat),.string ⟨#[]⟩]).cells 55 (0,0),none))=h3 at X1 ⊢
    have ei:(i:Int) + 1=((i + 1:Nat):Int):=by omega
    try rw [ei]
    have gt:=X1.tok
    have ht:toks.length ≤ 5000:=by omega
    refine HC.exact (letter_ok s[i]!) ?_
    cases hl:Lang.letter s[i]! with
    | true =>
     have T:tokF s i=some (⟨1,i,s.extract i (span alnum s s.size (i + 1))⟩,span alnum s s.size (i + 1)):=by
      unfold tokF;simp only [hl,if_true]
     have sp:=span_ge alnum s s.size (i + 1)
     simp (disch:=(first | exact dz | fail)) only [gt,SXB,SX,reduceIte,Int.reduceLT,Int.reduceLE,Int.reduceToNat,Int.reduceBEq,Int.reduceBNe,Nat.reduceAdd,Nat.reduceMul,Nat.reduceSub,Nat.reduceLeDiff]
     refine word_loop hs s.size (i + 1) _ (by omega) (by omega) (X1.put (c':=#[.int .i64 (1:Nat),.int .i64 (i:Nat),.string ⟨#[]⟩]) rfl) fun h2 X3=>?_
     exact tok_cut (x:=.nilIface) (y:=.nilIface) X3 ht (by omega) (by omega) (sp.2 (by omega)) (step _ _ T hq (by omega) (sp.2 (by omega)))
    | false =>
     simp (disch:=(first | exact dz | fail)) only [SXB,SX,reduceIte,Int.reduceLT,Int.reduceLE,Int.reduceToNat,Int.reduceBEq,Int.reduceBNe,Nat.reduceAdd,Nat.reduceMul,Nat.reduceSub,Nat.reduceLeDiff]
     refine HC.exact (digit_ok s[i]!) ?_
     cases hd:Lang.digit s[i]! with
     | true =>
      simp (disch:=(first | exact dz | fail)) only [gt,SXB,SX,reduceIte,Int.reduceLT,Int.reduceLE,Int.reduceToNat,Int.reduceBEq,Int.reduceBNe,Nat.reduceAdd,Nat.reduceMul,Nat.reduceSub,Nat.reduceLeDiff]
      have T:tokF s i=let k:=span digit s s.size (i + 1);if 9 < k - i || (1 < k - i && s[i]! == 48) then none else some (⟨2,i,s.extract i k⟩,k):=by
       unfold tokF;simp only [hl,hd,if_true,Bool.false_eq_true,if_false]
      have sp:=span_ge digit s s.size (i + 1)
      have bnd:∀ t k,tokF s i=some (t,k)→i < k∧k ≤ s.size:=fun t k hk=>by
       rw [T] at hk
       simp only at hk
       split at hk
       ·cases hk
       ·cases hk;exact ⟨by omega,sp.2 (by omega)⟩
      exact num_loop hs hlt (tokF s i) s.size (i + 1) _ (by omega) (by omega) (by omega) (X1.put (c':=#[.int .i64 (2:Nat),.int .i64 (i:Nat),.string ⟨#[]⟩]) rfl) ht T (fun h2 c2 tv2 t k hk Y=>step t k hk hq (bnd t k hk).1 (bnd t k hk).2 h2 c2 tv2 Y) fun h2 c2 hk Y=>bad hk hq h2 c2 Y
     | false =>
      have u0:=u_eq s[i]! 34 (by omega)
      cases hqt:s[i]! == 34 with
      | true =>
       have u0':((s[i]!.toNat:Int) == 34)=true:=u0.trans hqt
       simp (disch:=(first | exact dz | fail)) only [gt,u0',SXB,SX,reduceIte,Int.reduceLT,Int.reduceLE,Int.reduceToNat,Int.reduceBEq,Int.reduceBNe,Nat.reduceAdd,Nat.reduceMul,Nat.reduceSub,Nat.reduceLeDiff]
       have X2:=X1.put (c':=#[.int .i64 (3:Nat),.int .i64 (i:Nat),.string ⟨#[]⟩]) rfl
       have T:tokF s i=match quotedF s s.size (i + 1) [] with
         | some (l,k)=>some (⟨3,i,⟨l.toArray⟩⟩,k)
         | none=>none:=by
        unfold tokF;simp only [hl,hd,hqt,if_true,Bool.false_eq_true,if_false];rfl
       refine quoted_ok hs (n:=s.size) (by omega) (by omega) fun h4 K4=>?_
       have X3:=X2.keep K4
       have g3:=X3.tok
       cases hqq:quotedF s s.size (i + 1) [] with
       | none =>
        rw [hqq] at T
        simp only at T
        simp (disch:=(first | exact dz | fail)) only [qres,g3,SXB,SX,reduceIte,Int.reduceLT,Int.reduceLE,Int.reduceToNat,Int.reduceBEq,Int.reduceBNe,Nat.reduceAdd,Nat.reduceMul,Nat.reduceSub,Nat.reduceLeDiff]
        exact bad T hq _ _ (X3.put (c':=#[.int .i64 (3:Nat),.int .i64 (i:Nat),.string ⟨#[]⟩]) rfl)
       | some y =>
        obtain ⟨l,k⟩:=y
        rw [hqq] at T
        simp only at T
        have kb:=quotedF_ge hqq
        have e9:¬ ((k:Int) < 0):=by omega
        simp (disch:=(first | exact dz | fail)) only [qres,g3,e9,SXB,SX,reduceIte,Int.reduceLT,Int.reduceLE,Int.reduceToNat,Int.reduceBEq,Int.reduceBNe,Nat.reduceAdd,Nat.reduceMul,Nat.reduceSub,Nat.reduceLeDiff]
        refine X15_27_ok ?_
        unfold X15_27
        have X4:=X3.put (c':=#[.int .i64 (3:Nat),.int .i64 (i:Nat),.string ⟨l.toArray⟩]) rfl
        have g4:=X4.tok
        simp (disch:=(first | exact dz | fail)) only [g4,SXB,SX,reduceIte,Int.reduceLT,Int.reduceLE,Int.reduceToNat,Int.reduceBEq,Int.reduceBNe,Nat.reduceAdd,Nat.reduceMul,Nat.reduceSub,Nat.reduceLeDiff]
        exact tok_done (t:=⟨3,i,⟨l.toArray⟩⟩) X4 ht (step _ _ T hq (by omega) kb.2)
      | false =>
       have u0':((s[i]!.toNat:Int) == 34)=false:=u0.trans hqt
       simp (disch:=(first | exact dz | fail)) only [gt,u0',SXB,SX,reduceIte,Int.reduceLT,Int.reduceLE,Int.reduceToNat,Int.reduceBEq,Int.reduceBNe,Nat.reduceAdd,Nat.reduceMul,Nat.reduceSub,Nat.reduceLeDiff]
       refine HC.exact (indexByte_ok _ s[i]!) ?_
       have em:=mark_ix s[i]!
       cases hm:Lang.isMark s[i]! with
       | true =>
        rw [hm] at em
        have em':Lib.indexByte (ByteArray.mk #[123,125,40,41,44,59,61]).data.toList s[i]! ≥ 0:=of_decide_eq_true em
        have T:tokF s i=some (⟨4,i,s.extract i (i + 1)⟩,i + 1):=by
         unfold tokF;simp only [hl,hd,hqt,hm,if_true,Bool.false_eq_true,if_false]
        simp (disch:=(first | exact dz | fail)) only [em',gt,SXB,SX,reduceIte,Int.reduceLT,Int.reduceLE,Int.reduceToNat,Int.reduceBEq,Int.reduceBNe,Nat.reduceAdd,Nat.reduceMul,Nat.reduceSub,Nat.reduceLeDiff]
        exact tok_cut (x:=.nilIface) (y:=.nilIface) (X1.put (c':=#[.int .i64 (4:Nat),.int .i64 (i:Nat),.string ⟨#[]⟩]) rfl) ht (by omega) (by omega) (by omega) (step _ _ T hq (by omega) (by omega))
       | false =>
        rw [hm] at em
        have em':¬ (Lib.indexByte (ByteArray.mk #[123,125,40,41,44,59,61]).data.toList s[i]! ≥ 0):=of_decide_eq_false em
        have T:tokF s i=none:=by
         unfold tokF;simp only [hl,hd,hqt,hm,Bool.false_eq_true,if_false]
        simp (disch:=(first | exact dz | fail)) only [em',gt,SXB,SX,reduceIte,Int.reduceLT,Int.reduceLE,Int.reduceToNat,Int.reduceBEq,Int.reduceBNe,Nat.reduceAdd,Nat.reduceMul,Nat.reduceSub,Nat.reduceLeDiff]
        exact bad T hq _ _ X1
  ·have e:¬ ((i:Int) < s.size):=by omega
   have hie:i=s.size:=by omega
   have e2:((i:Int) == (s.size:Nat))=true:=by simp;omega
   rw [if_neg hlt] at hq
   simp (disch:=(first | exact dz | fail)) only [e,e2,SXB,SX,reduceIte,Int.reduceLT,Int.reduceLE,Int.reduceToNat,Int.reduceBEq,Int.reduceBNe,Nat.reduceAdd,Nat.reduceMul,Nat.reduceSub,Nat.reduceLeDiff]
   subst hs2 hl2 hs3
   refine bq_of (x:=.agg #[.int .i64 0,.int .i64 (i:Nat),.string ⟨#[]⟩]) rfl ?_
   refine bq_of (x:=(Value.slice (some ⟨h1.size,0,none⟩) 1 1,h1.push (.cells #[.int .i64 0,.int .i64 (i:Nat),.string ⟨#[]⟩] 55 (0,0)) none)) rfl ?_
   have hl:(toks.map encT).length=toks.length:=by simp
   have hsz:=X.size
   obtain ⟨s',h2,q1,q2,q3,q4,q5⟩:=X.out.append1 (v:=encT ⟨0,s.size,empty⟩) (c:=#[.int .i64 0,.int .i64 (i:Nat),.string ⟨#[]⟩]) (bytes:=32) (zero:=.agg #[.int .i64 0,.int .i64 0,.string ⟨#[]⟩]) (by rw [hie];rfl) X.lt hsz (fun v hv=>by
    obtain ⟨d,_,rfl⟩:=List.mem_map.1 hv;rfl) rfl (fun z hz=>by simp at hz;rcases hz with rfl | rfl | rfl <;> rfl) (by omega) (by omega) (by omega) rfl (by omega)
   refine bq_of q1 ?_
   have g:∀ k,k < h.size + 2→h2.get k=h1.get k:=fun k hk=>q4 k (by omega) fun e=>by have:=X.out.key k e;omega
   have K:=X.K
   refine bq_of (stN_full ((g _ (by omega)).trans X.err) rfl rfl (fun z hz=>by simp [Value.cells] at hz;rcases hz with rfl | rfl <;> rfl)) ?_
   rw [ldN_full (n:=2) (get_put_eq rfl) rfl]
   simp (disch:=(first | exact dz | fail)) only [SXB,SX,reduceIte,Int.reduceLT,Int.reduceLE,Int.reduceToNat,Int.reduceBEq,Int.reduceBNe,Nat.reduceAdd,Nat.reduceMul,Nat.reduceSub,Nat.reduceLeDiff]
   refine hq _ _ ⟨by rw [sz_put];exact Nat.le_trans K.size q3,fun k hk=>?_⟩ ?_ ?_
   ·rw [get_put_ne (by omega)]
    exact (g k (by omega)).trans (K.get k hk)
   ·rw [List.map_append]
    exact q2.mono fun k hk=>get_put_ne (by have:=q2.key k hk;omega)
   ·intro k hk
    rw [sz_put]
    rcases q5 with e | ⟨k',e,h1,h3⟩
    ·rw [e] at hk;exact Nat.lt_of_lt_of_le (X.lt k hk) q3
    ·rw [e] at hk;cases hk;exact h3
theorem scan_ok {h:AH} {s:ByteArray} (hs:s.size ≤ 4096) {Q:RQ} (hq:SPf Q h [] (scanF s (s.size + 1) 0)):HC Tryz.prog 15 [.string s].toArray h Q:=by
 refine X15_ok ?_
 unfold X15
 simp (disch:=(first | exact dz | fail)) only [SXB,SX,reduceIte,Int.reduceLT,Int.reduceLE,Int.reduceToNat,Int.reduceBEq,Int.reduceBNe,Nat.reduceAdd,Nat.reduceMul,Nat.reduceSub,Nat.reduceLeDiff]
 refine XE15_1_ok ?_
 unfold XE15_1
 simp (disch:=(first | exact dz | fail)) only [SXB,SX,reduceIte,Int.reduceLT,Int.reduceLE,Int.reduceToNat,Int.reduceBEq,Int.reduceBNe,Nat.reduceAdd,Nat.reduceMul,Nat.reduceSub,Nat.reduceLeDiff]
 refine XS15_5_ok ?_
 unfold XS15_5
 have X0:SC h ((h.push (.cells #[.int .i64 0,.int .i64 0] 25 (0,0)) none).push (.cells #[.int .i64 0,.int .i64 0,.string ⟨#[]⟩] 55 (0,0)) none) #[.int .i64 0,.int .i64 0,.string ⟨#[]⟩] [] (.slice none 0 0):=by
  refine ⟨?_,get_push_eq (by simp),rfl,.nil,fun k hk=>(nomatch hk),by simp,?_⟩
  ·rw [get_push_ne (by simp)];exact get_push_eq rfl
  ·(repeat (first | exact Kp.refl _ _ | assumption | refine Kp.push ?_ _ _ (by first | omega | (simp only [sz_push,sz_put];omega)) | refine Kp.put ?_ _ _ (by first | omega | (simp only [sz_push,sz_put];omega))))
 exact scan_loop hs (s.size + 1) 0 _ _ [] (.slice none 0 0) (by omega) (Nat.zero_le _) (Nat.le_refl _) X0 hq
end Go.Proofs.YtibigfkeaemanaaGreatDoor.L
end
section
namespace Go.Proofs.YtibigfkeaemanaaGreatDoor.L
open Go.Ab Go.Lang Go.Proofs.YtibigfkeaemanaaGreatDoor.X
theorem span_all (p:UInt8→Bool) (s:ByteArray):∀ (n i j:Nat),i ≤ j→j < span p s n i→p s[j]! = true:=by
 intro n
 induction n with
 | zero=>intro i j h1 h2;unfold span at h2;omega
 | succ n ih =>
  intro i j h1 h2
  unfold span at h2
  split at h2
  ·split at h2
   ·rename_i h3
    by_cases e:j=i
    ·rw [e];exact h3
    ·exact ih (i + 1) j (by omega) h2
   ·omega
  ·omega
theorem extract_mem {s:ByteArray} {i k:Nat} {c:UInt8} (h:c ∈ (s.extract i k).data.toList):∃ j,i ≤ j∧j < k∧j < s.size∧s[j]! = c:=by
 rw [ByteArray.data_extract,Array.mem_toList_iff] at h
 obtain ⟨n,hn,rfl⟩:=Array.mem_iff_getElem.1 h
 rw [Array.size_extract] at hn
 have hsz:s.data.size=s.size:=rfl
 refine ⟨i + n,by omega,by omega,by omega,?_⟩
 rw [getElem!_pos s (i + n) (by omega)]
 simp [ByteArray.getElem_eq_getElem_data]
theorem extract_size {s:ByteArray} {i k:Nat} (h:i ≤ k) (hk:k ≤ s.size):(s.extract i k).size=k - i:=by
 rw [ByteArray.size_extract];omega
theorem quotedF_len {s:ByteArray}:∀ {n i:Nat} {acc l:List UInt8} {k:Nat},quotedF s n i acc=some (l,k)→acc.length ≤ i→l.length ≤ s.size:=by
 intro n
 induction n with
 | zero=>intro i acc l k h;cases h
 | succ n ih =>
  intro i acc l k h ha
  unfold quotedF at h
  split at h
  ·simp only at h
   split at h
   ·cases h;omega
   ·split at h
    ·cases h
    ·split at h
     ·split at h
      ·split at h
       ·exact ih h (by simp;omega)
       ·cases h
      ·cases h
     ·exact ih h (by simp;omega)
  ·cases h
theorem tokF_ok {s:ByteArray} (hs:s.size ≤ 4096) {i k:Nat} {t:Tok} (hi:i < s.size) (h:tokF s i=some (t,k)):TokGood t∧i < k∧k ≤ s.size:=by
 unfold tokF at h
 simp only at h
 by_cases hl:letter s[i]! = true
 ·rw [if_pos hl] at h
  cases h
  have sp:=span_ge alnum s s.size (i + 1)
  have sz:=extract_size (s:=s) (i:=i) (k:=span alnum s s.size (i + 1)) (by omega) (sp.2 (by omega))
  refine ⟨⟨by simp,by simp,by show i ≤ 4096;omega,fun _ c hc=>?_,fun h=>(by cases h),by show (s.extract i _).size ≤ 4096;omega⟩,by omega,sp.2 (by omega)⟩
  obtain ⟨j,h1,h2,h3,rfl⟩:=extract_mem hc
  by_cases e:j=i
  ·rw [e];unfold alnum;rw [hl];rfl
  ·exact span_all alnum s _ (i + 1) j (by omega) h2
 rw [if_neg hl] at h
 by_cases hd:digit s[i]! = true
 ·rw [if_pos hd] at h
  have sp:=span_ge digit s s.size (i + 1)
  have sz:=extract_size (s:=s) (i:=i) (k:=span digit s s.size (i + 1)) (by omega) (sp.2 (by omega))
  split at h
  ·cases h
  ·rename_i hc0
   cases h
   have h9:¬ (9 < span digit s s.size (i + 1) - i):=fun e=>hc0 (by simp [e])
   refine ⟨⟨by simp,by simp,by show i ≤ 4096;omega,fun h=>(by cases h),fun _=>⟨by show 0 < (s.extract i _).size;omega,by show (s.extract i _).size ≤ 9;omega,fun c hc=>?_⟩,by show (s.extract i _).size ≤ 4096;omega⟩,by omega,sp.2 (by omega)⟩
   obtain ⟨j,h1,h2,h3,rfl⟩:=extract_mem hc
   by_cases e:j=i
   ·rw [e];exact hd
   ·exact span_all digit s _ (i + 1) j (by omega) h2
 rw [if_neg hd] at h
 by_cases hq:(s[i]! == 34)=true
 ·rw [if_pos hq] at h
  split at h
  ·rename_i l k' hqq
   cases h
   have:=quotedF_ge hqq
   have hlen:=quotedF_len hqq (Nat.zero_le _)
   exact ⟨⟨by simp,by simp,by show i ≤ 4096;omega,fun h=>(by cases h),fun h=>(by cases h),by show l.toArray.size ≤ 4096;simp;omega⟩,by omega,this.2⟩
  ·cases h
 rw [if_neg hq] at h
 split at h
 ·cases h
  have sz:=extract_size (s:=s) (i:=i) (k:=i + 1) (by omega) (by omega)
  exact ⟨⟨by simp,by simp,by show i ≤ 4096;omega,fun h=>(by cases h),fun h=>(by cases h),by show (s.extract i _).size ≤ 4096;omega⟩,by omega,by omega⟩
 ·cases h
theorem scanF_ok {s:ByteArray} (hs:s.size ≤ 4096):∀ (n i:Nat) (l:List Tok),i ≤ s.size→scanF s n i=.ok l→TokOK l∧l.length ≤ s.size - i + 1:=by
 intro n
 induction n with
 | zero=>intro i l _ h;cases h
 | succ n ih =>
  intro i l hi h
  unfold scanF at h
  split at h
  ·rename_i hlt
   split at h
   ·have:=ih _ _ (by omega) h
    exact ⟨this.1,by omega⟩
   ·split at h
    ·cases h
    ·rename_i t k ht
     have:=tokF_ok hs hlt ht
     split at h
     ·rename_i l' hl'
      cases h
      have h2:=ih _ _ this.2.2 hl'
      exact ⟨.cons this.1 h2.1,by simp;omega⟩
     ·cases h
  ·cases h
   exact ⟨.one _ rfl rfl (by show s.size ≤ 4096;omega),by simp⟩
end Go.Proofs.YtibigfkeaemanaaGreatDoor.L
end
section
namespace Go.Proofs.YtibigfkeaemanaaGreatDoor.L
open Go.Ab Go.Lang Go.Proofs.YtibigfkeaemanaaGreatDoor.X
set_option maxRecDepth 100000
def ParseP (h:AH) (rs:R Lang.Prog) (r:Res) (h':AH):Prop:=Kp h.size h h'∧match rs with
 | .ok p=>∃ q,r=.ret (.tuple #[.pointer (some ⟨q,0,none⟩),.agg #[.int .i64 0,.int .i64 0]])∧h.size ≤ q∧q < h'.size∧h'.get q=some (.cells (celP p).toArray 66 (0,0),none)
 | .error f=>r=.ret (.tuple #[.pointer none,.agg #[.int .i64 f.1,.int .i64 f.2]])
theorem res5V {h:AH} {x y:Value}:resultsV Tryz.prog h res7 [some x,some y]=seqO [ld1 h x,ldN 2 h y]:=by kernel_rfl
theorem parse_leave {h h1:AH} {p a b:Value} {rs:R Lang.Prog} (g0:h1.get h.size=some (.cells #[p] 22 (0,0),none)) (g1:h1.get (h.size + 1)=some (.cells #[a,b] 25 (0,0),none)) (hq:ParseP h rs (.ret (.tuple #[p,.agg #[a,b]])) h1) :
  retV Tryz.prog res7 (ParseP h rs) [] [some (.pointer (some ⟨h.size,0,none⟩)),some (.pointer (some ⟨h.size + 1,0,none⟩))] h1:=by
 unfold retV
 simp (disch:=(first | exact dz | fail)) only [SXB,SX,reduceIte,Int.reduceLT,Int.reduceLE,Int.reduceToNat,Int.reduceBEq,Int.reduceBNe,Nat.reduceAdd,Nat.reduceMul,Nat.reduceSub,Nat.reduceLeDiff]
 rw [res5V,ldN_full (n:=2) g1 rfl]
 simp (disch:=(first | exact dz | fail)) only [g0,SXB,SX,reduceIte,Int.reduceLT,Int.reduceLE,Int.reduceToNat,Int.reduceBEq,Int.reduceBNe,Nat.reduceAdd,Nat.reduceMul,Nat.reduceSub,Nat.reduceLeDiff]
 exact hq
theorem neq_fault {t:Nat} {a b:Int} {h:AH}:binV Tryz.prog .neq 20 (.tmp t) (.const Value.nilIface) (.iface 25 (.agg #[.int .i64 a,.int .i64 b])) .nilIface h=some (.bool true):=by kernel_rfl
theorem assert_fault {a b:Int}:opTypeAssert Tryz.prog (.iface 25 (.agg #[.int .i64 a,.int .i64 b])) 25 false=some (.agg #[.int .i64 a,.int .i64 b]):=by kernel_rfl
theorem leave_pan {h h1:AH} {f:Nat × Nat} {a b:Value} {rs:R Lang.Prog} (hrs:rs=.error f) (g0:h1.get h.size=some (.cells #[a] 22 (0,0),none)) (g1:h1.get (h.size + 1)=some (.cells #[.int .i64 0,.int .i64 0] 25 (0,0),none)) (K:Kp h.size h h1) :
  panD Tryz.prog res7 (ParseP h rs) [.func (.func 16) #[] #[.pointer (some ⟨h.size,0,none⟩),.pointer (some ⟨h.size + 1,0,none⟩)]] [some (.pointer (some ⟨h.size,0,none⟩)),some (.pointer (some ⟨h.size + 1,0,none⟩))] (faultV f) h1:=by
 unfold panD
 rw [dAllP_cons]
 refine D16p_ok ?_
 unfold D16p faultV
 generalize hs2:stN 2=s2
 generalize hs1:stN 1=s1
 simp (disch:=(first | exact dz | fail)) only [neq_fault,assert_fault,g0,SXB,SX,reduceIte,Int.reduceLT,Int.reduceLE,Int.reduceToNat,Int.reduceBEq,Int.reduceBNe,Nat.reduceAdd,Nat.reduceMul,Nat.reduceSub,Nat.reduceLeDiff]
 subst hs2 hs1
 refine bq_of (stN_full g0 rfl rfl (fun z hz=>by simp [Value.cells] at hz;subst hz;rfl)) ?_
 refine bq_of (stN_full ((get_put_ne (by omega)).trans g1) rfl rfl (fun z hz=>by simp [Value.cells] at hz;rcases hz with rfl | rfl <;> rfl)) ?_
 simp (disch:=(first | exact dz | fail)) only [SXB,SX,reduceIte,Int.reduceLT,Int.reduceLE,Int.reduceToNat,Int.reduceBEq,Int.reduceBNe,Nat.reduceAdd,Nat.reduceMul,Nat.reduceSub,Nat.reduceLeDiff]
 have:=parse_leave (h:=h) (p:=.pointer none) (a:=.int .i64 f.1) (b:=.int .i64 f.2) (rs:=rs) ((get_put_ne (by omega)).trans (get_put_eq rfl)) (get_put_eq rfl) (h1:=(h1.put h.size (some (.cells #[.pointer none] 22 (0,0),none))).put (h.size + 1) (some (.cells (Value.agg #[.int .i64 f.1,.int .i64 f.2]).cells 25 (0,0),none))) ⟨by (repeat (first | exact Kp.refl _ _ | assumption | refine Kp.push ?_ _ _ (by first | omega | (simp only [sz_push,sz_put];omega)) | refine Kp.put ?_ _ _ (by first | omega | (simp only [sz_push,sz_put];omega)))),by rw [hrs]⟩
 unfold retV at this
 rw [dAllP_nil] at this
 simpa only [leftV_ret,cells_agg] using this
theorem leave_ret {h h1:AH} {p a b:Value} {rs:R Lang.Prog} (g0:h1.get h.size=some (.cells #[p] 22 (0,0),none)) (g1:h1.get (h.size + 1)=some (.cells #[a,b] 25 (0,0),none)) (hq:ParseP h rs (.ret (.tuple #[p,.agg #[a,b]])) h1) :
  retV Tryz.prog res7 (ParseP h rs) [.func (.func 16) #[] #[.pointer (some ⟨h.size,0,none⟩),.pointer (some ⟨h.size + 1,0,none⟩)]] [some (.pointer (some ⟨h.size,0,none⟩)),some (.pointer (some ⟨h.size + 1,0,none⟩))] h1:=by
 have:=parse_leave g0 g1 hq
 unfold retV at this ⊢
 rw [dAllP_nil] at this
 rw [dAllP_cons]
 refine D16r_ok ?_
 unfold D16r
 simp (disch:=(first | exact dz | fail)) only [SXB,SX,reduceIte,Int.reduceLT,Int.reduceLE,Int.reduceToNat,Int.reduceBEq,Int.reduceBNe,Nat.reduceAdd,Nat.reduceMul,Nat.reduceSub,Nat.reduceLeDiff]
 simpa only [leftV_ret,cells_agg] using this
theorem parse_ok {h:AH} {s:ByteArray} (G:Glob h):HC Tryz.prog 7 [.string s].toArray h (ParseP h (parseF s)):=by
 refine X7_ok ?_
 unfold X7
 generalize hs1:stN 1=s1
 generalize hs2:stN 2=s2
 generalize hl2:ldN 2=l2
 generalize hl3:ldN 3=l3
 by_cases hbig:4096 < s.size
 ·have e:((s.size:Nat):Int) > 4096:=by omega
  simp (disch:=(first | exact dz | fail)) only [e,SXB,SX,reduceIte,Int.reduceLT,Int.reduceLE,Int.reduceToNat,Int.reduceBEq,Int.reduceBNe,Nat.reduceAdd,Nat.reduceMul,Nat.reduceSub,Nat.reduceLeDiff]
  subst hs1 hs2 hl2 hl3
  refine bq_of (x:=.agg #[.int .i64 1,.int .i64 0]) rfl ?_
  refine bq_of (stN_full (c:=#[.pointer none]) (e:=22) (s:=none) (by rw [get_push_ne (by simp)];exact get_push_eq rfl) rfl rfl (fun z hz=>by simp [Value.cells] at hz;subst hz;rfl)) ?_
  refine bq_of (stN_full (c:=#[.int .i64 0,.int .i64 0]) (e:=25) (s:=none) (by rw [get_put_ne (by omega)];exact get_push_eq (by simp)) rfl rfl (fun z hz=>by simp [Value.cells] at hz;rcases hz with rfl | rfl <;> rfl)) ?_
  unfold retV
  simp (disch:=(first | exact dz | fail)) only [SXB,SX,reduceIte,Int.reduceLT,Int.reduceLE,Int.reduceToNat,Int.reduceBEq,Int.reduceBNe,Nat.reduceAdd,Nat.reduceMul,Nat.reduceSub,Nat.reduceLeDiff]
  rw [res5V,ldN_full (n:=2) (get_put_eq rfl) rfl]
  have g1:((((h.push (.cells #[.pointer none] 22 (0,0)) none).push (.cells #[.int .i64 0,.int .i64 0] 25 (0,0)) none).put h.size (some (.cells #[.pointer none] 22 (0,0),none))).put (h.size + 1) (some (.cells #[.int .i64 1,.int .i64 0] 25 (0,0),none))).get h.size=some (.cells #[.pointer none] 22 (0,0),none):=by rw [get_put_ne (by omega)];exact get_put_eq rfl
  simp (disch:=(first | exact dz | fail)) only [g1,SXB,SX,reduceIte,Int.reduceLT,Int.reduceLE,Int.reduceToNat,Int.reduceBEq,Int.reduceBNe,Nat.reduceAdd,Nat.reduceMul,Nat.reduceSub,Nat.reduceLeDiff]
  refine ⟨by (repeat (first | exact Kp.refl _ _ | assumption | refine Kp.push ?_ _ _ (by first | omega | (simp only [sz_push,sz_put];omega)) | refine Kp.put ?_ _ _ (by first | omega | (simp only [sz_push,sz_put];omega)))),?_⟩
  have hx:parseF s=.error (1,0):=by unfold parseF;rw [if_pos hbig]
  rw [hx]
  rfl
 ·have e:¬ (((s.size:Nat):Int) > 4096):=by omega
  simp (disch:=(first | exact dz | fail)) only [e,SXB,SX,reduceIte,Int.reduceLT,Int.reduceLE,Int.reduceToNat,Int.reduceBEq,Int.reduceBNe,Nat.reduceAdd,Nat.reduceMul,Nat.reduceSub,Nat.reduceLeDiff]
  subst hs1 hs2 hl2 hl3
  have hs:s.size ≤ 4096:=by omega
  refine scan_ok hs ?_
  cases hsc:scanF s (s.size + 1) 0 with
  | error j =>
   intro h2 K2
   have hx:parseF s=.error (160,j):=by unfold parseF;rw [if_neg hbig,hsc]
   have z2:=K2.size
   simp only [sz_push] at z2
   have g0:h2.get h.size=some (.cells #[.pointer none] 22 (0,0),none):=by rw [K2.get _ (by simp;omega),get_push_ne (by simp)];exact get_push_eq rfl
   have g1:h2.get (h.size + 1)=some (.cells #[.int .i64 0,.int .i64 0] 25 (0,0),none):=by rw [K2.get _ (by simp)];exact get_push_eq (by simp)
   simp only [resK_ret]
   refine bq_of (x:=.slice none 0 0) rfl ?_
   refine bq_of (x:=.agg #[.int .i64 160,.int .i64 (j:Nat)]) rfl ?_
   refine bq_of (stN_full g1 rfl rfl (fun z hz=>by simp [Value.cells] at hz;rcases hz with rfl | rfl <;> rfl)) ?_
   refine bq_of (ldN_full (get_put_eq rfl) rfl) ?_
   generalize hs1:stN 1=s1
   generalize hs2:stN 2=s2
   generalize hl2:ldN 2=l2
   have e160:((160:Int) == 0)=false:=rfl
   simp (disch:=(first | exact dz | fail)) only [e160,SXB,SX,reduceIte,Int.reduceLT,Int.reduceLE,Int.reduceToNat,Int.reduceBEq,Int.reduceBNe,Nat.reduceAdd,Nat.reduceMul,Nat.reduceSub,Nat.reduceLeDiff]
   subst hs1 hs2 hl2
   refine bq_of (ldN_full (get_put_eq rfl) rfl) ?_
   refine bq_of (stN_full ((get_put_ne (by omega)).trans g0) rfl rfl (fun z hz=>by simp [Value.cells] at hz;subst hz;rfl)) ?_
   refine ⟨bq_of (ldN_full ((get_put_ne (by omega)).trans (get_put_eq rfl)) rfl) rfl,?_⟩
   refine bq_of (stN_full ((get_put_ne (by omega)).trans (get_put_eq rfl)) rfl rfl (fun z hz=>by simp [Value.cells] at hz;rcases hz with rfl | rfl <;> rfl)) ?_
   refine parse_leave (p:=.pointer none) (a:=.int .i64 160) (b:=.int .i64 (j:Nat)) ((get_put_ne (by omega)).trans (get_put_eq rfl)) (get_put_eq rfl) ?_
   rw [hx]
   refine ⟨?_,rfl⟩
   have K3:Kp h.size h h2:=⟨by omega,fun k hk=>(K2.get k (by simp;omega)).trans (by rw [get_push_ne (by simp;omega),get_push_ne (by omega)])⟩
   (repeat (first | exact Kp.refl _ _ | assumption | refine Kp.push ?_ _ _ (by first | omega | (simp only [sz_push,sz_put];omega)) | refine Kp.put ?_ _ _ (by first | omega | (simp only [sz_push,sz_put];omega))))
  | ok ts =>
   intro h2 v K2 O hb
   have hx:parseF s=programF ts:=by unfold parseF;rw [if_neg hbig,hsc]
   obtain ⟨tok,hlen⟩:=scanF_ok hs _ _ _ (Nat.zero_le _) hsc
   have z2:=K2.size
   have zG:=G.size
   simp only [sz_push] at z2
   have g0:h2.get h.size=some (.cells #[.pointer none] 22 (0,0),none):=by rw [K2.get _ (by simp;omega),get_push_ne (by simp)];exact get_push_eq rfl
   have g1:h2.get (h.size + 1)=some (.cells #[.int .i64 0,.int .i64 0] 25 (0,0),none):=by rw [K2.get _ (by simp)];exact get_push_eq (by simp)
   rw [List.nil_append] at O
   simp only [resK_ret]
   refine bq_of (x:=v) rfl ?_
   refine bq_of (x:=.agg #[.int .i64 0,.int .i64 0]) rfl ?_
   refine bq_of (stN_full g1 rfl rfl (fun z hz=>by simp [Value.cells] at hz;rcases hz with rfl | rfl <;> rfl)) ?_
   refine bq_of (ldN_full (get_put_eq rfl) rfl) ?_
   have hkey:∀ k,blkOf v=some k→h.size + 4 ≤ k:=fun k hk=>by have:=O.key k hk;simp at this;omega
   have O2:Ab.Own 55 3 (h2.put (h.size + 1) (some (.cells (Value.agg #[.int .i64 0,.int .i64 0]).cells 25 (0,0),none))) v (ts.map encT):=(Own.of_hld O).mono fun k hk=>get_put_ne (by have:=hkey k hk;omega)
   have K3:Kp h.size h (h2.put (h.size + 1) (some (.cells (Value.agg #[.int .i64 0,.int .i64 0]).cells 25 (0,0),none))):=⟨by simp;omega,fun k hk=>(get_put_ne (by omega)).trans ((K2.get k (by simp;omega)).trans (by rw [get_push_ne (by simp;omega),get_push_ne (by omega)]))⟩
   have g03:=(get_put_ne (h:=h2) (k:=h.size + 1) (j:=h.size) (v:=some (.cells (Value.agg #[.int .i64 0,.int .i64 0]).cells 25 (0,0),none)) (by omega)).trans g0
   have g13:=get_put_eq (h:=h2) (k:=h.size + 1) (j:=h.size + 1) (v:=some (.cells (Value.agg #[.int .i64 0,.int .i64 0]).cells 25 (0,0),none)) rfl
   have hb3:∀ k,blkOf v=some k→k < (h2.put (h.size + 1) (some (.cells (Value.agg #[.int .i64 0,.int .i64 0]).cells 25 (0,0),none))).size:=fun k hk=>by simpa using hb k hk
   have z3:h.size + 2 ≤ (h2.put (h.size + 1) (some (.cells (Value.agg #[.int .i64 0,.int .i64 0]).cells 25 (0,0),none))).size:=by simp;omega
   generalize h2.put (h.size + 1) (some (.cells (Value.agg #[.int .i64 0,.int .i64 0]).cells 25 (0,0),none))=h3 at O2 K3 g03 g13 hb3 z3 ⊢
   obtain ⟨e,he⟩:∃ e,ts[ts.length - 1]?=some e:=⟨ts[ts.length - 1]'(by have:=tok.pos;omega),List.getElem?_eq_getElem _⟩
   have hpos:=tok.pos
   have R:=O2.rd (encTs_size ts) hb3
   have elen:=O2.len
   rw [List.length_map] at elen
   obtain ⟨p,q1,q2,q3⟩:=R.el (ts.length - 1) (encT e) (by simp [he])
   have q4:=q2.ldN (n:=3) rfl
   rw [encT_cells] at q4
   have ew:IntKind.i64.wrap ((ts.length:Int) - 1)=((ts.length - 1:Nat):Int):=by rw [wrap64 (by omega) (by omega)];omega
   have ew2:(ts.length:Int) - 1=((ts.length - 1:Nat):Int):=by omega
   have e00:((0:Int) == 0)=true:=rfl
   have e7:bdF #[.int .i64 0,.int .i64 0,.string ⟨#[]⟩] [(0,3,.agg #[.int .i64 e.cls,.int .i64 e.at_,.string e.text])]=some #[.int .i64 e.cls,.int .i64 e.at_,.string e.text]:=rfl
   have hls:=K3.size
   generalize hs1:stN 1=s1
   generalize hs2:stN 2=s2
   generalize hl2:ldN 2=l2
   simp (disch:=(first | exact dz | fail)) only [e00,elen,ew,ew2,q1,q4,e7,SXB,SX,reduceIte,Int.reduceLT,Int.reduceLE,Int.reduceToNat,Int.reduceBEq,Int.reduceBNe,Nat.reduceAdd,Nat.reduceMul,Nat.reduceSub,Nat.reduceLeDiff]
   subst hs1 hs2 hl2
   obtain ⟨s',h4,a1,a2,a3,a4,a5⟩:=O2.append1 (v:=encT e) (c:=#[.int .i64 e.cls,.int .i64 e.at_,.string e.text]) (bytes:=32) (zero:=.agg #[.int .i64 0,.int .i64 0,.string ⟨#[]⟩]) rfl hb3 (encTs_size ts) rfl (fun z hz=>by simp at hz;rcases hz with rfl | rfl | rfl <;> rfl) (by omega) (by omega) (by omega) rfl (by simp;omega)
   refine bq_of a1 ?_
   dsimp only
   have hbs:∀ k,blkOf s' = some k→h.size + 2 ≤ k∧k < h4.size:=fun k hk=>by
    rcases a5 with e1 | ⟨k',e1,b1,b2⟩
    ·rw [e1] at hk;have:=hkey k hk;have:=hb3 k hk;omega
    ·rw [e1] at hk;cases hk;omega
   obtain ⟨x1,x2,x3,rfl⟩:=a2.isSl
   refine bq_of (x:=.agg #[.slice x1 x2 x3,.slice none 0 0,.int .i64 0,.int .i64 0,.int .i64 0]) rfl ?_
   have f4:∀ k,k < h3.size→blkOf v ≠ some k→h4.get k=h3.get k:=a4
   have nv:∀ k,k < h.size + 2→blkOf v ≠ some k:=fun k hk e=>by have:=hkey k e;omega
   have ns:∀ k,k < h.size + 2→blkOf (.slice x1 x2 x3) ≠ some k:=fun k hk e=>by have:=hbs k e;omega
   have O5:Ab.Own 55 3 (h4.push (.cells #[.slice x1 x2 x3,.slice none 0 0,.int .i64 0,.int .i64 0,.int .i64 0] 58 (0,0)) none) (.slice x1 x2 x3) ((ts++[e]).map encT):=by
    rw [List.map_append]
    exact a2.mono fun k hk=>get_push_ne (by have:=hbs k hk;omega)
   rcases O5.turn (P:=Tryz.prog) (by omega) (encTs_size _) with ⟨_,hnil⟩ | ⟨h6,gu,gf,gs⟩
   ·simp at hnil
   have hkn:blkOf (.slice x1 x2 x3) ≠ some h4.size:=fun e=>by have:=hbs _ e;omega
   have gr:=gu.row (k:=h4.size) (c:=[.slice x1 x2 x3,.slice none 0 0,.int .i64 0,.int .i64 0,.int .i64 0]) (c':=[tokV e ts,.slice none 0 0,.int .i64 0,.int .i64 0,.int .i64 0]) (e:=58) (get_push_eq rfl) (gf _ hkn) (.cons .here (.cons (.same _) (.cons (.same _) (.cons (.same _) (.cons (.same _) .nil)))))
   refine HC.gh (pre:=[]) (post:=[]) (Gh.turn gr (.same _)) ?_
   have hs6:h6.size=h4.size + 1:=by rw [gs];simp
   have g7:∀ k,k < h.size + 2→(h6.put h4.size (some (.cells [tokV e ts,.slice none 0 0,.int .i64 0,.int .i64 0,.int .i64 0].toArray 58 (0,0),none))).get k=h3.get k:=fun k hk=>by
    rw [get_put_ne (by omega),gf k (ns k hk),get_push_ne (by omega)]
    exact f4 k (by omega) (nv k hk)
   have A7:Adv h4.size h (h6.put h4.size (some (.cells [tokV e ts,.slice none 0 0,.int .i64 0,.int .i64 0,.int .i64 0].toArray 58 (0,0),none))):=⟨by rw [sz_put];omega,fun k hk _=>(g7 k (by omega)).trans (K3.get k hk)⟩
   have S7:PS (h6.put h4.size (some (.cells [tokV e ts,.slice none 0 0,.int .i64 0,.int .i64 0,.int .i64 0].toArray 58 (0,0),none))) h4.size e ts (.slice none 0 0) [] 0 0 0:=⟨get_put_eq rfl,(.nil:Ab.Own 86 2 _ _ _),(fun e=>nomatch e),by rw [sz_put];omega,(fun k hk=>nomatch hk)⟩
   have g07:=(g7 h.size (by omega)).trans g03
   have g17:=(g7 (h.size + 1) (by omega)).trans g13
   have hs7:(h6.put h4.size (some (.cells [tokV e ts,.slice none 0 0,.int .i64 0,.int .i64 0,.int .i64 0].toArray 58 (0,0),none))).size=h4.size + 1:=by rw [sz_put];exact hs6
   have G7:=G.adv A7 (by omega)
   generalize h6.put h4.size (some (.cells [tokV e ts,.slice none 0 0,.int .i64 0,.int .i64 0,.int .i64 0].toArray 58 (0,0),none))=h7 at A7 S7 g07 g17 hs7 G7 ⊢
   refine HC.mono (program_ok S7 (by omega) G7 tok (by omega)) fun r h8 hp=>?_
   cases hpr:programF ts with
   | error f =>
    rw [hpr] at hp
    obtain ⟨rfl,A8⟩:=hp
    simp only [resK_pan]
    exact leave_pan (a:=.pointer none) (b:=.nilIface) (hx.trans hpr) ((A8.get _ (by omega) (by omega)).trans g07) ((A8.get _ (by omega) (by omega)).trans g17) ⟨by have:=A8.size;omega,fun k hk=>(A8.get k (by omega) (by omega)).trans (A7.get k hk (by omega))⟩
   | ok pr =>
    rw [hpr] at hp
    obtain ⟨rfl,gp,hs8,A8⟩:=hp
    simp only [resK_ret]
    refine bq_of (stN_full ((A8.get _ (by omega) (by omega)).trans g07) rfl rfl (fun z hz=>by simp [Value.cells] at hz;subst hz;rfl)) ?_
    refine bq_of (stN_full ((get_put_ne (by omega)).trans ((A8.get _ (by omega) (by omega)).trans g17)) rfl rfl (fun z hz=>by simp [Value.cells] at hz;rcases hz with rfl | rfl <;> rfl)) ?_
    refine leave_ret (p:=.pointer (some ⟨h7.size + 1,0,none⟩)) (a:=.int .i64 0) (b:=.int .i64 0) ((get_put_ne (by omega)).trans (get_put_eq rfl)) (get_put_eq rfl) ⟨⟨by have:=A8.size;simp;omega,fun k hk=>(get_put_ne (by omega)).trans ((get_put_ne (by omega)).trans ((A8.get k (by omega) (by omega)).trans (A7.get k hk (by omega))))⟩,?_⟩
    rw [hx,hpr]
    exact ⟨h7.size + 1,rfl,by omega,by simp;omega,(get_put_ne (by omega)).trans ((get_put_ne (by omega)).trans gp)⟩
end Go.Proofs.YtibigfkeaemanaaGreatDoor.L
end
section
namespace Go.Lang
set_option maxRecDepth 100000
abbrev textCounts:ByteArray:=⟨#[109,97,112,32,123,32,101,97,99,104,32,119,32,105,110,32,118,97,108,117,101,32,98,121,32,34,32,34,32,123,32,101,109,105,116,32,119,44,32,34,49,34,59,32,125,32,125,32,114,101,100,117,99,101,32,123,32,101,109,105,116,32,107,101,121,44,32,116,101,120,116,40,115,117,109,40,118,97,108,117,101,115,41,41,59,32,125]⟩
def progCounts:Prog:=⟨[(.mk ⟨#[101,97,99,104]⟩ ⟨#[119]⟩ (.mk ⟨#[118,97,114]⟩ 16 0 ⟨#[118,97,108,117,101]⟩ []) (.mk ⟨#[115,116,114,105,110,103]⟩ 25 0 ⟨#[32]⟩ []) [(.mk ⟨#[101,109,105,116]⟩ ⟨#[]⟩ (.mk ⟨#[118,97,114]⟩ 36 0 ⟨#[119]⟩ []) (.mk ⟨#[115,116,114,105,110,103]⟩ 39 0 ⟨#[49]⟩ []) [] [])] [])],[],[(.mk ⟨#[101,109,105,116]⟩ ⟨#[]⟩ (.mk ⟨#[118,97,114]⟩ 62 0 ⟨#[107,101,121]⟩ []) (.mk ⟨#[116,101,120,116]⟩ 67 0 ⟨#[]⟩ [(.mk ⟨#[115,117,109]⟩ 72 0 ⟨#[]⟩ [(.mk ⟨#[118,97,114]⟩ 76 0 ⟨#[118,97,108,117,101,115]⟩ [])])]) [] [])],false,false,(.mk ⟨#[]⟩ 0 0 ⟨#[]⟩ [])⟩
theorem readCounts:parseF textCounts=.ok progCounts:=by kernel_rfl
abbrev textCuts:ByteArray:=⟨#[109,97,112,32,123,32,108,101,116,32,110,32,61,32,110,117,109,40,107,101,121,41,59,32,101,109,105,116,32,99,97,116,40,99,117,116,40,118,97,108,117,101,44,32,48,44,32,110,41,44,32,99,117,116,40,118,97,108,117,101,44,32,110,44,32,108,101,110,40,118,97,108,117,101,41,41,41,44,32,108,111,119,101,114,40,117,112,112,101,114,40,118,97,108,117,101,41,41,59,32,101,109,105,116,32,108,111,119,101,114,40,118,97,108,117,101,41,44,32,117,112,112,101,114,40,108,111,119,101,114,40,118,97,108,117,101,41,41,59,32,101,109,105,116,32,117,112,112,101,114,40,118,97,108,117,101,41,44,32,116,101,120,116,40,108,101,110,40,118,97,108,117,101,41,41,59,32,125,32,114,101,100,117,99,101,32,123,32,125]⟩
def progCuts:Prog:=⟨[(.mk ⟨#[108,101,116]⟩ ⟨#[110]⟩ (.mk ⟨#[110,117,109]⟩ 14 0 ⟨#[]⟩ [(.mk ⟨#[118,97,114]⟩ 18 0 ⟨#[107,101,121]⟩ [])]) (.mk ⟨#[]⟩ 0 0 ⟨#[]⟩ []) [] []),(.mk ⟨#[101,109,105,116]⟩ ⟨#[]⟩ (.mk ⟨#[99,97,116]⟩ 29 0 ⟨#[]⟩ [(.mk ⟨#[99,117,116]⟩ 33 0 ⟨#[]⟩ [(.mk ⟨#[118,97,114]⟩ 37 0 ⟨#[118,97,108,117,101]⟩ []),(.mk ⟨#[110,117,109,98,101,114]⟩ 44 0 ⟨#[]⟩ []),(.mk ⟨#[118,97,114]⟩ 47 0 ⟨#[110]⟩ [])]),(.mk ⟨#[99,117,116]⟩ 51 0 ⟨#[]⟩ [(.mk ⟨#[118,97,114]⟩ 55 0 ⟨#[118,97,108,117,101]⟩ []),(.mk ⟨#[118,97,114]⟩ 62 0 ⟨#[110]⟩ []),(.mk ⟨#[108,101,110]⟩ 65 0 ⟨#[]⟩ [(.mk ⟨#[118,97,114]⟩ 69 0 ⟨#[118,97,108,117,101]⟩ [])])])]) (.mk ⟨#[108,111,119,101,114]⟩ 79 0 ⟨#[]⟩ [(.mk ⟨#[117,112,112,101,114]⟩ 85 0 ⟨#[]⟩ [(.mk ⟨#[118,97,114]⟩ 91 0 ⟨#[118,97,108,117,101]⟩ [])])]) [] []),(.mk ⟨#[101,109,105,116]⟩ ⟨#[]⟩ (.mk ⟨#[108,111,119,101,114]⟩ 105 0 ⟨#[]⟩ [(.mk ⟨#[118,97,114]⟩ 111 0 ⟨#[118,97,108,117,101]⟩ [])]) (.mk ⟨#[117,112,112,101,114]⟩ 119 0 ⟨#[]⟩ [(.mk ⟨#[108,111,119,101,114]⟩ 125 0 ⟨#[]⟩ [(.mk ⟨#[118,97,114]⟩ 131 0 ⟨#[118,97,108,117,101]⟩ [])])]) [] []),(.mk ⟨#[101,109,105,116]⟩ ⟨#[]⟩ (.mk ⟨#[117,112,112,101,114]⟩ 145 0 ⟨#[]⟩ [(.mk ⟨#[118,97,114]⟩ 151 0 ⟨#[118,97,108,117,101]⟩ [])]) (.mk ⟨#[116,101,120,116]⟩ 159 0 ⟨#[]⟩ [(.mk ⟨#[108,101,110]⟩ 164 0 ⟨#[]⟩ [(.mk ⟨#[118,97,114]⟩ 168 0 ⟨#[118,97,108,117,101]⟩ [])])]) [] [])],[],[],false,false,(.mk ⟨#[]⟩ 0 0 ⟨#[]⟩ [])⟩
theorem readCuts:parseF textCuts=.ok progCuts:=by kernel_rfl
end Go.Lang
end
