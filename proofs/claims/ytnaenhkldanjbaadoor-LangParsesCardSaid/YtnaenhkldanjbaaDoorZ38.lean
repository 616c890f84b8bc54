import Derived.Test.YtnaenhkldanjbaaDoorZ37
set_option linter.unusedVariables false
set_option linter.unusedSimpArgs false
section
namespace Go.Proofs.YtnaenhkldanjbaaDoor.L
open Go.Ab Go.Lang Go.Proofs.YtnaenhkldanjbaaDoor.X
set_option maxRecDepth 100000
theorem rpush_b {h0 h1:AH} {s:ByteArray} (hs:s.size ≤ 4096) {tv sv iv:Value} {kk:Nat} (hk:kk < s.size) {acc:List UInt8} (ha:acc.length ≤ kk) {c:UInt8} (K:Kp h0.size h0 h1) (O:Hld 5 1 h1 h0.size sv (encB acc)) (hb:∀ k,blkOf sv=some k→k < h1.size) {Q:RQ}
  (hq:∀ h2 sv2,Kp h0.size h0 h2→Hld 5 1 h2 h0.size sv2 (encB (acc++[c]))→(∀ k,blkOf sv2=some k→k < h2.size)→H12_24 (.string s) tv iv (.int .i64 (kk + 1:Nat)) sv2 (.bool false) h2 Q) :
  bq (apT 5 1 1 (some (.int .u8 0)) (h1.push (.cells #[.int .u8 c.toNat] 5 (0,0)) none) sv (.slice (some ⟨h1.size,0,none⟩) 1 1)) fun r=>K12_44 (.string s) tv iv (.int .i64 kk) r.1 (.bool false) r.2 Q:=by
 have e1:∀ v ∈ encB acc,v.cells.size=1:=fun v hv=>by
  obtain ⟨d,_,rfl⟩:=List.mem_map.1 hv;rfl
 have hl:(encB acc).length=acc.length:=by simp [encB]
 obtain ⟨s',h2,q1,q2,q3,q4,q5⟩:=O.append1 (v:=.int .u8 c.toNat) (c:=#[.int .u8 c.toNat]) (bytes:=1) (zero:=.int .u8 0) rfl hb K.size e1 rfl (fun z hz=>by simp at hz;subst hz;rfl) (by omega) (by omega) (by omega) rfl (by omega)
 refine bq_of q1 ?_
 refine X12_44_ok ?_
 unfold X12_44
 have e2:IntKind.i64.wrap ((kk:Int) + 1)=((kk + 1:Nat):Int):=by rw [wrap64 (by omega) (by omega)];omega
 simp (disch:=(first | exact dz | fail)) only [e2,SXB,SX,reduceIte,Int.reduceLT,Int.reduceLE,Int.reduceToNat,Int.reduceBEq,Int.reduceBNe,Nat.reduceAdd,Nat.reduceMul,Nat.reduceSub,Nat.reduceLeDiff]
 have:=hq h2 s' ⟨Nat.le_trans K.size q3,fun k hk=>(q4 k (Nat.lt_of_lt_of_le hk K.size) fun e=>by have:=O.key k e;omega).trans (K.get k hk)⟩ (by rw [show encB (acc++[c])=encB acc++[.int .u8 c.toNat] by simp [encB]];exact q2) (fun k hk=>by
  rcases q5 with e | ⟨k',e,h1,h3⟩
  ·rw [e] at hk;exact Nat.lt_of_lt_of_le (hb k hk) q3
  ·rw [e] at hk;cases hk;exact h3)
 simpa using this
theorem rq_end {h h0 h1:AH} {toks:List Tok} {s:ByteArray} (hs:s.size ≤ 4096) {tv sv:Value} {i kk:Nat} {acc:List UInt8} (ht:toks.length ≤ 5000) (X:SCR h h0 toks tv) (K:Kp h0.size h0 h1) (O:Hld 5 1 h1 h0.size sv (encB acc)) {Q:RQ}
  (next:∀ h2 tv2,SCR h h2 (toks++[⟨3,i,⟨acc.toArray⟩⟩]) tv2→H12_3 (.string s) tv2 (.int .i64 kk) h2 Q):H12_24 (.string s) tv (.int .i64 i) (.int .i64 kk) sv (.bool true) h1 Q:=by
 refine X12_24_ok ?_
 unfold X12_24
 have hcv:=b2s O
 have e7:bdF #[.int .i64 0,.int .i64 0,.string ⟨#[]⟩] [(0,1,.int .i64 3),(1,1,.int .i64 i),(2,1,.string ⟨acc.toArray⟩)]=some #[.int .i64 3,.int .i64 i,.string ⟨acc.toArray⟩]:=rfl
 have e8:bdF #[.int .i64 0,.int .i64 0,.string ⟨#[]⟩] [(0,3,.agg #[.int .i64 3,.int .i64 i,.string ⟨acc.toArray⟩])]=some #[.int .i64 3,.int .i64 i,.string ⟨acc.toArray⟩]:=rfl
 have fin:=rtok_done (t:=⟨3,i,⟨acc.toArray⟩⟩) (X.keep K) ht next
 by_cases hlt:kk < s.size
 ·have e:(kk:Int) < s.size:=by omega
  simp (disch:=(first | exact dz | fail)) only [e,hcv,e7,e8,SXB,SX,reduceIte,Int.reduceLT,Int.reduceLE,Int.reduceToNat,Int.reduceBEq,Int.reduceBNe,Nat.reduceAdd,Nat.reduceMul,Nat.reduceSub,Nat.reduceLeDiff]
  exact fin
 ·have e:¬ ((kk:Int) < s.size):=by omega
  simp (disch:=(first | exact dz | fail)) only [e,hcv,e7,e8,SXB,SX,reduceIte,Int.reduceLT,Int.reduceLE,Int.reduceToNat,Int.reduceBEq,Int.reduceBNe,Nat.reduceAdd,Nat.reduceMul,Nat.reduceSub,Nat.reduceLeDiff]
  exact fin
theorem rq_loop {h h0:AH} {toks:List Tok} {s:ByteArray} (hs:s.size ≤ 4096) {tv:Value} {i:Nat} (ht:toks.length ≤ 5000) (X:SCR h h0 toks tv) {Q:RQ} :
  ∀ (n k:Nat) (h1:AH) (acc:List UInt8) (sv:Value),s.size ≤ k + n→acc.length ≤ k→Kp h0.size h0 h1→Hld 5 1 h1 h0.size sv (encB acc)→(∀ k,blkOf sv=some k→k < h1.size) →
   (quotedF s n k acc=none→∀ h2,Kp h0.size h0 h2→Q (.ret (.tuple #[.slice none 0 0,.int .i64 i])) h2) →
   (∀ l k',quotedF s n k acc=some (l,k')→∀ h2 tv2,SCR h h2 (toks++[⟨3,i,⟨l.toArray⟩⟩]) tv2→H12_3 (.string s) tv2 (.int .i64 k') h2 Q) →
   H12_24 (.string s) tv (.int .i64 i) (.int .i64 k) sv (.bool false) h1 Q:=by
 intro n
 induction n with
 | zero =>
  intro k h1 acc sv hn ha K O hb bad next
  refine X12_24_ok ?_
  unfold X12_24
  have e:¬ ((k:Int) < s.size):=by omega
  simp (disch:=(first | exact dz | fail)) only [e,SXB,SX,reduceIte,Int.reduceLT,Int.reduceLE,Int.reduceToNat,Int.reduceBEq,Int.reduceBNe,Nat.reduceAdd,Nat.reduceMul,Nat.reduceSub,Nat.reduceLeDiff]
  exact bad rfl _ K
 | succ n ih =>
  intro k h1 acc sv hn ha K O hb bad next
  refine X12_24_ok ?_
  unfold X12_24
  unfold quotedF at bad next
  by_cases hlt:k < s.size
  ·have e:(k:Int) < s.size:=by omega
   rw [if_pos hlt] at bad next
   have e0:=ixS_at rfl (at_bang hlt)
   simp only at bad next
   generalize s[k]! = c at e0 bad next
   have u1:=u_eq c 34 (by omega)
   have u2:=u_eq c 92 (by omega)
   have u3:=u_lt32 c
   have u4:=u_gt126 c
   have w1:IntKind.i64.wrap ((k:Int) + 1)=((k + 1:Nat):Int):=by rw [wrap64 (by omega) (by omega)];omega
   by_cases c1:(c == 34)=true
   ·rw [if_pos c1] at bad next
    have u1':((c.toNat:Int) == 34)=true:=u1.trans c1
    simp (disch:=(first | exact dz | fail)) only [e,e0,u1',SXB,SX,reduceIte,Int.reduceLT,Int.reduceLE,Int.reduceToNat,Int.reduceBEq,Int.reduceBNe,Nat.reduceAdd,Nat.reduceMul,Nat.reduceSub,Nat.reduceLeDiff]
    refine X12_44_ok ?_
    unfold X12_44
    simp (disch:=(first | exact dz | fail)) only [w1,SXB,SX,reduceIte,Int.reduceLT,Int.reduceLE,Int.reduceToNat,Int.reduceBEq,Int.reduceBNe,Nat.reduceAdd,Nat.reduceMul,Nat.reduceSub,Nat.reduceLeDiff]
    exact rq_end hs ht X K O (next acc (k + 1) rfl)
   ·rw [if_neg c1] at bad next
    have u1':((c.toNat:Int) == 34)=false:=u1.trans (by simpa using c1)
    by_cases c5:(c == 92)=true
    ·have hcc:c=92:=by simpa using c5
     have c2:¬ (decide (c < 32) || decide (126 < c))=true:=by rw [hcc];decide
     rw [if_neg c2,if_pos c5] at bad next
     have u2':((c.toNat:Int) == 92)=true:=u2.trans c5
     by_cases hlt2:k + 1 < s.size
     ·rw [if_pos hlt2] at bad next
      have e3:¬ (((k + 1:Nat):Int) ≥ (s.size:Nat)):=by omega
      have e4:=ixS_at rfl (at_bang hlt2)
      generalize s[k + 1]! = c' at e4 bad next
      have v1:=u_eq c' 34 (by omega)
      have v2:=u_eq c' 92 (by omega)
      have v3:=u_eq c' 110 (by omega)
      have v4:=u_eq c' 116 (by omega)
      have e7:∀ d:UInt8,bdF #[Value.int .u8 0] [(0,1,.int .u8 d.toNat)]=some #[.int .u8 d.toNat]:=fun d=>bdF_one rfl rfl
      have go:∀ d,esc c' = some d→∀ h2 sv2,Kp h0.size h0 h2→Hld 5 1 h2 h0.size sv2 (encB (acc++[d]))→(∀ k,blkOf sv2=some k→k < h2.size)→H12_24 (.string s) tv (.int .i64 i) (.int .i64 (k + 1 + 1:Nat)) sv2 (.bool false) h2 Q:=fun d hd h2 sv2 K2 O2 hb2=>by
       rw [hd] at bad next
       exact ih (k + 2) h2 (acc++[d]) sv2 (by omega) (by simp;omega) K2 O2 hb2 bad next
      by_cases d1:(c' == 34)=true
      ·have hc':c' = 34:=by simpa using d1
       have v1':((c'.toNat:Int) == 34)=true:=v1.trans d1
       simp (disch:=(first | exact dz | fail)) only [e,e0,u1',u2',w1,e3,e4,v1',SXB,SX,reduceIte,Int.reduceLT,Int.reduceLE,Int.reduceToNat,Int.reduceBEq,Int.reduceBNe,Nat.reduceAdd,Nat.reduceMul,Nat.reduceSub,Nat.reduceLeDiff]
       refine X12_36_ok ?_
       unfold X12_36
       have e7':=e7 c'
       simp (disch:=(first | exact dz | fail)) only [e4,e7',SXB,SX,reduceIte,Int.reduceLT,Int.reduceLE,Int.reduceToNat,Int.reduceBEq,Int.reduceBNe,Nat.reduceAdd,Nat.reduceMul,Nat.reduceSub,Nat.reduceLeDiff]
       exact rpush_b hs hlt2 (by omega) K O hb (go c' (by rw [hc'];rfl))
      ·have v1':((c'.toNat:Int) == 34)=false:=v1.trans (by simpa using d1)
       by_cases d2:(c' == 92)=true
       ·have hc':c' = 92:=by simpa using d2
        have v2':((c'.toNat:Int) == 92)=true:=v2.trans d2
        simp (disch:=(first | exact dz | fail)) only [e,e0,u1',u2',w1,e3,e4,v1',v2',SXB,SX,reduceIte,Int.reduceLT,Int.reduceLE,Int.reduceToNat,Int.reduceBEq,Int.reduceBNe,Nat.reduceAdd,Nat.reduceMul,Nat.reduceSub,Nat.reduceLeDiff]
        refine X12_36_ok ?_
        unfold X12_36
        have e7':=e7 c'
        simp (disch:=(first | exact dz | fail)) only [e4,e7',SXB,SX,reduceIte,Int.reduceLT,Int.reduceLE,Int.reduceToNat,Int.reduceBEq,Int.reduceBNe,Nat.reduceAdd,Nat.reduceMul,Nat.reduceSub,Nat.reduceLeDiff]
        exact rpush_b hs hlt2 (by omega) K O hb (go c' (by rw [hc'];rfl))
       ·have v2':((c'.toNat:Int) == 92)=false:=v2.trans (by simpa using d2)
        simp (disch:=(first | exact dz | fail)) only [e,e0,u1',u2',w1,e3,e4,v1',v2',SXB,SX,reduceIte,Int.reduceLT,Int.reduceLE,Int.reduceToNat,Int.reduceBEq,Int.reduceBNe,Nat.reduceAdd,Nat.reduceMul,Nat.reduceSub,Nat.reduceLeDiff]
        refine X12_36_ok ?_
        unfold X12_36
        by_cases d3:(c' == 110)=true
        ·have hc':c' = 110:=by simpa using d3
         have v3':((c'.toNat:Int) == 110)=true:=v3.trans d3
         have e7':bdF #[Value.int .u8 0] [(0,1,.int .u8 10)]=some #[.int .u8 10]:=rfl
         simp (disch:=(first | exact dz | fail)) only [v3',e7',SXB,SX,reduceIte,Int.reduceLT,Int.reduceLE,Int.reduceToNat,Int.reduceBEq,Int.reduceBNe,Nat.reduceAdd,Nat.reduceMul,Nat.reduceSub,Nat.reduceLeDiff]
         exact rpush_b hs hlt2 (by omega) K O hb (go 10 (by rw [hc'];rfl))
        ·have v3':((c'.toNat:Int) == 110)=false:=v3.trans (by simpa using d3)
         by_cases d4:(c' == 116)=true
         ·have hc':c' = 116:=by simpa using d4
          have v4':((c'.toNat:Int) == 116)=true:=v4.trans d4
          have e7':bdF #[Value.int .u8 0] [(0,1,.int .u8 9)]=some #[.int .u8 9]:=rfl
          simp (disch:=(first | exact dz | fail)) only [v3',v4',e7',SXB,SX,reduceIte,Int.reduceLT,Int.reduceLE,Int.reduceToNat,Int.reduceBEq,Int.reduceBNe,Nat.reduceAdd,Nat.reduceMul,Nat.reduceSub,Nat.reduceLeDiff]
          exact rpush_b hs hlt2 (by omega) K O hb (go 9 (by rw [hc'];rfl))
         ·have v4':((c'.toNat:Int) == 116)=false:=v4.trans (by simpa using d4)
          simp (disch:=(first | exact dz | fail)) only [v3',v4',SXB,SX,reduceIte,Int.reduceLT,Int.reduceLE,Int.reduceToNat,Int.reduceBEq,Int.reduceBNe,Nat.reduceAdd,Nat.reduceMul,Nat.reduceSub,Nat.reduceLeDiff]
          refine bad ?_ _ K
          have:esc c' = none:=by unfold esc;rw [if_neg d1,if_neg d2,if_neg d3,if_neg d4]
          rw [this]
     ·rw [if_neg hlt2] at bad next
      have e3:(((k + 1:Nat):Int) ≥ (s.size:Nat)):=by omega
      simp (disch:=(first | exact dz | fail)) only [e,e0,u1',u2',w1,e3,SXB,SX,reduceIte,Int.reduceLT,Int.reduceLE,Int.reduceToNat,Int.reduceBEq,Int.reduceBNe,Nat.reduceAdd,Nat.reduceMul,Nat.reduceSub,Nat.reduceLeDiff]
      exact bad rfl _ K
    ·have u2':((c.toNat:Int) == 92)=false:=u2.trans (by simpa using c5)
     by_cases c2:(decide (c < 32) || decide (126 < c))=true
     ·rw [if_pos c2] at bad
      rcases Bool.or_eq_true _ _ ▸ c2 with c3 | c3
      ·have u3':(c.toNat:Int) < 32:=of_decide_eq_true (u3.trans c3)
       simp (disch:=(first | exact dz | fail)) only [e,e0,u1',u2',u3',SXB,SX,reduceIte,Int.reduceLT,Int.reduceLE,Int.reduceToNat,Int.reduceBEq,Int.reduceBNe,Nat.reduceAdd,Nat.reduceMul,Nat.reduceSub,Nat.reduceLeDiff]
       exact bad rfl _ K
      ·have u4':(c.toNat:Int) > 126:=of_decide_eq_true (u4.trans c3)
       have u3':¬ ((c.toNat:Int) < 32):=by omega
       simp (disch:=(first | exact dz | fail)) only [e,e0,u1',u2',u3',u4',SXB,SX,reduceIte,Int.reduceLT,Int.reduceLE,Int.reduceToNat,Int.reduceBEq,Int.reduceBNe,Nat.reduceAdd,Nat.reduceMul,Nat.reduceSub,Nat.reduceLeDiff]
       exact bad rfl _ K
     ·rw [if_neg c2,if_neg c5] at bad next
      simp only [Bool.or_eq_true,decide_eq_true_eq,not_or] at c2
      have u3':¬ ((c.toNat:Int) < 32):=fun hh=>by
       have:=u3;rw [decide_eq_true hh] at this;exact c2.1 (of_decide_eq_true this.symm)
      have u4':¬ ((c.toNat:Int) > 126):=fun hh=>by
       have:=u4;rw [decide_eq_true hh] at this;exact c2.2 (of_decide_eq_true this.symm)
      have e7:bdF #[Value.int .u8 0] [(0,1,.int .u8 c.toNat)]=some #[.int .u8 c.toNat]:=bdF_one rfl rfl
      simp (disch:=(first | exact dz | fail)) only [e,e0,u1',u2',u3',u4',e7,SXB,SX,reduceIte,Int.reduceLT,Int.reduceLE,Int.reduceToNat,Int.reduceBEq,Int.reduceBNe,Nat.reduceAdd,Nat.reduceMul,Nat.reduceSub,Nat.reduceLeDiff]
      exact rpush_b hs hlt ha K O hb fun h2 sv2 K2 O2 hb2=>ih (k + 1) h2 (acc++[c]) sv2 (by omega) (by simp;omega) K2 O2 hb2 bad next
  ·have e:¬ ((k:Int) < s.size):=by omega
   rw [if_neg hlt] at bad
   simp (disch:=(first | exact dz | fail)) only [e,SXB,SX,reduceIte,Int.reduceLT,Int.reduceLE,Int.reduceToNat,Int.reduceBEq,Int.reduceBNe,Nat.reduceAdd,Nat.reduceMul,Nat.reduceSub,Nat.reduceLeDiff]
   exact bad rfl _ K
end Go.Proofs.YtnaenhkldanjbaaDoor.L
end
section
namespace Go.Proofs.YtnaenhkldanjbaaDoor.L
open Go.Ab Go.Lang Go.Proofs.YtnaenhkldanjbaaDoor.X
set_option maxRecDepth 100000
set_option maxHeartbeats 4000000 in
theorem rscan_loop {h:AH} {s:ByteArray} (hs:s.size ≤ 4096) {Q:RQ}:∀ (n i:Nat) (h1:AH) (toks:List Tok) (tv:Value),s.size - i + 1 ≤ n→i ≤ s.size→toks.length ≤ i→SCR h h1 toks tv→SPr Q h toks (scanF s n i) →
  H12_3 (.string s) tv (.int .i64 i) h1 Q:=by
 intro n
 induction n with
 | zero=>intro i h1 toks tv hn;omega
 | succ n ih =>
  intro i h1 toks tv hn hi ha X hq
  refine X12_3_ok ?_
  unfold X12_3
  unfold scanF at hq
  have ht:toks.length ≤ 5000:=by omega
  by_cases hlt:i < s.size
  ·have e:(i:Int) < s.size:=by omega
   have e0:=ixS_at rfl (at_bang hlt)
   have w1:IntKind.i64.wrap ((i:Int) + 1)=((i + 1:Nat):Int):=by rw [wrap64 (by omega) (by omega)];omega
   rw [if_pos hlt] at hq
   have hT:tokF s i=tokF s i:=rfl
   have step:∀ t k,tokF s i=some (t,k)→Lang.blank s[i]! = false→i < k→k ≤ s.size→∀ h2 tv2,SCR h h2 (toks++[t]) tv2→H12_3 (.string s) tv2 (.int .i64 k) h2 Q:=fun t k hk hb h1 h2 h3 tv2 Y=>by
    rw [if_neg (by simp [hb]),hk] at hq
    exact ih k h3 (toks++[t]) tv2 (by omega) h2 (by simp;omega) Y hq.cons
   have bad:tokF s i=none→Lang.blank s[i]! = false→∀ h2,Kp h.size h h2→Q (.ret (.tuple #[.slice none 0 0,.int .i64 i])) h2:=fun hk hb h2 K2=>by
    rw [if_neg (by simp [hb]),hk] at hq
    exact hq h2 K2
   have skip:Lang.blank s[i]! = true→H12_3 (.string s) tv (.int .i64 (i + 1:Nat)) h1 Q:=fun hb=>by
    rw [if_pos hb] at hq
    exact ih (i + 1) h1 toks tv (by omega) (by omega) (by omega) X hq
   have htok:tokF s i=(let c:=s[i]!
    if Lang.letter c then let k:=span alnum s s.size (i + 1);some (⟨1,i,s.extract i k⟩,k)
    else if Lang.digit c then let k:=span digit s s.size (i + 1);if 9 < k - i || (1 < k - i && c == 48) then none else some (⟨2,i,s.extract i k⟩,k)
    else if c == 34 then match quotedF s s.size (i + 1) [] with
     | some (l,k)=>some (⟨3,i,⟨l.toArray⟩⟩,k)
     | none=>none
    else if Lang.isMark c then some (⟨4,i,s.extract i (i + 1)⟩,i + 1)
    else none):=rfl
   clear hq
   generalize tokF s i=tk at step bad htok
   generalize s[i]! = c at e0 step bad skip htok
   simp only at htok
   by_cases b0:(c == 32)=true
   ·have u0:((c.toNat:Int) == 32)=true:=(u_eq c 32 (by omega)).trans b0
    simp (disch:=(first | exact dz | fail)) only [e,e0,u0,w1,SXB,SX,reduceIte,Int.reduceLT,Int.reduceLE,Int.reduceToNat,Int.reduceBEq,Int.reduceBNe,Nat.reduceAdd,Nat.reduceMul,Nat.reduceSub,Nat.reduceLeDiff]
    exact skip (by unfold Lang.blank;simp only [b0,Bool.or_true,Bool.true_or])
   have u0:((c.toNat:Int) == 32)=false:=(u_eq c 32 (by omega)).trans (by simpa using b0)
   by_cases b1:(c == 9)=true
   ·have u1:((c.toNat:Int) == 9)=true:=(u_eq c 9 (by omega)).trans b1
    simp (disch:=(first | exact dz | fail)) only [e,e0,u0,u1,w1,SXB,SX,reduceIte,Int.reduceLT,Int.reduceLE,Int.reduceToNat,Int.reduceBEq,Int.reduceBNe,Nat.reduceAdd,Nat.reduceMul,Nat.reduceSub,Nat.reduceLeDiff]
    exact skip (by unfold Lang.blank;simp only [b1,Bool.or_true,Bool.true_or])
   have u1:((c.toNat:Int) == 9)=false:=(u_eq c 9 (by omega)).trans (by simpa using b1)
   by_cases b2:(c == 10)=true
   ·have u2:((c.toNat:Int) == 10)=true:=(u_eq c 10 (by omega)).trans b2
    simp (disch:=(first | exact dz | fail)) only [e,e0,u0,u1,u2,w1,SXB,SX,reduceIte,Int.reduceLT,Int.reduceLE,Int.reduceToNat,Int.reduceBEq,Int.reduceBNe,Nat.reduceAdd,Nat.reduceMul,Nat.reduceSub,Nat.reduceLeDiff]
    exact skip (by unfold Lang.blank;simp only [b2,Bool.or_true,Bool.true_or])
   have u2:((c.toNat:Int) == 10)=false:=(u_eq c 10 (by omega)).trans (by simpa using b2)
   by_cases b3:(c == 13)=true
   ·have u3:((c.toNat:Int) == 13)=true:=(u_eq c 13 (by omega)).trans b3
    simp (disch:=(first | exact dz | fail)) only [e,e0,u0,u1,u2,u3,w1,SXB,SX,reduceIte,Int.reduceLT,Int.reduceLE,Int.reduceToNat,Int.reduceBEq,Int.reduceBNe,Nat.reduceAdd,Nat.reduceMul,Nat.reduceSub,Nat.reduceLeDiff]
    exact skip (by unfold Lang.blank;simp only [b3,Bool.or_true,Bool.true_or])
   have u3:((c.toNat:Int) == 13)=false:=(u_eq c 13 (by omega)).trans (by simpa using b3)
   have hb:Lang.blank c=false:=by unfold Lang.blank;simp only [Bool.eq_false_iff.mpr b0,Bool.eq_false_iff.mpr b1,Bool.eq_false_iff.mpr b2,Bool.eq_false_iff.mpr b3];rfl
   have ei:(i:Int) + 1=((i + 1:Nat):Int):=by omega
   simp (disch:=(first | exact dz | fail)) only [e,e0,u0,u1,u2,u3,w1,SXB,SX,reduceIte,Int.reduceLT,Int.reduceLE,Int.reduceToNat,Int.reduceBEq,Int.reduceBNe,Nat.reduceAdd,Nat.reduceMul,Nat.reduceSub,Nat.reduceLeDiff]
   try rw [ei]
   refine HC.exact (rletter_ok c) ?_
   cases hl:Lang.letter c with
   | true =>
    rw [hl] at htok
    simp only [if_true] at htok
    have sp:=span_ge alnum s s.size (i + 1)
    simp (disch:=(first | exact dz | fail)) only [SXB,SX,reduceIte,Int.reduceLT,Int.reduceLE,Int.reduceToNat,Int.reduceBEq,Int.reduceBNe,Nat.reduceAdd,Nat.reduceMul,Nat.reduceSub,Nat.reduceLeDiff]
    exact rword_loop hs ht X s.size (i + 1) (by omega) (by omega) (by omega) (step _ _ htok hb (by omega) (sp.2 (by omega)))
   | false =>
   rw [hl] at htok
   simp only [Bool.false_eq_true,if_false] at htok
   simp (disch:=(first | exact dz | fail)) only [SXB,SX,reduceIte,Int.reduceLT,Int.reduceLE,Int.reduceToNat,Int.reduceBEq,Int.reduceBNe,Nat.reduceAdd,Nat.reduceMul,Nat.reduceSub,Nat.reduceLeDiff]
   refine HC.exact (rdigit_ok c) ?_
   cases hd:Lang.digit c with
   | true =>
    rw [hd] at htok
    simp only [if_true] at htok
    have sp:=span_ge digit s s.size (i + 1)
    simp (disch:=(first | exact dz | fail)) only [SXB,SX,reduceIte,Int.reduceLT,Int.reduceLE,Int.reduceToNat,Int.reduceBEq,Int.reduceBNe,Nat.reduceAdd,Nat.reduceMul,Nat.reduceSub,Nat.reduceLeDiff]
    refine rdig_loop hs ht X s.size (i + 1) (by omega) (by omega) (by omega) (fun h2 tv2 n9 n1 Y=>?_) (fun hbad=>?_)
    ·rw [if_neg (by simp only [Bool.or_eq_true,Bool.and_eq_true,decide_eq_true_eq,beq_iff_eq,not_or];exact ⟨n9,n1⟩)] at htok
     exact step _ _ htok hb (by omega) (sp.2 (by omega)) h2 tv2 Y
    ·rw [if_pos (by simp only [Bool.or_eq_true,Bool.and_eq_true,decide_eq_true_eq,beq_iff_eq];exact hbad)] at htok
     exact bad htok hb h1 X.K
   | false =>
   rw [hd] at htok
   simp only [Bool.false_eq_true,if_false] at htok
   have hlt1:i + 1 ≤ s.size:=hlt
   by_cases m0:(c == 123)=true
   ·have q0:((c.toNat:Int) == 123)=true:=(u_eq c 123 (by omega)).trans m0
    have hm:Lang.isMark c=true:=by unfold Lang.isMark;simp only [m0,Bool.or_true,Bool.true_or]
    have hq:¬ (c == 34)=true:=by rw [show c=123 by simpa using m0];decide
    rw [if_neg hq,hm] at htok
    simp only [if_true] at htok
    simp (disch:=(first | exact dz | fail)) only [q0,SXB,SX,reduceIte,Int.reduceLT,Int.reduceLE,Int.reduceToNat,Int.reduceBEq,Int.reduceBNe,Nat.reduceAdd,Nat.reduceMul,Nat.reduceSub,Nat.reduceLeDiff]
    exact rtok_cut (cls:=4) rfl ht (by omega) hlt1 X (step _ _ htok hb (by omega) (by omega))
   have q0:((c.toNat:Int) == 123)=false:=(u_eq c 123 (by omega)).trans (by simpa using m0)
   by_cases m1:(c == 125)=true
   ·have q1:((c.toNat:Int) == 125)=true:=(u_eq c 125 (by omega)).trans m1
    have hm:Lang.isMark c=true:=by unfold Lang.isMark;simp only [m1,Bool.or_true,Bool.true_or]
    have hq:¬ (c == 34)=true:=by rw [show c=125 by simpa using m1];decide
    rw [if_neg hq,hm] at htok
    simp only [if_true] at htok
    simp (disch:=(first | exact dz | fail)) only [q0,q1,SXB,SX,reduceIte,Int.reduceLT,Int.reduceLE,Int.reduceToNat,Int.reduceBEq,Int.reduceBNe,Nat.reduceAdd,Nat.reduceMul,Nat.reduceSub,Nat.reduceLeDiff]
    exact rtok_cut (cls:=4) rfl ht (by omega) hlt1 X (step _ _ htok hb (by omega) (by omega))
   have q1:((c.toNat:Int) == 125)=false:=(u_eq c 125 (by omega)).trans (by simpa using m1)
   by_cases m2:(c == 40)=true
   ·have q2:((c.toNat:Int) == 40)=true:=(u_eq c 40 (by omega)).trans m2
    have hm:Lang.isMark c=true:=by unfold Lang.isMark;simp only [m2,Bool.or_true,Bool.true_or]
    have hq:¬ (c == 34)=true:=by rw [show c=40 by simpa using m2];decide
    rw [if_neg hq,hm] at htok
    simp only [if_true] at htok
    simp (disch:=(first | exact dz | fail)) only [q0,q1,q2,SXB,SX,reduceIte,Int.reduceLT,Int.reduceLE,Int.reduceToNat,Int.reduceBEq,Int.reduceBNe,Nat.reduceAdd,Nat.reduceMul,Nat.reduceSub,Nat.reduceLeDiff]
    exact rtok_cut (cls:=4) rfl ht (by omega) hlt1 X (step _ _ htok hb (by omega) (by omega))
   have q2:((c.toNat:Int) == 40)=false:=(u_eq c 40 (by omega)).trans (by simpa using m2)
   by_cases m3:(c == 41)=true
   ·have q3:((c.toNat:Int) == 41)=true:=(u_eq c 41 (by omega)).trans m3
    have hm:Lang.isMark c=true:=by unfold Lang.isMark;simp only [m3,Bool.or_true,Bool.true_or]
    have hq:¬ (c == 34)=true:=by rw [show c=41 by simpa using m3];decide
    rw [if_neg hq,hm] at htok
    simp only [if_true] at htok
    simp (disch:=(first | exact dz | fail)) only [q0,q1,q2,q3,SXB,SX,reduceIte,Int.reduceLT,Int.reduceLE,Int.reduceToNat,Int.reduceBEq,Int.reduceBNe,Nat.reduceAdd,Nat.reduceMul,Nat.reduceSub,Nat.reduceLeDiff]
    exact rtok_cut (cls:=4) rfl ht (by omega) hlt1 X (step _ _ htok hb (by omega) (by omega))
   have q3:((c.toNat:Int) == 41)=false:=(u_eq c 41 (by omega)).trans (by simpa using m3)
   by_cases m4:(c == 44)=true
   ·have q4:((c.toNat:Int) == 44)=true:=(u_eq c 44 (by omega)).trans m4
    have hm:Lang.isMark c=true:=by unfold Lang.isMark;simp only [m4,Bool.or_true,Bool.true_or]
    have hq:¬ (c == 34)=true:=by rw [show c=44 by simpa using m4];decide
    rw [if_neg hq,hm] at htok
    simp only [if_true] at htok
    simp (disch:=(first | exact dz | fail)) only [q0,q1,q2,q3,q4,SXB,SX,reduceIte,Int.reduceLT,Int.reduceLE,Int.reduceToNat,Int.reduceBEq,Int.reduceBNe,Nat.reduceAdd,Nat.reduceMul,Nat.reduceSub,Nat.reduceLeDiff]
    exact rtok_cut (cls:=4) rfl ht (by omega) hlt1 X (step _ _ htok hb (by omega) (by omega))
   have q4:((c.toNat:Int) == 44)=false:=(u_eq c 44 (by omega)).trans (by simpa using m4)
   by_cases m5:(c == 59)=true
   ·have q5:((c.toNat:Int) == 59)=true:=(u_eq c 59 (by omega)).trans m5
    have hm:Lang.isMark c=true:=by unfold Lang.isMark;simp only [m5,Bool.or_true,Bool.true_or]
    have hq:¬ (c == 34)=true:=by rw [show c=59 by simpa using m5];decide
    rw [if_neg hq,hm] at htok
    simp only [if_true] at htok
    simp (disch:=(first | exact dz | fail)) only [q0,q1,q2,q3,q4,q5,SXB,SX,reduceIte,Int.reduceLT,Int.reduceLE,Int.reduceToNat,Int.reduceBEq,Int.reduceBNe,Nat.reduceAdd,Nat.reduceMul,Nat.reduceSub,Nat.reduceLeDiff]
    exact rtok_cut (cls:=4) rfl ht (by omega) hlt1 X (step _ _ htok hb (by omega) (by omega))
   have q5:((c.toNat:Int) == 59)=false:=(u_eq c 59 (by omega)).trans (by simpa using m5)
   by_cases m6:(c == 61)=true
   ·have q6:((c.toNat:Int) == 61)=true:=(u_eq c 61 (by omega)).trans m6
    have hm:Lang.isMark c=true:=by unfold Lang.isMark;simp only [m6,Bool.or_true,Bool.true_or]
    have hq:¬ (c == 34)=true:=by rw [show c=61 by simpa using m6];decide
    rw [if_neg hq,hm] at htok
    simp only [if_true] at htok
    simp (disch:=(first | exact dz | fail)) only [q0,q1,q2,q3,q4,q5,q6,SXB,SX,reduceIte,Int.reduceLT,Int.reduceLE,Int.reduceToNat,Int.reduceBEq,Int.reduceBNe,Nat.reduceAdd,Nat.reduceMul,Nat.reduceSub,Nat.reduceLeDiff]
    exact rtok_cut (cls:=4) rfl ht (by omega) hlt1 X (step _ _ htok hb (by omega) (by omega))
   have q6:((c.toNat:Int) == 61)=false:=(u_eq c 61 (by omega)).trans (by simpa using m6)
   have hm:Lang.isMark c=false:=by unfold Lang.isMark;simp only [Bool.eq_false_iff.mpr m0,Bool.eq_false_iff.mpr m1,Bool.eq_false_iff.mpr m2,Bool.eq_false_iff.mpr m3,Bool.eq_false_iff.mpr m4,Bool.eq_false_iff.mpr m5,Bool.eq_false_iff.mpr m6];rfl
   by_cases hqt:(c == 34)=true
   ·have uq:((c.toNat:Int) == 34)=true:=(u_eq c 34 (by omega)).trans hqt
    rw [if_pos hqt] at htok
    simp (disch:=(first | exact dz | fail)) only [q0,q1,q2,q3,q4,q5,q6,uq,SXB,SX,reduceIte,Int.reduceLT,Int.reduceLE,Int.reduceToNat,Int.reduceBEq,Int.reduceBNe,Nat.reduceAdd,Nat.reduceMul,Nat.reduceSub,Nat.reduceLeDiff]
    refine rq_loop hs ht X s.size (i + 1) h1 [] (.slice none 0 0) (by omega) (by simp) (.refl _ _) .nil (fun k hk=>nomatch hk) (fun hn h2 K2=>?_) (fun l k' hn=>?_)
    ·rw [hn] at htok
     exact bad htok hb h2 (X.keep K2).K
    ·rw [hn] at htok
     have kb:=quotedF_ge hn
     exact step _ _ htok hb (by omega) kb.2
   ·have uq:((c.toNat:Int) == 34)=false:=(u_eq c 34 (by omega)).trans (by simpa using hqt)
    rw [if_neg hqt,hm] at htok
    simp only [Bool.false_eq_true,if_false] at htok
    simp (disch:=(first | exact dz | fail)) only [q0,q1,q2,q3,q4,q5,q6,uq,SXB,SX,reduceIte,Int.reduceLT,Int.reduceLE,Int.reduceToNat,Int.reduceBEq,Int.reduceBNe,Nat.reduceAdd,Nat.reduceMul,Nat.reduceSub,Nat.reduceLeDiff]
    exact bad htok hb h1 X.K
  ·have e:¬ ((i:Int) < s.size):=by omega
   rw [if_neg hlt] at hq
   have hie:i=s.size:=by omega
   have e7:bdF #[.int .i64 0,.int .i64 0,.string ⟨#[]⟩] [(0,1,.int .i64 0),(1,1,.int .i64 s.size),(2,1,.string ⟨#[]⟩)]=some #[.int .i64 0,.int .i64 s.size,.string ⟨#[]⟩]:=rfl
   have e8:bdF #[.int .i64 0,.int .i64 0,.string ⟨#[]⟩] [(0,3,.agg #[.int .i64 0,.int .i64 s.size,.string ⟨#[]⟩])]=some #[.int .i64 0,.int .i64 s.size,.string ⟨#[]⟩]:=rfl
   simp (disch:=(first | exact dz | fail)) only [e,e7,e8,SXB,SX,reduceIte,Int.reduceLT,Int.reduceLE,Int.reduceToNat,Int.reduceBEq,Int.reduceBNe,Nat.reduceAdd,Nat.reduceMul,Nat.reduceSub,Nat.reduceLeDiff]
   obtain ⟨s',h2,q1,x2⟩:=rtok_push ⟨0,s.size,empty⟩ X ht
   refine bq_of q1 ?_
   exact hq h2 s' x2.K x2.out x2.lt
theorem rscan_ok {h:AH} {s:ByteArray} (hs:s.size ≤ 4096) {Q:RQ} (hq:SPr Q h [] (scanF s (s.size + 1) 0)):HC Tryd.prog 12 [.string s].toArray h Q:=by
 refine X12_ok ?_
 unfold X12
 exact rscan_loop hs (s.size + 1) 0 h [] (.slice none 0 0) (by omega) (by omega) (by simp) ⟨.refl _ _,.nil,fun k hk=>nomatch hk⟩ hq
end Go.Proofs.YtnaenhkldanjbaaDoor.L
end
