import Derived.Test.YtnaenhkldanjbaaDoorZ35
set_option linter.unusedVariables false
set_option linter.unusedSimpArgs false
section
namespace Go.Proofs.YtnaenhkldanjbaaDoor.L
open Go.Ab Go.Lang Go.Proofs.YtnaenhkldanjbaaDoor.X
set_option maxRecDepth 100000
def encB (l:List UInt8):List Value:=l.map fun c=>.int .u8 c.toNat
theorem flatC_encB (l:List UInt8):flatC (encB l)=encB l:=by
 induction l with
 | nil=>rfl
 | cons c l ih =>
  show (Value.int .u8 c.toNat).cells.toList++flatC (encB l)=_
  rw [ih];rfl
theorem intsOf_encB (l:List UInt8):intsOf (encB l)=some (l.map fun c=>(c.toNat:Int)):=by
 induction l with
 | nil=>rfl
 | cons c l ih =>
  show intsOf (.int .u8 c.toNat::encB l)=_
  unfold intsOf
  rw [ih];rfl
theorem fold_push (l:List UInt8) (b:ByteArray):((l.map fun c=>(c.toNat:Int)).foldl (fun r n=>r.push (UInt8.ofNat n.toNat)) b).data.toList=b.data.toList++l:=by
 induction l generalizing b with
 | nil=>simp
 | cons c l ih =>
  rw [List.map_cons,List.foldl_cons,ih]
  simp [ByteArray.push]
theorem b2s_op {h:AH} {lo:Nat} {s:Value} {l:List UInt8} (o:Hld 5 1 h lo s (encB l)):opB2S h s=some (.string ⟨l.toArray⟩):=by
 generalize he:encB l=v at o
 cases o with
 | nil =>
  cases l with
  | nil=>rfl
  | cons c l=>cases he
 | row hk hg hc hp =>
  rename_i k c
  subst he
  have hll:(encB l).length=l.length:=by simp [encB]
  rw [flatC_encB] at hc
  have hcells:opCells h ⟨k,0,none⟩ (encB l).length=some c:=by
   unfold opCells
   simp [hg,hc]
  unfold opB2S
  simp only
  rw [if_neg (by omega),hcells]
  simp only [hc,intsOf_encB]
  congr 2
  refine Go.WideShapes.bytes_inj ?_
  rw [fold_push]
  show ([]:List UInt8)++l=_
  simp
theorem b2s {h:AH} {lo:Nat} {s:Value} {l:List UInt8} (o:Hld 5 1 h lo s (encB l)):convV Tryd.prog 90 9 s h=some (.string ⟨l.toArray⟩,h):=by
 have hb:=b2s_op o
 obtain ⟨a,n,c,rfl⟩:=o.isSl
 have e:convV Tryd.prog 90 9 (.slice a n c) h=(opB2S h (.slice a n c)).map fun v=>(v,h):=by
  unfold convV
  have:absConvert Tryd.prog 90 9 (.slice a n c) h=valH h (opB2S h (.slice a n c)):=by kernel_rfl
  rw [this]
  cases opB2S h (.slice a n c) <;> rfl
 rw [e,hb];rfl
theorem u_eq (c:UInt8) (n:Nat) (hn:n < 256):((c.toNat:Int) == (n:Int))=(c == UInt8.ofNat n):=by
 rw [Bool.eq_iff_iff]
 simp only [beq_iff_eq]
 constructor
 ·intro h
  have:c.toNat=n:=by omega
  rw [← this];simp
 ·intro h
  rw [h,UInt8.toNat_ofNat_of_lt' hn]
theorem u_lt32 (c:UInt8):decide ((c.toNat:Int) < 32)=decide (c < (32:UInt8)):=by rw [decide_eq_decide,UInt8.lt_iff_toNat_lt];simp;omega
theorem u_gt126 (c:UInt8):decide ((c.toNat:Int) > 126)=decide ((126:UInt8) < c):=by rw [decide_eq_decide,UInt8.lt_iff_toNat_lt];simp;omega
theorem esc_none (c:UInt8) (h:esc c=none):Lib.indexByte (ByteArray.mk #[34,92,110,116]).data.toList c = -1:=by
 unfold esc at h
 have h1:¬ (c == 34)=true:=fun e=>by rw [if_pos e] at h;cases h
 rw [if_neg h1] at h
 have h2:¬ (c == 92)=true:=fun e=>by rw [if_pos e] at h;cases h
 rw [if_neg h2] at h
 have h3:¬ (c == 110)=true:=fun e=>by rw [if_pos e] at h;cases h
 rw [if_neg h3] at h
 have h4:¬ (c == 116)=true:=fun e=>by rw [if_pos e] at h;cases h
 have k:∀ d:UInt8,¬ (c == d)=true→(d == c)=false:=fun d hd=>by
  rw [Bool.eq_false_iff];intro e;exact hd (by simpa using (by simpa using e:d=c).symm)
 simp only [Lib.indexByte,k _ h1,k _ h2,k _ h3,k _ h4,Bool.false_eq_true,if_false]
 rfl
theorem esc_some (c d:UInt8) (h:esc c=some d):∃ j:Nat,Lib.indexByte (ByteArray.mk #[34,92,110,116]).data.toList c=(j:Int)∧(ByteArray.mk #[34,92,10,9]).data.toList[j]?=some d:=by
 unfold esc at h
 by_cases h1:(c == 34)=true
 ·rw [if_pos h1] at h;cases h
  have:c=34:=by simpa using h1
  subst this;exact ⟨0,by decide,rfl⟩
 rw [if_neg h1] at h
 by_cases h2:(c == 92)=true
 ·rw [if_pos h2] at h;cases h
  have:c=92:=by simpa using h2
  subst this;exact ⟨1,by decide,rfl⟩
 rw [if_neg h2] at h
 by_cases h3:(c == 110)=true
 ·rw [if_pos h3] at h;cases h
  have:c=110:=by simpa using h3
  subst this;exact ⟨2,by decide,rfl⟩
 rw [if_neg h3] at h
 by_cases h4:(c == 116)=true
 ·rw [if_pos h4] at h;cases h
  have:c=116:=by simpa using h4
  subst this;exact ⟨3,by decide,rfl⟩
 rw [if_neg h4] at h
 cases h
def qres:Option (List UInt8 × Nat)→Value
 | some (l,k)=>.tuple #[.string ⟨l.toArray⟩,.int .i64 (k:Nat)]
 | none=>.tuple #[.string ⟨#[]⟩,.int .i64 (-1)]
theorem push_step {h h':AH} {s:ByteArray} (hs:s.size ≤ 4096) {i:Nat} (hi:i < s.size) {acc:List UInt8} (ha:acc.length ≤ i) {c:UInt8} {sv:Value} (K:Kp h.size h h') (O:Hld 5 1 h' h.size sv (encB acc)) (hb:∀ k,blkOf sv=some k→k < h'.size) {Q:RQ}
  (hq:∀ h2 sv2,Kp h.size h h2→Hld 5 1 h2 h.size sv2 (encB (acc++[c]))→(∀ k,blkOf sv2=some k→k < h2.size)→H23_2 (.string s) (.int .i64 (i + 1:Nat)) sv2 h2 Q) :
  bq (apT 5 1 1 (some (.int .u8 0)) (h'.push (.cells #[.int .u8 c.toNat] 5 (0,0)) none) sv (.slice (some ⟨h'.size,0,none⟩) 1 1)) fun r=>K23_3 (.string s) (.int .i64 i) r.1 r.2 Q:=by
 have e1:∀ v ∈ encB acc,v.cells.size=1:=fun v hv=>by
  obtain ⟨d,_,rfl⟩:=List.mem_map.1 hv;rfl
 have hl:(encB acc).length=acc.length:=by simp [encB]
 obtain ⟨s',h2,q1,q2,q3,q4,q5⟩:=O.append1 (v:=.int .u8 c.toNat) (c:=#[.int .u8 c.toNat]) (bytes:=1) (zero:=.int .u8 0) rfl hb K.size e1 rfl (fun z hz=>by simp at hz;subst hz;rfl) (by omega) (by omega) (by omega) rfl (by omega)
 refine bq_of q1 ?_
 refine X23_3_ok ?_
 unfold X23_3
 have e2:IntKind.i64.wrap ((i:Int) + 1)=((i + 1:Nat):Int):=by rw [wrap64 (by omega) (by omega)];omega
 simp (disch:=(first | exact dz | fail)) only [e2,SXB,SX,reduceIte,Int.reduceLT,Int.reduceLE,Int.reduceToNat,Int.reduceBEq,Int.reduceBNe,Nat.reduceAdd,Nat.reduceMul,Nat.reduceSub,Nat.reduceLeDiff]
 have:=hq h2 s' ⟨Nat.le_trans K.size q3,fun k hk=>(q4 k (Nat.lt_of_lt_of_le hk K.size) fun e=>by have:=O.key k e;omega).trans (K.get k hk)⟩ (by rw [show encB (acc++[c])=encB acc++[.int .u8 c.toNat] by simp [encB]];exact q2) (fun k hk=>by
  rcases q5 with e | ⟨k',e,h1,h3⟩
  ·rw [e] at hk;exact Nat.lt_of_lt_of_le (hb k hk) q3
  ·rw [e] at hk;cases hk;exact h3)
 simpa using this
theorem quoted_loop {h:AH} {s:ByteArray} (hs:s.size ≤ 4096) {Q:RQ}:∀ (n i:Nat) (h':AH) (acc:List UInt8) (sv:Value),s.size - i ≤ n→i ≤ s.size→acc.length ≤ i→Kp h.size h h'→Hld 5 1 h' h.size sv (encB acc)→(∀ k,blkOf sv=some k→k < h'.size) →
  (∀ h'',Kp h.size h h''→Q (.ret (qres (quotedF s n i acc))) h'')→H23_2 (.string s) (.int .i64 i) sv h' Q:=by
 intro n
 induction n with
 | zero =>
  intro i h' acc sv hn hi ha K O hb hq
  refine X23_2_ok ?_
  unfold X23_2
  have e:¬ ((i:Int) < s.size):=by omega
  simp (disch:=(first | exact dz | fail)) only [e,SXB,SX,reduceIte,Int.reduceLT,Int.reduceLE,Int.reduceToNat,Int.reduceBEq,Int.reduceBNe,Nat.reduceAdd,Nat.reduceMul,Nat.reduceSub,Nat.reduceLeDiff]
  exact hq _ K
 | succ n ih =>
  intro i h' acc sv hn hi ha K O hb hq
  refine X23_2_ok ?_
  unfold X23_2
  unfold quotedF at hq
  by_cases hlt:i < s.size
  ·have e:(i:Int) < s.size:=by omega
   rw [if_pos hlt] at hq
   have hl:i < s.data.toList.length:=by rw [← size_list rfl];exact hlt
   have hc:s.data.toList[i]?=some s[i]!:=by
    rw [List.getElem?_eq_getElem hl,get_bang rfl (List.getElem?_eq_getElem hl)]
   have e0:=ixS_at rfl hc
   simp only at hq
   generalize s[i]! = c at hc e0 hq
   have u1:=u_eq c 34 (by omega)
   have u2:=u_eq c 92 (by omega)
   have u3:=u_lt32 c
   have u4:=u_gt126 c
   have u5:((c.toNat:Int) != 92) = !(c == 92):=by show (!((c.toNat:Int) == 92))=_;rw [show ((c.toNat:Int) == 92)=(c == 92) from u2]
   have w1:IntKind.i64.wrap ((i:Int) + 1)=((i + 1:Nat):Int):=by rw [wrap64 (by omega) (by omega)];omega
   by_cases c1:(c == 34)=true
   ·rw [if_pos c1] at hq
    have u1':((c.toNat:Int) == 34)=true:=u1.trans c1
    have hcv:=b2s O
    simp (disch:=(first | exact dz | fail)) only [e,e0,u1',hcv,SXB,SX,reduceIte,Int.reduceLT,Int.reduceLE,Int.reduceToNat,Int.reduceBEq,Int.reduceBNe,Nat.reduceAdd,Nat.reduceMul,Nat.reduceSub,Nat.reduceLeDiff]
    have:=hq h' K
    simpa [qres] using this
   ·rw [if_neg c1] at hq
    have u1':((c.toNat:Int) == 34)=false:=u1.trans (by simpa using c1)
    by_cases c2:(decide (c < 32) || decide (126 < c))=true
    ·rw [if_pos c2] at hq
     rcases Bool.or_eq_true _ _ ▸ c2 with c3 | c3
     ·have u3':(c.toNat:Int) < 32:=of_decide_eq_true (u3.trans c3)
      simp (disch:=(first | exact dz | fail)) only [e,e0,u1',u3',SXB,SX,reduceIte,Int.reduceLT,Int.reduceLE,Int.reduceToNat,Int.reduceBEq,Int.reduceBNe,Nat.reduceAdd,Nat.reduceMul,Nat.reduceSub,Nat.reduceLeDiff]
      exact hq _ K
     ·have u4':(c.toNat:Int) > 126:=of_decide_eq_true (u4.trans c3)
      have u3':¬ ((c.toNat:Int) < 32):=by omega
      simp (disch:=(first | exact dz | fail)) only [e,e0,u1',u3',u4',SXB,SX,reduceIte,Int.reduceLT,Int.reduceLE,Int.reduceToNat,Int.reduceBEq,Int.reduceBNe,Nat.reduceAdd,Nat.reduceMul,Nat.reduceSub,Nat.reduceLeDiff]
      exact hq _ K
    ·rw [if_neg c2] at hq
     simp only [Bool.or_eq_true,decide_eq_true_eq,not_or] at c2
     have u3':¬ ((c.toNat:Int) < 32):=fun hh=>by
      have:=u3;rw [decide_eq_true hh] at this;exact c2.1 (of_decide_eq_true this.symm)
     have u4':¬ ((c.toNat:Int) > 126):=fun hh=>by
      have:=u4;rw [decide_eq_true hh] at this;exact c2.2 (of_decide_eq_true this.symm)
     by_cases c5:(c == 92)=true
     ·rw [if_pos c5] at hq
      have u5':((c.toNat:Int) != 92)=false:=by rw [u5,c5];rfl
      simp (disch:=(first | exact dz | fail)) only [e,e0,u1',u3',u4',u5',w1,SXB,SX,reduceIte,Int.reduceLT,Int.reduceLE,Int.reduceToNat,Int.reduceBEq,Int.reduceBNe,Nat.reduceAdd,Nat.reduceMul,Nat.reduceSub,Nat.reduceLeDiff]
      by_cases hlt2:i + 1 < s.size
      ·rw [if_pos hlt2] at hq
       have e3:(((i + 1:Nat):Int) == (s.size:Nat))=false:=by simp;omega
       have hl2:i + 1 < s.data.toList.length:=by rw [← size_list rfl];exact hlt2
       have hc2:s.data.toList[i + 1]?=some s[i + 1]!:=by
        rw [List.getElem?_eq_getElem hl2,get_bang rfl (List.getElem?_eq_getElem hl2)]
       have e4:=ixS_at rfl hc2
       generalize s[i + 1]! = c' at hc2 e4 hq
       simp (disch:=(first | exact dz | fail)) only [e3,e4,SXB,SX,reduceIte,Int.reduceLT,Int.reduceLE,Int.reduceToNat,Int.reduceBEq,Int.reduceBNe,Nat.reduceAdd,Nat.reduceMul,Nat.reduceSub,Nat.reduceLeDiff]
       refine HC.exact (indexByte_ok _ c') ?_
       cases hesc:esc c' with
       | none =>
        rw [hesc] at hq
        rw [esc_none c' hesc]
        simp (disch:=(first | exact dz | fail)) only [SXB,SX,reduceIte,Int.reduceLT,Int.reduceLE,Int.reduceToNat,Int.reduceBEq,Int.reduceBNe,Nat.reduceAdd,Nat.reduceMul,Nat.reduceSub,Nat.reduceLeDiff]
        exact hq _ K
       | some d =>
        rw [hesc] at hq
        simp only at hq
        obtain ⟨j,hj1,hj2⟩:=esc_some c' d hesc
        rw [hj1]
        have e5:=ixS_at rfl hj2
        have e6:¬ ((j:Int) < 0):=by omega
        have e7:bdF #[Value.int .u8 0] [(0,1,.int .u8 d.toNat)]=some #[.int .u8 d.toNat]:=bdF_one rfl rfl
        simp (disch:=(first | exact dz | fail)) only [e5,e6,e7,SXB,SX,reduceIte,Int.reduceLT,Int.reduceLE,Int.reduceToNat,Int.reduceBEq,Int.reduceBNe,Nat.reduceAdd,Nat.reduceMul,Nat.reduceSub,Nat.reduceLeDiff]
        refine push_step hs hlt2 (by omega) K O hb fun h2 sv2 K2 O2 hb2=>?_
        exact ih (i + 2) h2 (acc++[d]) sv2 (by omega) (by omega) (by simp;omega) K2 O2 hb2 hq
      ·rw [if_neg hlt2] at hq
       have e3:(((i + 1:Nat):Int) == (s.size:Nat))=true:=by simp;omega
       simp (disch:=(first | exact dz | fail)) only [e3,SXB,SX,reduceIte,Int.reduceLT,Int.reduceLE,Int.reduceToNat,Int.reduceBEq,Int.reduceBNe,Nat.reduceAdd,Nat.reduceMul,Nat.reduceSub,Nat.reduceLeDiff]
       exact hq _ K
     ·rw [if_neg c5] at hq
      have u5':((c.toNat:Int) != 92)=true:=by rw [u5,Bool.eq_false_iff.mpr c5];rfl
      simp (disch:=(first | exact dz | fail)) only [e,e0,u1',u3',u4',u5',w1,SXB,SX,reduceIte,Int.reduceLT,Int.reduceLE,Int.reduceToNat,Int.reduceBEq,Int.reduceBNe,Nat.reduceAdd,Nat.reduceMul,Nat.reduceSub,Nat.reduceLeDiff]
      refine push_step hs hlt ha K O hb fun h2 sv2 K2 O2 hb2=>?_
      exact ih (i + 1) h2 (acc++[c]) sv2 (by omega) (by omega) (by simp;omega) K2 O2 hb2 hq
  ·have e:¬ ((i:Int) < s.size):=by omega
   rw [if_neg hlt] at hq
   simp (disch:=(first | exact dz | fail)) only [e,SXB,SX,reduceIte,Int.reduceLT,Int.reduceLE,Int.reduceToNat,Int.reduceBEq,Int.reduceBNe,Nat.reduceAdd,Nat.reduceMul,Nat.reduceSub,Nat.reduceLeDiff]
   exact hq _ K
theorem quoted_ok {h:AH} {s:ByteArray} (hs:s.size ≤ 4096) {n i:Nat} (hn:s.size - i ≤ n) (hi:i ≤ s.size) {Q:RQ} (hq:∀ h',Kp h.size h h'→Q (.ret (qres (quotedF s n i []))) h'):HC Tryd.prog 23 [.string s,.int .i64 i].toArray h Q:=by
 refine X23_ok ?_
 unfold X23
 exact quoted_loop hs n i h [] (.slice none 0 0) hn hi (Nat.zero_le _) (.refl _ _) .nil (fun k hk=>nomatch hk) hq
end Go.Proofs.YtnaenhkldanjbaaDoor.L
end
section
namespace Go.Proofs.YtnaenhkldanjbaaDoor.L
open Go.Ab Go.Lang Go.Proofs.YtnaenhkldanjbaaDoor.X
set_option maxRecDepth 100000
structure SC (h h1:AH) (c:Array Value) (toks:List Tok) (tv:Value):Prop where
 err:h1.get h.size=some (.cells #[.int .i64 0,.int .i64 0] 26 (0,0),none)
 tok:h1.get (h.size + 1)=some (.cells c 52 (0,0),none)
 csz:c.size=3
 out:Hld 52 3 h1 (h.size + 2) tv (toks.map encT)
 lt:∀ k,blkOf tv=some k→k < h1.size
 size:h.size + 2 ≤ h1.size
 K:Kp h.size h h1
theorem SC.keep {h h1 h2:AH} {c:Array Value} {toks:List Tok} {tv:Value} (x:SC h h1 c toks tv) (K:Kp h1.size h1 h2):SC h h2 c toks tv:=by
 have hs:=x.size
 exact ⟨(K.get _ (by omega)).trans x.err,(K.get _ (by omega)).trans x.tok,x.csz,x.out.mono fun k hk=>K.get k (x.lt k hk),fun k hk=>Nat.lt_of_lt_of_le (x.lt k hk) K.size,Nat.le_trans hs K.size,⟨Nat.le_trans x.K.size K.size,fun k hk=>(K.get k (by omega)).trans (x.K.get k hk)⟩⟩
theorem SC.put {h h1:AH} {c c':Array Value} {toks:List Tok} {tv:Value} (x:SC h h1 c toks tv) (hc:c'.size=3):SC h (h1.put (h.size + 1) (some (.cells c' 52 (0,0),none))) c' toks tv:=by
 have hs:=x.size
 refine ⟨by rw [get_put_ne (by omega)];exact x.err,get_put_eq rfl,hc,x.out.mono fun k hk=>get_put_ne (by have:=x.out.key k hk;omega),fun k hk=>by rw [sz_put];exact x.lt k hk,by rw [sz_put];exact hs,?_⟩
 have K:=x.K
 (repeat (first | exact Kp.refl _ _ | assumption | refine Kp.push ?_ _ _ (by first | omega | (simp only [sz_push,sz_put];omega)) | refine Kp.put ?_ _ _ (by first | omega | (simp only [sz_push,sz_put];omega))))
def SPf (Q:RQ) (h:AH) (toks:List Tok) (rs:Except Nat (List Tok)):Prop:=match rs with
 | .ok l=>∀ h' v,Kp h.size h h'→Hld 52 3 h' (h.size + 2) v ((toks++l).map encT)→(∀ k,blkOf v=some k→k < h'.size)→Q (.ret (.tuple #[v,.agg #[.int .i64 0,.int .i64 0]])) h'
 | .error j=>∀ h',Kp h.size h h'→Q (.ret (.tuple #[.slice none 0 0,.agg #[.int .i64 160,.int .i64 (j:Nat)]])) h'
theorem scan_bad {h h1:AH} {c:Array Value} {toks:List Tok} {s:ByteArray} {tv:Value} {i:Nat} {Q:RQ} (x:SC h h1 c toks tv) (hq:SPf Q h toks (.error i)) :
  G9_31 (.string s) (.pointer (some ⟨h.size,0,none⟩)) tv (.int .i64 i) (.pointer (some ⟨h.size + 1,0,none⟩)) h1 Q:=by
 refine G9_31_ok (XS9_31_ok ?_)
 unfold XS9_31
 have e:=x.err
 have e7:bdF #[.int .i64 0,.int .i64 0] [(0,1,.int .i64 160),(1,1,.int .i64 (i:Nat))]=some #[.int .i64 160,.int .i64 (i:Nat)]:=by rfl
 generalize hs2:stN 2=s2
 generalize hl2:ldN 2=l2
 simp (disch:=(first | exact dz | fail)) only [e,e7,SXB,SX,reduceIte,Int.reduceLT,Int.reduceLE,Int.reduceToNat,Int.reduceBEq,Int.reduceBNe,Nat.reduceAdd,Nat.reduceMul,Nat.reduceSub,Nat.reduceLeDiff]
 subst hs2 hl2
 refine bq_of (stN_full x.err rfl rfl (fun z hz=>by simp [Value.cells] at hz;rcases hz with rfl | rfl <;> rfl)) ?_
 rw [ldN_full (n:=2) (get_put_eq rfl) rfl]
 simp (disch:=(first | exact dz | fail)) only [SXB,SX,reduceIte,Int.reduceLT,Int.reduceLE,Int.reduceToNat,Int.reduceBEq,Int.reduceBNe,Nat.reduceAdd,Nat.reduceMul,Nat.reduceSub,Nat.reduceLeDiff]
 refine hq _ ?_
 have K:=x.K
 have hs:=x.size
 (repeat (first | exact Kp.refl _ _ | assumption | refine Kp.push ?_ _ _ (by first | omega | (simp only [sz_push,sz_put];omega)) | refine Kp.put ?_ _ _ (by first | omega | (simp only [sz_push,sz_put];omega))))
theorem tok_done {h h1:AH} {toks:List Tok} {s:ByteArray} {tv:Value} {t:Tok} {k:Nat} {Q:RQ} (x:SC h h1 #[.int .i64 t.cls,.int .i64 t.at_,.string t.text] toks tv) (ht:toks.length ≤ 5000)
  (next:∀ h2 c2 tv2,SC h h2 c2 (toks++[t]) tv2→H9_5 (.string s) (.pointer (some ⟨h.size,0,none⟩)) tv2 (.int .i64 k) (.pointer (some ⟨h.size + 1,0,none⟩)) h2 Q) :
  K9_29 (.string s) (.pointer (some ⟨h.size,0,none⟩)) tv (.int .i64 k) (.pointer (some ⟨h.size + 1,0,none⟩)) h1 Q:=by
 refine X9_29_ok ?_
 unfold X9_29
 have hs:=x.size
 rw [ldN_full (n:=3) x.tok rfl]
 rw [bq_some,bs_one (e:=52) (n:=3) rfl rfl,bq_some]
 have hl:(toks.map encT).length=toks.length:=by simp
 obtain ⟨s',h2,q1,q2,q3,q4,q5⟩:=x.out.append1 (v:=encT t) (c:=#[.int .i64 t.cls,.int .i64 t.at_,.string t.text]) (bytes:=32) (zero:=.agg #[.int .i64 0,.int .i64 0,.string ⟨#[]⟩]) rfl x.lt hs (fun v hv=>by
  obtain ⟨d,_,rfl⟩:=List.mem_map.1 hv;rfl) rfl (fun z hz=>by simp at hz;rcases hz with rfl | rfl | rfl <;> rfl) (by omega) (by omega) (by omega) rfl (by omega)
 refine bq_of q1 ?_
 refine G9_5_ok (XS9_5_ok ?_)
 unfold XS9_5
 have g:∀ k,k < h.size + 2→h2.get k=h1.get k:=fun k hk=>q4 k (by omega) fun e=>by have:=x.out.key k e;omega
 refine next h2 _ s' ⟨(g _ (by omega)).trans x.err,(g _ (by omega)).trans x.tok,rfl,by rw [List.map_append];exact q2,fun k hk=>?_,Nat.le_trans hs q3,⟨Nat.le_trans x.K.size q3,fun k hk=>(g k (by omega)).trans (x.K.get k hk)⟩⟩
 rcases q5 with e | ⟨k',e,h1,h3⟩
 ·rw [e] at hk;exact Nat.lt_of_lt_of_le (x.lt k hk) q3
 ·rw [e] at hk;cases hk;exact h3
end Go.Proofs.YtnaenhkldanjbaaDoor.L
end
section
namespace Go.Proofs.YtnaenhkldanjbaaDoor.L
open Go.Ab Go.Lang Go.Proofs.YtnaenhkldanjbaaDoor.X
set_option maxRecDepth 100000
theorem flat_bound {P:Program} {n y:Nat} {c:BoundsCode} (h:n ≤ y):flat P (Instr.sliceBound (.int .i64 (n:Int)) y c)=some n:=by
 unfold Instr.sliceBound
 rw [flat_bind]
 show (flat P (pure (IntKind.i64,(n:Int)):Sem (IntKind × Int))).bind _=_
 rw [flat_pure,Option.bind_some]
 show flat P (if 0 ≤ (n:Int)∧(n:Int) ≤ y then _ else _)=_
 rw [if_pos ⟨by omega,by omega⟩]
 rfl
theorem sub_str {P:Program} {t:TypeId} {h:AH} {s:ByteArray} {i k:Nat} (hu:P.underlying t=some .string) (h1:i ≤ k) (h2:k ≤ s.size):sliceV P h t (.string s) (some (.int .i64 i)) (some (.int .i64 k))=some (.string (s.extract i k)):=by
 have e:flat P (Instr.sliceAt t (.string s) (some (.int .i64 i)) (some (.int .i64 k)) none)=some (.string (s.extract i k)):=by
  unfold Instr.sliceAt
  rw [flat_bind,flat_und hu,Option.bind_some]
  show flat P (Instr.slice t (.string s) (some (.int .i64 i)) (some (.int .i64 k)) none)=_
  unfold Instr.slice
  rw [flat_bind,flat_und hu,Option.bind_some]
  show flat P (Instr.sliceBounds false s.size s.size (some (.int .i64 i)) (some (.int .i64 k)) none >>= _)=_
  rw [flat_bind]
  have e2:flat P (Instr.sliceBounds false s.size s.size (some (.int .i64 i)) (some (.int .i64 k)) none)=some (i,k,s.size):=by
   unfold Instr.sliceBounds
   rw [flat_bind,flat_pure,Option.bind_some]
   show flat P (Instr.sliceBound (.int .i64 k) s.size _ >>= _)=_
   rw [flat_bind,flat_bound h2,Option.bind_some]
   show flat P (Instr.sliceBound (.int .i64 i) k _ >>= _)=_
   rw [flat_bind,flat_bound h1,Option.bind_some]
   rfl
  rw [e2]
  rfl
 have e3:flatV P (Instr.sliceAt t (.string s) (some (.int .i64 i)) (some (.int .i64 k)) none)=some (.string (s.extract i k)):=by
  unfold flatV
  rw [e]
  rfl
 exact e3
theorem tok_cut {h h1:AH} {toks:List Tok} {s:ByteArray} {tv:Value} {cls:Nat} {x y:Value} {i k:Nat} {Q:RQ} (X:SC h h1 #[.int .i64 (cls:Nat),.int .i64 (i:Nat),.string ⟨#[]⟩] toks tv) (ht:toks.length ≤ 5000) (hc:cls ≠ 3) (h1k:i ≤ k) (h2k:k ≤ s.size)
  (next:∀ h2 c2 tv2,SC h h2 c2 (toks++[⟨cls,i,s.extract i k⟩]) tv2→H9_5 (.string s) (.pointer (some ⟨h.size,0,none⟩)) tv2 (.int .i64 k) (.pointer (some ⟨h.size + 1,0,none⟩)) h2 Q) :
  K9_27 (.string s) (.pointer (some ⟨h.size,0,none⟩)) tv (.int .i64 i) (.int .i64 k) (.pointer (some ⟨h.size + 1,0,none⟩)) h1 Q:=by
 refine X9_27_ok ?_
 unfold X9_27
 have e:=X.tok
 have e1:((cls:Int) != 3)=true:=by simp;omega
 have e2:=sub_str (P:=Tryd.prog) (t:=9) (h:=h1) (s:=s) (by kernel_rfl) h1k h2k
 simp (disch:=(first | exact dz | fail)) only [e,e1,e2,SXB,SX,reduceIte,Int.reduceLT,Int.reduceLE,Int.reduceToNat,Int.reduceBEq,Int.reduceBNe,Nat.reduceAdd,Nat.reduceMul,Nat.reduceSub,Nat.reduceLeDiff]
 exact tok_done (t:=⟨cls,i,s.extract i k⟩) (X.put rfl) ht next
end Go.Proofs.YtnaenhkldanjbaaDoor.L
end
section
namespace Go.Proofs.YtnaenhkldanjbaaDoor.L
open Go.Ab Go.Lang Go.Proofs.YtnaenhkldanjbaaDoor.X
set_option maxRecDepth 100000
theorem at_bang {s:ByteArray} {i:Nat} (h:i < s.size):s.data.toList[i]?=some s[i]!:=by
 have hl:i < s.data.toList.length:=by rw [← size_list rfl];exact h
 rw [List.getElem?_eq_getElem hl,get_bang rfl (List.getElem?_eq_getElem hl)]
theorem word_loop {h:AH} {toks:List Tok} {s:ByteArray} {tv:Value} {c:Array Value} {i:Nat} {Q:RQ} (hs:s.size ≤ 4096):∀ (n k:Nat) (h1:AH),s.size - k ≤ n→k ≤ s.size→SC h h1 c toks tv →
  (∀ h2,SC h h2 c toks tv→K9_27 (.string s) (.pointer (some ⟨h.size,0,none⟩)) tv (.int .i64 i) (.int .i64 (span alnum s n k)) (.pointer (some ⟨h.size + 1,0,none⟩)) h2 Q) →
  H9_14 (.string s) (.pointer (some ⟨h.size,0,none⟩)) tv (.int .i64 i) (.int .i64 k) (.pointer (some ⟨h.size + 1,0,none⟩)) h1 Q:=by
 intro n
 induction n with
 | zero =>
  intro k h1 hn hk X next
  refine X9_14_ok ?_
  unfold X9_14
  have e:¬ ((k:Int) < s.size):=by omega
  simp (disch:=(first | exact dz | fail)) only [e,SXB,SX,reduceIte,Int.reduceLT,Int.reduceLE,Int.reduceToNat,Int.reduceBEq,Int.reduceBNe,Nat.reduceAdd,Nat.reduceMul,Nat.reduceSub,Nat.reduceLeDiff]
  exact next h1 X
 | succ n ih =>
  intro k h1 hn hk X next
  refine X9_14_ok ?_
  unfold X9_14
  by_cases hlt:k < s.size
  ·have e:(k:Int) < s.size:=by omega
   have e0:=ixS_at rfl (at_bang hlt)
   have w1:IntKind.i64.wrap ((k:Int) + 1)=((k + 1:Nat):Int):=by rw [wrap64 (by omega) (by omega)];omega
   unfold span at next
   rw [if_pos hlt] at next
   generalize s[k]! = d at e0 next
   simp (disch:=(first | exact dz | fail)) only [e,e0,SXB,SX,reduceIte,Int.reduceLT,Int.reduceLE,Int.reduceToNat,Int.reduceBEq,Int.reduceBNe,Nat.reduceAdd,Nat.reduceMul,Nat.reduceSub,Nat.reduceLeDiff]
   refine HC.exact (letter_ok d) ?_
   unfold alnum at next
   cases hl:Lang.letter d with
   | true =>
    rw [hl] at next
    simp (disch:=(first | exact dz | fail)) only [w1,SXB,SX,reduceIte,Int.reduceLT,Int.reduceLE,Int.reduceToNat,Int.reduceBEq,Int.reduceBNe,Nat.reduceAdd,Nat.reduceMul,Nat.reduceSub,Nat.reduceLeDiff]
    exact ih (k + 1) h1 (by omega) (by omega) X next
   | false =>
    rw [hl] at next
    simp (disch:=(first | exact dz | fail)) only [e0,SXB,SX,reduceIte,Int.reduceLT,Int.reduceLE,Int.reduceToNat,Int.reduceBEq,Int.reduceBNe,Nat.reduceAdd,Nat.reduceMul,Nat.reduceSub,Nat.reduceLeDiff]
    refine HC.exact (digit_ok d) ?_
    cases hd:Lang.digit d with
    | true =>
     rw [hd] at next
     simp (disch:=(first | exact dz | fail)) only [w1,SXB,SX,reduceIte,Int.reduceLT,Int.reduceLE,Int.reduceToNat,Int.reduceBEq,Int.reduceBNe,Nat.reduceAdd,Nat.reduceMul,Nat.reduceSub,Nat.reduceLeDiff]
     exact ih (k + 1) h1 (by omega) (by omega) X next
    | false =>
     rw [hd] at next
     simp (disch:=(first | exact dz | fail)) only [SXB,SX,reduceIte,Int.reduceLT,Int.reduceLE,Int.reduceToNat,Int.reduceBEq,Int.reduceBNe,Nat.reduceAdd,Nat.reduceMul,Nat.reduceSub,Nat.reduceLeDiff]
     exact next h1 X
  ·have e:¬ ((k:Int) < s.size):=by omega
   unfold span at next
   rw [if_neg hlt] at next
   simp (disch:=(first | exact dz | fail)) only [e,SXB,SX,reduceIte,Int.reduceLT,Int.reduceLE,Int.reduceToNat,Int.reduceBEq,Int.reduceBNe,Nat.reduceAdd,Nat.reduceMul,Nat.reduceSub,Nat.reduceLeDiff]
   exact next h1 X
theorem num_loop {h:AH} {toks:List Tok} {s:ByteArray} {tv:Value} {i:Nat} {d0:UInt8} {Q:RQ} (hs:s.size ≤ 4096) (hi:i < s.size) (rs:Option (Tok × Nat)):∀ (n k:Nat) (h1:AH),s.size - k ≤ n→i < k→k ≤ s.size→SC h h1 #[.int .i64 (2:Nat),.int .i64 (i:Nat),.string ⟨#[]⟩] toks tv→toks.length ≤ 5000 →
  (rs=let k:=span digit s n k;if 9 < k - i || (1 < k - i && d0 == 48) then none else some (⟨2,i,s.extract i k⟩,k)) →
  (∀ h2 c2 tv2 t k,rs=some (t,k)→SC h h2 c2 (toks++[t]) tv2→H9_5 (.string s) (.pointer (some ⟨h.size,0,none⟩)) tv2 (.int .i64 k) (.pointer (some ⟨h.size + 1,0,none⟩)) h2 Q) →
  (∀ h2 c2,rs=none→SC h h2 c2 toks tv→G9_31 (.string s) (.pointer (some ⟨h.size,0,none⟩)) tv (.int .i64 i) (.pointer (some ⟨h.size + 1,0,none⟩)) h2 Q) →
  H9_18 (.string s) (.pointer (some ⟨h.size,0,none⟩)) tv (.int .i64 i) (.int .i64 k) (.pointer (some ⟨h.size + 1,0,none⟩)) (.int .u8 d0.toNat) h1 Q:=by
 intro n
 induction n with
 | zero =>
  intro k h1 hn hik hk X ht hrs next bad
  refine X9_18_ok ?_
  unfold X9_18
  have e:¬ ((k:Int) < s.size):=by omega
  unfold span at hrs
  have w2:IntKind.i64.wrap ((k:Int) - i)=((k - i:Nat):Int):=by rw [wrap64 (by omega) (by omega)];omega
  try simp only at hrs
  have u0:=u_eq d0 48 (by omega)
  by_cases h9:9 < k - i
  ·have e9:(9:Int) < ((k - i:Nat):Int):=by omega
   have e9b:(9:Int) < (k:Int) - i:=by omega
   rw [if_pos (by simp [h9])] at hrs
   simp (disch:=(first | exact dz | fail)) only [e,w2,e9,e9b,SXB,SX,reduceIte,Int.reduceLT,Int.reduceLE,Int.reduceToNat,Int.reduceBEq,Int.reduceBNe,Nat.reduceAdd,Nat.reduceMul,Nat.reduceSub,Nat.reduceLeDiff]
   exact bad h1 _ hrs X
  ·have e9:¬ ((9:Int) < ((k - i:Nat):Int)):=by omega
   have e9b:¬ ((9:Int) < (k:Int) - i):=by omega
   by_cases h8:1 < k - i
   ·have e8:(1:Int) < ((k - i:Nat):Int):=by omega
    have e8b:(1:Int) < (k:Int) - i:=by omega
    cases hd:d0 == 48 with
    | true =>
     have u0':((d0.toNat:Int) == 48)=true:=u0.trans hd
     rw [if_pos (by simp [h8,hd])] at hrs
     simp (disch:=(first | exact dz | fail)) only [e,w2,e9,e9b,e8,e8b,u0',SXB,SX,reduceIte,Int.reduceLT,Int.reduceLE,Int.reduceToNat,Int.reduceBEq,Int.reduceBNe,Nat.reduceAdd,Nat.reduceMul,Nat.reduceSub,Nat.reduceLeDiff]
     exact bad h1 _ hrs X
    | false =>
     have u0':((d0.toNat:Int) == 48)=false:=u0.trans hd
     rw [if_neg (by simp [h9,hd])] at hrs
     simp (disch:=(first | exact dz | fail)) only [e,w2,e9,e9b,e8,e8b,u0',SXB,SX,reduceIte,Int.reduceLT,Int.reduceLE,Int.reduceToNat,Int.reduceBEq,Int.reduceBNe,Nat.reduceAdd,Nat.reduceMul,Nat.reduceSub,Nat.reduceLeDiff]
     exact tok_cut (x:=.nilIface) (y:=.nilIface) X ht (by omega) (by omega) hk fun h2 c2 tv2 Y=>next h2 c2 tv2 _ _ hrs Y
   ·have e8:¬ ((1:Int) < ((k - i:Nat):Int)):=by omega
    have e8b:¬ ((1:Int) < (k:Int) - i):=by omega
    rw [if_neg (by simp [h9,h8])] at hrs
    simp (disch:=(first | exact dz | fail)) only [e,w2,e9,e9b,e8,e8b,SXB,SX,reduceIte,Int.reduceLT,Int.reduceLE,Int.reduceToNat,Int.reduceBEq,Int.reduceBNe,Nat.reduceAdd,Nat.reduceMul,Nat.reduceSub,Nat.reduceLeDiff]
    exact tok_cut (x:=.nilIface) (y:=.nilIface) X ht (by omega) (by omega) hk fun h2 c2 tv2 Y=>next h2 c2 tv2 _ _ hrs Y
 | succ n ih =>
  intro k h1 hn hik hk X ht hrs next bad
  refine X9_18_ok ?_
  unfold X9_18
  unfold span at hrs
  by_cases hlt:k < s.size
  ·have e:(k:Int) < s.size:=by omega
   have e0:=ixS_at rfl (at_bang hlt)
   have w1:IntKind.i64.wrap ((k:Int) + 1)=((k + 1:Nat):Int):=by rw [wrap64 (by omega) (by omega)];omega
   rw [if_pos hlt] at hrs
   generalize s[k]! = d at e0 hrs
   simp (disch:=(first | exact dz | fail)) only [e,e0,SXB,SX,reduceIte,Int.reduceLT,Int.reduceLE,Int.reduceToNat,Int.reduceBEq,Int.reduceBNe,Nat.reduceAdd,Nat.reduceMul,Nat.reduceSub,Nat.reduceLeDiff]
   refine HC.exact (digit_ok d) ?_
   cases hl:Lang.digit d with
   | true =>
    rw [hl] at hrs
    simp (disch:=(first | exact dz | fail)) only [w1,SXB,SX,reduceIte,Int.reduceLT,Int.reduceLE,Int.reduceToNat,Int.reduceBEq,Int.reduceBNe,Nat.reduceAdd,Nat.reduceMul,Nat.reduceSub,Nat.reduceLeDiff]
    exact ih (k + 1) h1 (by omega) (by omega) (by omega) X ht hrs next bad
   | false =>
    rw [hl] at hrs
    simp only [Bool.false_eq_true,if_false] at hrs
    have w2:IntKind.i64.wrap ((k:Int) - i)=((k - i:Nat):Int):=by rw [wrap64 (by omega) (by omega)];omega
    try simp only at hrs
    have u0:=u_eq d0 48 (by omega)
    by_cases h9:9 < k - i
    ·have e9:(9:Int) < ((k - i:Nat):Int):=by omega
     have e9b:(9:Int) < (k:Int) - i:=by omega
     rw [if_pos (by simp [h9])] at hrs
     simp (disch:=(first | exact dz | fail)) only [e,w2,e9,e9b,SXB,SX,reduceIte,Int.reduceLT,Int.reduceLE,Int.reduceToNat,Int.reduceBEq,Int.reduceBNe,Nat.reduceAdd,Nat.reduceMul,Nat.reduceSub,Nat.reduceLeDiff]
     exact bad h1 _ hrs X
    ·have e9:¬ ((9:Int) < ((k - i:Nat):Int)):=by omega
     have e9b:¬ ((9:Int) < (k:Int) - i):=by omega
     by_cases h8:1 < k - i
     ·have e8:(1:Int) < ((k - i:Nat):Int):=by omega
      have e8b:(1:Int) < (k:Int) - i:=by omega
      cases hd:d0 == 48 with
      | true =>
       have u0':((d0.toNat:Int) == 48)=true:=u0.trans hd
       rw [if_pos (by simp [h8,hd])] at hrs
       simp (disch:=(first | exact dz | fail)) only [e,w2,e9,e9b,e8,e8b,u0',SXB,SX,reduceIte,Int.reduceLT,Int.reduceLE,Int.reduceToNat,Int.reduceBEq,Int.reduceBNe,Nat.reduceAdd,Nat.reduceMul,Nat.reduceSub,Nat.reduceLeDiff]
       exact bad h1 _ hrs X
      | false =>
       have u0':((d0.toNat:Int) == 48)=false:=u0.trans hd
       rw [if_neg (by simp [h9,hd])] at hrs
       simp (disch:=(first | exact dz | fail)) only [e,w2,e9,e9b,e8,e8b,u0',SXB,SX,reduceIte,Int.reduceLT,Int.reduceLE,Int.reduceToNat,Int.reduceBEq,Int.reduceBNe,Nat.reduceAdd,Nat.reduceMul,Nat.reduceSub,Nat.reduceLeDiff]
       exact tok_cut (x:=.nilIface) (y:=.nilIface) X ht (by omega) (by omega) hk fun h2 c2 tv2 Y=>next h2 c2 tv2 _ _ hrs Y
     ·have e8:¬ ((1:Int) < ((k - i:Nat):Int)):=by omega
      have e8b:¬ ((1:Int) < (k:Int) - i):=by omega
      rw [if_neg (by simp [h9,h8])] at hrs
      simp (disch:=(first | exact dz | fail)) only [e,w2,e9,e9b,e8,e8b,SXB,SX,reduceIte,Int.reduceLT,Int.reduceLE,Int.reduceToNat,Int.reduceBEq,Int.reduceBNe,Nat.reduceAdd,Nat.reduceMul,Nat.reduceSub,Nat.reduceLeDiff]
      exact tok_cut (x:=.nilIface) (y:=.nilIface) X ht (by omega) (by omega) hk fun h2 c2 tv2 Y=>next h2 c2 tv2 _ _ hrs Y
  ·have e:¬ ((k:Int) < s.size):=by omega
   rw [if_neg hlt] at hrs
   have w2:IntKind.i64.wrap ((k:Int) - i)=((k - i:Nat):Int):=by rw [wrap64 (by omega) (by omega)];omega
   try simp only at hrs
   have u0:=u_eq d0 48 (by omega)
   by_cases h9:9 < k - i
   ·have e9:(9:Int) < ((k - i:Nat):Int):=by omega
    have e9b:(9:Int) < (k:Int) - i:=by omega
    rw [if_pos (by simp [h9])] at hrs
    simp (disch:=(first | exact dz | fail)) only [e,w2,e9,e9b,SXB,SX,reduceIte,Int.reduceLT,Int.reduceLE,Int.reduceToNat,Int.reduceBEq,Int.reduceBNe,Nat.reduceAdd,Nat.reduceMul,Nat.reduceSub,Nat.reduceLeDiff]
    exact bad h1 _ hrs X
   ·have e9:¬ ((9:Int) < ((k - i:Nat):Int)):=by omega
    have e9b:¬ ((9:Int) < (k:Int) - i):=by omega
    by_cases h8:1 < k - i
    ·have e8:(1:Int) < ((k - i:Nat):Int):=by omega
     have e8b:(1:Int) < (k:Int) - i:=by omega
     cases hd:d0 == 48 with
     | true =>
      have u0':((d0.toNat:Int) == 48)=true:=u0.trans hd
      rw [if_pos (by simp [h8,hd])] at hrs
      simp (disch:=(first | exact dz | fail)) only [e,w2,e9,e9b,e8,e8b,u0',SXB,SX,reduceIte,Int.reduceLT,Int.reduceLE,Int.reduceToNat,Int.reduceBEq,Int.reduceBNe,Nat.reduceAdd,Nat.reduceMul,Nat.reduceSub,Nat.reduceLeDiff]
      exact bad h1 _ hrs X
     | false =>
      have u0':((d0.toNat:Int) == 48)=false:=u0.trans hd
      rw [if_neg (by simp [h9,hd])] at hrs
      simp (disch:=(first | exact dz | fail)) only [e,w2,e9,e9b,e8,e8b,u0',SXB,SX,reduceIte,Int.reduceLT,Int.reduceLE,Int.reduceToNat,Int.reduceBEq,Int.reduceBNe,Nat.reduceAdd,Nat.reduceMul,Nat.reduceSub,Nat.reduceLeDiff]
      exact tok_cut (x:=.nilIface) (y:=.nilIface) X ht (by omega) (by omega) hk fun h2 c2 tv2 Y=>next h2 c2 tv2 _ _ hrs Y
    ·have e8:¬ ((1:Int) < ((k - i:Nat):Int)):=by omega
     have e8b:¬ ((1:Int) < (k:Int) - i):=by omega
     rw [if_neg (by simp [h9,h8])] at hrs
     simp (disch:=(first | exact dz | fail)) only [e,w2,e9,e9b,e8,e8b,SXB,SX,reduceIte,Int.reduceLT,Int.reduceLE,Int.reduceToNat,Int.reduceBEq,Int.reduceBNe,Nat.reduceAdd,Nat.reduceMul,Nat.reduceSub,Nat.reduceLeDiff]
     exact tok_cut (x:=.nilIface) (y:=.nilIface) X ht (by omega) (by omega) hk fun h2 c2 tv2 Y=>next h2 c2 tv2 _ _ hrs Y
end Go.Proofs.YtnaenhkldanjbaaDoor.L
end
