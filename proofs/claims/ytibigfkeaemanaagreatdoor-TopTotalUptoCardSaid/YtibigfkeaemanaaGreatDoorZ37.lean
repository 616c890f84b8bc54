import Derived.Test.YtibigfkeaemanaaGreatDoorZ18
import Derived.Test.YtibigfkeaemanaaGreatDoorZ36
set_option linter.unusedVariables false
set_option linter.unusedSimpArgs false
section
namespace Go.Proofs.YtibigfkeaemanaaGreatDoor.L
open Go.Ab Go.Lang Go.Proofs.YtibigfkeaemanaaGreatDoor.X
set_option maxRecDepth 100000
theorem flat_bound {P:Program} {n y:Nat} {c:BoundsCode} (h:n ≤ y):flat P (Instr.sliceBound (.int .i64 (n:Int)) y c)=some n:=by
 unfold Instr.sliceBound
 rw [flat_bind]
 show (flat P (pure (IntKind.i64,(n:Int)):Sem (IntKind × Int))).bind _=_
 rw [flat_pure,Option.bind_some]
 show flat P (if 0 ≤ (n:Int)∧(n:Int) ≤ y then _ else _)=_
 rw [if_pos ⟨by omega,by omega⟩]
 rfl
theorem sub_str {P:Program} {t:TypeId} {h:AH} {s:ByteArray} {i k:Nat} (hu:P.underlying t=some .string) (h1:i ≤ k) (h2:k ≤ s.size):sliceV P h t (.string s) (some (.int .i64 i)) (some (.int .i64 k))=some (.string (s.extract i k)):=by
 have e:flat P (Instr.sliceAt t (.string s) (some (.int .i64 i)) (some (.int .i64 k)) none)=some (.string (s.extract i k)):=by
  unfold Instr.sliceAt
  rw [flat_bind,flat_und hu,Option.bind_some]
  show flat P (Instr.slice t (.string s) (some (.int .i64 i)) (some (.int .i64 k)) none)=_
  unfold Instr.slice
  rw [flat_bind,flat_und hu,Option.bind_some]
  show flat P (Instr.sliceBounds false s.size s.size (some (.int .i64 i)) (some (.int .i64 k)) none >>= _)=_
  rw [flat_bind]
  have e2:flat P (Instr.sliceBounds false s.size s.size (some (.int .i64 i)) (some (.int .i64 k)) none)=some (i,k,s.size):=by
   unfold Instr.sliceBounds
   rw [flat_bind,flat_pure,Option.bind_some]
   show flat P (Instr.sliceBound (.int .i64 k) s.size _ >>= _)=_
   rw [flat_bind,flat_bound h2,Option.bind_some]
   show flat P (Instr.sliceBound (.int .i64 i) k _ >>= _)=_
   rw [flat_bind,flat_bound h1,Option.bind_some]
   rfl
  rw [e2]
  rfl
 have e3:flatV P (Instr.sliceAt t (.string s) (some (.int .i64 i)) (some (.int .i64 k)) none)=some (.string (s.extract i k)):=by
  unfold flatV
  rw [e]
  rfl
 exact e3
theorem tok_cut {h h1:AH} {toks:List Tok} {s:ByteArray} {tv:Value} {cls:Nat} {x y:Value} {i k:Nat} {Q:RQ} (X:SC h h1 #[.int .i64 (cls:Nat),.int .i64 (i:Nat),.string ⟨#[]⟩] toks tv) (ht:toks.length ≤ 5000) (hc:cls ≠ 3) (h1k:i ≤ k) (h2k:k ≤ s.size)
  (next:∀ h2 c2 tv2,SC h h2 c2 (toks++[⟨cls,i,s.extract i k⟩]) tv2→H15_5 (.string s) (.pointer (some ⟨h.size,0,none⟩)) tv2 (.int .i64 k) (.pointer (some ⟨h.size + 1,0,none⟩)) h2 Q) :
  K15_27 (.string s) (.pointer (some ⟨h.size,0,none⟩)) tv (.int .i64 i) (.int .i64 k) (.pointer (some ⟨h.size + 1,0,none⟩)) h1 Q:=by
 refine X15_27_ok ?_
 unfold X15_27
 have e:=X.tok
 have e1:((cls:Int) != 3)=true:=by simp;omega
 have e2:=sub_str (P:=Tryz.prog) (t:=9) (h:=h1) (s:=s) (by kernel_rfl) h1k h2k
 simp (disch:=first|exact dz|fail) only [e,e1,e2,SXB,SX,simprocAttr]
 exact tok_done (t:=⟨cls,i,s.extract i k⟩) (X.put rfl) ht next
end Go.Proofs.YtibigfkeaemanaaGreatDoor.L
end
section
namespace Go.Proofs.YtibigfkeaemanaaGreatDoor.L
open Go.Ab Go.Lang Go.Proofs.YtibigfkeaemanaaGreatDoor.X
set_option maxRecDepth 100000
theorem at_bang {s:ByteArray} {i:Nat} (h:i < s.size):s.data.toList[i]?=some s[i]!:=by
 have hl:i < s.data.toList.length:=by rw [← size_list rfl];exact h
 rw [List.getElem?_eq_getElem hl,get_bang rfl (List.getElem?_eq_getElem hl)]
theorem word_loop {h:AH} {toks:List Tok} {s:ByteArray} {tv:Value} {c:Array Value} {i:Nat} {Q:RQ} (hs:s.size ≤ 4096):∀ (n k:Nat) (h1:AH),s.size - k ≤ n→k ≤ s.size→SC h h1 c toks tv →
  (∀ h2,SC h h2 c toks tv→K15_27 (.string s) (.pointer (some ⟨h.size,0,none⟩)) tv (.int .i64 i) (.int .i64 (span alnum s n k)) (.pointer (some ⟨h.size + 1,0,none⟩)) h2 Q) →
  H15_14 (.string s) (.pointer (some ⟨h.size,0,none⟩)) tv (.int .i64 i) (.int .i64 k) (.pointer (some ⟨h.size + 1,0,none⟩)) h1 Q:=by
 intro n
 induction n with
 | zero =>
  intro k h1 hn hk X next
  refine X15_14_ok ?_
  unfold X15_14
  have e:¬ ((k:Int) < s.size):=by omega
  simp (disch:=first|exact dz|fail) only [e,SXB,SX,simprocAttr]
  exact next h1 X
 | succ n ih =>
  intro k h1 hn hk X next
  refine X15_14_ok ?_
  unfold X15_14
  by_cases hlt:k < s.size
  ·have e:(k:Int) < s.size:=by omega
   have e0:=ixS_at rfl (at_bang hlt)
   have w1:IntKind.i64.wrap ((k:Int) + 1)=((k + 1:Nat):Int):=by rw [wrap64 (by omega) (by omega)];omega
   unfold span at next
   rw [if_pos hlt] at next
   generalize s[k]! = d at e0 next
   simp (disch:=first|exact dz|fail) only [e,e0,SXB,SX,simprocAttr]
   refine HC.exact (letter_ok d) ?_
   unfold alnum at next
   cases hl:Lang.letter d with
   | true =>
    rw [hl] at next
    simp (disch:=first|exact dz|fail) only [w1,SXB,SX,simprocAttr]
    exact ih (k + 1) h1 (by omega) (by omega) X next
   | false =>
    rw [hl] at next
    simp (disch:=first|exact dz|fail) only [e0,SXB,SX,simprocAttr]
    refine HC.exact (digit_ok d) ?_
    cases hd:Lang.digit d with
    | true =>
     rw [hd] at next
     simp (disch:=first|exact dz|fail) only [w1,SXB,SX,simprocAttr]
     exact ih (k + 1) h1 (by omega) (by omega) X next
    | false =>
     rw [hd] at next
     simp (disch:=first|exact dz|fail) only [SXB,SX,simprocAttr]
     exact next h1 X
  ·have e:¬ ((k:Int) < s.size):=by omega
   unfold span at next
   rw [if_neg hlt] at next
   simp (disch:=first|exact dz|fail) only [e,SXB,SX,simprocAttr]
   exact next h1 X
theorem num_loop {h:AH} {toks:List Tok} {s:ByteArray} {tv:Value} {i:Nat} {d0:UInt8} {Q:RQ} (hs:s.size ≤ 4096) (hi:i < s.size) (rs:Option (Tok × Nat)):∀ (n k:Nat) (h1:AH),s.size - k ≤ n→i < k→k ≤ s.size→SC h h1 #[.int .i64 (2:Nat),.int .i64 (i:Nat),.string ⟨#[]⟩] toks tv→toks.length ≤ 5000 →
  (rs=let k:=span digit s n k;if 9 < k - i || (1 < k - i && d0 == 48) then none else some (⟨2,i,s.extract i k⟩,k)) →
  (∀ h2 c2 tv2 t k,rs=some (t,k)→SC h h2 c2 (toks++[t]) tv2→H15_5 (.string s) (.pointer (some ⟨h.size,0,none⟩)) tv2 (.int .i64 k) (.pointer (some ⟨h.size + 1,0,none⟩)) h2 Q) →
  (∀ h2 c2,rs=none→SC h h2 c2 toks tv→G15_31 (.string s) (.pointer (some ⟨h.size,0,none⟩)) tv (.int .i64 i) (.pointer (some ⟨h.size + 1,0,none⟩)) h2 Q) →
  H15_18 (.string s) (.pointer (some ⟨h.size,0,none⟩)) tv (.int .i64 i) (.int .i64 k) (.pointer (some ⟨h.size + 1,0,none⟩)) (.int .u8 d0.toNat) h1 Q:=by
 intro n
 induction n with
 | zero =>
  intro k h1 hn hik hk X ht hrs next bad
  refine X15_18_ok ?_
  unfold X15_18
  have e:¬ ((k:Int) < s.size):=by omega
  unfold span at hrs
  have w2:IntKind.i64.wrap ((k:Int) - i)=((k - i:Nat):Int):=by rw [wrap64 (by omega) (by omega)];omega
  try simp only at hrs
  have u0:=u_eq d0 48 (by omega)
  by_cases h9:9 < k - i
  ·have e9:(9:Int) < ((k - i:Nat):Int):=by omega
   have e9b:(9:Int) < (k:Int) - i:=by omega
   rw [if_pos (by simp [h9])] at hrs
   simp (disch:=first|exact dz|fail) only [e,w2,e9,e9b,SXB,SX,simprocAttr]
   exact bad h1 _ hrs X
  ·have e9:¬ ((9:Int) < ((k - i:Nat):Int)):=by omega
   have e9b:¬ ((9:Int) < (k:Int) - i):=by omega
   by_cases h8:1 < k - i
   ·have e8:(1:Int) < ((k - i:Nat):Int):=by omega
    have e8b:(1:Int) < (k:Int) - i:=by omega
    cases hd:d0 == 48 with
    | true =>
     have u0':((d0.toNat:Int) == 48)=true:=u0.trans hd
     rw [if_pos (by simp [h8,hd])] at hrs
     simp (disch:=first|exact dz|fail) only [e,w2,e9,e9b,e8,e8b,u0',SXB,SX,simprocAttr]
     exact bad h1 _ hrs X
    | false =>
     have u0':((d0.toNat:Int) == 48)=false:=u0.trans hd
     rw [if_neg (by simp [h9,hd])] at hrs
     simp (disch:=first|exact dz|fail) only [e,w2,e9,e9b,e8,e8b,u0',SXB,SX,simprocAttr]
     exact tok_cut (x:=.nilIface) (y:=.nilIface) X ht (by omega) (by omega) hk fun h2 c2 tv2 Y=>next h2 c2 tv2 _ _ hrs Y
   ·have e8:¬ ((1:Int) < ((k - i:Nat):Int)):=by omega
    have e8b:¬ ((1:Int) < (k:Int) - i):=by omega
    rw [if_neg (by simp [h9,h8])] at hrs
    simp (disch:=first|exact dz|fail) only [e,w2,e9,e9b,e8,e8b,SXB,SX,simprocAttr]
    exact tok_cut (x:=.nilIface) (y:=.nilIface) X ht (by omega) (by omega) hk fun h2 c2 tv2 Y=>next h2 c2 tv2 _ _ hrs Y
 | succ n ih =>
  intro k h1 hn hik hk X ht hrs next bad
  refine X15_18_ok ?_
  unfold X15_18
  unfold span at hrs
  by_cases hlt:k < s.size
  ·have e:(k:Int) < s.size:=by omega
   have e0:=ixS_at rfl (at_bang hlt)
   have w1:IntKind.i64.wrap ((k:Int) + 1)=((k + 1:Nat):Int):=by rw [wrap64 (by omega) (by omega)];omega
   rw [if_pos hlt] at hrs
   generalize s[k]! = d at e0 hrs
   simp (disch:=first|exact dz|fail) only [e,e0,SXB,SX,simprocAttr]
   refine HC.exact (digit_ok d) ?_
   cases hl:Lang.digit d with
   | true =>
    rw [hl] at hrs
    simp (disch:=first|exact dz|fail) only [w1,SXB,SX,simprocAttr]
    exact ih (k + 1) h1 (by omega) (by omega) (by omega) X ht hrs next bad
   | false =>
    rw [hl] at hrs
    simp only [Bool.false_eq_true,if_false] at hrs
    have w2:IntKind.i64.wrap ((k:Int) - i)=((k - i:Nat):Int):=by rw [wrap64 (by omega) (by omega)];omega
    try simp only at hrs
    have u0:=u_eq d0 48 (by omega)
    by_cases h9:9 < k - i
    ·have e9:(9:Int) < ((k - i:Nat):Int):=by omega
     have e9b:(9:Int) < (k:Int) - i:=by omega
     rw [if_pos (by simp [h9])] at hrs
     simp (disch:=first|exact dz|fail) only [e,w2,e9,e9b,SXB,SX,simprocAttr]
     exact bad h1 _ hrs X
    ·have e9:¬ ((9:Int) < ((k - i:Nat):Int)):=by omega
     have e9b:¬ ((9:Int) < (k:Int) - i):=by omega
     by_cases h8:1 < k - i
     ·have e8:(1:Int) < ((k - i:Nat):Int):=by omega
      have e8b:(1:Int) < (k:Int) - i:=by omega
      cases hd:d0 == 48 with
      | true =>
       have u0':((d0.toNat:Int) == 48)=true:=u0.trans hd
       rw [if_pos (by simp [h8,hd])] at hrs
       simp (disch:=first|exact dz|fail) only [e,w2,e9,e9b,e8,e8b,u0',SXB,SX,simprocAttr]
       exact bad h1 _ hrs X
      | false =>
       have u0':((d0.toNat:Int) == 48)=false:=u0.trans hd
       rw [if_neg (by simp [h9,hd])] at hrs
       simp (disch:=first|exact dz|fail) only [e,w2,e9,e9b,e8,e8b,u0',SXB,SX,simprocAttr]
       exact tok_cut (x:=.nilIface) (y:=.nilIface) X ht (by omega) (by omega) hk fun h2 c2 tv2 Y=>next h2 c2 tv2 _ _ hrs Y
     ·have e8:¬ ((1:Int) < ((k - i:Nat):Int)):=by omega
      have e8b:¬ ((1:Int) < (k:Int) - i):=by omega
      rw [if_neg (by simp [h9,h8])] at hrs
      simp (disch:=first|exact dz|fail) only [e,w2,e9,e9b,e8,e8b,SXB,SX,simprocAttr]
      exact tok_cut (x:=.nilIface) (y:=.nilIface) X ht (by omega) (by omega) hk fun h2 c2 tv2 Y=>next h2 c2 tv2 _ _ hrs Y
  ·have e:¬ ((k:Int) < s.size):=by omega
   rw [if_neg hlt] at hrs
   have w2:IntKind.i64.wrap ((k:Int) - i)=((k - i:Nat):Int):=by rw [wrap64 (by omega) (by omega)];omega
   try simp only at hrs
   have u0:=u_eq d0 48 (by omega)
   by_cases h9:9 < k - i
   ·have e9:(9:Int) < ((k - i:Nat):Int):=by omega
    have e9b:(9:Int) < (k:Int) - i:=by omega
    rw [if_pos (by simp [h9])] at hrs
    simp (disch:=first|exact dz|fail) only [e,w2,e9,e9b,SXB,SX,simprocAttr]
    exact bad h1 _ hrs X
   ·have e9:¬ ((9:Int) < ((k - i:Nat):Int)):=by omega
    have e9b:¬ ((9:Int) < (k:Int) - i):=by omega
    by_cases h8:1 < k - i
    ·have e8:(1:Int) < ((k - i:Nat):Int):=by omega
     have e8b:(1:Int) < (k:Int) - i:=by omega
     cases hd:d0 == 48 with
     | true =>
      have u0':((d0.toNat:Int) == 48)=true:=u0.trans hd
      rw [if_pos (by simp [h8,hd])] at hrs
      simp (disch:=first|exact dz|fail) only [e,w2,e9,e9b,e8,e8b,u0',SXB,SX,simprocAttr]
      exact bad h1 _ hrs X
     | false =>
      have u0':((d0.toNat:Int) == 48)=false:=u0.trans hd
      rw [if_neg (by simp [h9,hd])] at hrs
      simp (disch:=first|exact dz|fail) only [e,w2,e9,e9b,e8,e8b,u0',SXB,SX,simprocAttr]
      exact tok_cut (x:=.nilIface) (y:=.nilIface) X ht (by omega) (by omega) hk fun h2 c2 tv2 Y=>next h2 c2 tv2 _ _ hrs Y
    ·have e8:¬ ((1:Int) < ((k - i:Nat):Int)):=by omega
     have e8b:¬ ((1:Int) < (k:Int) - i):=by omega
     rw [if_neg (by simp [h9,h8])] at hrs
     simp (disch:=first|exact dz|fail) only [e,w2,e9,e9b,e8,e8b,SXB,SX,simprocAttr]
     exact tok_cut (x:=.nilIface) (y:=.nilIface) X ht (by omega) (by omega) hk fun h2 c2 tv2 Y=>next h2 c2 tv2 _ _ hrs Y
end Go.Proofs.YtibigfkeaemanaaGreatDoor.L
end
section
namespace Go.Proofs.YtibigfkeaemanaaGreatDoor.L
open Go.Ab Go.Lang Go.Proofs.YtibigfkeaemanaaGreatDoor.X
set_option maxRecDepth 100000
theorem span_ge (p:UInt8→Bool) (s:ByteArray):∀ (n i:Nat),i ≤ span p s n i∧(i ≤ s.size→span p s n i ≤ s.size):=by
 intro n
 induction n with
 | zero=>intro i;exact ⟨Nat.le_refl _,id⟩
 | succ n ih =>
  intro i
  unfold span
  split
  ·split
   ·have:=ih (i + 1)
    exact ⟨by omega,fun _=>this.2 (by omega)⟩
   ·exact ⟨Nat.le_refl _,id⟩
  ·exact ⟨Nat.le_refl _,id⟩
theorem quotedF_ge {s:ByteArray}:∀ {n i:Nat} {acc l:List UInt8} {k:Nat},quotedF s n i acc=some (l,k)→i < k∧k ≤ s.size:=by
 intro n
 induction n with
 | zero=>intro i acc l k h;cases h
 | succ n ih =>
  intro i acc l k h
  unfold quotedF at h
  split at h
  ·simp only at h
   split at h
   ·cases h;omega
   ·split at h
    ·cases h
    ·split at h
     ·split at h
      ·split at h
       ·have:=ih h;omega
       ·cases h
      ·cases h
     ·have:=ih h;omega
  ·cases h
theorem SPf.cons {Q:RQ} {h:AH} {toks:List Tok} {t:Tok} {rs:Except Nat (List Tok)} (hq:SPf Q h toks (match rs with | .ok l=>.ok (t::l) | .error e=>.error e)):SPf Q h (toks++[t]) rs:=by
 cases rs with
 | ok l=>exact fun h' v K O hb=>hq h' v K (by simpa using O) hb
 | error e=>exact hq
theorem scan_loop {h:AH} {s:ByteArray} (hs:s.size ≤ 4096) {Q:RQ}:∀ (n i:Nat) (h1:AH) (c:Array Value) (toks:List Tok) (tv:Value),s.size - i + 1 ≤ n→i ≤ s.size→toks.length ≤ i→SC h h1 c toks tv→SPf Q h toks (scanF s n i) →
  H15_5 (.string s) (.pointer (some ⟨h.size,0,none⟩)) tv (.int .i64 i) (.pointer (some ⟨h.size + 1,0,none⟩)) h1 Q:=by
 intro n
 induction n with
 | zero=>intro i h1 c toks tv hn;omega
 | succ n ih =>
  intro i h1 c toks tv hn hi ha X hq
  refine X15_5_ok ?_
  unfold X15_5
  unfold scanF at hq
  generalize hs3:stN 3=s3
  generalize hs2:stN 2=s2
  generalize hl2:ldN 2=l2
  by_cases hlt:i < s.size
  ·have e:(i:Int) < s.size:=by omega
   have e0:=ixS_at rfl (at_bang hlt)
   have w1:IntKind.i64.wrap ((i:Int) + 1)=((i + 1:Nat):Int):=by rw [wrap64 (by omega) (by omega)];omega
   have e2:((i:Int) == (s.size:Nat))=false:=by simp;omega
   rw [if_pos hlt] at hq
   have step:∀ t k,tokF s i=some (t,k)→SPf Q h toks (match tokF s i with | none=>.error i | some (t,k)=>match scanF s n k with | .ok l=>.ok (t::l) | .error e=>.error e)→i < k→k ≤ s.size→∀ h2 c2 tv2,SC h h2 c2 (toks++[t]) tv2→H15_5 (.string s) (.pointer (some ⟨h.size,0,none⟩)) tv2 (.int .i64 k) (.pointer (some ⟨h.size + 1,0,none⟩)) h2 Q:=fun t k ht hq h1 h2 h3 c2 tv2 Y=>by
    rw [ht] at hq
    exact ih k h3 c2 (toks++[t]) tv2 (by omega) h2 (by simp;omega) Y hq.cons
   have bad:tokF s i=none→SPf Q h toks (match tokF s i with | none=>.error i | some (t,k)=>match scanF s n k with | .ok l=>.ok (t::l) | .error e=>.error e)→∀ h2 c2,SC h h2 c2 toks tv→G15_31 (.string s) (.pointer (some ⟨h.size,0,none⟩)) tv (.int .i64 i) (.pointer (some ⟨h.size + 1,0,none⟩)) h2 Q:=fun ht hq h2 c2 Y=>by
    rw [ht] at hq
    exact scan_bad Y hq
   simp (disch:=first|exact dz|fail) only [e,e0,SXB,SX,simprocAttr]
   refine HC.exact (indexByte_ok _ s[i]!) ?_
   have eb:=blank_ix s[i]!
   cases hb:Lang.blank s[i]! with
   | true =>
    rw [hb] at eb
    have eb':Lib.indexByte (ByteArray.mk #[32,9,13,10]).data.toList s[i]! ≥ 0:=of_decide_eq_true eb
    rw [if_pos hb] at hq
    simp (disch:=first|exact dz|fail) only [eb',w1,SXB,SX,simprocAttr]
    exact ih (i + 1) h1 c toks tv (by omega) (by omega) (by omega) X hq
   | false =>
    rw [hb] at eb
    have eb':¬ (Lib.indexByte (ByteArray.mk #[32,9,13,10]).data.toList s[i]! ≥ 0):=of_decide_eq_false eb
    rw [if_neg (by simp [hb])] at hq
    have e7:bdF #[.int .i64 0,.int .i64 0,.string ⟨#[]⟩] [(1,1,.int .i64 (i:Nat))]=some #[.int .i64 0,.int .i64 (i:Nat),.string ⟨#[]⟩]:=by rfl
    simp (disch:=first|exact dz|fail) only [eb',e2,e7,w1,e0,SXB,SX,simprocAttr]
    subst hs3 hs2 hl2
    refine bq_of (stN_full X.tok X.csz rfl (fun z hz=>by simp [Value.cells] at hz;rcases hz with rfl | rfl | rfl <;> rfl)) ?_
    have X1:SC h (h1.put (h.size + 1) (some (.cells (Value.agg #[.int .i64 0,.int .i64 (i:Nat),.string ⟨#[]⟩]).cells 55 (0,0),none))) #[.int .i64 0,.int .i64 (i:Nat),.string ⟨#[]⟩] toks tv:=X.put rfl
    generalize h1.put (h.size + 1) (some (.cells (Value.agg #[.int .i64 0,.int .i64 (i:Nat),.string ⟨#[]⟩]).cells 55 (0,0),none))=h3 at X1 ⊢
    have ei:(i:Int) + 1=((i + 1:Nat):Int):=by omega
    try rw [ei]
    have gt:=X1.tok
    have ht:toks.length ≤ 5000:=by omega
    refine HC.exact (letter_ok s[i]!) ?_
    cases hl:Lang.letter s[i]! with
    | true =>
     have T:tokF s i=some (⟨1,i,s.extract i (span alnum s s.size (i + 1))⟩,span alnum s s.size (i + 1)):=by
      unfold tokF;simp only [hl,if_true]
     have sp:=span_ge alnum s s.size (i + 1)
     simp (disch:=first|exact dz|fail) only [gt,SXB,SX,simprocAttr]
     refine word_loop hs s.size (i + 1) _ (by omega) (by omega) (X1.put (c':=#[.int .i64 (1:Nat),.int .i64 (i:Nat),.string ⟨#[]⟩]) rfl) fun h2 X3=>?_
     exact tok_cut (x:=.nilIface) (y:=.nilIface) X3 ht (by omega) (by omega) (sp.2 (by omega)) (step _ _ T hq (by omega) (sp.2 (by omega)))
    | false =>
     simp (disch:=first|exact dz|fail) only [SXB,SX,simprocAttr]
     refine HC.exact (digit_ok s[i]!) ?_
     cases hd:Lang.digit s[i]! with
     | true =>
      simp (disch:=first|exact dz|fail) only [gt,SXB,SX,simprocAttr]
      have T:tokF s i=let k:=span digit s s.size (i + 1);if 9 < k - i || (1 < k - i && s[i]! == 48) then none else some (⟨2,i,s.extract i k⟩,k):=by
       unfold tokF;simp only [hl,hd,if_true,Bool.false_eq_true,if_false]
      have sp:=span_ge digit s s.size (i + 1)
      have bnd:∀ t k,tokF s i=some (t,k)→i < k∧k ≤ s.size:=fun t k hk=>by
       rw [T] at hk
       simp only at hk
       split at hk
       ·cases hk
       ·cases hk;exact ⟨by omega,sp.2 (by omega)⟩
      exact num_loop hs hlt (tokF s i) s.size (i + 1) _ (by omega) (by omega) (by omega) (X1.put (c':=#[.int .i64 (2:Nat),.int .i64 (i:Nat),.string ⟨#[]⟩]) rfl) ht T (fun h2 c2 tv2 t k hk Y=>step t k hk hq (bnd t k hk).1 (bnd t k hk).2 h2 c2 tv2 Y) fun h2 c2 hk Y=>bad hk hq h2 c2 Y
     | false =>
      have u0:=u_eq s[i]! 34 (by omega)
      cases hqt:s[i]! == 34 with
      | true =>
       have u0':((s[i]!.toNat:Int) == 34)=true:=u0.trans hqt
       simp (disch:=first|exact dz|fail) only [gt,u0',SXB,SX,simprocAttr]
       have X2:=X1.put (c':=#[.int .i64 (3:Nat),.int .i64 (i:Nat),.string ⟨#[]⟩]) rfl
       have T:tokF s i=match quotedF s s.size (i + 1) [] with
         | some (l,k)=>some (⟨3,i,⟨l.toArray⟩⟩,k)
         | none=>none:=by
        unfold tokF;simp only [hl,hd,hqt,if_true,Bool.false_eq_true,if_false];rfl
       refine quoted_ok hs (n:=s.size) (by omega) (by omega) fun h4 K4=>?_
       have X3:=X2.keep K4
       have g3:=X3.tok
       cases hqq:quotedF s s.size (i + 1) [] with
       | none =>
        rw [hqq] at T
        simp only at T
        simp (disch:=first|exact dz|fail) only [qres,g3,SXB,SX,simprocAttr]
        exact bad T hq _ _ (X3.put (c':=#[.int .i64 (3:Nat),.int .i64 (i:Nat),.string ⟨#[]⟩]) rfl)
       | some y =>
        obtain ⟨l,k⟩:=y
        rw [hqq] at T
        simp only at T
        have kb:=quotedF_ge hqq
        have e9:¬ ((k:Int) < 0):=by omega
        simp (disch:=first|exact dz|fail) only [qres,g3,e9,SXB,SX,simprocAttr]
        refine X15_27_ok ?_
        unfold X15_27
        have X4:=X3.put (c':=#[.int .i64 (3:Nat),.int .i64 (i:Nat),.string ⟨l.toArray⟩]) rfl
        have g4:=X4.tok
        simp (disch:=first|exact dz|fail) only [g4,SXB,SX,simprocAttr]
        exact tok_done (t:=⟨3,i,⟨l.toArray⟩⟩) X4 ht (step _ _ T hq (by omega) kb.2)
      | false =>
       have u0':((s[i]!.toNat:Int) == 34)=false:=u0.trans hqt
       simp (disch:=first|exact dz|fail) only [gt,u0',SXB,SX,simprocAttr]
       refine HC.exact (indexByte_ok _ s[i]!) ?_
       have em:=mark_ix s[i]!
       cases hm:Lang.isMark s[i]! with
       | true =>
        rw [hm] at em
        have em':Lib.indexByte (ByteArray.mk #[123,125,40,41,44,59,61]).data.toList s[i]! ≥ 0:=of_decide_eq_true em
        have T:tokF s i=some (⟨4,i,s.extract i (i + 1)⟩,i + 1):=by
         unfold tokF;simp only [hl,hd,hqt,hm,if_true,Bool.false_eq_true,if_false]
        simp (disch:=first|exact dz|fail) only [em',gt,SXB,SX,simprocAttr]
        exact tok_cut (x:=.nilIface) (y:=.nilIface) (X1.put (c':=#[.int .i64 (4:Nat),.int .i64 (i:Nat),.string ⟨#[]⟩]) rfl) ht (by omega) (by omega) (by omega) (step _ _ T hq (by omega) (by omega))
       | false =>
        rw [hm] at em
        have em':¬ (Lib.indexByte (ByteArray.mk #[123,125,40,41,44,59,61]).data.toList s[i]! ≥ 0):=of_decide_eq_false em
        have T:tokF s i=none:=by
         unfold tokF;simp only [hl,hd,hqt,hm,Bool.false_eq_true,if_false]
        simp (disch:=first|exact dz|fail) only [em',gt,SXB,SX,simprocAttr]
        exact bad T hq _ _ X1
  ·have e:¬ ((i:Int) < s.size):=by omega
   have hie:i=s.size:=by omega
   have e2:((i:Int) == (s.size:Nat))=true:=by simp;omega
   rw [if_neg hlt] at hq
   simp (disch:=first|exact dz|fail) only [e,e2,SXB,SX,simprocAttr]
   subst hs2 hl2 hs3
   refine bq_of (x:=.agg #[.int .i64 0,.int .i64 (i:Nat),.string ⟨#[]⟩]) rfl ?_
   refine bq_of (x:=(Value.slice (some ⟨h1.size,0,none⟩) 1 1,h1.push (.cells #[.int .i64 0,.int .i64 (i:Nat),.string ⟨#[]⟩] 55 (0,0)) none)) rfl ?_
   have hl:(toks.map encT).length=toks.length:=by simp
   have hsz:=X.size
   obtain ⟨s',h2,q1,q2,q3,q4,q5⟩:=X.out.append1 (v:=encT ⟨0,s.size,empty⟩) (c:=#[.int .i64 0,.int .i64 (i:Nat),.string ⟨#[]⟩]) (bytes:=32) (zero:=.agg #[.int .i64 0,.int .i64 0,.string ⟨#[]⟩]) (by rw [hie];rfl) X.lt hsz (fun v hv=>by
    obtain ⟨d,_,rfl⟩:=List.mem_map.1 hv;rfl) rfl (fun z hz=>by simp at hz;rcases hz with rfl | rfl | rfl <;> rfl) (by omega) (by omega) (by omega) rfl (by omega)
   refine bq_of q1 ?_
   have g:∀ k,k < h.size + 2→h2.get k=h1.get k:=fun k hk=>q4 k (by omega) fun e=>by have:=X.out.key k e;omega
   have K:=X.K
   refine bq_of (stN_full ((g _ (by omega)).trans X.err) rfl rfl (fun z hz=>by simp [Value.cells] at hz;rcases hz with rfl | rfl <;> rfl)) ?_
   rw [ldN_full (n:=2) (get_put_eq rfl) rfl]
   simp (disch:=first|exact dz|fail) only [SXB,SX,simprocAttr]
   refine hq _ _ ⟨by rw [sz_put];exact Nat.le_trans K.size q3,fun k hk=>?_⟩ ?_ ?_
   ·rw [get_put_ne (by omega)]
    exact (g k (by omega)).trans (K.get k hk)
   ·rw [List.map_append]
    exact q2.mono fun k hk=>get_put_ne (by have:=q2.key k hk;omega)
   ·intro k hk
    rw [sz_put]
    rcases q5 with e | ⟨k',e,h1,h3⟩
    ·rw [e] at hk;exact Nat.lt_of_lt_of_le (X.lt k hk) q3
    ·rw [e] at hk;cases hk;exact h3
theorem scan_ok {h:AH} {s:ByteArray} (hs:s.size ≤ 4096) {Q:RQ} (hq:SPf Q h [] (scanF s (s.size + 1) 0)):HC Tryz.prog 15 [.string s].toArray h Q:=by
 refine X15_ok ?_
 unfold X15
 simp (disch:=first|exact dz|fail) only [SXB,SX,simprocAttr]
 refine XE15_1_ok ?_
 unfold XE15_1
 simp (disch:=first|exact dz|fail) only [SXB,SX,simprocAttr]
 refine XS15_5_ok ?_
 unfold XS15_5
 have X0:SC h ((h.push (.cells #[.int .i64 0,.int .i64 0] 25 (0,0)) none).push (.cells #[.int .i64 0,.int .i64 0,.string ⟨#[]⟩] 55 (0,0)) none) #[.int .i64 0,.int .i64 0,.string ⟨#[]⟩] [] (.slice none 0 0):=by
  refine ⟨?_,get_push_eq (by simp),rfl,.nil,fun k hk=>(nomatch hk),by simp,?_⟩
  ·rw [get_push_ne (by simp)];exact get_push_eq rfl
  ·(repeat (first | exact Kp.refl _ _ | assumption | refine Kp.push ?_ _ _ (by first | omega | (simp only [sz_push,sz_put];omega)) | refine Kp.put ?_ _ _ (by first | omega | (simp only [sz_push,sz_put];omega))))
 exact scan_loop hs (s.size + 1) 0 _ _ [] (.slice none 0 0) (by omega) (Nat.zero_le _) (Nat.le_refl _) X0 hq
end Go.Proofs.YtibigfkeaemanaaGreatDoor.L
end
section
namespace Go.Proofs.YtibigfkeaemanaaGreatDoor.L
open Go.Ab Go.Lang Go.Proofs.YtibigfkeaemanaaGreatDoor.X
theorem span_all (p:UInt8→Bool) (s:ByteArray):∀ (n i j:Nat),i ≤ j→j < span p s n i→p s[j]! = true:=by
 intro n
 induction n with
 | zero=>intro i j h1 h2;unfold span at h2;omega
 | succ n ih =>
  intro i j h1 h2
  unfold span at h2
  split at h2
  ·split at h2
   ·rename_i h3
    by_cases e:j=i
    ·rw [e];exact h3
    ·exact ih (i + 1) j (by omega) h2
   ·omega
  ·omega
theorem extract_mem {s:ByteArray} {i k:Nat} {c:UInt8} (h:c ∈ (s.extract i k).data.toList):∃ j,i ≤ j∧j < k∧j < s.size∧s[j]! = c:=by
 rw [ByteArray.data_extract,Array.mem_toList_iff] at h
 obtain ⟨n,hn,rfl⟩:=Array.mem_iff_getElem.1 h
 rw [Array.size_extract] at hn
 have hsz:s.data.size=s.size:=rfl
 refine ⟨i + n,by omega,by omega,by omega,?_⟩
 rw [getElem!_pos s (i + n) (by omega)]
 simp [ByteArray.getElem_eq_getElem_data]
theorem extract_size {s:ByteArray} {i k:Nat} (h:i ≤ k) (hk:k ≤ s.size):(s.extract i k).size=k - i:=by
 rw [ByteArray.size_extract];omega
theorem quotedF_len {s:ByteArray}:∀ {n i:Nat} {acc l:List UInt8} {k:Nat},quotedF s n i acc=some (l,k)→acc.length ≤ i→l.length ≤ s.size:=by
 intro n
 induction n with
 | zero=>intro i acc l k h;cases h
 | succ n ih =>
  intro i acc l k h ha
  unfold quotedF at h
  split at h
  ·simp only at h
   split at h
   ·cases h;omega
   ·split at h
    ·cases h
    ·split at h
     ·split at h
      ·split at h
       ·exact ih h (by simp;omega)
       ·cases h
      ·cases h
     ·exact ih h (by simp;omega)
  ·cases h
theorem tokF_ok {s:ByteArray} (hs:s.size ≤ 4096) {i k:Nat} {t:Tok} (hi:i < s.size) (h:tokF s i=some (t,k)):TokGood t∧i < k∧k ≤ s.size:=by
 unfold tokF at h
 simp only at h
 by_cases hl:letter s[i]! = true
 ·rw [if_pos hl] at h
  cases h
  have sp:=span_ge alnum s s.size (i + 1)
  have sz:=extract_size (s:=s) (i:=i) (k:=span alnum s s.size (i + 1)) (by omega) (sp.2 (by omega))
  refine ⟨⟨by simp,by simp,by show i ≤ 4096;omega,fun _ c hc=>?_,fun h=>(by cases h),by show (s.extract i _).size ≤ 4096;omega⟩,by omega,sp.2 (by omega)⟩
  obtain ⟨j,h1,h2,h3,rfl⟩:=extract_mem hc
  by_cases e:j=i
  ·rw [e];unfold alnum;rw [hl];rfl
  ·exact span_all alnum s _ (i + 1) j (by omega) h2
 rw [if_neg hl] at h
 by_cases hd:digit s[i]! = true
 ·rw [if_pos hd] at h
  have sp:=span_ge digit s s.size (i + 1)
  have sz:=extract_size (s:=s) (i:=i) (k:=span digit s s.size (i + 1)) (by omega) (sp.2 (by omega))
  split at h
  ·cases h
  ·rename_i hc0
   cases h
   have h9:¬ (9 < span digit s s.size (i + 1) - i):=fun e=>hc0 (by simp [e])
   refine ⟨⟨by simp,by simp,by show i ≤ 4096;omega,fun h=>(by cases h),fun _=>⟨by show 0 < (s.extract i _).size;omega,by show (s.extract i _).size ≤ 9;omega,fun c hc=>?_⟩,by show (s.extract i _).size ≤ 4096;omega⟩,by omega,sp.2 (by omega)⟩
   obtain ⟨j,h1,h2,h3,rfl⟩:=extract_mem hc
   by_cases e:j=i
   ·rw [e];exact hd
   ·exact span_all digit s _ (i + 1) j (by omega) h2
 rw [if_neg hd] at h
 by_cases hq:(s[i]! == 34)=true
 ·rw [if_pos hq] at h
  split at h
  ·rename_i l k' hqq
   cases h
   have:=quotedF_ge hqq
   have hlen:=quotedF_len hqq (Nat.zero_le _)
   exact ⟨⟨by simp,by simp,by show i ≤ 4096;omega,fun h=>(by cases h),fun h=>(by cases h),by show l.toArray.size ≤ 4096;simp;omega⟩,by omega,this.2⟩
  ·cases h
 rw [if_neg hq] at h
 split at h
 ·cases h
  have sz:=extract_size (s:=s) (i:=i) (k:=i + 1) (by omega) (by omega)
  exact ⟨⟨by simp,by simp,by show i ≤ 4096;omega,fun h=>(by cases h),fun h=>(by cases h),by show (s.extract i _).size ≤ 4096;omega⟩,by omega,by omega⟩
 ·cases h
theorem scanF_ok {s:ByteArray} (hs:s.size ≤ 4096):∀ (n i:Nat) (l:List Tok),i ≤ s.size→scanF s n i=.ok l→TokOK l∧l.length ≤ s.size - i + 1:=by
 intro n
 induction n with
 | zero=>intro i l _ h;cases h
 | succ n ih =>
  intro i l hi h
  unfold scanF at h
  split at h
  ·rename_i hlt
   split at h
   ·have:=ih _ _ (by omega) h
    exact ⟨this.1,by omega⟩
   ·split at h
    ·cases h
    ·rename_i t k ht
     have:=tokF_ok hs hlt ht
     split at h
     ·rename_i l' hl'
      cases h
      have h2:=ih _ _ this.2.2 hl'
      exact ⟨.cons this.1 h2.1,by simp;omega⟩
     ·cases h
  ·cases h
   exact ⟨.one _ rfl rfl (by show s.size ≤ 4096;omega),by simp⟩
end Go.Proofs.YtibigfkeaemanaaGreatDoor.L
end
section
namespace Go.Lang
mutual
def szE:Expr→Nat
 | .mk _ _ _ _ args=>1 + szEs args
def szEs:List Expr→Nat
 | []=>0
 | e::l=>szE e + szEs l
end
mutual
def szS:Stmt→Nat
 | .mk _ _ a b body els=>1 + szE a + szE b + szSs body + szSs els
def szSs:List Stmt→Nat
 | []=>0
 | e::l=>szS e + szSs l
end
theorem sz_zero:szE .zero=1:=by unfold Expr.zero;rw [szE,szEs]
theorem want_len {k:Nat} {x:ByteArray} {ts r:List Tok} (h:want k x ts=.ok r) (hne:ts ≠ []):r.length + 1 ≤ ts.length:=by
 unfold want at h
 split at h
 ·cases h
  cases ts with
  | nil=>exact absurd rfl hne
  | cons t r=>simp
 ·cases h
theorem want_ne {k:Nat} {x:ByteArray} {ts r:List Tok} (h:want k x ts=.ok r):ts ≠ []:=by
 intro e;subst e
 unfold want isT at h
 cases h
theorem want_le {k:Nat} {x:ByteArray} {ts r:List Tok} (h:want k x ts=.ok r):r.length + 1 ≤ ts.length:=want_len h (want_ne h)
theorem fresh_le {ts r:List Tok} {t:Tok} (h:fresh ts=.ok (t,r)):r.length + 1 ≤ ts.length:=by
 cases ts with
 | nil=>cases h
 | cons u r' =>
  simp only [fresh] at h
  split at h
  ·cases h
  ·cases h;simp
theorem unbound_le {vs:List Var} {ts r:List Tok} {x:ByteArray} (h:unboundF vs ts=.ok (x,r)):r.length + 1 ≤ ts.length:=by
 unfold unboundF at h
 split at h
 ·cases h
 ·rename_i hf
  split at h
  ·cases h
  ·cases h;exact fresh_le hf
def RdSz (rd:ExprRd):Prop:=∀ ts e k r,rd ts=.ok ((e,k),r)→szE e + r.length ≤ ts.length
theorem ofK_sz {rd:ExprRd} (hr:RdSz rd) {k:Nat} {ts r:List Tok} {e:Expr} (h:ofK rd k ts=.ok (e,r)):szE e + r.length ≤ ts.length:=by
 unfold ofK at h
 split at h
 ·rename_i hx
  split at h
  ·cases h;exact hr _ _ _ _ hx
  ·cases h
 ·cases h
theorem argsF_sz {rd:ExprRd} (hr:RdSz rd):∀ {ks:List UInt8} {first:Bool} {ts r:List Tok} {es:List Expr},argsF rd ks first ts=.ok (es,r)→szEs es + r.length ≤ ts.length:=by
 intro ks
 induction ks with
 | nil=>intro first ts r es h;rw [argsF] at h;cases h;rw [szEs];omega
 | cons k ks ih =>
  intro first ts r es h
  rw [argsF] at h
  split at h
  ·cases h
  ·rename_i t1 h1
   have l1:t1.length ≤ ts.length:=by
    split at h1
    ·cases h1;exact Nat.le_refl _
    ·have:=want_le h1;omega
   split at h
   ·cases h
   ·rename_i e t2 h2
    have l2:=ofK_sz hr h2
    split at h
    ·cases h
    ·rename_i es' t3 h3
     have l3:=ih h3
     cases h
     rw [szEs];omega
theorem exprF_sz (vs:List Var):∀ n c:Nat,RdSz (exprF n c vs):=by
 intro n
 induction n with
 | zero=>intro c ts e k r h;cases h
 | succ n ih =>
  intro c ts e k r h
  cases ts with
  | nil=>cases h
  | cons t ts =>
   unfold exprF at h
   simp only at h
   split at h
   ·cases h;rw [szE,szEs];simp;omega
   split at h
   ·cases h;rw [szE,szEs];simp;omega
   split at h
   ·cases h
   ·rename_i t2 r2 hf
    have lf:=fresh_le hf
    split at h
    ·unfold callF at h
     split at h
     ·cases h
     ·split at h
      ·cases h
      ·split at h
       ·cases h
       ·rename_i es t3 ha
        have la:=argsF_sz (ih (c + 1)) ha
        split at h
        ·cases h
        ·rename_i t4 hw
         have lw:=want_le hw
         cases h
         rw [szE]
         have:r2.tail.length ≤ r2.length:=by simp
         omega
    ·split at h
     ·cases h;rw [szE,szEs];simp at lf ⊢;omega
     ·cases h
theorem expr0_sz (vs:List Var):RdSz (expr0 vs):=fun ts e k r h=>exprF_sz vs _ _ _ _ _ _ h
def BlkSz (blk:BlockRd):Prop:=∀ l vs ts b r,blk l vs ts=.ok (b,r)→szSs b + r.length + 1 ≤ ts.length
theorem emitF_sz {vs:List Var} {ts r:List Tok} {s:Stmt} (h:emitF vs ts=.ok (s,r)):szS s + r.length ≤ ts.length + 1:=by
 unfold emitF at h
 split at h
 ·cases h
 rename_i a t1 h1
 split at h
 ·cases h
 rename_i t2 h2
 split at h
 ·cases h
 rename_i b t3 h3
 split at h
 ·cases h
 rename_i t4 h4
 cases h
 have:=ofK_sz (expr0_sz vs) h1
 have:=want_le h2
 have:=ofK_sz (expr0_sz vs) h3
 have:=want_le h4
 rw [szS,szSs];omega
theorem letF_sz {vs:List Var} {ts r:List Tok} {s:Stmt} {v:Var} (h:letF vs ts=.ok ((s,v),r)):szS s + r.length ≤ ts.length + 1:=by
 unfold letF at h
 split at h
 ·cases h
 rename_i h1
 split at h
 ·cases h
 rename_i h2
 split at h
 ·cases h
 rename_i h3
 split at h
 ·cases h
 rename_i h4
 cases h
 have:=unbound_le h1
 have:=want_le h2
 have:=expr0_sz vs _ _ _ _ h3
 have:=want_le h4
 rw [szS,szSs,sz_zero];omega
theorem ifF_sz {blk:BlockRd} (hb:BlkSz blk) {vs:List Var} {ts r:List Tok} {s:Stmt} (h:ifF blk vs ts=.ok (s,r)):szS s + r.length ≤ ts.length + 1:=by
 unfold ifF at h
 split at h
 ·cases h
 rename_i h1
 split at h
 ·cases h
 rename_i h2
 have l1:=ofK_sz (expr0_sz vs) h1
 have l2:=hb _ _ _ _ _ h2
 split at h
 ·split at h
  ·cases h
  rename_i h3
  have l3:=hb _ _ _ _ _ h3
  cases h
  rw [szS,sz_zero]
  simp at l3
  omega
 ·cases h
  rw [szS,sz_zero,szSs];omega
theorem forF_sz {blk:BlockRd} (hb:BlkSz blk) {vs:List Var} {ts r:List Tok} {s:Stmt} (h:forF blk vs ts=.ok (s,r)):szS s + r.length ≤ ts.length + 1:=by
 unfold forF at h
 split at h
 ·cases h
 rename_i h1
 split at h
 ·cases h
 rename_i h2
 split at h
 ·cases h
 rename_i h3
 split at h
 ·cases h
 rename_i h4
 cases h
 have:=unbound_le h1
 have:=want_le h2
 have:=ofK_sz (expr0_sz vs) h3
 have:=hb _ _ _ _ _ h4
 rw [szS,sz_zero,szSs];omega
theorem eachF_sz {blk:BlockRd} (hb:BlkSz blk) {vs:List Var} {ts r:List Tok} {s:Stmt} (h:eachF blk vs ts=.ok (s,r)):szS s + r.length ≤ ts.length + 1:=by
 unfold eachF at h
 split at h
 ·cases h
 rename_i h1
 split at h
 ·cases h
 rename_i h2
 split at h
 ·cases h
 rename_i h3
 split at h
 ·cases h
 rename_i h4
 split at h
 ·cases h
 rename_i h5
 split at h
 ·cases h
 rename_i h6
 cases h
 have:=unbound_le h1
 have:=want_le h2
 have:=ofK_sz (expr0_sz vs) h3
 have:=want_le h4
 have:=ofK_sz (expr0_sz vs) h5
 have:=hb _ _ _ _ _ h6
 rw [szS,szSs];omega
theorem stmtF_sz {blk:BlockRd} (hb:BlkSz blk) {vs vs':List Var} {ts r:List Tok} {s:Stmt} (h:stmtF blk vs ts=.ok ((s,vs'),r)):szS s + r.length ≤ ts.length:=by
 cases ts with
 | nil=>cases h
 | cons t r0 =>
  simp only [stmtF] at h
  rw [List.length_cons]
  split at h
  ·cases h
  split at h
  ·obtain ⟨z,hz,e⟩:=map_ok h;cases e;exact emitF_sz hz
  split at h
  ·obtain ⟨⟨⟨s',v'⟩,r'⟩,hz,e⟩:=map_ok h;cases e;exact letF_sz hz
  split at h
  ·obtain ⟨z,hz,e⟩:=map_ok h;cases e;exact ifF_sz hb hz
  split at h
  ·obtain ⟨z,hz,e⟩:=map_ok h;cases e;exact eachF_sz hb hz
  split at h
  ·obtain ⟨z,hz,e⟩:=map_ok h;cases e;exact forF_sz hb hz
  ·cases h
theorem isT_le {k:Nat} {x:ByteArray} {ts:List Tok} (h:isT ts k x=true):ts.tail.length + 1 ≤ ts.length:=by
 cases ts with
 | nil=>cases h
 | cons t r=>simp
theorem blockG_sz {rd:Nat→Nat→List Var→List Tok→R (List Stmt × List Tok)} (hr:∀ b l vs ts ss r,rd b l vs ts=.ok (ss,r)→szSs ss + r.length ≤ ts.length) (b l:Nat):BlkSz (blockG rd b l):=fun loop vs ts ss r h=>by
 unfold blockG at h
 split at h
 ·cases h
 split at h
 ·cases h
 ·rename_i hw
  have:=want_le hw
  have:=hr _ _ _ _ _ _ h
  omega
theorem stmtsF_sz:∀ (n b l:Nat) (vs:List Var) (ts:List Tok) (ss:List Stmt) (r:List Tok),stmtsF n b l vs ts=.ok (ss,r)→szSs ss + r.length ≤ ts.length:=by
 intro n
 induction n with
 | zero=>intro b l vs ts ss r h;cases h
 | succ n ih =>
  intro b l vs ts ss r h
  simp only [stmtsF] at h
  split at h
  ·rename_i h1
   cases h
   rw [szSs]
   have:=isT_le h1
   omega
  split at h
  ·cases h
  rename_i h1
  have l1:=stmtF_sz (blockG_sz (fun b l vs ts ss r h=>ih b l vs ts ss r h) b l) h1
  split at h
  ·cases h
  rename_i h2
  have l2:=ih _ _ _ _ _ _ h2
  cases h
  rw [szSs];omega
theorem block0_sz {vs:List Var} {ts r:List Tok} {ss:List Stmt} (h:block0 vs ts=.ok (ss,r)):szSs ss + r.length ≤ ts.length:=by
 have:=blockG_sz (fun b l vs ts ss r h=>stmtsF_sz _ b l vs ts ss r h) 0 0 false vs ts ss r h
 omega
def SmP (n:Nat) (p:Prog):Prop:=szSs p.map ≤ n∧szSs p.combine ≤ n∧szSs p.reduce ≤ n∧szE p.part ≤ n
theorem reduceF_sz {n:Nat} {p q:Prog} {ts:List Tok} (hp:SmP n p) (hn:ts.length ≤ n) (h:reduceF p ts=.ok q):SmP n q:=by
 unfold reduceF at h
 split at h
 ·cases h
 rename_i t1 h1
 split at h
 ·cases h
 rename_i l t2 h2
 have l1:=want_le h1
 have l2:=block0_sz h2
 unfold partF at h
 split at h
 ·cases h
 rename_i p3 t3 h3
 have k3:SmP n p3:=by
  unfold partE at h3
  split at h3
  ·split at h3
   ·cases h3
   rename_i e t4 h4
   have l4:=ofK_sz (expr0_sz _) h4
   have:t2.tail.length ≤ t2.length:=by simp
   split at h3
   ·cases h3
   cases h3
   exact ⟨hp.1,hp.2.1,by show szSs l ≤ n;omega,by show szE e ≤ n;omega⟩
  ·cases h3
   exact ⟨hp.1,hp.2.1,by show szSs l ≤ n;omega,hp.2.2.2⟩
 split at h
 ·cases h
 cases h
 exact k3
theorem programF_sz {n:Nat} {ts:List Tok} {q:Prog} (hn:ts.length ≤ n) (h1n:1 ≤ n) (h:programF ts=.ok q):SmP n q:=by
 unfold programF at h
 split at h
 ·cases h
 rename_i t1 h1
 split at h
 ·cases h
 rename_i l t2 h2
 have l1:=want_le h1
 have l2:=block0_sz h2
 split at h
 ·split at h
  ·cases h
  rename_i lc t3 h3
  have l3:=block0_sz h3
  have:t2.tail.length ≤ t2.length:=by simp
  exact reduceF_sz ⟨by show szSs l ≤ n;omega,by show szSs lc ≤ n;omega,by show szSs [] ≤ n;rw [szSs];omega,by show szE .zero ≤ n;rw [sz_zero];omega⟩ (by omega) h
 ·exact reduceF_sz ⟨by show szSs l ≤ n;omega,by show szSs [] ≤ n;rw [szSs];omega,by show szSs [] ≤ n;rw [szSs];omega,by show szE .zero ≤ n;rw [sz_zero];omega⟩ (by omega) h
end Go.Lang
end
