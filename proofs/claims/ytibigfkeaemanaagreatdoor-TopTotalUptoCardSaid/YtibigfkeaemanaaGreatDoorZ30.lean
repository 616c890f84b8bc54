import Derived.Test.YtibigfkeaemanaaGreatDoorZ20
import Derived.Test.YtibigfkeaemanaaGreatDoorZ22
import Derived.Test.YtibigfkeaemanaaGreatDoorZ29
set_option linter.unusedVariables false
set_option linter.unusedSimpArgs false
section
namespace Go.Proofs.YtibigfkeaemanaaGreatDoor.L
open Go.Ab Go.Lang Go.Proofs.YtibigfkeaemanaaGreatDoor.X
set_option maxRecDepth 100000
def encB (l:List UInt8):List Value:=l.map fun c=>.int .u8 c.toNat
theorem flatC_encB (l:List UInt8):flatC (encB l)=encB l:=by
 induction l with
 | nil=>rfl
 | cons c l ih =>
  show (Value.int .u8 c.toNat).cells.toList++flatC (encB l)=_
  rw [ih];rfl
theorem intsOf_encB (l:List UInt8):intsOf (encB l)=some (l.map fun c=>(c.toNat:Int)):=by
 induction l with
 | nil=>rfl
 | cons c l ih =>
  show intsOf (.int .u8 c.toNat::encB l)=_
  unfold intsOf
  rw [ih];rfl
theorem fold_push (l:List UInt8) (b:ByteArray):((l.map fun c=>(c.toNat:Int)).foldl (fun r n=>r.push (UInt8.ofNat n.toNat)) b).data.toList=b.data.toList++l:=by
 induction l generalizing b with
 | nil=>simp
 | cons c l ih =>
  rw [List.map_cons,List.foldl_cons,ih]
  simp [ByteArray.push]
theorem b2s_op {h:AH} {lo:Nat} {s:Value} {l:List UInt8} (o:Hld 5 1 h lo s (encB l)):opB2S h s=some (.string ⟨l.toArray⟩):=by
 generalize he:encB l=v at o
 cases o with
 | nil =>
  cases l with
  | nil=>rfl
  | cons c l=>cases he
 | row hk hg hc hp =>
  rename_i k c
  subst he
  have hll:(encB l).length=l.length:=by simp [encB]
  rw [flatC_encB] at hc
  have hcells:opCells h ⟨k,0,none⟩ (encB l).length=some c:=by
   unfold opCells
   simp [hg,hc]
  unfold opB2S
  simp only
  rw [if_neg (by omega),hcells]
  simp only [hc,intsOf_encB]
  congr 2
  refine Go.WideShapes.bytes_inj ?_
  rw [fold_push]
  show ([]:List UInt8)++l=_
  simp
theorem b2s {h:AH} {lo:Nat} {s:Value} {l:List UInt8} (o:Hld 5 1 h lo s (encB l)):convV Tryz.prog 80 9 s h=some (.string ⟨l.toArray⟩,h):=by
 have hb:=b2s_op o
 obtain ⟨a,n,c,rfl⟩:=o.isSl
 have e:convV Tryz.prog 80 9 (.slice a n c) h=(opB2S h (.slice a n c)).map fun v=>(v,h):=by
  unfold convV
  have:absConvert Tryz.prog 80 9 (.slice a n c) h=valH h (opB2S h (.slice a n c)):=by kernel_rfl
  rw [this]
  cases opB2S h (.slice a n c) <;> rfl
 rw [e,hb];rfl
theorem u_eq (c:UInt8) (n:Nat) (hn:n < 256):((c.toNat:Int) == (n:Int))=(c == UInt8.ofNat n):=by
 rw [Bool.eq_iff_iff]
 simp only [beq_iff_eq]
 constructor
 ·intro h
  have:c.toNat=n:=by omega
  rw [← this];simp
 ·intro h
  rw [h,UInt8.toNat_ofNat_of_lt' hn]
theorem u_lt32 (c:UInt8):decide ((c.toNat:Int) < 32)=decide (c < (32:UInt8)):=by rw [decide_eq_decide,UInt8.lt_iff_toNat_lt];simp;omega
theorem u_gt126 (c:UInt8):decide ((c.toNat:Int) > 126)=decide ((126:UInt8) < c):=by rw [decide_eq_decide,UInt8.lt_iff_toNat_lt];simp;omega
theorem esc_none (c:UInt8) (h:esc c=none):Lib.indexByte (ByteArray.mk #[34,92,110,116]).data.toList c = -1:=by
 unfold esc at h
 have h1:¬ (c == 34)=true:=fun e=>by rw [if_pos e] at h;cases h
 rw [if_neg h1] at h
 have h2:¬ (c == 92)=true:=fun e=>by rw [if_pos e] at h;cases h
 rw [if_neg h2] at h
 have h3:¬ (c == 110)=true:=fun e=>by rw [if_pos e] at h;cases h
 rw [if_neg h3] at h
 have h4:¬ (c == 116)=true:=fun e=>by rw [if_pos e] at h;cases h
 have k:∀ d:UInt8,¬ (c == d)=true→(d == c)=false:=fun d hd=>by
  rw [Bool.eq_false_iff];intro e;exact hd (by simpa using (by simpa using e:d=c).symm)
 simp only [Lib.indexByte,k _ h1,k _ h2,k _ h3,k _ h4,Bool.false_eq_true,if_false]
 rfl
theorem esc_some (c d:UInt8) (h:esc c=some d):∃ j:Nat,Lib.indexByte (ByteArray.mk #[34,92,110,116]).data.toList c=(j:Int)∧(ByteArray.mk #[34,92,10,9]).data.toList[j]?=some d:=by
 unfold esc at h
 by_cases h1:(c == 34)=true
 ·rw [if_pos h1] at h;cases h
  have:c=34:=by simpa using h1
  subst this;exact ⟨0,by decide,rfl⟩
 rw [if_neg h1] at h
 by_cases h2:(c == 92)=true
 ·rw [if_pos h2] at h;cases h
  have:c=92:=by simpa using h2
  subst this;exact ⟨1,by decide,rfl⟩
 rw [if_neg h2] at h
 by_cases h3:(c == 110)=true
 ·rw [if_pos h3] at h;cases h
  have:c=110:=by simpa using h3
  subst this;exact ⟨2,by decide,rfl⟩
 rw [if_neg h3] at h
 by_cases h4:(c == 116)=true
 ·rw [if_pos h4] at h;cases h
  have:c=116:=by simpa using h4
  subst this;exact ⟨3,by decide,rfl⟩
 rw [if_neg h4] at h
 cases h
def qres:Option (List UInt8 × Nat)→Value
 | some (l,k)=>.tuple #[.string ⟨l.toArray⟩,.int .i64 (k:Nat)]
 | none=>.tuple #[.string ⟨#[]⟩,.int .i64 (-1)]
theorem push_step {h h':AH} {s:ByteArray} (hs:s.size ≤ 4096) {i:Nat} (hi:i < s.size) {acc:List UInt8} (ha:acc.length ≤ i) {c:UInt8} {sv:Value} (K:Kp h.size h h') (O:Hld 5 1 h' h.size sv (encB acc)) (hb:∀ k,blkOf sv=some k→k < h'.size) {Q:RQ}
  (hq:∀ h2 sv2,Kp h.size h h2→Hld 5 1 h2 h.size sv2 (encB (acc++[c]))→(∀ k,blkOf sv2=some k→k < h2.size)→H27_2 (.string s) (.int .i64 (i + 1:Nat)) sv2 h2 Q) :
  bq (apT 5 1 1 (some (.int .u8 0)) (h'.push (.cells #[.int .u8 c.toNat] 5 (0,0)) none) sv (.slice (some ⟨h'.size,0,none⟩) 1 1)) fun r=>K27_3 (.string s) (.int .i64 i) r.1 r.2 Q:=by
 have e1:∀ v ∈ encB acc,v.cells.size=1:=fun v hv=>by
  obtain ⟨d,_,rfl⟩:=List.mem_map.1 hv;rfl
 have hl:(encB acc).length=acc.length:=by simp [encB]
 obtain ⟨s',h2,q1,q2,q3,q4,q5⟩:=O.append1 (v:=.int .u8 c.toNat) (c:=#[.int .u8 c.toNat]) (bytes:=1) (zero:=.int .u8 0) rfl hb K.size e1 rfl (fun z hz=>by simp at hz;subst hz;rfl) (by omega) (by omega) (by omega) rfl (by omega)
 refine bq_of q1 ?_
 refine X27_3_ok ?_
 unfold X27_3
 have e2:IntKind.i64.wrap ((i:Int) + 1)=((i + 1:Nat):Int):=by rw [wrap64 (by omega) (by omega)];omega
 simp (disch:=first|exact dz|fail) only [e2,SXB,SX,simprocAttr]
 have:=hq h2 s' ⟨Nat.le_trans K.size q3,fun k hk=>(q4 k (Nat.lt_of_lt_of_le hk K.size) fun e=>by have:=O.key k e;omega).trans (K.get k hk)⟩ (by rw [show encB (acc++[c])=encB acc++[.int .u8 c.toNat] by simp [encB]];exact q2) (fun k hk=>by
  rcases q5 with e | ⟨k',e,h1,h3⟩
  ·rw [e] at hk;exact Nat.lt_of_lt_of_le (hb k hk) q3
  ·rw [e] at hk;cases hk;exact h3)
 simpa using this
theorem quoted_loop {h:AH} {s:ByteArray} (hs:s.size ≤ 4096) {Q:RQ}:∀ (n i:Nat) (h':AH) (acc:List UInt8) (sv:Value),s.size - i ≤ n→i ≤ s.size→acc.length ≤ i→Kp h.size h h'→Hld 5 1 h' h.size sv (encB acc)→(∀ k,blkOf sv=some k→k < h'.size) →
  (∀ h'',Kp h.size h h''→Q (.ret (qres (quotedF s n i acc))) h'')→H27_2 (.string s) (.int .i64 i) sv h' Q:=by
 intro n
 induction n with
 | zero =>
  intro i h' acc sv hn hi ha K O hb hq
  refine X27_2_ok ?_
  unfold X27_2
  have e:¬ ((i:Int) < s.size):=by omega
  simp (disch:=first|exact dz|fail) only [e,SXB,SX,simprocAttr]
  exact hq _ K
 | succ n ih =>
  intro i h' acc sv hn hi ha K O hb hq
  refine X27_2_ok ?_
  unfold X27_2
  unfold quotedF at hq
  by_cases hlt:i < s.size
  ·have e:(i:Int) < s.size:=by omega
   rw [if_pos hlt] at hq
   have hl:i < s.data.toList.length:=by rw [← size_list rfl];exact hlt
   have hc:s.data.toList[i]?=some s[i]!:=by
    rw [List.getElem?_eq_getElem hl,get_bang rfl (List.getElem?_eq_getElem hl)]
   have e0:=ixS_at rfl hc
   simp only at hq
   generalize s[i]! = c at hc e0 hq
   have u1:=u_eq c 34 (by omega)
   have u2:=u_eq c 92 (by omega)
   have u3:=u_lt32 c
   have u4:=u_gt126 c
   have u5:((c.toNat:Int) != 92) = !(c == 92):=by show (!((c.toNat:Int) == 92))=_;rw [show ((c.toNat:Int) == 92)=(c == 92) from u2]
   have w1:IntKind.i64.wrap ((i:Int) + 1)=((i + 1:Nat):Int):=by rw [wrap64 (by omega) (by omega)];omega
   by_cases c1:(c == 34)=true
   ·rw [if_pos c1] at hq
    have u1':((c.toNat:Int) == 34)=true:=u1.trans c1
    have hcv:=b2s O
    simp (disch:=first|exact dz|fail) only [e,e0,u1',hcv,SXB,SX,simprocAttr]
    have:=hq h' K
    simpa [qres] using this
   ·rw [if_neg c1] at hq
    have u1':((c.toNat:Int) == 34)=false:=u1.trans (by simpa using c1)
    by_cases c2:(decide (c < 32) || decide (126 < c))=true
    ·rw [if_pos c2] at hq
     rcases Bool.or_eq_true _ _ ▸ c2 with c3 | c3
     ·have u3':(c.toNat:Int) < 32:=of_decide_eq_true (u3.trans c3)
      simp (disch:=first|exact dz|fail) only [e,e0,u1',u3',SXB,SX,simprocAttr]
      exact hq _ K
     ·have u4':(c.toNat:Int) > 126:=of_decide_eq_true (u4.trans c3)
      have u3':¬ ((c.toNat:Int) < 32):=by omega
      simp (disch:=first|exact dz|fail) only [e,e0,u1',u3',u4',SXB,SX,simprocAttr]
      exact hq _ K
    ·rw [if_neg c2] at hq
     simp only [Bool.or_eq_true,decide_eq_true_eq,not_or] at c2
     have u3':¬ ((c.toNat:Int) < 32):=fun hh=>by
      have:=u3;rw [decide_eq_true hh] at this;exact c2.1 (of_decide_eq_true this.symm)
     have u4':¬ ((c.toNat:Int) > 126):=fun hh=>by
      have:=u4;rw [decide_eq_true hh] at this;exact c2.2 (of_decide_eq_true this.symm)
     by_cases c5:(c == 92)=true
     ·rw [if_pos c5] at hq
      have u5':((c.toNat:Int) != 92)=false:=by rw [u5,c5];rfl
      simp (disch:=first|exact dz|fail) only [e,e0,u1',u3',u4',u5',w1,SXB,SX,simprocAttr]
      by_cases hlt2:i + 1 < s.size
      ·rw [if_pos hlt2] at hq
       have e3:(((i + 1:Nat):Int) == (s.size:Nat))=false:=by simp;omega
       have hl2:i + 1 < s.data.toList.length:=by rw [← size_list rfl];exact hlt2
       have hc2:s.data.toList[i + 1]?=some s[i + 1]!:=by
        rw [List.getElem?_eq_getElem hl2,get_bang rfl (List.getElem?_eq_getElem hl2)]
       have e4:=ixS_at rfl hc2
       generalize s[i + 1]! = c' at hc2 e4 hq
       simp (disch:=first|exact dz|fail) only [e3,e4,SXB,SX,simprocAttr]
       refine HC.exact (indexByte_ok _ c') ?_
       cases hesc:esc c' with
       | none =>
        rw [hesc] at hq
        rw [esc_none c' hesc]
        simp (disch:=first|exact dz|fail) only [SXB,SX,simprocAttr]
        exact hq _ K
       | some d =>
        rw [hesc] at hq
        simp only at hq
        obtain ⟨j,hj1,hj2⟩:=esc_some c' d hesc
        rw [hj1]
        have e5:=ixS_at rfl hj2
        have e6:¬ ((j:Int) < 0):=by omega
        have e7:bdF #[Value.int .u8 0] [(0,1,.int .u8 d.toNat)]=some #[.int .u8 d.toNat]:=bdF_one rfl rfl
        simp (disch:=first|exact dz|fail) only [e5,e6,e7,SXB,SX,simprocAttr]
        refine push_step hs hlt2 (by omega) K O hb fun h2 sv2 K2 O2 hb2=>?_
        exact ih (i + 2) h2 (acc++[d]) sv2 (by omega) (by omega) (by simp;omega) K2 O2 hb2 hq
      ·rw [if_neg hlt2] at hq
       have e3:(((i + 1:Nat):Int) == (s.size:Nat))=true:=by simp;omega
       simp (disch:=first|exact dz|fail) only [e3,SXB,SX,simprocAttr]
       exact hq _ K
     ·rw [if_neg c5] at hq
      have u5':((c.toNat:Int) != 92)=true:=by rw [u5,Bool.eq_false_iff.mpr c5];rfl
      simp (disch:=first|exact dz|fail) only [e,e0,u1',u3',u4',u5',w1,SXB,SX,simprocAttr]
      refine push_step hs hlt ha K O hb fun h2 sv2 K2 O2 hb2=>?_
      exact ih (i + 1) h2 (acc++[c]) sv2 (by omega) (by omega) (by simp;omega) K2 O2 hb2 hq
  ·have e:¬ ((i:Int) < s.size):=by omega
   rw [if_neg hlt] at hq
   simp (disch:=first|exact dz|fail) only [e,SXB,SX,simprocAttr]
   exact hq _ K
theorem quoted_ok {h:AH} {s:ByteArray} (hs:s.size ≤ 4096) {n i:Nat} (hn:s.size - i ≤ n) (hi:i ≤ s.size) {Q:RQ} (hq:∀ h',Kp h.size h h'→Q (.ret (qres (quotedF s n i []))) h'):HC Tryz.prog 27 [.string s,.int .i64 i].toArray h Q:=by
 refine X27_ok ?_
 unfold X27
 exact quoted_loop hs n i h [] (.slice none 0 0) hn hi (Nat.zero_le _) (.refl _ _) .nil (fun k hk=>nomatch hk) hq
end Go.Proofs.YtibigfkeaemanaaGreatDoor.L
end
section
namespace Go.Proofs.YtibigfkeaemanaaGreatDoor.L
open Go.Ab Go.Lang Go.Proofs.YtibigfkeaemanaaGreatDoor.X
set_option maxRecDepth 100000
def letC (f t c:UInt8):UInt8:=if f ≤ c && c < f + 26 then c - f + t else c
theorem letters_eq (s:ByteArray) (f t:UInt8):lettersV s f t=⟨(s.data.toList.map (letC f t)).toArray⟩:=by
 unfold lettersV
 congr 1
 apply Array.ext'
 simp [letC]
theorem b2s_row {h:AH} {k:Nat} {l:List UInt8} {e:Nat} {fz:Nat × Nat} {so:Option Nat} (hg:h.get k=some (.cells (encB l).toArray e fz,so)):convV Tryz.prog 80 9 (.slice (some ⟨k,0,none⟩) l.length l.length) h=some (.string ⟨l.toArray⟩,h):=by
 have hb:opB2S h (.slice (some ⟨k,0,none⟩) l.length l.length)=some (.string ⟨l.toArray⟩):=by
  have hll:(encB l).length=l.length:=by simp [encB]
  unfold opB2S
  simp only
  by_cases h0:l.length=0
  ·rw [if_pos h0]
   have:l=[]:=List.eq_nil_of_length_eq_zero h0
   subst this
   rfl
  ·have hcells:opCells h ⟨k,0,none⟩ l.length=some (encB l).toArray:=by
    unfold opCells
    simp [hg,hll]
    exact List.take_of_length_le (by rw [hll];exact Nat.le_refl _)
   rw [if_neg h0,hcells]
   simp only [intsOf_encB]
   congr 2
   refine Go.WideShapes.bytes_inj ?_
   rw [fold_push]
   show ([]:List UInt8)++l=_
   simp
 have e:convV Tryz.prog 80 9 (.slice (some ⟨k,0,none⟩) l.length l.length) h=(opB2S h (.slice (some ⟨k,0,none⟩) l.length l.length)).map fun v=>(v,h):=by
  unfold convV
  have:absConvert Tryz.prog 80 9 (.slice (some ⟨k,0,none⟩) l.length l.length) h=valH h (opB2S h (.slice (some ⟨k,0,none⟩) l.length l.length)):=by kernel_rfl
  rw [this]
  cases opB2S h (.slice (some ⟨k,0,none⟩) l.length l.length) <;> rfl
 rw [e,hb];rfl
theorem letters_loop {h:AH} {f t:UInt8} (hf:f.toNat + 26 < 256) (ht:t.toNat + 26 < 256) {l:List UInt8} (hlen:l.length ≤ 4611686018427387904) {Q:RQ} (hq:∀ h2,Kp h.size h h2→Q (.ret (.string ⟨(l.map (letC f t)).toArray⟩)) h2) :
  ∀ (r:List UInt8) (i:Nat) (h1:AH),l.drop i=r→i ≤ l.length→Kp h.size h h1→h.size < h1.size→h1.get h.size=some (.cells (encB ((l.take i).map (letC f t)++l.drop i)).toArray 5 (0,0),some 1) →
  H57_3 (.int .u8 f.toNat) (.int .u8 t.toNat) (.slice (some ⟨h.size,0,none⟩) l.length l.length) (.slice (some ⟨h.size,0,none⟩) l.length l.length) (.int .i64 l.length) (.int .i64 i) h1 Q:=by
 intro r
 induction r with
 | nil =>
  intro i h1 hd hi K hlt hg
  have:=drop_nil hd
  have hi':i=l.length:=by omega
  subst hi'
  refine X57_3_ok ?_
  unfold X57_3
  have e:¬ ((l.length:Int) < l.length):=by omega
  rw [List.take_of_length_le (Nat.le_refl _),List.drop_of_length_le (Nat.le_refl _),List.append_nil] at hg
  have eb:=b2s_row hg
  rw [List.length_map] at eb
  simp (disch:=first|exact dz|fail) only [e,eb,SXB,SX,simprocAttr]
  exact hq _ K
 | cons c r ih =>
  intro i h1 hd hi K hlt hg
  obtain ⟨h1',h2',h3'⟩:=drop_cons hd
  refine X57_3_ok ?_
  unfold X57_3
  have e:(i:Int) < l.length:=by omega
  have e1:(0:Int) ≤ (i:Int)∧(i:Int) < (l.length:Nat):=by omega
  have hlt':((l.take i).map (letC f t)).length=i:=by simp;omega
  have eg:((encB ((l.take i).map (letC f t)++l.drop i)).toArray)[i]?=some (.int .u8 c.toNat):=by
   rw [List.getElem?_toArray]
   unfold encB
   rw [List.getElem?_map,List.getElem?_append_right (by omega),hlt',Nat.sub_self,hd]
   rfl
  have hc:=UInt8.toNat_lt c
  have ef:IntKind.u8.wrap ((f.toNat:Int) + 26)=((f.toNat + 26:Nat):Int):=by rw [wrap8 (by omega) (by omega)];omega
  have hstep:∀ h2,Kp h.size h h2→h.size < h2.size→h2.get h.size=some (.cells (encB ((l.take (i + 1)).map (letC f t)++l.drop (i + 1))).toArray 5 (0,0),some 1)→K57_7 (.int .u8 f.toNat) (.int .u8 t.toNat) (.slice (some ⟨h.size,0,none⟩) l.length l.length) (.slice (some ⟨h.size,0,none⟩) l.length l.length) (.int .i64 l.length) (.int .i64 i) h2 Q:=by
   intro h2 K2 hlt2 hg2
   refine X57_7_ok ?_
   unfold X57_7
   simp (disch:=first|exact dz|fail) only [SXB,SX,simprocAttr]
   exact ih (i + 1) h2 h2' (by omega) K2 hlt2 hg2
  have erow:(l.take (i + 1)).map (letC f t)++l.drop (i + 1)=(l.take i).map (letC f t)++(letC f t c::l.drop (i + 1)):=by
   rw [List.take_add_one,h1'];simp
  have eff:(f + 26).toNat=f.toNat + 26:=by rw [UInt8.toNat_add];have:(26:UInt8).toNat=26:=rfl;omega
  by_cases hge:f.toNat ≤ c.toNat∧c.toNat < f.toNat + 26
  ·have e2:(c.toNat:Int) ≥ (f.toNat:Nat):=by omega
   have e3:(c.toNat:Int) < ((f.toNat + 26:Nat):Int):=by omega
   have hl:letC f t c=c - f + t:=by
    unfold letC
    rw [if_pos]
    simp only [Bool.and_eq_true,decide_eq_true_eq,UInt8.le_iff_toNat_le,UInt8.lt_iff_toNat_lt,eff]
    exact hge
   have en:(letC f t c).toNat=c.toNat - f.toNat + t.toNat:=by
    rw [hl,UInt8.toNat_add,UInt8.toNat_sub_of_le _ _ (by rw [UInt8.le_iff_toNat_le];exact hge.1)]
    omega
   have e4:IntKind.u8.wrap ((c.toNat:Int) - (f.toNat:Nat))=((c.toNat - f.toNat:Nat):Int):=by rw [wrap8 (by omega) (by omega)];omega
   have e5:IntKind.u8.wrap (((c.toNat - f.toNat:Nat):Int) + (t.toNat:Nat))=(((letC f t c).toNat:Nat):Int):=by rw [wrap8 (by omega) (by omega),en];omega
   generalize hs1:stN 1=s1
   simp (disch:=first|exact dz|fail) only [e,e1,hg,eg,ef,e2,e3,e4,e5,SXB,SX,simprocAttr]
   subst hs1
   have hst:=stN_mid (n:=1) (k:=h.size) (off:=i) (h:=h1) (a:=encB ((l.take i).map (letC f t))) (b:=encB [c]) (c:=encB (l.drop (i + 1))) (v:=.int .u8 ((letC f t c).toNat:Nat)) (e:=5) (s:=some 1) (by
     rw [hg];congr 4
     unfold encB
     rw [List.map_append,hd,h2']
     simp) (by unfold encB;simp;omega) rfl rfl (fun z hz=>by simp [Value.cells] at hz;subst hz;rfl)
   refine bq_of hst ?_
   refine hstep _ ?_ ?_ ?_
   ·(repeat (first | exact Kp.refl _ _ | assumption | refine Kp.push ?_ _ _ (by first | omega | (simp only [sz_push,sz_put];omega)) | refine Kp.put ?_ _ _ (by first | omega | (simp only [sz_push,sz_put];omega))))
   ·simpa using hlt
   ·rw [get_put_eq rfl,erow]
    unfold encB
    simp [Value.cells]
  ·have hl:letC f t c=c:=by
    unfold letC
    rw [if_neg]
    simp only [Bool.and_eq_true,decide_eq_true_eq,UInt8.le_iff_toNat_le,UInt8.lt_iff_toNat_lt,eff]
    exact hge
   have hg2:h1.get h.size=some (.cells (encB ((l.take (i + 1)).map (letC f t)++l.drop (i + 1))).toArray 5 (0,0),some 1):=by
    rw [hg,erow,hl,hd,h2']
   by_cases h2:f.toNat ≤ c.toNat
   ·have e2:(c.toNat:Int) ≥ (f.toNat:Nat):=by omega
    have e3:¬ (c.toNat:Int) < ((f.toNat + 26:Nat):Int):=by omega
    simp (disch:=first|exact dz|fail) only [e,e1,hg,eg,ef,e2,e3,SXB,SX,simprocAttr]
    exact hstep _ K hlt hg2
   ·have e2:¬ (c.toNat:Int) ≥ (f.toNat:Nat):=by omega
    simp (disch:=first|exact dz|fail) only [e,e1,hg,eg,ef,e2,SXB,SX,simprocAttr]
    exact hstep _ K hlt hg2
theorem letters_ok {h:AH} {f t:UInt8} (hf:f.toNat + 26 < 256) (ht:t.toNat + 26 < 256) (s:ByteArray) (hs:s.size ≤ 4611686018427387904):Ex Tryz.prog 57 [.string s,.int .u8 f.toNat,.int .u8 t.toNat].toArray h (.string (lettersV s f t)) h:=by
 refine Ex.pureF (.string _) (X57_ok ?_)
 unfold X57
 have e:=s2b (h:=h) (s:=s)
 have hl:s.data.toList.length=s.size:=by rw [Array.length_toList];rfl
 simp (disch:=first|exact dz|fail) only [e,SXB,SX,simprocAttr]
 rw [letters_eq]
 rw [← hl]
 refine letters_loop (h:=h) hf ht (l:=s.data.toList) (by omega) (fun h2 K=>⟨rfl,K⟩) s.data.toList 0 _ rfl (by omega) ?_ ?_ ?_
 ·(repeat (first | exact Kp.refl _ _ | assumption | refine Kp.push ?_ _ _ (by first | omega | (simp only [sz_push,sz_put];omega)) | refine Kp.put ?_ _ _ (by first | omega | (simp only [sz_push,sz_put];omega))))
 ·simp (disch:=first|exact dz|fail) only [SXB,SX,simprocAttr]
  omega
 ·rw [get_push_eq rfl]
  unfold encB
  simp
  apply Array.ext'
  simp
end Go.Proofs.YtibigfkeaemanaaGreatDoor.L
end
section
namespace Go.Proofs.YtibigfkeaemanaaGreatDoor.L
open Go.Ab Go.Lang Go.Proofs.YtibigfkeaemanaaGreatDoor.X
set_option maxRecDepth 100000
theorem i3:((3:Nat):Int)=3:=rfl
theorem e_o_number {x:ByteArray}:(x.toList == (ByteArray.mk #[110,117,109,98,101,114]).toList)=eqT x o_number:=rfl
theorem e_o_string {x:ByteArray}:(x.toList == (ByteArray.mk #[115,116,114,105,110,103]).toList)=eqT x o_string:=rfl
theorem e_o_var {x:ByteArray}:(x.toList == (ByteArray.mk #[118,97,114]).toList)=eqT x o_var:=rfl
theorem e_o_add {x:ByteArray}:(x.toList == (ByteArray.mk #[97,100,100]).toList)=eqT x o_add:=rfl
theorem e_o_sub {x:ByteArray}:(x.toList == (ByteArray.mk #[115,117,98]).toList)=eqT x o_sub:=rfl
theorem e_o_mul {x:ByteArray}:(x.toList == (ByteArray.mk #[109,117,108]).toList)=eqT x o_mul:=rfl
theorem e_o_div {x:ByteArray}:(x.toList == (ByteArray.mk #[100,105,118]).toList)=eqT x o_div:=rfl
theorem e_o_lt {x:ByteArray}:(x.toList == (ByteArray.mk #[108,116]).toList)=eqT x o_lt:=rfl
theorem e_o_not {x:ByteArray}:(x.toList == (ByteArray.mk #[110,111,116]).toList)=eqT x o_not:=rfl
theorem e_o_and {x:ByteArray}:(x.toList == (ByteArray.mk #[97,110,100]).toList)=eqT x o_and:=rfl
theorem e_o_or {x:ByteArray}:(x.toList == (ByteArray.mk #[111,114]).toList)=eqT x o_or:=rfl
theorem e_o_sum {x:ByteArray}:(x.toList == (ByteArray.mk #[115,117,109]).toList)=eqT x o_sum:=rfl
theorem e_o_max {x:ByteArray}:(x.toList == (ByteArray.mk #[109,97,120]).toList)=eqT x o_max:=rfl
theorem e_o_min {x:ByteArray}:(x.toList == (ByteArray.mk #[109,105,110]).toList)=eqT x o_min:=rfl
theorem e_o_count {x:ByteArray}:(x.toList == (ByteArray.mk #[99,111,117,110,116]).toList)=eqT x o_count:=rfl
theorem e_o_first {x:ByteArray}:(x.toList == (ByteArray.mk #[102,105,114,115,116]).toList)=eqT x o_first:=rfl
theorem e_o_last {x:ByteArray}:(x.toList == (ByteArray.mk #[108,97,115,116]).toList)=eqT x o_last:=rfl
theorem e_o_join {x:ByteArray}:(x.toList == (ByteArray.mk #[106,111,105,110]).toList)=eqT x o_join:=rfl
theorem e_o_len {x:ByteArray}:(x.toList == (ByteArray.mk #[108,101,110]).toList)=eqT x o_len:=rfl
theorem e_o_num {x:ByteArray}:(x.toList == (ByteArray.mk #[110,117,109]).toList)=eqT x o_num:=rfl
theorem e_o_text {x:ByteArray}:(x.toList == (ByteArray.mk #[116,101,120,116]).toList)=eqT x o_text:=rfl
theorem e_o_cat {x:ByteArray}:(x.toList == (ByteArray.mk #[99,97,116]).toList)=eqT x o_cat:=rfl
theorem e_o_cut {x:ByteArray}:(x.toList == (ByteArray.mk #[99,117,116]).toList)=eqT x o_cut:=rfl
theorem e_o_upper {x:ByteArray}:(x.toList == (ByteArray.mk #[117,112,112,101,114]).toList)=eqT x o_upper:=rfl
theorem e_o_lower {x:ByteArray}:(x.toList == (ByteArray.mk #[108,111,119,101,114]).toList)=eqT x o_lower:=rfl
theorem e_o_eq {x:ByteArray}:(x.toList == (ByteArray.mk #[101,113]).toList)=eqT x o_eq:=rfl
theorem e_o_less {x:ByteArray}:(x.toList == (ByteArray.mk #[108,101,115,115]).toList)=eqT x o_less:=rfl
theorem e_o_emit {x:ByteArray}:(x.toList == (ByteArray.mk #[101,109,105,116]).toList)=eqT x o_emit:=rfl
theorem e_o_let {x:ByteArray}:(x.toList == (ByteArray.mk #[108,101,116]).toList)=eqT x o_let:=rfl
theorem e_o_if {x:ByteArray}:(x.toList == (ByteArray.mk #[105,102]).toList)=eqT x o_if:=rfl
theorem e_o_each {x:ByteArray}:(x.toList == (ByteArray.mk #[101,97,99,104]).toList)=eqT x o_each:=rfl
theorem e_o_for {x:ByteArray}:(x.toList == (ByteArray.mk #[102,111,114]).toList)=eqT x o_for:=rfl
def textsV (op:ByteArray) (a b c:V):V :=
 if eqT op o_len then { n:=boundV a.t.size }
 else if eqT op o_num then { n:=parseV a.t }
 else if eqT op o_text then { t:=itoaB a.n }
 else if eqT op o_cat then { t:=cellV (cellV a.t++cellV b.t) }
 else if eqT op o_cut then (let f:=min (max b.n 0) a.t.size;let k:=min (max c.n 0) (a.t.size - f);{ t:=cellV (a.t.extract f.toNat (f.toNat + k.toNat)) })
 else if eqT op o_upper then { t:=lettersV (cellV a.t) 97 65 }
 else if eqT op o_lower then { t:=lettersV (cellV a.t) 65 97 }
 else if eqT op o_eq then { n:=bitV (eqT a.t b.t) }
 else if eqT op o_less then { n:=bitV (ltV a.t.data.toList b.t.data.toList) }
 else {}
structure VOK (M:Nat) (x:V):Prop where
 n:NumOK x.n
 t:x.t.size ≤ M
 l:∀ s ∈ x.l,s.size ≤ M
 len:x.l.length ≤ 1099511627776
theorem cell_size (s:ByteArray):(cellV s).size ≤ 4096:=by unfold cellV;rw [ByteArray.size_extract];omega
theorem less_eq:∀ (a b:List UInt8),Op.bytesLess a b=ltV a b
 | [],[]=>by unfold Op.bytesLess ltV;rfl
 | [],_::_=>by unfold Op.bytesLess ltV;rfl
 | _::_,[]=>by unfold Op.bytesLess ltV;rfl
 | a::l,b::m=>by unfold Op.bytesLess ltV;rw [less_eq l m]
theorem texts_ok {h:AH} (T:Tab h) (op:ByteArray) {a b c:V} {s0 s1 s2:Value} (hs0:s0.oneCell' = true) (hs1:s1.oneCell' = true) (hs2:s2.oneCell' = true) (ha:NumOK a.n) (hta:a.t.size ≤ 4611686018427387904) (hb:NumOK b.n) (hc:NumOK c.n) :
  Ex Tryz.prog 44 [.string op,.agg #[.int .i64 a.n,.string a.t,s0,.int .i64 b.n,.string b.t,s1,.int .i64 c.n,.string c.t,s2]].toArray h (encN (textsV op a b c)) h:=by
 refine Ex.pureF (below_encN _ _) (X44_ok ?_)
 generalize hq0:(fun (r:Res) (h₁:AH)=>r=Res.ret (encN (textsV op a b c))∧Kp h.size h h₁)=Q
 have hq:∀ h2,Kp h.size h h2→Q (.ret (encN (textsV op a b c))) h2:=fun h2 K=>by rw [← hq0];exact ⟨rfl,K⟩
 clear hq0
 unfold textsV at hq
 unfold X44
 simp only [new1,new2,cells_agg]
 obtain ⟨h1,hh⟩:∃ h1,h1=(h.push (.cells #[.int .i64 a.n,.string a.t,s0,.int .i64 b.n,.string b.t,s1,.int .i64 c.n,.string c.t,s2] 95 (0,0)) none).push (.cells #[.int .i64 0,.string ⟨#[]⟩,.slice none 0 0] 68 (0,0)) none:=⟨_,rfl⟩
 rw [← hh]
 have g3:h1.get h.size=some (.cells #[.int .i64 a.n,.string a.t,s0,.int .i64 b.n,.string b.t,s1,.int .i64 c.n,.string c.t,s2] 95 (0,0),none):=by rw [hh,get_push_ne (by simp)];exact get_push_eq rfl
 have g4:h1.get (h.push (.cells #[.int .i64 a.n,.string a.t,s0,.int .i64 b.n,.string b.t,s1,.int .i64 c.n,.string c.t,s2] 95 (0,0)) none).size=some (.cells #[.int .i64 0,.string ⟨#[]⟩,.slice none 0 0] 68 (0,0),none):=by rw [hh];exact get_push_eq rfl
 have K:Kp h.size h h1:=by rw [hh];(repeat (first | exact Kp.refl _ _ | assumption | refine Kp.push ?_ _ _ (by first | omega | (simp only [sz_push,sz_put];omega)) | refine Kp.put ?_ _ _ (by first | omega | (simp only [sz_push,sz_put];omega))))
 rw [sz_push] at g4 ⊢
 clear hh
 have T:=T.kp K
 simp (disch:=first|exact dz|fail) only [g3,i3,e_o_len,SXB,SX,simprocAttr]
 cases h_o_len:eqT op o_len with
 | true =>
  rw [h_o_len,if_pos rfl] at hq
  simp (disch:=first|exact dz|fail) only [SXB,SX,simprocAttr]
  refine HC.exact (bound_ok _) ?_
  simp (disch:=first|exact dz|fail) only [g4,SXB,SX,simprocAttr]
  refine hq _ ?_
  (repeat (first | exact Kp.refl _ _ | assumption | refine Kp.push ?_ _ _ (by first | omega | (simp only [sz_push,sz_put];omega)) | refine Kp.put ?_ _ _ (by first | omega | (simp only [sz_push,sz_put];omega))))
 | false =>
 rw [h_o_len,if_neg Bool.false_ne_true] at hq
 simp (disch:=first|exact dz|fail) only [g3,i3,e_o_num,SXB,SX,simprocAttr]
 cases h_o_num:eqT op o_num with
 | true =>
  rw [h_o_num,if_pos rfl] at hq
  simp (disch:=first|exact dz|fail) only [SXB,SX,simprocAttr]
  refine HC.exact (eparse_ok _ hta) ?_
  simp (disch:=first|exact dz|fail) only [g4,SXB,SX,simprocAttr]
  refine hq _ ?_
  (repeat (first | exact Kp.refl _ _ | assumption | refine Kp.push ?_ _ _ (by first | omega | (simp only [sz_push,sz_put];omega)) | refine Kp.put ?_ _ _ (by first | omega | (simp only [sz_push,sz_put];omega))))
 | false =>
 rw [h_o_num,if_neg Bool.false_ne_true] at hq
 simp (disch:=first|exact dz|fail) only [g3,i3,e_o_text,SXB,SX,simprocAttr]
 cases h_o_text:eqT op o_text with
 | true =>
  rw [h_o_text,if_pos rfl] at hq
  simp (disch:=first|exact dz|fail) only [g3,i3,SXB,SX,simprocAttr]
  refine HC.exact (itoa_ok T ha) ?_
  simp (disch:=first|exact dz|fail) only [g4,SXB,SX,simprocAttr]
  refine hq _ ?_
  (repeat (first | exact Kp.refl _ _ | assumption | refine Kp.push ?_ _ _ (by first | omega | (simp only [sz_push,sz_put];omega)) | refine Kp.put ?_ _ _ (by first | omega | (simp only [sz_push,sz_put];omega))))
 | false =>
 rw [h_o_text,if_neg Bool.false_ne_true] at hq
 simp (disch:=first|exact dz|fail) only [g3,i3,e_o_cat,SXB,SX,simprocAttr]
 cases h_o_cat:eqT op o_cat with
 | true =>
  rw [h_o_cat,if_pos rfl] at hq
  simp (disch:=first|exact dz|fail) only [g3,i3,SXB,SX,simprocAttr]
  refine HC.exact (cell_ok _) ?_
  simp (disch:=first|exact dz|fail) only [g3,i3,SXB,SX,simprocAttr]
  refine HC.exact (cell_ok _) ?_
  have e1:=cell_size a.t
  have e2:=cell_size b.t
  simp (disch:=first|exact dz|fail) only [g3,i3,bin_add_9 (show (cellV a.t).size + (cellV b.t).size ≤ 9223372036854775807 by omega),SXB,SX,simprocAttr]
  refine HC.exact (cell_ok _) ?_
  simp (disch:=first|exact dz|fail) only [g4,SXB,SX,simprocAttr]
  refine hq _ ?_
  (repeat (first | exact Kp.refl _ _ | assumption | refine Kp.push ?_ _ _ (by first | omega | (simp only [sz_push,sz_put];omega)) | refine Kp.put ?_ _ _ (by first | omega | (simp only [sz_push,sz_put];omega))))
 | false =>
 rw [h_o_cat,if_neg Bool.false_ne_true] at hq
 simp (disch:=first|exact dz|fail) only [g3,i3,e_o_cut,SXB,SX,simprocAttr]
 cases h_o_cut:eqT op o_cut with
 | true =>
  rw [h_o_cut,if_pos rfl] at hq
  have hlf:(min (max b.n 0) (a.t.size:Int))=(((min (max b.n 0) (a.t.size:Int)).toNat:Nat):Int):=by omega
  generalize hF:(min (max b.n 0) (a.t.size:Int)).toNat=F at hlf
  have hFs:F ≤ a.t.size:=by omega
  have hlk:(min (max c.n 0) ((a.t.size:Int) - F))=(((min (max c.n 0) ((a.t.size:Int) - F)).toNat:Nat):Int):=by omega
  have ew:IntKind.i64.wrap ((a.t.size:Int) - (F:Nat))=(a.t.size:Int) - F:=wrap64 (by omega) (by omega)
  simp only [hlf] at hq
  generalize hG:(min (max c.n 0) ((a.t.size:Int) - F)).toNat=G at hlk
  have hGs:F + G ≤ a.t.size:=by omega
  simp only [hlk,Int.toNat_natCast] at hq
  simp (disch:=first|exact dz|fail) only [g3,i3,max_ite,min_ite,hlf,ew,hlk,SXB,SX,simprocAttr]
  refine bq_of (by rw [show ((F:Nat):Int) + ((G:Nat):Int)=((F + G:Nat):Int) by omega];exact sub_mid (show F ≤ F + G by omega) hGs) ?_
  refine HC.exact (cell_ok _) ?_
  simp (disch:=first|exact dz|fail) only [g4,SXB,SX,simprocAttr]
  refine hq _ ?_
  (repeat (first | exact Kp.refl _ _ | assumption | refine Kp.push ?_ _ _ (by first | omega | (simp only [sz_push,sz_put];omega)) | refine Kp.put ?_ _ _ (by first | omega | (simp only [sz_push,sz_put];omega))))
 | false =>
 rw [h_o_cut,if_neg Bool.false_ne_true] at hq
 simp (disch:=first|exact dz|fail) only [g3,i3,e_o_upper,SXB,SX,simprocAttr]
 cases h_o_upper:eqT op o_upper with
 | true =>
  rw [h_o_upper,if_pos rfl] at hq
  simp (disch:=first|exact dz|fail) only [g3,i3,SXB,SX,simprocAttr]
  refine HC.exact (cell_ok _) ?_
  have e1:=cell_size a.t
  refine HC.exact (letters_ok (f:=97) (t:=65) (by decide) (by decide) _ (by omega)) ?_
  simp (disch:=first|exact dz|fail) only [g4,SXB,SX,simprocAttr]
  refine hq _ ?_
  (repeat (first | exact Kp.refl _ _ | assumption | refine Kp.push ?_ _ _ (by first | omega | (simp only [sz_push,sz_put];omega)) | refine Kp.put ?_ _ _ (by first | omega | (simp only [sz_push,sz_put];omega))))
 | false =>
 rw [h_o_upper,if_neg Bool.false_ne_true] at hq
 simp (disch:=first|exact dz|fail) only [g3,i3,e_o_lower,SXB,SX,simprocAttr]
 cases h_o_lower:eqT op o_lower with
 | true =>
  rw [h_o_lower,if_pos rfl] at hq
  simp (disch:=first|exact dz|fail) only [g3,i3,SXB,SX,simprocAttr]
  refine HC.exact (cell_ok _) ?_
  have e1:=cell_size a.t
  refine HC.exact (letters_ok (f:=65) (t:=97) (by decide) (by decide) _ (by omega)) ?_
  simp (disch:=first|exact dz|fail) only [g4,SXB,SX,simprocAttr]
  refine hq _ ?_
  (repeat (first | exact Kp.refl _ _ | assumption | refine Kp.push ?_ _ _ (by first | omega | (simp only [sz_push,sz_put];omega)) | refine Kp.put ?_ _ _ (by first | omega | (simp only [sz_push,sz_put];omega))))
 | false =>
 rw [h_o_lower,if_neg Bool.false_ne_true] at hq
 simp (disch:=first|exact dz|fail) only [g3,i3,e_o_eq,SXB,SX,simprocAttr]
 cases h_o_eq:eqT op o_eq with
 | true =>
  rw [h_o_eq,if_pos rfl] at hq
  simp (disch:=first|exact dz|fail) only [g3,i3,SXB,SX,simprocAttr]
  refine HC.exact (bit_ok _) ?_
  simp (disch:=first|exact dz|fail) only [g4,SXB,SX,simprocAttr]
  refine hq _ ?_
  (repeat (first | exact Kp.refl _ _ | assumption | refine Kp.push ?_ _ _ (by first | omega | (simp only [sz_push,sz_put];omega)) | refine Kp.put ?_ _ _ (by first | omega | (simp only [sz_push,sz_put];omega))))
 | false =>
 rw [h_o_eq,if_neg Bool.false_ne_true] at hq
 simp (disch:=first|exact dz|fail) only [g3,i3,e_o_less,SXB,SX,simprocAttr]
 cases h_o_less:eqT op o_less with
 | true =>
  rw [h_o_less,if_pos rfl] at hq
  simp (disch:=first|exact dz|fail) only [g3,i3,SXB,SX,simprocAttr]
  refine HC.exact (bit_ok _) ?_
  rw [less_eq,Lib.toList_data,Lib.toList_data]
  simp (disch:=first|exact dz|fail) only [g4,SXB,SX,simprocAttr]
  refine hq _ ?_
  (repeat (first | exact Kp.refl _ _ | assumption | refine Kp.push ?_ _ _ (by first | omega | (simp only [sz_push,sz_put];omega)) | refine Kp.put ?_ _ _ (by first | omega | (simp only [sz_push,sz_put];omega))))
 | false =>
 rw [h_o_less,if_neg Bool.false_ne_true] at hq
 simp (disch:=first|exact dz|fail) only [g4,SXB,SX,simprocAttr]
 refine hq _ ?_
 (repeat (first | exact Kp.refl _ _ | assumption | refine Kp.push ?_ _ _ (by first | omega | (simp only [sz_push,sz_put];omega)) | refine Kp.put ?_ _ _ (by first | omega | (simp only [sz_push,sz_put];omega))))
end Go.Proofs.YtibigfkeaemanaaGreatDoor.L
end
section
namespace Go.Proofs.YtibigfkeaemanaaGreatDoor.L
open Go.Ab Go.Lang Go.Proofs.YtibigfkeaemanaaGreatDoor.X
set_option maxRecDepth 100000
theorem slOne {s:Value} {l:List Value} (h:Sl s l):s.oneCell' = true:=by cases h <;> rfl
theorem slBelow {n:Nat} {s:Value} {l:List ByteArray} (h:Sl s (strL l)):Below n s:=by
 generalize he:strL l=v at h
 cases h with
 | nil=>exact .nilSlice 0 0
 | vs =>
  subst he
  refine .vs fun v hv=>?_
  unfold strL at hv
  obtain ⟨w,hw,hv⟩:=List.mem_flatMap.1 hv
  obtain ⟨t,_,rfl⟩:=List.mem_map.1 hw
  simp [Value.cells] at hv
  subst hv
  exact .string _
theorem VR.below {n:Nat} {v:Value} {x:V} (h:VR v x):Below n v:=by
 obtain ⟨s,hs,rfl⟩:=h
 refine .agg fun v hv=>?_
 simp at hv
 rcases hv with rfl | rfl | rfl
 ·exact .int _ _
 ·exact .string _
 ·exact slBelow hs
theorem VR.size {v:Value} {x:V} (h:VR v x):v.cells.size=3:=by obtain ⟨s,hs,rfl⟩:=h;rfl
theorem VR.ones {v:Value} {x:V} (h:VR v x):∀ z ∈ v.cells.toList,z.oneCell' = true:=by
 obtain ⟨s,hs,rfl⟩:=h
 intro z hz
 simp [Value.cells] at hz
 rcases hz with rfl | rfl | rfl
 ·rfl
 ·rfl
 ·exact slOne hs
def encPair (p:ByteArray × ByteArray):Value:=.agg #[.string p.1,.string p.2]
inductive VRs:List Value→Env→Prop
 | nil:VRs [] []
 | cons {v:Value} {x:ByteArray × V} {vs:List Value} {e:Env} (h:VR v x.2) (t:VRs vs e):VRs (v::vs) (x::e)
theorem VRs.len {vs:List Value} {e:Env} (h:VRs vs e):vs.length=e.length:=by induction h <;> simp_all
theorem VRs.at_ {vs:List Value} {e:Env} (h:VRs vs e):∀ {i:Nat} {x:ByteArray × V},e[i]?=some x→∃ v,vs[i]?=some v∧VR v x.2:=by
 induction h with
 | nil=>intro i x hx;cases hx
 | cons h t ih =>
  intro i y hy
  cases i with
  | zero=>cases hy;exact ⟨_,rfl,h⟩
  | succ i=>exact ih hy
theorem VRs.size {vs:List Value} {e:Env} (h:VRs vs e):∀ v ∈ vs,v.cells.size=3:=by
 induction h with
 | nil=>intro v hv;cases hv
 | cons h t ih =>
  intro v hv
  cases hv with
  | head=>exact h.size
  | tail _ hv=>exact ih v hv
theorem VRs.append {vs ws:List Value} {e f:Env} (h:VRs vs e) (k:VRs ws f):VRs (vs++ws) (e++f):=by
 induction h with
 | nil=>exact k
 | cons h t ih=>exact .cons h ih
theorem VRs.take {vs:List Value} {e:Env} (h:VRs vs e):∀ n,VRs (vs.take n) (e.take n):=by
 induction h with
 | nil=>intro n;simp;exact .nil
 | cons h t ih =>
  intro n
  cases n with
  | zero=>exact .nil
  | succ n=>exact .cons h (ih n)
def nmL (e:Env):List Value:=e.map fun p=>.string p.1
theorem nmL_size (e:Env):∀ v ∈ nmL e,v.cells.size=1:=fun v hv=>by
 obtain ⟨t,_,rfl⟩:=List.mem_map.1 hv
 rfl
structure Tri where
 n:Value
 v:Value
 o:Value
def Tri.has (t:Tri) (k:Nat):Prop:=blkOf t.n=some k ∨ blkOf t.v=some k ∨ blkOf t.o=some k
structure EnvS (h:AH) (ke:Nat) (t:Tri) (e:Env) (o:Lang.Out):Prop where
 row:h.get ke=some (.cells #[t.n,t.v,t.o] 78 (0,0),none)
 names:Gs 9 1 h t.n (nmL e)
 vals:∃ vs,Gs 68 3 h t.v vs∧VRs vs e
 out:Gs 40 2 h t.o (o.map encPair)
 ne:¬ t.has ke
 d1:∀ k,blkOf t.n=some k→blkOf t.v ≠ some k
 d2:∀ k,blkOf t.n=some k→blkOf t.o ≠ some k
 d3:∀ k,blkOf t.v=some k→blkOf t.o ≠ some k
 lt:ke < h.size
 lts:∀ k,t.has k→k < h.size
structure AdvE (ke:Nat) (t:Tri) (h h':AH):Prop where
 size:h.size ≤ h'.size
 get:∀ k,k < h.size→k ≠ ke→¬ t.has k→h'.get k=h.get k
def Mv (h:AH) (t t':Tri):Prop:=∀ k,t'.has k→t.has k ∨ h.size ≤ k
theorem AdvE.refl (ke:Nat) (t:Tri) (h:AH):AdvE ke t h h:=⟨Nat.le_refl _,fun _ _ _ _=>rfl⟩
theorem Mv.refl (h:AH) (t:Tri):Mv h t t:=fun _ h=>.inl h
theorem Mv.trans {a b:AH} {t u w:Tri} (x:Mv a t u) (y:Mv b u w) (hs:a.size ≤ b.size):Mv a t w:=fun k hk=>by
 rcases y k hk with h | h
 ·exact x k h
 ·exact .inr (Nat.le_trans hs h)
theorem AdvE.trans {ke:Nat} {t u:Tri} {a b c:AH} (x:AdvE ke t a b) (y:AdvE ke u b c) (m:Mv a t u):AdvE ke t a c:=by
 refine ⟨Nat.le_trans x.size y.size,fun k h1 h2 h3=>?_⟩
 rw [y.get k (Nat.lt_of_lt_of_le h1 x.size) h2 fun e=>?_,x.get k h1 h2 h3]
 rcases m k e with h | h
 ·exact h3 h
 ·omega
theorem AdvE.of_kp {ke:Nat} {t:Tri} {h h':AH} (K:Kp h.size h h'):AdvE ke t h h':=⟨K.size,fun k h1 _ _=>K.get k h1⟩
theorem EnvS.keep {h h':AH} {ke:Nat} {t:Tri} {e:Env} {o:Lang.Out} (S:EnvS h ke t e o) (hs:h.size ≤ h'.size) (hg:∀ k,(k=ke ∨ t.has k)→h'.get k=h.get k):EnvS h' ke t e o:=by
 obtain ⟨vs,B,R⟩:=S.vals
 exact ⟨(hg ke (.inl rfl)).trans S.row,S.names.mono fun k hk=>hg k (.inr (.inl hk)),⟨vs,B.mono fun k hk=>hg k (.inr (.inr (.inl hk))),R⟩,S.out.mono fun k hk=>hg k (.inr (.inr (.inr hk))),S.ne,S.d1,S.d2,S.d3,Nat.lt_of_lt_of_le S.lt hs,fun k hk=>Nat.lt_of_lt_of_le (S.lts k hk) hs⟩
theorem EnvS.kp {h h':AH} {ke:Nat} {t:Tri} {e:Env} {o:Lang.Out} (S:EnvS h ke t e o) (K:Kp h.size h h'):EnvS h' ke t e o:=S.keep K.size fun k hk=>K.get k (by rcases hk with rfl | hk;exact S.lt;exact S.lts k hk)
def ExV (f:FuncId) (args:Array Value) (h:AH) (x:V):Prop:=HC Tryz.prog f args h fun r h'=>h' = h∧∃ v,r=.ret v∧VR v x
theorem ExV.pure {f:FuncId} {args:Array Value} {h:AH} {x:V} (hh:HC Tryz.prog f args h fun r h₁=>Kp h.size h h₁∧∃ v,r=.ret v∧VR v x):ExV f args h x :=
 HC.pureF (hh.mono fun r h₁ ⟨a,v,b,c⟩=>⟨a,by rw [b];exact c.below,rfl,v,b,c⟩)
theorem getV_cons (p:ByteArray × V) (e:Env) (x:ByteArray):getV (p::e) x=if eqT p.1 x then p.2 else getV e x:=by
 unfold getV
 rw [List.find?_cons]
 cases eqT p.1 x <;> rfl
theorem get_loop {h:AH} {ke:Nat} {t:Tri} {e:Env} {o:Lang.Out} (S:EnvS h ke t e o) (hlen:e.length ≤ 1099511627776) {x:ByteArray} {Q:RQ}:∀ (r:Env) (i:Nat) (h1:AH),e.drop i=r→i ≤ e.length→Kp h.size h h1→h.size < h1.size→(∃ c,h1.get h.size=some (.cells c 68 (0,0),none)∧c.size=3) →
  (∀ h2 v,Kp h.size h h2→VR v (getV r x)→Q (.ret v) h2)→H35_2 (.pointer (some ⟨ke,0,none⟩)) (.string x) (.pointer (some ⟨h.size,0,none⟩)) t.n (.int .i64 e.length) (.int .i64 i) h1 Q:=by
 intro r
 induction r with
 | nil =>
  intro i h1 hd hi K hlt ⟨c,hg,hc⟩ hq
  have:=drop_nil hd
  refine X35_2_ok ?_
  unfold X35_2
  have e:¬ ((i:Int) < e.length):=by omega
  generalize hs3:stN 3=s3
  simp (disch:=first|exact dz|fail) only [e,SXB,SX,simprocAttr]
  subst hs3
  refine bq_of (stN_full hg hc rfl (fun z hz=>by simp [Value.cells] at hz;rcases hz with rfl | rfl | rfl <;> rfl)) ?_
  simp (disch:=first|exact dz|fail) only [SXB,SX,simprocAttr]
  refine hq _ (encN {}) ?_ (VR.of rfl)
  (repeat (first | exact Kp.refl _ _ | assumption | refine Kp.push ?_ _ _ (by first | omega | (simp only [sz_push,sz_put];omega)) | refine Kp.put ?_ _ _ (by first | omega | (simp only [sz_push,sz_put];omega))))
 | cons p r ih =>
  intro i h1 hd hi K hlt ⟨c,hg,hc⟩ hq
  obtain ⟨h1',h2',h3'⟩:=drop_cons hd
  have S1:=S.kp K
  have N:=S1.names
  obtain ⟨vs,B,R⟩:=S1.vals
  have hr:=S1.row
  refine X35_2_ok ?_
  unfold X35_2
  have e1:(i:Int) < e.length:=by omega
  obtain ⟨q,q1,q2,q3⟩:=(N.rd (nmL_size e) fun k hk=>S1.lts k (.inl hk)).el i (.string p.1) (by unfold nmL;rw [List.getElem?_map,h1'];rfl)
  have q4:=q2.ld1 (by simp [Value.cells])
  rw [show (Value.string p.1).cells[0]?=some (.string p.1) from rfl] at q4
  obtain ⟨v,hv,hvr⟩:=R.at_ h1'
  obtain ⟨q',q1',q2',q3'⟩:=(B.rd R.size fun k hk=>S1.lts k (.inr (.inl hk))).el i v hv
  have q4':=q2'.ldN (n:=3) hvr.size
  have hbin:((p.1.toList == x.toList):Bool)=eqT p.1 x:=rfl
  generalize hs3:stN 3=s3
  generalize hl3:ldN 3=l3 at q4'
  simp (disch:=first|exact dz|fail) only [e1,q1,q4,hbin,SXB,SX,simprocAttr]
  rw [getV_cons] at hq
  cases he:eqT p.1 x with
  | true =>
   rw [he,if_pos rfl] at hq
   simp (disch:=first|exact dz|fail) only [hr,q1',q4',SXB,SX,simprocAttr]
   subst hs3 hl3
   refine bq_of (stN_full hg hc (by rw [cells_agg];exact hvr.size) (fun z hz=>hvr.ones z (by rw [cells_agg] at hz;exact hz))) ?_
   refine bq_of (x:=[.agg v.cells]) ?_ ?_
   ·rw [ldN_full (get_put_eq rfl) (by rw [cells_agg];exact hvr.size),seqO_cons,seqO_nil]
    rfl
   ·rw [oneOf_one]
    refine hq _ _ ?_ ?_
    ·(repeat (first | exact Kp.refl _ _ | assumption | refine Kp.push ?_ _ _ (by first | omega | (simp only [sz_push,sz_put];omega)) | refine Kp.put ?_ _ _ (by first | omega | (simp only [sz_push,sz_put];omega))))
    ·obtain ⟨s,hs,rfl⟩:=hvr
     exact ⟨s,hs,rfl⟩
  | false =>
   rw [he,if_neg Bool.false_ne_true] at hq
   subst hs3 hl3
   simp (disch:=first|exact dz|fail) only [SXB,SX,simprocAttr]
   exact ih (i + 1) h1 h2' (by omega) K hlt ⟨c,hg,hc⟩ hq
theorem get_ok {h:AH} {ke:Nat} {t:Tri} {e:Env} {o:Lang.Out} (S:EnvS h ke t e o) (hlen:e.length ≤ 1099511627776) (x:ByteArray):ExV 35 [.pointer (some ⟨ke,0,none⟩),.string x].toArray h (getV e x):=by
 refine ExV.pure (X35_ok ?_)
 unfold X35
 have hr:=S.row
 have hlt:=S.lt
 have el:=S.names.len
 have hne:(nmL e).length=e.length:=by unfold nmL;simp
 rw [hne] at el
 simp (disch:=first|exact dz|fail) only [hr,el,SXB,SX,simprocAttr]
 refine get_loop S hlen e 0 _ rfl (by omega) ?_ ?_ ⟨_,get_push_eq rfl,rfl⟩ fun h2 v K hv=>⟨K,v,rfl,hv⟩
 ·(repeat (first | exact Kp.refl _ _ | assumption | refine Kp.push ?_ _ _ (by first | omega | (simp only [sz_push,sz_put];omega)) | refine Kp.put ?_ _ _ (by first | omega | (simp only [sz_push,sz_put];omega))))
 ·simp (disch:=first|exact dz|fail) only [SXB,SX,simprocAttr]
  omega
end Go.Proofs.YtibigfkeaemanaaGreatDoor.L
end
