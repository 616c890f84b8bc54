import Derived.Test.YtibigfkeaemanaaGreatDoorZ20
import Derived.Test.YtibigfkeaemanaaGreatDoorZ34
set_option linter.unusedVariables false
set_option linter.unusedSimpArgs false
section
namespace Go.Proofs.YtibigfkeaemanaaGreatDoor.L
open Go.Ab Go.Lang Go.Proofs.YtibigfkeaemanaaGreatDoor.X
set_option maxRecDepth 100000
def nlE (s:ByteArray) (i:Nat):Nat:=if Lib.indexByte (s.extract i s.size).data.toList 10 < 0 then s.size else i + (Lib.indexByte (s.extract i s.size).data.toList 10).toNat
theorem indexByte_lt (l:List UInt8) (c:UInt8):Lib.indexByte l c = -1 ∨ (0 ≤ Lib.indexByte l c∧Lib.indexByte l c < l.length):=by
 induction l with
 | nil=>exact .inl rfl
 | cons b l ih =>
  unfold Lib.indexByte
  split
  ·right;simp
  ·split
   ·exact .inl rfl
   ·rename_i h1 h2
    simp at h2
    rcases ih with h | h
    ·exact absurd h h2
    ·right;simp;omega
theorem nlE_le {s:ByteArray} {i:Nat} (hi:i ≤ s.size):i ≤ nlE s i∧nlE s i ≤ s.size:=by
 unfold nlE
 have hl:(s.extract i s.size).data.toList.length=s.size - i:=by
  rw [ByteArray.data_extract,← ByteArray.size_data];simp
 rcases indexByte_lt (s.extract i s.size).data.toList 10 with h | h
 ·rw [if_pos (by omega)];omega
 ·rw [if_neg (by omega)];omega
def recF (s:ByteArray) (lo hi:Nat):Nat→Nat→List (Nat × ByteArray)
 | 0,_=>[]
 | k + 1,i=>if i < s.size then (if hi ≤ i then [] else (if lo ≤ i then [(i,s.extract i (nlE s i))] else [])++recF s lo hi k (nlE s i + 1)) else []
def encR (p:Nat × ByteArray):Value:=.agg #[.int .i64 (p.1:Nat),.string p.2]
structure RecS (h0:AH) (lo hi:Nat) (rc:Loop) (acc:List (Nat × ByteArray)) (h:AH):Prop where
 kp:Kp h0.size h0 h
 size:h0.size + 4 ≤ h.size
 g3:h.get (h0.size + 1)=some (.cells #[.int .i64 (lo:Nat),.int .i64 (hi:Nat)] 33 (0,0),none)
 out:∃ v,h.get (h0.size + 2)=some (.cells #[v] 30 (0,0),none)∧Go.Ab.Own 37 2 h v (acc.map encR)∧∀ k,blkOf v=some k→h0.size + 4 ≤ k∧k < h.size
 gl:h.get (h0.size + 3)=some (.loop rc,none)
theorem RecS.loop {h0:AH} {lo hi:Nat} {rc rc':Loop} {acc:List (Nat × ByteArray)} {h:AH} (R:RecS h0 lo hi rc acc h):RecS h0 lo hi rc' acc (h.put (h0.size + 3) (some (.loop rc',none))):=by
 obtain ⟨v,h1,h2,h3⟩:=R.out
 have hz:=R.size
 exact ⟨⟨by simp;have:=R.kp.size;omega,fun k hk=>(get_put_ne (by omega)).trans (R.kp.get k hk)⟩,by simpa using hz,(get_put_ne (by omega)).trans R.g3,⟨v,(get_put_ne (by omega)).trans h1,h2.mono fun k hk=>get_put_ne (by have:=(h3 k hk).1;omega),fun k hk=>by simpa using h3 k hk⟩,get_put_eq rfl⟩
noncomputable abbrev recL (h0:AH):Loop:=rec9_3 (.pointer (some ⟨h0.size + 1,0,none⟩)) (.pointer (some ⟨h0.size + 2,0,none⟩))
theorem rec_round {h0 h:AH} {lo hi i:Nat} {line:ByteArray} {acc:List (Nat × ByteArray)} {K:Value→AH→Prop} (hacc:acc.length ≤ 1073741824) (R:RecS h0 lo hi (recL h0) acc h)
  (k1:hi ≤ i→∀ h',RecS h0 lo hi { recL h0 with state:=.done,pending:=some (.exit 0) } acc h'→K (.bool false) h')
  (k2:¬ hi ≤ i→∀ h',RecS h0 lo hi (recL h0) (acc++if lo ≤ i then [(i,line)] else []) h'→K (.bool true) h') :
  roundP Tryz.prog (h0.size + 3) [.int .i64 (i:Nat),.string line] h K:=by
 refine Y9_3_ok (st:=.ready) (pe:=none) (s:=none) (loop_at R.gl) ?_
 unfold Y9_3
 refine bq_of (loop_at R.gl) ⟨rfl,?_⟩
 dsimp only
 have Rb:RecS h0 lo hi { recL h0 with state:=.busy } acc (h.put (h0.size + 3) (some (.loop { recL h0 with state:=.busy },none))):=R.loop
 generalize h.put (h0.size + 3) (some (.loop { recL h0 with state:=.busy },none))=hb at Rb ⊢
 have g3:=Rb.g3
 have c0:(#[.int .i64 (lo:Int),.int .i64 (hi:Int)]:Array Value)[0]?=some (.int .i64 (lo:Int)):=rfl
 have c1:(#[.int .i64 (lo:Int),.int .i64 (hi:Int)]:Array Value)[1]?=some (.int .i64 (hi:Int)):=rfl
 generalize (#[.int .i64 (lo:Int),.int .i64 (hi:Int)]:Array Value)=cc at g3 c0 c1
 by_cases h1:hi ≤ i
 ·have e1:(hi:Int) ≤ (i:Int):=by omega
  simp (disch:=first|exact dz|fail) only [g3,c1,e1,SXB,SX,simprocAttr]
  unfold endRd
  refine bq_of (loop_at Rb.gl) ?_
  exact k1 h1 _ Rb.loop
 ·have e1:¬ (hi:Int) ≤ (i:Int):=by omega
  by_cases h2:lo ≤ i
  ·have e2:(lo:Int) ≤ (i:Int):=by omega
   obtain ⟨v,g5,o,low⟩:=Rb.out
   obtain ⟨s',h2',a1,a2,a3,a4,a5,a6⟩:=own_add (bytes:=24) (zero:=.agg #[.int .i64 0,.string ⟨#[]⟩]) (v:=encR (i,line)) (lo:=h0.size + 4) o low Rb.size (fun v hv=>by obtain ⟨p,_,rfl⟩:=List.mem_map.1 hv;rfl) rfl (by intro u hu;simp [encR,Value.cells] at hu;rcases hu with rfl | rfl <;> rfl) (by decide) (by decide) (by decide) rfl (by rw [List.length_map];omega)
   have ec:(encR (i,line)).cells = #[.int .i64 (i:Int),.string line]:=rfl
   rw [ec] at a1
   have hz:=Rb.size
   have g52:=(a6 (h0.size + 2) (by omega) (fun e=>by have:=(low _ e).1;omega)).trans g5
   have gl2:=(a6 (h0.size + 3) (by omega) (fun e=>by have:=(low _ e).1;omega)).trans Rb.gl
   have hone:s'.cells = #[s']:=by
    generalize acc.map encR++[encR (i,line)]=z at a2
    cases a2 <;> rfl
   have hst:stN 1 h2' (.pointer (some ⟨h0.size + 2,0,none⟩)) s' = some (h2'.put (h0.size + 2) (some (.cells #[s'] 30 (0,0),none))):=by
    rw [stN_full (n:=1) g52 rfl (by rw [hone];rfl) (by rw [hone];intro z hz;simp at hz;subst hz;generalize acc.map encR++[encR (i,line)]=w at a2;cases a2 <;> rfl),hone]
   generalize hap:apT 37 2 24 (some (.agg #[.int .i64 0,.string ⟨#[]⟩]))=ap at a1 ⊢
   generalize hs1:stN 1=s1 at hst ⊢
   simp (disch:=first|exact dz|fail) only [g3,c0,c1,e1,e2,g5,a1,SXB,SX,simprocAttr]
   refine bq_of hst ?_
   unfold endRd
   refine bq_of (loop_at ((get_put_ne (by omega)).trans gl2)) ?_
   refine k2 h1 _ ?_
   rw [if_pos h2]
   have Rf:RecS h0 lo hi { recL h0 with state:=.busy } (acc++[(i,line)]) (h2'.put (h0.size + 2) (some (.cells #[s'] 30 (0,0),none))):=by
    refine ⟨⟨by simp;have:=Rb.kp.size;omega,fun k hk=>?_⟩,by simp;omega,?_,⟨s',get_put_eq rfl,?_,fun k hk=>by simpa using a5 k hk⟩,(get_put_ne (by omega)).trans gl2⟩
    ·rw [get_put_ne (by omega),a3.get k (by omega)]
     exact Rb.kp.get k hk
    ·rw [get_put_ne (by omega),a3.get _ (by omega)]
     exact Rb.g3
    ·rw [List.map_append]
     exact a2.mono fun k hk=>get_put_ne (by have:=(a5 k hk).1;omega)
   exact Rf.loop
  ·have e2:¬ (lo:Int) ≤ (i:Int):=by omega
   simp (disch:=first|exact dz|fail) only [g3,c0,c1,e1,e2,SXB,SX,simprocAttr]
   unfold endRd
   refine bq_of (loop_at Rb.gl) ?_
   refine k2 h1 _ ?_
   rw [if_neg h2,List.append_nil]
   exact Rb.loop
def RecEnd (rc:Loop):Prop:=rc.state ≠ .busy∧(rc.pending=none ∨ rc.pending=some (.exit 0))
theorem lines_loop {h0:AH} {lo hi:Nat} {s:ByteArray} (hs:s.size ≤ 1073741000) {Q:RQ} :
  ∀ (k i:Nat) (acc:List (Nat × ByteArray)) (h:AH),s.size < i + k→i ≤ s.size + 1→acc.length ≤ i→RecS h0 lo hi (recL h0) acc h →
  (∀ h' rc,RecEnd rc→RecS h0 lo hi rc (acc++recF s lo hi k i) h'→Q (.ret (.tuple #[])) h') →
  H20_1 (.string s) (.chan (some (h0.size + 3))) (.int .i64 i) h Q:=by
 intro k
 induction k with
 | zero =>
  intro i acc h hk hi2 ha R hq
  refine X20_1_ok ?_
  unfold X20_1
  have e:¬ (i:Int) < s.size:=by omega
  have hl:lenS (.string s)=some (.int .i64 s.size):=rfl
  simp (disch:=first|exact dz|fail) only [e,hl,SXB,SX,simprocAttr]
  refine hq h (recL h0) ⟨(by intro e;cases e),.inl rfl⟩ ?_
  unfold recF
  rw [List.append_nil];exact R
 | succ k ih =>
  intro i acc h hk hi2 ha R hq
  refine X20_1_ok ?_
  unfold X20_1
  have hl:lenS (.string s)=some (.int .i64 s.size):=rfl
  unfold recF at hq
  by_cases hi:i < s.size
  ·have e:(i:Int) < s.size:=by omega
   rw [if_pos hi] at hq
   have hn:=nlE_le (s:=s) (i:=i) (by omega)
   have hx:=indexByte_lt (s.extract i s.size).data.toList 10
   have hE:nlE s i=if Lib.indexByte (s.extract i s.size).data.toList 10 < 0 then s.size else i + (Lib.indexByte (s.extract i s.size).data.toList 10).toNat:=rfl
   have hib:Ex Tryz.prog 24 #[.string (s.extract i s.size),.int .u8 10] h (.int .i64 (Lib.indexByte (s.extract i s.size).data.toList 10)) h:=indexByte_ok (h:=h) (s.extract i s.size) 10
   have hll:(s.extract i s.size).data.toList.length=s.size - i:=by
    rw [ByteArray.data_extract,← ByteArray.size_data];simp
   generalize Lib.indexByte (s.extract i s.size).data.toList 10=x at hx hE hib
   generalize nlE s i=E at hq hn hE
   have step:∀ m:Nat,i + m=E→K20_5 (.string s) (.chan (some (h0.size + 3))) (.int .i64 i) (.int .i64 m) h Q:=by
    intro m hm
    refine X20_5_ok ?_
    unfold X20_5
    have ew:IntKind.i64.wrap ((i:Int) + m)=((E:Nat):Int):=(wrap64 (by omega) (by omega)).trans (by omega)
    have ew2:IntKind.i64.wrap ((m:Int) + 1)=((m + 1:Nat):Int):=(wrap64 (by omega) (by omega)).trans (by omega)
    have ew3:IntKind.i64.wrap ((i:Int) + ((m + 1:Nat):Int))=((E + 1:Nat):Int):=(wrap64 (by omega) (by omega)).trans (by omega)
    simp (disch:=first|exact dz|fail) only [ew,sub_mid hn.1 hn.2,SXB,SX,simprocAttr]
    refine rec_round (by omega) R (fun h1 h' R'=>?_) (fun h1 h' R'=>?_)
    ·simp (disch:=first|exact dz|fail) only [SXB,SX,simprocAttr]
     rw [if_pos h1,List.append_nil] at hq
     exact hq h' _ ⟨(by intro e;cases e),.inr rfl⟩ R'
    ·rw [if_neg h1] at hq
     have ew4:IntKind.i64.wrap ((i:Int) + ((m:Int) + 1))=((E + 1:Nat):Int):=(wrap64 (by omega) (by omega)).trans (by omega)
     have e5:(i:Int) + ((m:Int) + 1)=((E + 1:Nat):Int):=by omega
     simp (disch:=first|exact dz|fail) only [ew2,ew3,ew4,SXB,SX,simprocAttr]
     rw [e5]
     refine ih (E + 1) _ h' (by omega) (by omega) ?_ R' (fun h2 rc hrc R2=>hq h2 rc hrc (by rw [← List.append_assoc];exact R2))
     rw [List.length_append]
     split
     ·simp;omega
     ·simp;omega
   simp (disch:=first|exact dz|fail) only [e,hl,sub_lo (show i ≤ s.size by omega),SXB,SX,simprocAttr]
   refine HC.exact hib ?_
   by_cases hx0:x < 0
   ·rw [if_pos hx0] at hE
    have ew:IntKind.i64.wrap ((s.size:Int) - i)=(s.size:Int) - i:=wrap64 (by omega) (by omega)
    have e6:(s.size:Int) - (i:Int)=((s.size - i:Nat):Int):=by omega
    simp (disch:=first|exact dz|fail) only [hx0,ew,SXB,SX,simprocAttr]
    rw [e6]
    exact step (s.size - i) (by omega)
   ·rw [if_neg hx0] at hE
    simp (disch:=first|exact dz|fail) only [hx0,SXB,SX,simprocAttr]
    have hxn:((x.toNat:Nat):Int)=x:=Int.toNat_of_nonneg (by omega)
    have:=step x.toNat hE.symm
    rw [hxn] at this
    exact this
  ·have e:¬ (i:Int) < s.size:=by omega
   rw [if_neg hi,List.append_nil] at hq
   simp (disch:=first|exact dz|fail) only [e,hl,SXB,SX,simprocAttr]
   exact hq h (recL h0) ⟨(by intro e;cases e),.inl rfl⟩ R
theorem lines_loop_ok {h0 h:AH} {lo hi:Nat} {s:ByteArray} (hs:s.size ≤ 1073741000) (R:RecS h0 lo hi (recL h0) [] h) {Q:RQ}
  (hq:∀ h' rc,RecEnd rc→RecS h0 lo hi rc (recF s lo hi (s.size + 1) 0) h'→Q (.ret (.tuple #[])) h'):HC Tryz.prog 20 [.string s,.chan (some (h0.size + 3))].toArray h Q:=by
 refine X20_ok ?_
 unfold X20
 exact lines_loop hs (s.size + 1) 0 [] h (by omega) (by omega) (by simp) R (fun h' rc hrc R'=>hq h' rc hrc (by simpa using R'))
theorem recs_ok {h:AH} {s:ByteArray} (hs:s.size ≤ 1073741000) (lo hi:Nat) :
  HC Tryz.prog 9 [.string s,encSp (lo,hi)].toArray h (NewP 37 2 h ((recF s lo hi (s.size + 1) 0).map encR)):=by
 refine X9_ok ?_
 unfold X9
 have ec:(encSp (lo,hi)).cells = #[.int .i64 (lo:Int),.int .i64 (hi:Int)]:=rfl
 have ec2:(Value.string s).cells = #[.string s]:=rfl
 simp only [new1,new2,ec,ec2]
 refine ⟨trivial,?_⟩
 show hasBody Tryz.prog 19=true∧HC Tryz.prog 19 _ _ _
 refine ⟨hb_19,?_⟩
 refine X19_ok ?_
 unfold X19
 simp only [sz_push]
 obtain ⟨hL,hhL⟩:∃ hL,hL=((((h.push (.cells #[.string s] 9 (0,0)) none).push (.cells #[.int .i64 (lo:Int),.int .i64 (hi:Int)] 33 (0,0)) none).push (.cells #[.slice none 0 0] 30 (0,0)) none).push (.loop (recL h)) none):=⟨_,rfl⟩
 have R:RecS h lo hi (recL h) [] hL:=by
  refine ⟨?_,?_,?_,⟨.slice none 0 0,?_,.nil,fun k hk=>by cases hk⟩,?_⟩
  ·rw [hhL];(repeat (first | exact Kp.refl _ _ | assumption | refine Kp.push ?_ _ _ (by first | omega | (simp only [sz_push,sz_put];omega)) | refine Kp.put ?_ _ _ (by first | omega | (simp only [sz_push,sz_put];omega))))
  ·rw [hhL];simp
  ·rw [hhL,get_push_ne (by simp),get_push_ne (by simp)];exact get_push_eq (by simp)
  ·rw [hhL,get_push_ne (by simp)];exact get_push_eq (by simp)
  ·rw [hhL];exact get_push_eq (by simp)
 have g2:hL.get h.size=some (.cells #[.string s] 9 (0,0),none):=by
  rw [hhL,get_push_ne (by simp <;> omega),get_push_ne (by simp <;> omega),get_push_ne (by simp)];exact get_push_eq rfl
 change bq (ld1 ((((h.push (.cells #[.string s] 9 (0,0)) none).push (.cells #[.int .i64 (lo:Int),.int .i64 (hi:Int)] 33 (0,0)) none).push (.cells #[.slice none 0 0] 30 (0,0)) none).push (.loop (recL h)) none) _) _
 rw [← hhL]
 clear hhL
 simp (disch:=first|exact dz|fail) only [g2,SXB,SX,simprocAttr]
 refine (lines_loop_ok hs R fun h' rc hrc R'=>?_)
 obtain ⟨hb,hp⟩:=hrc
 refine bq_of (loop_at R'.gl) ⟨hb,?_⟩
 have fin:K9_8 (.pointer (some ⟨h.size + 1 + 1,0,none⟩)) (h'.put (h.size + 1 + 1 + 1) none) (NewP 37 2 h ((recF s lo hi (s.size + 1) 0).map encR)):=by
  refine X9_8_ok ?_
  unfold X9_8
  obtain ⟨v,g5,o,low⟩:=R'.out
  have g5':=(get_put_ne (h:=h') (k:=h.size + 3) (j:=h.size + 2) (v:=none) (by omega)).trans g5
  simp (disch:=first|exact dz|fail) only [g5',SXB,SX,simprocAttr]
  exact ⟨v,rfl,⟨by simp;have:=R'.kp.size;omega,fun k hk=>(get_put_ne (by omega)).trans (R'.kp.get k hk)⟩,o.mono fun k hk=>get_put_ne (by have:=(low k hk).1;omega),fun k hk=>by have:=low k hk;simp;omega⟩
 rcases hp with hp | hp
 ·rw [hp];exact fin
 ·rw [hp];exact fin
end Go.Proofs.YtibigfkeaemanaaGreatDoor.L
end
section
namespace Go.Proofs.YtibigfkeaemanaaGreatDoor.L
open Go.Ab Go.Lang Go.Proofs.YtibigfkeaemanaaGreatDoor.X
set_option maxRecDepth 100000
theorem recF_ge {s:ByteArray} {lo hi:Nat}:∀ (k i:Nat),i ≤ s.size + 1→∀ p ∈ recF s lo hi k i,i ≤ p.1∧p.1 < s.size∧p.2.size ≤ s.size
 | 0,i,_=>fun p hp=>by cases hp
 | k + 1,i,hi2=>fun p hp=>by
  unfold recF at hp
  split at hp
  ·rename_i hlt
   have hn:=nlE_le (s:=s) (i:=i) (by omega)
   split at hp
   ·cases hp
   ·rcases List.mem_append.1 hp with h | h
    ·split at h
     ·rw [List.mem_singleton.1 h]
      refine ⟨Nat.le_refl _,hlt,?_⟩
      show (s.extract i (nlE s i)).size ≤ s.size
      rw [ByteArray.size_extract];omega
     ·cases h
    ·have:=recF_ge k (nlE s i + 1) (by omega) p h
     omega
  ·cases hp
def inS (lo hi:Nat) (l:List (Nat × ByteArray)):List (Nat × ByteArray):=l.filter fun p=>decide (lo ≤ p.1) && decide (p.1 < hi)
theorem recF_in {s:ByteArray} {lo hi:Nat}:∀ (k i:Nat),i ≤ s.size + 1→recF s lo hi k i=inS lo hi (recF s 0 s.size k i)
 | 0,i,_=>rfl
 | k + 1,i,hi2=>by
  unfold recF
  by_cases hlt:i < s.size
  ·have hn:=nlE_le (s:=s) (i:=i) (by omega)
   rw [if_pos hlt,if_pos hlt,if_neg (show ¬ s.size ≤ i by omega),if_pos (Nat.zero_le i)]
   have ge:=recF_ge (s:=s) (lo:=0) (hi:=s.size) k (nlE s i + 1) (by omega)
   unfold inS
   rw [List.singleton_append,List.filter_cons]
   by_cases h1:hi ≤ i
   ·rw [if_pos h1]
    have e1:(decide (lo ≤ i) && decide (i < hi))=false:=by simp;omega
    rw [if_neg (by simp only [e1];decide)]
    refine (List.filter_eq_nil_iff.2 fun p hp=>?_).symm
    have:=(ge p hp).1
    simp;omega
   ·rw [if_neg h1,recF_in k (nlE s i + 1) (by omega)]
    by_cases h2:lo ≤ i
    ·have e1:(decide (lo ≤ i) && decide (i < hi))=true:=by simp;omega
     rw [if_pos h2,if_pos (by simp only [e1])]
     rfl
    ·have e1:(decide (lo ≤ i) && decide (i < hi))=false:=by simp;omega
     rw [if_neg h2,if_neg (by simp only [e1];decide)]
     rfl
  ·rw [if_neg hlt,if_neg hlt];rfl
theorem inS_split {s:ByteArray} {a b c:Nat} (hab:a ≤ b) (hbc:b ≤ c):∀ (k i:Nat),i ≤ s.size + 1→inS a c (recF s 0 s.size k i)=inS a b (recF s 0 s.size k i)++inS b c (recF s 0 s.size k i)
 | 0,i,_=>rfl
 | k + 1,i,hi2=>by
  unfold recF
  by_cases hlt:i < s.size
  ·have hn:=nlE_le (s:=s) (i:=i) (by omega)
   rw [if_pos hlt,if_neg (show ¬ s.size ≤ i by omega),if_pos (Nat.zero_le i)]
   have ge:=recF_ge (s:=s) (lo:=0) (hi:=s.size) k (nlE s i + 1) (by omega)
   have ih:=inS_split (s:=s) hab hbc k (nlE s i + 1) (by omega)
   unfold inS at ih ⊢
   rw [List.singleton_append,List.filter_cons,List.filter_cons,List.filter_cons,ih]
   by_cases h1:b ≤ i
   ·have hnil:(recF s 0 s.size k (nlE s i + 1)).filter (fun p=>decide (a ≤ p.1) && decide (p.1 < b))=[]:=List.filter_eq_nil_iff.2 fun p hp=>by
     have:=(ge p hp).1
     simp;omega
    have e1:(decide (a ≤ i) && decide (i < b))=false:=by simp;omega
    rw [hnil]
    by_cases h2:i < c
    ·have e2:(decide (a ≤ i) && decide (i < c))=true:=by simp;omega
     have e3:(decide (b ≤ i) && decide (i < c))=true:=by simp;omega
     rw [if_pos (by simp only [e2]),if_neg (by simp only [e1];decide),if_pos (by simp only [e3])]
     rfl
    ·have e2:(decide (a ≤ i) && decide (i < c))=false:=by simp;omega
     have e3:(decide (b ≤ i) && decide (i < c))=false:=by simp;omega
     rw [if_neg (by simp only [e2];decide),if_neg (by simp only [e1];decide),if_neg (by simp only [e3];decide)]
   ·have e3:(decide (b ≤ i) && decide (i < c))=false:=by simp;omega
    rw [if_neg (show ¬ ((decide (b ≤ i) && decide (i < c))=true) by simp only [e3];decide)]
    by_cases h2:a ≤ i
    ·have e1:(decide (a ≤ i) && decide (i < b))=true:=by simp;omega
     have e2:(decide (a ≤ i) && decide (i < c))=true:=by simp;omega
     rw [if_pos (by simp only [e2]),if_pos (by simp only [e1])]
     rfl
    ·have e1:(decide (a ≤ i) && decide (i < b))=false:=by simp;omega
     have e2:(decide (a ≤ i) && decide (i < c))=false:=by simp;omega
     rw [if_neg (by simp only [e2];decide),if_neg (by simp only [e1];decide)]
  ·rw [if_neg hlt];rfl
def allR (s:ByteArray):List (Nat × ByteArray):=recF s 0 s.size (s.size + 1) 0
def recsOf (s:ByteArray) (p:Nat × Nat):List (Nat × ByteArray):=recF s p.1 p.2 (s.size + 1) 0
theorem plan_recs {s:ByteArray} {w:Nat} (hw:1 ≤ w):∀ (k i:Nat),i ≤ s.size→s.size < i + k→(planF s.size w k i).flatMap (recsOf s)=inS i s.size (allR s)
 | 0,i,h1,h2=>absurd h2 (by omega)
 | k + 1,i,h1,h2=>by
  unfold planF
  by_cases hlt:i < s.size
  ·rw [if_pos hlt,List.flatMap_cons]
   have step:∀ to:Nat,i < to→to ≤ s.size→recsOf s (i,to)++(planF s.size w k to).flatMap (recsOf s)=inS i s.size (allR s):=fun to h3 h4=>by
    rw [plan_recs hw k to h4 (by omega)]
    unfold recsOf allR
    rw [recF_in _ _ (by omega)]
    exact (inS_split (by omega) h4 _ _ (by omega)).symm
   split
   ·exact step _ (by omega) (by omega)
   ·exact step _ (by omega) (by omega)
  ·rw [if_neg hlt]
   have:i=s.size:=by omega
   subst this
   refine (List.filter_eq_nil_iff.2 fun p hp=>?_).symm
   simp
theorem plan_all {s:ByteArray} {w:Nat} (hw:1 ≤ w):(planF s.size w (s.size + 1) 0).flatMap (recsOf s)=allR s:=by
 rw [plan_recs hw _ 0 (Nat.zero_le _) (by omega)]
 refine List.filter_eq_self.2 fun p hp=>?_
 have:=(recF_ge (s:=s) (lo:=0) (hi:=s.size) (s.size + 1) 0 (by omega) p hp).2.1
 simp;exact this
theorem recF_len {s:ByteArray} {lo hi:Nat}:∀ (k i:Nat),i ≤ s.size + 1→(recF s lo hi k i).length ≤ s.size + 1 - i
 | 0,i,_=>Nat.zero_le _
 | k + 1,i,hi2=>by
  unfold recF
  split
  ·rename_i hlt
   have hn:=nlE_le (s:=s) (i:=i) (by omega)
   have ih:=recF_len (s:=s) (lo:=lo) (hi:=hi) k (nlE s i + 1) (by omega)
   split
   ·exact Nat.zero_le _
   ·rw [List.length_append]
    split
    ·simp;omega
    ·simp;omega
  ·exact Nat.zero_le _
theorem planF_len {size w:Nat} (hw:1 ≤ w):∀ (k i:Nat),i ≤ size→(planF size w k i).length ≤ size - i
 | 0,i,_=>Nat.zero_le _
 | k + 1,i,hi=>by
  unfold planF
  split
  ·rename_i hlt
   have:=planF_len (size:=size) hw k (if w < size - i then i + w else size) (by split <;> omega)
   rw [List.length_cons]
   split at this <;> rename_i h <;> simp only [h,if_true,if_false] <;> omega
  ·exact Nat.zero_le _
mutual
theorem stmtV_len (it:Int→ByteArray):∀ (s:Lang.Stmt) (e:Env) (o:Lang.Out),o.length ≤ 1024→(stmtV it s e o).2.length ≤ 1024
 | .mk op name a b body els,e,o,ho=>by
  unfold stmtV
  dsimp only
  have hf:∀ (l:List ByteArray) (g:ByteArray→Env) (o:Lang.Out),o.length ≤ 1024→(l.foldl (fun o p=>blockV it body (g p) o) o).length ≤ 1024:=by
   intro l g
   induction l with
   | nil=>intro o ho;exact ho
   | cons x l ih=>intro o ho;exact ih _ (blockV_len it body _ o ho)
  have hf2:∀ (l:List (List UInt8)) (g:List UInt8→Env) (o:Lang.Out),o.length ≤ 1024→(l.foldl (fun o p=>blockV it body (g p) o) o).length ≤ 1024:=by
   intro l g
   induction l with
   | nil=>intro o ho;exact ho
   | cons x l ih=>intro o ho;exact ih _ (blockV_len it body _ o ho)
  split
  ·show (if o.length < 1024 then _ else o).length ≤ 1024
   split
   ·simp;omega
   ·exact ho
  split
  ·exact ho
  split
  ·show (if _ then _ else _:Lang.Out).length ≤ 1024
   split
   ·exact blockV_len it body e o ho
   ·exact blockV_len it els e o ho
  split
  ·exact hf2 _ _ o ho
  split
  ·exact hf _ _ o ho
  ·exact ho
theorem blockV_len (it:Int→ByteArray):∀ (l:List Lang.Stmt) (e:Env) (o:Lang.Out),o.length ≤ 1024→(blockV it l e o).length ≤ 1024
 | [],e,o,ho=>by unfold blockV;exact ho
 | s::l,e,o,ho=>by
  unfold blockV
  exact blockV_len it l _ _ (stmtV_len it s e o ho)
end
theorem pieces_sz (b:List UInt8):∀ (k:Nat) (s p:List UInt8),p ∈ piecesV b k s→p.length ≤ s.length
 | 0,s,p=>fun h=>by unfold piecesV at h;cases h
 | k + 1,s,p=>fun h=>by
  unfold piecesV at h
  split at h
  ·rw [List.mem_singleton.1 h];exact Nat.le_refl _
  ·rename_i i _
   rcases List.mem_cons.1 h with h | h
   ·rw [h,List.length_take];omega
   ·have:=pieces_sz b k _ p h
    rw [List.length_drop] at this;omega
mutual
theorem stmtV_sz {M:Nat} (hM:4096 ≤ M):∀ (s:Lang.Stmt) (e:Env) (o:Lang.Out),okS s=true→(∀ p ∈ e,VOK M p.2)→(∀ x ∈ o,x.1.size ≤ M)→∀ x ∈ (stmtV itoaB s e o).2,x.1.size ≤ M
 | .mk op name a b body els,e,o,hs,he,ho=>by
  simp only [okS,Bool.and_eq_true] at hs
  obtain ⟨⟨⟨h1,h2⟩,h3⟩,h4⟩:=hs
  have va:=expr_vok hM he a h1
  have snoc:∀ x:V,VOK M x→∀ p ∈ e++[(name,x)],VOK M p.2:=fun x hx p hp=>by
   rcases List.mem_append.1 hp with hp | hp
   ·exact he p hp
   ·rw [List.mem_singleton.1 hp];exact hx
  have nok:∀ t:ByteArray,t.size ≤ M→VOK M { t:=t }:=fun t ht=>⟨by show NumOK 0;unfold NumOK;omega,ht,(fun s hs=>by cases hs),Nat.zero_le _⟩
  have hf:∀ (l:List ByteArray) (o:Lang.Out),(∀ x ∈ l,x.size ≤ M)→(∀ x ∈ o,x.1.size ≤ M)→∀ x ∈ l.foldl (fun o p=>blockV itoaB body (e++[(name,{ t:=p })]) o) o,x.1.size ≤ M:=by
   intro l
   induction l with
   | nil=>intro o _ ho;exact ho
   | cons x l ih=>intro o hl ho;exact ih _ (fun y hy=>hl y (List.mem_cons_of_mem _ hy)) (blockV_sz hM body _ o h3 (snoc _ (nok x (hl x (by simp)))) ho)
  have hf2:∀ (l:List (List UInt8)) (o:Lang.Out),(∀ x ∈ l,x.length ≤ M)→(∀ x ∈ o,x.1.size ≤ M)→∀ x ∈ l.foldl (fun o p=>blockV itoaB body (e++[(name,{ t:=⟨p.toArray⟩ })]) o) o,x.1.size ≤ M:=by
   intro l
   induction l with
   | nil=>intro o _ ho;exact ho
   | cons x l ih=>intro o hl ho;exact ih _ (fun y hy=>hl y (List.mem_cons_of_mem _ hy)) (blockV_sz hM body _ o h3 (snoc _ (nok ⟨x.toArray⟩ (hl x (by simp)))) ho)
  unfold stmtV
  dsimp only
  split
  ·show ∀ x ∈ (if o.length < 1024 then _ else o),_
   split
   ·intro x hx
    rcases List.mem_append.1 hx with hx | hx
    ·exact ho x hx
    ·rw [List.mem_singleton.1 hx];exact va.t
   ·exact ho
  split
  ·exact ho
  split
  ·show ∀ x ∈ (if ((exprV itoaB e a).n != 0)=true then blockV itoaB body e o else blockV itoaB els e o),_
   split
   ·exact blockV_sz hM body e o h3 he ho
   ·exact blockV_sz hM els e o h4 he ho
  split
  ·exact hf2 _ o (fun x hx=>by
    have:=pieces_sz _ _ _ _ hx
    have ht:=va.t
    simp at this
    omega) ho
  split
  ·exact hf _ o (fun x hx=>va.l x (List.mem_of_mem_take hx)) ho
  ·exact ho
theorem blockV_sz {M:Nat} (hM:4096 ≤ M):∀ (l:List Lang.Stmt) (e:Env) (o:Lang.Out),okB l=true→(∀ p ∈ e,VOK M p.2)→(∀ x ∈ o,x.1.size ≤ M)→∀ x ∈ blockV itoaB l e o,x.1.size ≤ M
 | [],e,o,_,_,ho=>by unfold blockV;exact ho
 | s::l,e,o,hs,he,ho=>by
  simp only [okB,Bool.and_eq_true] at hs
  unfold blockV
  obtain ⟨ex,_,_,he'⟩:=stmt_ext hM s hs.1 e o he
  exact blockV_sz hM l _ _ hs.2 he' (stmtV_sz hM s e o hs.1 he ho)
end
theorem map_out {M:Nat} (hM:4096 ≤ M) {p:Lang.Prog} (hok:okB p.map=true) {key val:ByteArray} (hk:key.size ≤ M) (hv:val.size ≤ M):(mapV itoaB p key val).length ≤ 1024∧∀ x ∈ mapV itoaB p key val,x.1.size ≤ M:=by
 have nok:∀ t:ByteArray,t.size ≤ M→VOK M { t:=t }:=fun t ht=>⟨by show NumOK 0;unfold NumOK;omega,ht,(fun s hs=>by cases hs),Nat.zero_le _⟩
 refine ⟨blockV_len itoaB _ _ _ (by simp),blockV_sz hM _ _ _ hok (fun p hp=>?_) (fun x hx=>by cases hx)⟩
 simp at hp
 rcases hp with rfl | rfl
 ·exact nok _ hk
 ·exact nok _ hv
end Go.Proofs.YtibigfkeaemanaaGreatDoor.L
end
