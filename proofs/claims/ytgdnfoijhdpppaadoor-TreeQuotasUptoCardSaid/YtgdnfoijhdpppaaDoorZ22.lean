import Derived.Below
import Derived.Deep.Draws
import Derived.Lib.LaidTab
import Derived.Sort.Grow
import Derived.Test.YtgdnfoijhdpppaaDoorZ18
import Derived.Test.YtgdnfoijhdpppaaDoorZ19
import Derived.Test.YtgdnfoijhdpppaaDoorZ21
set_option linter.unusedVariables false
set_option linter.unusedSimpArgs false
section
namespace Go.Proofs.YtgdnfoijhdpppaaDoor.L
open Go.Ab Go.Tr Go.Mh Go.Proofs.YtgdnfoijhdpppaaDoor.X
set_option maxRecDepth 100000
theorem size_list {s:ByteArray} {l:List UInt8} (hl:s.data.toList=l):s.size=l.length:=by rw [← hl,Array.length_toList];rfl
theorem get_bang {s:ByteArray} {l:List UInt8} (hl:s.data.toList=l) {i:Nat} {c:UInt8} (h:l[i]?=some c):s[i]! = c:=by
 have hlt:i < s.size:=by rw [size_list hl];exact (List.getElem?_eq_some_iff.1 h).1
 rw [getElem!_pos s i hlt]
 have h2:s.data[i]?=some c:=by rw [← Array.getElem?_toList,hl];exact h
 exact (Array.getElem?_eq_some_iff.1 h2).2
theorem ixS_at {s:ByteArray} {l:List UInt8} (hl:s.data.toList=l) {i:Nat} {c:UInt8} (h:l[i]?=some c):ixS (.string s) (.int .i64 i)=some (.int .u8 c.toNat):=by
 have hlt:i < s.size:=by rw [size_list hl];exact (List.getElem?_eq_some_iff.1 h).1
 show (if (0:Int) ≤ i∧(i:Int).toNat < s.size then some (Value.int .u8 (s[(i:Int).toNat]!).toNat) else none)=_
 rw [Int.toNat_natCast,if_pos ⟨by omega,hlt⟩,get_bang hl h]
theorem beqT (a b:ByteArray):(a.toList == b.toList)=(a.data.toList == b.data.toList):=by rw [Lib.toList_data,Lib.toList_data]
theorem part_end {s:ByteArray} (hs:s.size ≤ 1099511627776) {b:Bool} (hb:s.data.toList.all okByte=true):partB s=(!(s.data.toList == ([]:List UInt8)) && decide ((s.size:Int) ≤ 64) && !(s.data.toList == [46]) && !(s.data.toList == [46,46])):=by
 unfold partB
 rw [hb,Bool.true_and]
 have e:decide (s.size ≤ 64)=decide ((s.size:Int) ≤ 64):=by rw [decide_eq_decide];omega
 rw [e]
theorem okByte_eq (c:UInt8):okByte c=(!decide ((c.toNat:Int) < 33) && !decide ((c.toNat:Int) > 126) && !((c.toNat:Int) == 47)):=by
 unfold okByte
 have e1:decide (33 ≤ c.toNat) = !decide ((c.toNat:Int) < 33):=by
  by_cases h:33 ≤ c.toNat
  ·rw [decide_eq_true h,decide_eq_false (by omega)];rfl
  ·rw [decide_eq_false h,decide_eq_true (by omega)];rfl
 have e2:decide (c.toNat ≤ 126) = !decide ((c.toNat:Int) > 126):=by
  by_cases h:c.toNat ≤ 126
  ·rw [decide_eq_true h,decide_eq_false (by omega)];rfl
  ·rw [decide_eq_false h,decide_eq_true (by omega)];rfl
 have e3:(c.toNat == 47)=((c.toNat:Int) == 47):=by
  rw [Bool.eq_iff_iff,beq_iff_eq,beq_iff_eq];omega
 rw [e1,e2,e3]
theorem dotB:(ByteArray.mk #[46]).toList=[46]:=by rw [Lib.toList_data]
theorem dot2B:(ByteArray.mk #[46,46]).toList=[46,46]:=by rw [Lib.toList_data]
theorem nilB:(ByteArray.mk #[]).toList=[]:=by rw [Lib.toList_data]
theorem slashB:(ByteArray.mk #[47]).toList=[47]:=by rw [Lib.toList_data]
theorem part_loop {h:AH} {s:ByteArray} (hs:s.size ≤ 1099511627776):∀ (d i:Nat),i + d=s.size→(s.data.toList.take i).all okByte=true →
  H44_2 (.string s) (.int .i64 (s.size:Nat)) (.int .i64 (i:Nat)) h fun r h'=>r=.ret (.bool (partB s))∧h' = h:=by
 intro d
 induction d with
 | zero =>
  intro i hi ha
  refine X44_2_ok ?_
  unfold X44_2
  have e:¬ ((i:Int) < (s.size:Nat)):=by omega
  have hb:s.data.toList.all okByte=true:=by
   have:s.data.toList.take i=s.data.toList:=List.take_of_length_le (by rw [← size_list rfl];omega)
   rw [this] at ha;exact ha
  have hp:=part_end hs (b:=true) hb
  have q1:(s.toList == (ByteArray.mk #[]).toList)=(s.data.toList == []):=by rw [nilB,Lib.toList_data]
  have q2:(s.toList == (ByteArray.mk #[46]).toList)=(s.data.toList == [46]):=by rw [dotB,Lib.toList_data]
  have q3:(s.toList == (ByteArray.mk #[46,46]).toList)=(s.data.toList == [46,46]):=by rw [dot2B,Lib.toList_data]
  generalize partB s=pb at hp ⊢
  generalize (s.data.toList == ([]:List UInt8))=b1 at hp q1
  generalize (s.data.toList == [46])=b3 at hp q2
  generalize (s.data.toList == [46,46])=b4 at hp q3
  subst hp
  by_cases h64:(s.size:Int) ≤ 64
  ·rw [decide_eq_true h64]
   cases b1 <;> cases b3 <;> cases b4 <;> simp (disch:=(first | omega | (simp only [beq_iff_eq,sz_push,sz_put,SC,Nat.reduceAdd,Nat.reduceLeDiff];done) | (simp only [beq_iff_eq,ne_eq,sz_push,sz_put];omega) | assumption | fail)) only [e,q1,q2,q3,h64,SXB,SX,reduceIte,Int.reduceLT,Int.reduceLE,Int.reduceToNat,Int.reduceBEq,Int.reduceBNe,Nat.reduceAdd,Nat.reduceMul,Nat.reduceSub,Nat.reduceLeDiff] <;> first | done | exact ⟨rfl,rfl⟩
  ·rw [decide_eq_false h64]
   cases b1 <;> simp (disch:=(first | omega | (simp only [beq_iff_eq,sz_push,sz_put,SC,Nat.reduceAdd,Nat.reduceLeDiff];done) | (simp only [beq_iff_eq,ne_eq,sz_push,sz_put];omega) | assumption | fail)) only [e,q1,q2,q3,h64,SXB,SX,reduceIte,Int.reduceLT,Int.reduceLE,Int.reduceToNat,Int.reduceBEq,Int.reduceBNe,Nat.reduceAdd,Nat.reduceMul,Nat.reduceSub,Nat.reduceLeDiff] <;> first | done | exact ⟨rfl,rfl⟩ | (cases b3 <;> cases b4 <;> exact ⟨rfl,rfl⟩)
 | succ d ih =>
  intro i hi ha
  refine X44_2_ok ?_
  unfold X44_2
  have e:(i:Int) < (s.size:Nat):=by omega
  have hlen:i < s.data.toList.length:=by rw [← size_list rfl];omega
  obtain ⟨c,hc⟩:∃ c,s.data.toList[i]?=some c:=⟨_,List.getElem?_eq_getElem hlen⟩
  have e0:=ixS_at rfl hc
  have hk:=okByte_eq c
  have ei:(i:Int) + 1=((i + 1:Nat):Int):=by omega
  have hstep:okByte c=true→(s.data.toList.take (i + 1)).all okByte=true:=fun hok=>by
   rw [List.take_add_one,hc,List.all_append,ha]
   simp [hok]
  have hbad:okByte c=false→partB s=false:=fun hb=>by
   unfold partB
   have:s.data.toList.all okByte=false:=by
    rw [List.all_eq_false]
    exact ⟨c,List.mem_of_getElem? hc,by rw [hb];exact Bool.false_ne_true⟩
   rw [this];rfl
  have ihx:=ih (i + 1) (by omega)
  by_cases h1:(c.toNat:Int) < 33
  ·simp (disch:=(first | omega | (simp only [beq_iff_eq,sz_push,sz_put,SC,Nat.reduceAdd,Nat.reduceLeDiff];done) | (simp only [beq_iff_eq,ne_eq,sz_push,sz_put];omega) | assumption | fail)) only [e,e0,h1,SXB,SX,reduceIte,Int.reduceLT,Int.reduceLE,Int.reduceToNat,Int.reduceBEq,Int.reduceBNe,Nat.reduceAdd,Nat.reduceMul,Nat.reduceSub,Nat.reduceLeDiff]
   rw [hbad (by rw [hk,decide_eq_true h1];rfl)]
  ·by_cases h2:(126:Int) < c.toNat
   ·simp (disch:=(first | omega | (simp only [beq_iff_eq,sz_push,sz_put,SC,Nat.reduceAdd,Nat.reduceLeDiff];done) | (simp only [beq_iff_eq,ne_eq,sz_push,sz_put];omega) | assumption | fail)) only [e,e0,h1,h2,SXB,SX,reduceIte,Int.reduceLT,Int.reduceLE,Int.reduceToNat,Int.reduceBEq,Int.reduceBNe,Nat.reduceAdd,Nat.reduceMul,Nat.reduceSub,Nat.reduceLeDiff]
    rw [hbad (by rw [hk,decide_eq_true (show (c.toNat:Int) > 126 from h2)];simp)]
   ·cases h3:((c.toNat:Int) == 47) with
    | true =>
     simp (disch:=(first | omega | (simp only [beq_iff_eq,sz_push,sz_put,SC,Nat.reduceAdd,Nat.reduceLeDiff];done) | (simp only [beq_iff_eq,ne_eq,sz_push,sz_put];omega) | assumption | fail)) only [e,e0,h1,h2,h3,SXB,SX,reduceIte,Int.reduceLT,Int.reduceLE,Int.reduceToNat,Int.reduceBEq,Int.reduceBNe,Nat.reduceAdd,Nat.reduceMul,Nat.reduceSub,Nat.reduceLeDiff]
     rw [hbad (by rw [hk,h3];simp)]
    | false =>
     simp (disch:=(first | omega | (simp only [beq_iff_eq,sz_push,sz_put,SC,Nat.reduceAdd,Nat.reduceLeDiff];done) | (simp only [beq_iff_eq,ne_eq,sz_push,sz_put];omega) | assumption | fail)) only [e,e0,h1,h2,h3,SXB,SX,reduceIte,Int.reduceLT,Int.reduceLE,Int.reduceToNat,Int.reduceBEq,Int.reduceBNe,Nat.reduceAdd,Nat.reduceMul,Nat.reduceSub,Nat.reduceLeDiff]
     rw [ei]
     exact ihx (hstep (by rw [hk,decide_eq_false h1,decide_eq_false (show ¬ (c.toNat:Int) > 126 from h2),h3];rfl))
theorem part_ok {h:AH} {s:ByteArray} (hs:s.size ≤ 1099511627776):Ex Tryd.prog 44 [.string s].toArray h (.bool (partB s)) h:=by
 refine X44_ok ?_
 unfold X44
 simp (disch:=(first | omega | (simp only [beq_iff_eq,sz_push,sz_put,SC,Nat.reduceAdd,Nat.reduceLeDiff];done) | (simp only [beq_iff_eq,ne_eq,sz_push,sz_put];omega) | assumption | fail)) only [SXB,SX,reduceIte,Int.reduceLT,Int.reduceLE,Int.reduceToNat,Int.reduceBEq,Int.reduceBNe,Nat.reduceAdd,Nat.reduceMul,Nat.reduceSub,Nat.reduceLeDiff]
 exact part_loop hs s.size 0 (by omega) rfl
theorem split1_ok {h:AH} {s:ByteArray} (hs:s.size ≤ 1099511627776):Ex Tryd.prog 43 [.string s].toArray h (.bool (!partB s)) h:=by
 refine X43_ok ?_
 unfold X43
 simp (disch:=(first | omega | (simp only [beq_iff_eq,sz_push,sz_put,SC,Nat.reduceAdd,Nat.reduceLeDiff];done) | (simp only [beq_iff_eq,ne_eq,sz_push,sz_put];omega) | assumption | fail)) only [SXB,SX,reduceIte,Int.reduceLT,Int.reduceLE,Int.reduceToNat,Int.reduceBEq,Int.reduceBNe,Nat.reduceAdd,Nat.reduceMul,Nat.reduceSub,Nat.reduceLeDiff]
 refine HC.exact (part_ok hs) ?_
 simp (disch:=(first | omega | (simp only [beq_iff_eq,sz_push,sz_put,SC,Nat.reduceAdd,Nat.reduceLeDiff];done) | (simp only [beq_iff_eq,ne_eq,sz_push,sz_put];omega) | assumption | fail)) only [SXB,SX,reduceIte,Int.reduceLT,Int.reduceLE,Int.reduceToNat,Int.reduceBEq,Int.reduceBNe,Nat.reduceAdd,Nat.reduceMul,Nat.reduceSub,Nat.reduceLeDiff]
theorem ifunc_loop {h:AH} {l:List ByteArray} (hl:∀ s ∈ l,s.size ≤ 1099511627776) (hn:l.length ≤ 1099511627776) {Q:Res→AH→Prop} (hq:∀ k:Int,decide (k ≥ 0)=l.any (fun s=>!partB s)→Q (.ret (.int .i64 k)) h):∀ (d i:Nat),i + d=l.length→(l.take i).any (fun s=>!partB s)=false →
  H52_2 (VSl (l.map .string)) (.func (.func 43) #[] #[]) (.int .i64 (l.length:Nat)) (.int .i64 (i:Nat)) h Q:=by
 intro d
 induction d with
 | zero =>
  intro i hi ha
  refine X52_2_ok ?_
  unfold X52_2
  have e:¬ ((i:Int) < (l.length:Nat)):=by omega
  have hb:l.any (fun s=>!partB s)=false:=by
   have:l.take i=l:=List.take_of_length_le (by omega)
   rw [this] at ha;exact ha
  simp (disch:=(first | omega | (simp only [beq_iff_eq,sz_push,sz_put,SC,Nat.reduceAdd,Nat.reduceLeDiff];done) | (simp only [beq_iff_eq,ne_eq,sz_push,sz_put];omega) | assumption | fail)) only [e,SXB,SX,reduceIte,Int.reduceLT,Int.reduceLE,Int.reduceToNat,Int.reduceBEq,Int.reduceBNe,Nat.reduceAdd,Nat.reduceMul,Nat.reduceSub,Nat.reduceLeDiff]
  exact hq (-1) (by rw [hb];rfl)
 | succ d ih =>
  intro i hi ha
  refine X52_2_ok ?_
  unfold X52_2
  have e:(i:Int) < (l.length:Nat):=by omega
  have e0:(0:Int) ≤ (i:Nat):=by omega
  obtain ⟨s,hs⟩:∃ s,l[i]?=some s:=⟨_,List.getElem?_eq_getElem (by omega)⟩
  have er:(l.map Value.string)[i]?=some (.string s):=by rw [List.getElem?_map,hs];rfl
  have ei:(i:Int) + 1=((i + 1:Nat):Int):=by omega
  simp (disch:=(first | omega | (simp only [beq_iff_eq,sz_push,sz_put,SC,Nat.reduceAdd,Nat.reduceLeDiff];done) | (simp only [beq_iff_eq,ne_eq,sz_push,sz_put];omega) | assumption | fail)) only [e,e0,er,SXB,SX,reduceIte,Int.reduceLT,Int.reduceLE,Int.reduceToNat,Int.reduceBEq,Int.reduceBNe,Nat.reduceAdd,Nat.reduceMul,Nat.reduceSub,Nat.reduceLeDiff]
  refine HC.exact (split1_ok (hl s (List.mem_of_getElem? hs))) ?_
  cases hp:partB s with
  | false =>
   simp (disch:=(first | omega | (simp only [beq_iff_eq,sz_push,sz_put,SC,Nat.reduceAdd,Nat.reduceLeDiff];done) | (simp only [beq_iff_eq,ne_eq,sz_push,sz_put];omega) | assumption | fail)) only [SXB,SX,reduceIte,Int.reduceLT,Int.reduceLE,Int.reduceToNat,Int.reduceBEq,Int.reduceBNe,Nat.reduceAdd,Nat.reduceMul,Nat.reduceSub,Nat.reduceLeDiff]
   refine hq _ ?_
   have:l.any (fun s=>!partB s)=true:=List.any_eq_true.2 ⟨s,List.mem_of_getElem? hs,by rw [hp];rfl⟩
   rw [this];simp
  | true =>
   simp (disch:=(first | omega | (simp only [beq_iff_eq,sz_push,sz_put,SC,Nat.reduceAdd,Nat.reduceLeDiff];done) | (simp only [beq_iff_eq,ne_eq,sz_push,sz_put];omega) | assumption | fail)) only [SXB,SX,reduceIte,Int.reduceLT,Int.reduceLE,Int.reduceToNat,Int.reduceBEq,Int.reduceBNe,Nat.reduceAdd,Nat.reduceMul,Nat.reduceSub,Nat.reduceLeDiff]
   rw [ei]
   refine ih (i + 1) (by omega) ?_
   rw [List.take_add_one,hs,List.any_append,ha]
   simp [hp]
theorem cfunc_ok {h:AH} {l:List ByteArray} (hl:∀ s ∈ l,s.size ≤ 1099511627776) (hn:l.length ≤ 1099511627776):Ex Tryd.prog 42 [VSl (l.map .string),.func (.func 43) #[] #[]].toArray h (.bool (l.any fun s=>!partB s)) h:=by
 refine X42_ok ?_
 unfold X42
 simp (disch:=(first | omega | (simp only [beq_iff_eq,sz_push,sz_put,SC,Nat.reduceAdd,Nat.reduceLeDiff];done) | (simp only [beq_iff_eq,ne_eq,sz_push,sz_put];omega) | assumption | fail)) only [SXB,SX,reduceIte,Int.reduceLT,Int.reduceLE,Int.reduceToNat,Int.reduceBEq,Int.reduceBNe,Nat.reduceAdd,Nat.reduceMul,Nat.reduceSub,Nat.reduceLeDiff]
 refine X52_ok ?_
 unfold X52
 have hlen:(l.map Value.string).length=l.length:=List.length_map ..
 simp (disch:=(first | omega | (simp only [beq_iff_eq,sz_push,sz_put,SC,Nat.reduceAdd,Nat.reduceLeDiff];done) | (simp only [beq_iff_eq,ne_eq,sz_push,sz_put];omega) | assumption | fail)) only [hlen,SXB,SX,reduceIte,Int.reduceLT,Int.reduceLE,Int.reduceToNat,Int.reduceBEq,Int.reduceBNe,Nat.reduceAdd,Nat.reduceMul,Nat.reduceSub,Nat.reduceLeDiff]
 refine ifunc_loop hl hn (fun k hk=>?_) l.length 0 (by omega) rfl
 simp (disch:=(first | omega | (simp only [beq_iff_eq,sz_push,sz_put,SC,Nat.reduceAdd,Nat.reduceLeDiff];done) | (simp only [beq_iff_eq,ne_eq,sz_push,sz_put];omega) | assumption | fail)) only [SXB,SX,reduceIte,Int.reduceLT,Int.reduceLE,Int.reduceToNat,Int.reduceBEq,Int.reduceBNe,Nat.reduceAdd,Nat.reduceMul,Nat.reduceSub,Nat.reduceLeDiff]
 exact congrArg (fun b=>Res.ret (.bool b)) hk
def Gl (h:AH):Prop:=∃ m e fz so,h.get 0=some (.cells #[.int .i64 m] e fz,so)
theorem Gl.kp {h h':AH} (g:Gl h) (K:Kp h.size h h') (hs:3 ≤ h.size):Gl h':=by
 obtain ⟨m,e,fz,so,hg⟩:=g
 exact ⟨m,e,fz,so,(K.get _ (by omega)).trans hg⟩
theorem cutPrefix_ok {h:AH} (s p:ByteArray):Ex Tryd.prog 40 [.string s,.string p].toArray h (.tuple #[.string ⟨(Lib.trimPrefix s.data.toList p.data.toList).toArray⟩,.bool (Lib.hasPrefix s.data.toList p.data.toList)]) h :=
 Ex.of_calls (n:=13) rfl rfl fun w=>Tryd.strings_CutPrefix s p w
theorem flatC_str (l:List ByteArray):flatC (l.map Value.string)=l.map Value.string:=by
 induction l with
 | nil=>rfl
 | cons s l ih =>
  show Value.string s::flatC (l.map Value.string)=_
  rw [ih];rfl
theorem ssplit_ok {h:AH} (g:Gl h) {s:ByteArray} (hs:s.size < 4294967281):Ex Tryd.prog 41 [.string s,.string ⟨#[47]⟩].toArray h (VSl ((piecesB s).map .string)) h:=by
 obtain ⟨m,e,fz,so,hg⟩:=g
 refine Ex.of_alloc (g:=0) (m:=m) (n:=13) (s:=1) (t:=9) (of_decide_eq_true (by kernel_rfl)) hg rfl rfl (by omega) (fun v hv=>by obtain ⟨b,_,rfl⟩:=List.mem_map.1 hv;rfl)
  (fun v hv=>by rw [flatC_str] at hv;obtain ⟨b,_,rfl⟩:=List.mem_map.1 hv;rfl) fun w hw=>?_
 have:=Tryd.strings_Split s ⟨#[47]⟩ m w hs hw (by decide)
 have hlen:(piecesB s).length=Lib.countB s slash + 1:=Lib.splitB_all slash (by decide) 0 _ s rfl
 rw [flatC_str,List.length_map,hlen]
 exact this
theorem flat_mem {ps:List (List UInt8)} {y:List UInt8} (hy:y ∈ ps):y.length ≤ (flat ps).length:=by
 induction ps with
 | nil=>cases hy
 | cons a ps ih =>
  rw [flat_cons]
  rcases List.mem_cons.1 hy with rfl | hy
  ·simp;omega
  ·have:=ih hy
   simp;omega
theorem piecesB_mem {s x:ByteArray} (hx:x ∈ piecesB s):x.size ≤ s.size:=by
 rw [piecesB_eq] at hx
 obtain ⟨y,hy,rfl⟩:=List.mem_map.1 hx
 rw [mkB_size,size_len]
 obtain ⟨p,ps,h1,h2⟩:=segs_join s.data.toList
 rw [h1] at hy
 rw [← h2]
 rcases List.mem_cons.1 hy with rfl | hy
 ·simp
 ·have:=flat_mem hy
  simp;omega
theorem slV_str {l:List ByteArray} (h:l ≠ []):slV (l.map Value.string)=VSl (l.map Value.string):=by
 cases l with
 | nil=>exact absurd rfl h
 | cons a l=>rfl
theorem split_ok {h:AH} (g:Gl h) {p:ByteArray} (hp:p.size ≤ 1048576):Ex Tryd.prog 32 [.string p].toArray h (.tuple #[slV ((splitP p).1.map .string),.int .i64 (splitP p).2]) h:=by
 refine X32_ok ?_
 unfold X32
 have q0:(p.toList == (ByteArray.mk #[47]).toList)=(p.data.toList == [47]):=by rw [slashB,Lib.toList_data]
 unfold splitP
 by_cases h0:p.data.toList=[47]
 ·have q1:(p.data.toList == [47])=true:=by rw [h0];rfl
  rw [if_pos h0]
  simp (disch:=(first | omega | (simp only [beq_iff_eq,sz_push,sz_put,SC,Nat.reduceAdd,Nat.reduceLeDiff];done) | (simp only [beq_iff_eq,ne_eq,sz_push,sz_put];omega) | assumption | fail)) only [q0,q1,SXB,SX,reduceIte,Int.reduceLT,Int.reduceLE,Int.reduceToNat,Int.reduceBEq,Int.reduceBNe,Nat.reduceAdd,Nat.reduceMul,Nat.reduceSub,Nat.reduceLeDiff]
  first | done | rfl | exact ⟨rfl,rfl⟩ | trivial
 ·have q1:(p.data.toList == [47])=false:=beq_eq_false_iff_ne.2 h0
  rw [if_neg h0]
  simp (disch:=(first | omega | (simp only [beq_iff_eq,sz_push,sz_put,SC,Nat.reduceAdd,Nat.reduceLeDiff];done) | (simp only [beq_iff_eq,ne_eq,sz_push,sz_put];omega) | assumption | fail)) only [q0,q1,SXB,SX,reduceIte,Int.reduceLT,Int.reduceLE,Int.reduceToNat,Int.reduceBEq,Int.reduceBNe,Nat.reduceAdd,Nat.reduceMul,Nat.reduceSub,Nat.reduceLeDiff]
  refine HC.exact (cutPrefix_ok p ⟨#[47]⟩) ?_
  have hd:(ByteArray.mk #[47]).data.toList=[47]:=rfl
  rw [hd]
  generalize hr:(⟨(Lib.trimPrefix p.data.toList [47]).toArray⟩:ByteArray)=rest
  have hrs:rest.size ≤ p.size:=by
   rw [← hr,size_len]
   show (Lib.trimPrefix p.data.toList [47]).toArray.toList.length ≤ _
   rw [List.toList_toArray]
   unfold Lib.trimPrefix
   rw [size_len]
   split
   ·rw [List.length_drop];omega
   ·exact Nat.le_refl _
  generalize Lib.hasPrefix p.data.toList [47]=hb
  simp (disch:=(first | omega | (simp only [beq_iff_eq,sz_push,sz_put,SC,Nat.reduceAdd,Nat.reduceLeDiff];done) | (simp only [beq_iff_eq,ne_eq,sz_push,sz_put];omega) | assumption | fail)) only [SXB,SX,reduceIte,Int.reduceLT,Int.reduceLE,Int.reduceToNat,Int.reduceBEq,Int.reduceBNe,Nat.reduceAdd,Nat.reduceMul,Nat.reduceSub,Nat.reduceLeDiff]
  refine HC.exact (ssplit_ok g (by omega)) ?_
  have hlen:((piecesB rest).map Value.string).length=(piecesB rest).length:=List.length_map ..
  have e1:decide (256 < p.size)=decide ((256:Int) < (p.size:Nat)):=by rw [decide_eq_decide];omega
  have e2:decide (16 < (piecesB rest).length)=decide ((16:Int) < ((piecesB rest).length:Nat)):=by rw [decide_eq_decide];omega
  rw [e1,e2]
  have hne:piecesB rest ≠ []:=by rw [piecesB_eq];intro e;exact segs_ne _ (List.map_eq_nil_iff.1 e)
  cases hb with
  | false =>
   simp (disch:=(first | omega | (simp only [beq_iff_eq,sz_push,sz_put,SC,Nat.reduceAdd,Nat.reduceLeDiff];done) | (simp only [beq_iff_eq,ne_eq,sz_push,sz_put];omega) | assumption | fail)) only [SXB,SX,reduceIte,Int.reduceLT,Int.reduceLE,Int.reduceToNat,Int.reduceBEq,Int.reduceBNe,Nat.reduceAdd,Nat.reduceMul,Nat.reduceSub,Nat.reduceLeDiff]
   first | done | rfl | exact ⟨rfl,rfl⟩ | trivial
  | true =>
   by_cases h1:(256:Int) < (p.size:Nat)
   ·rw [decide_eq_true h1]
    simp (disch:=(first | omega | (simp only [beq_iff_eq,sz_push,sz_put,SC,Nat.reduceAdd,Nat.reduceLeDiff];done) | (simp only [beq_iff_eq,ne_eq,sz_push,sz_put];omega) | assumption | fail)) only [h1,SXB,SX,reduceIte,Int.reduceLT,Int.reduceLE,Int.reduceToNat,Int.reduceBEq,Int.reduceBNe,Nat.reduceAdd,Nat.reduceMul,Nat.reduceSub,Nat.reduceLeDiff]
    first | done | rfl | exact ⟨rfl,rfl⟩ | trivial
   ·rw [decide_eq_false h1]
    by_cases h2:(16:Int) < ((piecesB rest).length:Nat)
    ·rw [decide_eq_true h2]
     simp (disch:=(first | omega | (simp only [beq_iff_eq,sz_push,sz_put,SC,Nat.reduceAdd,Nat.reduceLeDiff];done) | (simp only [beq_iff_eq,ne_eq,sz_push,sz_put];omega) | assumption | fail)) only [h1,hlen,h2,SXB,SX,reduceIte,Int.reduceLT,Int.reduceLE,Int.reduceToNat,Int.reduceBEq,Int.reduceBNe,Nat.reduceAdd,Nat.reduceMul,Nat.reduceSub,Nat.reduceLeDiff]
     first | done | rfl | exact ⟨rfl,rfl⟩ | trivial
    ·rw [decide_eq_false h2]
     simp (disch:=(first | omega | (simp only [beq_iff_eq,sz_push,sz_put,SC,Nat.reduceAdd,Nat.reduceLeDiff];done) | (simp only [beq_iff_eq,ne_eq,sz_push,sz_put];omega) | assumption | fail)) only [h1,hlen,h2,SXB,SX,reduceIte,Int.reduceLT,Int.reduceLE,Int.reduceToNat,Int.reduceBEq,Int.reduceBNe,Nat.reduceAdd,Nat.reduceMul,Nat.reduceSub,Nat.reduceLeDiff]
     refine HC.exact (cfunc_ok (fun s hs=>by have:=piecesB_mem hs;omega) (by omega)) ?_
     cases ha:(piecesB rest).any (fun s=>!partB s) with
     | true =>
      simp (disch:=(first | omega | (simp only [beq_iff_eq,sz_push,sz_put,SC,Nat.reduceAdd,Nat.reduceLeDiff];done) | (simp only [beq_iff_eq,ne_eq,sz_push,sz_put];omega) | assumption | fail)) only [SXB,SX,reduceIte,Int.reduceLT,Int.reduceLE,Int.reduceToNat,Int.reduceBEq,Int.reduceBNe,Nat.reduceAdd,Nat.reduceMul,Nat.reduceSub,Nat.reduceLeDiff]
      first | done | rfl | exact ⟨rfl,rfl⟩ | trivial
     | false =>
      simp (disch:=(first | omega | (simp only [beq_iff_eq,sz_push,sz_put,SC,Nat.reduceAdd,Nat.reduceLeDiff];done) | (simp only [beq_iff_eq,ne_eq,sz_push,sz_put];omega) | assumption | fail)) only [SXB,SX,reduceIte,Int.reduceLT,Int.reduceLE,Int.reduceToNat,Int.reduceBEq,Int.reduceBNe,Nat.reduceAdd,Nat.reduceMul,Nat.reduceSub,Nat.reduceLeDiff]
      rw [slV_str hne]
end Go.Proofs.YtgdnfoijhdpppaaDoor.L
end
section
namespace Go.Ab
def GhU (P:Program) (h h':AH) (s s':Value):Prop:=∀ E w,RW P E h w→∃ E',RW P E' h' w∧Ext E w E' w∧∀ u,RV E s u→RV E' s' u
mutual
inductive Turn (s s':Value):Value→Value→Prop
 | here:Turn s s' s s'
 | same (v:Value):Turn s s' v v
 | agg {l l':List Value} (h:TurnL s s' l l'):Turn s s' (.agg l.toArray) (.agg l'.toArray)
 | tuple {l l':List Value} (h:TurnL s s' l l'):Turn s s' (.tuple l.toArray) (.tuple l'.toArray)
inductive TurnL (s s':Value):List Value→List Value→Prop
 | nil:TurnL s s' [] []
 | cons {v v':Value} {l l':List Value} (h:Turn s s' v v') (t:TurnL s s' l l'):TurnL s s' (v::l) (v'::l')
end
theorem RA.cons_inv {E:Ren} {v:Value} {l:List Value} {c:Array Value} (h:RA E (v::l).toArray c):∃ u m,c=(u::m).toArray∧RV E v u∧RA E l.toArray m.toArray:=by
 obtain ⟨h1,h2⟩:=h
 obtain ⟨cl⟩:=c
 cases cl with
 | nil=>simp at h1
 | cons u m =>
  refine ⟨u,m,rfl,h2 0 v u (by simp) (by simp),by simpa using h1,fun i a b ha hb=>h2 (i + 1) a b ?_ ?_⟩
  ·simpa using ha
  ·simpa using hb
theorem RA.cons {E:Ren} {v u:Value} {l m:List Value} (h:RV E v u) (t:RA E l.toArray m.toArray):RA E (v::l).toArray (u::m).toArray:=by
 refine ⟨by simpa using t.1,fun i a b ha hb=>?_⟩
 cases i with
 | zero=>simp at ha hb;subst ha hb;exact h
 | succ i=>exact t.2 i a b (by simpa using ha) (by simpa using hb)
theorem TurnL.ok {E E':Ren} {s s':Value} (le:E.Le E') (hs:∀ u,RV E s u→RV E' s' u):∀ {l l':List Value},TurnL s s' l l'→∀ c,RA E l.toArray c→RA E' l'.toArray c:=by
 intro l l' t
 refine TurnL.rec (motive_1:=fun v v' _=>∀ u,RV E v u→RV E' v' u) (motive_2:=fun l l' _=>∀ c,RA E l.toArray c→RA E' l'.toArray c) ?_ ?_ ?_ ?_ ?_ ?_ t
 ·exact hs
 ·exact fun v u h=>h.mono le
 ·intro l l' h ih u hu
  cases hu with
  | agg hn hh=>obtain ⟨a,b⟩:=ih _ ⟨hn,hh⟩;exact .agg a b
 ·intro l l' h ih u hu
  cases hu with
  | tuple hn hh=>obtain ⟨a,b⟩:=ih _ ⟨hn,hh⟩;exact .tuple a b
 ·intro c hc
  obtain ⟨h1,h2⟩:=hc
  refine ⟨h1,fun i v v' hv=>?_⟩
  simp at hv
 ·intro v v' l l' h t ih it c hc
  obtain ⟨u,m,rfl,h1,h2⟩:=hc.cons_inv
  exact RA.cons (ih u h1) (it _ h2)
theorem Turn.ok {E E':Ren} {s s':Value} (le:E.Le E') (hs:∀ u,RV E s u→RV E' s' u):∀ {v v':Value},Turn s s' v v'→∀ u,RV E v u→RV E' v' u:=by
 intro v v' t
 refine Turn.rec (motive_1:=fun v v' _=>∀ u,RV E v u→RV E' v' u) (motive_2:=fun l l' _=>∀ c,RA E l.toArray c→RA E' l'.toArray c) ?_ ?_ ?_ ?_ ?_ ?_ t
 ·exact hs
 ·exact fun v u h=>h.mono le
 ·intro l l' h ih u hu
  cases hu with
  | agg hn hh=>obtain ⟨a,b⟩:=ih _ ⟨hn,hh⟩;exact .agg a b
 ·intro l l' h ih u hu
  cases hu with
  | tuple hn hh=>obtain ⟨a,b⟩:=ih _ ⟨hn,hh⟩;exact .tuple a b
 ·intro c hc
  obtain ⟨h1,h2⟩:=hc
  refine ⟨h1,fun i v v' hv=>?_⟩
  simp at hv
 ·intro v v' l l' h t ih it c hc
  obtain ⟨u,m,rfl,h1,h2⟩:=hc.cons_inv
  exact RA.cons (ih u h1) (it _ h2)
theorem Gh.turn {P:Program} {h h':AH} {s s' v v':Value} (g:GhU P h h' s s') (t:Turn s s' v v'):Gh P h v h' v':=fun E w u r rv=>by
 obtain ⟨E',r',x,hs⟩:=g E w r
 exact ⟨E',r',x,t.ok x.le hs u rv⟩
theorem GhU.slice {P:Program} {h:AH} {k off len cap z:Nat} {c:Array Value} {e:TypeId} {s:Option Nat} {l:List Value} (hk:h.get k=some (.cells c e (0,0),s)) (hz:0 < z) (hl:∀ v ∈ l,v.cells.size=z)
  (hlen:l.length=len) (hc:len ≤ cap) (hf:∀ (i:Nat) v,(flatC l)[i]?=some v→c[off + i]?=some v) (hn:off + len * z ≤ c.size) :
  GhU P h (h.put k (some (.cells c e (0,1),s))) (.slice (some ⟨k,off,none⟩) len cap) (VSl l):=by
 intro E w r
 obtain ⟨b,o',hat,_⟩:=r.live k _ s hk
 obtain ⟨c',h1,h2,h3,h4⟩:=rw_ice r hk hat
 refine ⟨_,h3,h4,fun u rv=>?_⟩
 have go:∀ cap',cap ≤ cap'→RV (E.still b c') (VSl l) (.slice (some ⟨b,off,none⟩) len cap'):=by
  intro cap' hcap
  have:=RV.vs (E:=E.still b c') (l:=l) (b':=b) (off:=off) (cap:=cap') (s:=z) (c:=c') (by simp [Ren.still]) hz hl (by rw [hlen,h2];exact hn) (by omega) fun i v v' hv hv'=>h1 _ v v' (hf i v hv) hv'
  rw [hlen] at this
  exact this
 cases rv with
 | slice hat' hs=>rw [hat] at hat';cases hat';exact go _ (Nat.le_refl _)
 | softSlice hat' hs ho hcc hle=>rw [hat] at hat';cases hat';exact go _ hle
 | stub hs =>
  have:l=[]:=List.eq_nil_of_length_eq_zero hlen
  subst this
  exact .vs0
theorem Own.turn {P:Program} {e z:Nat} {h:AH} {s:Value} {l:List Value} (o:Own e z h s l) (hz:0 < z) (hl:∀ v ∈ l,v.cells.size=z) :
  (s=.slice none 0 0∧l=[]) ∨ ∃ h₂,GhU P h h₂ s (VSl l)∧(∀ k,blkOf s ≠ some k→h₂.get k=h.get k)∧h₂.size=h.size:=by
 cases o with
 | nil=>exact .inl ⟨rfl,rfl⟩
 | row hg hc hx hp =>
  rename_i k c x
  have hall:∀ v ∈ l++x,v.cells.size=z:=fun v hv=>(List.mem_append.1 hv).elim (hl v) (hx v)
  refine .inr ⟨_,GhU.slice (l:=l) hg hz hl rfl (by omega) (fun i v hv=>?_) ?_,fun j hj=>get_put_ne (fun e=>hj (by rw [e];rfl)),rfl⟩
  ·rw [hc,Nat.zero_add]
   have hlt:=(List.getElem?_eq_some_iff.1 hv).1
   simp only [List.getElem?_toArray]
   rw [show flatC (l++x)=flatC l++flatC x by simp [flatC],List.getElem?_append_left hlt]
   exact hv
  ·rw [hc];simp [flatC_length hall,Nat.add_mul]
theorem GhU.refl {P:Program} {h:AH} {s:Value}:GhU P h h s s:=fun E w r=>⟨E,r,.refl E w,fun u h=>h⟩
theorem Hld.turn {P:Program} {e z lo:Nat} {h:AH} {s:Value} {l:List Value} (o:Hld e z h lo s l) (hz:0 < z) (hl:∀ v ∈ l,v.cells.size=z) :
  ∃ h₂,GhU P h h₂ s (slV l)∧(∀ k,blkOf s ≠ some k→h₂.get k=h.get k)∧h₂.size=h.size:=by
 have:=(Own.of_hld o).turn (P:=P) hz hl
 cases o with
 | nil=>exact ⟨h,.refl,fun _ _=>rfl,rfl⟩
 | row hk hg hc hp =>
  rcases this with ⟨h1,_⟩ | h2
  ·cases h1
  ·rw [slV_of (fun e=>by rw [e] at hp;exact absurd hp (by simp))];exact h2
theorem RW.redo {P:Program} {E:Ren} {h:AH} {w:World} (r:RW P E h w) {k:Nat} {o o':Obj} {s:Option Nat} (hk:h.get k=some (o,s)) (hi:iced o' = iced o) (ho:∀ n ow,E.at_ k=some n→w.heap[n]?=some ow→RO E (E.soft k) o' ow) :
  RW P E (h.put k (some (o',s))) w:=by
 refine ⟨r.glob,fun k n hk=>by simpa using r.dom k n hk,r.sdom,fun j x t hj=>?_,fun i j n hi hj gi gj=>?_,r.frz,fun j x t n hj hn hf=>?_,r.sep⟩
 ·rw [AH.get_put] at hj
  split at hj
  ·rename_i e;subst e;cases hj
   obtain ⟨n,o1,p1,p2,p3,p4⟩:=r.live j o s hk
   exact ⟨n,o1,p1,p2,ho n o1 p1 p2,p4⟩
  ·exact r.live j x t hj
 ·refine r.inj i j n hi hj ?_ ?_
  ·rw [AH.get_put] at gi
   split at gi
   ·rename_i e;rw [e,hk];rfl
   ·exact gi
  ·rw [AH.get_put] at gj
   split at gj
   ·rename_i e;rw [e,hk];rfl
   ·exact gj
 ·rw [AH.get_put] at hj
  split at hj
  ·rename_i e;subst e;cases hj
   rw [hi];exact r.icy j o s n hk hn hf
  ·exact r.icy j x t n hj hn hf
theorem GhU.row {P:Program} {h h':AH} {s s':Value} {k:Nat} {c c':List Value} {e:TypeId} (g:GhU P h h' s s') (hk:h.get k=some (.cells c.toArray e (0,0),none)) (hk':h'.get k=h.get k) (t:TurnL s s' c c') :
  GhU P h (h'.put k (some (.cells c'.toArray e (0,0),none))) s s':=by
 intro E w r
 obtain ⟨E',r',x,hs⟩:=g E w r
 refine ⟨E',r'.redo (hk'.trans hk) rfl fun n ow hn how=>?_,x,hs⟩
 obtain ⟨m,o1,p1,p2,p3,p4⟩:=r.live k _ _ hk
 have:=x.le.at_ _ _ p1
 rw [hn] at this;cases this
 rw [how] at p2;cases p2
 have hsoft:=x.le.soft _ _ p1
 cases p3 with
 | hard hs1 hh=>exact .hard (hsoft.trans hs1) (t.ok x.le hs _ hh)
 | soft hs1 _ _ _ _ _=>rw [hs1] at p4;cases p4
theorem HC.ghOr {P:Program} {f:FuncId} {args:Array Value} {h:AH} {Q:Res→AH→Prop} (hh:HC P f args h fun r h₁=>(∃ v v' h₂,r=.ret v∧Gh P h₁ v h₂ v'∧Q (.ret v') h₂) ∨ Q r h₁):HC P f args h Q :=
 fun E w args' r ra=>(hh E w args' r ra).mono fun e w' ⟨E',res,h₁,q1,q2,q3,hq⟩=>by
  rcases hq with ⟨v,v',h₂,e1,g,hq⟩ | hq
  ·subst e1
   cases e with
   | returned u =>
    obtain ⟨E'',p1,p2,p3⟩:=g E' w' u q2 q1
    exact ⟨E'',.ret v',h₂,p3,p1,q3.trans p2,hq⟩
   | _=>cases q1
  ·exact ⟨E',res,h₁,q1,q2,q3,hq⟩
theorem Own.isSl {e z:Nat} {h:AH} {s:Value} {l:List Value} (o:Own e z h s l):∃ a n c,s=.slice a n c:=by
 cases o <;> exact ⟨_,_,_,rfl⟩
theorem Hld.isSl {e z lo:Nat} {h:AH} {s:Value} {l:List Value} (o:Hld e z h lo s l):∃ a n c,s=.slice a n c:=by
 cases o <;> exact ⟨_,_,_,rfl⟩
theorem ldN_full {n k:Nat} {h:AH} {c:Array Value} {e:TypeId} {fz:Nat × Nat} {s:Option Nat} (hg:h.get k=some (.cells c e fz,s)) (hc:c.size=n):ldN n h (.pointer (some ⟨k,0,none⟩))=some (.agg c):=by
 rw [ldN_ptr,hg,rowC_cells,Option.bind_some,if_pos (by omega)]
 congr 2
 rw [Nat.zero_add,← hc];simp
theorem stN_mid {n k off:Nat} {h:AH} {a b c:List Value} {v:Value} {e:TypeId} {s:Option Nat} (hg:h.get k=some (.cells (a++(b++c)).toArray e (0,0),s)) (ha:a.length=off) (hb:b.length=n) (hv:v.cells.size=n) (h1:∀ x ∈ v.cells.toList,x.oneCell' = true) :
  stN n h (.pointer (some ⟨k,off,none⟩)) v=some (h.put k (some (.cells (a++(v.cells.toList++c)).toArray e (0,0),s))):=by
 rw [stN_ptr,if_pos hv,hg,setC_cells (by simp;omega) (List.all_eq_true.2 h1),setFrom_mid (by simp;omega) ha.symm]
theorem stN_full {n k:Nat} {h:AH} {c:Array Value} {v:Value} {e:TypeId} {s:Option Nat} (hg:h.get k=some (.cells c e (0,0),s)) (hc:c.size=n) (hv:v.cells.size=n) (h1:∀ x ∈ v.cells.toList,x.oneCell' = true) :
  stN n h (.pointer (some ⟨k,0,none⟩)) v=some (h.put k (some (.cells v.cells e (0,0),s))):=by
 have:=stN_mid (a:=[]) (b:=c.toList) (c:=[]) (n:=n) (off:=0) (v:=v) (k:=k) (h:=h) (e:=e) (s:=s) (by simpa using hg) rfl (by simpa using hc) hv h1
 simpa using this
end Go.Ab
end
section
namespace Go.Proofs.YtgdnfoijhdpppaaDoor.L
open Go.Ab Go.Tr Go.Mh Go.Proofs.YtgdnfoijhdpppaaDoor.X
set_option maxRecDepth 100000
theorem flat_bd {P:Program} {n y:Nat} {c:BoundsCode} (h:n ≤ y):flat P (Instr.sliceBound (.int .i64 (n:Int)) y c)=some n:=by
 unfold Instr.sliceBound
 rw [flat_bind]
 show (flat P (pure (IntKind.i64,(n:Int)):Sem (IntKind × Int))).bind _=_
 rw [flat_pure,Option.bind_some]
 show flat P (if 0 ≤ (n:Int)∧(n:Int) ≤ y then _ else _)=_
 rw [if_pos ⟨by omega,by omega⟩]
 rfl
theorem sub_gen {P:Program} {t:TypeId} {h:AH} {s:ByteArray} {l g:Option Value} {i k:Nat} (hu:P.underlying t=some .string) (hp:(l.all plain && g.all plain)=true) (e2:flat P (Instr.sliceBounds false s.size s.size l g none)=some (i,k,s.size)):sliceV P h t (.string s) l g=some (.string (s.extract i k)):=by
 have e:flat P (Instr.sliceAt t (.string s) l g none)=some (.string (s.extract i k)):=by
  unfold Instr.sliceAt
  rw [flat_bind,flat_und hu,Option.bind_some]
  show flat P (Instr.slice t (.string s) l g none)=_
  unfold Instr.slice
  rw [flat_bind,flat_und hu,Option.bind_some]
  show flat P (Instr.sliceBounds false s.size s.size l g none >>= _)=_
  rw [flat_bind,e2,Option.bind_some]
  rfl
 show (if l.all plain && g.all plain then flatV P (Instr.sliceAt t (.string s) l g none) else none)=_
 rw [hp,if_pos rfl]
 unfold flatV
 rw [e]
 rfl
theorem sub_hi {h:AH} {s:ByteArray} {k:Nat} (hi:k ≤ s.size):sliceV Tryd.prog h 9 (.string s) none (some (.int .i64 (k:Int)))=some (.string (s.extract 0 k)):=by
 refine sub_gen (by kernel_rfl) rfl ?_
 unfold Instr.sliceBounds
 rw [flat_bind,flat_pure,Option.bind_some]
 show flat _ (Instr.sliceBound (.int .i64 k) s.size _ >>= _)=_
 rw [flat_bind,flat_bd hi,Option.bind_some]
 rfl
theorem sub_lo {h:AH} {s:ByteArray} {i:Nat} (hi:i ≤ s.size):sliceV Tryd.prog h 9 (.string s) (some (.int .i64 (i:Int))) none=some (.string (s.extract i s.size)):=by
 refine sub_gen (by kernel_rfl) rfl ?_
 unfold Instr.sliceBounds
 rw [flat_bind,flat_pure,Option.bind_some]
 show flat _ (pure s.size >>= _)=_
 rw [flat_bind,flat_pure,Option.bind_some]
 show flat _ (Instr.sliceBound (.int .i64 i) s.size _ >>= _)=_
 rw [flat_bind,flat_bd hi,Option.bind_some]
 rfl
theorem check_ok {h:AH} (g:Gl h) {p:ByteArray} (hp:p.size ≤ 1048576):Ex Tryd.prog 29 [.string p].toArray h (.int .i64 (code (Mh.okP p.data.toList))) h:=by
 refine X29_ok ?_
 unfold X29
 simp (disch:=(first | omega | (simp only [beq_iff_eq,sz_push,sz_put,SC,Nat.reduceAdd,Nat.reduceLeDiff];done) | (simp only [beq_iff_eq,ne_eq,sz_push,sz_put];omega) | assumption | fail)) only [SXB,SX,reduceIte,Int.reduceLT,Int.reduceLE,Int.reduceToNat,Int.reduceBEq,Int.reduceBNe,Nat.reduceAdd,Nat.reduceMul,Nat.reduceSub,Nat.reduceLeDiff]
 refine HC.exact (split_ok g hp) ?_
 rw [splitP_eq]
 simp (disch:=(first | omega | (simp only [beq_iff_eq,sz_push,sz_put,SC,Nat.reduceAdd,Nat.reduceLeDiff];done) | (simp only [beq_iff_eq,ne_eq,sz_push,sz_put];omega) | assumption | fail)) only [SXB,SX,reduceIte,Int.reduceLT,Int.reduceLE,Int.reduceToNat,Int.reduceBEq,Int.reduceBNe,Nat.reduceAdd,Nat.reduceMul,Nat.reduceSub,Nat.reduceLeDiff]
 first | done | rfl | exact ⟨rfl,rfl⟩ | trivial
theorem code_eq (b:Bool):(code b != 0) = !b:=by cases b <;> rfl
theorem lastIx_ok {h:AH} {s:ByteArray} (hs:s.size < 4611686018427387904):Ex Tryd.prog 45 [.string s,.int .u8 47].toArray h (.int .i64 (Lib.lastIndexByte s 47)) h :=
 Ex.of_calls (n:=13) rfl rfl fun w=>Tryd.strings_LastIndexByte s 47 hs w
theorem hasPre_ok {h:AH} (s p:ByteArray):Ex Tryd.prog 36 [.string s,.string p].toArray h (.bool (Lib.hasPrefix s.data.toList p.data.toList)) h :=
 Ex.of_calls (n:=13) rfl rfl fun w=>Tryd.strings_HasPrefix s p w
theorem okL_okP {l:List UInt8} (h:okL l=true):Mh.okP l=true:=by unfold Mh.okP;rw [h];simp
theorem okP_okL {l:List UInt8} (h:¬ l=[47]):Mh.okP l=okL l:=by unfold Mh.okP;rw [decide_eq_false h];rfl
theorem mkB_ext {s:ByteArray} {l:List UInt8} (h:s.data.toList=l):s=mkB l:=by rw [← h,mkB_of]
theorem ext_data (s:ByteArray) (a b:Nat):(s.extract a b).data.toList=(s.data.toList.drop a).take (b - a):=by
 simp
theorem cut_ok {h:AH} (g:Gl h) {p:ByteArray} (hp:p.size ≤ 1048576):Ex Tryd.prog 35 [.string p].toArray h (if okL p.data.toList then .tuple #[.string (mkB (upL p.data.toList)),.string (mkB (baseL p.data.toList)),.int .i64 0] else .tuple #[.string ⟨#[]⟩,.string ⟨#[]⟩,.int .i64 60]) h:=by
 refine X35_ok ?_
 unfold X35
 have q0:(p.toList == (ByteArray.mk #[47]).toList)=(p.data.toList == [47]):=by rw [slashB,Lib.toList_data]
 by_cases h0:p.data.toList=[47]
 ·have q1:(p.data.toList == [47])=true:=by rw [h0];rfl
  rw [h0,okL_root]
  rw [h0] at q0
  simp (disch:=(first | omega | (simp only [beq_iff_eq,sz_push,sz_put,SC,Nat.reduceAdd,Nat.reduceLeDiff];done) | (simp only [beq_iff_eq,ne_eq,sz_push,sz_put];omega) | assumption | fail)) only [q0,SXB,SX,reduceIte,Int.reduceLT,Int.reduceLE,Int.reduceToNat,Int.reduceBEq,Int.reduceBNe,Nat.reduceAdd,Nat.reduceMul,Nat.reduceSub,Nat.reduceLeDiff]
  first | done | rfl | exact ⟨rfl,rfl⟩ | trivial
 ·have q1:(p.data.toList == [47])=false:=beq_eq_false_iff_ne.2 h0
  simp (disch:=(first | omega | (simp only [beq_iff_eq,sz_push,sz_put,SC,Nat.reduceAdd,Nat.reduceLeDiff];done) | (simp only [beq_iff_eq,ne_eq,sz_push,sz_put];omega) | assumption | fail)) only [q0,q1,SXB,SX,reduceIte,Int.reduceLT,Int.reduceLE,Int.reduceToNat,Int.reduceBEq,Int.reduceBNe,Nat.reduceAdd,Nat.reduceMul,Nat.reduceSub,Nat.reduceLeDiff]
  refine HC.exact (check_ok g hp) ?_
  rw [okP_okL h0]
  cases ho:okL p.data.toList with
  | false =>
   simp (disch:=(first | omega | (simp only [beq_iff_eq,sz_push,sz_put,SC,Nat.reduceAdd,Nat.reduceLeDiff];done) | (simp only [beq_iff_eq,ne_eq,sz_push,sz_put];omega) | assumption | fail)) only [code_eq,SXB,SX,reduceIte,Int.reduceLT,Int.reduceLE,Int.reduceToNat,Int.reduceBEq,Int.reduceBNe,Nat.reduceAdd,Nat.reduceMul,Nat.reduceSub,Nat.reduceLeDiff]
   first | done | rfl | exact ⟨rfl,rfl⟩ | trivial
  | true =>
   simp (disch:=(first | omega | (simp only [beq_iff_eq,sz_push,sz_put,SC,Nat.reduceAdd,Nat.reduceLeDiff];done) | (simp only [beq_iff_eq,ne_eq,sz_push,sz_put];omega) | assumption | fail)) only [code_eq,SXB,SX,reduceIte,Int.reduceLT,Int.reduceLE,Int.reduceToNat,Int.reduceBEq,Int.reduceBNe,Nat.reduceAdd,Nat.reduceMul,Nat.reduceSub,Nat.reduceLeDiff]
   refine HC.exact (lastIx_ok (by omega)) ?_
   obtain ⟨init,last,e1,e2,e3,e4,e5,e6⟩:=last_split ho
   rw [lastIndex_at p (flat init) last e2 (part_plain e3),e4,e5]
   have hsz:p.size=(flat init).length + (last.length + 1):=by rw [size_len,e2];simp
   have hmax:(if (1:Int) > ((flat init).length:Nat) then (1:Int) else ((flat init).length:Nat))=((max (flat init).length 1:Nat):Int):=by split <;> omega
   have s1:sliceV Tryd.prog h 9 (.string p) none (some (.int .i64 ((max (flat init).length 1:Nat):Int)))=some (.string (p.extract 0 (max (flat init).length 1))):=sub_hi (by omega)
   have s2:sliceV Tryd.prog h 9 (.string p) (some (.int .i64 (((flat init).length + 1:Nat):Int))) none=some (.string (p.extract ((flat init).length + 1) p.size)):=sub_lo (by omega)
   have ei:((flat init).length:Int) + 1=(((flat init).length + 1:Nat):Int):=by omega
   have x1:p.extract 0 (max (flat init).length 1)=mkB (joinL init):=by
    refine mkB_ext ?_
    rw [ext_data,e2]
    unfold joinL
    by_cases hi:init=[]
    ·subst hi;rfl
    ·rw [if_neg hi]
     have:1 ≤ (flat init).length:=by
      cases init with
      | nil=>exact absurd rfl hi
      | cons a l=>rw [flat_cons];simp
     rw [show max (flat init).length 1 - 0=(flat init).length by omega,List.drop_zero,List.take_left' rfl]
   have x2:p.extract ((flat init).length + 1) p.size=mkB last:=by
    refine mkB_ext ?_
    rw [ext_data,e2]
    have:(flat init++47::last).drop ((flat init).length + 1)=last:=by
     rw [List.drop_append,List.drop_eq_nil_of_le (by omega),Nat.add_sub_cancel_left];rfl
    rw [this,List.take_of_length_le (by omega)]
   have hpl:([Value.int .i64 ((flat init).length:Nat),Value.int .i64 1].all (plainN 12))=true:=rfl
   rw [x1] at s1
   rw [x2] at s2
   simp (disch:=(first | omega | (simp only [beq_iff_eq,sz_push,sz_put,SC,Nat.reduceAdd,Nat.reduceLeDiff];done) | (simp only [beq_iff_eq,ne_eq,sz_push,sz_put];omega) | assumption | fail)) only [hpl,max_3,hmax,ei,s1,s2,SXB,SX,reduceIte,Int.reduceLT,Int.reduceLE,Int.reduceToNat,Int.reduceBEq,Int.reduceBNe,Nat.reduceAdd,Nat.reduceMul,Nat.reduceSub,Nat.reduceLeDiff]
   first | done | rfl | exact ⟨rfl,rfl⟩ | trivial
theorem base_ok {h:AH} (g:Gl h) {p:ByteArray} (hp:p.size ≤ 1048576):Ex Tryd.prog 26 [.string p].toArray h (if okL p.data.toList then .tuple #[.string (mkB (baseL p.data.toList)),.int .i64 0] else .tuple #[.string ⟨#[]⟩,.int .i64 60]) h:=by
 refine X26_ok ?_
 unfold X26
 simp (disch:=(first | omega | (simp only [beq_iff_eq,sz_push,sz_put,SC,Nat.reduceAdd,Nat.reduceLeDiff];done) | (simp only [beq_iff_eq,ne_eq,sz_push,sz_put];omega) | assumption | fail)) only [SXB,SX,reduceIte,Int.reduceLT,Int.reduceLE,Int.reduceToNat,Int.reduceBEq,Int.reduceBNe,Nat.reduceAdd,Nat.reduceMul,Nat.reduceSub,Nat.reduceLeDiff]
 refine HC.exact (cut_ok g hp) ?_
 cases okL p.data.toList <;> (simp (disch:=(first | omega | (simp only [beq_iff_eq,sz_push,sz_put,SC,Nat.reduceAdd,Nat.reduceLeDiff];done) | (simp only [beq_iff_eq,ne_eq,sz_push,sz_put];omega) | assumption | fail)) only [SXB,SX,reduceIte,Int.reduceLT,Int.reduceLE,Int.reduceToNat,Int.reduceBEq,Int.reduceBNe,Nat.reduceAdd,Nat.reduceMul,Nat.reduceSub,Nat.reduceLeDiff];first | done | rfl | exact ⟨rfl,rfl⟩ | trivial)
theorem parent_ok {h:AH} (g:Gl h) {p:ByteArray} (hp:p.size ≤ 1048576):Ex Tryd.prog 34 [.string p].toArray h (if okL p.data.toList then .tuple #[.string (mkB (upL p.data.toList)),.int .i64 0] else .tuple #[.string ⟨#[]⟩,.int .i64 60]) h:=by
 refine X34_ok ?_
 unfold X34
 simp (disch:=(first | omega | (simp only [beq_iff_eq,sz_push,sz_put,SC,Nat.reduceAdd,Nat.reduceLeDiff];done) | (simp only [beq_iff_eq,ne_eq,sz_push,sz_put];omega) | assumption | fail)) only [SXB,SX,reduceIte,Int.reduceLT,Int.reduceLE,Int.reduceToNat,Int.reduceBEq,Int.reduceBNe,Nat.reduceAdd,Nat.reduceMul,Nat.reduceSub,Nat.reduceLeDiff]
 refine HC.exact (cut_ok g hp) ?_
 cases okL p.data.toList <;> (simp (disch:=(first | omega | (simp only [beq_iff_eq,sz_push,sz_put,SC,Nat.reduceAdd,Nat.reduceLeDiff];done) | (simp only [beq_iff_eq,ne_eq,sz_push,sz_put];omega) | assumption | fail)) only [SXB,SX,reduceIte,Int.reduceLT,Int.reduceLE,Int.reduceToNat,Int.reduceBEq,Int.reduceBNe,Nat.reduceAdd,Nat.reduceMul,Nat.reduceSub,Nat.reduceLeDiff];first | done | rfl | exact ⟨rfl,rfl⟩ | trivial)
end Go.Proofs.YtgdnfoijhdpppaaDoor.L
end
