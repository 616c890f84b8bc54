import Derived.Shelf.Strings.SlTrimAscii
import Derived.Test.YtibigfkeaemanaaGreatDoorZ20
set_option linter.unusedVariables false
set_option linter.unusedSimpArgs false
section
namespace Go.Proofs.YtibigfkeaemanaaGreatDoor.L
open Go.Ab Go.Lang Go.Proofs.YtibigfkeaemanaaGreatDoor.X
set_option maxRecDepth 100000
theorem cutPrefix_ok {h:AH} (s p:ByteArray):Ex Tryz.prog 69 [.string s,.string p].toArray h (.tuple #[.string ⟨(Lib.trimPrefix s.data.toList p.data.toList).toArray⟩,.bool (Lib.hasPrefix s.data.toList p.data.toList)]) h :=
 Ex.of_calls (n:=12) (of_decide_eq_true (by kernel_rfl)) (of_decide_eq_true (by kernel_rfl)) fun w=>Tryz.strings_CutPrefix s p w
theorem trimLeft_ok {h:AH} (s:ByteArray):Ex Tryz.prog 71 [.string s,.string ⟨#[48]⟩].toArray h (.string ⟨(s.data.toList.dropWhile (· == 48)).toArray⟩) h :=
 Ex.of_calls (n:=12) (of_decide_eq_true (by kernel_rfl)) (of_decide_eq_true (by kernel_rfl)) fun w=>Tryz.strings_TrimLeft_one s 48 (by decide) w
def digitsB:ByteArray:=⟨#[48,49,50,51,52,53,54,55,56,57]⟩
theorem trim_ok {h:AH} (s:ByteArray) (h0:0 < s.size) (hs:s.size ≤ 9223372036854775807):Ex Tryz.prog 70 [.string s,.string ⟨#[48,49,50,51,52,53,54,55,56,57]⟩].toArray h (.string ⟨(Lib.trimS s.data.toList digitsB.data.toList).toArray⟩) h:=by
 refine Ex.of_below (n:=12) (of_decide_eq_true (by kernel_rfl)) (of_decide_eq_true (by kernel_rfl)) fun E w r=>?_
 have h116:((Tryz.prog).info? (Tryz.lays160_ren.t 116)).map (fun i=>(i.zero,i.size))=some (some (.agg (Array.replicate 256 (.bool false))),256):=by kernel_rfl
 refine (Any.strings_Trim_set Tryz.lays160 (zero_of_info h116).1 (zero_of_info h116).2 s digitsB w (of_decide_eq_true (by kernel_rfl)) h0 hs (of_decide_eq_true (by kernel_rfl)) (ascii_of_all (by kernel_rfl))).mono ?_
 rintro e w' ⟨h1,q,rfl⟩
 exact ⟨h1,(((Go.RowKit.Below.refl _ _).alloc (Nat.le_refl _) _).alloc (by simp) _).trans ⟨rfl,rfl,rfl,Nat.le_refl _,fun _ _=>rfl⟩,Nat.le_add_right w.drawn q⟩
theorem atoi18_ok {h:AH} {s:ByteArray} {n:Int} (hl:s.size ≤ 18) (hn:Lib.atoi s.data.toList=some n):Ex Tryz.prog 60 [.string s].toArray h (.tuple #[.int .i64 n,.nilIface]) h:=by
 refine Ex.of_below (n:=12) (of_decide_eq_true (by kernel_rfl)) (of_decide_eq_true (by kernel_rfl)) fun E w r=>?_
 refine (Tryz.strconv_Atoi s n hl hn w).mono ?_
 rintro e w' ⟨h1,t,rfl⟩
 exact ⟨h1,⟨rfl,rfl,rfl,by rw [Lib.bytesWorld_size];omega,fun k hk=>Lib.bytesWorld_at_old w 5 t k hk⟩,Nat.le_succ w.drawn⟩
structure Tab (h:AH):Prop where
 tab:∃ (e:TypeId) (fz:Nat × Nat) (s:Option Nat),h.get 5=some (.cells (Lib.pow10Tab.map fun z=>Value.int .u64 z).toArray e fz,s)
 max:∃ (m:Int) (e:TypeId) (fz:Nat × Nat) (s:Option Nat),h.get 1=some (.cells #[.int .i64 m] e fz,s)
 size:10 ≤ h.size
theorem Tab.kp {h h':AH} (T:Tab h) (K:Kp h.size h h'):Tab h':=by
 obtain ⟨⟨e,fz,s,h1⟩,⟨m,e2,fz2,s2,h2⟩,h3⟩:=T
 exact ⟨⟨e,fz,s,(K.get _ (by omega)).trans h1⟩,⟨m,e2,fz2,s2,(K.get _ (by omega)).trans h2⟩,Nat.le_trans h3 K.size⟩
theorem itoa_ok {h:AH} (T:Tab h) {n:Int} (hn:NumOK n):Ex Tryz.prog 56 [.int .i64 n].toArray h (.string (itoaB n)) h:=by
 obtain ⟨e,fz,so,ht⟩:=T.tab
 unfold NumOK at hn
 refine Ex.of_grows (n:=12) (of_decide_eq_true (by kernel_rfl)) (of_decide_eq_true (by kernel_rfl)) fun E w r=>?_
 exact Tryz.strconv_Itoa n (by omega) (by omega) w (r.tabIs (by kernel_rfl) (of_decide_eq_true (by kernel_rfl)) ht)
theorem index1_ok {h:AH} (s:ByteArray) (c:UInt8):Ex Tryz.prog 79 [.string s,.string ⟨#[c]⟩].toArray h (.int .i64 (Lib.indexByte s.data.toList c)) h :=
 Ex.of_calls (n:=12) (of_decide_eq_true (by kernel_rfl)) (of_decide_eq_true (by kernel_rfl)) fun w=>Tryz.strings_Index_one s c w
theorem index_ok {h:AH} (T:Tab h) (s sub:ByteArray) (hs:s.size < 4294967281):Ex Tryz.prog 79 [.string s,.string sub].toArray h (.int .i64 (Lib.index s.data.toList sub.data.toList)) h:=by
 obtain ⟨m,e,fz,so,h1⟩:=T.max
 exact Ex.of_calls1 (n:=12) (g:=1) (of_decide_eq_true (by kernel_rfl)) h1 rfl rfl rfl fun w hm=>Tryz.strings_Index s sub m w hs hm
theorem decFrom_digits:∀ (l:List UInt8) (a:Nat),(∀ c ∈ l,digit c=true)→Lib.decFrom a l=some (l.foldl (fun n c=>n * 10 + (c.toNat - 48)) a)
 | [],a,_=>rfl
 | c::l,a,h=>by
  have hc:=h c (by simp)
  simp only [digit,Bool.and_eq_true,decide_eq_true_eq,UInt8.le_iff_toNat_le] at hc
  have h1:(48:UInt8).toNat=48:=rfl
  have h2:(57:UInt8).toNat=57:=rfl
  unfold Lib.decFrom Lib.digitVal
  rw [if_pos (by omega)]
  exact decFrom_digits l _ fun d hd=>h d (List.mem_cons_of_mem _ hd)
theorem atoi_digits {l:List UInt8} (h:∀ c ∈ l,digit c=true):Lib.atoi (48::l)=some (digitsV l:Nat):=by
 simp only [Lib.atoi]
 rw [if_neg (by decide),if_neg (by decide)]
 unfold Lib.decNat
 rw [if_neg (by simp),decFrom_digits _ _ (fun c hc=>by
  cases hc with
  | head=>rfl
  | tail _ hc=>exact h c hc)]
 rfl
theorem digit_in (c:UInt8):digitsB.data.toList.contains c=digit c:=by
 obtain ⟨n⟩:=c
 revert n
 decide +kernel
theorem drop_nil_iff {p:UInt8→Bool}:∀ {l:List UInt8},l.dropWhile p=[] ↔ ∀ c ∈ l,p c=true
 | []=>by simp
 | c::l=>by
  rw [List.dropWhile_cons]
  by_cases h:p c=true
  ·rw [if_pos h,drop_nil_iff]
   simp [h]
  ·rw [if_neg h]
   simp [h]
theorem drop_head {p:UInt8→Bool}:∀ {l r:List UInt8} {a:UInt8},l.dropWhile p=a::r→p a=false
 | [],r,a,h=>by cases h
 | c::l,r,a,h=>by
  rw [List.dropWhile_cons] at h
  by_cases hc:p c=true
  ·rw [if_pos hc] at h;exact drop_head h
  ·rw [if_neg hc] at h;cases h;simpa using hc
theorem trim_nil {l:List UInt8}:(Lib.trimS l digitsB.data.toList=[]) ↔ l.all digit=true:=by
 have e:(fun c=>digitsB.data.toList.contains c)=digit:=funext digit_in
 unfold Lib.trimS Lib.trimLeftS Lib.trimRightS
 rw [e]
 constructor
 ·intro h
  apply List.all_eq_true.2
  intro c hc
  have h1:∀ c ∈ (l.reverse.dropWhile digit).reverse,digit c=true:=by
   exact drop_nil_iff.1 h
  have h2:l.reverse.dropWhile digit=[]:=by
   cases hd:l.reverse.dropWhile digit with
   | nil=>rfl
   | cons a r =>
    have h3:=h1 a (by rw [hd];simp)
    rw [drop_head hd] at h3;cases h3
  exact drop_nil_iff.1 h2 c (by simpa using hc)
 ·intro h
  have h2:l.reverse.dropWhile digit=[]:=drop_nil_iff.2 fun c hc=>List.all_eq_true.1 h c (by simpa using hc)
  rw [h2];rfl
theorem mk_data {l:List UInt8}:(ByteArray.mk l.toArray).data.toList=l:=by simp
theorem mk_list {l:List UInt8}:(ByteArray.mk l.toArray).toList=l:=by rw [Lib.toList_data]
theorem mk_sz {l:List UInt8}:(ByteArray.mk l.toArray).size=l.length:=rfl
theorem nil_list:(ByteArray.mk #[]).toList=[]:=by rw [Lib.toList_data]
theorem isNil_beq {l:List UInt8}:(l == [])=l.isEmpty:=by cases l <;> rfl
theorem un_neg {n:Int}:unV Tryz.prog .neg (.int .i64 n)=some (.int .i64 (IntKind.i64.wrap (0 - n))):=by kernel_rfl
theorem eparse_end {h:AH} {m:Bool} {n:Int} (hn:NumOK n) {Q:RQ} (hq:Q (.ret (.int .i64 (if m then -n else n))) h):K51_9 (.bool m) (.int .i64 n) h Q:=by
 refine X51_9_ok ?_
 unfold X51_9
 unfold NumOK at hn
 cases m with
 | false =>
  simp (disch:=(first | exact dz | fail)) only [SXB,SX,reduceIte,Int.reduceLT,Int.reduceLE,Int.reduceToNat,Int.reduceBEq,Int.reduceBNe,Nat.reduceAdd,Nat.reduceMul,Nat.reduceSub,Nat.reduceLeDiff]
  exact hq
 | true =>
  have e:IntKind.i64.wrap (0 - n) = -n:=(wrap64 (by omega) (by omega)).trans (by omega)
  simp (disch:=(first | exact dz | fail)) only [un_neg,e,SXB,SX,reduceIte,Int.reduceLT,Int.reduceLE,Int.reduceToNat,Int.reduceBEq,Int.reduceBNe,Nat.reduceAdd,Nat.reduceMul,Nat.reduceSub,Nat.reduceLeDiff]
  exact hq
theorem digs_le {l:List UInt8}:(l.dropWhile (· == 48)).length ≤ l.length:=(List.dropWhile_sublist _).length_le
theorem eparse_ok {h:AH} (s:ByteArray) (hs:s.size ≤ 4611686018427387904):Ex Tryz.prog 51 [.string s].toArray h (.int .i64 (parseV s)) h:=by
 refine X51_ok ?_
 unfold X51
 simp (disch:=(first | exact dz | fail)) only [SXB,SX,reduceIte,Int.reduceLT,Int.reduceLE,Int.reduceToNat,Int.reduceBEq,Int.reduceBNe,Nat.reduceAdd,Nat.reduceMul,Nat.reduceSub,Nat.reduceLeDiff]
 refine HC.exact (cutPrefix_ok s ⟨#[45]⟩) ?_
 have hm:Lib.hasPrefix s.data.toList (ByteArray.mk #[45]).data.toList=(s.data.toList.head? == some 45):=by
  show [45].isPrefixOf s.data.toList=_
  cases s.data.toList with
  | nil=>rfl
  | cons c l =>
   show (45 == c && true)=(some c == some 45)
   rw [Bool.and_true,Bool.eq_iff_iff,beq_iff_eq,beq_iff_eq]
   exact ⟨fun h=>by rw [h],fun h=>by cases h;rfl⟩
 have hd:Lib.trimPrefix s.data.toList (ByteArray.mk #[45]).data.toList=if s.data.toList.head? == some 45 then s.data.toList.drop 1 else s.data.toList:=by
  unfold Lib.trimPrefix
  rw [hm]
  rfl
 rw [hm,hd]
 have hp:parseV s=if (if s.data.toList.head? == some 45 then s.data.toList.drop 1 else s.data.toList).isEmpty || !(if s.data.toList.head? == some 45 then s.data.toList.drop 1 else s.data.toList).all digit then 0
   else if s.data.toList.head? == some 45 then -parseAbs (if s.data.toList.head? == some 45 then s.data.toList.drop 1 else s.data.toList) else parseAbs (if s.data.toList.head? == some 45 then s.data.toList.drop 1 else s.data.toList):=rfl
 have hlen:(if s.data.toList.head? == some 45 then s.data.toList.drop 1 else s.data.toList).length ≤ 4611686018427387904:=by
  have:s.data.toList.length=s.size:=by rw [Array.length_toList];rfl
  split
  ·simp at this ⊢;omega
  ·omega
 rw [hp]
 generalize (if s.data.toList.head? == some 45 then s.data.toList.drop 1 else s.data.toList)=d at hlen ⊢
 generalize (s.data.toList.head? == some 45)=m
 clear hm hd hp
 cases hd0:d.isEmpty with
 | true =>
  simp (disch:=(first | exact dz | fail)) only [mk_list,nil_list,isNil_beq,hd0,SXB,SX,reduceIte,Int.reduceLT,Int.reduceLE,Int.reduceToNat,Int.reduceBEq,Int.reduceBNe,Nat.reduceAdd,Nat.reduceMul,Nat.reduceSub,Nat.reduceLeDiff]
 | false =>
  have hpos:0 < d.length:=by cases d with | nil=>cases hd0 | cons _ _=>simp
  simp (disch:=(first | exact dz | fail)) only [mk_list,nil_list,isNil_beq,hd0,SXB,SX,reduceIte,Int.reduceLT,Int.reduceLE,Int.reduceToNat,Int.reduceBEq,Int.reduceBNe,Nat.reduceAdd,Nat.reduceMul,Nat.reduceSub,Nat.reduceLeDiff]
  refine HC.exact (trim_ok ⟨d.toArray⟩ (by rw [mk_sz];exact hpos) (by rw [mk_sz];omega)) ?_
  rw [mk_data]
  have ht:(Lib.trimS d digitsB.data.toList).isEmpty=d.all digit:=by
   rw [Bool.eq_iff_iff,List.isEmpty_iff];exact trim_nil
  generalize Lib.trimS d digitsB.data.toList=t at ht
  cases hall:d.all digit with
  | false =>
   rw [hall] at ht
   simp (disch:=(first | exact dz | fail)) only [mk_list,nil_list,isNil_beq,ht,SXB,SX,reduceIte,Int.reduceLT,Int.reduceLE,Int.reduceToNat,Int.reduceBEq,Int.reduceBNe,Nat.reduceAdd,Nat.reduceMul,Nat.reduceSub,Nat.reduceLeDiff]
  | true =>
   rw [hall] at ht
   simp (disch:=(first | exact dz | fail)) only [mk_list,nil_list,isNil_beq,ht,SXB,SX,reduceIte,Int.reduceLT,Int.reduceLE,Int.reduceToNat,Int.reduceBEq,Int.reduceBNe,Nat.reduceAdd,Nat.reduceMul,Nat.reduceSub,Nat.reduceLeDiff]
   refine HC.exact (trimLeft_ok ⟨d.toArray⟩) ?_
   rw [mk_data]
   have hdw:∀ c ∈ d.dropWhile (· == 48),digit c=true:=fun c hc=>List.all_eq_true.1 hall c ((List.dropWhile_sublist _).subset hc)
   have hl:=digs_le (l:=d)
   have hpa:parseAbs d=if (d.dropWhile (· == 48)).length < 18 then boundV (digitsV (d.dropWhile (· == 48))) else maxNum:=rfl
   rw [hpa]
   generalize d.dropWhile (· == 48)=z at hdw hl
   by_cases hz:z.length < 18
   ·have e1:((z.length:Nat):Int) < 18:=by omega
    have e2:(ByteArray.mk #[48]).size + (ByteArray.mk z.toArray).size ≤ 9223372036854775807:=by rw [mk_sz];show 1 + z.length ≤ _;omega
    have e3:(ByteArray.mk #[48]++ByteArray.mk z.toArray).data.toList=48::z:=by simp
    simp (disch:=(first | exact dz | fail)) only [mk_sz,e1,e2,bin_add_9 e2,SXB,SX,reduceIte,Int.reduceLT,Int.reduceLE,Int.reduceToNat,Int.reduceBEq,Int.reduceBNe,Nat.reduceAdd,Nat.reduceMul,Nat.reduceSub,Nat.reduceLeDiff]
    refine HC.exact (atoi18_ok (by rw [ByteArray.size_append,mk_sz];show 1 + z.length ≤ _;omega) (by rw [e3];exact atoi_digits hdw)) ?_
    simp (disch:=(first | exact dz | fail)) only [SXB,SX,reduceIte,Int.reduceLT,Int.reduceLE,Int.reduceToNat,Int.reduceBEq,Int.reduceBNe,Nat.reduceAdd,Nat.reduceMul,Nat.reduceSub,Nat.reduceLeDiff]
    refine HC.exact (bound_ok _) ?_
    refine eparse_end (num_bound _) ?_
    rw [if_pos hz]
    exact ⟨rfl,rfl⟩
   ·have e1:¬ ((z.length:Nat):Int) < 18:=by omega
    simp (disch:=(first | exact dz | fail)) only [mk_sz,e1,SXB,SX,reduceIte,Int.reduceLT,Int.reduceLE,Int.reduceToNat,Int.reduceBEq,Int.reduceBNe,Nat.reduceAdd,Nat.reduceMul,Nat.reduceSub,Nat.reduceLeDiff]
    refine eparse_end (by unfold NumOK;omega) ?_
    rw [if_neg hz]
    exact ⟨rfl,rfl⟩
theorem abs_num (l:List UInt8):NumOK (parseAbs l)∧NumOK (-parseAbs l):=by
 have h:-1099511627776 ≤ parseAbs l∧parseAbs l ≤ 1099511627776:=by
  unfold parseAbs
  simp only
  split
  ·exact num_bound _
  ·decide
 unfold NumOK
 omega
theorem parse_num (s:ByteArray):NumOK (parseV s):=by
 have h0:NumOK 0:=by unfold NumOK;omega
 unfold parseV
 simp only
 generalize (if (s.data.toList.head? == some 45)=true then s.data.toList.drop 1 else s.data.toList)=d
 split
 ·exact h0
 ·split
  ·exact (abs_num _).2
  ·exact (abs_num _).1
end Go.Proofs.YtibigfkeaemanaaGreatDoor.L
end
section
namespace Go.Proofs.YtibigfkeaemanaaGreatDoor.L
open Go.Ab Go.Lang Go.Proofs.YtibigfkeaemanaaGreatDoor.X
set_option maxRecDepth 100000
def strL (l:List ByteArray):List Value:=l.map Value.string
theorem strL_size (l:List ByteArray):∀ v ∈ strL l,v.cells.size=1:=fun v hv=>by
 obtain ⟨t,_,rfl⟩:=List.mem_map.1 hv
 rfl
def VR (v:Value) (x:V):Prop:=∃ s,Sl s (strL x.l)∧v=.agg #[.int .i64 x.n,.string x.t,s]
def encN (x:V):Value:=.agg #[.int .i64 x.n,.string x.t,.slice none 0 0]
theorem VR.of {x:V} (h:x.l=[]):VR (encN x) x:=⟨.slice none 0 0,by rw [h];exact .nil,rfl⟩
theorem below_encN (n:Nat) (x:V):Below n (encN x):=.agg fun v hv=>by
 simp at hv
 rcases hv with rfl | rfl | rfl
 ·exact .int _ _
 ·exact .string _
 ·exact .nilSlice 0 0
theorem Sl.sl1 {h:AH} {a:Value} {l:List Value} (ha:a.cells.size=1):sliceV Tryz.prog h 42 (VSl (a::l)) (some (.int .i64 1)) none=some (VSl l):=by
 have hu:(Tryz.prog).underlying 42=some (.slice 9):=by kernel_rfl
 have hi:∃ d,(Tryz.prog).info? 9=some d∧d.size=1:=⟨_,rfl,by kernel_rfl⟩
 obtain ⟨d,hd,hds⟩:=hi
 show opSlice Tryz.prog h 42 (VSl (a::l)) (some (.int .i64 1)) none=_
 unfold opSlice
 rw [hu]
 have hb:bounds? (a::l).toArray.size (a::l).toArray.size (some (.int .i64 1)) none=some (1,l.length + 1):=by
  unfold bounds? bound?
  have e1:(0:Int) ≤ 1∧(1:Int) ≤ ((a::l).toArray.size:Nat):=by simp;omega
  simp only [e1,if_true]
  simp
 simp only [VSl,hd,hb]
 have e1:((a::l).toArray[0]?).all (fun x=>decide (x.cells.size=d.size))=true:=by simp [ha,hds]
 rw [if_pos e1]
 simp [VSl]
theorem ia_str {l:List ByteArray} {i:Nat} {s:ByteArray} (h:l[i]?=some s):ia 1 (VSl (strL l)) (.int .i64 (i:Int))=some (FPv #[.string s]):=by
 rw [ia_vs,if_pos (by omega)]
 have:(strL l)[(i:Int).toNat]?=some (.string s):=by rw [Int.toNat_natCast,strL,List.getElem?_map,h];rfl
 rw [this]
 simp [Value.cells]
theorem fold_loop {f:Int→Int→Int} {ff:FuncId} (hb:hasBody Tryz.prog ff=true) (hf:∀ (h:AH) (a b:Int),NumOK a→NumOK b→Ex Tryz.prog ff [.int .i64 a,.int .i64 b].toArray h (.int .i64 (f a b)) h) {h:AH} {l:List ByteArray} (hl:∀ s ∈ l,s.size ≤ 4611686018427387904) (hlen:l.length ≤ 1099511627776) {Q:RQ} :
  ∀ (r:List ByteArray) (i:Nat) (n:Int) (h1:AH),l.drop i=r→i ≤ l.length→NumOK n→Kp h.size h h1→h.size < h1.size→(∃ c,h1.get h.size=some (.cells c 68 (0,0),none)∧c.size=3) →
  (∀ h2,Kp h.size h h2→Q (.ret (encN { n:=r.foldl (fun n x=>boundV (f n (parseV x))) n })) h2)→H38_5 (.func (.func ff) #[] #[]) (.pointer (some ⟨h.size,0,none⟩)) (.int .i64 n) (VSl (strL l)) (.int .i64 l.length) (.int .i64 i) h1 Q:=by
 intro r
 induction r with
 | nil =>
  intro i n h1 hd hi hn K hlt ⟨c,hg,hc⟩ hq
  have:=drop_nil hd
  refine X38_5_ok ?_
  unfold X38_5
  have e:¬ ((i:Int) < l.length):=by omega
  generalize hs3:stN 3=s3
  simp (disch:=(first | exact dz | fail)) only [e,SXB,SX,reduceIte,Int.reduceLT,Int.reduceLE,Int.reduceToNat,Int.reduceBEq,Int.reduceBNe,Nat.reduceAdd,Nat.reduceMul,Nat.reduceSub,Nat.reduceLeDiff]
  subst hs3
  refine bq_of (stN_full hg hc rfl (fun z hz=>by simp [Value.cells] at hz;rcases hz with rfl | rfl | rfl <;> rfl)) ?_
  simp (disch:=(first | exact dz | fail)) only [SXB,SX,reduceIte,Int.reduceLT,Int.reduceLE,Int.reduceToNat,Int.reduceBEq,Int.reduceBNe,Nat.reduceAdd,Nat.reduceMul,Nat.reduceSub,Nat.reduceLeDiff]
  refine hq _ ?_
  (repeat (first | exact Kp.refl _ _ | assumption | refine Kp.push ?_ _ _ (by first | omega | (simp only [sz_push,sz_put];omega)) | refine Kp.put ?_ _ _ (by first | omega | (simp only [sz_push,sz_put];omega))))
 | cons s r ih =>
  intro i n h1 hd hi hn K hlt hg hq
  obtain ⟨h1',h2',h3'⟩:=drop_cons hd
  refine X38_5_ok ?_
  unfold X38_5
  have e:(i:Int) < l.length:=by omega
  simp (disch:=(first | exact dz | fail)) only [e,ia_str h1',SXB,SX,reduceIte,Int.reduceLT,Int.reduceLE,Int.reduceToNat,Int.reduceBEq,Int.reduceBNe,Nat.reduceAdd,Nat.reduceMul,Nat.reduceSub,Nat.reduceLeDiff]
  refine HC.exact (eparse_ok s (hl s (List.mem_of_getElem? h1'))) ?_
  have hp:NumOK (parseV s):=parse_num s
  refine HC.exact (hf _ n (parseV s) hn hp) ?_
  try simp (disch:=(first | exact dz | fail)) only [SXB,SX,reduceIte,Int.reduceLT,Int.reduceLE,Int.reduceToNat,Int.reduceBEq,Int.reduceBNe,Nat.reduceAdd,Nat.reduceMul,Nat.reduceSub,Nat.reduceLeDiff]
  refine HC.exact (bound_ok _) ?_
  exact ih (i + 1) _ h1 h2' (by omega) (num_bound _) K hlt hg hq
theorem fold_ok {f:Int→Int→Int} {ff:FuncId} (hb:hasBody Tryz.prog ff=true) (hf:∀ (h:AH) (a b:Int),NumOK a→NumOK b→Ex Tryz.prog ff [.int .i64 a,.int .i64 b].toArray h (.int .i64 (f a b)) h) {h:AH} {s:Value} {l:List ByteArray} (hs:Sl s (strL l)) (hl:∀ s ∈ l,s.size ≤ 4611686018427387904) (hlen:l.length ≤ 1099511627776) :
  Ex Tryz.prog 38 [s,.func (.func ff) #[] #[]].toArray h (encN (foldV f l)) h:=by
 refine Ex.pureF (below_encN _ _) (X38_ok ?_)
 unfold X38
 cases l with
 | nil =>
  have e1:=hs.len
  have e0:((([]:List Value).length:Nat):Int) == 0:=rfl
  simp (disch:=(first | exact dz | fail)) only [e1,strL,e0,SXB,SX,reduceIte,Int.reduceLT,Int.reduceLE,Int.reduceToNat,Int.reduceBEq,Int.reduceBNe,Nat.reduceAdd,Nat.reduceMul,Nat.reduceSub,Nat.reduceLeDiff]
  refine ⟨rfl,?_⟩
  (repeat (first | exact Kp.refl _ _ | assumption | refine Kp.push ?_ _ _ (by first | omega | (simp only [sz_push,sz_put];omega)) | refine Kp.put ?_ _ _ (by first | omega | (simp only [sz_push,sz_put];omega))))
 | cons a l =>
  have hs':s=VSl (strL (a::l)):=by cases hs;rfl
  subst hs'
  have e0:((((l.length + 1:Nat):Int)) == 0)=false:=by simp;omega
  have e1:ia 1 (VSl (strL (a::l))) (.int .i64 0)=some (FPv #[.string a]):=ia_str (i:=0) rfl
  have e2:lenL (VSl (strL (a::l)))=some (.int .i64 ((l.length + 1:Nat):Int)):=by rw [lenL_vs];simp [strL]
  have e3:lenL (VSl (strL l))=some (.int .i64 (l.length:Nat)):=by rw [lenL_vs];simp [strL]
  have e4:sliceV Tryz.prog (h.push (.cells #[.int .i64 0,.string ⟨#[]⟩,.slice none 0 0] 68 (0,0)) none) 42 (VSl (strL (a::l))) (some (.int .i64 1)) none=some (VSl (strL l)):=Sl.sl1 (a:=.string a) rfl
  simp (disch:=(first | exact dz | fail)) only [e0,e1,e2,SXB,SX,reduceIte,Int.reduceLT,Int.reduceLE,Int.reduceToNat,Int.reduceBEq,Int.reduceBNe,Nat.reduceAdd,Nat.reduceMul,Nat.reduceSub,Nat.reduceLeDiff]
  refine HC.exact (eparse_ok a (hl a (by simp))) ?_
  simp (disch:=(first | exact dz | fail)) only [e3,e4,SXB,SX,reduceIte,Int.reduceLT,Int.reduceLE,Int.reduceToNat,Int.reduceBEq,Int.reduceBNe,Nat.reduceAdd,Nat.reduceMul,Nat.reduceSub,Nat.reduceLeDiff]
  refine fold_loop hb hf (fun x hx=>hl x (List.mem_cons_of_mem _ hx)) (by simp at hlen;omega) l 0 _ _ rfl (by omega) (parse_num a) ?_ ?_ ⟨_,get_push_eq rfl,rfl⟩ fun h2 K=>⟨rfl,K⟩
  ·(repeat (first | exact Kp.refl _ _ | assumption | refine Kp.push ?_ _ _ (by first | omega | (simp only [sz_push,sz_put];omega)) | refine Kp.put ?_ _ _ (by first | omega | (simp only [sz_push,sz_put];omega))))
  ·simp (disch:=(first | exact dz | fail)) only [SXB,SX,reduceIte,Int.reduceLT,Int.reduceLE,Int.reduceToNat,Int.reduceBEq,Int.reduceBNe,Nat.reduceAdd,Nat.reduceMul,Nat.reduceSub,Nat.reduceLeDiff]
   omega
theorem ends_ok {h:AH} {s:Value} {l:List ByteArray} (hs:Sl s (strL l)) (hlen:l.length ≤ 1099511627776) (b:Bool) :
  Ex Tryz.prog 42 [s,.bool b].toArray h (encN (if b then (match l.getLast? with | some s=>{ t:=cellV s } | none=>{}) else (match l.head? with | some s=>{ t:=cellV s } | none=>{}))) h:=by
 refine Ex.pureF (below_encN _ _) (X42_ok ?_)
 unfold X42
 cases l with
 | nil =>
  have e1:=hs.len
  have e0:((([]:List Value).length:Nat):Int) == 0:=rfl
  simp (disch:=(first | exact dz | fail)) only [e1,strL,e0,SXB,SX,reduceIte,Int.reduceLT,Int.reduceLE,Int.reduceToNat,Int.reduceBEq,Int.reduceBNe,Nat.reduceAdd,Nat.reduceMul,Nat.reduceSub,Nat.reduceLeDiff]
  refine ⟨by cases b <;> rfl,?_⟩
  (repeat (first | exact Kp.refl _ _ | assumption | refine Kp.push ?_ _ _ (by first | omega | (simp only [sz_push,sz_put];omega)) | refine Kp.put ?_ _ _ (by first | omega | (simp only [sz_push,sz_put];omega))))
 | cons a l =>
  have hs':s=VSl (strL (a::l)):=by cases hs;rfl
  subst hs'
  have e0:((((l.length + 1:Nat):Int)) == 0)=false:=by simp;omega
  have e2:lenL (VSl (strL (a::l)))=some (.int .i64 ((l.length + 1:Nat):Int)):=by rw [lenL_vs];simp [strL]
  cases b with
  | false =>
   have e1:ia 1 (VSl (strL (a::l))) (.int .i64 0)=some (FPv #[.string a]):=ia_str (i:=0) rfl
   simp (disch:=(first | exact dz | fail)) only [e0,e1,e2,SXB,SX,reduceIte,Int.reduceLT,Int.reduceLE,Int.reduceToNat,Int.reduceBEq,Int.reduceBNe,Nat.reduceAdd,Nat.reduceMul,Nat.reduceSub,Nat.reduceLeDiff]
   refine HC.exact (cell_ok a) ?_
   simp (disch:=(first | exact dz | fail)) only [SXB,SX,reduceIte,Int.reduceLT,Int.reduceLE,Int.reduceToNat,Int.reduceBEq,Int.reduceBNe,Nat.reduceAdd,Nat.reduceMul,Nat.reduceSub,Nat.reduceLeDiff]
   refine ⟨rfl,?_⟩
   (repeat (first | exact Kp.refl _ _ | assumption | refine Kp.push ?_ _ _ (by first | omega | (simp only [sz_push,sz_put];omega)) | refine Kp.put ?_ _ _ (by first | omega | (simp only [sz_push,sz_put];omega))))
  | true =>
   obtain ⟨z,hz⟩:∃ z,(a::l)[l.length]?=some z:=⟨_,List.getElem?_eq_getElem (by simp)⟩
   have hz2:(a::l).getLast?=some z:=by rw [List.getLast?_eq_getElem?];simpa using hz
   have e1:ia 1 (VSl (strL (a::l))) (.int .i64 ((l.length:Nat):Int))=some (FPv #[.string z]):=ia_str hz
   have e3:IntKind.i64.wrap ((((l.length + 1:Nat):Int)) - 1)=(l.length:Nat):=by
    simp at hlen
    exact (wrap64 (by omega) (by omega)).trans (by omega)
   rw [hz2]
   simp (disch:=(first | exact dz | fail)) only [e0,e1,e2,e3,SXB,SX,reduceIte,Int.reduceLT,Int.reduceLE,Int.reduceToNat,Int.reduceBEq,Int.reduceBNe,Nat.reduceAdd,Nat.reduceMul,Nat.reduceSub,Nat.reduceLeDiff]
   refine HC.exact (cell_ok z) ?_
   simp (disch:=(first | exact dz | fail)) only [SXB,SX,reduceIte,Int.reduceLT,Int.reduceLE,Int.reduceToNat,Int.reduceBEq,Int.reduceBNe,Nat.reduceAdd,Nat.reduceMul,Nat.reduceSub,Nat.reduceLeDiff]
   refine ⟨rfl,?_⟩
   (repeat (first | exact Kp.refl _ _ | assumption | refine Kp.push ?_ _ _ (by first | omega | (simp only [sz_push,sz_put];omega)) | refine Kp.put ?_ _ _ (by first | omega | (simp only [sz_push,sz_put];omega))))
end Go.Proofs.YtibigfkeaemanaaGreatDoor.L
end
