import Derived.KernelRfl
import Derived.Test.YtibigfkeaemanaaGreatDoorProg
import Derived.Test.YtibigfkeaemanaaGreatDoorZ14
import Derived.Test.YtibigfkeaemanaaGreatDoorZ24
set_option linter.unusedVariables false
set_option linter.unusedSimpArgs false
section
namespace Go.Proofs.YtibigfkeaemanaaGreatDoor.L
open Go.Ab Go.Lang Go.Proofs.YtibigfkeaemanaaGreatDoor.X
set_option maxRecDepth 100000
variable {ow:Bool}
theorem sig_at_0:opIndex Tryz.prog 157 (.agg sigCells.toArray) (.int .i64 0)=some (sigV (sigs[0]'(of_decide_eq_true (by kernel_rfl)))):=by kernel_rfl
theorem sig_at_1:opIndex Tryz.prog 157 (.agg sigCells.toArray) (.int .i64 1)=some (sigV (sigs[1]'(of_decide_eq_true (by kernel_rfl)))):=by kernel_rfl
theorem sig_at_2:opIndex Tryz.prog 157 (.agg sigCells.toArray) (.int .i64 2)=some (sigV (sigs[2]'(of_decide_eq_true (by kernel_rfl)))):=by kernel_rfl
theorem sig_at_3:opIndex Tryz.prog 157 (.agg sigCells.toArray) (.int .i64 3)=some (sigV (sigs[3]'(of_decide_eq_true (by kernel_rfl)))):=by kernel_rfl
theorem sig_at_4:opIndex Tryz.prog 157 (.agg sigCells.toArray) (.int .i64 4)=some (sigV (sigs[4]'(of_decide_eq_true (by kernel_rfl)))):=by kernel_rfl
theorem sig_at_5:opIndex Tryz.prog 157 (.agg sigCells.toArray) (.int .i64 5)=some (sigV (sigs[5]'(of_decide_eq_true (by kernel_rfl)))):=by kernel_rfl
theorem sig_at_6:opIndex Tryz.prog 157 (.agg sigCells.toArray) (.int .i64 6)=some (sigV (sigs[6]'(of_decide_eq_true (by kernel_rfl)))):=by kernel_rfl
theorem sig_at_7:opIndex Tryz.prog 157 (.agg sigCells.toArray) (.int .i64 7)=some (sigV (sigs[7]'(of_decide_eq_true (by kernel_rfl)))):=by kernel_rfl
theorem sig_at_8:opIndex Tryz.prog 157 (.agg sigCells.toArray) (.int .i64 8)=some (sigV (sigs[8]'(of_decide_eq_true (by kernel_rfl)))):=by kernel_rfl
theorem sig_at_9:opIndex Tryz.prog 157 (.agg sigCells.toArray) (.int .i64 9)=some (sigV (sigs[9]'(of_decide_eq_true (by kernel_rfl)))):=by kernel_rfl
theorem sig_at_10:opIndex Tryz.prog 157 (.agg sigCells.toArray) (.int .i64 10)=some (sigV (sigs[10]'(of_decide_eq_true (by kernel_rfl)))):=by kernel_rfl
theorem sig_at_11:opIndex Tryz.prog 157 (.agg sigCells.toArray) (.int .i64 11)=some (sigV (sigs[11]'(of_decide_eq_true (by kernel_rfl)))):=by kernel_rfl
theorem sig_at_12:opIndex Tryz.prog 157 (.agg sigCells.toArray) (.int .i64 12)=some (sigV (sigs[12]'(of_decide_eq_true (by kernel_rfl)))):=by kernel_rfl
theorem sig_at_13:opIndex Tryz.prog 157 (.agg sigCells.toArray) (.int .i64 13)=some (sigV (sigs[13]'(of_decide_eq_true (by kernel_rfl)))):=by kernel_rfl
theorem sig_at_14:opIndex Tryz.prog 157 (.agg sigCells.toArray) (.int .i64 14)=some (sigV (sigs[14]'(of_decide_eq_true (by kernel_rfl)))):=by kernel_rfl
theorem sig_at_15:opIndex Tryz.prog 157 (.agg sigCells.toArray) (.int .i64 15)=some (sigV (sigs[15]'(of_decide_eq_true (by kernel_rfl)))):=by kernel_rfl
theorem sig_at_16:opIndex Tryz.prog 157 (.agg sigCells.toArray) (.int .i64 16)=some (sigV (sigs[16]'(of_decide_eq_true (by kernel_rfl)))):=by kernel_rfl
theorem sig_at_17:opIndex Tryz.prog 157 (.agg sigCells.toArray) (.int .i64 17)=some (sigV (sigs[17]'(of_decide_eq_true (by kernel_rfl)))):=by kernel_rfl
theorem sig_at_18:opIndex Tryz.prog 157 (.agg sigCells.toArray) (.int .i64 18)=some (sigV (sigs[18]'(of_decide_eq_true (by kernel_rfl)))):=by kernel_rfl
theorem sig_at_19:opIndex Tryz.prog 157 (.agg sigCells.toArray) (.int .i64 19)=some (sigV (sigs[19]'(of_decide_eq_true (by kernel_rfl)))):=by kernel_rfl
theorem sig_at_20:opIndex Tryz.prog 157 (.agg sigCells.toArray) (.int .i64 20)=some (sigV (sigs[20]'(of_decide_eq_true (by kernel_rfl)))):=by kernel_rfl
theorem sig_at_21:opIndex Tryz.prog 157 (.agg sigCells.toArray) (.int .i64 21)=some (sigV (sigs[21]'(of_decide_eq_true (by kernel_rfl)))):=by kernel_rfl
theorem sig_at_22:opIndex Tryz.prog 157 (.agg sigCells.toArray) (.int .i64 22)=some (sigV (sigs[22]'(of_decide_eq_true (by kernel_rfl)))):=by kernel_rfl
theorem sig_at_23:opIndex Tryz.prog 157 (.agg sigCells.toArray) (.int .i64 23)=some (sigV (sigs[23]'(of_decide_eq_true (by kernel_rfl)))):=by kernel_rfl
theorem sig_at:∀ (i:Nat) (s:Sig),sigs[i]?=some s→opIndex Tryz.prog 157 (.agg sigCells.toArray) (.int .i64 i)=some (sigV s):=fun i s h=>match i with
 | 0=>by cases h;exact sig_at_0
 | 1=>by cases h;exact sig_at_1
 | 2=>by cases h;exact sig_at_2
 | 3=>by cases h;exact sig_at_3
 | 4=>by cases h;exact sig_at_4
 | 5=>by cases h;exact sig_at_5
 | 6=>by cases h;exact sig_at_6
 | 7=>by cases h;exact sig_at_7
 | 8=>by cases h;exact sig_at_8
 | 9=>by cases h;exact sig_at_9
 | 10=>by cases h;exact sig_at_10
 | 11=>by cases h;exact sig_at_11
 | 12=>by cases h;exact sig_at_12
 | 13=>by cases h;exact sig_at_13
 | 14=>by cases h;exact sig_at_14
 | 15=>by cases h;exact sig_at_15
 | 16=>by cases h;exact sig_at_16
 | 17=>by cases h;exact sig_at_17
 | 18=>by cases h;exact sig_at_18
 | 19=>by cases h;exact sig_at_19
 | 20=>by cases h;exact sig_at_20
 | 21=>by cases h;exact sig_at_21
 | 22=>by cases h;exact sig_at_22
 | 23=>by cases h;exact sig_at_23
 | n + 24=>by cases h
def fres:Option Sig→Value
 | some s=>.tuple #[sigV s,.bool true]
 | none=>.tuple #[sigV ⟨empty,empty,empty⟩,.bool false]
theorem below_sigV (n:Nat) (s:Sig):Below n (sigV s):=.agg fun v hv=>by
 simp at hv
 rcases hv with rfl | rfl | rfl <;> exact .string _
theorem below_fres (n:Nat) (o:Option Sig):Below n (fres o):=by
 cases o with
 | none =>
  refine .tuple fun v hv=>?_
  simp at hv
  rcases hv with rfl | rfl
  ·exact below_sigV _ _
  ·exact .bool _
 | some s =>
  refine .tuple fun v hv=>?_
  simp at hv
  rcases hv with rfl | rfl
  ·exact below_sigV _ _
  ·exact .bool _
theorem findS_cons (f:ByteArray) (s:Sig) (l:List Sig):findS f (s::l)=if eqT s.name f then some s else findS f l:=by
 unfold findS
 rw [List.find?_cons]
 cases eqT s.name f <;> rfl
theorem find_loop {h:AH} {f:ByteArray} {Q:RQ}:∀ (r:List Sig) (i:Nat) (h':AH),sigs.drop i=r→i ≤ 24→Kp h.size h h'→h.size < h'.size→(∃ x y z,h'.get h.size=some (.cells #[.string x,.string y,.string z] 137 (0,0),none)) →
  (∀ h'',Kp h.size h h''→Q (.ret (fres (findS f r))) h'')→H78_2 (.string f) (.pointer (some ⟨h.size,0,none⟩)) (.agg sigCells.toArray) (.int .i64 i) h' Q:=by
 intro r
 induction r with
 | nil =>
  intro i h' hd hi K hlt ⟨x,y,z,hg⟩ hq
  have:24 ≤ i:=drop_nil hd
  refine X78_2_ok ?_
  unfold X78_2
  have e:¬ ((i:Int) < 24):=by omega
  simp (disch:=first|exact dz|fail) only [e,hg,SXB,SX,simprocAttr]
  refine hq _ ?_
  (repeat (first | exact Kp.refl _ _ | assumption | refine Kp.push ?_ _ _ (by first | omega | (simp only [sz_push,sz_put];omega)) | refine Kp.put ?_ _ _ (by first | omega | (simp only [sz_push,sz_put];omega))))
 | cons s r ih =>
  intro i h' hd hi K hlt ⟨x,y,z,hg⟩ hq
  obtain ⟨h1,h2,h3⟩:=drop_cons hd
  have h4:i < 24:=h3
  have hks:=K.size
  refine X78_2_ok ?_
  unfold X78_2
  have e:(i:Int) < 24:=by omega
  simp (disch:=first|exact dz|fail) only [e,sig_at i s h1,sigV,SXB,SX,simprocAttr]
  rw [findS_cons] at hq
  unfold eqT at hq
  cases he:s.name.toList == f.toList with
  | true =>
   rw [he] at hq
   have hne:h.size ≠ h'.size:=by omega
   simp (disch:=first|exact dz|fail) only [hg,SXB,SX,simprocAttr]
   refine hq _ ?_
   (repeat (first | exact Kp.refl _ _ | assumption | refine Kp.push ?_ _ _ (by first | omega | (simp only [sz_push,sz_put];omega)) | refine Kp.put ?_ _ _ (by first | omega | (simp only [sz_push,sz_put];omega))))
  | false =>
   rw [he] at hq
   simp (disch:=first|exact dz|fail) only [SXB,SX,simprocAttr]
   refine ih (i + 1) _ h2 (by omega) ?_ ?_ ⟨x,y,z,?_⟩ hq
   ·(repeat (first | exact Kp.refl _ _ | assumption | refine Kp.push ?_ _ _ (by first | omega | (simp only [sz_push,sz_put];omega)) | refine Kp.put ?_ _ _ (by first | omega | (simp only [sz_push,sz_put];omega))))
   ·simp (disch:=first|exact dz|fail) only [SXB,SX,simprocAttr]
    omega
   ·simp (disch:=first|exact dz|fail) only [hg,SXB,SX,simprocAttr]
theorem find_ok {h:AH} (G:Glob h) (f:ByteArray):Ex Tryz.prog 78 [.string f].toArray h (fres (findS f sigs)) h:=by
 refine Ex.pureF (below_fres _ _) (X78_ok ?_)
 unfold X78
 obtain ⟨e,fz,s,hg⟩:=G.sig
 have hsz:=G.size
 have e72:sigCells.toArray.extract 0 72=sigCells.toArray:=by kernel_rfl
 have e72':(72 ≤ sigCells.length)=True:=by simp only [eq_iff_iff,iff_true];exact of_decide_eq_true (by kernel_rfl)
 have e73:List.extract sigCells 0 72=sigCells:=by kernel_rfl
 simp (disch:=first|exact dz|fail) only [hg,e72,e72',e73,SXB,SX,simprocAttr]
 refine find_loop sigs 0 _ rfl (by omega) ?_ ?_ ⟨⟨#[]⟩,⟨#[]⟩,⟨#[]⟩,?_⟩ fun h'' K=>⟨rfl,K⟩
 ·(repeat (first | exact Kp.refl _ _ | assumption | refine Kp.push ?_ _ _ (by first | omega | (simp only [sz_push,sz_put];omega)) | refine Kp.put ?_ _ _ (by first | omega | (simp only [sz_push,sz_put];omega))))
 ·simp (disch:=first|exact dz|fail) only [SXB,SX,simprocAttr]
  omega
 ·simp (disch:=first|exact dz|fail) only [SXB,SX,simprocAttr]
def numL (l:List UInt8):Nat:=l.foldl (fun n c=>10 * n + (c.toNat - 48)) 0
theorem numL_snoc (l:List UInt8) (c:UInt8):numL (l++[c])=10 * numL l + (c.toNat - 48):=by simp [numL]
theorem numL_lt:∀ (n:Nat) (l:List UInt8),l.length=n→(∀ c ∈ l,digit c=true)→numL l < 10 ^ n:=by
 intro n
 induction n with
 | zero=>intro l hl _;rw [List.eq_nil_of_length_eq_zero hl];exact Nat.one_pos
 | succ n ih =>
  intro l hl hd
  have hne:l ≠ []:=by intro e;rw [e] at hl;cases hl
  have e:=List.dropLast_concat_getLast hne
  rw [← e,numL_snoc]
  have h1:=ih l.dropLast (by simp;omega) fun c hc=>hd c (List.dropLast_subset l hc)
  have h2:=hd (l.getLast hne) (List.getLast_mem hne)
  simp only [digit,Bool.and_eq_true,decide_eq_true_eq,UInt8.le_iff_toNat_le] at h2
  have h3:(48:UInt8).toNat=48:=rfl
  have h4:(57:UInt8).toNat=57:=rfl
  rw [Nat.pow_succ]
  omega
theorem digit_range {c:UInt8} (h:digit c=true):48 ≤ c.toNat∧c.toNat ≤ 57:=by
 simp only [digit,Bool.and_eq_true,decide_eq_true_eq,UInt8.le_iff_toNat_le] at h
 exact h
theorem wrap8 {x:Int} (h1:0 ≤ x) (h2:x < 256):IntKind.u8.wrap x=x:=IntWalk.u8_in x ⟨h1,by omega⟩
theorem s2b {h:AH} {s:ByteArray}:convV Tryz.prog 9 80 (.string s) h=some (.slice (some ⟨h.size,0,none⟩) s.size s.size,h.push (.cells (s.data.map fun b=>.int .u8 b.toNat) 5 (0,0)) (some 1)):=by kernel_rfl
theorem size_list {s:ByteArray} {l:List UInt8} (hl:s.data.toList=l):s.size=l.length:=by rw [← hl,Array.length_toList];rfl
theorem get_bang {s:ByteArray} {l:List UInt8} (hl:s.data.toList=l) {i:Nat} {c:UInt8} (h:l[i]?=some c):s[i]! = c:=by
 have hlt:i < s.size:=by rw [size_list hl];exact (List.getElem?_eq_some_iff.1 h).1
 rw [getElem!_pos s i hlt]
 have h2:s.data[i]?=some c:=by rw [← Array.getElem?_toList,hl];exact h
 exact (Array.getElem?_eq_some_iff.1 h2).2
theorem ixS_at {s:ByteArray} {l:List UInt8} (hl:s.data.toList=l) {i:Nat} {c:UInt8} (h:l[i]?=some c):ixS (.string s) (.int .i64 i)=some (.int .u8 c.toNat):=by
 have hlt:i < s.size:=by rw [size_list hl];exact (List.getElem?_eq_some_iff.1 h).1
 show (if (0:Int) ≤ i∧(i:Int).toNat < s.size then some (Value.int .u8 (s[(i:Int).toNat]!).toNat) else none)=_
 rw [Int.toNat_natCast,if_pos ⟨by omega,hlt⟩,get_bang hl h]
theorem byte_at {s:ByteArray} {l:List UInt8} (hl:s.data.toList=l) {i:Nat} {c:UInt8} (h:l[i]?=some c):(s.data.map fun b=>Value.int .u8 (b.toNat:Nat))[i]?=some (.int .u8 c.toNat):=by
 subst hl
 rw [Array.getElem?_map,← Array.getElem?_toList,h]
 rfl
theorem atoi_loop {h:AH} {s:ByteArray} {l:List UInt8} (hl:s.data.toList=l) (hd:∀ c ∈ l,digit c=true) (hn:l.length ≤ 9) (h0:0 < l.length) {k:Nat} (hg:h.get k=some (.cells (s.data.map fun b=>.int .u8 b.toNat) 5 (0,0),some 1)) {Q:RQ}
  (hq:Q (.ret (.tuple #[.int .i64 (numL l:Nat),.nilIface])) h):∀ (r:List UInt8) (i:Nat),l.drop i=r→i ≤ l.length →
  H74_10 (.string s) (.int .i64 (numL (l.take i):Nat)) (.slice (some ⟨k,0,none⟩) s.size s.size) (.int .i64 l.length) (.int .i64 i) h Q:=by
 have hsz:=size_list hl
 intro r
 induction r with
 | nil =>
  intro i hdr hi
  have:=drop_nil hdr
  have hi':i=l.length:=by omega
  subst hi'
  refine X74_10_ok ?_
  unfold X74_10
  obtain ⟨c,hc⟩:∃ c,l[0]?=some c:=⟨l[0],List.getElem?_eq_getElem h0⟩
  have hdig:=digit_range (hd c (List.mem_of_getElem? hc))
  have e0:ixS (.string s) (.int .i64 0)=some (.int .u8 c.toNat):=ixS_at hl hc
  have e:¬ ((l.length:Int) < (l.length:Int)):=by omega
  have e2:((c.toNat:Int) == 45)=false:=by simp;omega
  simp (disch:=first|exact dz|fail) only [e,e0,e2,SXB,SX,simprocAttr]
  refine X74_19_ok ?_
  unfold X74_19
  rw [List.take_of_length_le (Nat.le_refl _)]
  exact hq
 | cons c r ih =>
  intro i hdr hi
  obtain ⟨h1,h2,h3⟩:=drop_cons hdr
  refine X74_10_ok ?_
  unfold X74_10
  have e:(i:Int) < l.length:=by omega
  have hdig:=digit_range (hd c (List.mem_of_getElem? h1))
  have hb:=numL_lt i (l.take i) (by simp;omega) fun c hc=>hd c (List.mem_of_mem_take hc)
  have hb2:10 ^ i ≤ 10 ^ 9:=Nat.pow_le_pow_right (by omega) (by omega)
  have e1:(0:Int) ≤ (i:Int)∧(i:Int) < (s.size:Nat):=by omega
  have e2:=byte_at hl h1
  have e3:IntKind.u8.wrap ((c.toNat:Int) - 48)=((c.toNat - 48:Nat):Int):=by rw [wrap8 (by omega) (by omega)];omega
  have e4:¬ (9 < ((c.toNat - 48:Nat):Int)):=by omega
  have hb3:numL (l.take i) < 1000000000:=Nat.lt_of_lt_of_le hb hb2
  have e7:((numL (l.take (i + 1)):Nat):Int)=(numL (l.take i):Nat) * 10 + ((c.toNat - 48:Nat):Int):=by
   rw [List.take_add_one,h1]
   show ((numL (l.take i++[c]):Nat):Int)=_
   rw [numL_snoc];omega
  have:=ih (i + 1) h2 (by omega)
  rw [e7] at this
  simp (disch:=first|exact dz|fail) only [e,e1,hg,e2,e3,e4,SXB,SX,simprocAttr]
  exact this
theorem iatoi_ok {h:AH} {s:ByteArray} (hd:isDigits s):Ex Tryz.prog 74 [.string s].toArray h (.tuple #[.int .i64 (Lang.num s:Nat),.nilIface]) h:=by
 obtain ⟨h1,h2,h3⟩:=hd
 have hsz:=size_list (s:=s) rfl
 refine Ex.pureF ?_ (X74_ok ?_)
 ·refine .tuple fun v hv=>?_
  simp at hv
  rcases hv with rfl | rfl
  ·exact .int _ _
  ·exact .nilIface
 unfold X74
 obtain ⟨c,hc⟩:∃ c,s.data.toList[0]?=some c:=⟨_,List.getElem?_eq_getElem (by omega)⟩
 have hdig:=digit_range (h3 c (List.mem_of_getElem? hc))
 have e0:ixS (.string s) (.int .i64 0)=some (.int .u8 c.toNat):=ixS_at rfl hc
 have e1:(0:Int) < (s.size:Nat):=by omega
 have e2:((s.size:Nat):Int) < 19:=by omega
 have e3:((c.toNat:Int) == 45)=false:=by simp;omega
 have e4:((c.toNat:Int) == 43)=false:=by simp;omega
 simp (disch:=first|exact dz|fail) only [e0,e1,e2,e3,e4,SXB,SX,simprocAttr]
 refine X74_8_ok ?_
 unfold X74_8
 simp (disch:=first|exact dz|fail) only [s2b,SXB,SX,simprocAttr]
 have:=atoi_loop (h:=h.push (.cells (s.data.map fun b=>.int .u8 b.toNat) 5 (0,0)) (some 1)) (s:=s) (l:=s.data.toList) rfl h3 (by omega) (by omega) (k:=h.size) (get_push_eq rfl) (Q:=fun r h₁=>r=.ret (.tuple #[.int .i64 (Lang.num s:Nat),.nilIface])∧Kp h.size h h₁) ⟨rfl,(Kp.refl _ _).push _ _ (Nat.le_refl _)⟩ s.data.toList 0 rfl (by omega)
 rw [← hsz] at this
 exact this
theorem atoi_ok {h:AH} {s:ByteArray} (hd:isDigits s):Ex Tryz.prog 60 [.string s].toArray h (.tuple #[.int .i64 (Lang.num s:Nat),.nilIface]) h:=by
 refine X60_ok ?_
 unfold X60
 simp (disch:=first|exact dz|fail) only [SXB,SX,simprocAttr]
 refine HC.exact (iatoi_ok hd) ?_
 simp (disch:=first|exact dz|fail) only [SXB,SX,simprocAttr]
theorem num_lt {s:ByteArray} (hd:isDigits s):Lang.num s < 1000000000:=by
 obtain ⟨h1,h2,h3⟩:=hd
 have hsz:=size_list (s:=s) rfl
 have:=numL_lt _ s.data.toList rfl h3
 have h4:10 ^ s.data.toList.length ≤ 10 ^ 9:=Nat.pow_le_pow_right (by omega) (by omega)
 exact Nat.lt_of_lt_of_le this h4
end Go.Proofs.YtibigfkeaemanaaGreatDoor.L
end
section
namespace Go.Proofs.YtibigfkeaemanaaGreatDoor.X
open Go.Ab
set_option maxRecDepth 100000
noncomputable def cod77:Code:=match Tryz.f77.body with | some c=>c | none=>.skip
theorem cod77_body:Tryz.f77.body=some cod77:=by kernel_rfl
noncomputable def D77r (t0:Value) (h:AH) (Q:AH→DM→Prop):Prop :=
 bq (ld1 h t0) fun t1 =>
 bq (nilV Tryz.prog t1) fun t2 =>
 bq (fa 4 1 t2) fun t3 =>
 bq (ld1 h t3) fun t4 =>
 bq (binV Tryz.prog .sub 3 (.tmp 4) (.const (Value.int .i64 1)) t4 (Value.int .i64 1) h) fun t5 =>
 bq (nilV Tryz.prog t1) fun t6 =>
 bq (fa 4 1 t6) fun t7 =>
 bq (stN 1 h t7 t5) fun h=>(fun _ h =>
 Q h .ret) undef h
theorem D77r_eq (t0:Value) (h:AH) (Q:AH→DM→Prop):D77r t0 h Q=wpMC Tryz.prog cod77 (argA [t0] Tryz.f77.ntmps) h .ret (endDM Q):=by kernel_rfl
theorem D77r_ok {t0:Value} {h:AH} {Q:AH→DM→Prop} (H:D77r t0 h Q):DC Tryz.prog 77 [t0] h .ret Q:=DC.of_text Tryz.func77 (by kernel_rfl) cod77_body (by kernel_rfl) (by kernel_rfl) ((D77r_eq t0 h Q).mp H)
noncomputable def D77p (t0:Value) (v:Value) (h:AH) (Q:AH→DM→Prop):Prop :=
 bq (ld1 h t0) fun t1 =>
 bq (nilV Tryz.prog t1) fun t2 =>
 bq (fa 4 1 t2) fun t3 =>
 bq (ld1 h t3) fun t4 =>
 bq (binV Tryz.prog .sub 3 (.tmp 4) (.const (Value.int .i64 1)) t4 (Value.int .i64 1) h) fun t5 =>
 bq (nilV Tryz.prog t1) fun t6 =>
 bq (fa 4 1 t6) fun t7 =>
 bq (stN 1 h t7 t5) fun h=>(fun _ h =>
 Q h (.pan v)) undef h
theorem D77p_eq (t0:Value) (v:Value) (h:AH) (Q:AH→DM→Prop):D77p t0 v h Q=wpMC Tryz.prog cod77 (argA [t0] Tryz.f77.ntmps) h (.pan v) (endDM Q):=by kernel_rfl
theorem D77p_ok {t0:Value} {v:Value} {h:AH} {Q:AH→DM→Prop} (H:D77p t0 v h Q):DC Tryz.prog 77 [t0] h (.pan v) Q:=DC.of_text Tryz.func77 (by kernel_rfl) cod77_body (by kernel_rfl) (by kernel_rfl) ((D77p_eq t0 v h Q).mp H)
noncomputable def cod16:Code:=match Tryz.f16.body with | some c=>c | none=>.skip
theorem cod16_body:Tryz.f16.body=some cod16:=by kernel_rfl
noncomputable def D16r (t0 t1:Value) (h:AH) (Q:AH→DM→Prop):Prop :=
 let t3:Value:=Value.nilIface
 let t2:Value:=t3
 let t4:Value:=t2
 bq (binV Tryz.prog .neq 20 (.tmp 4) (.const Value.nilIface) t4 Value.nilIface h) fun t5 =>
 condP (some t5)
 (let t6:Value:=t2
 bq (opTypeAssert Tryz.prog t6 25 false) fun t7 =>
 bq (stN 1 h t0 (Value.pointer none)) fun h=>(fun q2_2 h =>
 (True) ∧
 bq (stN 2 h t1 t7) fun h=>(fun q2_3 h =>
 (True) ∧
 Q h .ret) undef h) undef h)
 (Q h .ret)
theorem D16r_eq (t0 t1:Value) (h:AH) (Q:AH→DM→Prop):D16r t0 t1 h Q=wpMC Tryz.prog cod16 (argA [t0,t1] Tryz.f16.ntmps) h .ret (endDM Q):=by kernel_rfl
theorem D16r_ok {t0 t1:Value} {h:AH} {Q:AH→DM→Prop} (H:D16r t0 t1 h Q):DC Tryz.prog 16 [t0,t1] h .ret Q:=DC.of_text Tryz.func16 (by kernel_rfl) cod16_body (by kernel_rfl) (by kernel_rfl) ((D16r_eq t0 t1 h Q).mp H)
noncomputable def D16p (t0 t1:Value) (v:Value) (h:AH) (Q:AH→DM→Prop):Prop :=
 let t3:Value:=v
 let t2:Value:=t3
 let t4:Value:=t2
 bq (binV Tryz.prog .neq 20 (.tmp 4) (.const Value.nilIface) t4 Value.nilIface h) fun t5 =>
 condP (some t5)
 (let t6:Value:=t2
 bq (opTypeAssert Tryz.prog t6 25 false) fun t7 =>
 bq (stN 1 h t0 (Value.pointer none)) fun h=>(fun q2_2 h =>
 (True) ∧
 bq (stN 2 h t1 t7) fun h=>(fun q2_3 h =>
 (True) ∧
 Q h (.recd v)) undef h) undef h)
 (Q h (.recd v))
theorem D16p_eq (t0 t1:Value) (v:Value) (h:AH) (Q:AH→DM→Prop):D16p t0 t1 v h Q=wpMC Tryz.prog cod16 (argA [t0,t1] Tryz.f16.ntmps) h (.pan v) (endDM Q):=by kernel_rfl
theorem D16p_ok {t0 t1:Value} {v:Value} {h:AH} {Q:AH→DM→Prop} (H:D16p t0 t1 v h Q):DC Tryz.prog 16 [t0,t1] h (.pan v) Q:=DC.of_text Tryz.func16 (by kernel_rfl) cod16_body (by kernel_rfl) (by kernel_rfl) ((D16p_eq t0 t1 v h Q).mp H)
end Go.Proofs.YtibigfkeaemanaaGreatDoor.X
end
section
namespace Go.Proofs.YtibigfkeaemanaaGreatDoor.L
open Go.Ab Go.Lang Go.Proofs.YtibigfkeaemanaaGreatDoor.X
set_option maxRecDepth 100000
variable {ow:Bool}
def EPost (ow:Bool) (kp:Nat) (e:Tok) (bv:Value) (vs:List Var) (b l c:Nat) (h:AH) (rs:R ((Lang.Expr × Nat) × List Tok)) (r:Res) (h':AH):Prop:=match rs with
 | .ok ((x,k),ts')=>r=.ret (.tuple #[encE x,.int .u8 (k:Nat)])∧PSg ow h' kp e ts' bv vs b l c∧Adv kp h h'
 | .error f=>r=.pan (faultV f)∧PanS h' kp∧Adv kp h h'
def ExprOK (ow:Bool) (kp:Nat) (e:Tok) (bv:Value) (vs:List Var) (b l c:Nat) (rd:ExprRd) (ts:List Tok):Prop :=
 ∀ h,PSg ow h kp e ts bv vs b l c→Glob h→HC Tryz.prog 49 [.pointer (some ⟨kp,0,none⟩)].toArray h (EPost ow kp e bv vs b l c h (rd ts))
theorem nat_bne (a b:Nat):((a:Int) != (b:Int)) = !(a == b):=by
 show (!((a:Int) == (b:Int)))=_
 rw [int_beq]
theorem of_ok {h:AH} {kp:Nat} {e:Tok} {ts:List Tok} {bv:Value} {vs:List Var} {b l c:Nat} {rd:ExprRd} {Q:RQ} (HE:ExprOK ow kp e bv vs b l c rd ts) (hrd:RdOK rd) (ok:TokOK ts) (S:PSg ow h kp e ts bv vs b l c) (G:Glob h) (k:Nat)
  (hok:∀ x ts' h',ofK rd k ts=.ok (x,ts')→PSg ow h' kp e ts' bv vs b l c→Adv kp h h'→Q (.ret (encE x)) h') (herr:∀ f h',ofK rd k ts=.error f→PanS h' kp→Adv kp h h'→Q (.pan (faultV f)) h') :
  HC Tryz.prog 32 [.pointer (some ⟨kp,0,none⟩),.int .u8 (k:Nat)].toArray h Q:=by
 refine X32_ok ?_
 unfold X32
 have hlt:=S.lt
 simp (disch:=first|exact dz|fail) only [SXB,SX,simprocAttr]
 refine HC.mono (HE _ (S.same ?_) (G.kp ?_)) fun r h' hp=>?_
 ·(repeat (first | exact Kp.refl _ _ | assumption | refine Kp.push ?_ _ _ (by first | omega | (simp only [sz_push,sz_put];omega)) | refine Kp.put ?_ _ _ (by first | omega | (simp only [sz_push,sz_put];omega))))
 ·(repeat (first | exact Kp.refl _ _ | assumption | refine Kp.push ?_ _ _ (by first | omega | (simp only [sz_push,sz_put];omega)) | refine Kp.put ?_ _ _ (by first | omega | (simp only [sz_push,sz_put];omega))))
 cases hrs:rd ts with
 | error f =>
  rw [hrs] at hp
  obtain ⟨rfl,p,a⟩:=hp
  have A:Adv kp h h':=Adv.trans (.of_kp (by (repeat (first | exact Kp.refl _ _ | assumption | refine Kp.push ?_ _ _ (by first | omega | (simp only [sz_push,sz_put];omega)) | refine Kp.put ?_ _ _ (by first | omega | (simp only [sz_push,sz_put];omega)))))) a
  simp (disch:=first|exact dz|fail) only [SXB,SX,simprocAttr]
  exact herr f _ (by unfold ofK;rw [hrs]) p A
 | ok xk =>
  obtain ⟨⟨x,k'⟩,ts'⟩:=xk
  rw [hrs] at hp
  obtain ⟨rfl,S',a⟩:=hp
  have hat:=(hrd ts x k' ts' ok hrs).2.1
  have A:Adv kp h h':=Adv.trans (.of_kp (by (repeat (first | exact Kp.refl _ _ | assumption | refine Kp.push ?_ _ _ (by first | omega | (simp only [sz_push,sz_put];omega)) | refine Kp.put ?_ _ _ (by first | omega | (simp only [sz_push,sz_put];omega)))))) a
  have hof:ofK rd k ts=if k' == k then .ok (x,ts') else .error (163,headAt ts):=by unfold ofK;rw [hrs]
  have hasz:=a.size
  rw [sz_push] at hasz
  have g4:h'.get h.size=some (.cells #[.string ⟨#[]⟩,.int .i64 0,.int .i64 0,.string ⟨#[]⟩,.slice none 0 0] 64 (0,0),none):=by
   rw [a.get _ (by rw [sz_push];omega) (by omega)]
   exact get_push_eq rfl
  cases x with
  | mk op ax nx tx args =>
   rw [encE]
   have hne:h.size ≠ h'.size:=by omega
   simp (disch:=first|exact dz|fail) only [nat_bne,SXB,SX,simprocAttr]
   cases hk:k' == k with
   | true =>
    rw [hk] at hof
    simp (disch:=first|exact dz|fail) only [SXB,SX,simprocAttr]
    refine X32_4_ok ?_
    unfold X32_4
    simp (disch:=first|exact dz|fail) only [g4,SXB,SX,simprocAttr]
    have:=hok (.mk op ax nx tx args) ts' ((((h'.push (.cells #[.string ⟨#[]⟩,.int .i64 0,.int .i64 0,.string ⟨#[]⟩,.slice none 0 0] 64 (0,0)) none).put h'.size (some (.cells #[.string op,.int .i64 ax,.int .i64 nx,.string tx,slV (encEs args)] 64 (0,0),none))).put h.size (some (.cells #[.string op,.int .i64 ax,.int .i64 nx,.string tx,slV (encEs args)] 64 (0,0),none)))) hof (S.adv (by (repeat (first | exact Adv.refl _ _ | assumption | refine Adv.push ?_ _ _ | refine Adv.put ?_ _ _ (by first | exact .inl rfl | (right;first | omega | (simp only [sz_push,sz_put];omega)))))) ?_) (by (repeat (first | exact Adv.refl _ _ | assumption | refine Adv.push ?_ _ _ | refine Adv.put ?_ _ _ (by first | exact .inl rfl | (right;first | omega | (simp only [sz_push,sz_put];omega))))))
    ·rw [encE] at this;exact this
    ·simp (disch:=first|exact dz|fail) only [SXB,SX,simprocAttr]
     exact S'.row
   | false =>
    rw [hk] at hof
    have hax:ax=headAt ts:=hat
    simp (disch:=first|exact dz|fail) only [SXB,SX,simprocAttr]
    rw [hax]
    refine fail_ok (k:=163) ?_
    simp (disch:=first|exact dz|fail) only [SXB,SX,simprocAttr]
    refine herr _ _ hof ((S'.same (by (repeat (first | exact Kp.refl _ _ | assumption | refine Kp.push ?_ _ _ (by first | omega | (simp only [sz_push,sz_put];omega)) | refine Kp.put ?_ _ _ (by first | omega | (simp only [sz_push,sz_put];omega)))))).pan) ?_
    (repeat (first | exact Adv.refl _ _ | assumption | refine Adv.push ?_ _ _ | refine Adv.put ?_ _ _ (by first | exact .inl rfl | (right;first | omega | (simp only [sz_push,sz_put];omega)))))
theorem call1_row {h:AH} {kp k2:Nat} {a b c d:Value} {n:Int} {e2:TypeId} {s2:Option Nat} (h2:h.get k2=some (.cells #[.pointer (some ⟨kp,0,none⟩)] e2 (0,0),s2)) (hr:h.get kp=some (.cells #[a,b,c,d,.int .i64 n] 58 (0,0),none)) {K:AH→DM→Prop} :
  (K (h.put kp (some (.cells #[a,b,c,d,.int .i64 (IntKind.i64.wrap (n - 1))] 58 (0,0),none))) .ret→DC Tryz.prog 77 [.pointer (some ⟨k2,0,none⟩)] h .ret K) ∧
  ∀ v,K (h.put kp (some (.cells #[a,b,c,d,.int .i64 (IntKind.i64.wrap (n - 1))] 58 (0,0),none))) (.pan v)→DC Tryz.prog 77 [.pointer (some ⟨k2,0,none⟩)] h (.pan v) K:=by
 refine ⟨fun hK=>D77r_ok ?_,fun v hK=>D77p_ok ?_⟩
 ·unfold D77r
  simp (disch:=first|exact dz|fail) only [h2,hr,SXB,SX,simprocAttr]
  exact hK
 ·unfold D77p
  simp (disch:=first|exact dz|fail) only [h2,hr,SXB,SX,simprocAttr]
  exact hK
def restF (rd:ExprRd) (t:Tok) (ans:Nat) (ks:List UInt8) (first:Bool) (ts:List Tok) (es:List Lang.Expr):R ((Lang.Expr × Nat) × List Tok):=match argsF rd ks first ts with
 | .error f=>.error f
 | .ok (es',ts2)=>match Lang.want 4 mRp ts2 with
  | .error f=>.error f
  | .ok ts3=>.ok ((.mk t.text t.at_ 0 empty (es++es'),ans),ts3)
theorem restF_cons (rd:ExprRd) (t:Tok) (ans:Nat) (k:UInt8) (ks:List UInt8) (first:Bool) (ts:List Tok) (es:List Lang.Expr):restF rd t ans (k::ks) first ts es=match (if first then Except.ok ts else Lang.want 4 mComma ts) with
  | .error f=>.error f
  | .ok ts1=>match ofK rd k.toNat ts1 with
   | .error f=>.error f
   | .ok (x,ts2)=>restF rd t ans ks false ts2 (es++[x]):=by
 unfold restF
 rw [argsF]
 cases (if first then Except.ok ts else Lang.want 4 mComma ts) with
 | error f=>rfl
 | ok ts1 =>
  simp only
  cases ofK rd k.toNat ts1 with
  | error f=>rfl
  | ok x =>
   obtain ⟨x,ts2⟩:=x
   simp only
   cases argsF rd ks false ts2 with
   | error f=>rfl
   | ok y =>
    obtain ⟨es',ts3⟩:=y
    simp only
    cases Lang.want 4 mRp ts3 with
    | error f=>rfl
    | ok ts4=>simp
theorem encEs_snoc (es:List Lang.Expr) (x:Lang.Expr):encEs (es++[x])=encEs es++[encE x]:=by rw [encEs_eq,encEs_eq];simp
theorem res_call {h:AH} {a b:Value}:resultsV Tryz.prog h res62 [some a,some b]=seqO [ldN 5 h a,some b]:=by kernel_rfl
structure CL (h h':AH) (kp q:Nat) (s:Sig) (t:Tok) (es:List Lang.Expr) (sv:Value):Prop where
 box:h'.get h.size=some (.cells #[.pointer (some ⟨kp,0,none⟩)] 52 (0,0),none)
 out:h'.get (h.size + 2)=some (.cells #[.string ⟨#[]⟩,.int .i64 0,.int .i64 0,.string ⟨#[]⟩,.slice none 0 0] 64 (0,0),none)
 sig:h'.get q=some (.cells #[.string s.name,.string s.args,.string s.ans] 137 (0,0),none)
 cur:h'.get (q + 1)=some (.cells #[.string t.text,.int .i64 t.at_,.int .i64 0,.string ⟨#[]⟩,sv] 64 (0,0),none)
 hld:Hld 64 5 h' (q + 2) sv (encEs es)
 lt:∀ k,blkOf sv=some k→k < h'.size
 size:q + 2 ≤ h'.size
 ge:h.size + 3 ≤ q
theorem CL.adv {h h1 h2:AH} {kp q:Nat} {s:Sig} {t:Tok} {es:List Lang.Expr} {sv:Value} (x:CL h h1 kp q s t es sv) (a:Adv kp h1 h2) (hk:kp < h.size):CL h h2 kp q s t es sv:=by
 have h1s:=x.size
 have h1q:=x.ge
 have g:∀ k,h.size ≤ k→k < h1.size→h2.get k=h1.get k:=fun k p q=>a.get k q (by omega)
 refine ⟨(g _ (by omega) (by omega)).trans x.box,(g _ (by omega) (by omega)).trans x.out,(g _ (by omega) (by omega)).trans x.sig,(g _ (by omega) (by omega)).trans x.cur,x.hld.mono fun k hk=>?_,fun k hk=>Nat.lt_of_lt_of_le (x.lt k hk) a.size,Nat.le_trans x.size a.size,x.ge⟩
 have:=x.hld.key k hk
 exact g k (by omega) (x.lt k hk)
end Go.Proofs.YtibigfkeaemanaaGreatDoor.L
end
section
namespace Go.Proofs.YtibigfkeaemanaaGreatDoor.L
open Go.Ab Go.Lang Go.Proofs.YtibigfkeaemanaaGreatDoor.X
set_option maxRecDepth 100000
variable {ow:Bool}
def QG (Q:RQ) (r:Res) (h:AH):Prop:=(∃ v v' h₂,r=.ret v∧Gh Tryz.prog h v h₂ v'∧Q (.ret v') h₂) ∨ Q r h
def dfn (k2:Nat):List Value:=[.func (.func 77) #[] #[.pointer (some ⟨k2,0,none⟩)]]
theorem call_pan {h h1:AH} {kp:Nat} {f:Nat × Nat} {vals:List (Option Value)} {Q:RQ} (hlt:kp < h.size) (hbox:h1.get h.size=some (.cells #[.pointer (some ⟨kp,0,none⟩)] 52 (0,0),none)) (A:Adv kp h h1) (p:PanS h1 kp)
  (hq:∀ h3,PanS h3 kp→Adv kp h h3→Q (.pan (faultV f)) h3):panD Tryz.prog res62 (QG Q) (dfn h.size) vals (faultV f) h1:=by
 obtain ⟨a,b,c,d,n,hr⟩:=p
 unfold panD dfn
 simp (disch:=first|exact dz|fail) only [SXB,SX,simprocAttr]
 refine (call1_row hbox hr).2 _ ?_
 simp (disch:=first|exact dz|fail) only [SXB,SX,simprocAttr]
 refine .inr (hq _ ⟨a,b,c,d,_,get_put_eq rfl⟩ ?_)
 (repeat (first | exact Adv.refl _ _ | assumption | refine Adv.push ?_ _ _ | refine Adv.put ?_ _ _ (by first | exact .inl rfl | (right;first | omega | (simp only [sz_push,sz_put];omega)))))
theorem hld_isSl {e z lo:Nat} {h:AH} {s:Value} {l:List Value} (o:Hld e z h lo s l):∃ a n c,s=.slice a n c:=by
 cases o <;> exact ⟨_,_,_,rfl⟩
theorem call_loop {h:AH} {kp q n:Nat} {e t:Tok} {ts0:List Tok} {bv:Value} {vs:List Var} {b l c ans:Nat} {rd:ExprRd} {s:Sig} {al:List UInt8} {ac:UInt8} {Q:RQ} (hk:10 ≤ kp) (HE:∀ ts,TokOK ts→ts.length ≤ n→ExprOK ow kp e bv vs b l (c + 1) rd ts) (hrd:RdOK rd) (hc:c ≤ 8)
  (S0:PSg ow h kp e ts0 bv vs b l c) (G0:Glob h) (has:s.args.data.toList=al) (hal:al.length ≤ 8) (hac:s.ans.data.toList[0]?=some ac) (hans:ac.toNat=ans) :
  ∀ (ks:List UInt8) (i:Nat) (ts1:List Tok) (h1:AH) (es:List Lang.Expr) (sv:Value),al.drop i=ks→i ≤ al.length→TokOK ts1→ts1.length ≤ n→PSg ow h1 kp e ts1 bv vs b l (c + 1)→Adv kp h h1→CL h h1 kp q s t es sv→es.length=i →
   (∀ x k ts3 h3,restF rd t ans ks (i == 0) ts1 es=.ok ((x,k),ts3)→PSg ow h3 kp e ts3 bv vs b l c→Adv kp h h3→Q (.ret (.tuple #[encE x,.int .u8 (k:Nat)])) h3) →
   (∀ f h3,restF rd t ans ks (i == 0) ts1 es=.error f→PanS h3 kp→Adv kp h h3→Q (.pan (faultV f)) h3) →
   H62_11 (.pointer (some ⟨h.size,0,none⟩)) (.pointer (some ⟨h.size + 2,0,none⟩)) (.pointer (some ⟨q,0,none⟩)) (.pointer (some ⟨q + 1,0,none⟩)) (.int .i64 al.length) (.int .i64 i) (dfn h.size) h1 (QG Q):=by
 have hlt:=S0.lt
 intro ks
 induction ks with
 | nil =>
  intro i ts1 h1 es sv hd hi ok hn S A C hes hok herr
  have:=drop_nil hd
  obtain ⟨sa,sn,sc,rfl⟩:=hld_isSl C.hld
  refine X62_11_ok ?_
  unfold X62_11
  have e1:¬ ((i:Int) < al.length):=by omega
  have gb:=C.box
  simp (disch:=first|exact dz|fail) only [e1,gb,SXB,SX,simprocAttr]
  refine want_ok S ok.ne 4 mRp (fun ts3 h2 hw S2 a2=>?_) (fun f hw=>?_)
  ·have A2:=A.trans a2
   have C2:=C.adv a2 hlt
   have g1:=C2.box
   have g2:=C2.out
   have g3:=C2.sig
   have g4:=C2.cur
   have hs2:=C2.size
   have hqq:=C2.ge
   have e2:ixS (.string s.ans) (.int .i64 0)=some (.int .u8 ac.toNat):=ixS_at rfl hac
   have gk:=S2.row
   unfold prow at gk
   simp (disch:=first|exact dz|fail) only [g1,g2,g3,g4,e2,SXB,SX,simprocAttr]
   have hlo:∀ k,blkOf (.slice sa sn sc)=some k→q + 2 ≤ k:=C2.hld.key
   unfold retV dfn
   simp (disch:=first|exact dz|fail) only [SXB,SX,simprocAttr]
   refine (call1_row (kp:=kp) (k2:=h.size) (e2:=52) (s2:=none) (a:=tokV e ts3) (b:=bv) (c:=.int .i64 b) (d:=.int .i64 l) (n:=((c + 1:Nat):Int)) ?_ ?_).1 ?_
   ·rw [get_put_ne (by omega)];exact g1
   ·rw [get_put_ne (by omega)];exact gk
   have ew:IntKind.i64.wrap (((c + 1:Nat):Int) - 1)=(c:Int):=by rw [wrap64 (by omega) (by omega)];omega
   rw [ew]
   simp (disch:=first|exact dz|fail) only [SXB,SX,simprocAttr]
   have e3:(Tryz.prog).globals.size=(Tryz.prog).globals.size:=rfl
   rw [res_call]
   have hne:h.size + 2 ≠ kp:=by omega
   simp (disch:=first|exact dz|fail) only [SXB,SX,simprocAttr]
   -- the arguments stay al they are from here on
   have H:=C2.hld
   have H':Hld 64 5 ((h2.put (h.size + 2) (some (.cells #[.string t.text,.int .i64 t.at_,.int .i64 0,.string ⟨#[]⟩,.slice sa sn sc] 64 (0,0),none))).put kp (prow (tokV e ts3) bv b l c)) (q + 2) (.slice sa sn sc) (encEs es):=H.mono fun k hk=>by
    have:=hlo k hk
    rw [get_put_ne (by omega),get_put_ne (by omega)]
   obtain ⟨h3,gu,gf,gs⟩:=H'.turn (P:=Tryz.prog) (by omega) (encEs_size es)
   refine .inl ⟨_,.tuple #[encE (.mk t.text t.at_ 0 empty es),.int .u8 (ans:Nat)],h3,rfl,?_,?_⟩
   ·refine Gh.turn gu ?_
    rw [encE,hans]
    exact .tuple (.cons (.agg (.cons (.same _) (.cons (.same _) (.cons (.same _) (.cons (.same _) (.cons .here .nil)))))) (.cons (.same _) .nil))
   ·have gk3:∀ k,k < h.size→h3.get k=if k=kp then prow (tokV e ts3) bv b l c else h2.get k:=by
     intro k hk
     rw [gf k (fun e=>by have:=hlo k e;omega)]
     by_cases ek:k=kp
     ·rw [if_pos ek,get_put_eq ek]
     ·rw [if_neg ek,get_put_ne ek,get_put_ne (by omega)]
    have A3:Adv kp h h3:=⟨by rw [gs,sz_put,sz_put];exact A2.size,fun k h1 h2=>by rw [gk3 k h1,if_neg h2];exact A2.get k h1 h2⟩
    refine hok (.mk t.text t.at_ 0 empty es) ans ts3 h3 ?_ (S0.adv A3 ?_) A3
    ·unfold restF
     rw [argsF]
     simp only
     rw [hw]
     simp
    ·rw [gk3 kp hlt,if_pos rfl]
  ·simp (disch:=first|exact dz|fail) only [SXB,SX,simprocAttr]
   refine call_pan hlt gb A S.pan fun h3 p a=>herr f h3 ?_ p a
   unfold restF
   rw [argsF]
   simp only
   rw [hw]
 | cons k ks ih =>
  intro i ts1 h1 es sv hd hi ok hn S A C hes hok herr
  obtain ⟨d1,d2,d3⟩:=drop_cons hd
  -- an argument,behind its comma
  have body:∀ ts2 h2,(if (i == 0) then Except.ok ts1 else Lang.want 4 mComma ts1)=.ok ts2→TokOK ts2→ts2.length ≤ n→PSg ow h2 kp e ts2 bv vs b l (c + 1)→Adv kp h1 h2 →
    K62_15 (.pointer (some ⟨h.size,0,none⟩)) (.pointer (some ⟨h.size + 2,0,none⟩)) (.pointer (some ⟨q,0,none⟩)) (.pointer (some ⟨q + 1,0,none⟩)) (.int .i64 i) (.int .i64 al.length) (.int .i64 i) (dfn h.size) h2 (QG Q):=by
   intro ts2 h2 hts ok2 hn2 S2 a2
   have A2:=A.trans a2
   have C2:=C.adv a2 hlt
   have hs2:=C2.size
   have hqq:=C2.ge
   have g1:=C2.box
   have g3:=C2.sig
   have g4:=C2.cur
   have e2:ixS (.string s.args) (.int .i64 i)=some (.int .u8 k.toNat):=ixS_at has d1
   refine X62_15_ok ?_
   unfold X62_15
   simp (disch:=first|exact dz|fail) only [g1,g3,g4,e2,SXB,SX,simprocAttr]
   refine of_ok (HE ts2 ok2 hn2) hrd ok2 S2 (G0.adv A2 hk) k.toNat (fun x ts3 h3 hof S3 a3=>?_) (fun f h3 hof p3 a3=>?_)
   ·have A3:=A2.trans a3
    have C3:=C2.adv a3 hlt
    have hs3:=C3.size
    have w1:=C3.box
    have w2:=C3.out
    have w3:=C3.sig
    have w4:=C3.cur
    obtain ⟨sa,sn,sc,rfl⟩:=hld_isSl C3.hld
    have hlo:∀ k,blkOf (.slice sa sn sc)=some k→q + 2 ≤ k:=C3.hld.key
    have hlb:=C3.lt
    have hshr:=ofK_shr hrd ok2 hof
    cases hx:x with
    | mk op ax nx tx args =>
     rw [encE]
     simp (disch:=first|exact dz|fail) only [w4,SXB,SX,simprocAttr]
     obtain ⟨s',h4,q1,q2,q3,q4,q5⟩:=C3.hld.append1 (v:=encE x) (c:=#[.string op,.int .i64 ax,.int .i64 nx,.string tx,slV (encEs args)]) (bytes:=72) (zero:=.agg #[.string ⟨#[]⟩,.int .i64 0,.int .i64 0,.string ⟨#[]⟩,.slice none 0 0])
      (by rw [hx,encE];rfl) hlb (by omega) (encEs_size es) rfl (fun y hy=>by
       simp at hy
       rcases hy with rfl | rfl | rfl | rfl | rfl
       ·rfl
       ·rfl
       ·rfl
       ·rfl
       ·exact one_slV _) (by omega) (by omega) (by omega) rfl (by rw [encEs_eq,List.length_map];omega)
     refine bq_of q1 ?_
     obtain ⟨sb,sm,sd,rfl⟩:=hld_isSl q2
     have v4:h4.get (q + 1)=some (.cells #[.string t.text,.int .i64 t.at_,.int .i64 0,.string ⟨#[]⟩,.slice sa sn sc] 64 (0,0),none):=(q4 _ (by omega) (fun e=>by have:=hlo _ e;omega)).trans w4
     simp (disch:=first|exact dz|fail) only [v4,SXB,SX,simprocAttr]
     have gg:∀ k,k < q + 2→k ≠ q + 1→(h4.put (q + 1) (some (.cells #[.string t.text,.int .i64 t.at_,.int .i64 0,.string ⟨#[]⟩,.slice sb sm sd] 64 (0,0),none))).get k=h3.get k:=fun k h1 h2=>by
      rw [get_put_ne h2]
      exact q4 k (by omega) fun e=>by have:=hlo k e;omega
     have A4:Adv kp h (h4.put (q + 1) (some (.cells #[.string t.text,.int .i64 t.at_,.int .i64 0,.string ⟨#[]⟩,.slice sb sm sd] 64 (0,0),none))):=⟨by rw [sz_put];exact Nat.le_trans A3.size q3,fun k h1 h2=>(gg k (by omega) (by omega)).trans (A3.get k h1 h2)⟩
     have:=ih (i + 1) ts3 _ (es++[x]) (.slice sb sm sd) d2 (by omega) hshr.1 (Nat.le_of_lt (Nat.lt_of_lt_of_le hshr.2 hn2)) (S0.adv A4 ((gg kp (by omega) (by omega)).trans S3.row)) A4 ⟨(gg _ (by omega) (by omega)).trans w1,(gg _ (by omega) (by omega)).trans w2,(gg _ (by omega) (by omega)).trans w3,get_put_eq rfl,?_,?_,?_,?_⟩ (by simp [hes]) ?_ ?_
     ·exact this
     ·rw [encEs_snoc]
      exact q2.mono fun k hk=>get_put_ne fun e=>by have:=q2.key k hk;omega
     ·intro k hk
      rw [sz_put]
      rcases q5 with e1 | ⟨k',e1,_,e2⟩
      ·rw [e1] at hk;exact Nat.lt_of_lt_of_le (hlb k hk) q3
      ·rw [e1] at hk;cases hk;exact e2
     ·rw [sz_put];omega
     ·exact hqq
     ·intro x' k' ts4 h5 hr' S5 a5
      refine hok x' k' ts4 h5 ?_ S5 a5
      rw [restF_cons,hts]
      simp only
      rw [hof]
      exact hr'
     ·intro f h5 hr' S5 a5
      refine herr f h5 ?_ S5 a5
      rw [restF_cons,hts]
      simp only
      rw [hof]
      exact hr'
   ·simp (disch:=first|exact dz|fail) only [SXB,SX,simprocAttr]
    have C3:=C2.adv a3 hlt
    refine call_pan hlt C3.box (A2.trans a3) p3 fun h4 p a=>herr f h4 ?_ p a
    rw [restF_cons,hts]
    simp only
    rw [hof]
  refine X62_11_ok ?_
  unfold X62_11
  have e1:(i:Int) < al.length:=by omega
  have gb:=C.box
  by_cases hi0:i=0
  ·have e2:¬ (0 < (i:Int)):=by omega
   simp (disch:=first|exact dz|fail) only [e1,e2,SXB,SX,simprocAttr]
   exact body ts1 h1 (by rw [hi0];rfl) ok hn S (.refl _ _)
  ·have e2:0 < (i:Int):=by omega
   have hib:(i == 0)=false:=by simpa using hi0
   simp (disch:=first|exact dz|fail) only [e1,e2,gb,SXB,SX,simprocAttr]
   refine want_ok S ok.ne 4 mComma (fun ts2 h2 hw S2 a2=>?_) (fun f hw=>?_)
   ·have hsh:=want_shr hw (by omega) ok
    simp (disch:=first|exact dz|fail) only [SXB,SX,simprocAttr]
    exact body ts2 h2 (by rw [hib];exact hw) hsh.1 (Nat.le_of_lt (Nat.lt_of_lt_of_le hsh.2 hn)) S2 a2
   ·simp (disch:=first|exact dz|fail) only [SXB,SX,simprocAttr]
    refine call_pan hlt gb A S.pan fun h3 p a=>herr f h3 ?_ p a
    rw [restF_cons,hib]
    simp only [Bool.false_eq_true,if_false,hw]
end Go.Proofs.YtibigfkeaemanaaGreatDoor.L
end
