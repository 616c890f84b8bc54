import Derived.Test.YtibigfkeaemanaaGreatDoorZ30
import Derived.Test.YtibigfkeaemanaaGreatDoorZ31
set_option linter.unusedVariables false
set_option linter.unusedSimpArgs false
section
namespace Go.Proofs.YtibigfkeaemanaaGreatDoor.L
open Go.Ab Go.Lang Go.Proofs.YtibigfkeaemanaaGreatDoor.X
set_option maxRecDepth 100000
theorem call_end {M:Nat} (hM:M ≤ 4611686018427387904) {h h1:AH} (T:Tab h1) (K:Kp h.size h h1) {op:ByteArray} {c3:List Value} {c4:Array Value} {a b c:V} {s0 s1 s2 t0 t27:Value} {n:Nat} {Q:RQ}
  (hs0:Sl s0 (strL a.l)) (hs1:Sl s1 (strL b.l)) (hs2:Sl s2 (strL c.l)) (ha:VOK M a) (hb:VOK M b) (hc:VOK M c)
  (g3:h1.get h.size=some (.cells (.string op::c3).toArray 64 (0,0),none)) (g4:h1.get (h.size + 1)=some (.cells c4 68 (0,0),none)) (hc4:c4.size=3)
  (g5:h1.get (h.size + 1 + 1)=some (.cells #[.int .i64 a.n,.string a.t,s0,.int .i64 b.n,.string b.t,s1,.int .i64 c.n,.string c.t,s2] 95 (0,0),none))
  (hq:∀ h2,Kp h.size h h2→Q (.ret (encN (callV itoaB op a b c))) h2) :
  H23_10 t0 (.pointer (some ⟨h.size,0,none⟩)) (.pointer (some ⟨h.size + 1,0,none⟩)) (.pointer (some ⟨h.size + 1 + 1,0,none⟩)) t27 (.int .i64 n) (.int .i64 n) h1 Q:=by
 refine X23_10_ok ?_
 unfold X23_10
 unfold callV at hq
 have en:¬ ((n:Int) < (n:Int)):=by omega
 have ht0:=ha.t
 have ht1:=hb.t
 have na:=ha.n
 have nb:=hb.n
 have hla:∀ s ∈ a.l,s.size ≤ 4611686018427387904:=fun s hs=>Nat.le_trans (ha.l s hs) hM
 have el:=hs0.len
 have elL:(strL a.l).length=a.l.length:=by unfold strL;simp
 rw [elL] at el
 have put:∀ (x:V) (h2:AH),Kp h.size h h2→h2.get (h.size + 1)=some (.cells c4 68 (0,0),none)→(∀ h3,Kp h.size h h3→Q (.ret (encN x)) h3) →
   bq (stN 3 h2 (.pointer (some ⟨h.size + 1,0,none⟩)) (encN x)) fun g=>bq (seqO [ldN 3 g (.pointer (some ⟨h.size + 1,0,none⟩))]) fun vs=>Q (.ret (oneOf vs)) g:=by
  intro x h2 K2 g hx
  refine bq_of (stN_full g hc4 rfl (fun z hz=>by simp [encN,Value.cells] at hz;rcases hz with rfl | rfl | rfl <;> rfl)) ?_
  refine bq_of (x:=[encN x]) ?_ ?_
  ·rw [ldN_full (n:=3) (get_put_eq rfl) rfl,seqO_cons,seqO_nil]
   rfl
  ·rw [oneOf_one]
   exact hx _ (K2.put _ _ (by omega))
 generalize hs3:stN 3=s3 at put
 generalize hl3:ldN 3=l3 at put
 generalize hbd:(bd:Array Value→List (Nat × Nat × Value)→Option Value)=bd0
 have bd1:∀ n,bd0 #[.int .i64 0,.string ⟨#[]⟩,.slice none 0 0] [(0,1,.int .i64 n)]=some (encN { n:=n }):=fun n=>by subst hbd;rfl
 have bd2:∀ t,bd0 #[.int .i64 0,.string ⟨#[]⟩,.slice none 0 0] [(1,1,.string t)]=some (encN { t:=t }):=fun n=>by subst hbd;rfl
 have bd3:bd0 #[.int .i64 0,.string ⟨#[]⟩,.slice none 0 0] []=some (encN {}):=by subst hbd;rfl
 simp (disch:=first|exact dz|fail) only [en,g3,i3,SXB,SX,simprocAttr]
 simp (disch:=first|exact dz|fail) only [e_o_add,SXB,SX,simprocAttr]
 cases h_o_add:eqT op o_add with
 | true =>
  rw [h_o_add,if_pos rfl] at hq
  unfold NumOK at na nb
  simp (disch:=first|exact dz|fail) only [g5,i3,SXB,SX,simprocAttr]
  refine HC.exact (bound_ok _) ?_
  simp (disch:=first|exact dz|fail) only [bd1,bd2,bd3,SXB,SX,simprocAttr]
  exact put _ h1 K g4 hq
 | false =>
 rw [h_o_add,if_neg Bool.false_ne_true] at hq
 simp (disch:=first|exact dz|fail) only [e_o_sub,SXB,SX,simprocAttr]
 cases h_o_sub:eqT op o_sub with
 | true =>
  rw [h_o_sub,if_pos rfl] at hq
  unfold NumOK at na nb
  simp (disch:=first|exact dz|fail) only [g5,i3,SXB,SX,simprocAttr]
  refine HC.exact (bound_ok _) ?_
  simp (disch:=first|exact dz|fail) only [bd1,bd2,bd3,SXB,SX,simprocAttr]
  exact put _ h1 K g4 hq
 | false =>
 rw [h_o_sub,if_neg Bool.false_ne_true] at hq
 simp (disch:=first|exact dz|fail) only [e_o_mul,SXB,SX,simprocAttr]
 cases h_o_mul:eqT op o_mul with
 | true =>
  rw [h_o_mul,if_pos rfl] at hq
  simp (disch:=first|exact dz|fail) only [g5,i3,SXB,SX,simprocAttr]
  refine HC.exact (product_ok na nb) ?_
  simp (disch:=first|exact dz|fail) only [bd1,bd2,bd3,SXB,SX,simprocAttr]
  exact put _ h1 K g4 hq
 | false =>
 rw [h_o_mul,if_neg Bool.false_ne_true] at hq
 simp (disch:=first|exact dz|fail) only [e_o_div,SXB,SX,simprocAttr]
 cases h_o_div:eqT op o_div with
 | true =>
  rw [h_o_div,if_pos rfl] at hq
  by_cases h0:b.n=0
  ·rw [if_pos h0] at hq
   have e0:(b.n == 0)=true:=by simpa using h0
   simp (disch:=first|exact dz|fail) only [g5,i3,e0,bd3,SXB,SX,simprocAttr]
   exact put _ h1 K g4 hq
  ·rw [if_neg h0] at hq
   have e0:(b.n == 0)=false:=by simpa using h0
   have ew:IntKind.i64.wrap (a.n.tdiv b.n)=a.n.tdiv b.n:=by
    have:(a.n.tdiv b.n).natAbs ≤ a.n.natAbs:=by rw [Int.natAbs_tdiv];exact Nat.div_le_self _ _
    unfold NumOK at na
    generalize a.n.tdiv b.n=q at this ⊢
    exact wrap64 (by omega) (by omega)
   simp (disch:=first|exact dz|fail) only [g5,i3,e0,h0,ew,bd1,SXB,SX,simprocAttr]
   exact put _ h1 K g4 hq
 | false =>
 rw [h_o_div,if_neg Bool.false_ne_true] at hq
 simp (disch:=first|exact dz|fail) only [e_o_lt,SXB,SX,simprocAttr]
 cases h_o_lt:eqT op o_lt with
 | true =>
  rw [h_o_lt,if_pos rfl] at hq
  simp (disch:=first|exact dz|fail) only [g5,i3,SXB,SX,simprocAttr]
  refine HC.exact (bit_ok _) ?_
  simp (disch:=first|exact dz|fail) only [bd1,bd2,bd3,SXB,SX,simprocAttr]
  exact put _ h1 K g4 hq
 | false =>
 rw [h_o_lt,if_neg Bool.false_ne_true] at hq
 simp (disch:=first|exact dz|fail) only [e_o_not,SXB,SX,simprocAttr]
 cases h_o_not:eqT op o_not with
 | true =>
  rw [h_o_not,if_pos rfl] at hq
  simp (disch:=first|exact dz|fail) only [g5,i3,SXB,SX,simprocAttr]
  refine HC.exact (bit_ok _) ?_
  simp (disch:=first|exact dz|fail) only [bd1,bd2,bd3,SXB,SX,simprocAttr]
  exact put _ h1 K g4 hq
 | false =>
 rw [h_o_not,if_neg Bool.false_ne_true] at hq
 simp (disch:=first|exact dz|fail) only [e_o_and,SXB,SX,simprocAttr]
 cases h_o_and:eqT op o_and with
 | true =>
  rw [h_o_and,if_pos rfl] at hq
  cases hA:(a.n != 0) with
  | true =>
   rw [hA] at hq
   simp (disch:=first|exact dz|fail) only [g5,i3,hA,SXB,SX,simprocAttr]
   refine HC.exact (bit_ok _) ?_
   simp (disch:=first|exact dz|fail) only [bd1,SXB,SX,simprocAttr]
   exact put _ h1 K g4 hq
  | false =>
   rw [hA] at hq
   simp (disch:=first|exact dz|fail) only [g5,i3,hA,SXB,SX,simprocAttr]
   refine HC.exact (bit_ok _) ?_
   simp (disch:=first|exact dz|fail) only [bd1,SXB,SX,simprocAttr]
   exact put _ h1 K g4 hq
 | false =>
 rw [h_o_and,if_neg Bool.false_ne_true] at hq
 simp (disch:=first|exact dz|fail) only [e_o_or,SXB,SX,simprocAttr]
 cases h_o_or:eqT op o_or with
 | true =>
  rw [h_o_or,if_pos rfl] at hq
  cases hA:(a.n != 0) with
  | false =>
   rw [hA] at hq
   simp (disch:=first|exact dz|fail) only [g5,i3,hA,SXB,SX,simprocAttr]
   refine HC.exact (bit_ok _) ?_
   simp (disch:=first|exact dz|fail) only [bd1,SXB,SX,simprocAttr]
   exact put _ h1 K g4 hq
  | true =>
   rw [hA] at hq
   simp (disch:=first|exact dz|fail) only [g5,i3,hA,SXB,SX,simprocAttr]
   refine HC.exact (bit_ok _) ?_
   simp (disch:=first|exact dz|fail) only [bd1,SXB,SX,simprocAttr]
   exact put _ h1 K g4 hq
 | false =>
 rw [h_o_or,if_neg Bool.false_ne_true] at hq
 simp (disch:=first|exact dz|fail) only [e_o_sum,SXB,SX,simprocAttr]
 cases h_o_sum:eqT op o_sum with
 | true =>
  rw [h_o_sum,if_pos rfl] at hq
  simp (disch:=first|exact dz|fail) only [g5,i3,SXB,SX,simprocAttr]
  refine HC.exact (fold_ok (f:=(· + ·)) hb_39 (fun h a b ha hb=>plus_ok ha hb) hs0 hla ha.len) ?_
  exact put _ h1 K g4 hq
 | false =>
 rw [h_o_sum,if_neg Bool.false_ne_true] at hq
 simp (disch:=first|exact dz|fail) only [e_o_max,SXB,SX,simprocAttr]
 cases h_o_max:eqT op o_max with
 | true =>
  rw [h_o_max,if_pos rfl] at hq
  simp (disch:=first|exact dz|fail) only [g5,i3,SXB,SX,simprocAttr]
  refine HC.exact (fold_ok (f:=max) hb_40 (fun h a b ha hb=>greatest_ok) hs0 hla ha.len) ?_
  exact put _ h1 K g4 hq
 | false =>
 rw [h_o_max,if_neg Bool.false_ne_true] at hq
 simp (disch:=first|exact dz|fail) only [e_o_min,SXB,SX,simprocAttr]
 cases h_o_min:eqT op o_min with
 | true =>
  rw [h_o_min,if_pos rfl] at hq
  simp (disch:=first|exact dz|fail) only [g5,i3,SXB,SX,simprocAttr]
  refine HC.exact (fold_ok (f:=min) hb_41 (fun h a b ha hb=>least_ok) hs0 hla ha.len) ?_
  exact put _ h1 K g4 hq
 | false =>
 rw [h_o_min,if_neg Bool.false_ne_true] at hq
 simp (disch:=first|exact dz|fail) only [e_o_count,SXB,SX,simprocAttr]
 cases h_o_count:eqT op o_count with
 | true =>
  rw [h_o_count,if_pos rfl] at hq
  simp (disch:=first|exact dz|fail) only [g5,i3,el,SXB,SX,simprocAttr]
  refine HC.exact (bound_ok _) ?_
  simp (disch:=first|exact dz|fail) only [bd1,bd2,bd3,SXB,SX,simprocAttr]
  exact put _ h1 K g4 hq
 | false =>
 rw [h_o_count,if_neg Bool.false_ne_true] at hq
 simp (disch:=first|exact dz|fail) only [e_o_first,SXB,SX,simprocAttr]
 cases h_o_first:eqT op o_first with
 | true =>
  rw [h_o_first,if_pos rfl] at hq
  simp (disch:=first|exact dz|fail) only [g5,i3,SXB,SX,simprocAttr]
  refine HC.exact (ends_ok hs0 ha.len false) ?_
  exact put _ h1 K g4 hq
 | false =>
 rw [h_o_first,if_neg Bool.false_ne_true] at hq
 simp (disch:=first|exact dz|fail) only [e_o_last,SXB,SX,simprocAttr]
 cases h_o_last:eqT op o_last with
 | true =>
  rw [h_o_last,if_pos rfl] at hq
  simp (disch:=first|exact dz|fail) only [g5,i3,SXB,SX,simprocAttr]
  refine HC.exact (ends_ok hs0 ha.len true) ?_
  exact put _ h1 K g4 hq
 | false =>
 rw [h_o_last,if_neg Bool.false_ne_true] at hq
 simp (disch:=first|exact dz|fail) only [e_o_join,SXB,SX,simprocAttr]
 cases h_o_join:eqT op o_join with
 | true =>
  rw [h_o_join,if_pos rfl] at hq
  simp (disch:=first|exact dz|fail) only [g5,i3,SXB,SX,simprocAttr]
  refine HC.exact (join_ok hs0 ha.len b.t) ?_
  simp (disch:=first|exact dz|fail) only [bd1,bd2,bd3,SXB,SX,simprocAttr]
  exact put _ h1 K g4 hq
 | false =>
 rw [h_o_join,if_neg Bool.false_ne_true] at hq
 simp (disch:=first|exact dz|fail) only [g3,g5,SXB,SX,simprocAttr]
 refine HC.exact (texts_ok T op (slOne hs0) (slOne hs1) (slOne hs2) na (Nat.le_trans ht0 hM) nb hc.n) ?_
 exact put _ h1 K g4 hq
end Go.Proofs.YtibigfkeaemanaaGreatDoor.L
end
section
namespace Go.Proofs.YtibigfkeaemanaaGreatDoor.L
open Go.Ab Go.Lang Go.Proofs.YtibigfkeaemanaaGreatDoor.X
set_option maxRecDepth 100000
mutual
/-- what an expression keeps to -/
def okE:Lang.Expr→Bool
 | .mk op _ num text args=>decide (num ≤ 1099511627776) && decide (text.size ≤ 4096) && decide (args.length ≤ 3) && okEs args
def okEs:List Lang.Expr→Bool
 | []=>true
 | e::l=>okE e && okEs l
end
theorem VOK.small {M:Nat} (hM:4096 ≤ M) {x:V} (hn:NumOK x.n) (ht:x.t.size ≤ 4096) (hl:x.l=[]):VOK M x:=⟨hn,Nat.le_trans ht hM,(by rw [hl];intro s hs;cases hs),(by rw [hl];simp)⟩
theorem VOK.num {M:Nat} (hM:4096 ≤ M) {n:Int} (hn:NumOK n):VOK M { n:=n }:=.small hM hn (Nat.zero_le _) rfl
theorem VOK.text {M:Nat} (hM:4096 ≤ M) {t:ByteArray} (ht:t.size ≤ 4096):VOK M { t:=t }:=.small hM (by show NumOK 0;unfold NumOK;omega) ht rfl
theorem VOK.none {M:Nat} (hM:4096 ≤ M):VOK M {}:=.num hM (by unfold NumOK;omega)
theorem num_bit (b:Bool):NumOK (bitV b):=by unfold NumOK bitV;cases b <;> simp
theorem num_tdiv {a:Int} (ha:NumOK a) (b:Int):NumOK (a.tdiv b):=by
 have:(a.tdiv b).natAbs ≤ a.natAbs:=by rw [Int.natAbs_tdiv];exact Nat.div_le_self _ _
 unfold NumOK at ha ⊢
 generalize a.tdiv b=q at this ⊢
 omega
theorem fold_num (f:Int→Int→Int) (l:List ByteArray) (n:Int) (h:NumOK n):NumOK (l.foldl (fun n x=>boundV (f n (parseV x))) n):=by
 induction l generalizing n with
 | nil=>exact h
 | cons x l ih=>exact ih _ (num_bound _)
theorem fold_vok {M:Nat} (hM:4096 ≤ M) (f:Int→Int→Int) (l:List ByteArray):VOK M (foldV f l):=by
 cases l with
 | nil=>exact .none hM
 | cons x l=>exact .num hM (fold_num f l _ (parse_num x))
theorem itoa_size {n:Int} (hn:NumOK n):(itoaB n).size ≤ 4096:=by
 unfold NumOK at hn
 show (Lib.itoa n).toArray.size ≤ 4096
 rw [List.size_toArray]
 unfold Lib.itoa
 split
 ·have:=dec_len 12 n.natAbs (by omega)
  simp;omega
 ·have:=dec_len 12 n.toNat (by omega)
  omega
theorem letters_sz (s:ByteArray) (f t:UInt8):(lettersV s f t).size=s.size:=by
 show (s.data.map _).size=s.data.size
 simp
theorem ite_vok {M:Nat} {c:Prop} [Decidable c] {x y:V} (hx:VOK M x) (hy:VOK M y):VOK M (if c then x else y):=by
 split
 ·exact hx
 ·exact hy
theorem opt_vok {M:Nat} (hM:4096 ≤ M) (o:Option ByteArray):VOK M (match o with | some s=>{ t:=cellV s } | none=>{}):=by
 cases o with
 | none=>exact .none hM
 | some s=>exact .text hM (cell_size s)
theorem joinV_size (b:ByteArray):∀ (l:List ByteArray) (o:ByteArray) (f:Bool),(joinV b l o f).size ≤ 4096
 | [],o,f=>by unfold joinV;exact cell_size _
 | x::l,o,f=>by
  unfold joinV
  generalize (o++(if f=true then empty else cellV b)++cellV x)=z
  show (if 4096 ≤ z.size then cellV z else joinV b l z false).size ≤ 4096
  split
  ·exact cell_size _
  ·exact joinV_size b l _ false
theorem call_vok {M:Nat} (hM:4096 ≤ M) {op:ByteArray} {a b c:V} (ha:VOK M a):VOK M (callV itoaB op a b c):=by
 unfold callV
 have na:=ha.n
 refine ite_vok (.num hM (num_bound _)) ?_
 refine ite_vok (.num hM (num_bound _)) ?_
 refine ite_vok (.num hM (num_bound _)) ?_
 refine ite_vok ((ite_vok (.none hM) (.num hM (num_tdiv na _)))) ?_
 refine ite_vok (.num hM (num_bit _)) ?_
 refine ite_vok (.num hM (num_bit _)) ?_
 refine ite_vok (.num hM (num_bit _)) ?_
 refine ite_vok (.num hM (num_bit _)) ?_
 refine ite_vok (fold_vok hM _ _) ?_
 refine ite_vok (fold_vok hM _ _) ?_
 refine ite_vok (fold_vok hM _ _) ?_
 refine ite_vok (.num hM (num_bound _)) ?_
 refine ite_vok (opt_vok hM _) ?_
 refine ite_vok (opt_vok hM _) ?_
 refine ite_vok (.text hM (joinV_size _ _ _ _)) ?_
 refine ite_vok (.num hM (num_bound _)) ?_
 refine ite_vok (.num hM (parse_num _)) ?_
 refine ite_vok (.text hM (itoa_size na)) ?_
 refine ite_vok (.text hM (cell_size _)) ?_
 refine ite_vok (.text hM (cell_size _)) ?_
 refine ite_vok (.text hM (by rw [letters_sz];exact cell_size _)) ?_
 refine ite_vok (.text hM (by rw [letters_sz];exact cell_size _)) ?_
 refine ite_vok (.num hM (num_bit _)) ?_
 refine ite_vok (.num hM (num_bit _)) ?_
 exact .none hM
theorem get_vok {M:Nat} (hM:4096 ≤ M) {e:Env} (he:∀ p ∈ e,VOK M p.2) (x:ByteArray):VOK M (getV e x):=by
 unfold getV
 split
 ·rename_i p hp;exact he p (List.mem_of_find?_eq_some hp)
 ·exact .none hM
mutual
theorem expr_vok {M:Nat} (hM:4096 ≤ M) {e:Env} (he:∀ p ∈ e,VOK M p.2):∀ x:Lang.Expr,okE x=true→VOK M (exprV itoaB e x)
 | .mk op at_ num text args=>by
  intro hx
  simp only [okE,Bool.and_eq_true,decide_eq_true_eq,Bool.not_eq_true'] at hx
  obtain ⟨⟨⟨h1,h2⟩,h3⟩,h5⟩:=hx
  unfold exprV
  split
  ·exact .num hM (by unfold NumOK;omega)
  split
  ·exact .text hM h2
  split
  ·exact get_vok hM he text
  ·refine call_vok hM ?_
   have:=args_vok hM he args h5
   cases hl:argsV itoaB e args with
   | nil=>exact .none hM
   | cons v l=>exact this v (by rw [hl];simp)
theorem args_vok {M:Nat} (hM:4096 ≤ M) {e:Env} (he:∀ p ∈ e,VOK M p.2):∀ l:List Lang.Expr,okEs l=true→∀ v ∈ argsV itoaB e l,VOK M v
 | []=>by intro _ v hv;unfold argsV at hv;cases hv
 | x::l=>by
  intro hx v hv
  simp only [okEs,Bool.and_eq_true] at hx
  unfold argsV at hv
  cases hv with
  | head=>exact expr_vok hM he x hx.1
  | tail _ hv=>exact args_vok hM he l hx.2 v hv
end
end Go.Proofs.YtibigfkeaemanaaGreatDoor.L
end
section
namespace Go.Proofs.YtibigfkeaemanaaGreatDoor.L
open Go.Ab Go.Lang Go.Proofs.YtibigfkeaemanaaGreatDoor.X
set_option maxRecDepth 100000
structure Arr (ws:List Value) (l:List V):Prop where
 len:ws.length=3
 at_:∀ (j:Nat) v,ws[j]?=some v→VR v (l.getD j {})
theorem Arr.sizes {ws:List Value} {l:List V} (A:Arr ws l):∀ v ∈ ws,v.cells.size=3:=fun v hv=>by
 obtain ⟨i,hi⟩:=List.mem_iff_getElem?.1 hv
 exact (A.at_ i v hi).size
theorem Arr.set {ws:List Value} {l:List V} (A:Arr ws l) {v:Value} {x:V} (h:VR v x):Arr (ws.set l.length v) (l++[x]):=by
 refine ⟨by rw [List.length_set];exact A.len,fun j w hw=>?_⟩
 rw [List.getElem?_set] at hw
 by_cases hj:l.length=j
 ·subst hj
  rw [if_pos rfl] at hw
  split at hw
  ·cases hw
   rw [List.getD_eq_getElem?_getD,List.getElem?_append_right (Nat.le_refl _),Nat.sub_self]
   exact h
  ·cases hw
 ·rw [if_neg hj] at hw
  have:=A.at_ j w hw
  rw [List.getD_eq_getElem?_getD] at this ⊢
  by_cases hlt:j < l.length
  ·rw [List.getElem?_append_left hlt];exact this
  ·rw [List.getElem?_eq_none (by omega)] at this
   rw [List.getElem?_eq_none (by simp;omega)]
   exact this
theorem flat_set {ws:List Value} {i:Nat} {v:Value} (h:i < ws.length):flatC (ws.set i v)=flatC (ws.take i)++(v.cells.toList++flatC (ws.drop (i + 1))):=by
 rw [List.set_eq_take_append_cons_drop,if_pos h]
 simp [flatC]
theorem flat_at {ws:List Value} {i:Nat} {v:Value} (h:ws[i]?=some v):flatC ws=flatC (ws.take i)++(v.cells.toList++flatC (ws.drop (i + 1))):=by
 have hlt:=(List.getElem?_eq_some_iff.1 h).1
 have e:ws=ws.take i++v::ws.drop (i + 1):=by
  rw [← (List.getElem?_eq_some_iff.1 h).2,List.getElem_cons_drop,List.take_append_drop]
 have:flatC (ws.take i++v::ws.drop (i + 1))=flatC (ws.take i)++(v.cells.toList++flatC (ws.drop (i + 1))):=by simp [flatC]
 rw [← e] at this
 exact this
def zero3:List Value:=[encN {},encN {},encN {}]
theorem arr0:Arr zero3 []:=⟨rfl,fun j v hv=>by
 match j,hv with
 | 0,hv=>cases hv;exact VR.of rfl
 | 1,hv=>cases hv;exact VR.of rfl
 | 2,hv=>cases hv;exact VR.of rfl
 | j + 3,hv=>cases hv⟩
theorem argsV_len (it:Int→ByteArray) (e:Env):∀ l,(argsV it e l).length=l.length
 | []=>by unfold argsV;rfl
 | x::l=>by unfold argsV;rw [List.length_cons,argsV_len it e l,List.length_cons]
theorem argsV_snoc (it:Int→ByteArray) (e:Env):∀ (l:List Lang.Expr) (x:Lang.Expr),argsV it e (l++[x])=argsV it e l++[exprV it e x]
 | [],x=>by unfold argsV;simp;unfold argsV;rfl
 | y::l,x=>by
  rw [List.cons_append]
  unfold argsV
  rw [argsV_snoc it e l x];rfl
theorem getD_vok {M:Nat} (hM:4096 ≤ M) {l:List V} (h:∀ v ∈ l,VOK M v) (j:Nat):VOK M (l.getD j {}):=by
 rw [List.getD_eq_getElem?_getD]
 cases hl:l[j]? with
 | none=>exact .none hM
 | some v=>exact h v (List.mem_of_getElem? hl)
theorem arr_loop {M:Nat} (hM1:4096 ≤ M) (hM:M ≤ 4611686018427387904) {h:AH} {ke:Nat} {t:Tri} {e:Env} {o:Lang.Out} (S:EnvS h ke t e o) (he:∀ p ∈ e,VOK M p.2) (T:Tab h) {op:ByteArray} {c3:List Value} {args:List Lang.Expr} (ha3:args.length ≤ 3) (hok:okEs args=true)
  (IH:∀ x ∈ args,∀ h',EnvS h' ke t e o→Tab h'→ExV 23 [.pointer (some ⟨ke,0,none⟩),encE x].toArray h' (exprV itoaB e x)) {Q:RQ}
  (hq:∀ h2,Kp h.size h h2→Q (.ret (encN (callV itoaB op ((argsV itoaB e args).getD 0 {}) ((argsV itoaB e args).getD 1 {}) ((argsV itoaB e args).getD 2 {})))) h2) :
  ∀ (r:List Lang.Expr) (i:Nat) (h1:AH) (ws:List Value),args.drop i=r→i ≤ args.length→Kp h.size h h1→h.size + 3 ≤ h1.size→Arr ws (argsV itoaB e (args.take i)) →
  h1.get h.size=some (.cells (.string op::c3).toArray 64 (0,0),none)→(∃ c4,h1.get (h.size + 1)=some (.cells c4 68 (0,0),none)∧c4.size=3)→h1.get (h.size + 1 + 1)=some (.cells (flatC ws).toArray 95 (0,0),none) →
  H23_10 (.pointer (some ⟨ke,0,none⟩)) (.pointer (some ⟨h.size,0,none⟩)) (.pointer (some ⟨h.size + 1,0,none⟩)) (.pointer (some ⟨h.size + 1 + 1,0,none⟩)) (slV (encEs args)) (.int .i64 args.length) (.int .i64 i) h1 Q:=by
 intro r
 induction r with
 | nil =>
  intro i h1 ws hd hi K hlt A g3 ⟨c4,g4,hc4⟩ g5
  have:=drop_nil hd
  have hi':i=args.length:=by omega
  subst hi'
  rw [List.take_of_length_le (Nat.le_refl _)] at A
  have vk:=args_vok hM1 he args hok
  obtain ⟨hl,hat⟩:=A
  match ws,hl with
  | [v0,v1,v2],_ =>
   obtain ⟨s0,hs0,rfl⟩:=hat 0 v0 rfl
   obtain ⟨s1,hs1,rfl⟩:=hat 1 v1 rfl
   obtain ⟨s2,hs2,rfl⟩:=hat 2 v2 rfl
   exact call_end hM (T.kp K) K hs0 hs1 hs2 (getD_vok hM1 vk 0) (getD_vok hM1 vk 1) (getD_vok hM1 vk 2) g3 g4 hc4 g5 hq
 | cons x r ih =>
  intro i h1 ws hd hi K hlt A g3 g4 g5
  obtain ⟨h1',h2',h3'⟩:=drop_cons hd
  refine X23_10_ok ?_
  unfold X23_10
  have e1:(i:Int) < args.length:=by omega
  have hx:=IH x (List.mem_of_getElem? h1')
  have eia:ia 5 (slV (encEs args)) (.int .i64 (i:Int))=some (FPv (encE x).cells):=by
   rw [(Sl.of _).ia,if_pos (by omega)]
   have:(encEs args)[(i:Int).toNat]?=some (encE x):=by rw [Int.toNat_natCast,encEs_eq,List.getElem?_map,h1'];rfl
   rw [this,encE_cells]
   simp [celE_len,encE_cells]
  have eld:∀ g:AH,ldN 5 g (FPv (encE x).cells)=some (encE x):=fun g=>by
   rw [ldN_fp,encE_cells,if_pos (by simp [celE_len])]
   rw [encE_eq]
   congr 2
   have:=celE_len x
   simp [List.extract_eq_take_drop]
   exact List.take_of_length_le (by omega)
  have hsz:(encE x).cells.size=5:=by rw [encE_cells];simp [celE_len]
  have e3:(0:Int) ≤ (i:Int)∧(i:Int) < 3:=by omega
  refine bq_of (x:=.bool true) (by simp (disch:=first|exact dz|fail) only [e1,SXB,SX,simprocAttr]) ?_
  rw [condP_true]
  refine bq_of eia ?_
  refine bq_of (eld h1) ?_
  simp only [new1,new2]
  refine bq_of (stN_full (get_push_eq rfl) rfl hsz (fun z hz=>by rw [encE_cells] at hz;exact celE_one x z (by simpa using hz))) ?_
  refine bq_of (x:=encE x) (by rw [ldN_full (n:=5) (get_put_eq rfl) hsz];rw [encE_eq];rfl) ?_
  have hls:=K.size
  obtain ⟨h2,hh2⟩:∃ h2,h2=(h1.push (.cells #[.string ⟨#[]⟩,.int .i64 0,.int .i64 0,.string ⟨#[]⟩,.slice none 0 0] 64 (0,0)) none).put h1.size (some (.cells (encE x).cells 64 (0,0),none)):=⟨_,rfl⟩
  rw [← hh2]
  have K2:Kp h1.size h1 h2:=by rw [hh2];(repeat (first | exact Kp.refl _ _ | assumption | refine Kp.push ?_ _ _ (by first | omega | (simp only [sz_push,sz_put];omega)) | refine Kp.put ?_ _ _ (by first | omega | (simp only [sz_push,sz_put];omega))))
  have Kh:Kp h.size h h2:=⟨Nat.le_trans K.size K2.size,fun k hk=>(K2.get k (by omega)).trans (K.get k hk)⟩
  clear hh2
  refine HC.mono (hx h2 (S.kp Kh) (T.kp Kh)) fun rr h3 hp=>?_
  obtain ⟨rfl,v,rfl,hv⟩:=hp
  simp only [resK_ret]
  have hwl:=A.len
  obtain ⟨w,hw⟩:∃ w,ws[i]?=some w:=⟨ws[i]'(by omega),List.getElem?_eq_getElem _⟩
  have g52:=(K2.get (h.size + 1 + 1) (by omega)).trans g5
  rw [flat_at hw] at g52
  have hfl:(flatC (ws.take i)).length=3 * i:=by
   have:=flatC_length (s:=3) (l:=ws.take i) fun v hv=>A.sizes v (List.mem_of_mem_take hv)
   rw [this,List.length_take]
   omega
  have hst:=stN_mid (n:=3) (k:=h.size + 1 + 1) (off:=3 * i) (h:=h3) (a:=flatC (ws.take i)) (b:=w.cells.toList) (c:=flatC (ws.drop (i + 1))) (v:=v) g52 hfl (by have:=(A.at_ i w hw).size;simpa using this) hv.size hv.ones
  rw [← flat_set (by omega)] at hst
  have hoff:3 * i=0 + (i:Int).toNat * 3:=by omega
  rw [hoff] at hst
  have e4:iaA 3 3 (.pointer (some ⟨h.size + 1 + 1,0,none⟩)) (.int .i64 (i:Int))=some (.pointer (some ⟨h.size + 1 + 1,0 + (i:Int).toNat * 3,none⟩)):=by
   rw [iaA_ptr,if_pos ⟨by omega,by omega⟩]
  refine bq_of e4 ?_
  refine bq_of hst ?_
  simp (disch:=first|exact dz|fail) only [SXB,SX,simprocAttr]
  have A':Arr (ws.set i v) (argsV itoaB e (args.take (i + 1))):=by
   have:=A.set hv
   rw [argsV_len] at this
   have hti:(args.take i).length=i:=by rw [List.length_take];omega
   rw [hti] at this
   rw [List.take_add_one,h1']
   show Arr _ (argsV itoaB e (args.take i++[x]))
   rw [argsV_snoc]
   exact this
  refine ih (i + 1) _ (ws.set i v) h2' (by omega) ?_ ?_ A' ?_ ?_ ?_
  ·(repeat (first | exact Kp.refl _ _ | assumption | refine Kp.push ?_ _ _ (by first | omega | (simp only [sz_push,sz_put];omega)) | refine Kp.put ?_ _ _ (by first | omega | (simp only [sz_push,sz_put];omega))))
  ·have:=K2.size
   simp (disch:=first|exact dz|fail) only [SXB,SX,simprocAttr]
   omega
  ·rw [get_put_ne (by omega)];exact (K2.get _ (by omega)).trans g3
  ·obtain ⟨c4,q1,q2⟩:=g4
   exact ⟨c4,by rw [get_put_ne (by omega)];exact (K2.get _ (by omega)).trans q1,q2⟩
  ·exact get_put_eq rfl
end Go.Proofs.YtibigfkeaemanaaGreatDoor.L
end
section
namespace Go.Proofs.YtibigfkeaemanaaGreatDoor.L
open Go.Ab Go.Lang Go.Proofs.YtibigfkeaemanaaGreatDoor.X
set_option maxRecDepth 100000
theorem ite_nil {c:Prop} [Decidable c] {x y:V} (hx:x.l=[]) (hy:y.l=[]):(if c then x else y).l=[]:=by
 split
 ·exact hx
 ·exact hy
theorem fold_nil (f:Int→Int→Int) (l:List ByteArray):(foldV f l).l=[]:=by cases l <;> rfl
theorem opt_nil (o:Option ByteArray):(match o with | some s=>({ t:=cellV s }:V) | none=>{}).l=[]:=by cases o <;> rfl
theorem call_nil (it:Int→ByteArray) (op:ByteArray) (a b c:V):(callV it op a b c).l=[]:=by
 unfold callV
 refine ite_nil (rfl) ?_
 refine ite_nil (rfl) ?_
 refine ite_nil (rfl) ?_
 refine ite_nil (ite_nil rfl rfl) ?_
 refine ite_nil (rfl) ?_
 refine ite_nil (rfl) ?_
 refine ite_nil (rfl) ?_
 refine ite_nil (rfl) ?_
 refine ite_nil (fold_nil _ _) ?_
 refine ite_nil (fold_nil _ _) ?_
 refine ite_nil (fold_nil _ _) ?_
 refine ite_nil (rfl) ?_
 refine ite_nil (opt_nil _) ?_
 refine ite_nil (opt_nil _) ?_
 refine ite_nil (rfl) ?_
 refine ite_nil (rfl) ?_
 refine ite_nil (rfl) ?_
 refine ite_nil (rfl) ?_
 refine ite_nil (rfl) ?_
 refine ite_nil (rfl) ?_
 refine ite_nil (rfl) ?_
 refine ite_nil (rfl) ?_
 refine ite_nil (rfl) ?_
 refine ite_nil (rfl) ?_
 rfl
theorem expr_step {M:Nat} (hM1:4096 ≤ M) (hM:M ≤ 4611686018427387904) {h:AH} {ke:Nat} {t:Tri} {e:Env} {o:Lang.Out} (S:EnvS h ke t e o) (hlen:e.length ≤ 1099511627776) (he:∀ p ∈ e,VOK M p.2) (T:Tab h) {op text:ByteArray} {at_ num:Nat} {args:List Lang.Expr} (hok:okE (.mk op at_ num text args)=true)
  (IH:∀ x ∈ args,∀ h',EnvS h' ke t e o→Tab h'→ExV 23 [.pointer (some ⟨ke,0,none⟩),encE x].toArray h' (exprV itoaB e x)) :
  ExV 23 [.pointer (some ⟨ke,0,none⟩),encE (.mk op at_ num text args)].toArray h (exprV itoaB e (.mk op at_ num text args)):=by
 simp only [okE,Bool.and_eq_true,decide_eq_true_eq,Bool.not_eq_true'] at hok
 obtain ⟨⟨⟨ho1,ho2⟩,ho3⟩,ho5⟩:=hok
 refine ExV.pure (X23_ok ?_)
 generalize hq0:(fun (r:Res) (h₁:AH)=>Kp h.size h h₁∧∃ v,r=Res.ret v∧VR v (exprV itoaB e (.mk op at_ num text args)))=Q
 have hq:∀ h2 v,Kp h.size h h2→VR v (exprV itoaB e (.mk op at_ num text args))→Q (.ret v) h2:=fun h2 v K hv=>by rw [← hq0];exact ⟨K,v,rfl,hv⟩
 clear hq0
 unfold exprV at hq
 unfold X23
 have ec:(encE (.mk op at_ num text args)).cells = #[.string op,.int .i64 at_,.int .i64 num,.string text,slV (encEs args)]:=by rw [encE_cells];rfl
 simp only [new1,new2,ec]
 obtain ⟨h1,hh⟩:∃ h1,h1=(h.push (.cells #[.string op,.int .i64 at_,.int .i64 num,.string text,slV (encEs args)] 64 (0,0)) none).push (.cells #[.int .i64 0,.string ⟨#[]⟩,.slice none 0 0] 68 (0,0)) none:=⟨_,rfl⟩
 rw [← hh]
 have g3:h1.get h.size=some (.cells #[.string op,.int .i64 at_,.int .i64 num,.string text,slV (encEs args)] 64 (0,0),none):=by rw [hh,get_push_ne (by simp)];exact get_push_eq rfl
 have g4:h1.get (h.push (.cells #[.string op,.int .i64 at_,.int .i64 num,.string text,slV (encEs args)] 64 (0,0)) none).size=some (.cells #[.int .i64 0,.string ⟨#[]⟩,.slice none 0 0] 68 (0,0),none):=by rw [hh];exact get_push_eq rfl
 have K:Kp h.size h h1:=by rw [hh];(repeat (first | exact Kp.refl _ _ | assumption | refine Kp.push ?_ _ _ (by first | omega | (simp only [sz_push,sz_put];omega)) | refine Kp.put ?_ _ _ (by first | omega | (simp only [sz_push,sz_put];omega))))
 have hs1:h1.size=h.size + 2:=by rw [hh];simp
 rw [sz_push] at g4 ⊢
 clear hh
 have put:∀ (v:Value) (x:V) (h2:AH),Kp h.size h h2→h2.get (h.size + 1)=some (.cells #[.int .i64 0,.string ⟨#[]⟩,.slice none 0 0] 68 (0,0),none)→VR v x→(∀ h3 v,Kp h.size h h3→VR v x→Q (.ret v) h3) →
   bq (stN 3 h2 (.pointer (some ⟨h.size + 1,0,none⟩)) v) fun g=>bq (seqO [ldN 3 g (.pointer (some ⟨h.size + 1,0,none⟩))]) fun vs=>Q (.ret (oneOf vs)) g:=by
  intro v x h2 K2 g hv hx
  refine bq_of (stN_full g rfl hv.size hv.ones) ?_
  refine bq_of (x:=[.agg v.cells]) ?_ ?_
  ·rw [ldN_full (n:=3) (get_put_eq rfl) hv.size,seqO_cons,seqO_nil]
   rfl
  ·rw [oneOf_one]
   obtain ⟨s,hs,rfl⟩:=hv
   exact hx _ _ (K2.put _ _ (by omega)) ⟨s,hs,rfl⟩
 generalize hs3:stN 3=s3 at put
 generalize hl3:ldN 3=l3 at put
 generalize hbd:(bd:Array Value→List (Nat × Nat × Value)→Option Value)=bd0
 have bd1:∀ n,bd0 #[.int .i64 0,.string ⟨#[]⟩,.slice none 0 0] [(0,1,.int .i64 n)]=some (encN { n:=n }):=fun n=>by subst hbd;rfl
 have bd2:∀ t,bd0 #[.int .i64 0,.string ⟨#[]⟩,.slice none 0 0] [(1,1,.string t)]=some (encN { t:=t }):=fun n=>by subst hbd;rfl
 simp (disch:=first|exact dz|fail) only [g3,e_o_number,SXB,SX,simprocAttr]
 cases h_number:eqT op o_number with
 | true =>
  rw [h_number,if_pos rfl] at hq
  simp (disch:=first|exact dz|fail) only [g3,bd1,SXB,SX,simprocAttr]
  exact put _ _ h1 K g4 (VR.of rfl) hq
 | false =>
 rw [h_number,if_neg Bool.false_ne_true] at hq
 simp (disch:=first|exact dz|fail) only [g3,e_o_string,SXB,SX,simprocAttr]
 cases h_string:eqT op o_string with
 | true =>
  rw [h_string,if_pos rfl] at hq
  simp (disch:=first|exact dz|fail) only [g3,bd2,SXB,SX,simprocAttr]
  exact put _ _ h1 K g4 (VR.of rfl) hq
 | false =>
 rw [h_string,if_neg Bool.false_ne_true] at hq
 simp (disch:=first|exact dz|fail) only [g3,e_o_var,SXB,SX,simprocAttr]
 cases h_var:eqT op o_var with
 | true =>
  rw [h_var,if_pos rfl] at hq
  simp (disch:=first|exact dz|fail) only [g3,SXB,SX,simprocAttr]
  refine HC.mono (get_ok (S.kp K) hlen text) fun rr h3 hp=>?_
  obtain ⟨rfl,v,rfl,hv⟩:=hp
  simp only [resK_ret]
  exact put _ _ h3 K g4 hv hq
 | false =>
 rw [h_var,if_neg Bool.false_ne_true] at hq
 subst hs3 hl3 hbd
 have el:lenL (slV (encEs args))=some (.int .i64 (args.length:Nat)):=by rw [lenL_slV,encEs_eq,List.length_map]
 simp only [condP_false]
 have ell:(encEs args).length=args.length:=by rw [encEs_eq,List.length_map]
 rw [ell]
 have hsz:h1.size=h.size + 1 + 1:=by omega
 rw [hsz]
 refine arr_loop (c3:=[.int .i64 at_,.int .i64 num,.string text,slV (encEs args)]) hM1 hM S he T ho3 ho5 IH (fun h2 K2=>hq h2 _ K2 (VR.of ?_)) args 0 _ zero3 rfl (Nat.zero_le _) ?_ ?_ ?_ ?_ ⟨#[.int .i64 0,.string ⟨#[]⟩,.slice none 0 0],?_,rfl⟩ ?_
 ·exact call_nil _ _ _ _ _
 ·(repeat (first | exact Kp.refl _ _ | assumption | refine Kp.push ?_ _ _ (by first | omega | (simp only [sz_push,sz_put];omega)) | refine Kp.put ?_ _ _ (by first | omega | (simp only [sz_push,sz_put];omega))))
 ·simp (disch:=first|exact dz|fail) only [SXB,SX,simprocAttr]
  omega
 ·exact arr0
 ·rw [get_push_ne (by omega)];exact g3
 ·rw [get_push_ne (by omega)];exact g4
 ·exact get_push_eq (by omega)
mutual
theorem vexpr_ok {M:Nat} (hM1:4096 ≤ M) (hM:M ≤ 4611686018427387904) {ke:Nat} {t:Tri} {e:Env} {o:Lang.Out} (hlen:e.length ≤ 1099511627776) (he:∀ p ∈ e,VOK M p.2) :
  ∀ x:Lang.Expr,okE x=true→∀ h,EnvS h ke t e o→Tab h→ExV 23 [.pointer (some ⟨ke,0,none⟩),encE x].toArray h (exprV itoaB e x)
 | .mk op at_ num text args=>fun hok h S T=>expr_step hM1 hM S hlen he T hok (vexprs_ok hM1 hM hlen he args (by
   simp only [okE,Bool.and_eq_true] at hok
   exact hok.2))
theorem vexprs_ok {M:Nat} (hM1:4096 ≤ M) (hM:M ≤ 4611686018427387904) {ke:Nat} {t:Tri} {e:Env} {o:Lang.Out} (hlen:e.length ≤ 1099511627776) (he:∀ p ∈ e,VOK M p.2) :
  ∀ l:List Lang.Expr,okEs l=true→∀ x ∈ l,∀ h,EnvS h ke t e o→Tab h→ExV 23 [.pointer (some ⟨ke,0,none⟩),encE x].toArray h (exprV itoaB e x)
 | []=>fun _ x hx=>by cases hx
 | y::l=>fun hok x hx h S T=>by
  simp only [okEs,Bool.and_eq_true] at hok
  by_cases hxy:x=y
  ·rw [hxy]
   exact vexpr_ok hM1 hM hlen he y hok.1 h S T
  ·have hx':x ∈ l:=by
    cases hx with
    | head=>exact absurd rfl hxy
    | tail _ h=>exact h
   exact vexprs_ok hM1 hM hlen he l hok.2 x hx' h S T
end
end Go.Proofs.YtibigfkeaemanaaGreatDoor.L
end
section
namespace Go.Proofs.YtibigfkeaemanaaGreatDoor.L
open Go.Ab Go.Lang Go.Proofs.YtibigfkeaemanaaGreatDoor.X
set_option maxRecDepth 100000
structure EnvG (h:AH) (ke:Nat) (r t:Tri) (ns:List Value) (e:Env) (o:Lang.Out):Prop where
 row:h.get ke=some (.cells #[r.n,r.v,r.o] 78 (0,0),none)
 names:Gs 9 1 h t.n ns
 nsz:∀ v ∈ ns,v.cells.size=1
 vals:∃ vs,Gs 68 3 h t.v vs∧VRs vs e
 out:Gs 40 2 h t.o (o.map encPair)
 ne:¬ t.has ke
 d1:∀ k,blkOf t.n=some k→blkOf t.v ≠ some k
 d2:∀ k,blkOf t.n=some k→blkOf t.o ≠ some k
 d3:∀ k,blkOf t.v=some k→blkOf t.o ≠ some k
 lt:ke < h.size
 lts:∀ k,t.has k→k < h.size
theorem EnvS.g {h:AH} {ke:Nat} {t:Tri} {e:Env} {o:Lang.Out} (S:EnvS h ke t e o):EnvG h ke t t (nmL e) e o:=⟨S.row,S.names,nmL_size e,S.vals,S.out,S.ne,S.d1,S.d2,S.d3,S.lt,S.lts⟩
theorem EnvG.s {h:AH} {ke:Nat} {t:Tri} {e:Env} {o:Lang.Out} (S:EnvG h ke t t (nmL e) e o):EnvS h ke t e o:=⟨S.row,S.names,S.vals,S.out,S.ne,S.d1,S.d2,S.d3,S.lt,S.lts⟩
theorem EnvG.keep {h h':AH} {ke:Nat} {r t:Tri} {ns:List Value} {e:Env} {o:Lang.Out} (S:EnvG h ke r t ns e o) (hs:h.size ≤ h'.size) (hg:∀ k,(k=ke ∨ t.has k)→h'.get k=h.get k):EnvG h' ke r t ns e o:=by
 obtain ⟨vs,B,R⟩:=S.vals
 exact ⟨(hg ke (.inl rfl)).trans S.row,S.names.mono fun k hk=>hg k (.inr (.inl hk)),S.nsz,⟨vs,B.mono fun k hk=>hg k (.inr (.inr (.inl hk))),R⟩,S.out.mono fun k hk=>hg k (.inr (.inr (.inr hk))),S.ne,S.d1,S.d2,S.d3,Nat.lt_of_lt_of_le S.lt hs,fun k hk=>Nat.lt_of_lt_of_le (S.lts k hk) hs⟩
theorem EnvG.kp {h h':AH} {ke:Nat} {r t:Tri} {ns:List Value} {e:Env} {o:Lang.Out} (S:EnvG h ke r t ns e o) (K:Kp h.size h h'):EnvG h' ke r t ns e o:=S.keep K.size fun k hk=>K.get k (by rcases hk with rfl | hk;exact S.lt;exact S.lts k hk)
theorem EnvG.appN {h:AH} {ke:Nat} {r t:Tri} {ns:List Value} {e:Env} {o:Lang.Out} (S:EnvG h ke r t ns e o) {x:Value} {nm:ByteArray} (hx:Src h 1 x [.string nm]) (hs:ns.length ≤ 1000000) :
  ∃ n' h',apT 9 1 16 (some (.string ⟨#[]⟩)) h t.n x=some (n',h')∧EnvG h' ke r ⟨n',t.v,t.o⟩ (ns++[.string nm]) e o∧AdvE ke t h h'∧Mv h t ⟨n',t.v,t.o⟩:=by
 have h1:∀ v ∈ [Value.string nm],v.cells.size=1:=fun v hv=>by rw [List.mem_singleton.1 hv];rfl
 obtain ⟨n',h',a1,a2,a3,a4,a5⟩:=S.names.append hx S.nsz h1 (fun v hv=>by simp [flatC,Value.cells] at hv;subst hv;rfl) (bytes:=16) (zero:=.string ⟨#[]⟩) (by omega) (by omega) (by omega) rfl (by simp;omega)
 have fr:∀ k,k < h.size→blkOf t.n ≠ some k→h'.get k=h.get k:=a4
 have kv:∀ k,blkOf t.v=some k→h'.get k=h.get k:=fun k hk=>fr k (S.lts k (.inr (.inl hk))) fun e=>S.d1 k e hk
 have ko:∀ k,blkOf t.o=some k→h'.get k=h.get k:=fun k hk=>fr k (S.lts k (.inr (.inr hk))) fun e=>S.d2 k e hk
 have nw:∀ k,blkOf n' = some k→blkOf t.n=some k ∨ (h.size ≤ k∧k < h'.size):=fun k hk=>by
  rcases a5 with e1 | ⟨k',e1,e2,e3⟩
  ·rw [e1] at hk;exact .inl hk
  ·rw [e1] at hk;cases hk;exact .inr ⟨e2,e3⟩
 obtain ⟨vs,B,R⟩:=S.vals
 refine ⟨n',h',a1,⟨(fr ke S.lt fun e=>S.ne (.inl e)).trans S.row,a2,fun v hv=>(List.mem_append.1 hv).elim (S.nsz v) (h1 v),⟨vs,B.mono kv,R⟩,S.out.mono ko,?_,fun k hk hv=>?_,fun k hk hv=>?_,S.d3,Nat.lt_of_lt_of_le S.lt a3,fun k hk=>?_⟩,⟨a3,fun k h1 h2 h3=>fr k h1 fun e=>h3 (.inl e)⟩,fun k hk=>?_⟩
 ·rintro (hk | hk)
  ·rcases nw ke hk with h | h
   ·exact S.ne (.inl h)
   ·have:=S.lt;omega
  ·exact S.ne (.inr hk)
 ·rcases nw k hk with h | h
  ·exact S.d1 k h hv
  ·have:=S.lts k (.inr (.inl hv));omega
 ·rcases nw k hk with h | h
  ·exact S.d2 k h hv
  ·have:=S.lts k (.inr (.inr hv));omega
 ·rcases hk with hk | hk
  ·rcases nw k hk with h | h
   ·have:=S.lts k (.inl h);omega
   ·exact h.2
  ·have:=S.lts k (.inr hk);omega
 ·rcases hk with hk | hk
  ·rcases nw k hk with h | h
   ·exact .inl (.inl h)
   ·exact .inr h.1
  ·exact .inl (.inr hk)
theorem EnvG.appV {h:AH} {ke:Nat} {r t:Tri} {ns:List Value} {e:Env} {o:Lang.Out} (S:EnvG h ke r t ns e o) {x v:Value} {p:ByteArray × V} (hx:Src h 3 x [v]) (hv:VR v p.2) (hs:e.length ≤ 1000000) :
  ∃ n' h',apT 68 3 48 (some (.agg #[.int .i64 0,.string ⟨#[]⟩,.slice none 0 0])) h t.v x=some (n',h')∧EnvG h' ke r ⟨t.n,n',t.o⟩ ns (e++[p]) o∧AdvE ke t h h'∧Mv h t ⟨t.n,n',t.o⟩:=by
 have h1:∀ w ∈ [v],w.cells.size=3:=fun w hw=>by rw [List.mem_singleton.1 hw];exact hv.size
 obtain ⟨vs,B,R⟩:=S.vals
 have hl:=R.len
 obtain ⟨n',h',a1,a2,a3,a4,a5⟩:=B.append hx R.size h1 (fun w hw=>by rw [show flatC [v]=v.cells.toList by simp [flatC]] at hw;exact hv.ones w hw) (bytes:=48) (zero:=.agg #[.int .i64 0,.string ⟨#[]⟩,.slice none 0 0]) (by omega) (by omega) (by omega) rfl (by simp;omega)
 have fr:∀ k,k < h.size→blkOf t.v ≠ some k→h'.get k=h.get k:=a4
 have kn:∀ k,blkOf t.n=some k→h'.get k=h.get k:=fun k hk=>fr k (S.lts k (.inl hk)) fun e=>S.d1 k hk e
 have ko:∀ k,blkOf t.o=some k→h'.get k=h.get k:=fun k hk=>fr k (S.lts k (.inr (.inr hk))) fun e=>S.d3 k e hk
 have nw:∀ k,blkOf n' = some k→blkOf t.v=some k ∨ (h.size ≤ k∧k < h'.size):=fun k hk=>by
  rcases a5 with e1 | ⟨k',e1,e2,e3⟩
  ·rw [e1] at hk;exact .inl hk
  ·rw [e1] at hk;cases hk;exact .inr ⟨e2,e3⟩
 refine ⟨n',h',a1,⟨(fr ke S.lt fun e=>S.ne (.inr (.inl e))).trans S.row,S.names.mono kn,S.nsz,⟨_,a2,R.append (.cons hv .nil)⟩,S.out.mono ko,?_,fun k hk hv=>?_,S.d2,fun k hk hv=>?_,Nat.lt_of_lt_of_le S.lt a3,fun k hk=>?_⟩,⟨a3,fun k h1 h2 h3=>fr k h1 fun e=>h3 (.inr (.inl e))⟩,fun k hk=>?_⟩
 ·rintro (hk | hk | hk)
  ·exact S.ne (.inl hk)
  ·rcases nw ke hk with h | h
   ·exact S.ne (.inr (.inl h))
   ·have:=S.lt;omega
  ·exact S.ne (.inr (.inr hk))
 ·rcases nw k hv with h | h
  ·exact S.d1 k hk h
  ·have:=S.lts k (.inl hk);omega
 ·rcases nw k hk with h | h
  ·exact S.d3 k h hv
  ·have:=S.lts k (.inr (.inr hv));omega
 ·rcases hk with hk | hk | hk
  ·have:=S.lts k (.inl hk);omega
  ·rcases nw k hk with h | h
   ·have:=S.lts k (.inr (.inl h));omega
   ·exact h.2
  ·have:=S.lts k (.inr (.inr hk));omega
 ·rcases hk with hk | hk | hk
  ·exact .inl (.inl hk)
  ·rcases nw k hk with h | h
   ·exact .inl (.inr (.inl h))
   ·exact .inr h.1
  ·exact .inl (.inr (.inr hk))
theorem EnvG.put {h:AH} {ke:Nat} {r r' t:Tri} {ns:List Value} {e:Env} {o:Lang.Out} (S:EnvG h ke r t ns e o):EnvG (h.put ke (some (.cells #[r'.n,r'.v,r'.o] 78 (0,0),none))) ke r' t ns e o:=by
 have g:∀ k,t.has k→(h.put ke (some (.cells #[r'.n,r'.v,r'.o] 78 (0,0),none))).get k=h.get k:=fun k hk=>get_put_ne fun e=>S.ne (e ▸ hk)
 obtain ⟨vs,B,R⟩:=S.vals
 exact ⟨get_put_eq rfl,S.names.mono fun k hk=>g k (.inl hk),S.nsz,⟨vs,B.mono fun k hk=>g k (.inr (.inl hk)),R⟩,S.out.mono fun k hk=>g k (.inr (.inr hk)),S.ne,S.d1,S.d2,S.d3,by simpa using S.lt,fun k hk=>by simpa using S.lts k hk⟩
theorem AdvE.put {ke:Nat} {t:Tri} {h h':AH} (x:AdvE ke t h h') (v:Option (Obj × Option Nat)):AdvE ke t h (h'.put ke v):=⟨by simpa using x.size,fun k h1 h2 h3=>(get_put_ne h2).trans (x.get k h1 h2 h3)⟩
theorem blk_cut (s:Value) (k:Nat):blkOf (cutS s k)=blkOf s:=by
 cases s with
 | slice a n c=>cases a <;> rfl
 | _=>rfl
theorem EnvS.cut {h:AH} {ke:Nat} {t:Tri} {e f:Env} {o:Lang.Out} (S:EnvS h ke t (e++f) o) :
  sliceV Tryz.prog h 42 t.n none (some (.int .i64 (e.length:Nat)))=some (cutS t.n e.length)∧(∀ h',EnvS h' ke t (e++f) o→sliceV Tryz.prog h' 76 t.v none (some (.int .i64 (e.length:Nat)))=some (cutS t.v e.length)) ∧
  (∀ g,sliceV Tryz.prog (h.put ke g) 76 t.v none (some (.int .i64 (e.length:Nat)))=some (cutS t.v e.length)) ∧
  (∀ h':AH,h'.get ke=some (.cells #[cutS t.n e.length,cutS t.v e.length,t.o] 78 (0,0),none)→(∀ k,k ≠ ke→h'.get k=h.get k)→h'.size=h.size→EnvS h' ke ⟨cutS t.n e.length,cutS t.v e.length,t.o⟩ e o)∧∀ k,(⟨cutS t.n e.length,cutS t.v e.length,t.o⟩:Tri).has k→t.has k:=by
 obtain ⟨d1,hd1,hds1⟩:∃ d,(Tryz.prog).info? 9=some d∧d.size=1:=⟨_,rfl,by kernel_rfl⟩
 obtain ⟨d2,hd2,hds2⟩:∃ d,(Tryz.prog).info? 68=some d∧d.size=3:=⟨_,rfl,by kernel_rfl⟩
 have c1:=S.names.cutV (P:=Tryz.prog) (t:=42) (el:=9) (by kernel_rfl) hd1 hds1 (nmL_size _) (k:=e.length) (by unfold nmL;simp)
 have cv:∀ h',EnvS h' ke t (e++f) o→sliceV Tryz.prog h' 76 t.v none (some (.int .i64 (e.length:Nat)))=some (cutS t.v e.length):=fun h' S'=>by
  obtain ⟨vs,B,R⟩:=S'.vals
  have hl:=R.len
  exact (B.cutV (P:=Tryz.prog) (t:=76) (el:=68) (by kernel_rfl) hd2 hds2 R.size (k:=e.length) (by rw [hl];simp)).1
 have hh:∀ k,(⟨cutS t.n e.length,cutS t.v e.length,t.o⟩:Tri).has k→t.has k:=fun k hk=>by
  unfold Tri.has at hk ⊢
  simp only [blk_cut] at hk
  exact hk
 have hne:∀ g k,t.has k→(h.put ke g).get k=h.get k:=fun g k hk=>get_put_ne fun e=>S.ne (e ▸ hk)
 obtain ⟨vs,B,R⟩:=S.vals
 have hl:=R.len
 have c2:=B.cutV (P:=Tryz.prog) (t:=76) (el:=68) (by kernel_rfl) hd2 hds2 R.size (k:=e.length) (by rw [hl];simp)
 refine ⟨c1.1,cv,fun g=>?_,fun h' hrow hsame hsz=>?_,hh⟩
 ·exact ((B.mono fun k hk=>hne g k (.inr (.inl hk))).cutV (P:=Tryz.prog) (t:=76) (el:=68) (by kernel_rfl) hd2 hds2 R.size (k:=e.length) (by rw [hl];simp)).1
 ·have n1:=c1.2.1
  have e1:(nmL (e++f)).take e.length=nmL e:=by unfold nmL;rw [← List.map_take];simp
  rw [e1] at n1
  have r1:=R.take e.length
  have e2:(e++f).take e.length=e:=by simp
  rw [e2] at r1
  have hne':∀ k,t.has k→h'.get k=h.get k:=fun k hk=>hsame k fun e=>S.ne (e ▸ hk)
  exact ⟨hrow,n1.mono fun k hk=>hne' k (.inl (by rw [blk_cut] at hk;exact hk)),⟨_,c2.2.1.mono fun k hk=>hne' k (.inr (.inl (by rw [blk_cut] at hk;exact hk))),r1⟩,S.out.mono fun k hk=>hne' k (.inr (.inr hk)),fun hk=>S.ne (hh _ hk),fun k h1 h2=>S.d1 k (by rwa [blk_cut] at h1) (by rwa [blk_cut] at h2),fun k h1 h2=>S.d2 k (by rwa [blk_cut] at h1) h2,fun k h1 h2=>S.d3 k (by rwa [blk_cut] at h1) h2,by rw [hsz];exact S.lt,fun k hk=>by rw [hsz];exact S.lts k (hh k hk)⟩
end Go.Proofs.YtibigfkeaemanaaGreatDoor.L
end
