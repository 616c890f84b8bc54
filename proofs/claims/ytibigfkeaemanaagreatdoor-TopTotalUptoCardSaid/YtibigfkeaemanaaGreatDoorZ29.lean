import Derived.KernelRfl
import Derived.Test.YtibigfkeaemanaaGreatDoorProg
import Derived.Test.YtibigfkeaemanaaGreatDoorZ14
import Derived.Test.YtibigfkeaemanaaGreatDoorZ28
set_option linter.unusedVariables false
set_option linter.unusedSimpArgs false
section
namespace Go.Proofs.YtibigfkeaemanaaGreatDoor.L
open Go.Ab Go.Lang Go.Proofs.YtibigfkeaemanaaGreatDoor.X
set_option maxRecDepth 100000
theorem manyV_ok:VsOK manyV:=fun v hv=>by
 simp [manyV] at hv
 rcases hv with rfl | rfl <;> decide
theorem PR.src {h h1 h':AH} {kp:Nat} {e:Tok} {bv:Value} {p:Lang.Prog} {ts:List Tok} (x:PR h h1 kp e bv p ts) (A:Adv kp h1 h'):Src h' 2 (.slice (some ⟨h.size,0,none⟩) 2 2) (manyV.map encV):=by
 have hs:=x.size
 have hlt:=x.lt
 refine Src.row (k:=h.size) (off:=0) (m:=manyV.map encV) ((A.get _ (by omega) (by omega)).trans x.many) (fun v hv=>encVs_size _ v hv) (by simp [manyV]) ?_
 simp [manyV,encV,flatC,Value.cells,kT,kL]
theorem reduce_ok {h h1:AH} {kp:Nat} {e:Tok} {bv:Value} {p:Lang.Prog} {ts:List Tok} {rs:R Lang.Prog} (x:PR h h1 kp e bv p ts) (hsz:ts.length ≤ 90000) (hrs:rs=reduceF p ts) :
  K17_9 (.pointer (some ⟨kp,0,none⟩)) (.slice (some ⟨h.size,0,none⟩) 2 2) (.pointer (some ⟨h.size + 1,0,none⟩)) h1 (PPost kp h rs):=by
 refine X17_9_ok ?_
 unfold X17_9
 unfold reduceF at hrs
 obtain ⟨m,c,r,cs,ps,pt⟩:=p
 generalize hs1:stN 1=s1
 generalize hs5:stN 5=s5
 simp (disch:=first|exact dz|fail) only [SXB,SX,simprocAttr]
 subst hs1 hs5
 refine x.want 1 wReduce (by omega) (fun ts2 h2 hw x2 l2=>?_) (fun f hw A=>?_)
 ·rw [hw] at hrs
  simp only at hrs
  simp only [RK,Nat.reduceAdd]
  refine x2.block (more:=manyV) manyV_ok (by simp [manyV];omega) (fun h' A=>x2.src A) (fun ss ts3 h3 bv3 hb x3 l3=>?_) (fun f h3 hb A=>?_)
  ·rw [hb] at hrs
   simp only at hrs
   simp only [RK,Nat.reduceAdd]
   refine bq_of (setP3 x3.out) ?_
   have x4:=x3.set (p':=⟨m,c,ss,cs,ps,pt⟩)
   refine HC.exact (is_ok x4.S x4.ok.ne 1 wPart) ?_
   unfold partF partE at hrs
   cases hpt:isT ts3 1 wPart with
   | false =>
    rw [hpt] at hrs
    simp only [Bool.false_eq_true,if_false] at hrs
    simp (disch:=first|exact dz|fail) only [SXB,SX,simprocAttr]
    exact prog_end x4.S x4.ok.ne x4.out x4.size x4.A x4.lt hrs
   | true =>
    rw [hpt] at hrs
    simp only [if_true] at hrs
    generalize hs1:stN 1=s1
    generalize hs5:stN 5=s5
    simp (disch:=first|exact dz|fail) only [SXB,SX,simprocAttr]
    subst hs1 hs5
    obtain ⟨u,ts4,hts,hu4⟩:∃ u r,ts3=u::r∧u.cls ≠ 0:=by
     cases ts3 with
     | nil=>exact absurd rfl x4.ok.ne
     | cons u r =>
      refine ⟨u,r,rfl,fun h0=>?_⟩
      simp [isT,h0] at hpt
    subst hts
    refine PR.take x4 hu4 fun h4 v x5=>?_
    simp only [RK,Nat.reduceAdd]
    refine bq_of (setP5 x5.out) ?_
    have x6:=x5.set (p':=⟨m,c,ss,cs,true,pt⟩)
    have hs6:=x6.size
    have hlt:=x6.lt
    have hk:=x6.L.kp
    rw [List.tail_cons] at hrs
    generalize h4.put (h.size + 1) (some (.cells (celP ⟨m,c,ss,cs,true,pt⟩).toArray 66 (0,0),none))=h5 at x6 hs6 ⊢
    have vok:VsOK [(wKey,kT),(wParts,kN)]:=fun v hv=>by
     simp at hv
     rcases hv with rfl | rfl <;> decide
    have gk:(h5.push (.cells #[.string ⟨#[107,101,121]⟩,.int .u8 116,.string ⟨#[112,97,114,116,115]⟩,.int .u8 110] 86 (0,0)) none).get kp=some (.cells ([tokV e ts4]++([bv3]++[Value.int .i64 (0:Nat),Value.int .i64 (0:Nat),Value.int .i64 (0:Nat)])).toArray 58 (0,0),none):=(get_push_ne (by omega)).trans x6.S.row
    refine bq_of (x:=(h5.push (.cells #[.string ⟨#[107,101,121]⟩,.int .u8 116,.string ⟨#[112,97,114,116,115]⟩,.int .u8 110] 86 (0,0)) none).put kp (prow (tokV e ts4) (.slice (some ⟨h5.size,0,none⟩) 2 2) 0 0 0)) ((stN_mid (v:=.slice (some ⟨h5.size,0,none⟩) 2 2) gk rfl rfl rfl (fun z hz=>by simp [Value.cells] at hz;subst hz;rfl)).trans (by simp [Value.cells,prow])) ?_
    have A7:Adv kp h5 ((h5.push (.cells #[.string ⟨#[107,101,121]⟩,.int .u8 116,.string ⟨#[112,97,114,116,115]⟩,.int .u8 110] 86 (0,0)) none).put kp (prow (tokV e ts4) (.slice (some ⟨h5.size,0,none⟩) 2 2) 0 0 0)):=by (repeat (first | exact Adv.refl _ _ | assumption | refine Adv.push ?_ _ _ | refine Adv.put ?_ _ _ (by first | exact .inl rfl | (right;first | omega | (simp only [sz_push,sz_put];omega)))))
    have S7:PSg false ((h5.push (.cells #[.string ⟨#[107,101,121]⟩,.int .u8 116,.string ⟨#[112,97,114,116,115]⟩,.int .u8 110] 86 (0,0)) none).put kp (prow (tokV e ts4) (.slice (some ⟨h5.size,0,none⟩) 2 2) 0 0 0)) kp e ts4 (.slice (some ⟨h5.size,0,none⟩) 2 2) [(wKey,kT),(wParts,kN)] 0 0 0:=by
     refine ⟨get_put_eq rfl,?_,fun q=>by have:h5.size=kp:=Option.some.inj q;omega,by simp;omega,fun k q=>by have:h5.size=k:=Option.some.inj q;simp;omega⟩
     exact Lit.mk (l:=[encV (wKey,kT),encV (wParts,kN)]) ((get_put_ne (by omega)).trans (get_push_eq rfl)) (by simp [encV,flatC,Value.cells,kT,kN,wKey,wParts])
    have G7:=x6.G.adv A7 hk
    have HE:ExprOK false kp e (.slice (some ⟨h5.size,0,none⟩) 2 2) [(wKey,kT),(wParts,kN)] 0 0 0 (expr0 [(wKey,kT),(wParts,kN)]) ts4:=expr_ok ts4.length hk (by omega) vok (by simp) x5.ok (Nat.le_refl _)
    refine of_ok HE (expr0_ok vok) x5.ok S7 G7 110 (fun a ts5 h8 hof S8 a8=>?_) (fun f h8 hof p a8=>?_)
    ·change ofK (expr0 [(wKey,kT),(wParts,kN)]) kN ts4=_ at hof
     rw [hof] at hrs
     simp only at hrs
     have sh:=ofK_shr (expr0_ok vok) x5.ok hof
     have A8:=A7.trans a8
     have o8:=(A8.get _ (by omega) (by omega)).trans x6.out
     simp only [RK,Nat.reduceAdd]
     refine bq_of (setP6 o8) ?_
     have hs8:=A8.size
     have S9:PSg false (h8.put (h.size + 1) (some (.cells (celP ⟨m,c,ss,cs,true,a⟩).toArray 66 (0,0),none))) kp e ts5 (.slice (some ⟨h5.size,0,none⟩) 2 2) [(wKey,kT),(wParts,kN)] 0 0 0:=by
      refine ⟨by rw [get_put_ne (by omega)];exact S8.row,S8.own.mono fun k q=>?_,S8.ne,S8.lt,S8.ltb⟩
      have:h5.size=k:=Option.some.inj q
      exact get_put_ne (by omega)
     refine want_ok S9 sh.1.ne 4 mSemi (fun ts6 h9 hw S10 a10=>?_) fun f hw=>?_
     ·rw [hw] at hrs
      simp only at hrs
      simp only [RK,Nat.reduceAdd]
      have sh2:=want_shr hw (by omega) sh.1
      refine prog_end S10 sh2.1.ne ((a10.get _ (by simp;omega) (by omega)).trans (get_put_eq rfl)) ?_ ?_ hlt hrs
      ·have:=a10.size;simp at this;omega
      ·exact ((x6.A.trans A8).put _ _ (.inr (by omega))).trans a10
     ·rw [hw] at hrs
      simp only [resK_pan]
      exact .err hrs ((x6.A.trans A8).put _ _ (.inr (by omega)))
    ·change ofK (expr0 [(wKey,kT),(wParts,kN)]) kN ts4=_ at hof
     rw [hof] at hrs
     simp only [resK_pan]
     exact .err hrs (x6.A.trans (A7.trans a8))
  ·rw [hb] at hrs
   simp only [resK_pan]
   exact .err hrs A
 ·rw [hw] at hrs
  simp only [resK_pan]
  exact .err hrs A
theorem program_ok {h:AH} {kp:Nat} {e:Tok} {ts:List Tok} (S:PS h kp e ts (.slice none 0 0) [] 0 0 0) (hk:10 ≤ kp) (G:Glob h) (ok:TokOK ts) (hsz:ts.length ≤ 90000):HC Tryz.prog 17 [.pointer (some ⟨kp,0,none⟩)].toArray h (PPost kp h (programF ts)):=by
 refine X17_ok ?_
 unfold X17
 have hlt:=S.lt
 generalize hrs:programF ts=rs
 replace hrs:=hrs.symm
 unfold programF at hrs
 generalize hs1:stN 1=s1
 simp (disch:=first|exact dz|fail) only [SXB,SX,simprocAttr]
 subst hs1
 have x0:PR h ((h.push (.cells #[.string wKey,.int .u8 116,.string wValues,.int .u8 108] 86 (0,0)) none).push (.cells (celP ⟨[],[],[],false,false,.zero⟩).toArray 66 (0,0)) none) kp e (.slice none 0 0) ⟨[],[],[],false,false,.zero⟩ ts:=by
  refine ⟨?_,?_,by simp,S.same (by (repeat (first | exact Kp.refl _ _ | assumption | refine Kp.push ?_ _ _ (by first | omega | (simp only [sz_push,sz_put];omega)) | refine Kp.put ?_ _ _ (by first | omega | (simp only [sz_push,sz_put];omega))))),by (repeat (first | exact Adv.refl _ _ | assumption | refine Adv.push ?_ _ _ | refine Adv.put ?_ _ _ (by first | exact .inl rfl | (right;first | omega | (simp only [sz_push,sz_put];omega))))),fun k hk=>(nomatch hk),ok,G.adv (kp:=kp) (by (repeat (first | exact Adv.refl _ _ | assumption | refine Adv.push ?_ _ _ | refine Adv.put ?_ _ _ (by first | exact .inl rfl | (right;first | omega | (simp only [sz_push,sz_put];omega)))))) hk,⟨hk,fun k hk=>(nomatch hk)⟩,hlt⟩
  ·rw [get_push_ne (by simp)];exact get_push_eq rfl
  ·exact get_push_eq (by simp)
 refine PR.want x0 1 wMap (by omega) (fun ts2 h2 hw x2 l2=>?_) (fun f hw A=>?_)
 ·rw [hw] at hrs
  simp only at hrs
  simp only [RK,Nat.reduceAdd]
  have y2:PR h (h2.push (.cells #[.string wKey,.int .u8 116,.string wValue,.int .u8 116] 86 (0,0)) none) kp e (.slice none 0 0) ⟨[],[],[],false,false,.zero⟩ ts2:=x2.adv (x2.S.push _ _) (.push (.refl _ _) _ _) x2.ok
  have hlt2:=x2.S.lt
  refine PR.block y2 (more:=[(wKey,kT),(wValue,kT)]) (fun v hv=>by simp at hv;rcases hv with rfl | rfl <;> decide) (by simp;omega) (fun h' A=>?_) (fun ss ts3 h3 bv3 hb x3 l3=>?_) (fun f h3 hb A=>?_)
  ·refine Src.row (k:=h2.size) (off:=0) (m:=[(wKey,kT),(wValue,kT)].map encV) ((A.get _ (by simp) (by omega)).trans (get_push_eq rfl)) (fun v hv=>encVs_size _ v hv) (by simp) ?_
   simp [encV,flatC,Value.cells,kT]
  ·rw [hb] at hrs
   simp only at hrs
   simp only [RK,Nat.reduceAdd]
   refine bq_of (setP1 x3.out) ?_
   have x4:=x3.set (p':=⟨ss,[],[],false,false,.zero⟩)
   refine HC.exact (is_ok x4.S x4.ok.ne 1 wCombine) ?_
   cases hpt:isT ts3 1 wCombine with
   | false =>
    rw [hpt] at hrs
    simp only [Bool.false_eq_true,if_false] at hrs
    simp (disch:=first|exact dz|fail) only [SXB,SX,simprocAttr]
    exact reduce_ok x4 (by omega) hrs
   | true =>
    rw [hpt] at hrs
    simp only [if_true] at hrs
    generalize hs1:stN 1=s1
    simp (disch:=first|exact dz|fail) only [SXB,SX,simprocAttr]
    subst hs1
    obtain ⟨u,ts4,hts,hu4⟩:∃ u r,ts3=u::r∧u.cls ≠ 0:=by
     cases ts3 with
     | nil=>exact absurd rfl x4.ok.ne
     | cons u r =>
      refine ⟨u,r,rfl,fun h0=>?_⟩
      simp [isT,h0] at hpt
    subst hts
    rw [List.tail_cons] at hrs
    simp at l3
    refine PR.take x4 hu4 fun h4 v x5=>?_
    simp only [RK,Nat.reduceAdd]
    refine bq_of (setP4 x5.out) ?_
    have x6:=x5.set (p':=⟨ss,[],[],true,false,.zero⟩)
    refine PR.block x6 (more:=manyV) manyV_ok (by simp [manyV];omega) (fun h' A=>x6.src A) (fun ss2 ts5 h5 bv5 hb x7 l7=>?_) (fun f h5 hb A=>?_)
    ·rw [hb] at hrs
     simp only at hrs
     simp only [RK,Nat.reduceAdd]
     refine bq_of (setP2 x7.out) ?_
     exact reduce_ok (x7.set (p':=⟨ss,ss2,[],true,false,.zero⟩)) (by omega) hrs
    ·rw [hb] at hrs
     simp only [resK_pan]
     exact .err hrs A
  ·rw [hb] at hrs
   simp only [resK_pan]
   exact .err hrs A
 ·rw [hw] at hrs
  simp only [resK_pan]
  exact .err hrs A
end Go.Proofs.YtibigfkeaemanaaGreatDoor.L
end
section
namespace Go.Proofs.YtibigfkeaemanaaGreatDoor.X
open Go.Ab
set_option maxRecDepth 100000
noncomputable def code25:Code:=match Tryz.f25.body with | some c=>c | none=>.skip
noncomputable def res25:List ResultVar:=Tryz.f25.results.toList
def L25:Nat→Option (List Nat):=fun r=>none
noncomputable def X25 (t0:Value) (h:AH) (Q:RQ):Prop :=
 let t2:Value:=(Value.bool false)
 let t3:Value:=t0
 bq (binV Tryz.prog .geq 5 (.tmp 3) (.const (Value.int .u8 97)) t3 (Value.int .u8 97) h) fun t4 =>
 let t5:Value:=t4
 guardQ t5 true h (fun k=>k t0 h) fun t6 h =>
 guardQ t5 true h (fun k=>bq (binV Tryz.prog .leq 5 (.tmp 6) (.const (Value.int .u8 122)) t6 (Value.int .u8 122) h) fun v=>k v h) fun t7 h =>
 bq (pickV t5 t7 (Value.bool false)) fun t8 =>
 let t9:Value:=t8
 guardQ t9 false h (fun k=>k t0 h) fun t10 h =>
 guardQ t9 false h (fun k=>bq (binV Tryz.prog .geq 5 (.tmp 10) (.const (Value.int .u8 65)) t10 (Value.int .u8 65) h) fun v=>k v h) fun t11 h =>
 guardQ t9 false h (fun k=>k t11 h) fun t12 h =>
 guardQ t12 true h (fun k=>k t0 h) fun t13 h =>
 guardQ t12 true h (fun k=>bq (binV Tryz.prog .leq 5 (.tmp 13) (.const (Value.int .u8 90)) t13 (Value.int .u8 90) h) fun v=>k v h) fun t14 h =>
 guardQ t9 false h (fun k=>bq (pickV t12 t14 (Value.bool false)) fun v=>k v h) fun t15 h =>
 bq (pickV t9 (Value.bool true) t15) fun t16 =>
 let t2:Value:=t16
 Q (.ret t2) h
theorem X25_eq (t0:Value) (h:AH) (Q:RQ):X25 t0 h Q=wpC Tryz.prog L25 code25 (argA [t0] Tryz.f25.ntmps) h (retK Tryz.prog res25 Q):=by kernel_rfl
theorem X25_body:Tryz.f25.body=some code25:=by kernel_rfl
theorem X25_ok {t0:Value} {h:AH} {Q:RQ} (H:X25 t0 h Q):HC Tryz.prog 25 [t0].toArray h Q:=HC.body Tryz.func25 X25_body ((X25_eq t0 h Q).mp H)
noncomputable def code26:Code:=match Tryz.f26.body with | some c=>c | none=>.skip
noncomputable def res26:List ResultVar:=Tryz.f26.results.toList
def L26:Nat→Option (List Nat):=fun r=>none
noncomputable def X26 (t0:Value) (h:AH) (Q:RQ):Prop :=
 let t2:Value:=(Value.bool false)
 let t3:Value:=t0
 bq (binV Tryz.prog .geq 5 (.tmp 3) (.const (Value.int .u8 48)) t3 (Value.int .u8 48) h) fun t4 =>
 let t5:Value:=t4
 guardQ t5 true h (fun k=>k t0 h) fun t6 h =>
 guardQ t5 true h (fun k=>bq (binV Tryz.prog .leq 5 (.tmp 6) (.const (Value.int .u8 57)) t6 (Value.int .u8 57) h) fun v=>k v h) fun t7 h =>
 bq (pickV t5 t7 (Value.bool false)) fun t8 =>
 let t2:Value:=t8
 Q (.ret t2) h
theorem X26_eq (t0:Value) (h:AH) (Q:RQ):X26 t0 h Q=wpC Tryz.prog L26 code26 (argA [t0] Tryz.f26.ntmps) h (retK Tryz.prog res26 Q):=by kernel_rfl
theorem X26_body:Tryz.f26.body=some code26:=by kernel_rfl
theorem X26_ok {t0:Value} {h:AH} {Q:RQ} (H:X26 t0 h Q):HC Tryz.prog 26 [t0].toArray h Q:=HC.body Tryz.func26 X26_body ((X26_eq t0 h Q).mp H)
noncomputable def code27:Code:=match Tryz.f27.body with | some c=>c | none=>.skip
noncomputable def res27:List ResultVar:=Tryz.f27.results.toList
def L27:Nat→Option (List Nat):=fun r=>if r=2 then some [0,1,6] else if r=3 then some [0,1,6] else none
noncomputable def H27_2 (t0 t1 t6:Value) (h:AH) (Q:RQ):Prop:=HL Tryz.prog (cAt code27 [.r,.r,.l,.i,.i]) (mkA 56 [(0,t0),(1,t1),(6,t6)]) h (ctxAt Tryz.prog L27 code27 [.r,.r,.l,.i] (retK Tryz.prog res27 Q))
noncomputable def J27_3 (t0 t1 t6:Value) (h:AH) (Q:RQ):Prop:=wpC Tryz.prog L27 (cAt code27 [.r,.r,.l,.i,.i,.r,.r]) (mkA 56 [(0,t0),(1,t1),(6,t6)]) h (ctxAt Tryz.prog L27 code27 [.r,.r,.l,.i,.i,.r,.r] (retK Tryz.prog res27 Q))
noncomputable def K27_3 (t0 t1 t6:Value) (h:AH) (Q:RQ):Prop:=(ctxAt Tryz.prog L27 code27 [.r,.r,.l,.i,.i,.r,.l] (retK Tryz.prog res27 Q)) .normal (mkA 56 [(0,t0),(1,t1),(6,t6)]) h
theorem K27_3_eq (t0 t1 t6:Value) (h:AH) (Q:RQ):J27_3 t0 t1 t6 h Q=K27_3 t0 t1 t6 h Q:=join_eq (p:=[.r,.r,.l,.i,.i,.r]) (code:=code27) (by kernel_rfl) (by kernel_rfl)
noncomputable def X27_3 (t0 t1 t6:Value) (h:AH) (Q:RQ):Prop :=
 let t13:Value:=t1
 bq (binV Tryz.prog .add 3 (.tmp 13) (.const (Value.int .i64 1)) t13 (Value.int .i64 1) h) fun t14 =>
 let t1:Value:=t14
 H27_2 t0 t1 t6 h Q
theorem X27_3_eq (t0 t1 t6:Value) (h:AH) (Q:RQ):X27_3 t0 t1 t6 h Q=wpC Tryz.prog L27 (cAt code27 [.r,.r,.l,.i,.i,.r,.r]) (mkA 56 [(0,t0),(1,t1),(6,t6)]) h (ctxAt Tryz.prog L27 code27 [.r,.r,.l,.i,.i,.r,.r] (retK Tryz.prog res27 Q)):=by kernel_rfl
theorem X27_3_ok {t0 t1 t6:Value} {h:AH} {Q:RQ} (H:X27_3 t0 t1 t6 h Q):K27_3 t0 t1 t6 h Q:=(K27_3_eq t0 t1 t6 h Q).mp (((X27_3_eq t0 t1 t6 h Q).mp H))
noncomputable def X27_2 (t0 t1 t6:Value) (h:AH) (Q:RQ):Prop :=
 let t9:Value:=t1
 let t10:Value:=t0
 bq (lenS t10) fun t11 =>
 bq (binV Tryz.prog .lss 3 (.tmp 9) (.tmp 11) t9 t11 h) fun t12 =>
 condP (some t12)
 (let t15:Value:=t0
 let t16:Value:=t1
 bq (ixS t15 t16) fun t17 =>
 let t7:Value:=t17
 let t19:Value:=t7
 bq (binV Tryz.prog .eql 5 (.tmp 19) (.const (Value.int .u8 34)) t19 (Value.int .u8 34) h) fun t20 =>
 let t18:Value:=t20
 condP (some t18)
 (let t21:Value:=t6
 bq (convV Tryz.prog 80 9 t21 h) fun r=>(fun t22 h =>
 let t23:Value:=t1
 bq (binV Tryz.prog .add 3 (.tmp 23) (.const (Value.int .i64 1)) t23 (Value.int .i64 1) h) fun t24 =>
 let t4:Value:=t22
 let t5:Value:=t24
 Q (.ret (.tuple [t4,t5].toArray)) h) r.1 r.2)
 (let t26:Value:=t7
 bq (binV Tryz.prog .lss 5 (.tmp 26) (.const (Value.int .u8 32)) t26 (Value.int .u8 32) h) fun t27 =>
 let t28:Value:=t27
 guardQ t28 false h (fun k=>k t7 h) fun t29 h =>
 guardQ t28 false h (fun k=>bq (binV Tryz.prog .gtr 5 (.tmp 29) (.const (Value.int .u8 126)) t29 (Value.int .u8 126) h) fun v=>k v h) fun t30 h =>
 bq (pickV t28 (Value.bool true) t30) fun t31 =>
 let t25:Value:=t31
 condP (some t25)
 (let t4:Value:=(Value.string (ByteArray.mk #[]))
 let t5:Value:=(Value.int .i64 (-1))
 Q (.ret (.tuple [t4,t5].toArray)) h)
 (let t33:Value:=t7
 bq (binV Tryz.prog .neq 5 (.tmp 33) (.const (Value.int .u8 92)) t33 (Value.int .u8 92) h) fun t34 =>
 let t32:Value:=t34
 condP (some t32)
 (let t35:Value:=t6
 let t36:Value:=t7
 bq (bs 5 #[(Value.int .u8 0)] 1 h [(0,1,t36)]) fun r=>(fun t37 h =>
 bq (apT 5 1 1 (some (Value.int .u8 0)) h t35 t37) fun r=>(fun t38 h =>
 let t6:Value:=t38
 K27_3 t0 t1 t6 h Q) r.1 r.2) r.1 r.2)
 (let t39:Value:=t1
 bq (binV Tryz.prog .add 3 (.tmp 39) (.const (Value.int .i64 1)) t39 (Value.int .i64 1) h) fun t40 =>
 let t1:Value:=t40
 let t41:Value:=t1
 let t42:Value:=t0
 bq (lenS t42) fun t43 =>
 bq (binV Tryz.prog .eql 3 (.tmp 41) (.tmp 43) t41 t43 h) fun t44 =>
 condP (some t44)
 (let t4:Value:=(Value.string (ByteArray.mk #[]))
 let t5:Value:=(Value.int .i64 (-1))
 Q (.ret (.tuple [t4,t5].toArray)) h)
 (let t45:Value:=t0
 let t46:Value:=t1
 bq (ixS t45 t46) fun t47 =>
 HC Tryz.prog 24 (([]:List Value)++[(Value.string (ByteArray.mk #[34,92,110,116])),t47]++([]:List Value)).toArray h (resK (fun t48 h =>
 let t8:Value:=t48
 let t49:Value:=t8
 bq (binV Tryz.prog .lss 3 (.tmp 49) (.const (Value.int .i64 0)) t49 (Value.int .i64 0) h) fun t50 =>
 condP (some t50)
 (let t4:Value:=(Value.string (ByteArray.mk #[]))
 let t5:Value:=(Value.int .i64 (-1))
 Q (.ret (.tuple [t4,t5].toArray)) h)
 (let t51:Value:=t6
 let t52:Value:=t8
 bq (ixS (Value.string (ByteArray.mk #[34,92,10,9])) t52) fun t53 =>
 bq (bs 5 #[(Value.int .u8 0)] 1 h [(0,1,t53)]) fun r=>(fun t54 h =>
 bq (apT 5 1 1 (some (Value.int .u8 0)) h t51 t54) fun r=>(fun t55 h =>
 let t6:Value:=t55
 K27_3 t0 t1 t6 h Q) r.1 r.2) r.1 r.2)) (fun v h=>Q (.pan v) h)))))))
 (let t4:Value:=(Value.string (ByteArray.mk #[]))
 let t5:Value:=(Value.int .i64 (-1))
 Q (.ret (.tuple [t4,t5].toArray)) h)
theorem X27_2_eq (t0 t1 t6:Value) (h:AH) (Q:RQ):X27_2 t0 t1 t6 h Q=wpC Tryz.prog L27 (cAt code27 [.r,.r,.l,.i,.i]) (mkA 56 [(0,t0),(1,t1),(6,t6)]) h (ctxAt Tryz.prog L27 code27 [.r,.r,.l,.i,.i] (retK Tryz.prog res27 Q)):=by kernel_rfl
theorem X27_2_ok {t0 t1 t6:Value} {h:AH} {Q:RQ} (H:X27_2 t0 t1 t6 h Q):H27_2 t0 t1 t6 h Q:=HL.step (L:=L27) ((X27_2_eq t0 t1 t6 h Q).mp H)
noncomputable def X27 (t0 t1:Value) (h:AH) (Q:RQ):Prop :=
 let t4:Value:=(Value.string (ByteArray.mk #[]))
 let t5:Value:=(Value.int .i64 0)
 let t6:Value:=(Value.slice none 0 0)
 H27_2 t0 t1 t6 h Q
theorem X27_eq (t0 t1:Value) (h:AH) (Q:RQ):X27 t0 t1 h Q=wpC Tryz.prog L27 code27 (argA [t0,t1] Tryz.f27.ntmps) h (retK Tryz.prog res27 Q):=by kernel_rfl
theorem X27_body:Tryz.f27.body=some code27:=by kernel_rfl
theorem X27_ok {t0 t1:Value} {h:AH} {Q:RQ} (H:X27 t0 t1 h Q):HC Tryz.prog 27 [t0,t1].toArray h Q:=HC.body Tryz.func27 X27_body ((X27_eq t0 t1 h Q).mp H)
noncomputable def code15:Code:=match Tryz.f15.body with | some c=>c | none=>.skip
noncomputable def res15:List ResultVar:=Tryz.f15.results.toList
def L15:Nat→Option (List Nat):=fun r=>if r=1 then some [0,3] else if r=5 then some [0,3,4,5,7] else if r=14 then some [0,3,4,5,6,7] else if r=18 then some [0,3,4,5,6,7,8] else if r=27 then some [0,3,4,5,6,7] else if r=29 then some [0,3,4,6,7] else if r=31 then some [0,3,4,5,7] else none
noncomputable def E15_1 (t0 t3:Value) (h:AH) (Q:RQ):Prop:=HS Tryz.prog (cAt code15 [.r,.i]) (cAt code15 [.r,.i]) (mkA 124 [(0,t0),(3,t3)]) h (ctxAt Tryz.prog L15 code15 [.r] (retK Tryz.prog res15 Q))
noncomputable def S15_5 (t0 t3 t4 t5 t7:Value) (h:AH) (Q:RQ):Prop:=HS Tryz.prog (cAt code15 [.r,.i]) (lblY (cAt code15 [.r,.i]) 0) (mkA 124 [(0,t0),(3,t3),(4,t4),(5,t5),(7,t7)]) h (ctxAt Tryz.prog L15 code15 [.r] (retK Tryz.prog res15 Q))
noncomputable def G15_5 (t0 t3 t4 t5 t7:Value) (h:AH) (Q:RQ):Prop:=(ctxAt Tryz.prog L15 code15 [.r,.i] (retK Tryz.prog res15 Q)) (.goto 0) (mkA 124 [(0,t0),(3,t3),(4,t4),(5,t5),(7,t7)]) h
theorem G15_5_eq (t0 t3 t4 t5 t7:Value) (h:AH) (Q:RQ):HS Tryz.prog (cAt code15 [.r,.i]) (.seq .skip (lblY (cAt code15 [.r,.i]) 0)) (mkA 124 [(0,t0),(3,t3),(4,t4),(5,t5),(7,t7)]) h (ctxAt Tryz.prog L15 code15 [.r] (retK Tryz.prog res15 Q))=G15_5 t0 t3 t4 t5 t7 h Q:=by kernel_rfl
theorem G15_5_ok {t0 t3 t4 t5 t7:Value} {h:AH} {Q:RQ} (H:S15_5 t0 t3 t4 t5 t7 h Q):G15_5 t0 t3 t4 t5 t7 h Q:=(G15_5_eq t0 t3 t4 t5 t7 h Q).mp (HS.lbl (l:=0) (by kernel_rfl) H)
noncomputable def H15_5 (t0 t3 t4 t5 t7:Value) (h:AH) (Q:RQ):Prop:=HL Tryz.prog (cAt (lblY (cAt code15 [.r,.i]) 0) [.l,.i,.i]) (mkA 124 [(0,t0),(3,t3),(4,t4),(5,t5),(7,t7)]) h (ctxAt Tryz.prog L15 (lblY (cAt code15 [.r,.i]) 0) [.l,.i] (ctxAt Tryz.prog L15 code15 [.r,.i] (retK Tryz.prog res15 Q)))
noncomputable def H15_14 (t0 t3 t4 t5 t6 t7:Value) (h:AH) (Q:RQ):Prop:=HL Tryz.prog (cAt (lblY (cAt code15 [.r,.i]) 0) [.r,.r,.r,.r,.l,.r,.i,.r,.l,.r,.i,.i]) (mkA 124 [(0,t0),(3,t3),(4,t4),(5,t5),(6,t6),(7,t7)]) h (ctxAt Tryz.prog L15 (lblY (cAt code15 [.r,.i]) 0) [.r,.r,.r,.r,.l,.r,.i,.r,.l,.r,.i] (ctxAt Tryz.prog L15 code15 [.r,.i] (retK Tryz.prog res15 Q)))
noncomputable def H15_18 (t0 t3 t4 t5 t6 t7 t8:Value) (h:AH) (Q:RQ):Prop:=HL Tryz.prog (cAt (lblY (cAt code15 [.r,.i]) 0) [.r,.r,.r,.r,.l,.r,.i,.r,.r,.r,.l,.r,.l,.i,.i]) (mkA 124 [(0,t0),(3,t3),(4,t4),(5,t5),(6,t6),(7,t7),(8,t8)]) h (ctxAt Tryz.prog L15 (lblY (cAt code15 [.r,.i]) 0) [.r,.r,.r,.r,.l,.r,.i,.r,.r,.r,.l,.r,.l,.i] (ctxAt Tryz.prog L15 code15 [.r,.i] (retK Tryz.prog res15 Q)))
noncomputable def S15_31 (t0 t3 t4 t5 t7:Value) (h:AH) (Q:RQ):Prop:=HS Tryz.prog (cAt code15 [.r,.i]) (lblY (cAt code15 [.r,.i]) 1) (mkA 124 [(0,t0),(3,t3),(4,t4),(5,t5),(7,t7)]) h (ctxAt Tryz.prog L15 code15 [.r] (retK Tryz.prog res15 Q))
noncomputable def G15_31 (t0 t3 t4 t5 t7:Value) (h:AH) (Q:RQ):Prop:=(ctxAt Tryz.prog L15 code15 [.r,.i] (retK Tryz.prog res15 Q)) (.goto 1) (mkA 124 [(0,t0),(3,t3),(4,t4),(5,t5),(7,t7)]) h
theorem G15_31_eq (t0 t3 t4 t5 t7:Value) (h:AH) (Q:RQ):HS Tryz.prog (cAt code15 [.r,.i]) (.seq .skip (lblY (cAt code15 [.r,.i]) 1)) (mkA 124 [(0,t0),(3,t3),(4,t4),(5,t5),(7,t7)]) h (ctxAt Tryz.prog L15 code15 [.r] (retK Tryz.prog res15 Q))=G15_31 t0 t3 t4 t5 t7 h Q:=by kernel_rfl
theorem G15_31_ok {t0 t3 t4 t5 t7:Value} {h:AH} {Q:RQ} (H:S15_31 t0 t3 t4 t5 t7 h Q):G15_31 t0 t3 t4 t5 t7 h Q:=(G15_31_eq t0 t3 t4 t5 t7 h Q).mp (HS.lbl (l:=1) (by kernel_rfl) H)
noncomputable def J15_27 (t0 t3 t4 t5 t6 t7:Value) (h:AH) (Q:RQ):Prop:=wpC Tryz.prog L15 (cAt (lblY (cAt code15 [.r,.i]) 0) [.r,.r,.r,.r,.r]) (mkA 124 [(0,t0),(3,t3),(4,t4),(5,t5),(6,t6),(7,t7)]) h (ctxAt Tryz.prog L15 (lblY (cAt code15 [.r,.i]) 0) [.r,.r,.r,.r,.r] (ctxAt Tryz.prog L15 code15 [.r,.i] (retK Tryz.prog res15 Q)))
noncomputable def K15_27 (t0 t3 t4 t5 t6 t7:Value) (h:AH) (Q:RQ):Prop:=(ctxAt Tryz.prog L15 (lblY (cAt code15 [.r,.i]) 0) [.r,.r,.r,.r,.l] (ctxAt Tryz.prog L15 code15 [.r,.i] (retK Tryz.prog res15 Q))) .normal (mkA 124 [(0,t0),(3,t3),(4,t4),(5,t5),(6,t6),(7,t7)]) h
theorem K15_27_eq (t0 t3 t4 t5 t6 t7:Value) (h:AH) (Q:RQ):J15_27 t0 t3 t4 t5 t6 t7 h Q=K15_27 t0 t3 t4 t5 t6 t7 h Q:=join_eq (p:=[.r,.r,.r,.r]) (code:=(lblY (cAt code15 [.r,.i]) 0)) (by kernel_rfl) (by kernel_rfl)
noncomputable def J15_29 (t0 t3 t4 t6 t7:Value) (h:AH) (Q:RQ):Prop:=wpC Tryz.prog L15 (cAt (lblY (cAt code15 [.r,.i]) 0) [.r,.r,.r,.r,.r,.r]) (mkA 124 [(0,t0),(3,t3),(4,t4),(6,t6),(7,t7)]) h (ctxAt Tryz.prog L15 (lblY (cAt code15 [.r,.i]) 0) [.r,.r,.r,.r,.r,.r] (ctxAt Tryz.prog L15 code15 [.r,.i] (retK Tryz.prog res15 Q)))
noncomputable def K15_29 (t0 t3 t4 t6 t7:Value) (h:AH) (Q:RQ):Prop:=(ctxAt Tryz.prog L15 (lblY (cAt code15 [.r,.i]) 0) [.r,.r,.r,.r,.r,.l] (ctxAt Tryz.prog L15 code15 [.r,.i] (retK Tryz.prog res15 Q))) .normal (mkA 124 [(0,t0),(3,t3),(4,t4),(6,t6),(7,t7)]) h
theorem K15_29_eq (t0 t3 t4 t6 t7:Value) (h:AH) (Q:RQ):J15_29 t0 t3 t4 t6 t7 h Q=K15_29 t0 t3 t4 t6 t7 h Q:=join_eq (p:=[.r,.r,.r,.r,.r]) (code:=(lblY (cAt code15 [.r,.i]) 0)) (by kernel_rfl) (by kernel_rfl)
noncomputable def X15_29 (t0 t3 t4 t6 t7:Value) (h:AH) (Q:RQ):Prop :=
 let t117:Value:=t4
 bq (ldN 3 h t7) fun t118 =>
 bq (bs 55 #[(Value.int .i64 0),(Value.int .i64 0),(Value.string (ByteArray.mk #[]))] 1 h [(0,3,t118)]) fun r=>(fun t119 h =>
 bq (apT 55 3 32 (some (Value.agg #[(Value.int .i64 0),(Value.int .i64 0),(Value.string (ByteArray.mk #[]))])) h t117 t119) fun r=>(fun t120 h =>
 let t4:Value:=t120
 let t121:Value:=t6
 let t5:Value:=t121
 G15_5 t0 t3 t4 t5 t7 h Q) r.1 r.2) r.1 r.2
theorem X15_29_eq (t0 t3 t4 t6 t7:Value) (h:AH) (Q:RQ):X15_29 t0 t3 t4 t6 t7 h Q=wpC Tryz.prog L15 (cAt (lblY (cAt code15 [.r,.i]) 0) [.r,.r,.r,.r,.r,.r]) (mkA 124 [(0,t0),(3,t3),(4,t4),(6,t6),(7,t7)]) h (ctxAt Tryz.prog L15 (lblY (cAt code15 [.r,.i]) 0) [.r,.r,.r,.r,.r,.r] (ctxAt Tryz.prog L15 code15 [.r,.i] (retK Tryz.prog res15 Q))):=by kernel_rfl
theorem X15_29_ok {t0 t3 t4 t6 t7:Value} {h:AH} {Q:RQ} (H:X15_29 t0 t3 t4 t6 t7 h Q):K15_29 t0 t3 t4 t6 t7 h Q:=(K15_29_eq t0 t3 t4 t6 t7 h Q).mp (((X15_29_eq t0 t3 t4 t6 t7 h Q).mp H))
noncomputable def X15_27 (t0 t3 t4 t5 t6 t7:Value) (h:AH) (Q:RQ):Prop :=
 bq (fa 0 1 t7) fun t109 =>
 bq (ld1 h t109) fun t110 =>
 bq (binV Tryz.prog .neq 53 (.tmp 110) (.const (Value.int .i64 3)) t110 (Value.int .i64 3) h) fun t111 =>
 condP (some t111)
 (let t112:Value:=t0
 let t113:Value:=t5
 let t114:Value:=t6
 bq (sliceV Tryz.prog h 9 t112 (some t113) (some t114)) fun t115 =>
 bq (fa 2 1 t7) fun t116 =>
 bq (stN 1 h t116 t115) fun h=>(fun _ h =>
 K15_29 t0 t3 t4 t6 t7 h Q) undef h)
 (K15_29 t0 t3 t4 t6 t7 h Q)
theorem X15_27_eq (t0 t3 t4 t5 t6 t7:Value) (h:AH) (Q:RQ):X15_27 t0 t3 t4 t5 t6 t7 h Q=wpC Tryz.prog L15 (cAt (lblY (cAt code15 [.r,.i]) 0) [.r,.r,.r,.r,.r]) (mkA 124 [(0,t0),(3,t3),(4,t4),(5,t5),(6,t6),(7,t7)]) h (ctxAt Tryz.prog L15 (lblY (cAt code15 [.r,.i]) 0) [.r,.r,.r,.r,.r] (ctxAt Tryz.prog L15 code15 [.r,.i] (retK Tryz.prog res15 Q))):=by kernel_rfl
theorem X15_27_ok {t0 t3 t4 t5 t6 t7:Value} {h:AH} {Q:RQ} (H:X15_27 t0 t3 t4 t5 t6 t7 h Q):K15_27 t0 t3 t4 t5 t6 t7 h Q:=(K15_27_eq t0 t3 t4 t5 t6 t7 h Q).mp (((X15_27_eq t0 t3 t4 t5 t6 t7 h Q).mp H))
noncomputable def XS15_31 (t0 t3 t4 t5 t7:Value) (h:AH) (Q:RQ):Prop :=
 let t122:Value:=t5
 bq (bd #[(Value.int .i64 0),(Value.int .i64 0)] [(0,1,(Value.int .i64 160)),(1,1,t122)]) fun t123 =>
 let t2:Value:=(Value.slice none 0 0)
 bq (stN 2 h t3 t123) fun h=>(fun _ h =>
 bq (seqO [some t2,ldN 2 h t3]) fun vs=>Q (.ret (oneOf vs)) h) undef h
theorem XS15_31_eq (t0 t3 t4 t5 t7:Value) (h:AH) (Q:RQ):XS15_31 t0 t3 t4 t5 t7 h Q=wpC Tryz.prog L15 (cAt (lblY (cAt code15 [.r,.i]) 1) []) (mkA 124 [(0,t0),(3,t3),(4,t4),(5,t5),(7,t7)]) h (ctxAt Tryz.prog L15 (lblY (cAt code15 [.r,.i]) 1) [] (ctxAt Tryz.prog L15 code15 [.r,.i] (retK Tryz.prog res15 Q))):=by kernel_rfl
theorem XS15_31_ok {t0 t3 t4 t5 t7:Value} {h:AH} {Q:RQ} (H:XS15_31 t0 t3 t4 t5 t7 h Q):S15_31 t0 t3 t4 t5 t7 h Q:=HS.step (L:=L15) ((XS15_31_eq t0 t3 t4 t5 t7 h Q).mp H)
noncomputable def X15_18 (t0 t3 t4 t5 t6 t7 t8:Value) (h:AH) (Q:RQ):Prop :=
 let t65:Value:=t6
 let t66:Value:=t0
 bq (lenS t66) fun t67 =>
 bq (binV Tryz.prog .lss 3 (.tmp 65) (.tmp 67) t65 t67 h) fun t68 =>
 let t69:Value:=t68
 guardQ t69 true h (fun k=>k t0 h) fun t70 h =>
 guardQ t69 true h (fun k=>k t6 h) fun t71 h =>
 guardQ t69 true h (fun k=>bq (ixS t70 t71) fun v=>k v h) fun t72 h =>
 guardQ t69 true h (fun k=>HC Tryz.prog 26 (([]:List Value)++[t72]++([]:List Value)).toArray h (resK k (fun v h=>Q (.pan v) h))) fun t73 h =>
 bq (pickV t69 t73 (Value.bool false)) fun t74 =>
 condP (some t74)
 (let t75:Value:=t6
 bq (binV Tryz.prog .add 3 (.tmp 75) (.const (Value.int .i64 1)) t75 (Value.int .i64 1) h) fun t76 =>
 let t6:Value:=t76
 H15_18 t0 t3 t4 t5 t6 t7 t8 h Q)
 (let t77:Value:=t6
 let t78:Value:=t5
 bq (binV Tryz.prog .sub 3 (.tmp 77) (.tmp 78) t77 t78 h) fun t79 =>
 bq (binV Tryz.prog .gtr 3 (.tmp 79) (.const (Value.int .i64 9)) t79 (Value.int .i64 9) h) fun t80 =>
 let t81:Value:=t80
 guardQ t81 false h (fun k=>k t6 h) fun t82 h =>
 guardQ t81 false h (fun k=>k t5 h) fun t83 h =>
 guardQ t81 false h (fun k=>bq (binV Tryz.prog .sub 3 (.tmp 82) (.tmp 83) t82 t83 h) fun v=>k v h) fun t84 h =>
 guardQ t81 false h (fun k=>bq (binV Tryz.prog .gtr 3 (.tmp 84) (.const (Value.int .i64 1)) t84 (Value.int .i64 1) h) fun v=>k v h) fun t85 h =>
 guardQ t81 false h (fun k=>k t85 h) fun t86 h =>
 guardQ t86 true h (fun k=>k t8 h) fun t87 h =>
 guardQ t86 true h (fun k=>bq (binV Tryz.prog .eql 5 (.tmp 87) (.const (Value.int .u8 48)) t87 (Value.int .u8 48) h) fun v=>k v h) fun t88 h =>
 guardQ t81 false h (fun k=>bq (pickV t86 t88 (Value.bool false)) fun v=>k v h) fun t89 h =>
 bq (pickV t81 (Value.bool true) t89) fun t90 =>
 condP (some t90)
 (G15_31 t0 t3 t4 t5 t7 h Q)
 (K15_27 t0 t3 t4 t5 t6 t7 h Q))
theorem X15_18_eq (t0 t3 t4 t5 t6 t7 t8:Value) (h:AH) (Q:RQ):X15_18 t0 t3 t4 t5 t6 t7 t8 h Q=wpC Tryz.prog L15 (cAt (lblY (cAt code15 [.r,.i]) 0) [.r,.r,.r,.r,.l,.r,.i,.r,.r,.r,.l,.r,.l,.i,.i]) (mkA 124 [(0,t0),(3,t3),(4,t4),(5,t5),(6,t6),(7,t7),(8,t8)]) h (ctxAt Tryz.prog L15 (lblY (cAt code15 [.r,.i]) 0) [.r,.r,.r,.r,.l,.r,.i,.r,.r,.r,.l,.r,.l,.i,.i] (ctxAt Tryz.prog L15 code15 [.r,.i] (retK Tryz.prog res15 Q))):=by kernel_rfl
theorem X15_18_ok {t0 t3 t4 t5 t6 t7 t8:Value} {h:AH} {Q:RQ} (H:X15_18 t0 t3 t4 t5 t6 t7 t8 h Q):H15_18 t0 t3 t4 t5 t6 t7 t8 h Q:=HL.step (L:=L15) ((X15_18_eq t0 t3 t4 t5 t6 t7 t8 h Q).mp H)
noncomputable def X15_14 (t0 t3 t4 t5 t6 t7:Value) (h:AH) (Q:RQ):Prop :=
 let t43:Value:=t6
 let t44:Value:=t0
 bq (lenS t44) fun t45 =>
 bq (binV Tryz.prog .lss 3 (.tmp 43) (.tmp 45) t43 t45 h) fun t46 =>
 let t47:Value:=t46
 guardQ t47 true h (fun k=>k t0 h) fun t48 h =>
 guardQ t47 true h (fun k=>k t6 h) fun t49 h =>
 guardQ t47 true h (fun k=>bq (ixS t48 t49) fun v=>k v h) fun t50 h =>
 guardQ t47 true h (fun k=>HC Tryz.prog 25 (([]:List Value)++[t50]++([]:List Value)).toArray h (resK k (fun v h=>Q (.pan v) h))) fun t51 h =>
 guardQ t47 true h (fun k=>k t51 h) fun t52 h =>
 guardQ t52 false h (fun k=>k t0 h) fun t53 h =>
 guardQ t52 false h (fun k=>k t6 h) fun t54 h =>
 guardQ t52 false h (fun k=>bq (ixS t53 t54) fun v=>k v h) fun t55 h =>
 guardQ t52 false h (fun k=>HC Tryz.prog 26 (([]:List Value)++[t55]++([]:List Value)).toArray h (resK k (fun v h=>Q (.pan v) h))) fun t56 h =>
 guardQ t47 true h (fun k=>bq (pickV t52 (Value.bool true) t56) fun v=>k v h) fun t57 h =>
 bq (pickV t47 t57 (Value.bool false)) fun t58 =>
 condP (some t58)
 (let t59:Value:=t6
 bq (binV Tryz.prog .add 3 (.tmp 59) (.const (Value.int .i64 1)) t59 (Value.int .i64 1) h) fun t60 =>
 let t6:Value:=t60
 H15_14 t0 t3 t4 t5 t6 t7 h Q)
 (K15_27 t0 t3 t4 t5 t6 t7 h Q)
theorem X15_14_eq (t0 t3 t4 t5 t6 t7:Value) (h:AH) (Q:RQ):X15_14 t0 t3 t4 t5 t6 t7 h Q=wpC Tryz.prog L15 (cAt (lblY (cAt code15 [.r,.i]) 0) [.r,.r,.r,.r,.l,.r,.i,.r,.l,.r,.i,.i]) (mkA 124 [(0,t0),(3,t3),(4,t4),(5,t5),(6,t6),(7,t7)]) h (ctxAt Tryz.prog L15 (lblY (cAt code15 [.r,.i]) 0) [.r,.r,.r,.r,.l,.r,.i,.r,.l,.r,.i,.i] (ctxAt Tryz.prog L15 code15 [.r,.i] (retK Tryz.prog res15 Q))):=by kernel_rfl
theorem X15_14_ok {t0 t3 t4 t5 t6 t7:Value} {h:AH} {Q:RQ} (H:X15_14 t0 t3 t4 t5 t6 t7 h Q):H15_14 t0 t3 t4 t5 t6 t7 h Q:=HL.step (L:=L15) ((X15_14_eq t0 t3 t4 t5 t6 t7 h Q).mp H)
noncomputable def X15_5 (t0 t3 t4 t5 t7:Value) (h:AH) (Q:RQ):Prop :=
 let t9:Value:=t5
 let t10:Value:=t0
 bq (lenS t10) fun t11 =>
 bq (binV Tryz.prog .lss 3 (.tmp 9) (.tmp 11) t9 t11 h) fun t12 =>
 let t13:Value:=t12
 guardQ t13 true h (fun k=>k t0 h) fun t14 h =>
 guardQ t13 true h (fun k=>k t5 h) fun t15 h =>
 guardQ t13 true h (fun k=>bq (ixS t14 t15) fun v=>k v h) fun t16 h =>
 guardQ t13 true h (fun k=>HC Tryz.prog 24 (([]:List Value)++[(Value.string (ByteArray.mk #[32,9,13,10])),t16]++([]:List Value)).toArray h (resK k (fun v h=>Q (.pan v) h))) fun t17 h =>
 guardQ t13 true h (fun k=>bq (binV Tryz.prog .geq 3 (.tmp 17) (.const (Value.int .i64 0)) t17 (Value.int .i64 0) h) fun v=>k v h) fun t18 h =>
 bq (pickV t13 t18 (Value.bool false)) fun t19 =>
 condP (some t19)
 (let t20:Value:=t5
 bq (binV Tryz.prog .add 3 (.tmp 20) (.const (Value.int .i64 1)) t20 (Value.int .i64 1) h) fun t21 =>
 let t5:Value:=t21
 H15_5 t0 t3 t4 t5 t7 h Q)
 (let t22:Value:=t5
 let t23:Value:=t0
 bq (lenS t23) fun t24 =>
 bq (binV Tryz.prog .eql 3 (.tmp 22) (.tmp 24) t22 t24 h) fun t25 =>
 condP (some t25)
 (let t26:Value:=t4
 let t27:Value:=t5
 bq (bd #[(Value.int .i64 0),(Value.int .i64 0),(Value.string (ByteArray.mk #[]))] [(1,1,t27)]) fun t28 =>
 bq (bs 55 #[(Value.int .i64 0),(Value.int .i64 0),(Value.string (ByteArray.mk #[]))] 1 h [(0,3,t28)]) fun r=>(fun t29 h =>
 bq (apT 55 3 32 (some (Value.agg #[(Value.int .i64 0),(Value.int .i64 0),(Value.string (ByteArray.mk #[]))])) h t26 t29) fun r=>(fun t30 h =>
 bq (bd #[(Value.int .i64 0),(Value.int .i64 0)] []) fun t31 =>
 let t2:Value:=t30
 bq (stN 2 h t3 t31) fun h=>(fun _ h =>
 bq (seqO [some t2,ldN 2 h t3]) fun vs=>Q (.ret (oneOf vs)) h) undef h) r.1 r.2) r.1 r.2)
 (let t32:Value:=t5
 bq (bd #[(Value.int .i64 0),(Value.int .i64 0),(Value.string (ByteArray.mk #[]))] [(1,1,t32)]) fun t33 =>
 bq (stN 3 h t7 t33) fun h=>(fun _ h =>
 let t34:Value:=t5
 bq (binV Tryz.prog .add 3 (.tmp 34) (.const (Value.int .i64 1)) t34 (Value.int .i64 1) h) fun t35 =>
 let t6:Value:=t35
 let t36:Value:=t0
 let t37:Value:=t5
 bq (ixS t36 t37) fun t38 =>
 let t8:Value:=t38
 let t40:Value:=t8
 HC Tryz.prog 25 (([]:List Value)++[t40]++([]:List Value)).toArray h (resK (fun t41 h =>
 let t39:Value:=t41
 condP (some t39)
 (bq (fa 0 1 t7) fun t42 =>
 bq (stN 1 h t42 (Value.int .i64 1)) fun h=>(fun _ h =>
 H15_14 t0 t3 t4 t5 t6 t7 h Q) undef h)
 (let t62:Value:=t8
 HC Tryz.prog 26 (([]:List Value)++[t62]++([]:List Value)).toArray h (resK (fun t63 h =>
 let t61:Value:=t63
 condP (some t61)
 (bq (fa 0 1 t7) fun t64 =>
 bq (stN 1 h t64 (Value.int .i64 2)) fun h=>(fun _ h =>
 H15_18 t0 t3 t4 t5 t6 t7 t8 h Q) undef h)
 (let t92:Value:=t8
 bq (binV Tryz.prog .eql 5 (.tmp 92) (.const (Value.int .u8 34)) t92 (Value.int .u8 34) h) fun t93 =>
 let t91:Value:=t93
 condP (some t91)
 (bq (fa 0 1 t7) fun t94 =>
 bq (stN 1 h t94 (Value.int .i64 3)) fun h=>(fun _ h =>
 let t96:Value:=t0
 let t97:Value:=t6
 HC Tryz.prog 27 (([]:List Value)++[t96,t97]++([]:List Value)).toArray h (resK (fun t98 h =>
 let t95:Value:=t98
 bq (opExtract t95 0) fun t99 =>
 bq (opExtract t95 1) fun t100 =>
 bq (fa 2 1 t7) fun t101 =>
 bq (stN 1 h t101 t99) fun h=>(fun _ h =>
 let t6:Value:=t100
 let t102:Value:=t6
 bq (binV Tryz.prog .lss 3 (.tmp 102) (.const (Value.int .i64 0)) t102 (Value.int .i64 0) h) fun t103 =>
 condP (some t103)
 (G15_31 t0 t3 t4 t5 t7 h Q)
 (K15_27 t0 t3 t4 t5 t6 t7 h Q)) undef h) (fun v h=>Q (.pan v) h))) undef h)
 (let t105:Value:=t8
 HC Tryz.prog 24 (([]:List Value)++[(Value.string (ByteArray.mk #[123,125,40,41,44,59,61])),t105]++([]:List Value)).toArray h (resK (fun t106 h =>
 bq (binV Tryz.prog .geq 3 (.tmp 106) (.const (Value.int .i64 0)) t106 (Value.int .i64 0) h) fun t107 =>
 let t104:Value:=t107
 condP (some t104)
 (bq (fa 0 1 t7) fun t108 =>
 bq (stN 1 h t108 (Value.int .i64 4)) fun h=>(fun _ h =>
 K15_27 t0 t3 t4 t5 t6 t7 h Q) undef h)
 (G15_31 t0 t3 t4 t5 t7 h Q)) (fun v h=>Q (.pan v) h))))) (fun v h=>Q (.pan v) h)))) (fun v h=>Q (.pan v) h))) undef h))
theorem X15_5_eq (t0 t3 t4 t5 t7:Value) (h:AH) (Q:RQ):X15_5 t0 t3 t4 t5 t7 h Q=wpC Tryz.prog L15 (cAt (lblY (cAt code15 [.r,.i]) 0) [.l,.i,.i]) (mkA 124 [(0,t0),(3,t3),(4,t4),(5,t5),(7,t7)]) h (ctxAt Tryz.prog L15 (lblY (cAt code15 [.r,.i]) 0) [.l,.i,.i] (ctxAt Tryz.prog L15 code15 [.r,.i] (retK Tryz.prog res15 Q))):=by kernel_rfl
theorem X15_5_ok {t0 t3 t4 t5 t7:Value} {h:AH} {Q:RQ} (H:X15_5 t0 t3 t4 t5 t7 h Q):H15_5 t0 t3 t4 t5 t7 h Q:=HL.step (L:=L15) ((X15_5_eq t0 t3 t4 t5 t7 h Q).mp H)
noncomputable def XS15_5 (t0 t3 t4 t5 t7:Value) (h:AH) (Q:RQ):Prop :=
 H15_5 t0 t3 t4 t5 t7 h Q
theorem XS15_5_eq (t0 t3 t4 t5 t7:Value) (h:AH) (Q:RQ):XS15_5 t0 t3 t4 t5 t7 h Q=wpC Tryz.prog L15 (cAt (lblY (cAt code15 [.r,.i]) 0) []) (mkA 124 [(0,t0),(3,t3),(4,t4),(5,t5),(7,t7)]) h (ctxAt Tryz.prog L15 (lblY (cAt code15 [.r,.i]) 0) [] (ctxAt Tryz.prog L15 code15 [.r,.i] (retK Tryz.prog res15 Q))):=by kernel_rfl
theorem XS15_5_ok {t0 t3 t4 t5 t7:Value} {h:AH} {Q:RQ} (H:XS15_5 t0 t3 t4 t5 t7 h Q):S15_5 t0 t3 t4 t5 t7 h Q:=HS.step (L:=L15) ((XS15_5_eq t0 t3 t4 t5 t7 h Q).mp H)
noncomputable def XE15_1 (t0 t3:Value) (h:AH) (Q:RQ):Prop :=
 let t4:Value:=(Value.slice none 0 0)
 let t5:Value:=(Value.int .i64 0)
 let t6:Value:=(Value.int .i64 0)
 (fun t7 h =>
 S15_5 t0 t3 t4 t5 t7 h Q) (opNew h 55 #[(Value.int .i64 0),(Value.int .i64 0),(Value.string (ByteArray.mk #[]))]).1 (opNew h 55 #[(Value.int .i64 0),(Value.int .i64 0),(Value.string (ByteArray.mk #[]))]).2
theorem XE15_1_eq (t0 t3:Value) (h:AH) (Q:RQ):XE15_1 t0 t3 h Q=wpE Tryz.prog L15 (cAt code15 [.r,.i]) (cAt code15 [.r,.i]) (mkA 124 [(0,t0),(3,t3)]) h (ctxAt Tryz.prog L15 code15 [.r] (retK Tryz.prog res15 Q)):=by kernel_rfl
theorem XE15_1_ok {t0 t3:Value} {h:AH} {Q:RQ} (H:XE15_1 t0 t3 h Q):E15_1 t0 t3 h Q:=HS.enter (L:=L15) _ ((XE15_1_eq t0 t3 h Q).mp H)
noncomputable def X15 (t0:Value) (h:AH) (Q:RQ):Prop :=
 let t2:Value:=(Value.slice none 0 0)
 (fun t3 h =>
 E15_1 t0 t3 h Q) (opNew h 25 #[(Value.int .i64 0),(Value.int .i64 0)]).1 (opNew h 25 #[(Value.int .i64 0),(Value.int .i64 0)]).2
theorem X15_eq (t0:Value) (h:AH) (Q:RQ):X15 t0 h Q=wpC Tryz.prog L15 code15 (argA [t0] Tryz.f15.ntmps) h (retK Tryz.prog res15 Q):=by kernel_rfl
theorem X15_body:Tryz.f15.body=some code15:=by kernel_rfl
theorem X15_ok {t0:Value} {h:AH} {Q:RQ} (H:X15 t0 h Q):HC Tryz.prog 15 [t0].toArray h Q:=HC.body Tryz.func15 X15_body ((X15_eq t0 h Q).mp H)
end Go.Proofs.YtibigfkeaemanaaGreatDoor.X
end
section
namespace Go.Proofs.YtibigfkeaemanaaGreatDoor.L
open Go.Ab Go.Lang Go.Proofs.YtibigfkeaemanaaGreatDoor.X
set_option maxRecDepth 100000
theorem u_ge97 (c:UInt8):decide ((c.toNat:Int) ≥ 97)=decide ((97:UInt8) ≤ c):=by rw [decide_eq_decide,UInt8.le_iff_toNat_le];simp;omega
theorem u_ge65 (c:UInt8):decide ((c.toNat:Int) ≥ 65)=decide ((65:UInt8) ≤ c):=by rw [decide_eq_decide,UInt8.le_iff_toNat_le];simp;omega
theorem u_ge48 (c:UInt8):decide ((c.toNat:Int) ≥ 48)=decide ((48:UInt8) ≤ c):=by rw [decide_eq_decide,UInt8.le_iff_toNat_le];simp;omega
theorem u_le122 (c:UInt8):decide ((c.toNat:Int) ≤ 122)=decide (c ≤ (122:UInt8)):=by rw [decide_eq_decide,UInt8.le_iff_toNat_le];simp;omega
theorem u_le90 (c:UInt8):decide ((c.toNat:Int) ≤ 90)=decide (c ≤ (90:UInt8)):=by rw [decide_eq_decide,UInt8.le_iff_toNat_le];simp;omega
theorem u_le57 (c:UInt8):decide ((c.toNat:Int) ≤ 57)=decide (c ≤ (57:UInt8)):=by rw [decide_eq_decide,UInt8.le_iff_toNat_le];simp;omega
theorem letter_ok {h:AH} (c:UInt8):Ex Tryz.prog 25 [.int .u8 c.toNat].toArray h (.bool (Lang.letter c)) h:=by
 refine X25_ok ?_
 have e1:=u_ge97 c
 have e2:=u_le122 c
 have e3:=u_ge65 c
 have e4:=u_le90 c
 unfold Lang.letter
 generalize decide ((97:UInt8) ≤ c)=b1 at e1 ⊢
 generalize decide (c ≤ (122:UInt8))=b2 at e2 ⊢
 generalize decide ((65:UInt8) ≤ c)=b3 at e3 ⊢
 generalize decide (c ≤ (90:UInt8))=b4 at e4 ⊢
 unfold X25
 cases b1 <;> cases b2 <;> cases b3 <;> cases b4 <;> simp (disch:=first|exact dz|fail) only [e1,e2,e3,e4,SXB,SX,simprocAttr] <;> first | done | exact ⟨rfl,rfl⟩
theorem digit_ok {h:AH} (c:UInt8):Ex Tryz.prog 26 [.int .u8 c.toNat].toArray h (.bool (Lang.digit c)) h:=by
 refine X26_ok ?_
 have e1:=u_ge48 c
 have e2:=u_le57 c
 unfold Lang.digit
 generalize decide ((48:UInt8) ≤ c)=b1 at e1 ⊢
 generalize decide (c ≤ (57:UInt8))=b2 at e2 ⊢
 unfold X26
 cases b1 <;> cases b2 <;> simp (disch:=first|exact dz|fail) only [e1,e2,SXB,SX,simprocAttr] <;> first | done | exact ⟨rfl,rfl⟩
theorem indexByte_ok {h:AH} (s:ByteArray) (c:UInt8):Ex Tryz.prog 24 [.string s,.int .u8 c.toNat].toArray h (.int .i64 (Lib.indexByte s.data.toList c)) h:=by
 have e:((c.toNat:Int)).toNat.toUInt8=c:=by simp
 have hc:=fun w=>Tryz.strings_IndexByte s c.toNat w
 rw [e] at hc
 generalize Lib.indexByte s.data.toList c=r at hc ⊢
 refine Ex.of_calls (n:=12) ?_ ?_ hc
 ·rfl
 ·rfl
theorem indexByte_ge (l:List UInt8) (c:UInt8):-1 ≤ Lib.indexByte l c∧(decide (Lib.indexByte l c ≥ 0)=l.any (· == c)):=by
 induction l with
 | nil=>exact ⟨Int.le_refl _,rfl⟩
 | cons b l ih =>
  unfold Lib.indexByte
  obtain ⟨h1,h2⟩:=ih
  rw [List.any_cons,← h2]
  cases hb:b == c
  ·simp only [Bool.false_eq_true,if_false,Bool.false_or]
   by_cases h:Lib.indexByte l c = -1
   ·rw [if_pos (by simpa using h),h];exact ⟨by omega,rfl⟩
   ·rw [if_neg (by simpa using h)]
    exact ⟨by omega,by rw [decide_eq_decide];omega⟩
  ·simp
theorem blank_ix (c:UInt8):decide ((Lib.indexByte (ByteArray.mk #[32,9,13,10]).data.toList c:Int) ≥ 0)=Lang.blank c:=by
 rw [(indexByte_ge _ c).2]
 unfold Lang.blank
 simp only [List.any_cons,List.any_nil,Bool.or_false,Bool.beq_comm (b:=c),BEq.comm (b:=c)]
 cases c == 32 <;> cases c == 9 <;> cases c == 10 <;> cases c == 13 <;> rfl
theorem mark_ix (c:UInt8):decide ((Lib.indexByte (ByteArray.mk #[123,125,40,41,44,59,61]).data.toList c:Int) ≥ 0)=Lang.isMark c:=by
 rw [(indexByte_ge _ c).2]
 unfold Lang.isMark
 simp only [List.any_cons,List.any_nil,Bool.or_false,BEq.comm (b:=c),Bool.or_assoc]
end Go.Proofs.YtibigfkeaemanaaGreatDoor.L
end
