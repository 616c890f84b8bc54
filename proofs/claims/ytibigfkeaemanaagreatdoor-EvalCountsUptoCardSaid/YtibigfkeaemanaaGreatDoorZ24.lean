import Derived.KernelRfl
import Derived.Test.YtibigfkeaemanaaGreatDoorProg
import Derived.Test.YtibigfkeaemanaaGreatDoorZ15
import Derived.Test.YtibigfkeaemanaaGreatDoorZ20
import Derived.Test.YtibigfkeaemanaaGreatDoorZ23
set_option linter.unusedVariables false
set_option linter.unusedSimpArgs false
section
namespace Go.Proofs.YtibigfkeaemanaaGreatDoor.L
open Go.Ab Go.Lang Go.Proofs.YtibigfkeaemanaaGreatDoor.X
set_option maxRecDepth 100000
variable {ow:Bool}
def sigCells:List Value:=sigs.flatMap fun s=>[.string s.name,.string s.args,.string s.ans]
structure Glob (h:AH):Prop where
 max:∃ (m:Int) (e:TypeId) (fz:Nat × Nat) (s:Option Nat),h.get 1=some (.cells #[.int .i64 m] e fz,s)
 sig:∃ (e:TypeId) (fz:Nat × Nat) (s:Option Nat),h.get 2=some (.cells sigCells.toArray e fz,s)
 size:10 ≤ h.size
theorem Glob.mono {lo:Nat} {h h':AH} (G:Glob h) (K:Kp lo h h') (hl:10 ≤ lo):Glob h':=by
 obtain ⟨⟨m,e,fz,s,h1⟩,⟨e2,fz2,s2,h2⟩,h3⟩:=G
 exact ⟨⟨m,e,fz,s,(K.get _ (by omega)).trans h1⟩,⟨e2,fz2,s2,(K.get _ (by omega)).trans h2⟩,Nat.le_trans h3 K.size⟩
theorem contains_ok {h:AH} (G:Glob h) (s sub:ByteArray) (hs:s.size < 4294967281):Ex Tryz.prog 76 [.string s,.string sub].toArray h (.bool (Lib.contains s.data.toList sub.data.toList)) h:=by
 obtain ⟨m,e,fz,so,h1⟩:=G.max
 exact Ex.of_calls1 (n:=12) (g:=1) (of_decide_eq_true (by kernel_rfl)) h1 rfl rfl rfl fun w hm=>Tryz.strings_Contains s sub m w hs hm
theorem Glob.adv {kp:Nat} {h h':AH} (G:Glob h) (a:Adv kp h h') (hk:10 ≤ kp):Glob h':=by
 obtain ⟨⟨m,e,fz,s,h1⟩,⟨e2,fz2,s2,h2⟩,h3⟩:=G
 exact ⟨⟨m,e,fz,s,(a.get _ (by omega) (by omega)).trans h1⟩,⟨e2,fz2,s2,(a.get _ (by omega) (by omega)).trans h2⟩,Nat.le_trans h3 a.size⟩
theorem Glob.kp {h h':AH} (G:Glob h) (K:Kp h.size h h'):Glob h':=G.mono K G.size
theorem Adv.of_kp {kp:Nat} {h h':AH} (K:Kp h.size h h'):Adv kp h h':=⟨K.size,fun k h1 _=>K.get k h1⟩
theorem cat_32 (x:ByteArray):((⟨#[32]⟩++x++⟨#[32]⟩:ByteArray)).data.toList=32::(x.data.toList++[32]):=by simp
theorem size_32 (x:ByteArray):(⟨#[32]⟩++x:ByteArray).size=1 + x.size:=by rw [ByteArray.size_append];rfl
theorem fresh_ok {h:AH} {kp:Nat} {e t:Tok} {r:List Tok} {bv:Value} {vs:List Var} {b l c:Nat} {Q:RQ} (S:PSg ow h kp e (t::r) bv vs b l c) (hk:10 ≤ kp) (G:Glob h) (hn:t.cls=1→isName t.text∧t.text.size ≤ 4096)
  (hok:∀ h',Lang.fresh (t::r)=.ok (t,r)→PSg ow h' kp e r bv vs b l c→Adv kp h h'→Q (.ret (encT t)) h') (herr:∀ f h',Lang.fresh (t::r)=.error f→PanS h' kp→Adv kp h h'→Q (.pan (faultV f)) h') :
  HC Tryz.prog 61 [.pointer (some ⟨kp,0,none⟩)].toArray h Q:=by
 refine X61_ok ?_
 unfold X61
 have hlt:=S.lt
 simp (disch:=(first | exact dz | fail)) only [SXB,SX,reduceIte,Int.reduceLT,Int.reduceLE,Int.reduceToNat,Int.reduceBEq,Int.reduceBNe,Nat.reduceAdd,Nat.reduceMul,Nat.reduceSub,Nat.reduceLeDiff]
 refine HC.exact (peek_ok (S.same (by (repeat (first | exact Kp.refl _ _ | assumption | refine Kp.push ?_ _ _ (by first | omega | (simp only [sz_push,sz_put];omega)) | refine Kp.put ?_ _ _ (by first | omega | (simp only [sz_push,sz_put];omega))))))) ?_
 simp (disch:=(first | exact dz | fail)) only [encT,SXB,SX,reduceIte,Int.reduceLT,Int.reduceLE,Int.reduceToNat,Int.reduceBEq,Int.reduceBNe,Nat.reduceAdd,Nat.reduceMul,Nat.reduceSub,Nat.reduceLeDiff]
 have fin:∀ h',Lang.fresh (t::r)=.ok (t,r)→Kp h.size h h'→(∃ x y z,h'.get h.size=some (.cells #[x,y,z] 55 (0,0),none))→h.size < h'.size→K61_4 (.pointer (some ⟨kp,0,none⟩)) (.pointer (some ⟨h.size,0,none⟩)) h' Q:=by
  intro h' hf K ⟨x,y,z,hg⟩ hlt'
  refine X61_4_ok ?_
  unfold X61_4
  simp (disch:=(first | exact dz | fail)) only [SXB,SX,reduceIte,Int.reduceLT,Int.reduceLE,Int.reduceToNat,Int.reduceBEq,Int.reduceBNe,Nat.reduceAdd,Nat.reduceMul,Nat.reduceSub,Nat.reduceLeDiff]
  refine take_ok (S.same K) fun h2 S2 a2=>?_
  have hg2:h2.get h.size=some (.cells #[x,y,z] 55 (0,0),none):=(a2.get _ hlt' (by omega)).trans hg
  have A2:=(Adv.of_kp (kp:=kp) K).trans a2
  simp (disch:=(first | exact dz | fail)) only [hg2,encT,SXB,SX,reduceIte,Int.reduceLT,Int.reduceLE,Int.reduceToNat,Int.reduceBEq,Int.reduceBNe,Nat.reduceAdd,Nat.reduceMul,Nat.reduceSub,Nat.reduceLeDiff]
  refine hok _ hf (S.adv ?_ ?_) ?_
  ·(repeat (first | exact Adv.refl _ _ | assumption | refine Adv.push ?_ _ _ | refine Adv.put ?_ _ _ (by first | exact .inl rfl | (right;first | omega | (simp only [sz_push,sz_put];omega)))))
  ·rw [get_put_ne (by omega)];exact S2.row
  ·(repeat (first | exact Adv.refl _ _ | assumption | refine Adv.push ?_ _ _ | refine Adv.put ?_ _ _ (by first | exact .inl rfl | (right;first | omega | (simp only [sz_push,sz_put];omega)))))
 by_cases hc:t.cls=1
 ·obtain ⟨hnm,hsz⟩:=hn hc
  have e1:((t.cls:Int) != 1)=false:=by simp [hc]
  have s1:=size_32 t.text
  have s2:(ByteArray.mk #[32]).size=1:=rfl
  simp (disch:=(first | exact dz | fail)) only [e1,SXB,SX,reduceIte,Int.reduceLT,Int.reduceLE,Int.reduceToNat,Int.reduceBEq,Int.reduceBNe,Nat.reduceAdd,Nat.reduceMul,Nat.reduceSub,Nat.reduceLeDiff]
  refine HC.exact (contains_ok (G.kp (by (repeat (first | exact Kp.refl _ _ | assumption | refine Kp.push ?_ _ _ (by first | omega | (simp only [sz_push,sz_put];omega)) | refine Kp.put ?_ _ _ (by first | omega | (simp only [sz_push,sz_put];omega)))))) _ _ (of_decide_eq_true (by kernel_rfl))) ?_
  rw [cat_32,show ((⟨#[32,109,97,112,32,99,111,109,98,105,110,101,32,114,101,100,117,99,101,32,112,97,114,116,32,101,109,105,116,32,108,101,116,32,105,102,32,101,108,115,101,32,101,97,99,104,32,105,110,32,98,121,32,102,111,114,32]⟩:ByteArray))=reservedB from rfl,reserved_word hnm]
  have hf0:Lang.fresh (t::r)=if isWord t.text then .error (161,t.at_) else .ok (t,r):=by simp [Lang.fresh,hc]
  cases hw:isWord t.text with
  | true =>
   rw [hw] at hf0
   simp (disch:=(first | exact dz | fail)) only [SXB,SX,reduceIte,Int.reduceLT,Int.reduceLE,Int.reduceToNat,Int.reduceBEq,Int.reduceBNe,Nat.reduceAdd,Nat.reduceMul,Nat.reduceSub,Nat.reduceLeDiff]
   refine fail_ok (k:=161) ?_
   simp (disch:=(first | exact dz | fail)) only [SXB,SX,reduceIte,Int.reduceLT,Int.reduceLE,Int.reduceToNat,Int.reduceBEq,Int.reduceBNe,Nat.reduceAdd,Nat.reduceMul,Nat.reduceSub,Nat.reduceLeDiff]
   exact herr _ _ hf0 ((S.same (by (repeat (first | exact Kp.refl _ _ | assumption | refine Kp.push ?_ _ _ (by first | omega | (simp only [sz_push,sz_put];omega)) | refine Kp.put ?_ _ _ (by first | omega | (simp only [sz_push,sz_put];omega)))))).pan) (.of_kp (by (repeat (first | exact Kp.refl _ _ | assumption | refine Kp.push ?_ _ _ (by first | omega | (simp only [sz_push,sz_put];omega)) | refine Kp.put ?_ _ _ (by first | omega | (simp only [sz_push,sz_put];omega))))))
  | false =>
   rw [hw] at hf0
   simp (disch:=(first | exact dz | fail)) only [SXB,SX,reduceIte,Int.reduceLT,Int.reduceLE,Int.reduceToNat,Int.reduceBEq,Int.reduceBNe,Nat.reduceAdd,Nat.reduceMul,Nat.reduceSub,Nat.reduceLeDiff]
   refine fin _ hf0 (by (repeat (first | exact Kp.refl _ _ | assumption | refine Kp.push ?_ _ _ (by first | omega | (simp only [sz_push,sz_put];omega)) | refine Kp.put ?_ _ _ (by first | omega | (simp only [sz_push,sz_put];omega))))) ⟨.int .i64 0,.int .i64 0,.string ⟨#[]⟩,?_⟩ ?_
   ·simp (disch:=(first | exact dz | fail)) only [SXB,SX,reduceIte,Int.reduceLT,Int.reduceLE,Int.reduceToNat,Int.reduceBEq,Int.reduceBNe,Nat.reduceAdd,Nat.reduceMul,Nat.reduceSub,Nat.reduceLeDiff]
   ·simp (disch:=(first | exact dz | fail)) only [SXB,SX,reduceIte,Int.reduceLT,Int.reduceLE,Int.reduceToNat,Int.reduceBEq,Int.reduceBNe,Nat.reduceAdd,Nat.reduceMul,Nat.reduceSub,Nat.reduceLeDiff]
    omega
 ·have e1:((t.cls:Int) != 1)=true:=by simp;omega
  have hf0:Lang.fresh (t::r)=.error (161,t.at_):=by simp [Lang.fresh,hc]
  simp (disch:=(first | exact dz | fail)) only [e1,SXB,SX,reduceIte,Int.reduceLT,Int.reduceLE,Int.reduceToNat,Int.reduceBEq,Int.reduceBNe,Nat.reduceAdd,Nat.reduceMul,Nat.reduceSub,Nat.reduceLeDiff]
  refine fail_ok (k:=161) ?_
  simp (disch:=(first | exact dz | fail)) only [SXB,SX,reduceIte,Int.reduceLT,Int.reduceLE,Int.reduceToNat,Int.reduceBEq,Int.reduceBNe,Nat.reduceAdd,Nat.reduceMul,Nat.reduceSub,Nat.reduceLeDiff]
  exact herr _ _ hf0 ((S.same (by (repeat (first | exact Kp.refl _ _ | assumption | refine Kp.push ?_ _ _ (by first | omega | (simp only [sz_push,sz_put];omega)) | refine Kp.put ?_ _ _ (by first | omega | (simp only [sz_push,sz_put];omega)))))).pan) (.of_kp (by (repeat (first | exact Kp.refl _ _ | assumption | refine Kp.push ?_ _ _ (by first | omega | (simp only [sz_push,sz_put];omega)) | refine Kp.put ?_ _ _ (by first | omega | (simp only [sz_push,sz_put];omega))))))
def kres (o:Option Nat):Value:=.tuple #[.int .u8 (o.getD 0:Nat),.bool o.isSome]
theorem below_kres (n:Nat) (o:Option Nat):Below n (kres o):=.tuple fun v hv=>by
 simp at hv
 rcases hv with rfl | rfl
 ·exact .int _ _
 ·exact .bool _
theorem encV_cells (v:Var):(encV v).cells = #[.string v.1,.int .u8 v.2]:=rfl
theorem kindOf_cons (v:Var) (vs:List Var) (x:ByteArray):Lang.kindOf (v::vs) x=if eqT v.1 x then some v.2 else Lang.kindOf vs x:=by
 unfold Lang.kindOf
 rw [List.find?_cons]
 cases eqT v.1 x <;> rfl
theorem kindOf_loop {h:AH} {bv:Value} {vs:List Var} {x:ByteArray} {Q:RQ} (R:Rd h 2 bv (vs.map encV)) (hl:vs.length ≤ 1048576):∀ (r:List Var) (i:Nat) (h':AH),vs.drop i=r→i ≤ vs.length→Kp h.size h h' →
  (∀ h'',Kp h.size h h''→Q (.ret (kres (Lang.kindOf r x))) h'')→H63_2 (.string x) bv (.int .i64 vs.length) (.int .i64 i) h' Q:=by
 intro r
 induction r with
 | nil =>
  intro i h' hd hi K hq
  have:=drop_nil hd
  refine X63_2_ok ?_
  unfold X63_2
  have e:¬ ((i:Int) < vs.length):=by omega
  simp (disch:=(first | exact dz | fail)) only [e,SXB,SX,reduceIte,Int.reduceLT,Int.reduceLE,Int.reduceToNat,Int.reduceBEq,Int.reduceBNe,Nat.reduceAdd,Nat.reduceMul,Nat.reduceSub,Nat.reduceLeDiff]
  exact hq _ K
 | cons v r ih =>
  intro i h' hd hi K hq
  obtain ⟨h1,h2,h3⟩:=drop_cons hd
  have hks:=K.size
  refine X63_2_ok ?_
  unfold X63_2
  have e:(i:Int) < vs.length:=by omega
  obtain ⟨p,q1,q2,q3⟩:=(R.mono K).el i (encV v) (by simp [h1])
  have q4:=q2.ldN (n:=2) rfl
  simp (disch:=(first | exact dz | fail)) only [e,q1,q4,encV_cells,SXB,SX,reduceIte,Int.reduceLT,Int.reduceLE,Int.reduceToNat,Int.reduceBEq,Int.reduceBNe,Nat.reduceAdd,Nat.reduceMul,Nat.reduceSub,Nat.reduceLeDiff]
  rw [kindOf_cons] at hq
  unfold eqT at hq
  cases he:v.1.toList == x.toList with
  | true =>
   rw [he] at hq
   simp (disch:=(first | exact dz | fail)) only [SXB,SX,reduceIte,Int.reduceLT,Int.reduceLE,Int.reduceToNat,Int.reduceBEq,Int.reduceBNe,Nat.reduceAdd,Nat.reduceMul,Nat.reduceSub,Nat.reduceLeDiff]
   refine hq _ ?_
   (repeat (first | exact Kp.refl _ _ | assumption | refine Kp.push ?_ _ _ (by first | omega | (simp only [sz_push,sz_put];omega)) | refine Kp.put ?_ _ _ (by first | omega | (simp only [sz_push,sz_put];omega))))
  | false =>
   rw [he] at hq
   simp (disch:=(first | exact dz | fail)) only [SXB,SX,reduceIte,Int.reduceLT,Int.reduceLE,Int.reduceToNat,Int.reduceBEq,Int.reduceBNe,Nat.reduceAdd,Nat.reduceMul,Nat.reduceSub,Nat.reduceLeDiff]
   refine ih (i + 1) _ h2 (by omega) ?_ hq
   (repeat (first | exact Kp.refl _ _ | assumption | refine Kp.push ?_ _ _ (by first | omega | (simp only [sz_push,sz_put];omega)) | refine Kp.put ?_ _ _ (by first | omega | (simp only [sz_push,sz_put];omega))))
theorem kindOf_ok {h:AH} {kp:Nat} {e:Tok} {ts:List Tok} {bv:Value} {vs:List Var} {b l c:Nat} (S:PSg ow h kp e ts bv vs b l c) (hl:vs.length ≤ 1048576) (x:ByteArray) :
  Ex Tryz.prog 63 [.pointer (some ⟨kp,0,none⟩),.string x].toArray h (kres (Lang.kindOf vs x)) h:=by
 refine Ex.pureF (below_kres _ _) (X63_ok ?_)
 unfold X63
 have hr:=S.row
 unfold prow at hr
 have R:=S.own.rd (encVs_size vs) S.ltb
 have e1:=S.own.len
 rw [List.length_map] at e1
 simp (disch:=(first | exact dz | fail)) only [hr,e1,SXB,SX,reduceIte,Int.reduceLT,Int.reduceLE,Int.reduceToNat,Int.reduceBEq,Int.reduceBNe,Nat.reduceAdd,Nat.reduceMul,Nat.reduceSub,Nat.reduceLeDiff]
 exact kindOf_loop R hl vs 0 h rfl (by omega) (.refl _ _) fun h'' K=>⟨rfl,K⟩
theorem unbound_ok {h:AH} {kp:Nat} {e t:Tok} {r:List Tok} {bv:Value} {vs:List Var} {b l c:Nat} {Q:RQ} (S:PSg ow h kp e (t::r) bv vs b l c) (hk:10 ≤ kp) (G:Glob h) (hn:t.cls=1→isName t.text∧t.text.size ≤ 4096) (hl:vs.length ≤ 1048576)
  (hok:∀ h',Lang.unboundF vs (t::r)=.ok (t.text,r)→PSg ow h' kp e r bv vs b l c→Adv kp h h'→Q (.ret (.string t.text)) h') (herr:∀ f h',Lang.unboundF vs (t::r)=.error f→PanS h' kp→Adv kp h h'→Q (.pan (faultV f)) h') :
  HC Tryz.prog 59 [.pointer (some ⟨kp,0,none⟩)].toArray h Q:=by
 refine X59_ok ?_
 unfold X59
 simp (disch:=(first | exact dz | fail)) only [SXB,SX,reduceIte,Int.reduceLT,Int.reduceLE,Int.reduceToNat,Int.reduceBEq,Int.reduceBNe,Nat.reduceAdd,Nat.reduceMul,Nat.reduceSub,Nat.reduceLeDiff]
 refine fresh_ok S hk G hn (fun h' hf S' a=>?_) (fun f h' hf p a=>?_)
 ·have hu:Lang.unboundF vs (t::r)=if (Lang.kindOf vs t.text).isSome then .error (162,t.at_) else .ok (t.text,r):=by unfold Lang.unboundF;rw [hf]
  simp (disch:=(first | exact dz | fail)) only [encT,SXB,SX,reduceIte,Int.reduceLT,Int.reduceLE,Int.reduceToNat,Int.reduceBEq,Int.reduceBNe,Nat.reduceAdd,Nat.reduceMul,Nat.reduceSub,Nat.reduceLeDiff]
  refine HC.exact (kindOf_ok (S'.same (by (repeat (first | exact Kp.refl _ _ | assumption | refine Kp.push ?_ _ _ (by first | omega | (simp only [sz_push,sz_put];omega)) | refine Kp.put ?_ _ _ (by first | omega | (simp only [sz_push,sz_put];omega)))))) hl t.text) ?_
  have hlt:=S'.lt
  have hsz:=a.size
  simp (disch:=(first | exact dz | fail)) only [kres,SXB,SX,reduceIte,Int.reduceLT,Int.reduceLE,Int.reduceToNat,Int.reduceBEq,Int.reduceBNe,Nat.reduceAdd,Nat.reduceMul,Nat.reduceSub,Nat.reduceLeDiff]
  cases hv:Lang.kindOf vs t.text with
  | some k =>
   rw [hv] at hu
   simp (disch:=(first | exact dz | fail)) only [Option.isSome_some,SXB,SX,reduceIte,Int.reduceLT,Int.reduceLE,Int.reduceToNat,Int.reduceBEq,Int.reduceBNe,Nat.reduceAdd,Nat.reduceMul,Nat.reduceSub,Nat.reduceLeDiff]
   refine fail_ok (k:=162) ?_
   simp (disch:=(first | exact dz | fail)) only [SXB,SX,reduceIte,Int.reduceLT,Int.reduceLE,Int.reduceToNat,Int.reduceBEq,Int.reduceBNe,Nat.reduceAdd,Nat.reduceMul,Nat.reduceSub,Nat.reduceLeDiff]
   refine herr _ _ hu ((S'.same (by (repeat (first | exact Kp.refl _ _ | assumption | refine Kp.push ?_ _ _ (by first | omega | (simp only [sz_push,sz_put];omega)) | refine Kp.put ?_ _ _ (by first | omega | (simp only [sz_push,sz_put];omega)))))).pan) ?_
   (repeat (first | exact Adv.refl _ _ | assumption | refine Adv.push ?_ _ _ | refine Adv.put ?_ _ _ (by first | exact .inl rfl | (right;first | omega | (simp only [sz_push,sz_put];omega)))))
  | none =>
   rw [hv] at hu
   simp (disch:=(first | exact dz | fail)) only [Option.isSome_none,SXB,SX,reduceIte,Int.reduceLT,Int.reduceLE,Int.reduceToNat,Int.reduceBEq,Int.reduceBNe,Nat.reduceAdd,Nat.reduceMul,Nat.reduceSub,Nat.reduceLeDiff]
   refine X59_5_ok ?_
   unfold X59_5
   simp (disch:=(first | exact dz | fail)) only [SXB,SX,reduceIte,Int.reduceLT,Int.reduceLE,Int.reduceToNat,Int.reduceBEq,Int.reduceBNe,Nat.reduceAdd,Nat.reduceMul,Nat.reduceSub,Nat.reduceLeDiff]
   refine hok _ hu (S'.same (by (repeat (first | exact Kp.refl _ _ | assumption | refine Kp.push ?_ _ _ (by first | omega | (simp only [sz_push,sz_put];omega)) | refine Kp.put ?_ _ _ (by first | omega | (simp only [sz_push,sz_put];omega)))))) ?_
   (repeat (first | exact Adv.refl _ _ | assumption | refine Adv.push ?_ _ _ | refine Adv.put ?_ _ _ (by first | exact .inl rfl | (right;first | omega | (simp only [sz_push,sz_put];omega)))))
 ·have hu:Lang.unboundF vs (t::r)=.error f:=by unfold Lang.unboundF;rw [hf]
  simp (disch:=(first | exact dz | fail)) only [SXB,SX,reduceIte,Int.reduceLT,Int.reduceLE,Int.reduceToNat,Int.reduceBEq,Int.reduceBNe,Nat.reduceAdd,Nat.reduceMul,Nat.reduceSub,Nat.reduceLeDiff]
  exact herr _ _ hu p a
def sigV (s:Sig):Value:=.agg #[.string s.name,.string s.args,.string s.ans]
end Go.Proofs.YtibigfkeaemanaaGreatDoor.L
end
section
namespace Go.Proofs.YtibigfkeaemanaaGreatDoor.L
open Go.Ab Go.Lang Go.Proofs.YtibigfkeaemanaaGreatDoor.X
set_option maxRecDepth 100000
variable {ow:Bool}
theorem sig_at_0:opIndex Tryz.prog 157 (.agg sigCells.toArray) (.int .i64 0)=some (sigV (sigs[0]'(of_decide_eq_true (by kernel_rfl)))):=by kernel_rfl
theorem sig_at_1:opIndex Tryz.prog 157 (.agg sigCells.toArray) (.int .i64 1)=some (sigV (sigs[1]'(of_decide_eq_true (by kernel_rfl)))):=by kernel_rfl
theorem sig_at_2:opIndex Tryz.prog 157 (.agg sigCells.toArray) (.int .i64 2)=some (sigV (sigs[2]'(of_decide_eq_true (by kernel_rfl)))):=by kernel_rfl
theorem sig_at_3:opIndex Tryz.prog 157 (.agg sigCells.toArray) (.int .i64 3)=some (sigV (sigs[3]'(of_decide_eq_true (by kernel_rfl)))):=by kernel_rfl
theorem sig_at_4:opIndex Tryz.prog 157 (.agg sigCells.toArray) (.int .i64 4)=some (sigV (sigs[4]'(of_decide_eq_true (by kernel_rfl)))):=by kernel_rfl
theorem sig_at_5:opIndex Tryz.prog 157 (.agg sigCells.toArray) (.int .i64 5)=some (sigV (sigs[5]'(of_decide_eq_true (by kernel_rfl)))):=by kernel_rfl
theorem sig_at_6:opIndex Tryz.prog 157 (.agg sigCells.toArray) (.int .i64 6)=some (sigV (sigs[6]'(of_decide_eq_true (by kernel_rfl)))):=by kernel_rfl
theorem sig_at_7:opIndex Tryz.prog 157 (.agg sigCells.toArray) (.int .i64 7)=some (sigV (sigs[7]'(of_decide_eq_true (by kernel_rfl)))):=by kernel_rfl
theorem sig_at_8:opIndex Tryz.prog 157 (.agg sigCells.toArray) (.int .i64 8)=some (sigV (sigs[8]'(of_decide_eq_true (by kernel_rfl)))):=by kernel_rfl
theorem sig_at_9:opIndex Tryz.prog 157 (.agg sigCells.toArray) (.int .i64 9)=some (sigV (sigs[9]'(of_decide_eq_true (by kernel_rfl)))):=by kernel_rfl
theorem sig_at_10:opIndex Tryz.prog 157 (.agg sigCells.toArray) (.int .i64 10)=some (sigV (sigs[10]'(of_decide_eq_true (by kernel_rfl)))):=by kernel_rfl
theorem sig_at_11:opIndex Tryz.prog 157 (.agg sigCells.toArray) (.int .i64 11)=some (sigV (sigs[11]'(of_decide_eq_true (by kernel_rfl)))):=by kernel_rfl
theorem sig_at_12:opIndex Tryz.prog 157 (.agg sigCells.toArray) (.int .i64 12)=some (sigV (sigs[12]'(of_decide_eq_true (by kernel_rfl)))):=by kernel_rfl
theorem sig_at_13:opIndex Tryz.prog 157 (.agg sigCells.toArray) (.int .i64 13)=some (sigV (sigs[13]'(of_decide_eq_true (by kernel_rfl)))):=by kernel_rfl
theorem sig_at_14:opIndex Tryz.prog 157 (.agg sigCells.toArray) (.int .i64 14)=some (sigV (sigs[14]'(of_decide_eq_true (by kernel_rfl)))):=by kernel_rfl
theorem sig_at_15:opIndex Tryz.prog 157 (.agg sigCells.toArray) (.int .i64 15)=some (sigV (sigs[15]'(of_decide_eq_true (by kernel_rfl)))):=by kernel_rfl
theorem sig_at_16:opIndex Tryz.prog 157 (.agg sigCells.toArray) (.int .i64 16)=some (sigV (sigs[16]'(of_decide_eq_true (by kernel_rfl)))):=by kernel_rfl
theorem sig_at_17:opIndex Tryz.prog 157 (.agg sigCells.toArray) (.int .i64 17)=some (sigV (sigs[17]'(of_decide_eq_true (by kernel_rfl)))):=by kernel_rfl
theorem sig_at_18:opIndex Tryz.prog 157 (.agg sigCells.toArray) (.int .i64 18)=some (sigV (sigs[18]'(of_decide_eq_true (by kernel_rfl)))):=by kernel_rfl
theorem sig_at_19:opIndex Tryz.prog 157 (.agg sigCells.toArray) (.int .i64 19)=some (sigV (sigs[19]'(of_decide_eq_true (by kernel_rfl)))):=by kernel_rfl
theorem sig_at_20:opIndex Tryz.prog 157 (.agg sigCells.toArray) (.int .i64 20)=some (sigV (sigs[20]'(of_decide_eq_true (by kernel_rfl)))):=by kernel_rfl
theorem sig_at_21:opIndex Tryz.prog 157 (.agg sigCells.toArray) (.int .i64 21)=some (sigV (sigs[21]'(of_decide_eq_true (by kernel_rfl)))):=by kernel_rfl
theorem sig_at_22:opIndex Tryz.prog 157 (.agg sigCells.toArray) (.int .i64 22)=some (sigV (sigs[22]'(of_decide_eq_true (by kernel_rfl)))):=by kernel_rfl
theorem sig_at_23:opIndex Tryz.prog 157 (.agg sigCells.toArray) (.int .i64 23)=some (sigV (sigs[23]'(of_decide_eq_true (by kernel_rfl)))):=by kernel_rfl
theorem sig_at:∀ (i:Nat) (s:Sig),sigs[i]?=some s→opIndex Tryz.prog 157 (.agg sigCells.toArray) (.int .i64 i)=some (sigV s):=fun i s h=>match i with
 | 0=>by cases h;exact sig_at_0
 | 1=>by cases h;exact sig_at_1
 | 2=>by cases h;exact sig_at_2
 | 3=>by cases h;exact sig_at_3
 | 4=>by cases h;exact sig_at_4
 | 5=>by cases h;exact sig_at_5
 | 6=>by cases h;exact sig_at_6
 | 7=>by cases h;exact sig_at_7
 | 8=>by cases h;exact sig_at_8
 | 9=>by cases h;exact sig_at_9
 | 10=>by cases h;exact sig_at_10
 | 11=>by cases h;exact sig_at_11
 | 12=>by cases h;exact sig_at_12
 | 13=>by cases h;exact sig_at_13
 | 14=>by cases h;exact sig_at_14
 | 15=>by cases h;exact sig_at_15
 | 16=>by cases h;exact sig_at_16
 | 17=>by cases h;exact sig_at_17
 | 18=>by cases h;exact sig_at_18
 | 19=>by cases h;exact sig_at_19
 | 20=>by cases h;exact sig_at_20
 | 21=>by cases h;exact sig_at_21
 | 22=>by cases h;exact sig_at_22
 | 23=>by cases h;exact sig_at_23
 | n + 24=>by cases h
def fres:Option Sig→Value
 | some s=>.tuple #[sigV s,.bool true]
 | none=>.tuple #[sigV ⟨empty,empty,empty⟩,.bool false]
theorem below_sigV (n:Nat) (s:Sig):Below n (sigV s):=.agg fun v hv=>by
 simp at hv
 rcases hv with rfl | rfl | rfl <;> exact .string _
theorem below_fres (n:Nat) (o:Option Sig):Below n (fres o):=by
 cases o with
 | none =>
  refine .tuple fun v hv=>?_
  simp at hv
  rcases hv with rfl | rfl
  ·exact below_sigV _ _
  ·exact .bool _
 | some s =>
  refine .tuple fun v hv=>?_
  simp at hv
  rcases hv with rfl | rfl
  ·exact below_sigV _ _
  ·exact .bool _
theorem findS_cons (f:ByteArray) (s:Sig) (l:List Sig):findS f (s::l)=if eqT s.name f then some s else findS f l:=by
 unfold findS
 rw [List.find?_cons]
 cases eqT s.name f <;> rfl
theorem find_loop {h:AH} {f:ByteArray} {Q:RQ}:∀ (r:List Sig) (i:Nat) (h':AH),sigs.drop i=r→i ≤ 24→Kp h.size h h'→h.size < h'.size→(∃ x y z,h'.get h.size=some (.cells #[.string x,.string y,.string z] 137 (0,0),none)) →
  (∀ h'',Kp h.size h h''→Q (.ret (fres (findS f r))) h'')→H78_2 (.string f) (.pointer (some ⟨h.size,0,none⟩)) (.agg sigCells.toArray) (.int .i64 i) h' Q:=by
 intro r
 induction r with
 | nil =>
  intro i h' hd hi K hlt ⟨x,y,z,hg⟩ hq
  have:24 ≤ i:=drop_nil hd
  refine X78_2_ok ?_
  unfold X78_2
  have e:¬ ((i:Int) < 24):=by omega
  simp (disch:=(first | exact dz | fail)) only [e,hg,SXB,SX,reduceIte,Int.reduceLT,Int.reduceLE,Int.reduceToNat,Int.reduceBEq,Int.reduceBNe,Nat.reduceAdd,Nat.reduceMul,Nat.reduceSub,Nat.reduceLeDiff]
  refine hq _ ?_
  (repeat (first | exact Kp.refl _ _ | assumption | refine Kp.push ?_ _ _ (by first | omega | (simp only [sz_push,sz_put];omega)) | refine Kp.put ?_ _ _ (by first | omega | (simp only [sz_push,sz_put];omega))))
 | cons s r ih =>
  intro i h' hd hi K hlt ⟨x,y,z,hg⟩ hq
  obtain ⟨h1,h2,h3⟩:=drop_cons hd
  have h4:i < 24:=h3
  have hks:=K.size
  refine X78_2_ok ?_
  unfold X78_2
  have e:(i:Int) < 24:=by omega
  simp (disch:=(first | exact dz | fail)) only [e,sig_at i s h1,sigV,SXB,SX,reduceIte,Int.reduceLT,Int.reduceLE,Int.reduceToNat,Int.reduceBEq,Int.reduceBNe,Nat.reduceAdd,Nat.reduceMul,Nat.reduceSub,Nat.reduceLeDiff]
  rw [findS_cons] at hq
  unfold eqT at hq
  cases he:s.name.toList == f.toList with
  | true =>
   rw [he] at hq
   have hne:h.size ≠ h'.size:=by omega
   simp (disch:=(first | exact dz | fail)) only [hg,SXB,SX,reduceIte,Int.reduceLT,Int.reduceLE,Int.reduceToNat,Int.reduceBEq,Int.reduceBNe,Nat.reduceAdd,Nat.reduceMul,Nat.reduceSub,Nat.reduceLeDiff]
   refine hq _ ?_
   (repeat (first | exact Kp.refl _ _ | assumption | refine Kp.push ?_ _ _ (by first | omega | (simp only [sz_push,sz_put];omega)) | refine Kp.put ?_ _ _ (by first | omega | (simp only [sz_push,sz_put];omega))))
  | false =>
   rw [he] at hq
   simp (disch:=(first | exact dz | fail)) only [SXB,SX,reduceIte,Int.reduceLT,Int.reduceLE,Int.reduceToNat,Int.reduceBEq,Int.reduceBNe,Nat.reduceAdd,Nat.reduceMul,Nat.reduceSub,Nat.reduceLeDiff]
   refine ih (i + 1) _ h2 (by omega) ?_ ?_ ⟨x,y,z,?_⟩ hq
   ·(repeat (first | exact Kp.refl _ _ | assumption | refine Kp.push ?_ _ _ (by first | omega | (simp only [sz_push,sz_put];omega)) | refine Kp.put ?_ _ _ (by first | omega | (simp only [sz_push,sz_put];omega))))
   ·simp (disch:=(first | exact dz | fail)) only [SXB,SX,reduceIte,Int.reduceLT,Int.reduceLE,Int.reduceToNat,Int.reduceBEq,Int.reduceBNe,Nat.reduceAdd,Nat.reduceMul,Nat.reduceSub,Nat.reduceLeDiff]
    omega
   ·simp (disch:=(first | exact dz | fail)) only [hg,SXB,SX,reduceIte,Int.reduceLT,Int.reduceLE,Int.reduceToNat,Int.reduceBEq,Int.reduceBNe,Nat.reduceAdd,Nat.reduceMul,Nat.reduceSub,Nat.reduceLeDiff]
theorem find_ok {h:AH} (G:Glob h) (f:ByteArray):Ex Tryz.prog 78 [.string f].toArray h (fres (findS f sigs)) h:=by
 refine Ex.pureF (below_fres _ _) (X78_ok ?_)
 unfold X78
 obtain ⟨e,fz,s,hg⟩:=G.sig
 have hsz:=G.size
 have e72:sigCells.toArray.extract 0 72=sigCells.toArray:=by kernel_rfl
 have e72':(72 ≤ sigCells.length)=True:=by simp only [eq_iff_iff,iff_true];exact of_decide_eq_true (by kernel_rfl)
 have e73:List.extract sigCells 0 72=sigCells:=by kernel_rfl
 simp (disch:=(first | exact dz | fail)) only [hg,e72,e72',e73,SXB,SX,reduceIte,Int.reduceLT,Int.reduceLE,Int.reduceToNat,Int.reduceBEq,Int.reduceBNe,Nat.reduceAdd,Nat.reduceMul,Nat.reduceSub,Nat.reduceLeDiff]
 refine find_loop sigs 0 _ rfl (by omega) ?_ ?_ ⟨⟨#[]⟩,⟨#[]⟩,⟨#[]⟩,?_⟩ fun h'' K=>⟨rfl,K⟩
 ·(repeat (first | exact Kp.refl _ _ | assumption | refine Kp.push ?_ _ _ (by first | omega | (simp only [sz_push,sz_put];omega)) | refine Kp.put ?_ _ _ (by first | omega | (simp only [sz_push,sz_put];omega))))
 ·simp (disch:=(first | exact dz | fail)) only [SXB,SX,reduceIte,Int.reduceLT,Int.reduceLE,Int.reduceToNat,Int.reduceBEq,Int.reduceBNe,Nat.reduceAdd,Nat.reduceMul,Nat.reduceSub,Nat.reduceLeDiff]
  omega
 ·simp (disch:=(first | exact dz | fail)) only [SXB,SX,reduceIte,Int.reduceLT,Int.reduceLE,Int.reduceToNat,Int.reduceBEq,Int.reduceBNe,Nat.reduceAdd,Nat.reduceMul,Nat.reduceSub,Nat.reduceLeDiff]
def numL (l:List UInt8):Nat:=l.foldl (fun n c=>10 * n + (c.toNat - 48)) 0
theorem numL_snoc (l:List UInt8) (c:UInt8):numL (l++[c])=10 * numL l + (c.toNat - 48):=by simp [numL]
theorem numL_lt:∀ (n:Nat) (l:List UInt8),l.length=n→(∀ c ∈ l,digit c=true)→numL l < 10 ^ n:=by
 intro n
 induction n with
 | zero=>intro l hl _;rw [List.eq_nil_of_length_eq_zero hl];exact Nat.one_pos
 | succ n ih =>
  intro l hl hd
  have hne:l ≠ []:=by intro e;rw [e] at hl;cases hl
  have e:=List.dropLast_concat_getLast hne
  rw [← e,numL_snoc]
  have h1:=ih l.dropLast (by simp;omega) fun c hc=>hd c (List.dropLast_subset l hc)
  have h2:=hd (l.getLast hne) (List.getLast_mem hne)
  simp only [digit,Bool.and_eq_true,decide_eq_true_eq,UInt8.le_iff_toNat_le] at h2
  have h3:(48:UInt8).toNat=48:=rfl
  have h4:(57:UInt8).toNat=57:=rfl
  rw [Nat.pow_succ]
  omega
theorem digit_range {c:UInt8} (h:digit c=true):48 ≤ c.toNat∧c.toNat ≤ 57:=by
 simp only [digit,Bool.and_eq_true,decide_eq_true_eq,UInt8.le_iff_toNat_le] at h
 exact h
theorem wrap8 {x:Int} (h1:0 ≤ x) (h2:x < 256):IntKind.u8.wrap x=x:=IntWalk.u8_in x ⟨h1,by omega⟩
theorem s2b {h:AH} {s:ByteArray}:convV Tryz.prog 9 80 (.string s) h=some (.slice (some ⟨h.size,0,none⟩) s.size s.size,h.push (.cells (s.data.map fun b=>.int .u8 b.toNat) 5 (0,0)) (some 1)):=by kernel_rfl
theorem size_list {s:ByteArray} {l:List UInt8} (hl:s.data.toList=l):s.size=l.length:=by rw [← hl,Array.length_toList];rfl
theorem get_bang {s:ByteArray} {l:List UInt8} (hl:s.data.toList=l) {i:Nat} {c:UInt8} (h:l[i]?=some c):s[i]! = c:=by
 have hlt:i < s.size:=by rw [size_list hl];exact (List.getElem?_eq_some_iff.1 h).1
 rw [getElem!_pos s i hlt]
 have h2:s.data[i]?=some c:=by rw [← Array.getElem?_toList,hl];exact h
 exact (Array.getElem?_eq_some_iff.1 h2).2
theorem ixS_at {s:ByteArray} {l:List UInt8} (hl:s.data.toList=l) {i:Nat} {c:UInt8} (h:l[i]?=some c):ixS (.string s) (.int .i64 i)=some (.int .u8 c.toNat):=by
 have hlt:i < s.size:=by rw [size_list hl];exact (List.getElem?_eq_some_iff.1 h).1
 show (if (0:Int) ≤ i∧(i:Int).toNat < s.size then some (Value.int .u8 (s[(i:Int).toNat]!).toNat) else none)=_
 rw [Int.toNat_natCast,if_pos ⟨by omega,hlt⟩,get_bang hl h]
theorem byte_at {s:ByteArray} {l:List UInt8} (hl:s.data.toList=l) {i:Nat} {c:UInt8} (h:l[i]?=some c):(s.data.map fun b=>Value.int .u8 (b.toNat:Nat))[i]?=some (.int .u8 c.toNat):=by
 subst hl
 rw [Array.getElem?_map,← Array.getElem?_toList,h]
 rfl
theorem atoi_loop {h:AH} {s:ByteArray} {l:List UInt8} (hl:s.data.toList=l) (hd:∀ c ∈ l,digit c=true) (hn:l.length ≤ 9) (h0:0 < l.length) {k:Nat} (hg:h.get k=some (.cells (s.data.map fun b=>.int .u8 b.toNat) 5 (0,0),some 1)) {Q:RQ}
  (hq:Q (.ret (.tuple #[.int .i64 (numL l:Nat),.nilIface])) h):∀ (r:List UInt8) (i:Nat),l.drop i=r→i ≤ l.length →
  H74_10 (.string s) (.int .i64 (numL (l.take i):Nat)) (.slice (some ⟨k,0,none⟩) s.size s.size) (.int .i64 l.length) (.int .i64 i) h Q:=by
 have hsz:=size_list hl
 intro r
 induction r with
 | nil =>
  intro i hdr hi
  have:=drop_nil hdr
  have hi':i=l.length:=by omega
  subst hi'
  refine X74_10_ok ?_
  unfold X74_10
  obtain ⟨c,hc⟩:∃ c,l[0]?=some c:=⟨l[0],List.getElem?_eq_getElem h0⟩
  have hdig:=digit_range (hd c (List.mem_of_getElem? hc))
  have e0:ixS (.string s) (.int .i64 0)=some (.int .u8 c.toNat):=ixS_at hl hc
  have e:¬ ((l.length:Int) < (l.length:Int)):=by omega
  have e2:((c.toNat:Int) == 45)=false:=by simp;omega
  simp (disch:=(first | exact dz | fail)) only [e,e0,e2,SXB,SX,reduceIte,Int.reduceLT,Int.reduceLE,Int.reduceToNat,Int.reduceBEq,Int.reduceBNe,Nat.reduceAdd,Nat.reduceMul,Nat.reduceSub,Nat.reduceLeDiff]
  refine X74_19_ok ?_
  unfold X74_19
  rw [List.take_of_length_le (Nat.le_refl _)]
  exact hq
 | cons c r ih =>
  intro i hdr hi
  obtain ⟨h1,h2,h3⟩:=drop_cons hdr
  refine X74_10_ok ?_
  unfold X74_10
  have e:(i:Int) < l.length:=by omega
  have hdig:=digit_range (hd c (List.mem_of_getElem? h1))
  have hb:=numL_lt i (l.take i) (by simp;omega) fun c hc=>hd c (List.mem_of_mem_take hc)
  have hb2:10 ^ i ≤ 10 ^ 9:=Nat.pow_le_pow_right (by omega) (by omega)
  have e1:(0:Int) ≤ (i:Int)∧(i:Int) < (s.size:Nat):=by omega
  have e2:=byte_at hl h1
  have e3:IntKind.u8.wrap ((c.toNat:Int) - 48)=((c.toNat - 48:Nat):Int):=by rw [wrap8 (by omega) (by omega)];omega
  have e4:¬ (9 < ((c.toNat - 48:Nat):Int)):=by omega
  have hb3:numL (l.take i) < 1000000000:=Nat.lt_of_lt_of_le hb hb2
  have e7:((numL (l.take (i + 1)):Nat):Int)=(numL (l.take i):Nat) * 10 + ((c.toNat - 48:Nat):Int):=by
   rw [List.take_add_one,h1]
   show ((numL (l.take i++[c]):Nat):Int)=_
   rw [numL_snoc];omega
  have:=ih (i + 1) h2 (by omega)
  rw [e7] at this
  simp (disch:=(first | exact dz | fail)) only [e,e1,hg,e2,e3,e4,SXB,SX,reduceIte,Int.reduceLT,Int.reduceLE,Int.reduceToNat,Int.reduceBEq,Int.reduceBNe,Nat.reduceAdd,Nat.reduceMul,Nat.reduceSub,Nat.reduceLeDiff]
  exact this
theorem iatoi_ok {h:AH} {s:ByteArray} (hd:isDigits s):Ex Tryz.prog 74 [.string s].toArray h (.tuple #[.int .i64 (Lang.num s:Nat),.nilIface]) h:=by
 obtain ⟨h1,h2,h3⟩:=hd
 have hsz:=size_list (s:=s) rfl
 refine Ex.pureF ?_ (X74_ok ?_)
 ·refine .tuple fun v hv=>?_
  simp at hv
  rcases hv with rfl | rfl
  ·exact .int _ _
  ·exact .nilIface
 unfold X74
 obtain ⟨c,hc⟩:∃ c,s.data.toList[0]?=some c:=⟨_,List.getElem?_eq_getElem (by omega)⟩
 have hdig:=digit_range (h3 c (List.mem_of_getElem? hc))
 have e0:ixS (.string s) (.int .i64 0)=some (.int .u8 c.toNat):=ixS_at rfl hc
 have e1:(0:Int) < (s.size:Nat):=by omega
 have e2:((s.size:Nat):Int) < 19:=by omega
 have e3:((c.toNat:Int) == 45)=false:=by simp;omega
 have e4:((c.toNat:Int) == 43)=false:=by simp;omega
 simp (disch:=(first | exact dz | fail)) only [e0,e1,e2,e3,e4,SXB,SX,reduceIte,Int.reduceLT,Int.reduceLE,Int.reduceToNat,Int.reduceBEq,Int.reduceBNe,Nat.reduceAdd,Nat.reduceMul,Nat.reduceSub,Nat.reduceLeDiff]
 refine X74_8_ok ?_
 unfold X74_8
 simp (disch:=(first | exact dz | fail)) only [s2b,SXB,SX,reduceIte,Int.reduceLT,Int.reduceLE,Int.reduceToNat,Int.reduceBEq,Int.reduceBNe,Nat.reduceAdd,Nat.reduceMul,Nat.reduceSub,Nat.reduceLeDiff]
 have:=atoi_loop (h:=h.push (.cells (s.data.map fun b=>.int .u8 b.toNat) 5 (0,0)) (some 1)) (s:=s) (l:=s.data.toList) rfl h3 (by omega) (by omega) (k:=h.size) (get_push_eq rfl) (Q:=fun r h₁=>r=.ret (.tuple #[.int .i64 (Lang.num s:Nat),.nilIface])∧Kp h.size h h₁) ⟨rfl,(Kp.refl _ _).push _ _ (Nat.le_refl _)⟩ s.data.toList 0 rfl (by omega)
 rw [← hsz] at this
 exact this
theorem atoi_ok {h:AH} {s:ByteArray} (hd:isDigits s):Ex Tryz.prog 60 [.string s].toArray h (.tuple #[.int .i64 (Lang.num s:Nat),.nilIface]) h:=by
 refine X60_ok ?_
 unfold X60
 simp (disch:=(first | exact dz | fail)) only [SXB,SX,reduceIte,Int.reduceLT,Int.reduceLE,Int.reduceToNat,Int.reduceBEq,Int.reduceBNe,Nat.reduceAdd,Nat.reduceMul,Nat.reduceSub,Nat.reduceLeDiff]
 refine HC.exact (iatoi_ok hd) ?_
 simp (disch:=(first | exact dz | fail)) only [SXB,SX,reduceIte,Int.reduceLT,Int.reduceLE,Int.reduceToNat,Int.reduceBEq,Int.reduceBNe,Nat.reduceAdd,Nat.reduceMul,Nat.reduceSub,Nat.reduceLeDiff]
end Go.Proofs.YtibigfkeaemanaaGreatDoor.L
end
section
namespace Go.Proofs.YtibigfkeaemanaaGreatDoor.X
open Go.Ab
set_option maxRecDepth 100000
noncomputable def cod77:Code:=match Tryz.f77.body with | some c=>c | none=>.skip
theorem cod77_body:Tryz.f77.body=some cod77:=by kernel_rfl
noncomputable def D77r (t0:Value) (h:AH) (Q:AH→DM→Prop):Prop :=
 bq (ld1 h t0) fun t1 =>
 bq (nilV Tryz.prog t1) fun t2 =>
 bq (fa 4 1 t2) fun t3 =>
 bq (ld1 h t3) fun t4 =>
 bq (binV Tryz.prog .sub 3 (.tmp 4) (.const (Value.int .i64 1)) t4 (Value.int .i64 1) h) fun t5 =>
 bq (nilV Tryz.prog t1) fun t6 =>
 bq (fa 4 1 t6) fun t7 =>
 bq (stN 1 h t7 t5) fun h=>(fun _ h =>
 Q h .ret) undef h
theorem D77r_eq (t0:Value) (h:AH) (Q:AH→DM→Prop):D77r t0 h Q=wpMC Tryz.prog cod77 (argA [t0] Tryz.f77.ntmps) h .ret (endDM Q):=by kernel_rfl
theorem D77r_ok {t0:Value} {h:AH} {Q:AH→DM→Prop} (H:D77r t0 h Q):DC Tryz.prog 77 [t0] h .ret Q:=DC.of_text Tryz.func77 (by kernel_rfl) cod77_body (by kernel_rfl) (by kernel_rfl) ((D77r_eq t0 h Q).mp H)
noncomputable def D77p (t0:Value) (v:Value) (h:AH) (Q:AH→DM→Prop):Prop :=
 bq (ld1 h t0) fun t1 =>
 bq (nilV Tryz.prog t1) fun t2 =>
 bq (fa 4 1 t2) fun t3 =>
 bq (ld1 h t3) fun t4 =>
 bq (binV Tryz.prog .sub 3 (.tmp 4) (.const (Value.int .i64 1)) t4 (Value.int .i64 1) h) fun t5 =>
 bq (nilV Tryz.prog t1) fun t6 =>
 bq (fa 4 1 t6) fun t7 =>
 bq (stN 1 h t7 t5) fun h=>(fun _ h =>
 Q h (.pan v)) undef h
theorem D77p_eq (t0:Value) (v:Value) (h:AH) (Q:AH→DM→Prop):D77p t0 v h Q=wpMC Tryz.prog cod77 (argA [t0] Tryz.f77.ntmps) h (.pan v) (endDM Q):=by kernel_rfl
theorem D77p_ok {t0:Value} {v:Value} {h:AH} {Q:AH→DM→Prop} (H:D77p t0 v h Q):DC Tryz.prog 77 [t0] h (.pan v) Q:=DC.of_text Tryz.func77 (by kernel_rfl) cod77_body (by kernel_rfl) (by kernel_rfl) ((D77p_eq t0 v h Q).mp H)
noncomputable def cod16:Code:=match Tryz.f16.body with | some c=>c | none=>.skip
theorem cod16_body:Tryz.f16.body=some cod16:=by kernel_rfl
noncomputable def D16r (t0 t1:Value) (h:AH) (Q:AH→DM→Prop):Prop :=
 let t3:Value:=Value.nilIface
 let t2:Value:=t3
 let t4:Value:=t2
 bq (binV Tryz.prog .neq 20 (.tmp 4) (.const Value.nilIface) t4 Value.nilIface h) fun t5 =>
 condP (some t5)
 (let t6:Value:=t2
 bq (opTypeAssert Tryz.prog t6 25 false) fun t7 =>
 bq (stN 1 h t0 (Value.pointer none)) fun h=>(fun q2_2 h =>
 (True) ∧
 bq (stN 2 h t1 t7) fun h=>(fun q2_3 h =>
 (True) ∧
 Q h .ret) undef h) undef h)
 (Q h .ret)
theorem D16r_eq (t0 t1:Value) (h:AH) (Q:AH→DM→Prop):D16r t0 t1 h Q=wpMC Tryz.prog cod16 (argA [t0,t1] Tryz.f16.ntmps) h .ret (endDM Q):=by kernel_rfl
theorem D16r_ok {t0 t1:Value} {h:AH} {Q:AH→DM→Prop} (H:D16r t0 t1 h Q):DC Tryz.prog 16 [t0,t1] h .ret Q:=DC.of_text Tryz.func16 (by kernel_rfl) cod16_body (by kernel_rfl) (by kernel_rfl) ((D16r_eq t0 t1 h Q).mp H)
noncomputable def D16p (t0 t1:Value) (v:Value) (h:AH) (Q:AH→DM→Prop):Prop :=
 let t3:Value:=v
 let t2:Value:=t3
 let t4:Value:=t2
 bq (binV Tryz.prog .neq 20 (.tmp 4) (.const Value.nilIface) t4 Value.nilIface h) fun t5 =>
 condP (some t5)
 (let t6:Value:=t2
 bq (opTypeAssert Tryz.prog t6 25 false) fun t7 =>
 bq (stN 1 h t0 (Value.pointer none)) fun h=>(fun q2_2 h =>
 (True) ∧
 bq (stN 2 h t1 t7) fun h=>(fun q2_3 h =>
 (True) ∧
 Q h (.recd v)) undef h) undef h)
 (Q h (.recd v))
theorem D16p_eq (t0 t1:Value) (v:Value) (h:AH) (Q:AH→DM→Prop):D16p t0 t1 v h Q=wpMC Tryz.prog cod16 (argA [t0,t1] Tryz.f16.ntmps) h (.pan v) (endDM Q):=by kernel_rfl
theorem D16p_ok {t0 t1:Value} {v:Value} {h:AH} {Q:AH→DM→Prop} (H:D16p t0 t1 v h Q):DC Tryz.prog 16 [t0,t1] h (.pan v) Q:=DC.of_text Tryz.func16 (by kernel_rfl) cod16_body (by kernel_rfl) (by kernel_rfl) ((D16p_eq t0 t1 v h Q).mp H)
end Go.Proofs.YtibigfkeaemanaaGreatDoor.X
end
