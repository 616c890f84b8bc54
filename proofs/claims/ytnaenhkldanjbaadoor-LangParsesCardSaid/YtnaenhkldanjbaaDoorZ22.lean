import Derived.KernelRfl
import Derived.Lib.IndexMore
import Derived.Test.YtnaenhkldanjbaaDoorZ18
import Derived.Test.YtnaenhkldanjbaaDoorZ19
import Derived.Test.YtnaenhkldanjbaaDoorZ21
set_option linter.unusedVariables false
set_option linter.unusedSimpArgs false
section
namespace Go.Lang
def reservedB:ByteArray:=⟨#[32,109,97,112,32,99,111,109,98,105,110,101,32,114,101,100,117,99,101,32,112,97,114,116,32,101,109,105,116,32,108,101,116,32,105,102,32,101,108,115,101,32,101,97,99,104,32,105,110,32,98,121,32,102,111,114,32]⟩
def anyPre (sub:List UInt8):List UInt8→Bool
 | []=>sub.isEmpty
 | b::l=>sub.isPrefixOf (b::l) || anyPre sub l
theorem index_anyPre (sub:List UInt8):∀ s:List UInt8,decide (0 ≤ Lib.index s sub)=anyPre sub s:=by
 intro s
 induction s with
 | nil=>unfold Lib.index anyPre;cases sub <;> rfl
 | cons b l ih =>
  unfold Lib.index anyPre
  cases h:sub.isPrefixOf (b::l)
  ·rw [Bool.false_or,← ih,if_neg (by simp)]
   have:=Lib.index_ge l sub
   by_cases h1:Lib.index l sub = -1
   ·simp [h1]
   ·have h2:(Lib.index l sub == -1)=false:=by simpa using h1
    simp only [h2,Bool.false_eq_true,if_false]
    have:(0 ≤ Lib.index l sub + 1) ↔ (0 ≤ Lib.index l sub):=by omega
    simp [this]
  ·simp
def wordAt (x:List UInt8):List UInt8→List UInt8→Bool
 | w,[]=>false
 | w,b::l=>if b == 32 then w == x else wordAt x (w++[b]) l
theorem wordAt_pre (x:List UInt8) (hx:∀ c ∈ x,c ≠ 32):∀ (l w y:List UInt8),(∀ c ∈ w,c ≠ 32)→x=w++y→(y++[32]).isPrefixOf l=wordAt x w l:=by
 intro l
 induction l with
 | nil=>intro w y _ _;unfold wordAt;cases y <;> rfl
 | cons b l ih =>
  intro w y hw hy
  unfold wordAt
  by_cases hb:b=32
  ·subst hb
   simp only [beq_self_eq_true,if_true]
   cases y with
   | nil=>rw [hy];simp [List.isPrefixOf]
   | cons c y =>
    have hc:c ≠ 32:=hx c (by rw [hy];simp)
    have:w ≠ x:=fun e=>by rw [hy] at e;have:=congrArg List.length e;simp at this
    have h1:(w == x)=false:=by simpa using this
    rw [h1]
    have h2:(c == 32)=false:=by simpa using hc
    simp [List.isPrefixOf,h2]
  ·have hb':(b == 32)=false:=by simpa using hb
   simp only [hb',Bool.false_eq_true,if_false]
   cases y with
   | nil =>
    have h3:((32:UInt8) == b)=false:=by simpa using fun e=>hb e.symm
    have:∀ (l w:List UInt8),(∃ r,w=x++r∧r ≠ [])→wordAt x w l=false:=by
     intro l
     induction l with
     | nil=>intro w _;rfl
     | cons c l ih2 =>
      intro w ⟨r,hr,hne⟩
      unfold wordAt
      split
      ·have:w ≠ x:=fun e=>by rw [hr] at e;have:=congrArg List.length e;simp at this;exact hne this
       simpa using this
      ·exact ih2 _ ⟨r++[c],by rw [hr];simp,by simp⟩
    rw [this l (w++[b]) ⟨[b],by rw [hy];simp,by simp⟩]
    simp [List.isPrefixOf,h3]
   | cons c y =>
    by_cases hcb:c=b
    ·subst hcb
     rw [← ih (w++[c]) y (fun d hd=>by
      rcases List.mem_append.1 hd with h | h
      ·exact hw d h
      ·rw [List.mem_singleton.1 h];exact hb) (by rw [hy];simp)]
     simp [List.isPrefixOf]
    ·have h2:(c == b)=false:=by simpa using hcb
     have:∀ (l w:List UInt8),(∃ u v,w=u++v∧u.length ≤ x.length∧u ≠ x.take u.length)→wordAt x w l=false:=by
      intro l
      induction l with
      | nil=>intro w _;rfl
      | cons c l ih2 =>
       intro w ⟨u,v,hr,hle,hne⟩
       unfold wordAt
       split
       ·have:w ≠ x:=fun e=>hne (by rw [← e,hr];simp)
        simpa using this
       ·exact ih2 _ ⟨u,v++[c],by rw [hr];simp,hle,hne⟩
     rw [this l (w++[b]) ⟨w++[b],[],by simp,by rw [hy];simp,fun e=>by
      rw [hy] at e
      have e2:(w++[b]).length=w.length + 1:=by simp
      rw [e2,List.take_append,List.take_of_length_le (by omega)] at e
      simp at e
      exact hcb e.symm⟩]
     simp [List.isPrefixOf,h2]
def preB (x:List UInt8):List UInt8→Bool
 | []=>false
 | b::l=>(b == 32 && wordAt x [] l) || preB x l
theorem anyPre_preB (x:List UInt8) (hx:∀ c ∈ x,c ≠ 32):∀ s:List UInt8,anyPre (32::(x++[32])) s=preB x s:=by
 intro s
 induction s with
 | nil=>rfl
 | cons b l ih =>
  unfold anyPre preB
  rw [ih,← wordAt_pre x hx l [] x (by simp) rfl]
  by_cases hb:b=32
  ·subst hb;simp [List.isPrefixOf]
  ·have h1:(b == 32)=false:=by simpa using hb
   have h2:((32:UInt8) == b)=false:=by simpa using fun e=>hb e.symm
   simp [List.isPrefixOf,h1,h2]
theorem isName_blank {t:ByteArray} (h:isName t):∀ c ∈ t.data.toList,c ≠ 32:=fun c hc e=>by
 have:=h c hc
 subst e
 revert this
 decide
theorem reserved_word {t:ByteArray} (h:isName t):Lib.contains reservedB.data.toList (32::(t.data.toList++[32]))=isWord t:=by
 unfold Lib.contains
 rw [index_anyPre,anyPre_preB _ (isName_blank h)]
 unfold isWord eqT words
 simp only [List.any_cons,List.any_nil,ByteArray.toList_eq]
 generalize t.data.toList=x
 kernel_rfl
end Go.Lang
end
section
namespace Go.Ab
theorem RA.eq_of_plain {E:Ren} {args args':Array Value} {n:Nat} (ra:RA E args args') (ha:args.toList.all (plainN n)=true):args' = args:=by
 apply Array.ext ra.1.symm
 intro i h1 h2
 exact RV.eq_of_plain (List.all_eq_true.1 ha _ (Array.getElem_mem_toList _)) (ra.2 i _ _ (Array.getElem?_eq_getElem h2) (Array.getElem?_eq_getElem h1))
theorem Ex.of_calls {P:Program} {f:FuncId} {args:Array Value} {v:Value} {n:Nat} {h:AH} (ha:args.toList.all (plainN n)=true) (hv:plainN n v=true) (hc:∀ w,Calls P f args w fun e w'=>e=.returned v∧w' = w):Ex P f args h v h:=by
 intro E w args' r ra
 have:=ra.eq_of_plain ha
 subst this
 refine (hc w).mono ?_
 rintro e' w' ⟨rfl,rfl⟩
 exact ⟨E,.ret v,h,(RV.of_plain hv:RV E v v),r,.refl E w',rfl,rfl⟩
theorem Ex.of_calls1 {P:Program} {f:FuncId} {args:Array Value} {v:Value} {n:Nat} {h:AH} {g:Nat} {m:Int} {c:Array Value} {e:TypeId} {fz:Nat × Nat} {so:Option Nat} (hg:g < P.globals.size) (h1:h.get g=some (.cells c e fz,so)) (h2:c[0]?=some (.int .i64 m))
  (ha:args.toList.all (plainN n)=true) (hv:plainN n v=true) (hc:∀ w,w.cell? ⟨g,0,none⟩=some (.int .i64 m)→Calls P f args w fun e w'=>e=.returned v∧w' = w):Ex P f args h v h:=by
 intro E w args' r ra
 have:=ra.eq_of_plain ha
 subst this
 obtain ⟨c',fz',g1,g2,g3,_⟩:=r.cells h1 (r.glob g hg)
 have hlt:0 < c.size:=(Array.getElem?_eq_some_iff.1 h2).1
 have h5:=g3 0 _ _ h2 (Array.getElem?_eq_getElem (by omega))
 have h6:w.cell? ⟨g,0,none⟩=some (.int .i64 m):=by
  have h7:c'[0]?=some (Value.int .i64 m):=by
   rw [Array.getElem?_eq_getElem (by omega)]
   generalize hz:c'[0]=z at h5
   cases h5
   rfl
  simp [World.cell?,g1,h7]
 refine (hc w h6).mono ?_
 rintro e' w' ⟨rfl,rfl⟩
 exact ⟨E,.ret v,h,(RV.of_plain hv:RV E v v),r,.refl E w',rfl,rfl⟩
end Go.Ab
end
section
namespace Go.Proofs.YtnaenhkldanjbaaDoor.L
open Go.Ab Go.Lang Go.Proofs.YtnaenhkldanjbaaDoor.X
set_option maxRecDepth 100000
variable {ow:Bool}
def sigCells:List Value:=sigs.flatMap fun s=>[.string s.name,.string s.args,.string s.ans]
structure Glob (h:AH):Prop where
 max:∃ (m:Int) (e:TypeId) (fz:Nat × Nat) (s:Option Nat),h.get 0=some (.cells #[.int .i64 m] e fz,s)
 sig:∃ (e:TypeId) (fz:Nat × Nat) (s:Option Nat),h.get 1=some (.cells sigCells.toArray e fz,s)
 size:2 ≤ h.size
theorem Glob.mono {lo:Nat} {h h':AH} (G:Glob h) (K:Kp lo h h') (hl:2 ≤ lo):Glob h':=by
 obtain ⟨⟨m,e,fz,s,h1⟩,⟨e2,fz2,s2,h2⟩,h3⟩:=G
 exact ⟨⟨m,e,fz,s,(K.get _ (by omega)).trans h1⟩,⟨e2,fz2,s2,(K.get _ (by omega)).trans h2⟩,Nat.le_trans h3 K.size⟩
theorem contains_ok {h:AH} (G:Glob h) (s sub:ByteArray) (hs:s.size < 4294967281):Ex Tryd.prog 51 [.string s,.string sub].toArray h (.bool (Lib.contains s.data.toList sub.data.toList)) h:=by
 obtain ⟨m,e,fz,so,h1⟩:=G.max
 exact Ex.of_calls1 (n:=12) (g:=0) (of_decide_eq_true (by kernel_rfl)) h1 rfl rfl rfl fun w hm=>Tryd.strings_Contains s sub m w hs hm
theorem Glob.adv {kp:Nat} {h h':AH} (G:Glob h) (a:Adv kp h h') (hk:2 ≤ kp):Glob h':=by
 obtain ⟨⟨m,e,fz,s,h1⟩,⟨e2,fz2,s2,h2⟩,h3⟩:=G
 exact ⟨⟨m,e,fz,s,(a.get _ (by omega) (by omega)).trans h1⟩,⟨e2,fz2,s2,(a.get _ (by omega) (by omega)).trans h2⟩,Nat.le_trans h3 a.size⟩
theorem Glob.kp {h h':AH} (G:Glob h) (K:Kp h.size h h'):Glob h':=G.mono K G.size
theorem Adv.of_kp {kp:Nat} {h h':AH} (K:Kp h.size h h'):Adv kp h h':=⟨K.size,fun k h1 _=>K.get k h1⟩
theorem cat_32 (x:ByteArray):((⟨#[32]⟩++x++⟨#[32]⟩:ByteArray)).data.toList=32::(x.data.toList++[32]):=by simp
theorem size_32 (x:ByteArray):(⟨#[32]⟩++x:ByteArray).size=1 + x.size:=by rw [ByteArray.size_append];rfl
theorem fresh_ok {h:AH} {kp:Nat} {e t:Tok} {r:List Tok} {bv:Value} {vs:List Var} {b l c:Nat} {Q:RQ} (S:PSg ow h kp e (t::r) bv vs b l c) (hk:2 ≤ kp) (G:Glob h) (hn:t.cls=1→isName t.text∧t.text.size ≤ 4096)
  (hok:∀ h',Lang.fresh (t::r)=.ok (t,r)→PSg ow h' kp e r bv vs b l c→Adv kp h h'→Q (.ret (encT t)) h') (herr:∀ f h',Lang.fresh (t::r)=.error f→PanS h' kp→Adv kp h h'→Q (.pan (faultV f)) h') :
  HC Tryd.prog 46 [.pointer (some ⟨kp,0,none⟩)].toArray h Q:=by
 refine X46_ok ?_
 unfold X46
 have hlt:=S.lt
 simp (disch:=(first | exact dz | fail)) only [SXB,SX,reduceIte,Int.reduceLT,Int.reduceLE,Int.reduceToNat,Int.reduceBEq,Int.reduceBNe,Nat.reduceAdd,Nat.reduceMul,Nat.reduceSub,Nat.reduceLeDiff]
 refine HC.exact (peek_ok (S.same (by (repeat (first | exact Kp.refl _ _ | assumption | refine Kp.push ?_ _ _ (by first | omega | (simp only [sz_push,sz_put];omega)) | refine Kp.put ?_ _ _ (by first | omega | (simp only [sz_push,sz_put];omega))))))) ?_
 simp (disch:=(first | exact dz | fail)) only [encT,SXB,SX,reduceIte,Int.reduceLT,Int.reduceLE,Int.reduceToNat,Int.reduceBEq,Int.reduceBNe,Nat.reduceAdd,Nat.reduceMul,Nat.reduceSub,Nat.reduceLeDiff]
 have fin:∀ h',Lang.fresh (t::r)=.ok (t,r)→Kp h.size h h'→(∃ x y z,h'.get h.size=some (.cells #[x,y,z] 52 (0,0),none))→h.size < h'.size→K46_4 (.pointer (some ⟨kp,0,none⟩)) (.pointer (some ⟨h.size,0,none⟩)) h' Q:=by
  intro h' hf K ⟨x,y,z,hg⟩ hlt'
  refine X46_4_ok ?_
  unfold X46_4
  simp (disch:=(first | exact dz | fail)) only [SXB,SX,reduceIte,Int.reduceLT,Int.reduceLE,Int.reduceToNat,Int.reduceBEq,Int.reduceBNe,Nat.reduceAdd,Nat.reduceMul,Nat.reduceSub,Nat.reduceLeDiff]
  refine take_ok (S.same K) fun h2 S2 a2=>?_
  have hg2:h2.get h.size=some (.cells #[x,y,z] 52 (0,0),none):=(a2.get _ hlt' (by omega)).trans hg
  have A2:=(Adv.of_kp (kp:=kp) K).trans a2
  simp (disch:=(first | exact dz | fail)) only [hg2,encT,SXB,SX,reduceIte,Int.reduceLT,Int.reduceLE,Int.reduceToNat,Int.reduceBEq,Int.reduceBNe,Nat.reduceAdd,Nat.reduceMul,Nat.reduceSub,Nat.reduceLeDiff]
  refine hok _ hf (S.adv ?_ ?_) ?_
  ·(repeat (first | exact Adv.refl _ _ | assumption | refine Adv.push ?_ _ _ | refine Adv.put ?_ _ _ (by first | exact .inl rfl | (right;first | omega | (simp only [sz_push,sz_put];omega)))))
  ·rw [get_put_ne (by omega)];exact S2.row
  ·(repeat (first | exact Adv.refl _ _ | assumption | refine Adv.push ?_ _ _ | refine Adv.put ?_ _ _ (by first | exact .inl rfl | (right;first | omega | (simp only [sz_push,sz_put];omega)))))
 by_cases hc:t.cls=1
 ·obtain ⟨hnm,hsz⟩:=hn hc
  have e1:((t.cls:Int) != 1)=false:=by simp [hc]
  have s1:=size_32 t.text
  have s2:(ByteArray.mk #[32]).size=1:=rfl
  simp (disch:=(first | exact dz | fail)) only [e1,SXB,SX,reduceIte,Int.reduceLT,Int.reduceLE,Int.reduceToNat,Int.reduceBEq,Int.reduceBNe,Nat.reduceAdd,Nat.reduceMul,Nat.reduceSub,Nat.reduceLeDiff]
  refine HC.exact (contains_ok (G.kp (by (repeat (first | exact Kp.refl _ _ | assumption | refine Kp.push ?_ _ _ (by first | omega | (simp only [sz_push,sz_put];omega)) | refine Kp.put ?_ _ _ (by first | omega | (simp only [sz_push,sz_put];omega)))))) _ _ (of_decide_eq_true (by kernel_rfl))) ?_
  rw [cat_32,show ((⟨#[32,109,97,112,32,99,111,109,98,105,110,101,32,114,101,100,117,99,101,32,112,97,114,116,32,101,109,105,116,32,108,101,116,32,105,102,32,101,108,115,101,32,101,97,99,104,32,105,110,32,98,121,32,102,111,114,32]⟩:ByteArray))=reservedB from rfl,reserved_word hnm]
  have hf0:Lang.fresh (t::r)=if isWord t.text then .error (161,t.at_) else .ok (t,r):=by simp [Lang.fresh,hc]
  cases hw:isWord t.text with
  | true =>
   rw [hw] at hf0
   simp (disch:=(first | exact dz | fail)) only [SXB,SX,reduceIte,Int.reduceLT,Int.reduceLE,Int.reduceToNat,Int.reduceBEq,Int.reduceBNe,Nat.reduceAdd,Nat.reduceMul,Nat.reduceSub,Nat.reduceLeDiff]
   refine fail_ok (k:=161) ?_
   simp (disch:=(first | exact dz | fail)) only [SXB,SX,reduceIte,Int.reduceLT,Int.reduceLE,Int.reduceToNat,Int.reduceBEq,Int.reduceBNe,Nat.reduceAdd,Nat.reduceMul,Nat.reduceSub,Nat.reduceLeDiff]
   exact herr _ _ hf0 ((S.same (by (repeat (first | exact Kp.refl _ _ | assumption | refine Kp.push ?_ _ _ (by first | omega | (simp only [sz_push,sz_put];omega)) | refine Kp.put ?_ _ _ (by first | omega | (simp only [sz_push,sz_put];omega)))))).pan) (.of_kp (by (repeat (first | exact Kp.refl _ _ | assumption | refine Kp.push ?_ _ _ (by first | omega | (simp only [sz_push,sz_put];omega)) | refine Kp.put ?_ _ _ (by first | omega | (simp only [sz_push,sz_put];omega))))))
  | false =>
   rw [hw] at hf0
   simp (disch:=(first | exact dz | fail)) only [SXB,SX,reduceIte,Int.reduceLT,Int.reduceLE,Int.reduceToNat,Int.reduceBEq,Int.reduceBNe,Nat.reduceAdd,Nat.reduceMul,Nat.reduceSub,Nat.reduceLeDiff]
   refine fin _ hf0 (by (repeat (first | exact Kp.refl _ _ | assumption | refine Kp.push ?_ _ _ (by first | omega | (simp only [sz_push,sz_put];omega)) | refine Kp.put ?_ _ _ (by first | omega | (simp only [sz_push,sz_put];omega))))) ⟨.int .i64 0,.int .i64 0,.string ⟨#[]⟩,?_⟩ ?_
   ·simp (disch:=(first | exact dz | fail)) only [SXB,SX,reduceIte,Int.reduceLT,Int.reduceLE,Int.reduceToNat,Int.reduceBEq,Int.reduceBNe,Nat.reduceAdd,Nat.reduceMul,Nat.reduceSub,Nat.reduceLeDiff]
   ·simp (disch:=(first | exact dz | fail)) only [SXB,SX,reduceIte,Int.reduceLT,Int.reduceLE,Int.reduceToNat,Int.reduceBEq,Int.reduceBNe,Nat.reduceAdd,Nat.reduceMul,Nat.reduceSub,Nat.reduceLeDiff]
    omega
 ·have e1:((t.cls:Int) != 1)=true:=by simp;omega
  have hf0:Lang.fresh (t::r)=.error (161,t.at_):=by simp [Lang.fresh,hc]
  simp (disch:=(first | exact dz | fail)) only [e1,SXB,SX,reduceIte,Int.reduceLT,Int.reduceLE,Int.reduceToNat,Int.reduceBEq,Int.reduceBNe,Nat.reduceAdd,Nat.reduceMul,Nat.reduceSub,Nat.reduceLeDiff]
  refine fail_ok (k:=161) ?_
  simp (disch:=(first | exact dz | fail)) only [SXB,SX,reduceIte,Int.reduceLT,Int.reduceLE,Int.reduceToNat,Int.reduceBEq,Int.reduceBNe,Nat.reduceAdd,Nat.reduceMul,Nat.reduceSub,Nat.reduceLeDiff]
  exact herr _ _ hf0 ((S.same (by (repeat (first | exact Kp.refl _ _ | assumption | refine Kp.push ?_ _ _ (by first | omega | (simp only [sz_push,sz_put];omega)) | refine Kp.put ?_ _ _ (by first | omega | (simp only [sz_push,sz_put];omega)))))).pan) (.of_kp (by (repeat (first | exact Kp.refl _ _ | assumption | refine Kp.push ?_ _ _ (by first | omega | (simp only [sz_push,sz_put];omega)) | refine Kp.put ?_ _ _ (by first | omega | (simp only [sz_push,sz_put];omega))))))
def kres (o:Option Nat):Value:=.tuple #[.int .u8 (o.getD 0:Nat),.bool o.isSome]
theorem below_kres (n:Nat) (o:Option Nat):Below n (kres o):=.tuple fun v hv=>by
 simp at hv
 rcases hv with rfl | rfl
 ·exact .int _ _
 ·exact .bool _
theorem encV_cells (v:Var):(encV v).cells = #[.string v.1,.int .u8 v.2]:=rfl
theorem kindOf_cons (v:Var) (vs:List Var) (x:ByteArray):Lang.kindOf (v::vs) x=if eqT v.1 x then some v.2 else Lang.kindOf vs x:=by
 unfold Lang.kindOf
 rw [List.find?_cons]
 cases eqT v.1 x <;> rfl
theorem kindOf_loop {h:AH} {bv:Value} {vs:List Var} {x:ByteArray} {Q:RQ} (R:Rd h 2 bv (vs.map encV)) (hl:vs.length ≤ 1048576):∀ (r:List Var) (i:Nat) (h':AH),vs.drop i=r→i ≤ vs.length→Kp h.size h h' →
  (∀ h'',Kp h.size h h''→Q (.ret (kres (Lang.kindOf r x))) h'')→H48_2 (.string x) bv (.int .i64 vs.length) (.int .i64 i) h' Q:=by
 intro r
 induction r with
 | nil =>
  intro i h' hd hi K hq
  have:=drop_nil hd
  refine X48_2_ok ?_
  unfold X48_2
  have e:¬ ((i:Int) < vs.length):=by omega
  simp (disch:=(first | exact dz | fail)) only [e,SXB,SX,reduceIte,Int.reduceLT,Int.reduceLE,Int.reduceToNat,Int.reduceBEq,Int.reduceBNe,Nat.reduceAdd,Nat.reduceMul,Nat.reduceSub,Nat.reduceLeDiff]
  exact hq _ K
 | cons v r ih =>
  intro i h' hd hi K hq
  obtain ⟨h1,h2,h3⟩:=drop_cons hd
  have hks:=K.size
  refine X48_2_ok ?_
  unfold X48_2
  have e:(i:Int) < vs.length:=by omega
  obtain ⟨p,q1,q2,q3⟩:=(R.mono K).el i (encV v) (by simp [h1])
  have q4:=q2.ldN (n:=2) rfl
  simp (disch:=(first | exact dz | fail)) only [e,q1,q4,encV_cells,SXB,SX,reduceIte,Int.reduceLT,Int.reduceLE,Int.reduceToNat,Int.reduceBEq,Int.reduceBNe,Nat.reduceAdd,Nat.reduceMul,Nat.reduceSub,Nat.reduceLeDiff]
  rw [kindOf_cons] at hq
  unfold eqT at hq
  cases he:v.1.toList == x.toList with
  | true =>
   rw [he] at hq
   simp (disch:=(first | exact dz | fail)) only [SXB,SX,reduceIte,Int.reduceLT,Int.reduceLE,Int.reduceToNat,Int.reduceBEq,Int.reduceBNe,Nat.reduceAdd,Nat.reduceMul,Nat.reduceSub,Nat.reduceLeDiff]
   refine hq _ ?_
   (repeat (first | exact Kp.refl _ _ | assumption | refine Kp.push ?_ _ _ (by first | omega | (simp only [sz_push,sz_put];omega)) | refine Kp.put ?_ _ _ (by first | omega | (simp only [sz_push,sz_put];omega))))
  | false =>
   rw [he] at hq
   simp (disch:=(first | exact dz | fail)) only [SXB,SX,reduceIte,Int.reduceLT,Int.reduceLE,Int.reduceToNat,Int.reduceBEq,Int.reduceBNe,Nat.reduceAdd,Nat.reduceMul,Nat.reduceSub,Nat.reduceLeDiff]
   refine ih (i + 1) _ h2 (by omega) ?_ hq
   (repeat (first | exact Kp.refl _ _ | assumption | refine Kp.push ?_ _ _ (by first | omega | (simp only [sz_push,sz_put];omega)) | refine Kp.put ?_ _ _ (by first | omega | (simp only [sz_push,sz_put];omega))))
theorem kindOf_ok {h:AH} {kp:Nat} {e:Tok} {ts:List Tok} {bv:Value} {vs:List Var} {b l c:Nat} (S:PSg ow h kp e ts bv vs b l c) (hl:vs.length ≤ 1048576) (x:ByteArray) :
  Ex Tryd.prog 48 [.pointer (some ⟨kp,0,none⟩),.string x].toArray h (kres (Lang.kindOf vs x)) h:=by
 refine Ex.pureF (below_kres _ _) (X48_ok ?_)
 unfold X48
 have hr:=S.row
 unfold prow at hr
 have R:=S.own.rd (encVs_size vs) S.ltb
 have e1:=S.own.len
 rw [List.length_map] at e1
 simp (disch:=(first | exact dz | fail)) only [hr,e1,SXB,SX,reduceIte,Int.reduceLT,Int.reduceLE,Int.reduceToNat,Int.reduceBEq,Int.reduceBNe,Nat.reduceAdd,Nat.reduceMul,Nat.reduceSub,Nat.reduceLeDiff]
 exact kindOf_loop R hl vs 0 h rfl (by omega) (.refl _ _) fun h'' K=>⟨rfl,K⟩
theorem unbound_ok {h:AH} {kp:Nat} {e t:Tok} {r:List Tok} {bv:Value} {vs:List Var} {b l c:Nat} {Q:RQ} (S:PSg ow h kp e (t::r) bv vs b l c) (hk:2 ≤ kp) (G:Glob h) (hn:t.cls=1→isName t.text∧t.text.size ≤ 4096) (hl:vs.length ≤ 1048576)
  (hok:∀ h',Lang.unboundF vs (t::r)=.ok (t.text,r)→PSg ow h' kp e r bv vs b l c→Adv kp h h'→Q (.ret (.string t.text)) h') (herr:∀ f h',Lang.unboundF vs (t::r)=.error f→PanS h' kp→Adv kp h h'→Q (.pan (faultV f)) h') :
  HC Tryd.prog 44 [.pointer (some ⟨kp,0,none⟩)].toArray h Q:=by
 refine X44_ok ?_
 unfold X44
 simp (disch:=(first | exact dz | fail)) only [SXB,SX,reduceIte,Int.reduceLT,Int.reduceLE,Int.reduceToNat,Int.reduceBEq,Int.reduceBNe,Nat.reduceAdd,Nat.reduceMul,Nat.reduceSub,Nat.reduceLeDiff]
 refine fresh_ok S hk G hn (fun h' hf S' a=>?_) (fun f h' hf p a=>?_)
 ·have hu:Lang.unboundF vs (t::r)=if (Lang.kindOf vs t.text).isSome then .error (162,t.at_) else .ok (t.text,r):=by unfold Lang.unboundF;rw [hf]
  simp (disch:=(first | exact dz | fail)) only [encT,SXB,SX,reduceIte,Int.reduceLT,Int.reduceLE,Int.reduceToNat,Int.reduceBEq,Int.reduceBNe,Nat.reduceAdd,Nat.reduceMul,Nat.reduceSub,Nat.reduceLeDiff]
  refine HC.exact (kindOf_ok (S'.same (by (repeat (first | exact Kp.refl _ _ | assumption | refine Kp.push ?_ _ _ (by first | omega | (simp only [sz_push,sz_put];omega)) | refine Kp.put ?_ _ _ (by first | omega | (simp only [sz_push,sz_put];omega)))))) hl t.text) ?_
  have hlt:=S'.lt
  have hsz:=a.size
  simp (disch:=(first | exact dz | fail)) only [kres,SXB,SX,reduceIte,Int.reduceLT,Int.reduceLE,Int.reduceToNat,Int.reduceBEq,Int.reduceBNe,Nat.reduceAdd,Nat.reduceMul,Nat.reduceSub,Nat.reduceLeDiff]
  cases hv:Lang.kindOf vs t.text with
  | some k =>
   rw [hv] at hu
   simp (disch:=(first | exact dz | fail)) only [Option.isSome_some,SXB,SX,reduceIte,Int.reduceLT,Int.reduceLE,Int.reduceToNat,Int.reduceBEq,Int.reduceBNe,Nat.reduceAdd,Nat.reduceMul,Nat.reduceSub,Nat.reduceLeDiff]
   refine fail_ok (k:=162) ?_
   simp (disch:=(first | exact dz | fail)) only [SXB,SX,reduceIte,Int.reduceLT,Int.reduceLE,Int.reduceToNat,Int.reduceBEq,Int.reduceBNe,Nat.reduceAdd,Nat.reduceMul,Nat.reduceSub,Nat.reduceLeDiff]
   refine herr _ _ hu ((S'.same (by (repeat (first | exact Kp.refl _ _ | assumption | refine Kp.push ?_ _ _ (by first | omega | (simp only [sz_push,sz_put];omega)) | refine Kp.put ?_ _ _ (by first | omega | (simp only [sz_push,sz_put];omega)))))).pan) ?_
   (repeat (first | exact Adv.refl _ _ | assumption | refine Adv.push ?_ _ _ | refine Adv.put ?_ _ _ (by first | exact .inl rfl | (right;first | omega | (simp only [sz_push,sz_put];omega)))))
  | none =>
   rw [hv] at hu
   simp (disch:=(first | exact dz | fail)) only [Option.isSome_none,SXB,SX,reduceIte,Int.reduceLT,Int.reduceLE,Int.reduceToNat,Int.reduceBEq,Int.reduceBNe,Nat.reduceAdd,Nat.reduceMul,Nat.reduceSub,Nat.reduceLeDiff]
   refine X44_5_ok ?_
   unfold X44_5
   simp (disch:=(first | exact dz | fail)) only [SXB,SX,reduceIte,Int.reduceLT,Int.reduceLE,Int.reduceToNat,Int.reduceBEq,Int.reduceBNe,Nat.reduceAdd,Nat.reduceMul,Nat.reduceSub,Nat.reduceLeDiff]
   refine hok _ hu (S'.same (by (repeat (first | exact Kp.refl _ _ | assumption | refine Kp.push ?_ _ _ (by first | omega | (simp only [sz_push,sz_put];omega)) | refine Kp.put ?_ _ _ (by first | omega | (simp only [sz_push,sz_put];omega)))))) ?_
   (repeat (first | exact Adv.refl _ _ | assumption | refine Adv.push ?_ _ _ | refine Adv.put ?_ _ _ (by first | exact .inl rfl | (right;first | omega | (simp only [sz_push,sz_put];omega)))))
 ·have hu:Lang.unboundF vs (t::r)=.error f:=by unfold Lang.unboundF;rw [hf]
  simp (disch:=(first | exact dz | fail)) only [SXB,SX,reduceIte,Int.reduceLT,Int.reduceLE,Int.reduceToNat,Int.reduceBEq,Int.reduceBNe,Nat.reduceAdd,Nat.reduceMul,Nat.reduceSub,Nat.reduceLeDiff]
  exact herr _ _ hu p a
def sigV (s:Sig):Value:=.agg #[.string s.name,.string s.args,.string s.ans]
end Go.Proofs.YtnaenhkldanjbaaDoor.L
end
