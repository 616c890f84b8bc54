import Derived.KernelRfl
import Derived.Lib.IndexMore
import Derived.Test.YtibigfkeaemanaaGreatDoorProg
import Derived.Test.YtibigfkeaemanaaGreatDoorZ14
import Derived.Test.YtibigfkeaemanaaGreatDoorZ17
import Derived.Test.YtibigfkeaemanaaGreatDoorZ18
import Derived.Test.YtibigfkeaemanaaGreatDoorZ19
import Derived.Test.YtibigfkeaemanaaGreatDoorZ21
import Derived.Test.YtibigfkeaemanaaGreatDoorZ23
set_option linter.unusedVariables false
set_option linter.unusedSimpArgs false
section
namespace Go.Proofs.YtibigfkeaemanaaGreatDoor.L
open Go.Ab Go.Lang Go.Proofs.YtibigfkeaemanaaGreatDoor.X
set_option maxRecDepth 100000
variable {ow:Bool}
def prow (tv bv:Value) (b l c:Nat):Option (Obj × Option Nat):=some (.cells #[tv,bv,.int .i64 b,.int .i64 l,.int .i64 c] 58 (0,0),none)
def tokV (e:Tok) (ts:List Tok):Value:=VSl ((ts++[e]).map encT)
inductive Lit (e z:Nat) (h:AH):Value→List Value→Prop
 | mk {k:Nat} {c:Array Value} {l:List Value} (hg:h.get k=some (.cells c e (0,0),none)) (hc:c=(flatC l).toArray):Lit e z h (.slice (some ⟨k,0,none⟩) l.length l.length) l
def Bnd (ow:Bool) (e z:Nat) (h:AH) (v:Value) (l:List Value):Prop:=match ow with
 | true=>Ab.Own e z h v l
 | false=>Lit e z h v l
theorem Bnd.mono {e z:Nat} {h h':AH} {s:Value} {l:List Value} (o:Bnd ow e z h s l) (hg:∀ k,blkOf s=some k→h'.get k=h.get k):Bnd ow e z h' s l:=by
 cases ow with
 | true=>exact Ab.Own.mono o hg
 | false =>
  obtain ⟨h1,hc⟩:=(o:Lit e z h s l)
  exact Lit.mk ((hg _ rfl).trans h1) hc
theorem Bnd.len {e z:Nat} {h:AH} {s:Value} {l:List Value} (o:Bnd ow e z h s l):lenL s=some (.int .i64 l.length):=by
 cases ow with
 | true=>exact Ab.Own.len o
 | false =>
  obtain ⟨h1,hc⟩:=(o:Lit e z h s l)
  rfl
theorem Bnd.rd {e:Nat} {h:AH} {z:Nat} {v:Value} {l:List Value} (o:Bnd ow e z h v l) (hz:∀ v ∈ l,v.cells.size=z) (hb:∀ k,blkOf v=some k→k < h.size):Rd h z v l:=by
 cases ow with
 | true=>exact Ab.Own.rd o hz hb
 | false =>
  refine ⟨o.len,fun i x hx=>?_⟩
  have hxz:=hz x (List.mem_of_getElem? hx)
  have hi:=(List.getElem?_eq_some_iff.1 hx).1
  obtain ⟨hg,hc⟩:=(o:Lit e z h v l)
  rename_i k c
  have hsz:c.size=l.length * z:=by rw [hc];simp [flatC_length hz]
  have hle:i * z + z ≤ l.length * z:=by rw [← Nat.succ_mul];exact Nat.mul_le_mul_right _ (by omega)
  refine ⟨.pointer (some ⟨k,i * z,none⟩),?_,?_,hxz⟩
  ·rw [ia_sl,if_pos ⟨by omega,by omega⟩]
   simp
  ·have e:x.cells=c.extract (i * z) (i * z + z):=by
    apply Array.ext
    ·simp;omega
    ·intro j h1 h2
     rw [Array.getElem_extract]
     have:=flatC_at hz j (i:=i) (x:=x) hx (by omega)
     apply Option.some.inj
     rw [← Array.getElem?_eq_getElem,← this,← Array.getElem?_eq_getElem,hc]
     simp
   rw [e]
   exact .ptr (hb _ rfl) hg (by omega)
structure PSg (ow:Bool) (h:AH) (kp:Nat) (e:Tok) (ts:List Tok) (bv:Value) (vs:List Var) (b l c:Nat):Prop where
 row:h.get kp=prow (tokV e ts) bv b l c
 own:Bnd ow 86 2 h bv (vs.map encV)
 ne:blkOf bv ≠ some kp
 lt:kp < h.size
 ltb:∀ k,blkOf bv=some k→k < h.size
abbrev PS:=PSg true
structure Adv (kp:Nat) (h h':AH):Prop where
 size:h.size ≤ h'.size
 get:∀ k,k < h.size→k ≠ kp→h'.get k=h.get k
structure AdvB (kp:Nat) (bv:Value) (h h':AH):Prop where
 size:h.size ≤ h'.size
 get:∀ k,k < h.size→k ≠ kp→blkOf bv ≠ some k→h'.get k=h.get k
theorem Adv.refl (kp:Nat) (h:AH):Adv kp h h:=⟨Nat.le_refl _,fun _ _ _=>rfl⟩
theorem Adv.trans {kp:Nat} {a b c:AH} (x:Adv kp a b) (y:Adv kp b c):Adv kp a c:=⟨Nat.le_trans x.size y.size,fun k h1 h2=>(y.get k (Nat.lt_of_lt_of_le h1 x.size) h2).trans (x.get k h1 h2)⟩
theorem Adv.push {kp:Nat} {h h':AH} (x:Adv kp h h') (o:Obj) (s:Option Nat):Adv kp h (h'.push o s):=x.trans ⟨by simp,fun k hk _=>get_push_ne (by omega)⟩
theorem Adv.put {kp:Nat} {h h':AH} (x:Adv kp h h') (j:Nat) (v:Option (Obj × Option Nat)) (hj:j=kp ∨ h.size ≤ j):Adv kp h (h'.put j v):=⟨by simpa using x.size,fun k hk hn=>by rw [get_put_ne (by rcases hj with rfl | hj <;> omega)];exact x.get k hk hn⟩
theorem Adv.b {kp:Nat} {bv:Value} {h h':AH} (x:Adv kp h h'):AdvB kp bv h h':=⟨x.size,fun k h1 h2 _=>x.get k h1 h2⟩
theorem AdvB.refl (kp:Nat) (bv:Value) (h:AH):AdvB kp bv h h:=⟨Nat.le_refl _,fun _ _ _ _=>rfl⟩
theorem AdvB.trans {kp:Nat} {bv bw:Value} {a b c:AH} (x:AdvB kp bv a b) (y:AdvB kp bw b c) (hb:∀ k,blkOf bw=some k→blkOf bv=some k ∨ a.size ≤ k):AdvB kp bv a c:=by
 refine ⟨Nat.le_trans x.size y.size,fun k h1 h2 h3=>?_⟩
 rw [y.get k (Nat.lt_of_lt_of_le h1 x.size) h2 fun e=>?_,x.get k h1 h2 h3]
 rcases hb k e with h | h
 ·exact h3 h
 ·omega
theorem PSg.adv {h h':AH} {kp:Nat} {e:Tok} {ts ts':List Tok} {bv:Value} {vs:List Var} {b l c b' l' c':Nat} (S:PSg ow h kp e ts bv vs b l c) (a:Adv kp h h') (hr:h'.get kp=prow (tokV e ts') bv b' l' c'):PSg ow h' kp e ts' bv vs b' l' c' :=
 ⟨hr,S.own.mono fun k hk=>a.get k (S.ltb k hk) (fun e=>S.ne (by rw [hk,e])),S.ne,Nat.lt_of_lt_of_le S.lt a.size,fun k hk=>Nat.lt_of_lt_of_le (S.ltb k hk) a.size⟩
theorem PSg.same {h h':AH} {kp:Nat} {e:Tok} {ts:List Tok} {bv:Value} {vs:List Var} {b l c:Nat} (S:PSg ow h kp e ts bv vs b l c) (K:Kp h.size h h'):PSg ow h' kp e ts bv vs b l c :=
 S.adv ⟨K.size,fun k h1 _=>K.get k h1⟩ ((K.get kp S.lt).trans S.row)
theorem PSg.push {h:AH} {kp:Nat} {e:Tok} {ts:List Tok} {bv:Value} {vs:List Var} {b l c:Nat} (S:PSg ow h kp e ts bv vs b l c) (o:Obj) (s:Option Nat):PSg ow (h.push o s) kp e ts bv vs b l c:=S.same ((Kp.refl _ _).push o s (Nat.le_refl _))
def PanS (h:AH) (kp:Nat):Prop:=∃ a b c d n,h.get kp=some (.cells #[a,b,c,d,.int .i64 n] 58 (0,0),none)
theorem PSg.pan {h:AH} {kp:Nat} {e:Tok} {ts:List Tok} {bv:Value} {vs:List Var} {b l c:Nat} (S:PSg ow h kp e ts bv vs b l c):PanS h kp:=⟨_,_,_,_,_,S.row⟩
def faultV (f:Nat × Nat):Value:=.iface 25 (.agg #[.int .i64 f.1,.int .i64 f.2])
theorem tl_vs {h:AH} {a:Value} {l:List Value} (ha:a.cells.size=3):sliceV Tryz.prog h 49 (VSl (a::l)) (some (.int .i64 1)) none=some (VSl l):=by
 have hu:(Tryz.prog).underlying 49=some (.slice 55):=by kernel_rfl
 have hi:∃ d,(Tryz.prog).info? 55=some d∧d.size=3:=⟨_,rfl,by kernel_rfl⟩
 obtain ⟨d,hd,hds⟩:=hi
 show opSlice Tryz.prog h 49 (VSl (a::l)) (some (.int .i64 1)) none=_
 unfold opSlice
 rw [hu]
 have hb:bounds? (a::l).toArray.size (a::l).toArray.size (some (.int .i64 1)) none=some (1,l.length + 1):=by
  unfold bounds? bound?
  have e1:(0:Int) ≤ 1∧(1:Int) ≤ ((a::l).toArray.size:Nat):=by simp;omega
  simp only [e1,if_true]
  simp
 simp only [VSl,hd,hb]
 have e1:((a::l).toArray[0]?).all (fun x=>decide (x.cells.size=d.size))=true:=by simp [ha,hds]
 rw [if_pos e1]
 simp [VSl]
theorem encT_cells (t:Tok):(encT t).cells = #[.int .i64 t.cls,.int .i64 t.at_,.string t.text]:=rfl
theorem below_T (n:Nat) (t:Tok):Below n (encT t):=.agg fun v hv=>by
 simp at hv
 rcases hv with rfl | rfl | rfl
 ·exact .int _ _
 ·exact .int _ _
 ·exact .string _
theorem peek_ok {h:AH} {kp:Nat} {e t:Tok} {r:List Tok} {bv:Value} {vs:List Var} {b l c:Nat} (S:PSg ow h kp e (t::r) bv vs b l c):Ex Tryz.prog 47 [.pointer (some ⟨kp,0,none⟩)].toArray h (encT t) h:=by
 refine Ex.pureF (below_T _ t) (X47_ok ?_)
 unfold X47
 have hlt:=S.lt
 have hr:=S.row
 unfold prow tokV at hr
 have e1:((t::r)++[e]).map encT=encT t::(r++[e]).map encT:=rfl
 rw [e1] at hr
 simp (disch:=first|exact dz|fail) only [hr,encT,SXB,SX,simprocAttr]
 (repeat (first | exact Kp.refl _ _ | assumption | refine Kp.push ?_ _ _ (by first | omega | (simp only [sz_push,sz_put];omega)) | refine Kp.put ?_ _ _ (by first | omega | (simp only [sz_push,sz_put];omega))))
theorem int_beq (a b:Nat):((a:Int) == (b:Int))=(a == b):=by
 rw [Bool.eq_iff_iff,beq_iff_eq,beq_iff_eq];omega
theorem is_ok {h:AH} {kp:Nat} {e:Tok} {ts:List Tok} {bv:Value} {vs:List Var} {b l c:Nat} (S:PSg ow h kp e ts bv vs b l c) (hp:ts ≠ []) (k:Nat) (x:ByteArray) :
  Ex Tryz.prog 30 [.pointer (some ⟨kp,0,none⟩),.int .i64 (k:Int),.string x].toArray h (.bool (isT ts k x)) h:=by
 cases ts with
 | nil=>exact absurd rfl hp
 | cons t r =>
  refine X30_ok ?_
  unfold X30
  simp (disch:=first|exact dz|fail) only [SXB,SX,simprocAttr]
  refine HC.exact (peek_ok S) ?_
  simp only [isT,eqT]
  simp (disch:=first|exact dz|fail) only [encT,int_beq,SXB,SX,simprocAttr]
  cases t.cls == k with
  | false =>
   simp (disch:=first|exact dz|fail) only [SXB,SX,simprocAttr]
  | true =>
   simp (disch:=first|exact dz|fail) only [SXB,SX,simprocAttr]
   refine HC.exact (peek_ok S) ?_
   simp (disch:=first|exact dz|fail) only [encT,SXB,SX,simprocAttr]
theorem take_ok {h:AH} {kp:Nat} {e t:Tok} {r:List Tok} {bv:Value} {vs:List Var} {b l c:Nat} {Q:RQ} (S:PSg ow h kp e (t::r) bv vs b l c)
  (hq:∀ h',PSg ow h' kp e r bv vs b l c→Adv kp h h'→Q (.ret (encT t)) h'):HC Tryz.prog 31 [.pointer (some ⟨kp,0,none⟩)].toArray h Q:=by
 refine X31_ok ?_
 unfold X31
 have hlt:=S.lt
 have hr:=S.row
 unfold prow tokV at hr
 have e1:((t::r)++[e]).map encT=encT t::(r++[e]).map encT:=rfl
 rw [e1] at hr
 simp (disch:=first|exact dz|fail) only [hr,encT,tl_vs,SXB,SX,simprocAttr]
 refine hq _ (S.adv ?_ ?_) ?_
 ·(repeat (first | exact Adv.refl _ _ | assumption | refine Adv.push ?_ _ _ | refine Adv.put ?_ _ _ (by first | exact .inl rfl | (right;first | omega | (simp only [sz_push,sz_put];omega)))))
 ·simp (disch:=first|exact dz|fail) only [SXB,SX,simprocAttr]
  rfl
 ·(repeat (first | exact Adv.refl _ _ | assumption | refine Adv.push ?_ _ _ | refine Adv.put ?_ _ _ (by first | exact .inl rfl | (right;first | omega | (simp only [sz_push,sz_put];omega)))))
theorem fail_ok {h:AH} {kp:Nat} {k a:Nat} {Q:RQ} (hq:Q (.pan (faultV (k,a))) h):HC Tryz.prog 46 [.pointer (some ⟨kp,0,none⟩),.int .i64 (k:Int),.int .i64 (a:Int)].toArray h Q:=by
 refine X46_ok ?_
 unfold X46
 simp (disch:=first|exact dz|fail) only [mi,SXB,SX,simprocAttr]
 exact hq
theorem want_ok {h:AH} {kp:Nat} {e:Tok} {ts:List Tok} {bv:Value} {vs:List Var} {b l c:Nat} {Q:RQ} (S:PSg ow h kp e ts bv vs b l c) (hp:ts ≠ []) (k:Nat) (x:ByteArray)
  (hok:∀ ts' h',Lang.want k x ts=.ok ts'→PSg ow h' kp e ts' bv vs b l c→Adv kp h h'→Q (.ret (.tuple #[])) h') (herr:∀ f,Lang.want k x ts=.error f→Q (.pan (faultV f)) h) :
  HC Tryz.prog 28 [.pointer (some ⟨kp,0,none⟩),.int .i64 (k:Int),.string x].toArray h Q:=by
 cases ts with
 | nil=>exact absurd rfl hp
 | cons t r =>
  refine X28_ok ?_
  unfold X28
  simp (disch:=first|exact dz|fail) only [SXB,SX,simprocAttr]
  refine HC.exact (is_ok S hp k x) ?_
  unfold Lang.want at hok herr
  cases hi:isT (t::r) k x with
  | false =>
   rw [hi] at herr
   simp (disch:=first|exact dz|fail) only [SXB,SX,simprocAttr]
   refine HC.exact (peek_ok S) ?_
   simp (disch:=first|exact dz|fail) only [encT,SXB,SX,simprocAttr]
   exact fail_ok (k:=161) (herr _ rfl)
  | true =>
   rw [hi] at hok
   simp (disch:=first|exact dz|fail) only [SXB,SX,simprocAttr]
   refine X28_2_ok ?_
   unfold X28_2
   simp (disch:=first|exact dz|fail) only [SXB,SX,simprocAttr]
   refine take_ok S fun h' S' a=>?_
   exact hok _ _ rfl S' a
end Go.Proofs.YtibigfkeaemanaaGreatDoor.L
end
section
namespace Go.Proofs.YtibigfkeaemanaaGreatDoor.X
open Go.Ab
set_option maxRecDepth 100000
noncomputable def code60:Code:=match Tryz.f60.body with | some c=>c | none=>.skip
noncomputable def res60:List ResultVar:=Tryz.f60.results.toList
def L60:Nat→Option (List Nat):=fun r=>none
noncomputable def X60 (t0:Value) (h:AH) (Q:RQ):Prop :=
 let t2:Value:=(Value.int .i64 0)
 let t3:Value:=Value.nilIface
 let t7:Value:=t0
 HC Tryz.prog 74 (([]:List Value)++[t7]++([]:List Value)).toArray h (resK (fun t8 h =>
 let t6:Value:=t8
 bq (opExtract t6 0) fun t9 =>
 bq (opExtract t6 1) fun t10 =>
 let t4:Value:=t9
 let t5:Value:=t10
 let t11:Value:=t5
 bq (binV Tryz.prog .neq 117 (.tmp 11) (.const Value.nilIface) t11 Value.nilIface h) fun t12 =>
 condP (some t12)
 (let t13:Value:=t4
 let t14:Value:=t0
 let t15:Value:=t5
 HC Tryz.prog 75 (([]:List Value)++[(Value.string (ByteArray.mk #[65,116,111,105])),t14,(Value.int .i64 0),(Value.int .i64 0),t15]++([]:List Value)).toArray h (resK (fun t16 h =>
 let t2:Value:=t13
 let t3:Value:=t16
 Q (.ret (.tuple [t2,t3].toArray)) h) (fun v h=>Q (.pan v) h)))
 (let t17:Value:=t4
 let t2:Value:=t17
 let t3:Value:=Value.nilIface
 Q (.ret (.tuple [t2,t3].toArray)) h)) (fun v h=>Q (.pan v) h))
theorem X60_eq (t0:Value) (h:AH) (Q:RQ):X60 t0 h Q=wpC Tryz.prog L60 code60 (argA [t0] Tryz.f60.ntmps) h (retK Tryz.prog res60 Q):=by kernel_rfl
theorem X60_body:Tryz.f60.body=some code60:=by kernel_rfl
theorem X60_ok {t0:Value} {h:AH} {Q:RQ} (H:X60 t0 h Q):HC Tryz.prog 60 [t0].toArray h Q:=HC.body Tryz.func60 X60_body ((X60_eq t0 h Q).mp H)
noncomputable def code74:Code:=match Tryz.f74.body with | some c=>c | none=>.skip
noncomputable def res74:List ResultVar:=Tryz.f74.results.toList
def L74:Nat→Option (List Nat):=fun r=>if r=8 then some [0,5] else if r=10 then some [5,6,47,48,49] else if r=19 then some [6] else none
noncomputable def J74_8 (t0 t5:Value) (h:AH) (Q:RQ):Prop:=wpC Tryz.prog L74 (cAt code74 [.r,.r,.l,.r,.l,.r,.r]) (mkA 77 [(0,t0),(5,t5)]) h (ctxAt Tryz.prog L74 code74 [.r,.r,.l,.r,.l,.r,.r] (retK Tryz.prog res74 Q))
noncomputable def K74_8 (t0 t5:Value) (h:AH) (Q:RQ):Prop:=(ctxAt Tryz.prog L74 code74 [.r,.r,.l,.r,.l,.r,.l] (retK Tryz.prog res74 Q)) .normal (mkA 77 [(0,t0),(5,t5)]) h
theorem K74_8_eq (t0 t5:Value) (h:AH) (Q:RQ):J74_8 t0 t5 h Q=K74_8 t0 t5 h Q:=join_eq (p:=[.r,.r,.l,.r,.l,.r]) (code:=code74) (by kernel_rfl) (by kernel_rfl)
noncomputable def H74_10 (t5 t6 t47 t48 t49:Value) (h:AH) (Q:RQ):Prop:=HL Tryz.prog (cAt code74 [.r,.r,.l,.r,.l,.r,.r,.r,.l,.r,.i,.i]) (mkA 77 [(5,t5),(6,t6),(47,t47),(48,t48),(49,t49)]) h (ctxAt Tryz.prog L74 code74 [.r,.r,.l,.r,.l,.r,.r,.r,.l,.r,.i] (retK Tryz.prog res74 Q))
noncomputable def J74_19 (t6:Value) (h:AH) (Q:RQ):Prop:=wpC Tryz.prog L74 (cAt code74 [.r,.r,.l,.r,.l,.r,.r,.r,.r,.r]) (mkA 77 [(6,t6)]) h (ctxAt Tryz.prog L74 code74 [.r,.r,.l,.r,.l,.r,.r,.r,.r,.r] (retK Tryz.prog res74 Q))
noncomputable def K74_19 (t6:Value) (h:AH) (Q:RQ):Prop:=(ctxAt Tryz.prog L74 code74 [.r,.r,.l,.r,.l,.r,.r,.r,.r,.l] (retK Tryz.prog res74 Q)) .normal (mkA 77 [(6,t6)]) h
theorem K74_19_eq (t6:Value) (h:AH) (Q:RQ):J74_19 t6 h Q=K74_19 t6 h Q:=join_eq (p:=[.r,.r,.l,.r,.l,.r,.r,.r,.r]) (code:=code74) (by kernel_rfl) (by kernel_rfl)
noncomputable def X74_19 (t6:Value) (h:AH) (Q:RQ):Prop :=
 let t69:Value:=t6
 let t2:Value:=t69
 let t3:Value:=Value.nilIface
 Q (.ret (.tuple [t2,t3].toArray)) h
theorem X74_19_eq (t6:Value) (h:AH) (Q:RQ):X74_19 t6 h Q=wpC Tryz.prog L74 (cAt code74 [.r,.r,.l,.r,.l,.r,.r,.r,.r,.r]) (mkA 77 [(6,t6)]) h (ctxAt Tryz.prog L74 code74 [.r,.r,.l,.r,.l,.r,.r,.r,.r,.r] (retK Tryz.prog res74 Q)):=by kernel_rfl
theorem X74_19_ok {t6:Value} {h:AH} {Q:RQ} (H:X74_19 t6 h Q):K74_19 t6 h Q:=(K74_19_eq t6 h Q).mp (((X74_19_eq t6 h Q).mp H))
noncomputable def X74_10 (t5 t6 t47 t48 t49:Value) (h:AH) (Q:RQ):Prop :=
 bq (binV Tryz.prog .lss 3 (.tmp 49) (.tmp 48) t49 t48 h) fun t50 =>
 condP (some t50)
 (bq (ia 1 t47 t49) fun t51 =>
 bq (ld1 h t51) fun t52 =>
 let t8:Value:=t52
 let t53:Value:=t8
 bq (binV Tryz.prog .sub 5 (.tmp 53) (.const (Value.int .u8 48)) t53 (Value.int .u8 48) h) fun t54 =>
 let t8:Value:=t54
 let t55:Value:=t8
 bq (binV Tryz.prog .gtr 5 (.tmp 55) (.const (Value.int .u8 9)) t55 (Value.int .u8 9) h) fun t56 =>
 condP (some t56)
 (bq (mi 151 (Value.int .i64 2)) fun t57 =>
 let t2:Value:=(Value.int .i64 0)
 let t3:Value:=t57
 Q (.ret (.tuple [t2,t3].toArray)) h)
 (let t58:Value:=t6
 bq (binV Tryz.prog .mul 3 (.tmp 58) (.const (Value.int .i64 10)) t58 (Value.int .i64 10) h) fun t59 =>
 let t60:Value:=t8
 bq (convV Tryz.prog 5 3 t60 h) fun r=>(fun t61 h =>
 bq (binV Tryz.prog .add 3 (.tmp 59) (.tmp 61) t59 t61 h) fun t62 =>
 let t6:Value:=t62
 bq (binV Tryz.prog .add 3 (.tmp 49) (.const (Value.int .i64 1)) t49 (Value.int .i64 1) h) fun t63 =>
 let t49:Value:=t63
 H74_10 t5 t6 t47 t48 t49 h Q) r.1 r.2))
 (let t64:Value:=t5
 bq (ixS t64 (Value.int .i64 0)) fun t65 =>
 bq (binV Tryz.prog .eql 5 (.tmp 65) (.const (Value.int .u8 45)) t65 (Value.int .u8 45) h) fun t66 =>
 condP (some t66)
 (let t67:Value:=t6
 bq (unV Tryz.prog .neg t67) fun t68 =>
 let t6:Value:=t68
 K74_19 t6 h Q)
 (K74_19 t6 h Q))
theorem X74_10_eq (t5 t6 t47 t48 t49:Value) (h:AH) (Q:RQ):X74_10 t5 t6 t47 t48 t49 h Q=wpC Tryz.prog L74 (cAt code74 [.r,.r,.l,.r,.l,.r,.r,.r,.l,.r,.i,.i]) (mkA 77 [(5,t5),(6,t6),(47,t47),(48,t48),(49,t49)]) h (ctxAt Tryz.prog L74 code74 [.r,.r,.l,.r,.l,.r,.r,.r,.l,.r,.i,.i] (retK Tryz.prog res74 Q)):=by kernel_rfl
theorem X74_10_ok {t5 t6 t47 t48 t49:Value} {h:AH} {Q:RQ} (H:X74_10 t5 t6 t47 t48 t49 h Q):H74_10 t5 t6 t47 t48 t49 h Q:=HL.step (L:=L74) ((X74_10_eq t5 t6 t47 t48 t49 h Q).mp H)
noncomputable def X74_8 (t0 t5:Value) (h:AH) (Q:RQ):Prop :=
 let t6:Value:=(Value.int .i64 0)
 let t46:Value:=t0
 bq (convV Tryz.prog 9 80 t46 h) fun r=>(fun t47 h =>
 bq (lenL t47) fun t48 =>
 let t49:Value:=(Value.int .i64 0)
 H74_10 t5 t6 t47 t48 t49 h Q) r.1 r.2
theorem X74_8_eq (t0 t5:Value) (h:AH) (Q:RQ):X74_8 t0 t5 h Q=wpC Tryz.prog L74 (cAt code74 [.r,.r,.l,.r,.l,.r,.r]) (mkA 77 [(0,t0),(5,t5)]) h (ctxAt Tryz.prog L74 code74 [.r,.r,.l,.r,.l,.r,.r] (retK Tryz.prog res74 Q)):=by kernel_rfl
theorem X74_8_ok {t0 t5:Value} {h:AH} {Q:RQ} (H:X74_8 t0 t5 h Q):K74_8 t0 t5 h Q:=(K74_8_eq t0 t5 h Q).mp (((X74_8_eq t0 t5 h Q).mp H))
noncomputable def X74 (t0:Value) (h:AH) (Q:RQ):Prop :=
 let t2:Value:=(Value.int .i64 0)
 let t3:Value:=Value.nilIface
 let t11:Value:=t0
 bq (lenS t11) fun t12 =>
 let t4:Value:=t12
 let t13:Value:=(Value.bool false)
 guardQ t13 true h (fun k=>k t4 h) fun t14 h =>
 guardQ t13 true h (fun k=>bq (binV Tryz.prog .lss 3 (.const (Value.int .i64 0)) (.tmp 14) (Value.int .i64 0) t14 h) fun v=>k v h) fun t15 h =>
 guardQ t13 true h (fun k=>k t15 h) fun t16 h =>
 guardQ t16 true h (fun k=>k t4 h) fun t17 h =>
 guardQ t16 true h (fun k=>bq (binV Tryz.prog .lss 3 (.tmp 17) (.const (Value.int .i64 10)) t17 (Value.int .i64 10) h) fun v=>k v h) fun t18 h =>
 guardQ t13 true h (fun k=>bq (pickV t16 t18 (Value.bool false)) fun v=>k v h) fun t19 h =>
 bq (pickV t13 t19 (Value.bool false)) fun t20 =>
 let t21:Value:=t20
 guardQ t21 false h (fun k=>k (Value.bool true) h) fun t22 h =>
 guardQ t22 true h (fun k=>k t4 h) fun t23 h =>
 guardQ t22 true h (fun k=>bq (binV Tryz.prog .lss 3 (.const (Value.int .i64 0)) (.tmp 23) (Value.int .i64 0) t23 h) fun v=>k v h) fun t24 h =>
 guardQ t22 true h (fun k=>k t24 h) fun t25 h =>
 guardQ t25 true h (fun k=>k t4 h) fun t26 h =>
 guardQ t25 true h (fun k=>bq (binV Tryz.prog .lss 3 (.tmp 26) (.const (Value.int .i64 19)) t26 (Value.int .i64 19) h) fun v=>k v h) fun t27 h =>
 guardQ t22 true h (fun k=>bq (pickV t25 t27 (Value.bool false)) fun v=>k v h) fun t28 h =>
 guardQ t21 false h (fun k=>bq (pickV t22 t28 (Value.bool false)) fun v=>k v h) fun t29 h =>
 bq (pickV t21 (Value.bool true) t29) fun t30 =>
 condP (some t30)
 (let t31:Value:=t0
 let t5:Value:=t31
 let t32:Value:=t0
 bq (ixS t32 (Value.int .i64 0)) fun t33 =>
 bq (binV Tryz.prog .eql 5 (.tmp 33) (.const (Value.int .u8 45)) t33 (Value.int .u8 45) h) fun t34 =>
 let t35:Value:=t34
 guardQ t35 false h (fun k=>k t0 h) fun t36 h =>
 guardQ t35 false h (fun k=>bq (ixS t36 (Value.int .i64 0)) fun v=>k v h) fun t37 h =>
 guardQ t35 false h (fun k=>bq (binV Tryz.prog .eql 5 (.tmp 37) (.const (Value.int .u8 43)) t37 (Value.int .u8 43) h) fun v=>k v h) fun t38 h =>
 bq (pickV t35 (Value.bool true) t38) fun t39 =>
 condP (some t39)
 (let t40:Value:=t0
 bq (sliceV Tryz.prog h 9 t40 (some (Value.int .i64 1)) none) fun t41 =>
 let t0:Value:=t41
 let t42:Value:=t0
 bq (lenS t42) fun t43 =>
 bq (binV Tryz.prog .lss 3 (.tmp 43) (.const (Value.int .i64 1)) t43 (Value.int .i64 1) h) fun t44 =>
 condP (some t44)
 (bq (mi 151 (Value.int .i64 2)) fun t45 =>
 let t2:Value:=(Value.int .i64 0)
 let t3:Value:=t45
 Q (.ret (.tuple [t2,t3].toArray)) h)
 (K74_8 t0 t5 h Q))
 (K74_8 t0 t5 h Q))
 (let t71:Value:=t0
 HC Tryz.prog 90 (([]:List Value)++[t71,(Value.int .i64 10),(Value.int .i64 0)]++([]:List Value)).toArray h (resK (fun t72 h =>
 let t70:Value:=t72
 bq (opExtract t70 0) fun t73 =>
 bq (opExtract t70 1) fun t74 =>
 let t9:Value:=t73
 let t10:Value:=t74
 let t75:Value:=t9
 let t76:Value:=t10
 let t2:Value:=t75
 let t3:Value:=t76
 Q (.ret (.tuple [t2,t3].toArray)) h) (fun v h=>Q (.pan v) h)))
theorem X74_eq (t0:Value) (h:AH) (Q:RQ):X74 t0 h Q=wpC Tryz.prog L74 code74 (argA [t0] Tryz.f74.ntmps) h (retK Tryz.prog res74 Q):=by kernel_rfl
theorem X74_body:Tryz.f74.body=some code74:=by kernel_rfl
theorem X74_ok {t0:Value} {h:AH} {Q:RQ} (H:X74 t0 h Q):HC Tryz.prog 74 [t0].toArray h Q:=HC.body Tryz.func74 X74_body ((X74_eq t0 h Q).mp H)
noncomputable def code78:Code:=match Tryz.f78.body with | some c=>c | none=>.skip
noncomputable def res78:List ResultVar:=Tryz.f78.results.toList
def L78:Nat→Option (List Nat):=fun r=>if r=2 then some [0,2,6,7] else none
noncomputable def H78_2 (t0 t2 t6 t7:Value) (h:AH) (Q:RQ):Prop:=HL Tryz.prog (cAt code78 [.r,.l,.r,.i,.i]) (mkA 17 [(0,t0),(2,t2),(6,t6),(7,t7)]) h (ctxAt Tryz.prog L78 code78 [.r,.l,.r,.i] (retK Tryz.prog res78 Q))
noncomputable def X78_2 (t0 t2 t6 t7:Value) (h:AH) (Q:RQ):Prop :=
 bq (binV Tryz.prog .lss 3 (.tmp 7) (.const (Value.int .i64 24)) t7 (Value.int .i64 24) h) fun t8 =>
 condP (some t8)
 (bq (opIndex Tryz.prog 157 t6 t7) fun t9 =>
 (fun t5 h =>
 bq (stN 3 h t5 t9) fun h=>(fun _ h =>
 bq (fa 0 1 t5) fun t10 =>
 bq (ld1 h t10) fun t11 =>
 let t12:Value:=t0
 bq (binV Tryz.prog .eql 9 (.tmp 11) (.tmp 12) t11 t12 h) fun t13 =>
 condP (some t13)
 (bq (ldN 3 h t5) fun t14 =>
 bq (stN 3 h t2 t14) fun h=>(fun _ h =>
 let t3:Value:=(Value.bool true)
 bq (seqO [ldN 3 h t2,some t3]) fun vs=>Q (.ret (oneOf vs)) h) undef h)
 (bq (binV Tryz.prog .add 3 (.tmp 7) (.const (Value.int .i64 1)) t7 (Value.int .i64 1) h) fun t15 =>
 let t7:Value:=t15
 H78_2 t0 t2 t6 t7 h Q)) undef h) (opNew h 137 #[(Value.string (ByteArray.mk #[])),(Value.string (ByteArray.mk #[])),(Value.string (ByteArray.mk #[]))]).1 (opNew h 137 #[(Value.string (ByteArray.mk #[])),(Value.string (ByteArray.mk #[])),(Value.string (ByteArray.mk #[]))]).2)
 (bq (bd #[(Value.string (ByteArray.mk #[])),(Value.string (ByteArray.mk #[])),(Value.string (ByteArray.mk #[]))] []) fun t16 =>
 bq (stN 3 h t2 t16) fun h=>(fun _ h =>
 let t3:Value:=(Value.bool false)
 bq (seqO [ldN 3 h t2,some t3]) fun vs=>Q (.ret (oneOf vs)) h) undef h)
theorem X78_2_eq (t0 t2 t6 t7:Value) (h:AH) (Q:RQ):X78_2 t0 t2 t6 t7 h Q=wpC Tryz.prog L78 (cAt code78 [.r,.l,.r,.i,.i]) (mkA 17 [(0,t0),(2,t2),(6,t6),(7,t7)]) h (ctxAt Tryz.prog L78 code78 [.r,.l,.r,.i,.i] (retK Tryz.prog res78 Q)):=by kernel_rfl
theorem X78_2_ok {t0 t2 t6 t7:Value} {h:AH} {Q:RQ} (H:X78_2 t0 t2 t6 t7 h Q):H78_2 t0 t2 t6 t7 h Q:=HL.step (L:=L78) ((X78_2_eq t0 t2 t6 t7 h Q).mp H)
noncomputable def X78 (t0:Value) (h:AH) (Q:RQ):Prop :=
 (fun t2 h =>
 let t3:Value:=(Value.bool false)
 bq (ldN 72 h (Value.pointer (some ⟨2,0,none⟩))) fun t6 =>
 let t7:Value:=(Value.int .i64 0)
 H78_2 t0 t2 t6 t7 h Q) (opNew h 137 #[(Value.string (ByteArray.mk #[])),(Value.string (ByteArray.mk #[])),(Value.string (ByteArray.mk #[]))]).1 (opNew h 137 #[(Value.string (ByteArray.mk #[])),(Value.string (ByteArray.mk #[])),(Value.string (ByteArray.mk #[]))]).2
theorem X78_eq (t0:Value) (h:AH) (Q:RQ):X78 t0 h Q=wpC Tryz.prog L78 code78 (argA [t0] Tryz.f78.ntmps) h (retK Tryz.prog res78 Q):=by kernel_rfl
theorem X78_body:Tryz.f78.body=some code78:=by kernel_rfl
theorem X78_ok {t0:Value} {h:AH} {Q:RQ} (H:X78 t0 h Q):HC Tryz.prog 78 [t0].toArray h Q:=HC.body Tryz.func78 X78_body ((X78_eq t0 h Q).mp H)
end Go.Proofs.YtibigfkeaemanaaGreatDoor.X
end
section
namespace Go.Lang
def reservedB:ByteArray:=⟨#[32,109,97,112,32,99,111,109,98,105,110,101,32,114,101,100,117,99,101,32,112,97,114,116,32,101,109,105,116,32,108,101,116,32,105,102,32,101,108,115,101,32,101,97,99,104,32,105,110,32,98,121,32,102,111,114,32]⟩
def anyPre (sub:List UInt8):List UInt8→Bool
 | []=>sub.isEmpty
 | b::l=>sub.isPrefixOf (b::l) || anyPre sub l
theorem index_anyPre (sub:List UInt8):∀ s:List UInt8,decide (0 ≤ Lib.index s sub)=anyPre sub s:=by
 intro s
 induction s with
 | nil=>unfold Lib.index anyPre;cases sub <;> rfl
 | cons b l ih =>
  unfold Lib.index anyPre
  cases h:sub.isPrefixOf (b::l)
  ·rw [Bool.false_or,← ih,if_neg (by simp)]
   have:=Lib.index_ge l sub
   by_cases h1:Lib.index l sub = -1
   ·simp [h1]
   ·have h2:(Lib.index l sub == -1)=false:=by simpa using h1
    simp only [h2,Bool.false_eq_true,if_false]
    have:(0 ≤ Lib.index l sub + 1) ↔ (0 ≤ Lib.index l sub):=by omega
    simp [this]
  ·simp
def wordAt (x:List UInt8):List UInt8→List UInt8→Bool
 | w,[]=>false
 | w,b::l=>if b == 32 then w == x else wordAt x (w++[b]) l
theorem wordAt_pre (x:List UInt8) (hx:∀ c ∈ x,c ≠ 32):∀ (l w y:List UInt8),(∀ c ∈ w,c ≠ 32)→x=w++y→(y++[32]).isPrefixOf l=wordAt x w l:=by
 intro l
 induction l with
 | nil=>intro w y _ _;unfold wordAt;cases y <;> rfl
 | cons b l ih =>
  intro w y hw hy
  unfold wordAt
  by_cases hb:b=32
  ·subst hb
   simp only [beq_self_eq_true,if_true]
   cases y with
   | nil=>rw [hy];simp [List.isPrefixOf]
   | cons c y =>
    have hc:c ≠ 32:=hx c (by rw [hy];simp)
    have:w ≠ x:=fun e=>by rw [hy] at e;have:=congrArg List.length e;simp at this
    have h1:(w == x)=false:=by simpa using this
    rw [h1]
    have h2:(c == 32)=false:=by simpa using hc
    simp [List.isPrefixOf,h2]
  ·have hb':(b == 32)=false:=by simpa using hb
   simp only [hb',Bool.false_eq_true,if_false]
   cases y with
   | nil =>
    have h3:((32:UInt8) == b)=false:=by simpa using fun e=>hb e.symm
    have:∀ (l w:List UInt8),(∃ r,w=x++r∧r ≠ [])→wordAt x w l=false:=by
     intro l
     induction l with
     | nil=>intro w _;rfl
     | cons c l ih2 =>
      intro w ⟨r,hr,hne⟩
      unfold wordAt
      split
      ·have:w ≠ x:=fun e=>by rw [hr] at e;have:=congrArg List.length e;simp at this;exact hne this
       simpa using this
      ·exact ih2 _ ⟨r++[c],by rw [hr];simp,by simp⟩
    rw [this l (w++[b]) ⟨[b],by rw [hy];simp,by simp⟩]
    simp [List.isPrefixOf,h3]
   | cons c y =>
    by_cases hcb:c=b
    ·subst hcb
     rw [← ih (w++[c]) y (fun d hd=>by
      rcases List.mem_append.1 hd with h | h
      ·exact hw d h
      ·rw [List.mem_singleton.1 h];exact hb) (by rw [hy];simp)]
     simp [List.isPrefixOf]
    ·have h2:(c == b)=false:=by simpa using hcb
     have:∀ (l w:List UInt8),(∃ u v,w=u++v∧u.length ≤ x.length∧u ≠ x.take u.length)→wordAt x w l=false:=by
      intro l
      induction l with
      | nil=>intro w _;rfl
      | cons c l ih2 =>
       intro w ⟨u,v,hr,hle,hne⟩
       unfold wordAt
       split
       ·have:w ≠ x:=fun e=>hne (by rw [← e,hr];simp)
        simpa using this
       ·exact ih2 _ ⟨u,v++[c],by rw [hr];simp,hle,hne⟩
     rw [this l (w++[b]) ⟨w++[b],[],by simp,by rw [hy];simp,fun e=>by
      rw [hy] at e
      have e2:(w++[b]).length=w.length + 1:=by simp
      rw [e2,List.take_append,List.take_of_length_le (by omega)] at e
      simp at e
      exact hcb e.symm⟩]
     simp [List.isPrefixOf,h2]
def preB (x:List UInt8):List UInt8→Bool
 | []=>false
 | b::l=>(b == 32 && wordAt x [] l) || preB x l
theorem anyPre_preB (x:List UInt8) (hx:∀ c ∈ x,c ≠ 32):∀ s:List UInt8,anyPre (32::(x++[32])) s=preB x s:=by
 intro s
 induction s with
 | nil=>rfl
 | cons b l ih =>
  unfold anyPre preB
  rw [ih,← wordAt_pre x hx l [] x (by simp) rfl]
  by_cases hb:b=32
  ·subst hb;simp [List.isPrefixOf]
  ·have h1:(b == 32)=false:=by simpa using hb
   have h2:((32:UInt8) == b)=false:=by simpa using fun e=>hb e.symm
   simp [List.isPrefixOf,h1,h2]
theorem isName_blank {t:ByteArray} (h:isName t):∀ c ∈ t.data.toList,c ≠ 32:=fun c hc e=>by
 have:=h c hc
 subst e
 revert this
 decide
theorem reserved_word {t:ByteArray} (h:isName t):Lib.contains reservedB.data.toList (32::(t.data.toList++[32]))=isWord t:=by
 unfold Lib.contains
 rw [index_anyPre,anyPre_preB _ (isName_blank h)]
 unfold isWord eqT words
 simp only [List.any_cons,List.any_nil,ByteArray.toList_eq]
 generalize t.data.toList=x
 kernel_rfl
end Go.Lang
end
section
namespace Go.Proofs.YtibigfkeaemanaaGreatDoor.L
open Go.Ab Go.Lang Go.Proofs.YtibigfkeaemanaaGreatDoor.X
set_option maxRecDepth 100000
variable {ow:Bool}
def sigCells:List Value:=sigs.flatMap fun s=>[.string s.name,.string s.args,.string s.ans]
structure Glob (h:AH):Prop where
 max:∃ (m:Int) (e:TypeId) (fz:Nat × Nat) (s:Option Nat),h.get 1=some (.cells #[.int .i64 m] e fz,s)
 sig:∃ (e:TypeId) (fz:Nat × Nat) (s:Option Nat),h.get 2=some (.cells sigCells.toArray e fz,s)
 size:10 ≤ h.size
theorem Glob.mono {lo:Nat} {h h':AH} (G:Glob h) (K:Kp lo h h') (hl:10 ≤ lo):Glob h':=by
 obtain ⟨⟨m,e,fz,s,h1⟩,⟨e2,fz2,s2,h2⟩,h3⟩:=G
 exact ⟨⟨m,e,fz,s,(K.get _ (by omega)).trans h1⟩,⟨e2,fz2,s2,(K.get _ (by omega)).trans h2⟩,Nat.le_trans h3 K.size⟩
theorem contains_ok {h:AH} (G:Glob h) (s sub:ByteArray) (hs:s.size < 4294967281):Ex Tryz.prog 76 [.string s,.string sub].toArray h (.bool (Lib.contains s.data.toList sub.data.toList)) h:=by
 obtain ⟨m,e,fz,so,h1⟩:=G.max
 exact Ex.of_calls1 (n:=12) (g:=1) (of_decide_eq_true (by kernel_rfl)) h1 rfl rfl rfl fun w hm=>Tryz.strings_Contains s sub m w hs hm
theorem Glob.adv {kp:Nat} {h h':AH} (G:Glob h) (a:Adv kp h h') (hk:10 ≤ kp):Glob h':=by
 obtain ⟨⟨m,e,fz,s,h1⟩,⟨e2,fz2,s2,h2⟩,h3⟩:=G
 exact ⟨⟨m,e,fz,s,(a.get _ (by omega) (by omega)).trans h1⟩,⟨e2,fz2,s2,(a.get _ (by omega) (by omega)).trans h2⟩,Nat.le_trans h3 a.size⟩
theorem Glob.kp {h h':AH} (G:Glob h) (K:Kp h.size h h'):Glob h':=G.mono K G.size
theorem Adv.of_kp {kp:Nat} {h h':AH} (K:Kp h.size h h'):Adv kp h h':=⟨K.size,fun k h1 _=>K.get k h1⟩
theorem cat_32 (x:ByteArray):((⟨#[32]⟩++x++⟨#[32]⟩:ByteArray)).data.toList=32::(x.data.toList++[32]):=by simp
theorem size_32 (x:ByteArray):(⟨#[32]⟩++x:ByteArray).size=1 + x.size:=by rw [ByteArray.size_append];rfl
theorem fresh_ok {h:AH} {kp:Nat} {e t:Tok} {r:List Tok} {bv:Value} {vs:List Var} {b l c:Nat} {Q:RQ} (S:PSg ow h kp e (t::r) bv vs b l c) (hk:10 ≤ kp) (G:Glob h) (hn:t.cls=1→isName t.text∧t.text.size ≤ 4096)
  (hok:∀ h',Lang.fresh (t::r)=.ok (t,r)→PSg ow h' kp e r bv vs b l c→Adv kp h h'→Q (.ret (encT t)) h') (herr:∀ f h',Lang.fresh (t::r)=.error f→PanS h' kp→Adv kp h h'→Q (.pan (faultV f)) h') :
  HC Tryz.prog 61 [.pointer (some ⟨kp,0,none⟩)].toArray h Q:=by
 refine X61_ok ?_
 unfold X61
 have hlt:=S.lt
 simp (disch:=first|exact dz|fail) only [SXB,SX,simprocAttr]
 refine HC.exact (peek_ok (S.same (by (repeat (first | exact Kp.refl _ _ | assumption | refine Kp.push ?_ _ _ (by first | omega | (simp only [sz_push,sz_put];omega)) | refine Kp.put ?_ _ _ (by first | omega | (simp only [sz_push,sz_put];omega))))))) ?_
 simp (disch:=first|exact dz|fail) only [encT,SXB,SX,simprocAttr]
 have fin:∀ h',Lang.fresh (t::r)=.ok (t,r)→Kp h.size h h'→(∃ x y z,h'.get h.size=some (.cells #[x,y,z] 55 (0,0),none))→h.size < h'.size→K61_4 (.pointer (some ⟨kp,0,none⟩)) (.pointer (some ⟨h.size,0,none⟩)) h' Q:=by
  intro h' hf K ⟨x,y,z,hg⟩ hlt'
  refine X61_4_ok ?_
  unfold X61_4
  simp (disch:=first|exact dz|fail) only [SXB,SX,simprocAttr]
  refine take_ok (S.same K) fun h2 S2 a2=>?_
  have hg2:h2.get h.size=some (.cells #[x,y,z] 55 (0,0),none):=(a2.get _ hlt' (by omega)).trans hg
  have A2:=(Adv.of_kp (kp:=kp) K).trans a2
  simp (disch:=first|exact dz|fail) only [hg2,encT,SXB,SX,simprocAttr]
  refine hok _ hf (S.adv ?_ ?_) ?_
  ·(repeat (first | exact Adv.refl _ _ | assumption | refine Adv.push ?_ _ _ | refine Adv.put ?_ _ _ (by first | exact .inl rfl | (right;first | omega | (simp only [sz_push,sz_put];omega)))))
  ·rw [get_put_ne (by omega)];exact S2.row
  ·(repeat (first | exact Adv.refl _ _ | assumption | refine Adv.push ?_ _ _ | refine Adv.put ?_ _ _ (by first | exact .inl rfl | (right;first | omega | (simp only [sz_push,sz_put];omega)))))
 by_cases hc:t.cls=1
 ·obtain ⟨hnm,hsz⟩:=hn hc
  have e1:((t.cls:Int) != 1)=false:=by simp [hc]
  have s1:=size_32 t.text
  have s2:(ByteArray.mk #[32]).size=1:=rfl
  simp (disch:=first|exact dz|fail) only [e1,SXB,SX,simprocAttr]
  refine HC.exact (contains_ok (G.kp (by (repeat (first | exact Kp.refl _ _ | assumption | refine Kp.push ?_ _ _ (by first | omega | (simp only [sz_push,sz_put];omega)) | refine Kp.put ?_ _ _ (by first | omega | (simp only [sz_push,sz_put];omega)))))) _ _ (of_decide_eq_true (by kernel_rfl))) ?_
  rw [cat_32,show ((⟨#[32,109,97,112,32,99,111,109,98,105,110,101,32,114,101,100,117,99,101,32,112,97,114,116,32,101,109,105,116,32,108,101,116,32,105,102,32,101,108,115,101,32,101,97,99,104,32,105,110,32,98,121,32,102,111,114,32]⟩:ByteArray))=reservedB from rfl,reserved_word hnm]
  have hf0:Lang.fresh (t::r)=if isWord t.text then .error (161,t.at_) else .ok (t,r):=by simp [Lang.fresh,hc]
  cases hw:isWord t.text with
  | true =>
   rw [hw] at hf0
   simp (disch:=first|exact dz|fail) only [SXB,SX,simprocAttr]
   refine fail_ok (k:=161) ?_
   simp (disch:=first|exact dz|fail) only [SXB,SX,simprocAttr]
   exact herr _ _ hf0 ((S.same (by (repeat (first | exact Kp.refl _ _ | assumption | refine Kp.push ?_ _ _ (by first | omega | (simp only [sz_push,sz_put];omega)) | refine Kp.put ?_ _ _ (by first | omega | (simp only [sz_push,sz_put];omega)))))).pan) (.of_kp (by (repeat (first | exact Kp.refl _ _ | assumption | refine Kp.push ?_ _ _ (by first | omega | (simp only [sz_push,sz_put];omega)) | refine Kp.put ?_ _ _ (by first | omega | (simp only [sz_push,sz_put];omega))))))
  | false =>
   rw [hw] at hf0
   simp (disch:=first|exact dz|fail) only [SXB,SX,simprocAttr]
   refine fin _ hf0 (by (repeat (first | exact Kp.refl _ _ | assumption | refine Kp.push ?_ _ _ (by first | omega | (simp only [sz_push,sz_put];omega)) | refine Kp.put ?_ _ _ (by first | omega | (simp only [sz_push,sz_put];omega))))) ⟨.int .i64 0,.int .i64 0,.string ⟨#[]⟩,?_⟩ ?_
   ·simp (disch:=first|exact dz|fail) only [SXB,SX,simprocAttr]
   ·simp (disch:=first|exact dz|fail) only [SXB,SX,simprocAttr]
    omega
 ·have e1:((t.cls:Int) != 1)=true:=by simp;omega
  have hf0:Lang.fresh (t::r)=.error (161,t.at_):=by simp [Lang.fresh,hc]
  simp (disch:=first|exact dz|fail) only [e1,SXB,SX,simprocAttr]
  refine fail_ok (k:=161) ?_
  simp (disch:=first|exact dz|fail) only [SXB,SX,simprocAttr]
  exact herr _ _ hf0 ((S.same (by (repeat (first | exact Kp.refl _ _ | assumption | refine Kp.push ?_ _ _ (by first | omega | (simp only [sz_push,sz_put];omega)) | refine Kp.put ?_ _ _ (by first | omega | (simp only [sz_push,sz_put];omega)))))).pan) (.of_kp (by (repeat (first | exact Kp.refl _ _ | assumption | refine Kp.push ?_ _ _ (by first | omega | (simp only [sz_push,sz_put];omega)) | refine Kp.put ?_ _ _ (by first | omega | (simp only [sz_push,sz_put];omega))))))
def kres (o:Option Nat):Value:=.tuple #[.int .u8 (o.getD 0:Nat),.bool o.isSome]
theorem below_kres (n:Nat) (o:Option Nat):Below n (kres o):=.tuple fun v hv=>by
 simp at hv
 rcases hv with rfl | rfl
 ·exact .int _ _
 ·exact .bool _
theorem encV_cells (v:Var):(encV v).cells = #[.string v.1,.int .u8 v.2]:=rfl
theorem kindOf_cons (v:Var) (vs:List Var) (x:ByteArray):Lang.kindOf (v::vs) x=if eqT v.1 x then some v.2 else Lang.kindOf vs x:=by
 unfold Lang.kindOf
 rw [List.find?_cons]
 cases eqT v.1 x <;> rfl
theorem kindOf_loop {h:AH} {bv:Value} {vs:List Var} {x:ByteArray} {Q:RQ} (R:Rd h 2 bv (vs.map encV)) (hl:vs.length ≤ 1048576):∀ (r:List Var) (i:Nat) (h':AH),vs.drop i=r→i ≤ vs.length→Kp h.size h h' →
  (∀ h'',Kp h.size h h''→Q (.ret (kres (Lang.kindOf r x))) h'')→H63_2 (.string x) bv (.int .i64 vs.length) (.int .i64 i) h' Q:=by
 intro r
 induction r with
 | nil =>
  intro i h' hd hi K hq
  have:=drop_nil hd
  refine X63_2_ok ?_
  unfold X63_2
  have e:¬ ((i:Int) < vs.length):=by omega
  simp (disch:=first|exact dz|fail) only [e,SXB,SX,simprocAttr]
  exact hq _ K
 | cons v r ih =>
  intro i h' hd hi K hq
  obtain ⟨h1,h2,h3⟩:=drop_cons hd
  have hks:=K.size
  refine X63_2_ok ?_
  unfold X63_2
  have e:(i:Int) < vs.length:=by omega
  obtain ⟨p,q1,q2,q3⟩:=(R.mono K).el i (encV v) (by simp [h1])
  have q4:=q2.ldN (n:=2) rfl
  simp (disch:=first|exact dz|fail) only [e,q1,q4,encV_cells,SXB,SX,simprocAttr]
  rw [kindOf_cons] at hq
  unfold eqT at hq
  cases he:v.1.toList == x.toList with
  | true =>
   rw [he] at hq
   simp (disch:=first|exact dz|fail) only [SXB,SX,simprocAttr]
   refine hq _ ?_
   (repeat (first | exact Kp.refl _ _ | assumption | refine Kp.push ?_ _ _ (by first | omega | (simp only [sz_push,sz_put];omega)) | refine Kp.put ?_ _ _ (by first | omega | (simp only [sz_push,sz_put];omega))))
  | false =>
   rw [he] at hq
   simp (disch:=first|exact dz|fail) only [SXB,SX,simprocAttr]
   refine ih (i + 1) _ h2 (by omega) ?_ hq
   (repeat (first | exact Kp.refl _ _ | assumption | refine Kp.push ?_ _ _ (by first | omega | (simp only [sz_push,sz_put];omega)) | refine Kp.put ?_ _ _ (by first | omega | (simp only [sz_push,sz_put];omega))))
theorem kindOf_ok {h:AH} {kp:Nat} {e:Tok} {ts:List Tok} {bv:Value} {vs:List Var} {b l c:Nat} (S:PSg ow h kp e ts bv vs b l c) (hl:vs.length ≤ 1048576) (x:ByteArray) :
  Ex Tryz.prog 63 [.pointer (some ⟨kp,0,none⟩),.string x].toArray h (kres (Lang.kindOf vs x)) h:=by
 refine Ex.pureF (below_kres _ _) (X63_ok ?_)
 unfold X63
 have hr:=S.row
 unfold prow at hr
 have R:=S.own.rd (encVs_size vs) S.ltb
 have e1:=S.own.len
 rw [List.length_map] at e1
 simp (disch:=first|exact dz|fail) only [hr,e1,SXB,SX,simprocAttr]
 exact kindOf_loop R hl vs 0 h rfl (by omega) (.refl _ _) fun h'' K=>⟨rfl,K⟩
theorem unbound_ok {h:AH} {kp:Nat} {e t:Tok} {r:List Tok} {bv:Value} {vs:List Var} {b l c:Nat} {Q:RQ} (S:PSg ow h kp e (t::r) bv vs b l c) (hk:10 ≤ kp) (G:Glob h) (hn:t.cls=1→isName t.text∧t.text.size ≤ 4096) (hl:vs.length ≤ 1048576)
  (hok:∀ h',Lang.unboundF vs (t::r)=.ok (t.text,r)→PSg ow h' kp e r bv vs b l c→Adv kp h h'→Q (.ret (.string t.text)) h') (herr:∀ f h',Lang.unboundF vs (t::r)=.error f→PanS h' kp→Adv kp h h'→Q (.pan (faultV f)) h') :
  HC Tryz.prog 59 [.pointer (some ⟨kp,0,none⟩)].toArray h Q:=by
 refine X59_ok ?_
 unfold X59
 simp (disch:=first|exact dz|fail) only [SXB,SX,simprocAttr]
 refine fresh_ok S hk G hn (fun h' hf S' a=>?_) (fun f h' hf p a=>?_)
 ·have hu:Lang.unboundF vs (t::r)=if (Lang.kindOf vs t.text).isSome then .error (162,t.at_) else .ok (t.text,r):=by unfold Lang.unboundF;rw [hf]
  simp (disch:=first|exact dz|fail) only [encT,SXB,SX,simprocAttr]
  refine HC.exact (kindOf_ok (S'.same (by (repeat (first | exact Kp.refl _ _ | assumption | refine Kp.push ?_ _ _ (by first | omega | (simp only [sz_push,sz_put];omega)) | refine Kp.put ?_ _ _ (by first | omega | (simp only [sz_push,sz_put];omega)))))) hl t.text) ?_
  have hlt:=S'.lt
  have hsz:=a.size
  simp (disch:=first|exact dz|fail) only [kres,SXB,SX,simprocAttr]
  cases hv:Lang.kindOf vs t.text with
  | some k =>
   rw [hv] at hu
   simp (disch:=first|exact dz|fail) only [Option.isSome_some,SXB,SX,simprocAttr]
   refine fail_ok (k:=162) ?_
   simp (disch:=first|exact dz|fail) only [SXB,SX,simprocAttr]
   refine herr _ _ hu ((S'.same (by (repeat (first | exact Kp.refl _ _ | assumption | refine Kp.push ?_ _ _ (by first | omega | (simp only [sz_push,sz_put];omega)) | refine Kp.put ?_ _ _ (by first | omega | (simp only [sz_push,sz_put];omega)))))).pan) ?_
   (repeat (first | exact Adv.refl _ _ | assumption | refine Adv.push ?_ _ _ | refine Adv.put ?_ _ _ (by first | exact .inl rfl | (right;first | omega | (simp only [sz_push,sz_put];omega)))))
  | none =>
   rw [hv] at hu
   simp (disch:=first|exact dz|fail) only [Option.isSome_none,SXB,SX,simprocAttr]
   refine X59_5_ok ?_
   unfold X59_5
   simp (disch:=first|exact dz|fail) only [SXB,SX,simprocAttr]
   refine hok _ hu (S'.same (by (repeat (first | exact Kp.refl _ _ | assumption | refine Kp.push ?_ _ _ (by first | omega | (simp only [sz_push,sz_put];omega)) | refine Kp.put ?_ _ _ (by first | omega | (simp only [sz_push,sz_put];omega)))))) ?_
   (repeat (first | exact Adv.refl _ _ | assumption | refine Adv.push ?_ _ _ | refine Adv.put ?_ _ _ (by first | exact .inl rfl | (right;first | omega | (simp only [sz_push,sz_put];omega)))))
 ·have hu:Lang.unboundF vs (t::r)=.error f:=by unfold Lang.unboundF;rw [hf]
  simp (disch:=first|exact dz|fail) only [SXB,SX,simprocAttr]
  exact herr _ _ hu p a
def sigV (s:Sig):Value:=.agg #[.string s.name,.string s.args,.string s.ans]
end Go.Proofs.YtibigfkeaemanaaGreatDoor.L
end
