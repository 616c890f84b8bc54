import Derived.KernelRfl
import Derived.Test.YtibigfkeaemanaaGreatDoorProg
import Derived.Test.YtibigfkeaemanaaGreatDoorZ15
import Derived.Test.YtibigfkeaemanaaGreatDoorZ33
set_option linter.unusedVariables false
set_option linter.unusedSimpArgs false
section
namespace Go.Proofs.YtibigfkeaemanaaGreatDoor.L
open Go.Ab Go.Lang Go.Proofs.YtibigfkeaemanaaGreatDoor.X
set_option maxRecDepth 100000
structure EnvG (h:AH) (ke:Nat) (r t:Tri) (ns:List Value) (e:Env) (o:Lang.Out):Prop where
 row:h.get ke=some (.cells #[r.n,r.v,r.o] 78 (0,0),none)
 names:Gs 9 1 h t.n ns
 nsz:∀ v ∈ ns,v.cells.size=1
 vals:∃ vs,Gs 68 3 h t.v vs∧VRs vs e
 out:Gs 40 2 h t.o (o.map encPair)
 ne:¬ t.has ke
 d1:∀ k,blkOf t.n=some k→blkOf t.v ≠ some k
 d2:∀ k,blkOf t.n=some k→blkOf t.o ≠ some k
 d3:∀ k,blkOf t.v=some k→blkOf t.o ≠ some k
 lt:ke < h.size
 lts:∀ k,t.has k→k < h.size
theorem EnvS.g {h:AH} {ke:Nat} {t:Tri} {e:Env} {o:Lang.Out} (S:EnvS h ke t e o):EnvG h ke t t (nmL e) e o:=⟨S.row,S.names,nmL_size e,S.vals,S.out,S.ne,S.d1,S.d2,S.d3,S.lt,S.lts⟩
theorem EnvG.s {h:AH} {ke:Nat} {t:Tri} {e:Env} {o:Lang.Out} (S:EnvG h ke t t (nmL e) e o):EnvS h ke t e o:=⟨S.row,S.names,S.vals,S.out,S.ne,S.d1,S.d2,S.d3,S.lt,S.lts⟩
theorem EnvG.keep {h h':AH} {ke:Nat} {r t:Tri} {ns:List Value} {e:Env} {o:Lang.Out} (S:EnvG h ke r t ns e o) (hs:h.size ≤ h'.size) (hg:∀ k,(k=ke ∨ t.has k)→h'.get k=h.get k):EnvG h' ke r t ns e o:=by
 obtain ⟨vs,B,R⟩:=S.vals
 exact ⟨(hg ke (.inl rfl)).trans S.row,S.names.mono fun k hk=>hg k (.inr (.inl hk)),S.nsz,⟨vs,B.mono fun k hk=>hg k (.inr (.inr (.inl hk))),R⟩,S.out.mono fun k hk=>hg k (.inr (.inr (.inr hk))),S.ne,S.d1,S.d2,S.d3,Nat.lt_of_lt_of_le S.lt hs,fun k hk=>Nat.lt_of_lt_of_le (S.lts k hk) hs⟩
theorem EnvG.kp {h h':AH} {ke:Nat} {r t:Tri} {ns:List Value} {e:Env} {o:Lang.Out} (S:EnvG h ke r t ns e o) (K:Kp h.size h h'):EnvG h' ke r t ns e o:=S.keep K.size fun k hk=>K.get k (by rcases hk with rfl | hk;exact S.lt;exact S.lts k hk)
theorem EnvG.appN {h:AH} {ke:Nat} {r t:Tri} {ns:List Value} {e:Env} {o:Lang.Out} (S:EnvG h ke r t ns e o) {x:Value} {nm:ByteArray} (hx:Src h 1 x [.string nm]) (hs:ns.length ≤ 1000000) :
  ∃ n' h',apT 9 1 16 (some (.string ⟨#[]⟩)) h t.n x=some (n',h')∧EnvG h' ke r ⟨n',t.v,t.o⟩ (ns++[.string nm]) e o∧AdvE ke t h h'∧Mv h t ⟨n',t.v,t.o⟩:=by
 have h1:∀ v ∈ [Value.string nm],v.cells.size=1:=fun v hv=>by rw [List.mem_singleton.1 hv];rfl
 obtain ⟨n',h',a1,a2,a3,a4,a5⟩:=S.names.append hx S.nsz h1 (fun v hv=>by simp [flatC,Value.cells] at hv;subst hv;rfl) (bytes:=16) (zero:=.string ⟨#[]⟩) (by omega) (by omega) (by omega) rfl (by simp;omega)
 have fr:∀ k,k < h.size→blkOf t.n ≠ some k→h'.get k=h.get k:=a4
 have kv:∀ k,blkOf t.v=some k→h'.get k=h.get k:=fun k hk=>fr k (S.lts k (.inr (.inl hk))) fun e=>S.d1 k e hk
 have ko:∀ k,blkOf t.o=some k→h'.get k=h.get k:=fun k hk=>fr k (S.lts k (.inr (.inr hk))) fun e=>S.d2 k e hk
 have nw:∀ k,blkOf n' = some k→blkOf t.n=some k ∨ (h.size ≤ k∧k < h'.size):=fun k hk=>by
  rcases a5 with e1 | ⟨k',e1,e2,e3⟩
  ·rw [e1] at hk;exact .inl hk
  ·rw [e1] at hk;cases hk;exact .inr ⟨e2,e3⟩
 obtain ⟨vs,B,R⟩:=S.vals
 refine ⟨n',h',a1,⟨(fr ke S.lt fun e=>S.ne (.inl e)).trans S.row,a2,fun v hv=>(List.mem_append.1 hv).elim (S.nsz v) (h1 v),⟨vs,B.mono kv,R⟩,S.out.mono ko,?_,fun k hk hv=>?_,fun k hk hv=>?_,S.d3,Nat.lt_of_lt_of_le S.lt a3,fun k hk=>?_⟩,⟨a3,fun k h1 h2 h3=>fr k h1 fun e=>h3 (.inl e)⟩,fun k hk=>?_⟩
 ·rintro (hk | hk)
  ·rcases nw ke hk with h | h
   ·exact S.ne (.inl h)
   ·have:=S.lt;omega
  ·exact S.ne (.inr hk)
 ·rcases nw k hk with h | h
  ·exact S.d1 k h hv
  ·have:=S.lts k (.inr (.inl hv));omega
 ·rcases nw k hk with h | h
  ·exact S.d2 k h hv
  ·have:=S.lts k (.inr (.inr hv));omega
 ·rcases hk with hk | hk
  ·rcases nw k hk with h | h
   ·have:=S.lts k (.inl h);omega
   ·exact h.2
  ·have:=S.lts k (.inr hk);omega
 ·rcases hk with hk | hk
  ·rcases nw k hk with h | h
   ·exact .inl (.inl h)
   ·exact .inr h.1
  ·exact .inl (.inr hk)
theorem EnvG.appV {h:AH} {ke:Nat} {r t:Tri} {ns:List Value} {e:Env} {o:Lang.Out} (S:EnvG h ke r t ns e o) {x v:Value} {p:ByteArray × V} (hx:Src h 3 x [v]) (hv:VR v p.2) (hs:e.length ≤ 1000000) :
  ∃ n' h',apT 68 3 48 (some (.agg #[.int .i64 0,.string ⟨#[]⟩,.slice none 0 0])) h t.v x=some (n',h')∧EnvG h' ke r ⟨t.n,n',t.o⟩ ns (e++[p]) o∧AdvE ke t h h'∧Mv h t ⟨t.n,n',t.o⟩:=by
 have h1:∀ w ∈ [v],w.cells.size=3:=fun w hw=>by rw [List.mem_singleton.1 hw];exact hv.size
 obtain ⟨vs,B,R⟩:=S.vals
 have hl:=R.len
 obtain ⟨n',h',a1,a2,a3,a4,a5⟩:=B.append hx R.size h1 (fun w hw=>by rw [show flatC [v]=v.cells.toList by simp [flatC]] at hw;exact hv.ones w hw) (bytes:=48) (zero:=.agg #[.int .i64 0,.string ⟨#[]⟩,.slice none 0 0]) (by omega) (by omega) (by omega) rfl (by simp;omega)
 have fr:∀ k,k < h.size→blkOf t.v ≠ some k→h'.get k=h.get k:=a4
 have kn:∀ k,blkOf t.n=some k→h'.get k=h.get k:=fun k hk=>fr k (S.lts k (.inl hk)) fun e=>S.d1 k hk e
 have ko:∀ k,blkOf t.o=some k→h'.get k=h.get k:=fun k hk=>fr k (S.lts k (.inr (.inr hk))) fun e=>S.d3 k e hk
 have nw:∀ k,blkOf n' = some k→blkOf t.v=some k ∨ (h.size ≤ k∧k < h'.size):=fun k hk=>by
  rcases a5 with e1 | ⟨k',e1,e2,e3⟩
  ·rw [e1] at hk;exact .inl hk
  ·rw [e1] at hk;cases hk;exact .inr ⟨e2,e3⟩
 refine ⟨n',h',a1,⟨(fr ke S.lt fun e=>S.ne (.inr (.inl e))).trans S.row,S.names.mono kn,S.nsz,⟨_,a2,R.append (.cons hv .nil)⟩,S.out.mono ko,?_,fun k hk hv=>?_,S.d2,fun k hk hv=>?_,Nat.lt_of_lt_of_le S.lt a3,fun k hk=>?_⟩,⟨a3,fun k h1 h2 h3=>fr k h1 fun e=>h3 (.inr (.inl e))⟩,fun k hk=>?_⟩
 ·rintro (hk | hk | hk)
  ·exact S.ne (.inl hk)
  ·rcases nw ke hk with h | h
   ·exact S.ne (.inr (.inl h))
   ·have:=S.lt;omega
  ·exact S.ne (.inr (.inr hk))
 ·rcases nw k hv with h | h
  ·exact S.d1 k hk h
  ·have:=S.lts k (.inl hk);omega
 ·rcases nw k hk with h | h
  ·exact S.d3 k h hv
  ·have:=S.lts k (.inr (.inr hv));omega
 ·rcases hk with hk | hk | hk
  ·have:=S.lts k (.inl hk);omega
  ·rcases nw k hk with h | h
   ·have:=S.lts k (.inr (.inl h));omega
   ·exact h.2
  ·have:=S.lts k (.inr (.inr hk));omega
 ·rcases hk with hk | hk | hk
  ·exact .inl (.inl hk)
  ·rcases nw k hk with h | h
   ·exact .inl (.inr (.inl h))
   ·exact .inr h.1
  ·exact .inl (.inr (.inr hk))
theorem EnvG.put {h:AH} {ke:Nat} {r r' t:Tri} {ns:List Value} {e:Env} {o:Lang.Out} (S:EnvG h ke r t ns e o):EnvG (h.put ke (some (.cells #[r'.n,r'.v,r'.o] 78 (0,0),none))) ke r' t ns e o:=by
 have g:∀ k,t.has k→(h.put ke (some (.cells #[r'.n,r'.v,r'.o] 78 (0,0),none))).get k=h.get k:=fun k hk=>get_put_ne fun e=>S.ne (e ▸ hk)
 obtain ⟨vs,B,R⟩:=S.vals
 exact ⟨get_put_eq rfl,S.names.mono fun k hk=>g k (.inl hk),S.nsz,⟨vs,B.mono fun k hk=>g k (.inr (.inl hk)),R⟩,S.out.mono fun k hk=>g k (.inr (.inr hk)),S.ne,S.d1,S.d2,S.d3,by simpa using S.lt,fun k hk=>by simpa using S.lts k hk⟩
theorem AdvE.put {ke:Nat} {t:Tri} {h h':AH} (x:AdvE ke t h h') (v:Option (Obj × Option Nat)):AdvE ke t h (h'.put ke v):=⟨by simpa using x.size,fun k h1 h2 h3=>(get_put_ne h2).trans (x.get k h1 h2 h3)⟩
theorem blk_cut (s:Value) (k:Nat):blkOf (cutS s k)=blkOf s:=by
 cases s with
 | slice a n c=>cases a <;> rfl
 | _=>rfl
theorem EnvS.cut {h:AH} {ke:Nat} {t:Tri} {e f:Env} {o:Lang.Out} (S:EnvS h ke t (e++f) o) :
  sliceV Tryz.prog h 42 t.n none (some (.int .i64 (e.length:Nat)))=some (cutS t.n e.length)∧(∀ h',EnvS h' ke t (e++f) o→sliceV Tryz.prog h' 76 t.v none (some (.int .i64 (e.length:Nat)))=some (cutS t.v e.length)) ∧
  (∀ g,sliceV Tryz.prog (h.put ke g) 76 t.v none (some (.int .i64 (e.length:Nat)))=some (cutS t.v e.length)) ∧
  (∀ h':AH,h'.get ke=some (.cells #[cutS t.n e.length,cutS t.v e.length,t.o] 78 (0,0),none)→(∀ k,k ≠ ke→h'.get k=h.get k)→h'.size=h.size→EnvS h' ke ⟨cutS t.n e.length,cutS t.v e.length,t.o⟩ e o)∧∀ k,(⟨cutS t.n e.length,cutS t.v e.length,t.o⟩:Tri).has k→t.has k:=by
 obtain ⟨d1,hd1,hds1⟩:∃ d,(Tryz.prog).info? 9=some d∧d.size=1:=⟨_,rfl,by kernel_rfl⟩
 obtain ⟨d2,hd2,hds2⟩:∃ d,(Tryz.prog).info? 68=some d∧d.size=3:=⟨_,rfl,by kernel_rfl⟩
 have c1:=S.names.cutV (P:=Tryz.prog) (t:=42) (el:=9) (by kernel_rfl) hd1 hds1 (nmL_size _) (k:=e.length) (by unfold nmL;simp)
 have cv:∀ h',EnvS h' ke t (e++f) o→sliceV Tryz.prog h' 76 t.v none (some (.int .i64 (e.length:Nat)))=some (cutS t.v e.length):=fun h' S'=>by
  obtain ⟨vs,B,R⟩:=S'.vals
  have hl:=R.len
  exact (B.cutV (P:=Tryz.prog) (t:=76) (el:=68) (by kernel_rfl) hd2 hds2 R.size (k:=e.length) (by rw [hl];simp)).1
 have hh:∀ k,(⟨cutS t.n e.length,cutS t.v e.length,t.o⟩:Tri).has k→t.has k:=fun k hk=>by
  unfold Tri.has at hk ⊢
  simp only [blk_cut] at hk
  exact hk
 have hne:∀ g k,t.has k→(h.put ke g).get k=h.get k:=fun g k hk=>get_put_ne fun e=>S.ne (e ▸ hk)
 obtain ⟨vs,B,R⟩:=S.vals
 have hl:=R.len
 have c2:=B.cutV (P:=Tryz.prog) (t:=76) (el:=68) (by kernel_rfl) hd2 hds2 R.size (k:=e.length) (by rw [hl];simp)
 refine ⟨c1.1,cv,fun g=>?_,fun h' hrow hsame hsz=>?_,hh⟩
 ·exact ((B.mono fun k hk=>hne g k (.inr (.inl hk))).cutV (P:=Tryz.prog) (t:=76) (el:=68) (by kernel_rfl) hd2 hds2 R.size (k:=e.length) (by rw [hl];simp)).1
 ·have n1:=c1.2.1
  have e1:(nmL (e++f)).take e.length=nmL e:=by unfold nmL;rw [← List.map_take];simp
  rw [e1] at n1
  have r1:=R.take e.length
  have e2:(e++f).take e.length=e:=by simp
  rw [e2] at r1
  have hne':∀ k,t.has k→h'.get k=h.get k:=fun k hk=>hsame k fun e=>S.ne (e ▸ hk)
  exact ⟨hrow,n1.mono fun k hk=>hne' k (.inl (by rw [blk_cut] at hk;exact hk)),⟨_,c2.2.1.mono fun k hk=>hne' k (.inr (.inl (by rw [blk_cut] at hk;exact hk))),r1⟩,S.out.mono fun k hk=>hne' k (.inr (.inr hk)),fun hk=>S.ne (hh _ hk),fun k h1 h2=>S.d1 k (by rwa [blk_cut] at h1) (by rwa [blk_cut] at h2),fun k h1 h2=>S.d2 k (by rwa [blk_cut] at h1) h2,fun k h1 h2=>S.d3 k (by rwa [blk_cut] at h1) h2,by rw [hsz];exact S.lt,fun k hk=>by rw [hsz];exact S.lts k (hh k hk)⟩
end Go.Proofs.YtibigfkeaemanaaGreatDoor.L
end
section
namespace Go.Proofs.YtibigfkeaemanaaGreatDoor.X
open Go.Ab
set_option maxRecDepth 100000
noncomputable def code33:Code:=match Tryz.f33.body with | some c=>c | none=>.skip
noncomputable def res33:List ResultVar:=Tryz.f33.results.toList
def L33:Nat→Option (List Nat):=fun r=>if r=2 then some [0,4,12,13,14] else none
noncomputable def H33_2 (t0 t4 t12 t13 t14:Value) (h:AH) (Q:RQ):Prop:=HL Tryz.prog (cAt code33 [.r,.l,.r,.i,.i]) (mkA 40 [(0,t0),(4,t4),(12,t12),(13,t13),(14,t14)]) h (ctxAt Tryz.prog L33 code33 [.r,.l,.r,.i] (retK Tryz.prog res33 Q))
noncomputable def X33_2 (t0 t4 t12 t13 t14:Value) (h:AH) (Q:RQ):Prop :=
 bq (binV Tryz.prog .lss 3 (.tmp 14) (.tmp 13) t14 t13 h) fun t15 =>
 condP (some t15)
 (bq (ia 14 t12 t14) fun t16 =>
 bq (ldN 14 h t16) fun t17 =>
 (fun t6 h =>
 bq (stN 14 h t6 t17) fun h=>(fun _ h =>
 let t18:Value:=t0
 bq (ldN 14 h t6) fun t19 =>
 HC Tryz.prog 50 (([]:List Value)++[t18,t19]++([]:List Value)).toArray h (resK (fun t20 h =>
 bq (binV Tryz.prog .add 3 (.tmp 14) (.const (Value.int .i64 1)) t14 (Value.int .i64 1) h) fun t21 =>
 let t14:Value:=t21
 H33_2 t0 t4 t12 t13 t14 h Q) (fun v h=>Q (.pan v) h))) undef h) (opNew h 104 #[(Value.string (ByteArray.mk #[])),(Value.string (ByteArray.mk #[])),(Value.string (ByteArray.mk #[])),(Value.int .i64 0),(Value.int .i64 0),(Value.string (ByteArray.mk #[])),(Value.slice none 0 0),(Value.string (ByteArray.mk #[])),(Value.int .i64 0),(Value.int .i64 0),(Value.string (ByteArray.mk #[])),(Value.slice none 0 0),(Value.slice none 0 0),(Value.slice none 0 0)]).1 (opNew h 104 #[(Value.string (ByteArray.mk #[])),(Value.string (ByteArray.mk #[])),(Value.string (ByteArray.mk #[])),(Value.int .i64 0),(Value.int .i64 0),(Value.string (ByteArray.mk #[])),(Value.slice none 0 0),(Value.string (ByteArray.mk #[])),(Value.int .i64 0),(Value.int .i64 0),(Value.string (ByteArray.mk #[])),(Value.slice none 0 0),(Value.slice none 0 0),(Value.slice none 0 0)]).2)
 (let t22:Value:=t0
 let t23:Value:=t0
 let t24:Value:=t0
 bq (nilV Tryz.prog t24) fun t25 =>
 bq (fa 0 1 t25) fun t26 =>
 bq (ld1 h t26) fun t27 =>
 let t28:Value:=t4
 bq (sliceV Tryz.prog h 42 t27 none (some t28)) fun t29 =>
 let t30:Value:=t0
 bq (nilV Tryz.prog t30) fun t31 =>
 bq (fa 1 1 t31) fun t32 =>
 bq (ld1 h t32) fun t33 =>
 let t34:Value:=t4
 bq (sliceV Tryz.prog h 76 t33 none (some t34)) fun t35 =>
 bq (nilV Tryz.prog t22) fun t36 =>
 bq (fa 0 1 t36) fun t37 =>
 bq (stN 1 h t37 t29) fun h=>(fun q6_16 h =>
 ((bq (sliceV Tryz.prog h 76 t33 none (some t34)) fun u=>(u=t35))∧(True)) ∧
 bq (nilV Tryz.prog t23) fun t38 =>
 bq (fa 1 1 t38) fun t39 =>
 bq (stN 1 h t39 t35) fun h=>(fun q6_19 h =>
 (True) ∧
 Q (.ret (.tuple [].toArray)) h) undef h) undef h)
theorem X33_2_eq (t0 t4 t12 t13 t14:Value) (h:AH) (Q:RQ):X33_2 t0 t4 t12 t13 t14 h Q=wpC Tryz.prog L33 (cAt code33 [.r,.l,.r,.i,.i]) (mkA 40 [(0,t0),(4,t4),(12,t12),(13,t13),(14,t14)]) h (ctxAt Tryz.prog L33 code33 [.r,.l,.r,.i,.i] (retK Tryz.prog res33 Q)):=by kernel_rfl
theorem X33_2_ok {t0 t4 t12 t13 t14:Value} {h:AH} {Q:RQ} (H:X33_2 t0 t4 t12 t13 t14 h Q):H33_2 t0 t4 t12 t13 t14 h Q:=HL.step (L:=L33) ((X33_2_eq t0 t4 t12 t13 t14 h Q).mp H)
noncomputable def X33 (t0 t1:Value) (h:AH) (Q:RQ):Prop :=
 let t7:Value:=t0
 bq (nilV Tryz.prog t7) fun t8 =>
 bq (fa 0 1 t8) fun t9 =>
 bq (ld1 h t9) fun t10 =>
 bq (lenL t10) fun t11 =>
 let t4:Value:=t11
 let t12:Value:=t1
 bq (lenL t12) fun t13 =>
 let t14:Value:=(Value.int .i64 0)
 H33_2 t0 t4 t12 t13 t14 h Q
theorem X33_eq (t0 t1:Value) (h:AH) (Q:RQ):X33 t0 t1 h Q=wpC Tryz.prog L33 code33 (argA [t0,t1] Tryz.f33.ntmps) h (retK Tryz.prog res33 Q):=by kernel_rfl
theorem X33_body:Tryz.f33.body=some code33:=by kernel_rfl
theorem X33_ok {t0 t1:Value} {h:AH} {Q:RQ} (H:X33 t0 t1 h Q):HC Tryz.prog 33 [t0,t1].toArray h Q:=HC.body Tryz.func33 X33_body ((X33_eq t0 t1 h Q).mp H)
noncomputable def code65:Code:=match Tryz.f65.body with | some c=>c | none=>.skip
noncomputable def res65:List ResultVar:=Tryz.f65.results.toList
def L65:Nat→Option (List Nat):=fun r=>if r=1 then some [0,1,2,6] else if r=6 then some [0,1,2,6,7] else none
noncomputable def H65_1 (t0 t1 t2 t6:Value) (h:AH) (Q:RQ):Prop:=HL Tryz.prog (cAt code65 [.r,.i,.i]) (mkA 34 [(0,t0),(1,t1),(2,t2),(6,t6)]) h (ctxAt Tryz.prog L65 code65 [.r,.i] (retK Tryz.prog res65 Q))
noncomputable def J65_6 (t0 t1 t2 t6 t7:Value) (h:AH) (Q:RQ):Prop:=wpC Tryz.prog L65 (cAt code65 [.r,.i,.i,.r,.l,.i,.r,.r]) (mkA 34 [(0,t0),(1,t1),(2,t2),(6,t6),(7,t7)]) h (ctxAt Tryz.prog L65 code65 [.r,.i,.i,.r,.l,.i,.r,.r] (retK Tryz.prog res65 Q))
noncomputable def K65_6 (t0 t1 t2 t6 t7:Value) (h:AH) (Q:RQ):Prop:=(ctxAt Tryz.prog L65 code65 [.r,.i,.i,.r,.l,.i,.r,.l] (retK Tryz.prog res65 Q)) .normal (mkA 34 [(0,t0),(1,t1),(2,t2),(6,t6),(7,t7)]) h
theorem K65_6_eq (t0 t1 t2 t6 t7:Value) (h:AH) (Q:RQ):J65_6 t0 t1 t2 t6 t7 h Q=K65_6 t0 t1 t2 t6 t7 h Q:=join_eq (p:=[.r,.i,.i,.r,.l,.i,.r]) (code:=code65) (by kernel_rfl) (by kernel_rfl)
noncomputable def X65_6 (t0 t1 t2 t6 t7:Value) (h:AH) (Q:RQ):Prop :=
 let t17:Value:=t7
 bq (binV Tryz.prog .lss 3 (.tmp 17) (.const (Value.int .i64 0)) t17 (Value.int .i64 0) h) fun t18 =>
 condP (some t18)
 (let t19:Value:=t2
 let t20:Value:=t0
 callP Tryz.prog t19 [t20] h (fun t21 h =>
 Q (.ret (.tuple [].toArray)) h) (fun v h=>Q (.pan v) h))
 (let t22:Value:=t2
 let t23:Value:=t0
 let t24:Value:=t7
 bq (sliceV Tryz.prog h 9 t23 none (some t24)) fun t25 =>
 callP Tryz.prog t22 [t25] h (fun t26 h =>
 bq (unV Tryz.prog .not t26) fun t27 =>
 condP (some t27)
 (Q (.ret (.tuple [].toArray)) h)
 (let t28:Value:=t0
 let t29:Value:=t7
 let t30:Value:=t1
 bq (lenS t30) fun t31 =>
 bq (binV Tryz.prog .add 3 (.tmp 29) (.tmp 31) t29 t31 h) fun t32 =>
 bq (sliceV Tryz.prog h 9 t28 (some t32) none) fun t33 =>
 let t0:Value:=t33
 let t10:Value:=t6
 bq (binV Tryz.prog .add 3 (.tmp 10) (.const (Value.int .i64 1)) t10 (Value.int .i64 1) h) fun t11 =>
 let t6:Value:=t11
 H65_1 t0 t1 t2 t6 h Q)) (fun v h=>Q (.pan v) h))
theorem X65_6_eq (t0 t1 t2 t6 t7:Value) (h:AH) (Q:RQ):X65_6 t0 t1 t2 t6 t7 h Q=wpC Tryz.prog L65 (cAt code65 [.r,.i,.i,.r,.l,.i,.r,.r]) (mkA 34 [(0,t0),(1,t1),(2,t2),(6,t6),(7,t7)]) h (ctxAt Tryz.prog L65 code65 [.r,.i,.i,.r,.l,.i,.r,.r] (retK Tryz.prog res65 Q)):=by kernel_rfl
theorem X65_6_ok {t0 t1 t2 t6 t7:Value} {h:AH} {Q:RQ} (H:X65_6 t0 t1 t2 t6 t7 h Q):K65_6 t0 t1 t2 t6 t7 h Q:=(K65_6_eq t0 t1 t2 t6 t7 h Q).mp (((X65_6_eq t0 t1 t2 t6 t7 h Q).mp H))
noncomputable def X65_1 (t0 t1 t2 t6:Value) (h:AH) (Q:RQ):Prop :=
 let t8:Value:=t6
 bq (binV Tryz.prog .lss 3 (.tmp 8) (.const (Value.int .i64 256)) t8 (Value.int .i64 256) h) fun t9 =>
 condP (some t9)
 (let t7:Value:=(Value.int .i64 (-1))
 let t12:Value:=t1
 bq (binV Tryz.prog .neq 9 (.tmp 12) (.const (Value.string (ByteArray.mk #[]))) t12 (Value.string (ByteArray.mk #[])) h) fun t13 =>
 condP (some t13)
 (let t14:Value:=t0
 let t15:Value:=t1
 HC Tryz.prog 79 (([]:List Value)++[t14,t15]++([]:List Value)).toArray h (resK (fun t16 h =>
 let t7:Value:=t16
 K65_6 t0 t1 t2 t6 t7 h Q) (fun v h=>Q (.pan v) h)))
 (K65_6 t0 t1 t2 t6 t7 h Q))
 (Q (.ret (.tuple [].toArray)) h)
theorem X65_1_eq (t0 t1 t2 t6:Value) (h:AH) (Q:RQ):X65_1 t0 t1 t2 t6 h Q=wpC Tryz.prog L65 (cAt code65 [.r,.i,.i]) (mkA 34 [(0,t0),(1,t1),(2,t2),(6,t6)]) h (ctxAt Tryz.prog L65 code65 [.r,.i,.i] (retK Tryz.prog res65 Q)):=by kernel_rfl
theorem X65_1_ok {t0 t1 t2 t6:Value} {h:AH} {Q:RQ} (H:X65_1 t0 t1 t2 t6 h Q):H65_1 t0 t1 t2 t6 h Q:=HL.step (L:=L65) ((X65_1_eq t0 t1 t2 t6 h Q).mp H)
noncomputable def X65 (t0 t1 t2:Value) (h:AH) (Q:RQ):Prop :=
 let t6:Value:=(Value.int .i64 0)
 H65_1 t0 t1 t2 t6 h Q
theorem X65_eq (t0 t1 t2:Value) (h:AH) (Q:RQ):X65 t0 t1 t2 h Q=wpC Tryz.prog L65 code65 (argA [t0,t1,t2] Tryz.f65.ntmps) h (retK Tryz.prog res65 Q):=by kernel_rfl
theorem X65_body:Tryz.f65.body=some code65:=by kernel_rfl
theorem X65_ok {t0 t1 t2:Value} {h:AH} {Q:RQ} (H:X65 t0 t1 t2 h Q):HC Tryz.prog 65 [t0,t1,t2].toArray h Q:=HC.body Tryz.func65 X65_body ((X65_eq t0 t1 t2 h Q).mp H)
noncomputable def code50:Code:=match Tryz.f50.body with | some c=>c | none=>.skip
noncomputable def res50:List ResultVar:=Tryz.f50.results.toList
def L50:Nat→Option (List Nat):=fun r=>if r=15 then some [2,3] else if r=19 then some [2,3,100,101,102] else none
noncomputable def H50_19 (t2 t3 t100 t101 t102:Value) (h:AH) (Q:RQ):Prop:=HL Tryz.prog (cAt code50 (.r::.r::.r::Dir.i::.r::.r::.r::.r::.r::.r::.r::.r::.r::Dir.l::.r::Dir.i::Dir.i::[])) (mkA 114 [(2,t2),(3,t3),(100,t100),(101,t101),(102,t102)]) h (ctxAt Tryz.prog L50 code50 (.r::.r::.r::Dir.i::.r::.r::.r::.r::.r::.r::.r::.r::.r::Dir.l::.r::Dir.i::[]) (retK Tryz.prog res50 Q))
noncomputable def rec50_15 (t2 t3:Value):Loop:=recOf (mkA 114 [(2,t2),(3,t3)]) (rps (cAt code50 [.r,.r,.r,.i,.r,.r,.r,.r,.r,.r,.r,.l,.r,.r,.i])) (rasg (cAt code50 [.r,.r,.r,.i,.r,.r,.r,.r,.r,.r,.r,.l,.r,.r,.i])) (rbody (cAt code50 [.r,.r,.r,.i,.r,.r,.r,.r,.r,.r,.r,.l,.r,.r,.i]))
noncomputable def X50_19 (t2 t3 t100 t101 t102:Value) (h:AH) (Q:RQ):Prop :=
 bq (binV Tryz.prog .lss 3 (.tmp 102) (.tmp 101) t102 t101 h) fun t103 =>
 condP (some t103)
 (bq (ia 1 t100 t102) fun t104 =>
 bq (ld1 h t104) fun t105 =>
 let t8:Value:=t105
 bq (ld1 h t2) fun t106 =>
 bq (fa 1 1 t3) fun t107 =>
 bq (ld1 h t107) fun t108 =>
 let t109:Value:=t8
 bq (bd #[(Value.int .i64 0),(Value.string (ByteArray.mk #[])),(Value.slice none 0 0)] [(1,1,t109)]) fun t110 =>
 let t111:Value:=(Value.func (.func 68) [].toArray [t2,t3].toArray)
 HC Tryz.prog 66 (([]:List Value)++[t106,t108,t110,t111]++([]:List Value)).toArray h (resK (fun t112 h =>
 bq (binV Tryz.prog .add 3 (.tmp 102) (.const (Value.int .i64 1)) t102 (Value.int .i64 1) h) fun t113 =>
 let t102:Value:=t113
 H50_19 t2 t3 t100 t101 t102 h Q) (fun v h=>Q (.pan v) h)))
 (Q (.ret (.tuple [].toArray)) h)
theorem X50_19_eq (t2 t3 t100 t101 t102:Value) (h:AH) (Q:RQ):X50_19 t2 t3 t100 t101 t102 h Q=wpC Tryz.prog L50 (cAt code50 (.r::.r::.r::Dir.i::.r::.r::.r::.r::.r::.r::.r::.r::.r::Dir.l::.r::Dir.i::Dir.i::[])) (mkA 114 [(2,t2),(3,t3),(100,t100),(101,t101),(102,t102)]) h (ctxAt Tryz.prog L50 code50 (.r::.r::.r::Dir.i::.r::.r::.r::.r::.r::.r::.r::.r::.r::Dir.l::.r::Dir.i::Dir.i::[]) (retK Tryz.prog res50 Q)):=by kernel_rfl
theorem X50_19_ok {t2 t3 t100 t101 t102:Value} {h:AH} {Q:RQ} (H:X50_19 t2 t3 t100 t101 t102 h Q):H50_19 t2 t3 t100 t101 t102 h Q:=HL.step (L:=L50) ((X50_19_eq t2 t3 t100 t101 t102 h Q).mp H)
noncomputable def X50 (t0 t1:Value) (h:AH) (Q:RQ):Prop :=
 (fun t2 h =>
 (fun t3 h =>
 bq (ld1 h t2) fun t9 =>
 bq (fa 2 5 t3) fun t10 =>
 bq (ldN 5 h t10) fun t11 =>
 HC Tryz.prog 23 (([]:List Value)++[t9,t11]++([]:List Value)).toArray h (resK (fun t12 h =>
 (fun t4 h =>
 bq (stN 3 h t4 t12) fun h=>(fun _ h =>
 bq (fa 0 1 t3) fun t13 =>
 bq (ld1 h t13) fun t14 =>
 bq (binV Tryz.prog .eql 9 (.tmp 14) (.const (Value.string (ByteArray.mk #[101,109,105,116]))) t14 (Value.string (ByteArray.mk #[101,109,105,116])) h) fun t16 =>
 let t15:Value:=t16
 condP (some t15)
 (bq (ld1 h t2) fun t17 =>
 bq (nilV Tryz.prog t17) fun t18 =>
 bq (fa 2 1 t18) fun t19 =>
 bq (ld1 h t19) fun t20 =>
 bq (lenL t20) fun t21 =>
 bq (binV Tryz.prog .lss 3 (.tmp 21) (.const (Value.int .i64 1024)) t21 (Value.int .i64 1024) h) fun t22 =>
 condP (some t22)
 (bq (ld1 h t2) fun t23 =>
 bq (ld1 h t2) fun t24 =>
 bq (nilV Tryz.prog t24) fun t25 =>
 bq (fa 2 1 t25) fun t26 =>
 bq (ld1 h t26) fun t27 =>
 bq (fa 1 1 t4) fun t28 =>
 bq (ld1 h t28) fun t29 =>
 bq (ld1 h t2) fun t30 =>
 bq (fa 7 5 t3) fun t31 =>
 bq (ldN 5 h t31) fun t32 =>
 HC Tryz.prog 23 (([]:List Value)++[t30,t32]++([]:List Value)).toArray h (resK (fun t33 h =>
 ((bq (ld1 h t28) fun u=>(u=t29))∧((bq (ld1 h t26) fun u=>(u=t27))∧((bq (ld1 h t2) fun u=>(u=t24))∧((bq (ld1 h t2) fun u=>(u=t23))∧(True))))) ∧
 bq (fd1 1 t33) fun t34 =>
 bq (bd #[(Value.string (ByteArray.mk #[])),(Value.string (ByteArray.mk #[]))] [(0,1,t29),(1,1,t34)]) fun t35 =>
 bq (bs 40 #[(Value.string (ByteArray.mk #[])),(Value.string (ByteArray.mk #[]))] 1 h [(0,2,t35)]) fun r=>(fun t36 h =>
 ((bq (ld1 h t26) fun u=>(u=t27))∧((bq (ld1 h t2) fun u=>(u=t24))∧((bq (ld1 h t2) fun u=>(u=t23))∧(True)))) ∧
 bq (apT 40 2 32 (some (Value.agg #[(Value.string (ByteArray.mk #[])),(Value.string (ByteArray.mk #[]))])) h t27 t36) fun r=>(fun t37 h =>
 ((bq (ld1 h t2) fun u=>(u=t23))∧(True)) ∧
 bq (nilV Tryz.prog t23) fun t38 =>
 bq (fa 2 1 t38) fun t39 =>
 bq (stN 1 h t39 t37) fun h=>(fun q5_17 h =>
 (True) ∧
 Q (.ret (.tuple [].toArray)) h) undef h) r.1 r.2) r.1 r.2) (fun v h=>Q (.pan v) h)))
 (Q (.ret (.tuple [].toArray)) h))
 (bq (binV Tryz.prog .eql 9 (.tmp 14) (.const (Value.string (ByteArray.mk #[108,101,116]))) t14 (Value.string (ByteArray.mk #[108,101,116])) h) fun t41 =>
 let t40:Value:=t41
 condP (some t40)
 (((bq (ld1 h t2) fun t42 =>
 bq (ld1 h t2) fun t43 =>
 bq (ld1 h t2) fun t44 =>
 bq (nilV Tryz.prog t44) fun t45 =>
 bq (fa 0 1 t45) fun t46 =>
 bq (ld1 h t46) fun t47 =>
 bq (fa 1 1 t3) fun t48 =>
 bq (ld1 h t48) fun t49 =>
 bq (ld1 h t2) fun t52 =>
 bq (nilV Tryz.prog t52) fun t53 =>
 bq (fa 1 1 t53) fun t54 =>
 bq (ld1 h t54) fun t55 =>
 bq (ldN 3 h t4) fun t56 =>
 bq (bs 9 #[(Value.string (ByteArray.mk #[]))] 1 h [(0,1,t49)]) fun r=>(fun t50 h =>
 ((bq (ldN 3 h t4) fun u=>(u=t56))∧((bq (ld1 h t54) fun u=>(u=t55))∧((bq (ld1 h t2) fun u=>(u=t52))∧((bq (ld1 h t46) fun u=>(u=t47))∧((bq (ld1 h t2) fun u=>(u=t44))∧((bq (ld1 h t2) fun u=>(u=t43))∧((bq (ld1 h t2) fun u=>(u=t42))∧(True)))))))) ∧
 bq (apT 9 1 16 (some (Value.string (ByteArray.mk #[]))) h t47 t50) fun r=>(fun t51 h =>
 ((bq (ldN 3 h t4) fun u=>(u=t56))∧((bq (ld1 h t54) fun u=>(u=t55))∧((bq (ld1 h t2) fun u=>(u=t52))∧((bq (ld1 h t2) fun u=>(u=t43))∧((bq (ld1 h t2) fun u=>(u=t42))∧(True)))))) ∧
 bq (bs 68 #[(Value.int .i64 0),(Value.string (ByteArray.mk #[])),(Value.slice none 0 0)] 1 h [(0,3,t56)]) fun r=>(fun t57 h =>
 ((bq (ld1 h t54) fun u=>(u=t55))∧((bq (ld1 h t2) fun u=>(u=t52))∧((bq (ld1 h t2) fun u=>(u=t43))∧((bq (ld1 h t2) fun u=>(u=t42))∧(True))))) ∧
 bq (apT 68 3 48 (some (Value.agg #[(Value.int .i64 0),(Value.string (ByteArray.mk #[])),(Value.slice none 0 0)])) h t55 t57) fun r=>(fun t58 h =>
 ((bq (ld1 h t2) fun u=>(u=t43))∧((bq (ld1 h t2) fun u=>(u=t42))∧(True))) ∧
 bq (nilV Tryz.prog t42) fun t59 =>
 bq (fa 0 1 t59) fun t60 =>
 bq (stN 1 h t60 t51) fun h=>(fun q7_19 h =>
 ((bq (ld1 h t2) fun u=>(u=t43))∧(True)) ∧
 bq (nilV Tryz.prog t43) fun t61 =>
 bq (fa 1 1 t61) fun t62 =>
 bq (stN 1 h t62 t58) fun h=>(fun q7_22 h =>
 (True) ∧
 Q (.ret (.tuple [].toArray)) h) undef h) undef h) r.1 r.2) r.1 r.2) r.1 r.2) r.1 r.2) ∧
 (bq (ld1 h t2) fun t42 =>
 bq (ld1 h t2) fun t43 =>
 bq (ld1 h t2) fun t44 =>
 bq (nilV Tryz.prog t44) fun t45 =>
 bq (fa 0 1 t45) fun t46 =>
 bq (ld1 h t46) fun t47 =>
 bq (fa 1 1 t3) fun t48 =>
 bq (ld1 h t48) fun t49 =>
 bq (ld1 h t2) fun t52 =>
 bq (nilV Tryz.prog t52) fun t53 =>
 bq (fa 1 1 t53) fun t54 =>
 bq (ld1 h t54) fun t55 =>
 bq (ldN 3 h t4) fun t56 =>
 bq (bs 9 #[(Value.string (ByteArray.mk #[]))] 1 h [(0,1,t49)]) fun r=>(fun t50 h =>
 ((bq (ldN 3 h t4) fun u=>(u=t56))∧((bq (ld1 h t54) fun u=>(u=t55))∧((bq (ld1 h t2) fun u=>(u=t52))∧((bq (ld1 h t46) fun u=>(u=t47))∧((bq (ld1 h t2) fun u=>(u=t44))∧((bq (ld1 h t2) fun u=>(u=t43))∧((bq (ld1 h t2) fun u=>(u=t42))∧(True)))))))) ∧
 bq (bs 68 #[(Value.int .i64 0),(Value.string (ByteArray.mk #[])),(Value.slice none 0 0)] 1 h [(0,3,t56)]) fun r=>(fun t57 h =>
 ((bq (ld1 h t54) fun u=>(u=t55))∧((bq (ld1 h t2) fun u=>(u=t52))∧((bq (ld1 h t46) fun u=>(u=t47))∧((bq (ld1 h t2) fun u=>(u=t44))∧((bq (ld1 h t2) fun u=>(u=t43))∧((bq (ld1 h t2) fun u=>(u=t42))∧(True))))))) ∧
 bq (apT 9 1 16 (some (Value.string (ByteArray.mk #[]))) h t47 t50) fun r=>(fun t51 h =>
 ((bq (ld1 h t54) fun u=>(u=t55))∧((bq (ld1 h t2) fun u=>(u=t52))∧((bq (ld1 h t2) fun u=>(u=t43))∧((bq (ld1 h t2) fun u=>(u=t42))∧(True))))) ∧
 bq (apT 68 3 48 (some (Value.agg #[(Value.int .i64 0),(Value.string (ByteArray.mk #[])),(Value.slice none 0 0)])) h t55 t57) fun r=>(fun t58 h =>
 ((bq (ld1 h t2) fun u=>(u=t43))∧((bq (ld1 h t2) fun u=>(u=t42))∧(True))) ∧
 bq (nilV Tryz.prog t42) fun t59 =>
 bq (fa 0 1 t59) fun t60 =>
 bq (stN 1 h t60 t51) fun h=>(fun q7_19 h =>
 ((bq (ld1 h t2) fun u=>(u=t43))∧(True)) ∧
 bq (nilV Tryz.prog t43) fun t61 =>
 bq (fa 1 1 t61) fun t62 =>
 bq (stN 1 h t62 t58) fun h=>(fun q7_22 h =>
 (True) ∧
 Q (.ret (.tuple [].toArray)) h) undef h) undef h) r.1 r.2) r.1 r.2) r.1 r.2) r.1 r.2)) ∧
 (bq (ld1 h t2) fun t42 =>
 bq (ld1 h t2) fun t43 =>
 bq (ld1 h t2) fun t44 =>
 bq (nilV Tryz.prog t44) fun t45 =>
 bq (fa 0 1 t45) fun t46 =>
 bq (ld1 h t46) fun t47 =>
 bq (fa 1 1 t3) fun t48 =>
 bq (ld1 h t48) fun t49 =>
 bq (ld1 h t2) fun t52 =>
 bq (nilV Tryz.prog t52) fun t53 =>
 bq (fa 1 1 t53) fun t54 =>
 bq (ld1 h t54) fun t55 =>
 bq (ldN 3 h t4) fun t56 =>
 bq (bs 68 #[(Value.int .i64 0),(Value.string (ByteArray.mk #[])),(Value.slice none 0 0)] 1 h [(0,3,t56)]) fun r=>(fun t57 h =>
 ((bq (ld1 h t54) fun u=>(u=t55))∧((bq (ld1 h t2) fun u=>(u=t52))∧((bq (ld1 h t48) fun u=>(u=t49))∧((bq (ld1 h t46) fun u=>(u=t47))∧((bq (ld1 h t2) fun u=>(u=t44))∧((bq (ld1 h t2) fun u=>(u=t43))∧((bq (ld1 h t2) fun u=>(u=t42))∧(True)))))))) ∧
 bq (bs 9 #[(Value.string (ByteArray.mk #[]))] 1 h [(0,1,t49)]) fun r=>(fun t50 h =>
 ((bq (ld1 h t54) fun u=>(u=t55))∧((bq (ld1 h t2) fun u=>(u=t52))∧((bq (ld1 h t46) fun u=>(u=t47))∧((bq (ld1 h t2) fun u=>(u=t44))∧((bq (ld1 h t2) fun u=>(u=t43))∧((bq (ld1 h t2) fun u=>(u=t42))∧(True))))))) ∧
 bq (apT 9 1 16 (some (Value.string (ByteArray.mk #[]))) h t47 t50) fun r=>(fun t51 h =>
 ((bq (ld1 h t54) fun u=>(u=t55))∧((bq (ld1 h t2) fun u=>(u=t52))∧((bq (ld1 h t2) fun u=>(u=t43))∧((bq (ld1 h t2) fun u=>(u=t42))∧(True))))) ∧
 bq (apT 68 3 48 (some (Value.agg #[(Value.int .i64 0),(Value.string (ByteArray.mk #[])),(Value.slice none 0 0)])) h t55 t57) fun r=>(fun t58 h =>
 ((bq (ld1 h t2) fun u=>(u=t43))∧((bq (ld1 h t2) fun u=>(u=t42))∧(True))) ∧
 bq (nilV Tryz.prog t42) fun t59 =>
 bq (fa 0 1 t59) fun t60 =>
 bq (stN 1 h t60 t51) fun h=>(fun q7_19 h =>
 ((bq (ld1 h t2) fun u=>(u=t43))∧(True)) ∧
 bq (nilV Tryz.prog t43) fun t61 =>
 bq (fa 1 1 t61) fun t62 =>
 bq (stN 1 h t62 t58) fun h=>(fun q7_22 h =>
 (True) ∧
 Q (.ret (.tuple [].toArray)) h) undef h) undef h) r.1 r.2) r.1 r.2) r.1 r.2) r.1 r.2))
 (bq (binV Tryz.prog .eql 9 (.tmp 14) (.const (Value.string (ByteArray.mk #[105,102]))) t14 (Value.string (ByteArray.mk #[105,102])) h) fun t64 =>
 let t63:Value:=t64
 condP (some t63)
 (bq (fa 0 1 t4) fun t65 =>
 bq (ld1 h t65) fun t66 =>
 bq (binV Tryz.prog .neq 3 (.tmp 66) (.const (Value.int .i64 0)) t66 (Value.int .i64 0) h) fun t67 =>
 condP (some t67)
 (bq (ld1 h t2) fun t68 =>
 bq (fa 12 1 t3) fun t69 =>
 bq (ld1 h t69) fun t70 =>
 HC Tryz.prog 33 (([]:List Value)++[t68,t70]++([]:List Value)).toArray h (resK (fun t71 h =>
 Q (.ret (.tuple [].toArray)) h) (fun v h=>Q (.pan v) h)))
 (bq (ld1 h t2) fun t72 =>
 bq (fa 13 1 t3) fun t73 =>
 bq (ld1 h t73) fun t74 =>
 HC Tryz.prog 33 (([]:List Value)++[t72,t74]++([]:List Value)).toArray h (resK (fun t75 h =>
 Q (.ret (.tuple [].toArray)) h) (fun v h=>Q (.pan v) h))))
 (bq (binV Tryz.prog .eql 9 (.tmp 14) (.const (Value.string (ByteArray.mk #[101,97,99,104]))) t14 (Value.string (ByteArray.mk #[101,97,99,104])) h) fun t77 =>
 let t76:Value:=t77
 condP (some t76)
 (bq (ld1 h t2) fun t78 =>
 bq (fa 7 5 t3) fun t79 =>
 bq (ldN 5 h t79) fun t80 =>
 HC Tryz.prog 23 (([]:List Value)++[t78,t80]++([]:List Value)).toArray h (resK (fun t81 h =>
 bq (fd1 1 t81) fun t82 =>
 (fun t5 h =>
 bq (stN 1 h t5 t82) fun h=>(fun _ h =>
 let t83:Value:=(Value.func (.func 64) [].toArray [t4,t5].toArray)
 (rndP none h∧rangeQ Tryz.prog t83 (rec50_15 t2 t3) h (fun j h=>jumpX
 (Q (.ret (.tuple [].toArray)) h)
 (Q (.ret (.tuple [].toArray)) h)
 (fun i=>if i=1 then (Q (.ret (.tuple [].toArray)) h) else (if i=0 then (Q (.ret (.tuple [].toArray)) h) else (False)))
 (fun l=>False) j) (fun v h=>Q (.pan v) h))) undef h) (opNew h 9 #[(Value.string (ByteArray.mk #[]))]).1 (opNew h 9 #[(Value.string (ByteArray.mk #[]))]).2) (fun v h=>Q (.pan v) h)))
 (bq (binV Tryz.prog .eql 9 (.tmp 14) (.const (Value.string (ByteArray.mk #[102,111,114]))) t14 (Value.string (ByteArray.mk #[102,111,114])) h) fun t93 =>
 let t92:Value:=t93
 condP (some t92)
 (bq (fa 2 1 t4) fun t94 =>
 bq (ld1 h t94) fun t95 =>
 bq (fa 2 1 t4) fun t96 =>
 bq (ld1 h t96) fun t97 =>
 bq (lenL t97) fun t98 =>
 (if [t98,(Value.int .i64 256)].all (plainN 12) then bq (flatV Tryz.prog (Builtin.min_ #[3,3] 3 [t98,(Value.int .i64 256)].toArray)) fun t99 =>
 bq (sliceV Tryz.prog h 42 t95 none (some t99)) fun t100 =>
 bq (lenL t100) fun t101 =>
 let t102:Value:=(Value.int .i64 0)
 H50_19 t2 t3 t100 t101 t102 h Q else False))
 (Q (.ret (.tuple [].toArray)) h)))))) undef h) (opNew h 68 #[(Value.int .i64 0),(Value.string (ByteArray.mk #[])),(Value.slice none 0 0)]).1 (opNew h 68 #[(Value.int .i64 0),(Value.string (ByteArray.mk #[])),(Value.slice none 0 0)]).2) (fun v h=>Q (.pan v) h))) (opNew h 104 t1.cells).1 (opNew h 104 t1.cells).2) (opNew h 74 t0.cells).1 (opNew h 74 t0.cells).2
theorem X50_eq (t0 t1:Value) (h:AH) (Q:RQ):X50 t0 t1 h Q=wpC Tryz.prog L50 code50 (argA [t0,t1] Tryz.f50.ntmps) h (retK Tryz.prog res50 Q):=by kernel_rfl
theorem X50_body:Tryz.f50.body=some code50:=by kernel_rfl
theorem X50_ok {t0 t1:Value} {h:AH} {Q:RQ} (H:X50 t0 t1 h Q):HC Tryz.prog 50 [t0,t1].toArray h Q:=HC.body Tryz.func50 X50_body ((X50_eq t0 t1 h Q).mp H)
noncomputable def Y50_15 (t2 t3 t84:Value) (k:Nat) (h:AH) (K:Value→AH→Prop):Prop :=
 let t6:Value:=t84
 bq (loopAt h k) fun q=>q.1.state=.ready∧(fun h:AH =>
 bq (ld1 h t2) fun t85 =>
 bq (fa 1 1 t3) fun t86 =>
 bq (ld1 h t86) fun t87 =>
 let t88:Value:=t6
 bq (bd #[(Value.int .i64 0),(Value.string (ByteArray.mk #[])),(Value.slice none 0 0)] [(1,1,t88)]) fun t89 =>
 let t90:Value:=(Value.func (.func 67) [].toArray [t2,t3].toArray)
 HC Tryz.prog 66 (([]:List Value)++[t85,t87,t89,t90]++([]:List Value)).toArray h (resK (fun t91 h =>
 endRd K k none h) (fun _ _=>False))) (h.put k (some (.loop { q.1 with state:=.busy },q.2)))
theorem Y50_15_eq (t2 t3 t84:Value) (k:Nat) (h:AH) (K:Value→AH→Prop) (st:LoopState) (pe:Option Code):Y50_15 t2 t3 t84 k h K=roundW Tryz.prog L50 { (rec50_15 t2 t3) with state:=st,pending:=pe } k [t84] h K:=by kernel_rfl
theorem Y50_15_ok {t2 t3 t84:Value} {k:Nat} {h:AH} {K:Value→AH→Prop} {st:LoopState} {pe:Option Code} {s:Option Nat} (hl:loopAt h k=some ({ (rec50_15 t2 t3) with state:=st,pending:=pe },s)) (H:Y50_15 t2 t3 t84 k h K):roundP Tryz.prog k [t84] h K:=roundP_of hl (by kernel_rfl) ((Y50_15_eq t2 t3 t84 k h K st pe).mp H)
noncomputable def code64:Code:=match Tryz.f64.body with | some c=>c | none=>.skip
noncomputable def res64:List ResultVar:=Tryz.f64.results.toList
def L64:Nat→Option (List Nat):=fun r=>none
noncomputable def X64 (t0 t1 t2:Value) (h:AH) (Q:RQ):Prop :=
 bq (fa 1 1 t1) fun t4 =>
 bq (ld1 h t4) fun t5 =>
 bq (ld1 h t2) fun t6 =>
 let t7:Value:=t0
 HC Tryz.prog 65 (([]:List Value)++[t5,t6,t7]++([]:List Value)).toArray h (resK (fun t8 h =>
 Q (.ret (.tuple [].toArray)) h) (fun v h=>Q (.pan v) h))
theorem X64_eq (t0 t1 t2:Value) (h:AH) (Q:RQ):X64 t0 t1 t2 h Q=wpC Tryz.prog L64 code64 (argA [t0,t1,t2] Tryz.f64.ntmps) h (retK Tryz.prog res64 Q):=by kernel_rfl
theorem X64_body:Tryz.f64.body=some code64:=by kernel_rfl
theorem X64_ok {t0 t1 t2:Value} {h:AH} {Q:RQ} (H:X64 t0 t1 t2 h Q):HC Tryz.prog 64 [t0,t1,t2].toArray h Q:=HC.body Tryz.func64 X64_body ((X64_eq t0 t1 t2 h Q).mp H)
noncomputable def code67:Code:=match Tryz.f67.body with | some c=>c | none=>.skip
noncomputable def res67:List ResultVar:=Tryz.f67.results.toList
def L67:Nat→Option (List Nat):=fun r=>none
noncomputable def X67 (t0 t1:Value) (h:AH) (Q:RQ):Prop :=
 bq (ld1 h t0) fun t2 =>
 bq (fa 12 1 t1) fun t3 =>
 bq (ld1 h t3) fun t4 =>
 HC Tryz.prog 33 (([]:List Value)++[t2,t4]++([]:List Value)).toArray h (resK (fun t5 h =>
 Q (.ret (.tuple [].toArray)) h) (fun v h=>Q (.pan v) h))
theorem X67_eq (t0 t1:Value) (h:AH) (Q:RQ):X67 t0 t1 h Q=wpC Tryz.prog L67 code67 (argA [t0,t1] Tryz.f67.ntmps) h (retK Tryz.prog res67 Q):=by kernel_rfl
theorem X67_body:Tryz.f67.body=some code67:=by kernel_rfl
theorem X67_ok {t0 t1:Value} {h:AH} {Q:RQ} (H:X67 t0 t1 h Q):HC Tryz.prog 67 [t0,t1].toArray h Q:=HC.body Tryz.func67 X67_body ((X67_eq t0 t1 h Q).mp H)
noncomputable def code68:Code:=match Tryz.f68.body with | some c=>c | none=>.skip
noncomputable def res68:List ResultVar:=Tryz.f68.results.toList
def L68:Nat→Option (List Nat):=fun r=>none
noncomputable def X68 (t0 t1:Value) (h:AH) (Q:RQ):Prop :=
 bq (ld1 h t0) fun t2 =>
 bq (fa 12 1 t1) fun t3 =>
 bq (ld1 h t3) fun t4 =>
 HC Tryz.prog 33 (([]:List Value)++[t2,t4]++([]:List Value)).toArray h (resK (fun t5 h =>
 Q (.ret (.tuple [].toArray)) h) (fun v h=>Q (.pan v) h))
theorem X68_eq (t0 t1:Value) (h:AH) (Q:RQ):X68 t0 t1 h Q=wpC Tryz.prog L68 code68 (argA [t0,t1] Tryz.f68.ntmps) h (retK Tryz.prog res68 Q):=by kernel_rfl
theorem X68_body:Tryz.f68.body=some code68:=by kernel_rfl
theorem X68_ok {t0 t1:Value} {h:AH} {Q:RQ} (H:X68 t0 t1 h Q):HC Tryz.prog 68 [t0,t1].toArray h Q:=HC.body Tryz.func68 X68_body ((X68_eq t0 t1 h Q).mp H)
noncomputable def code18:Code:=match Tryz.f18.body with | some c=>c | none=>.skip
noncomputable def res18:List ResultVar:=Tryz.f18.results.toList
def L18:Nat→Option (List Nat):=fun r=>none
noncomputable def X18 (t0 t1 t2:Value) (h:AH) (Q:RQ):Prop :=
 let t6:Value:=(Value.slice none 0 0)
 let t8:Value:=t1
 let t9:Value:=t2
 bq (bd #[(Value.slice none 0 0),(Value.slice none 0 0),(Value.slice none 0 0)] [(0,1,t8),(1,1,t9)]) fun t10 =>
 (fun t11 h =>
 let t7:Value:=t11
 let t12:Value:=t7
 let t13:Value:=t0
 HC Tryz.prog 33 (([]:List Value)++[t12,t13]++([]:List Value)).toArray h (resK (fun t14 h =>
 let t15:Value:=t7
 bq (nilV Tryz.prog t15) fun t16 =>
 bq (fa 2 1 t16) fun t17 =>
 bq (ld1 h t17) fun t18 =>
 let t6:Value:=t18
 Q (.ret t6) h) (fun v h=>Q (.pan v) h))) (opNew h 78 t10.cells).1 (opNew h 78 t10.cells).2
theorem X18_eq (t0 t1 t2:Value) (h:AH) (Q:RQ):X18 t0 t1 t2 h Q=wpC Tryz.prog L18 code18 (argA [t0,t1,t2] Tryz.f18.ntmps) h (retK Tryz.prog res18 Q):=by kernel_rfl
theorem X18_body:Tryz.f18.body=some code18:=by kernel_rfl
theorem X18_ok {t0 t1 t2:Value} {h:AH} {Q:RQ} (H:X18 t0 t1 t2 h Q):HC Tryz.prog 18 [t0,t1,t2].toArray h Q:=HC.body Tryz.func18 X18_body ((X18_eq t0 t1 t2 h Q).mp H)
noncomputable def code8:Code:=match Tryz.f8.body with | some c=>c | none=>.skip
noncomputable def res8:List ResultVar:=Tryz.f8.results.toList
def L8:Nat→Option (List Nat):=fun r=>none
noncomputable def X8 (t0 t1 t2:Value) (h:AH) (Q:RQ):Prop :=
 let t6:Value:=(Value.slice none 0 0)
 let t7:Value:=t0
 bq (binV Tryz.prog .eql 22 (.tmp 7) (.const (Value.pointer none)) t7 (Value.pointer none) h) fun t8 =>
 condP (some t8)
 (let t6:Value:=(Value.slice none 0 0)
 Q (.ret t6) h)
 (let t9:Value:=t0
 bq (nilV Tryz.prog t9) fun t10 =>
 bq (fa 0 1 t10) fun t11 =>
 bq (ld1 h t11) fun t12 =>
 bq (bs 9 #[(Value.string (ByteArray.mk #[])),(Value.string (ByteArray.mk #[]))] 2 h [(0,1,(Value.string (ByteArray.mk #[107,101,121]))),(1,1,(Value.string (ByteArray.mk #[118,97,108,117,101])))]) fun r=>(fun t13 h =>
 let t14:Value:=t1
 bq (bd #[(Value.int .i64 0),(Value.string (ByteArray.mk #[])),(Value.slice none 0 0)] [(1,1,t14)]) fun t15 =>
 let t16:Value:=t2
 bq (bd #[(Value.int .i64 0),(Value.string (ByteArray.mk #[])),(Value.slice none 0 0)] [(1,1,t16)]) fun t17 =>
 bq (bs 68 #[(Value.int .i64 0),(Value.string (ByteArray.mk #[])),(Value.slice none 0 0),(Value.int .i64 0),(Value.string (ByteArray.mk #[])),(Value.slice none 0 0)] 2 h [(0,3,t15),(3,3,t17)]) fun r=>(fun t18 h =>
 HC Tryz.prog 18 (([]:List Value)++[t12,t13,t18]++([]:List Value)).toArray h (resK (fun t19 h =>
 let t6:Value:=t19
 Q (.ret t6) h) (fun v h=>Q (.pan v) h))) r.1 r.2) r.1 r.2)
theorem X8_eq (t0 t1 t2:Value) (h:AH) (Q:RQ):X8 t0 t1 t2 h Q=wpC Tryz.prog L8 code8 (argA [t0,t1,t2] Tryz.f8.ntmps) h (retK Tryz.prog res8 Q):=by kernel_rfl
theorem X8_body:Tryz.f8.body=some code8:=by kernel_rfl
theorem X8_ok {t0 t1 t2:Value} {h:AH} {Q:RQ} (H:X8 t0 t1 t2 h Q):HC Tryz.prog 8 [t0,t1,t2].toArray h Q:=HC.body Tryz.func8 X8_body ((X8_eq t0 t1 t2 h Q).mp H)
noncomputable def code13:Code:=match Tryz.f13.body with | some c=>c | none=>.skip
noncomputable def res13:List ResultVar:=Tryz.f13.results.toList
def L13:Nat→Option (List Nat):=fun r=>none
noncomputable def X13 (t0 t1 t2:Value) (h:AH) (Q:RQ):Prop :=
 let t6:Value:=(Value.slice none 0 0)
 let t7:Value:=t0
 bq (binV Tryz.prog .eql 22 (.tmp 7) (.const (Value.pointer none)) t7 (Value.pointer none) h) fun t8 =>
 condP (some t8)
 (let t6:Value:=(Value.slice none 0 0)
 Q (.ret t6) h)
 (let t9:Value:=t0
 bq (nilV Tryz.prog t9) fun t10 =>
 bq (fa 2 1 t10) fun t11 =>
 bq (ld1 h t11) fun t12 =>
 bq (bs 9 #[(Value.string (ByteArray.mk #[])),(Value.string (ByteArray.mk #[]))] 2 h [(0,1,(Value.string (ByteArray.mk #[107,101,121]))),(1,1,(Value.string (ByteArray.mk #[118,97,108,117,101,115])))]) fun r=>(fun t13 h =>
 let t14:Value:=t1
 bq (bd #[(Value.int .i64 0),(Value.string (ByteArray.mk #[])),(Value.slice none 0 0)] [(1,1,t14)]) fun t15 =>
 let t16:Value:=t2
 bq (bd #[(Value.int .i64 0),(Value.string (ByteArray.mk #[])),(Value.slice none 0 0)] [(2,1,t16)]) fun t17 =>
 bq (bs 68 #[(Value.int .i64 0),(Value.string (ByteArray.mk #[])),(Value.slice none 0 0),(Value.int .i64 0),(Value.string (ByteArray.mk #[])),(Value.slice none 0 0)] 2 h [(0,3,t15),(3,3,t17)]) fun r=>(fun t18 h =>
 HC Tryz.prog 18 (([]:List Value)++[t12,t13,t18]++([]:List Value)).toArray h (resK (fun t19 h =>
 let t6:Value:=t19
 Q (.ret t6) h) (fun v h=>Q (.pan v) h))) r.1 r.2) r.1 r.2)
theorem X13_eq (t0 t1 t2:Value) (h:AH) (Q:RQ):X13 t0 t1 t2 h Q=wpC Tryz.prog L13 code13 (argA [t0,t1,t2] Tryz.f13.ntmps) h (retK Tryz.prog res13 Q):=by kernel_rfl
theorem X13_body:Tryz.f13.body=some code13:=by kernel_rfl
theorem X13_ok {t0 t1 t2:Value} {h:AH} {Q:RQ} (H:X13 t0 t1 t2 h Q):HC Tryz.prog 13 [t0,t1,t2].toArray h Q:=HC.body Tryz.func13 X13_body ((X13_eq t0 t1 t2 h Q).mp H)
end Go.Proofs.YtibigfkeaemanaaGreatDoor.X
end
