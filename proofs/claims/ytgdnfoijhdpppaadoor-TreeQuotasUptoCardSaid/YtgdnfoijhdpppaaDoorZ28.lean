import Derived.Test.YtgdnfoijhdpppaaDoorZ26
import Derived.Test.YtgdnfoijhdpppaaDoorZ27
set_option linter.unusedVariables false
set_option linter.unusedSimpArgs false
section
namespace Go.Proofs.YtgdnfoijhdpppaaDoor.L
open Go.Ab Go.Tr Go.Mh Go.Proofs.YtgdnfoijhdpppaaDoor.X
set_option maxRecDepth 100000
theorem below_entry {n:Nat} (σ:St) (p:Pt):∀ v ∈ (entryV σ p).cells.toList,Below n v:=by
 intro v hv
 unfold entryV at hv
 split at hv
 ·rename_i r _
  cases r with
  | file b sl o hd ps =>
   simp only [entryR,cells_agg,List.mem_cons,List.not_mem_nil,or_false] at hv
   rcases hv with rfl | rfl | rfl | rfl | rfl | rfl
   ·exact .string _
   ·exact .bool _
   ·exact .bool _
   ·exact .int _ _
   ·exact .int _ _
   ·exact below_slV (below_pc ps)
  | dir b m clk q c ks =>
   simp only [entryR,cells_agg,List.mem_cons,List.not_mem_nil,or_false] at hv
   rcases hv with rfl | rfl | rfl | rfl | rfl | rfl <;> first | exact .string _ | exact .bool _ | exact .int _ _ | exact .nilSlice 0 0
 ·simp only [cells_agg,List.mem_cons,List.not_mem_nil,or_false] at hv
  rcases hv with rfl | rfl | rfl | rfl | rfl | rfl <;> first | exact .string _ | exact .bool _ | exact .int _ _ | exact .nilSlice 0 0
theorem entries_ok {h:AH} {lo bt:Nat} {σ:St} {K:List Pt} (t:TreeH h lo bt σ K) (hK:K.length ≤ 1000000000) {Q:Res→AH→Prop}
  (hq:∀ M:List Pt,(∀ x,x ∈ M ↔ (σ x).isSome=true)→M.length ≤ K.length→Q (.ret (slV (M.map (entryV σ)))) h):HC Tryd.prog 9 [ptr bt].toArray h Q:=by
 refine HC.pureF (HC.ghOr (X9_ok ?_))
 unfold X9
 obtain ⟨b,m,clk,q,c,ks,hr⟩:=t.root
 have hb:blkAt σ []=b:=by unfold blkAt;rw [hr];rfl
 have g:=t.tp
 rw [hb] at g
 simp (disch:=(first | omega | (simp only [beq_iff_eq,sz_push,sz_put,SC,Nat.reduceAdd,Nat.reduceLeDiff];done) | (simp only [beq_iff_eq,ne_eq,sz_push,sz_put];omega) | assumption | fail)) only [g,mi_dir,SXB,SX,reduceIte,Int.reduceLT,Int.reduceLE,Int.reduceToNat,Int.reduceBEq,Int.reduceBNe,Nat.reduceAdd,Nat.reduceMul,Nat.reduceSub,Nat.reduceLeDiff]
 have e1:(Value.string ⟨#[47]⟩)=.string (mkB (joinL [])):=rfl
 have e2:Value.iface 51 (ptr b)=ifcR (.dir b m clk q c ks):=rfl
 rw [e1,e2]
 have hfl:=List.length_filter_le (within []) K
 refine gather_all t.tw t.ok t.valid hK ((K.filter (below [])).length + 1) [] _ [] (.slice none 0 0) h (by omega) hr (Kp.refl _ _) .nil (fun v hv=>by cases hv) (fun k hk=>by cases hk) (by simp;omega) fun M s' h' m1 m2 m3 m4 m5=>?_
 simp (disch:=(first | omega | (simp only [beq_iff_eq,sz_push,sz_put,SC,Nat.reduceAdd,Nat.reduceLeDiff];done) | (simp only [beq_iff_eq,ne_eq,sz_push,sz_put];omega) | assumption | fail)) only [SXB,SX,reduceIte,Int.reduceLT,Int.reduceLE,Int.reduceToNat,Int.reduceBEq,Int.reduceBNe,Nat.reduceAdd,Nat.reduceMul,Nat.reduceSub,Nat.reduceLeDiff]
 rw [List.nil_append] at m4
 obtain ⟨h5,gu,gf,gs⟩:=m4.turn (P:=Tryd.prog) (by omega) (fun v hv=>by obtain ⟨x,_,rfl⟩:=List.mem_map.1 hv;exact entryV_size σ x)
 refine .inl ⟨_,_,h5,rfl,Gh.turn gu .here,m3.trans ⟨by omega,fun k hk=>gf k fun e=>by have:=m4.key k e;omega⟩,?_,hq M (fun x=>?_) (by omega)⟩
 ·refine below_slV fun v hv=>?_
  obtain ⟨w,hw,hv⟩:=List.mem_flatMap.1 hv
  obtain ⟨x,_,rfl⟩:=List.mem_map.1 hw
  exact below_entry σ x v hv
 ·rw [m1 x]
  exact ⟨(·.2),fun h=>⟨Tr.within_iff.2 ⟨x,rfl⟩,h⟩⟩
structure OpD where
 kind:Int
 path:ByteArray
 to_:ByteArray
 client:Int
 pc:Pc
 quota:Int
def opV (x:OpD):Value:=.agg #[.int .i64 x.kind,.string x.path,.string x.to_,.int .i64 x.client,.int .i64 x.pc.c,.int .i64 x.pc.k,.int .i64 x.pc.t,.int .i64 x.pc.s,.int .u32 x.pc.u,.int .i64 x.quota]
def opC (x:OpD):Array Value:=#[.int .i64 x.kind,.string x.path,.string x.to_,.int .i64 x.client,.int .i64 x.pc.c,.int .i64 x.pc.k,.int .i64 x.pc.t,.int .i64 x.pc.s,.int .u32 x.pc.u,.int .i64 x.quota]
def Fr (σ:St) (h h':AH):Prop:=h.size ≤ h'.size∧∀ k,k < h.size→(∀ p r,σ p=some r→k ∉ own r)→h'.get k=h.get k
theorem Fr.kp {σ:St} {h h':AH} (k:Kp h.size h h'):Fr σ h h':=⟨k.size,fun j hj _=>k.get j hj⟩
def MvT (σ σ':St) (n:Nat):Prop:=∀ p r k,σ' p=some r→k ∈ own r→(∃ q s,σ q=some s∧k ∈ own s) ∨ n ≤ k
theorem MvT.refl (σ:St) (n:Nat):MvT σ σ n:=fun p r k hp hk=>.inl ⟨p,r,hp,hk⟩
theorem OkD.updFile {σ:St} {K:List Pt} (o:OkD σ K) {p:Pt} {b b':Nat} {sl sl':Value} {oo oo':Bool} {hd hd':Int} {ps ps':List Pc} (hp:σ p=some (.file b sl oo hd ps)):OkD (upd σ p (.file b' sl' oo' hd' ps')) K:=by
 have hs:∀ x,(upd σ p (.file b' sl' oo' hd' ps') x).isSome=(σ x).isSome:=by
  intro x
  unfold upd
  split
  ·rename_i e;subst e;rw [hp];rfl
  ·rfl
 have hd:∀ x b m clk q c ks,upd σ p (.file b' sl' oo' hd' ps') x=some (.dir b m clk q c ks) ↔ σ x=some (.dir b m clk q c ks):=by
  intro x b m clk q c ks
  unfold upd
  split
  ·rename_i e;subst e;rw [hp];exact ⟨fun h=>(by cases h),fun h=>(by cases h)⟩
  ·exact Iff.rfl
 refine ⟨fun x=>by rw [hs];exact o.mem x,o.nodup,fun x nm h=>?_,fun x b m clk q c ks h nm=>?_,fun x b m clk q c ks h=>o.knod _ _ _ _ _ _ _ ((hd _ _ _ _ _ _ _).1 h),fun x b m clk q c ks h=>o.born _ _ _ _ _ _ _ ((hd _ _ _ _ _ _ _).1 h),fun x b m clk q c ks h=>o.count _ _ _ _ _ _ _ ((hd _ _ _ _ _ _ _).1 h)⟩
 ·rw [hs] at h
  obtain ⟨b,m,clk,q,c,ks,h1⟩:=o.up x nm h
  exact ⟨b,m,clk,q,c,ks,(hd _ _ _ _ _ _ _).2 h1⟩
 ·rw [hs]
  exact o.kids _ _ _ _ _ _ _ ((hd _ _ _ _ _ _ _).1 h) nm
theorem TreeH.setFile {h h':AH} {lo bt:Nat} {σ:St} {K:List Pt} (t:TreeH h lo bt σ K) {p:Pt} {b:Nat} {sl sl':Value} {oo oo':Bool} {hd hd':Int} {ps ps':List Pc} (hp:σ p=some (.file b sl oo hd ps))
  (g1:h'.get b=some (.cells #[.bool oo',.int .i64 hd',sl'] 58 (0,0),none)) (g2:Hld 34 5 h' 0 sl' (ps'.map encPc)) (hl:ps'.length ≤ 1024) (hs:h.size ≤ h'.size)
  (hsl:∀ k,blkOf sl' = some k→blkOf sl=some k ∨ (h.size ≤ k∧k < h'.size)) (hf:∀ k,k < h.size→k ≠ b→blkOf sl ≠ some k→h'.get k=h.get k) :
  TreeH h' lo bt (upd σ p (.file b sl' oo' hd' ps')) K∧Fr σ h h'∧MvT σ (upd σ p (.file b sl' oo' hd' ps')) h.size:=by
 have hi:∀ x,ifc (upd σ p (.file b sl' oo' hd' ps') x)=ifc (σ x):=by
  intro x
  unfold upd
  split
  ·rename_i e;subst e;rw [hp];rfl
  ·rfl
 obtain ⟨f1,f2,f3,f4⟩:=t.tw.file hp
 have hbown:b ∈ own (.file b sl oo hd ps):=by simp [own]
 have hblt:=(t.tw.bnd p _ b hp hbown).2
 have hmv:MvT σ (upd σ p (.file b sl' oo' hd' ps')) h.size:=by
  intro x r k hx hk
  unfold upd at hx
  split at hx
  ·rename_i e;subst e;cases hx
   simp only [own,List.mem_cons] at hk
   rcases hk with rfl | hk
   ·exact .inl ⟨_,_,hp,hbown⟩
   ·have:blkOf sl' = some k:=by simpa using hk
    rcases hsl k this with h1 | h1
    ·exact .inl ⟨_,_,hp,by simp [own,h1]⟩
    ·exact .inr h1.1
  ·exact .inl ⟨x,r,hx,hk⟩
 have old:∀ x r,x ≠ p→σ x=some r→∀ k,k ∈ own r→h'.get k=h.get k:=fun x r hne hx k hk=>hf k (t.tw.bnd x r k hx hk).2
  (fun e=>hne (t.tw.apart x p r _ k hx hp hk (by rw [e];exact hbown))) (fun e=>hne (t.tw.apart x p r _ k hx hp hk (by simp [own,e])))
 have hb:blkAt (upd σ p (.file b sl' oo' hd' ps')) []=blkAt σ []:=by
  unfold blkAt upd
  split
  ·rename_i e
   by_cases hq:([]:Pt)=p
   ·rw [if_pos hq] at e;cases e
    rw [hq,hp];rfl
   ·rw [if_neg hq] at e;rw [e]
  ·rename_i e
   by_cases hq:([]:Pt)=p
   ·rw [if_pos hq] at e;cases e
   ·rw [if_neg hq] at e;rw [e]
 have hpn:p ≠ []:=by
  rintro rfl
  obtain ⟨_,_,_,_,_,_,hr⟩:=t.root
  rw [hp] at hr;cases hr
 refine ⟨⟨⟨fun x r hx=>?_,fun x y r s k hx hy hr hs2=>?_,fun x r k hx hr=>?_⟩,OkD.updFile t.ok hp,?_,t.valid,t.few,?_,⟨t.tb.1,Nat.lt_of_lt_of_le t.tb.2 hs⟩,fun x r hx hk=>?_⟩,⟨hs,fun k hk hn=>hf k hk (fun e=>hn p _ hp (by rw [e];exact hbown)) (fun e=>hn p _ hp (by simp [own,e]))⟩,hmv⟩
 ·by_cases hxp:x=p
  ·subst hxp
   unfold upd at hx
   rw [if_pos rfl] at hx;cases hx
   refine ⟨g1,g2,fun e=>?_,hl⟩
   rcases hsl b e with h1 | h1
   ·exact f3 h1
   ·omega
  ·unfold upd at hx
   rw [if_neg hxp] at hx
   exact ((t.tw.rows x r hx).mono fun k hk=>old x r hxp hx k hk).congr hi
 ·by_cases hxp:x=p
  ·by_cases hyp:y=p
   ·rw [hxp,hyp]
   ·subst hxp
    unfold upd at hx hy
    rw [if_pos rfl] at hx;cases hx
    rw [if_neg hyp] at hy
    simp only [own,List.mem_cons] at hr
    rcases hr with rfl | hr
    ·exact t.tw.apart _ _ _ _ _ hp hy hbown hs2
    ·rcases hsl k (by simpa using hr) with h1 | h1
     ·exact t.tw.apart _ _ _ _ _ hp hy (by simp [own,h1]) hs2
     ·have:=(t.tw.bnd y s k hy hs2).2;omega
  ·by_cases hyp:y=p
   ·subst hyp
    unfold upd at hx hy
    rw [if_pos rfl] at hy;cases hy
    rw [if_neg hxp] at hx
    simp only [own,List.mem_cons] at hs2
    rcases hs2 with rfl | hs2
    ·exact t.tw.apart _ _ _ _ _ hx hp hr hbown
    ·rcases hsl k (by simpa using hs2) with h1 | h1
     ·exact t.tw.apart _ _ _ _ _ hx hp hr (by simp [own,h1])
     ·have:=(t.tw.bnd x r k hx hr).2;omega
   ·unfold upd at hx hy
    rw [if_neg hxp] at hx
    rw [if_neg hyp] at hy
    exact t.tw.apart _ _ _ _ _ hx hy hr hs2
 ·by_cases hxp:x=p
  ·subst hxp
   unfold upd at hx
   rw [if_pos rfl] at hx;cases hx
   simp only [own,List.mem_cons] at hr
   rcases hr with rfl | hr
   ·have:=t.tw.bnd _ _ _ hp hbown;omega
   ·rcases hsl k (by simpa using hr) with h1 | h1
    ·have:=t.tw.bnd _ _ k hp (by simp [own,h1]);omega
    ·have:=t.tw.bnd _ _ _ hp hbown;omega
  ·unfold upd at hx
   rw [if_neg hxp] at hx
   have:=t.tw.bnd x r k hx hr;omega
 ·obtain ⟨b0,m,clk,q,c,ks,hr⟩:=t.root
  refine ⟨b0,m,clk,q,c,ks,?_⟩
  unfold upd
  rw [if_neg fun e=>hpn e.symm];exact hr
 ·rw [hb,hf bt t.tb.2 (fun e=>t.nt p _ hp (by rw [e];exact hbown)) (fun e=>t.nt p _ hp (by simp [own,e]))]
  exact t.tp
 ·rcases hmv x r bt hx hk with ⟨q,s,h1,h2⟩ | h1
  ·exact t.nt q s h1 h2
  ·have:=t.tb.2;omega
end Go.Proofs.YtgdnfoijhdpppaaDoor.L
end
section
namespace Go.Proofs.YtgdnfoijhdpppaaDoor.L
open Go.Ab Go.Tr Go.Mh Go.Proofs.YtgdnfoijhdpppaaDoor.X
set_option maxRecDepth 100000
def HeldErr (σ:St) (p:ByteArray) (cl:Int) (any:Bool) (e:Int):Prop :=
 findP σ p=.error e ∨ (e=73∧∃ b m clk q c ks,findP σ p=.ok (.dir b m clk q c ks)) ∨ (e=75∧∃ b sl o hd ps,findP σ p=.ok (.file b sl o hd ps)∧(o=false ∨ (any=false∧hd ≠ cl)))
theorem held_ok {h:AH} {lo bt:Nat} {σ:St} {K:List Pt} (t:TreeH h lo bt σ K) (G:Gl h) {p:ByteArray} (hp:p.size ≤ 1048576) {cl:Int} {any:Bool} {Q:Res→AH→Prop}
  (hok:∀ b sl hd ps,findP σ p=.ok (.file b sl true hd ps)→(any=true ∨ hd=cl)→Q (.ret (.tuple #[ptr b,.int .i64 0])) h)
  (her:∀ e:Int,e ≠ 0→HeldErr σ p cl any e→Q (.ret (.tuple #[.pointer none,.int .i64 e])) h):HC Tryd.prog 24 [ptr bt,.string p,.int .i64 cl,.bool any].toArray h Q:=by
 refine X24_ok ?_
 unfold X24
 simp (disch:=(first | omega | (simp only [beq_iff_eq,sz_push,sz_put,SC,Nat.reduceAdd,Nat.reduceLeDiff];done) | (simp only [beq_iff_eq,ne_eq,sz_push,sz_put];omega) | assumption | fail)) only [SXB,SX,reduceIte,Int.reduceLT,Int.reduceLE,Int.reduceToNat,Int.reduceBEq,Int.reduceBNe,Nat.reduceAdd,Nat.reduceMul,Nat.reduceSub,Nat.reduceLeDiff]
 refine find_pure t G hp (fun r hr=>?_) (fun l e he h0=>?_)
 ·cases r with
  | dir b m clk q c ks =>
   unfold ifcR
   simp (disch:=(first | omega | (simp only [beq_iff_eq,sz_push,sz_put,SC,Nat.reduceAdd,Nat.reduceLeDiff];done) | (simp only [beq_iff_eq,ne_eq,sz_push,sz_put];omega) | assumption | fail)) only [ta_fileN,SXB,SX,reduceIte,Int.reduceLT,Int.reduceLE,Int.reduceToNat,Int.reduceBEq,Int.reduceBNe,Nat.reduceAdd,Nat.reduceMul,Nat.reduceSub,Nat.reduceLeDiff]
   exact her 73 (by decide) (.inr (.inl ⟨rfl,_,_,_,_,_,_,hr⟩))
  | file b sl o hd ps =>
   unfold ifcR
   obtain ⟨g1,_⟩:=t.tw.file (findP_some hr).2.2
   cases o with
   | false =>
    simp (disch:=(first | omega | (simp only [beq_iff_eq,sz_push,sz_put,SC,Nat.reduceAdd,Nat.reduceLeDiff];done) | (simp only [beq_iff_eq,ne_eq,sz_push,sz_put];omega) | assumption | fail)) only [ta_file,g1,SXB,SX,reduceIte,Int.reduceLT,Int.reduceLE,Int.reduceToNat,Int.reduceBEq,Int.reduceBNe,Nat.reduceAdd,Nat.reduceMul,Nat.reduceSub,Nat.reduceLeDiff]
    exact her 75 (by decide) (.inr (.inr ⟨rfl,_,_,_,_,_,hr,.inl rfl⟩))
   | true =>
    cases any with
    | true =>
     simp (disch:=(first | omega | (simp only [beq_iff_eq,sz_push,sz_put,SC,Nat.reduceAdd,Nat.reduceLeDiff];done) | (simp only [beq_iff_eq,ne_eq,sz_push,sz_put];omega) | assumption | fail)) only [ta_file,g1,SXB,SX,reduceIte,Int.reduceLT,Int.reduceLE,Int.reduceToNat,Int.reduceBEq,Int.reduceBNe,Nat.reduceAdd,Nat.reduceMul,Nat.reduceSub,Nat.reduceLeDiff]
     exact hok b sl hd ps hr (.inl rfl)
    | false =>
     by_cases hc:hd=cl
     ·have hcb:(hd != cl)=false:=by simp [hc]
      simp (disch:=(first | omega | (simp only [beq_iff_eq,sz_push,sz_put,SC,Nat.reduceAdd,Nat.reduceLeDiff];done) | (simp only [beq_iff_eq,ne_eq,sz_push,sz_put];omega) | assumption | fail)) only [ta_file,g1,hcb,SXB,SX,reduceIte,Int.reduceLT,Int.reduceLE,Int.reduceToNat,Int.reduceBEq,Int.reduceBNe,Nat.reduceAdd,Nat.reduceMul,Nat.reduceSub,Nat.reduceLeDiff]
      exact hok b sl hd ps hr (.inr hc)
     ·have hcb:(hd != cl)=true:=by simpa using hc
      simp (disch:=(first | omega | (simp only [beq_iff_eq,sz_push,sz_put,SC,Nat.reduceAdd,Nat.reduceLeDiff];done) | (simp only [beq_iff_eq,ne_eq,sz_push,sz_put];omega) | assumption | fail)) only [ta_file,g1,hcb,SXB,SX,reduceIte,Int.reduceLT,Int.reduceLE,Int.reduceToNat,Int.reduceBEq,Int.reduceBNe,Nat.reduceAdd,Nat.reduceMul,Nat.reduceSub,Nat.reduceLeDiff]
      exact her 75 (by decide) (.inr (.inr ⟨rfl,_,_,_,_,_,hr,.inr ⟨rfl,hc⟩⟩))
 ·have he0:(e != 0)=true:=by simpa using h0
  simp (disch:=(first | omega | (simp only [beq_iff_eq,sz_push,sz_put,SC,Nat.reduceAdd,Nat.reduceLeDiff];done) | (simp only [beq_iff_eq,ne_eq,sz_push,sz_put];omega) | assumption | fail)) only [he0,SXB,SX,reduceIte,Int.reduceLT,Int.reduceLE,Int.reduceToNat,Int.reduceBEq,Int.reduceBNe,Nat.reduceAdd,Nat.reduceMul,Nat.reduceSub,Nat.reduceLeDiff]
  exact her e h0 (.inl he)
theorem sized_ok {h:AH} (x:Pc):Ex Tryd.prog 25 [encPc x].toArray h (.bool (decide (1 ≤ x.s) && decide (x.s ≤ 4096))) h:=by
 refine Ex.pureF (.bool _) (X25_ok ?_)
 unfold X25 encPc
 by_cases h1:1 ≤ x.s
 ·rw [decide_eq_true h1]
  simp (disch:=(first | omega | (simp only [beq_iff_eq,sz_push,sz_put,SC,Nat.reduceAdd,Nat.reduceLeDiff];done) | (simp only [beq_iff_eq,ne_eq,sz_push,sz_put];omega) | assumption | fail)) only [h1,SXB,SX,reduceIte,Int.reduceLT,Int.reduceLE,Int.reduceToNat,Int.reduceBEq,Int.reduceBNe,Nat.reduceAdd,Nat.reduceMul,Nat.reduceSub,Nat.reduceLeDiff]
  exact (Kp.refl _ _).push _ _ (Nat.le_refl _)
 ·rw [decide_eq_false h1]
  simp (disch:=(first | omega | (simp only [beq_iff_eq,sz_push,sz_put,SC,Nat.reduceAdd,Nat.reduceLeDiff];done) | (simp only [beq_iff_eq,ne_eq,sz_push,sz_put];omega) | assumption | fail)) only [h1,SXB,SX,reduceIte,Int.reduceLT,Int.reduceLE,Int.reduceToNat,Int.reduceBEq,Int.reduceBNe,Nat.reduceAdd,Nat.reduceMul,Nat.reduceSub,Nat.reduceLeDiff]
  exact (Kp.refl _ _).push _ _ (Nat.le_refl _)
def AddRel (x:OpD) (σ σ':St) (e:Int):Prop :=
 (e ≠ 0∧σ' = σ∧(HeldErr σ x.path x.client false e ∨ ∃ b sl ps,findP σ x.path=.ok (.file b sl true x.client ps)∧((e=2∧¬ (1 ≤ x.pc.s∧x.pc.s ≤ 4096)) ∨ (e=1∧1024 ≤ ps.length)))) ∨
 (e=0∧∃ b sl sl' ps,findP σ x.path=.ok (.file b sl true x.client ps)∧ps.length < 1024∧σ' = upd σ (partsL x.path.data.toList) (.file b sl' true x.client (ps++[x.pc])))
theorem add_ok {h:AH} {lo bt:Nat} {σ:St} {K:List Pt} (t:TreeH h lo bt σ K) (G:Gl h) {x:OpD} (hp:x.path.size ≤ 1048576) {Q:Res→AH→Prop}
  (hq:∀ (e:Int) h' σ',TreeH h' lo bt σ' K→Fr σ h h'→MvT σ σ' h.size→AddRel x σ σ' e→Q (.ret (.int .i64 e)) h'):HC Tryd.prog 13 [ptr bt,opV x].toArray h Q:=by
 refine X13_ok ?_
 unfold X13 opV
 have K1:Kp h.size h (h.push (.cells (opC x) 36 (0,0)) none):=(Kp.refl _ _).push _ _ (Nat.le_refl _)
 have t1:=t.kp K1
 have G1:=G.kp K1 (by have:=t.tb;omega)
 have z1:(h.push (.cells (opC x) 36 (0,0)) none).size=h.size + 1:=by simp
 have g0:(h.push (.cells (opC x) 36 (0,0)) none).get h.size=some (.cells (opC x) 36 (0,0),none):=get_push_eq rfl
 unfold opC at K1 t1 G1 z1 g0
 rw [new1,new2,cells_agg]
 generalize h.push (.cells _ 36 (0,0)) none=h1 at K1 t1 G1 z1 g0 ⊢
 simp (disch:=(first | omega | (simp only [beq_iff_eq,sz_push,sz_put,SC,Nat.reduceAdd,Nat.reduceLeDiff];done) | (simp only [beq_iff_eq,ne_eq,sz_push,sz_put];omega) | assumption | fail)) only [g0,SXB,SX,reduceIte,Int.reduceLT,Int.reduceLE,Int.reduceToNat,Int.reduceBEq,Int.reduceBNe,Nat.reduceAdd,Nat.reduceMul,Nat.reduceSub,Nat.reduceLeDiff]
 refine held_ok t1 G1 hp (fun b sl hd ps h2 h3=>?_) (fun e h2 h3=>?_)
 ·rcases h3 with h3 | rfl
  ·cases h3
  have hfs:=(findP_some h2).2.2
  obtain ⟨f1,f2,f3,f4⟩:=t1.tw.file hfs
  have hblt:=(t1.tw.bnd _ _ b hfs (by simp [own])).2
  have hslt:∀ k,blkOf sl=some k→k < h1.size:=fun k hk=>(t1.tw.bnd _ _ k hfs (by simp [own,hk])).2
  simp (disch:=(first | omega | (simp only [beq_iff_eq,sz_push,sz_put,SC,Nat.reduceAdd,Nat.reduceLeDiff];done) | (simp only [beq_iff_eq,ne_eq,sz_push,sz_put];omega) | assumption | fail)) only [g0,SXB,SX,reduceIte,Int.reduceLT,Int.reduceLE,Int.reduceToNat,Int.reduceBEq,Int.reduceBNe,Nat.reduceAdd,Nat.reduceMul,Nat.reduceSub,Nat.reduceLeDiff]
  refine HC.exact (sized_ok x.pc) ?_
  by_cases hs:1 ≤ x.pc.s∧x.pc.s ≤ 4096
  ·have hs1:(decide (1 ≤ x.pc.s) && decide (x.pc.s ≤ 4096))=true:=by simp [hs.1,hs.2]
   have hlen:=f2.len
   rw [List.length_map] at hlen
   by_cases h10:(1024:Int) ≤ (ps.length:Nat)
   ·simp (disch:=(first | omega | (simp only [beq_iff_eq,sz_push,sz_put,SC,Nat.reduceAdd,Nat.reduceLeDiff];done) | (simp only [beq_iff_eq,ne_eq,sz_push,sz_put];omega) | assumption | fail)) only [hs1,f1,hlen,h10,SXB,SX,reduceIte,Int.reduceLT,Int.reduceLE,Int.reduceToNat,Int.reduceBEq,Int.reduceBNe,Nat.reduceAdd,Nat.reduceMul,Nat.reduceSub,Nat.reduceLeDiff]
    exact hq 1 h1 σ t1 (Fr.kp K1) (MvT.refl _ _) (.inl ⟨by decide,rfl,.inr ⟨b,sl,ps,h2,.inr ⟨rfl,by omega⟩⟩⟩)
   ·obtain ⟨s',h',a1,a2,a3,a4,a5⟩:=f2.append1 (v:=encPc x.pc) (c:=#[.int .i64 x.pc.c,.int .i64 x.pc.k,.int .i64 x.pc.t,.int .i64 x.pc.s,.int .u32 x.pc.u]) (bytes:=40) (zero:=.agg #[.int .i64 0,.int .i64 0,.int .i64 0,.int .i64 0,.int .u32 0]) rfl hslt (by omega) (pc_size ps) rfl (by intro v hv;simp only [List.mem_cons,List.not_mem_nil,or_false] at hv;rcases hv with rfl | rfl | rfl | rfl | rfl <;> rfl) (by omega) (by omega) (by omega) rfl (by rw [List.length_map];omega)
    have f1':h'.get b=some (.cells #[.bool true,.int .i64 x.client,sl] 58 (0,0),none):=(a4 b hblt (fun e=>f3 e)).trans f1
    obtain ⟨va,vn,vc,rfl⟩:=a2.isSl
    have hbs':blkOf (.slice va vn vc) ≠ some b:=fun e=>by
     rcases a5 with e5 | ⟨j,e5,h6,_⟩
     ·rw [e5] at e;exact f3 e
     ·rw [e5] at e;cases e;omega
    simp (disch:=(first | omega | (simp only [beq_iff_eq,sz_push,sz_put,SC,Nat.reduceAdd,Nat.reduceLeDiff];done) | (simp only [beq_iff_eq,ne_eq,sz_push,sz_put];omega) | assumption | fail)) only [g0,hs1,f1,hlen,h10,a1,f1',SXB,SX,reduceIte,Int.reduceLT,Int.reduceLE,Int.reduceToNat,Int.reduceBEq,Int.reduceBNe,Nat.reduceAdd,Nat.reduceMul,Nat.reduceSub,Nat.reduceLeDiff]
    obtain ⟨r1,r2,r3⟩:=t1.setFile hfs (oo':=true) (hd':=x.client) (sl':=.slice va vn vc) (ps':=ps++[x.pc]) (h':=h'.put b (some (.cells #[.bool true,.int .i64 x.client,.slice va vn vc] 58 (0,0),none))) (get_put_eq rfl)
     (by rw [List.map_append];exact a2.mono fun k hk=>get_put_ne fun e=>hbs' (by rw [hk,e])) (by simp;omega) (by simp;omega)
     (fun k hk=>by
      rcases a5 with e5 | ⟨j,e5,h6,h7⟩
      ·rw [e5] at hk;exact .inl hk
      ·rw [e5] at hk;cases hk;exact .inr ⟨h6,by simpa using h7⟩)
     (fun k hk hne hns=>by rw [get_put_ne hne];exact a4 k hk hns)
    refine hq 0 _ _ r1 ⟨by have:=r2.1;omega,fun k hk hn=>(r2.2 k (by omega) hn).trans (K1.get k hk)⟩ (fun p r k hp2 hk=>?_) (.inr ⟨rfl,b,sl,_,ps,h2,by omega,rfl⟩)
    rcases r3 p r k hp2 hk with h8 | h8
    ·exact .inl h8
    ·exact .inr (by omega)
  ·have hs1:(decide (1 ≤ x.pc.s) && decide (x.pc.s ≤ 4096))=false:=by
    rw [Bool.and_eq_false_iff,decide_eq_false_iff_not,decide_eq_false_iff_not]
    omega
   simp (disch:=(first | omega | (simp only [beq_iff_eq,sz_push,sz_put,SC,Nat.reduceAdd,Nat.reduceLeDiff];done) | (simp only [beq_iff_eq,ne_eq,sz_push,sz_put];omega) | assumption | fail)) only [hs1,SXB,SX,reduceIte,Int.reduceLT,Int.reduceLE,Int.reduceToNat,Int.reduceBEq,Int.reduceBNe,Nat.reduceAdd,Nat.reduceMul,Nat.reduceSub,Nat.reduceLeDiff]
   exact hq 2 h1 σ t1 (Fr.kp K1) (MvT.refl _ _) (.inl ⟨by decide,rfl,.inr ⟨b,sl,ps,h2,.inl ⟨rfl,hs⟩⟩⟩)
 ·have he0:(e != 0)=true:=by simpa using h2
  simp (disch:=(first | omega | (simp only [beq_iff_eq,sz_push,sz_put,SC,Nat.reduceAdd,Nat.reduceLeDiff];done) | (simp only [beq_iff_eq,ne_eq,sz_push,sz_put];omega) | assumption | fail)) only [he0,SXB,SX,reduceIte,Int.reduceLT,Int.reduceLE,Int.reduceToNat,Int.reduceBEq,Int.reduceBNe,Nat.reduceAdd,Nat.reduceMul,Nat.reduceSub,Nat.reduceLeDiff]
  exact hq e h1 σ t1 (Fr.kp K1) (MvT.refl _ _) (.inl ⟨h2,rfl,.inl h3⟩)
def CloseRel (x:OpD) (σ σ':St) (e:Int):Prop :=
 (e ≠ 0∧σ' = σ∧HeldErr σ x.path x.client (x.kind == 8) e) ∨
 (e=0∧∃ b sl hd ps,findP σ x.path=.ok (.file b sl true hd ps)∧((x.kind == 8)=true ∨ hd=x.client)∧σ' = upd σ (partsL x.path.data.toList) (.file b sl false 0 ps))
theorem close_ok {h:AH} {lo bt:Nat} {σ:St} {K:List Pt} (t:TreeH h lo bt σ K) (G:Gl h) {x:OpD} (hp:x.path.size ≤ 1048576) {Q:Res→AH→Prop}
  (hq:∀ (e:Int) h' σ',TreeH h' lo bt σ' K→Fr σ h h'→MvT σ σ' h.size→CloseRel x σ σ' e→Q (.ret (.int .i64 e)) h'):HC Tryd.prog 14 [ptr bt,opV x].toArray h Q:=by
 refine X14_ok ?_
 unfold X14 opV
 have K1:Kp h.size h (h.push (.cells (opC x) 36 (0,0)) none):=(Kp.refl _ _).push _ _ (Nat.le_refl _)
 have t1:=t.kp K1
 have G1:=G.kp K1 (by have:=t.tb;omega)
 have z1:(h.push (.cells (opC x) 36 (0,0)) none).size=h.size + 1:=by simp
 have g0:(h.push (.cells (opC x) 36 (0,0)) none).get h.size=some (.cells (opC x) 36 (0,0),none):=get_push_eq rfl
 unfold opC at K1 t1 G1 z1 g0
 rw [new1,new2,cells_agg]
 generalize h.push (.cells _ 36 (0,0)) none=h1 at K1 t1 G1 z1 g0 ⊢
 simp (disch:=(first | omega | (simp only [beq_iff_eq,sz_push,sz_put,SC,Nat.reduceAdd,Nat.reduceLeDiff];done) | (simp only [beq_iff_eq,ne_eq,sz_push,sz_put];omega) | assumption | fail)) only [g0,SXB,SX,reduceIte,Int.reduceLT,Int.reduceLE,Int.reduceToNat,Int.reduceBEq,Int.reduceBNe,Nat.reduceAdd,Nat.reduceMul,Nat.reduceSub,Nat.reduceLeDiff]
 refine held_ok t1 G1 hp (fun b sl hd ps h2 h3=>?_) (fun e h2 h3=>?_)
 ·have hfs:=(findP_some h2).2.2
  obtain ⟨f1,f2,f3,f4⟩:=t1.tw.file hfs
  simp (disch:=(first | omega | (simp only [beq_iff_eq,sz_push,sz_put,SC,Nat.reduceAdd,Nat.reduceLeDiff];done) | (simp only [beq_iff_eq,ne_eq,sz_push,sz_put];omega) | assumption | fail)) only [f1,SXB,SX,reduceIte,Int.reduceLT,Int.reduceLE,Int.reduceToNat,Int.reduceBEq,Int.reduceBNe,Nat.reduceAdd,Nat.reduceMul,Nat.reduceSub,Nat.reduceLeDiff]
  refine X14_4_ok ?_
  unfold X14_4
  obtain ⟨r1,r2,r3⟩:=t1.setFile hfs (oo':=false) (hd':=0) (sl':=sl) (ps':=ps) (h':=(h1.put b (some (.cells #[.bool false,.int .i64 hd,sl] 58 (0,0),none))).put b (some (.cells #[.bool false,.int .i64 0,sl] 58 (0,0),none))) (get_put_eq rfl)
   (f2.mono fun k hk=>by
    have:k ≠ b:=fun e=>f3 (by rw [hk,e])
    rw [get_put_ne this,get_put_ne this]) f4 (by simp) (fun k hk=>.inl hk) (fun k hk hne hns=>by rw [get_put_ne hne,get_put_ne hne])
  refine hq 0 _ _ r1 ⟨by have:=r2.1;omega,fun k hk hn=>(r2.2 k (by omega) hn).trans (K1.get k hk)⟩ (fun p r k hp2 hk=>?_) (.inr ⟨rfl,b,sl,hd,ps,h2,h3,rfl⟩)
  rcases r3 p r k hp2 hk with h8 | h8
  ·exact .inl h8
  ·exact .inr (by omega)
 ·have he0:(e == 0)=false:=by simpa using h2
  simp (disch:=(first | omega | (simp only [beq_iff_eq,sz_push,sz_put,SC,Nat.reduceAdd,Nat.reduceLeDiff];done) | (simp only [beq_iff_eq,ne_eq,sz_push,sz_put];omega) | assumption | fail)) only [he0,SXB,SX,reduceIte,Int.reduceLT,Int.reduceLE,Int.reduceToNat,Int.reduceBEq,Int.reduceBNe,Nat.reduceAdd,Nat.reduceMul,Nat.reduceSub,Nat.reduceLeDiff]
  refine X14_4_ok ?_
  unfold X14_4
  exact hq e h1 σ t1 (Fr.kp K1) (MvT.refl _ _) (.inl ⟨h2,rfl,h3⟩)
end Go.Proofs.YtgdnfoijhdpppaaDoor.L
end
section
namespace Go.Proofs.YtgdnfoijhdpppaaDoor.L
open Go.Ab Go.Tr Go.Mh Go.Proofs.YtgdnfoijhdpppaaDoor.X
set_option maxRecDepth 100000
theorem few_of {h:AH} {lo bt:Nat} {σ:St} {K:List Pt} (t:TreeH h lo bt σ K):Few σ:=fun p b m clk q c ks hp=>t.cnt hp
theorem addC_own {l:Pt} {w:Int} {σ:St} {p:Pt} {r:Row} (h:addC l w σ p=some r):∃ r',σ p=some r'∧own r' = own r∧r'.blk=r.blk:=by
 unfold addC at h
 cases hs:σ p with
 | none=>rw [hs] at h;cases h
 | some r' =>
  rw [hs] at h
  cases r' with
  | file b sl o hd ps=>cases h;exact ⟨_,rfl,rfl,rfl⟩
  | dir b m clk q c ks =>
   simp only at h
   split at h <;> (cases h;exact ⟨_,rfl,rfl,rfl⟩)
theorem addK_own {l:Pt} {nm:Nm} {σ:St} {p:Pt} {r:Row} (h:addK l nm σ p=some r):∃ r',σ p=some r'∧own r' = own r∧r'.blk=r.blk:=by
 unfold addK at h
 cases hs:σ p with
 | none=>rw [hs] at h;cases h
 | some r' =>
  rw [hs] at h
  cases r' with
  | file b sl o hd ps=>cases h;exact ⟨_,rfl,rfl,rfl⟩
  | dir b m clk q c ks =>
   simp only at h
   split at h <;> (cases h;exact ⟨_,rfl,rfl,rfl⟩)
theorem delK_own {l:Pt} {nm:Nm} {σ:St} {p:Pt} {r:Row} (h:delK l nm σ p=some r):∃ r',σ p=some r'∧own r' = own r∧r'.blk=r.blk:=by
 unfold delK at h
 cases hs:σ p with
 | none=>rw [hs] at h;cases h
 | some r' =>
  rw [hs] at h
  cases r' with
  | file b sl o hd ps=>cases h;exact ⟨_,rfl,rfl,rfl⟩
  | dir b m clk q c ks =>
   simp only at h
   split at h <;> (cases h;exact ⟨_,rfl,rfl,rfl⟩)
theorem addCK_own {l:Pt} {nm:Nm} {w:Int} {σ:St} {p:Pt} {r:Row} (h:addK l nm (addC l w σ) p=some r):∃ r',σ p=some r'∧own r' = own r∧r'.blk=r.blk:=by
 obtain ⟨r1,h1,h2,h3⟩:=addK_own h
 obtain ⟨r2,h4,h5,h6⟩:=addC_own h1
 exact ⟨r2,h4,h5.trans h2,h6.trans h3⟩
theorem delCK_own {l:Pt} {nm:Nm} {w:Int} {σ:St} {p:Pt} {r:Row} (h:delK l nm (addC l w σ) p=some r):∃ r',σ p=some r'∧own r' = own r∧r'.blk=r.blk:=by
 obtain ⟨r1,h1,h2,h3⟩:=delK_own h
 obtain ⟨r2,h4,h5,h6⟩:=addC_own h1
 exact ⟨r2,h4,h5.trans h2,h6.trans h3⟩
theorem not_within_nil (l:Pt) (nm:Nm):within (l++[nm]) []=false:=by
 cases h:within (l++[nm]) [] with
 | false=>rfl
 | true =>
  obtain ⟨r,hr⟩:=Tr.within_iff.1 h
  simp at hr
theorem graft_out {d:Pt} {δ σ:St} {p:Pt} (h:within d p=false):graft d δ σ p=σ p:=by unfold graft;rw [if_neg (by rw [h];exact Bool.false_ne_true)]
theorem prune_out {d:Pt} {σ:St} {p:Pt} (h:within d p=false):prune d σ p=σ p:=by unfold prune;rw [if_neg (by rw [h];exact Bool.false_ne_true)]
theorem graft_in {d:Pt} {δ σ:St} {p:Pt} (h:within d p=true):graft d δ σ p=δ (p.drop d.length):=by unfold graft;rw [if_pos h]
theorem prune_in {d:Pt} {σ:St} {p:Pt} (h:within d p=true):prune d σ p=none:=by unfold prune;rw [if_pos h]
theorem TreeH.lay {h h':AH} {lo bt:Nat} {σ δ:St} {K D:List Pt} {l:Pt} {nm:Nm} {r0:Row} (t:TreeH h lo bt σ K) (hl:∃ b m clk q c ks,σ l=some (.dir b m clk q c ks)) (hn:σ (l++[nm])=none) (oδ:OkD δ D) (hr0:δ []=some r0) (hw:weightR r0=(D.length:Int))
  (hv:∀ d ∈ D,validL (l++[nm]++d)=true) (hfew:K.length + D.length ≤ 1099511627776) (tw:TW h' lo (graft (l++[nm]) δ (addK l nm (addC l (weightR r0) σ)))) (hs:h'.size=h.size) (hfr:∀ k,(∀ p r,σ p=some r→k ∉ own r)→h'.get k=h.get k)
  (hbt:∀ p r,δ p=some r→bt ∉ own r):TreeH h' lo bt (graft (l++[nm]) δ (addK l nm (addC l (weightR r0) σ))) (K++D.map (l++[nm]++·)):=by
 obtain ⟨b,m,clk,q,c,ks,hr⟩:=t.root
 have hroot:∃ b' m' clk' q' c' ks',graft (l++[nm]) δ (addK l nm (addC l (weightR r0) σ)) []=some (.dir b' m' clk' q' c' ks')∧b' = b:=by
  rw [graft_out (not_within_nil l nm)]
  unfold addK
  rw [addC_of hr]
  simp only
  split <;> exact ⟨_,_,_,_,_,_,rfl,rfl⟩
 obtain ⟨b',m',clk',q',c',ks',hr',rfl⟩:=hroot
 refine ⟨tw,t.ok.graft hl hn oδ (by rw [hr0];rfl) hw,⟨_,_,_,_,_,_,hr'⟩,fun p hp=>?_,by simpa using hfew,?_,⟨t.tb.1,by rw [hs];exact t.tb.2⟩,fun p r hp hk=>?_⟩
 ·rcases List.mem_append.1 hp with hp | hp
  ·exact t.valid p hp
  ·obtain ⟨d,hd,rfl⟩:=List.mem_map.1 hp
   exact hv d hd
 ·have e1:blkAt (graft (l++[nm]) δ (addK l nm (addC l (weightR r0) σ))) []=b':=by unfold blkAt;rw [hr'];rfl
  have e2:blkAt σ []=b':=by unfold blkAt;rw [hr];rfl
  rw [e1,hfr bt t.nt,← e2]
  exact t.tp
 ·cases hw:within (l++[nm]) p with
  | true=>rw [graft_in hw] at hp;exact hbt _ r hp hk
  | false =>
   rw [graft_out hw] at hp
   obtain ⟨r',h1,h2,_⟩:=addCK_own hp
   exact t.nt p r' h1 (h2 ▸ hk)
theorem TreeH.take {h h':AH} {lo bt:Nat} {σ:St} {K:List Pt} {l:Pt} {nm:Nm} {r0:Row} (t:TreeH h lo bt σ K) (hr0:σ (l++[nm])=some r0)
  (tw:TW h' lo (prune (l++[nm]) (delK l nm (addC l (-weightR r0) σ)))) (hs:h'.size=h.size) (hfr:∀ k,(∀ p r,σ p=some r→k ∉ own r)→h'.get k=h.get k) :
  TreeH h' lo bt (prune (l++[nm]) (delK l nm (addC l (-weightR r0) σ))) (K.filter fun p=>!within (l++[nm]) p):=by
 obtain ⟨b,m,clk,q,c,ks,hr⟩:=t.root
 have hroot:∃ b' m' clk' q' c' ks',prune (l++[nm]) (delK l nm (addC l (-weightR r0) σ)) []=some (.dir b' m' clk' q' c' ks')∧b' = b:=by
  rw [prune_out (not_within_nil l nm)]
  unfold delK
  rw [addC_of hr]
  simp only
  split <;> exact ⟨_,_,_,_,_,_,rfl,rfl⟩
 obtain ⟨b',m',clk',q',c',ks',hr',rfl⟩:=hroot
 have hw:=t.ok.weight hr0
 have hw2:weightR r0=((K.filter (within (l++[nm]))).length:Int):=by
  rw [hw]
  cases r0 <;> rfl
 have hfl:=List.length_filter_le (fun p=>!within (l++[nm]) p) K
 refine ⟨tw,t.ok.prune hw2,⟨_,_,_,_,_,_,hr'⟩,fun p hp=>t.valid p (List.mem_filter.1 hp).1,by have:=t.few;omega,?_,⟨t.tb.1,by rw [hs];exact t.tb.2⟩,fun p r hp hk=>?_⟩
 ·have e1:blkAt (prune (l++[nm]) (delK l nm (addC l (-weightR r0) σ))) []=b':=by unfold blkAt;rw [hr'];rfl
  have e2:blkAt σ []=b':=by unfold blkAt;rw [hr];rfl
  rw [e1,hfr bt t.nt,← e2]
  exact t.tp
 ·cases hw:within (l++[nm]) p with
  | true=>rw [prune_in hw] at hp;cases hp
  | false =>
   rw [prune_out hw] at hp
   obtain ⟨r',h1,h2,_⟩:=delCK_own hp
   exact t.nt p r' h1 (h2 ▸ hk)
def single (r:Row):St:=fun p=>if p=[] then some r else none
theorem single_some {r:Row} {p:Pt} {x:Row}:single r p=some x ↔ p=[]∧r=x:=by
 unfold single
 split
 ·rename_i e;exact ⟨fun h=>⟨e,by injection h⟩,fun h=>by rw [h.2]⟩
 ·rename_i e;exact ⟨fun h=>(by cases h),fun h=>absurd h.1 e⟩
def bare:Row→Bool
 | .file _ _ _ _ _=>true
 | .dir _ _ clk q c ks=>c == 0 && ks.isEmpty
theorem single_ok {r:Row} (hb:bare r=true):OkD (single r) [[]]:=by
 have hno:∀ p x,single r (p++[x])=none:=fun p x=>by unfold single;rw [if_neg (by simp)]
 have hdir:∀ p b m clk q c ks,single r p=some (.dir b m clk q c ks)→p=[]∧c=0∧ks=[]:=by
  intro p b m clk q c ks h
  obtain ⟨h1,rfl⟩:=single_some.1 h
  simp only [bare,Bool.and_eq_true,beq_iff_eq,List.isEmpty_iff] at hb
  exact ⟨h1,hb⟩
 refine ⟨fun p=>?_,by simp,fun p x h=>?_,fun p b m clk q c ks h x=>?_,fun p b m clk q c ks h=>?_,fun p b m clk q c ks h=>?_,fun p b m clk q c ks h=>?_⟩
 ·unfold single
  split
  ·rename_i e;simp [e]
  ·rename_i e;simp [e]
 ·rw [hno] at h;cases h
 ·obtain ⟨rfl,rfl,rfl⟩:=hdir _ _ _ _ _ _ _ h
  rw [hno];simp
 ·obtain ⟨rfl,rfl,rfl⟩:=hdir _ _ _ _ _ _ _ h
  simp
 ·obtain ⟨rfl,rfl,rfl⟩:=hdir _ _ _ _ _ _ _ h
  simp
 ·obtain ⟨rfl,rfl,rfl⟩:=hdir _ _ _ _ _ _ _ h
  rfl
theorem make_ok {h:AH} {lo bt n0:Nat} {σ:St} {K:List Pt} {r:Row} (t:TreeH h lo bt σ K) (G:Gl h) (hK:K.length + 1 ≤ 1099511627776) {p:ByteArray} (hp:p.size ≤ 1048576) (hb:bare r=true) (tr:TW h lo (single r)) (hn0:∀ k ∈ own r,n0 ≤ k) (hσ:∀ p s k,σ p=some s→k ∈ own s→k < n0) (hbt:bt < n0) {Q:Res→AH→Prop}
  (hq:∀ (e:Int) h' σ' K',TreeH h' lo bt σ' K'→Fr σ h h'→MvT σ σ' n0→K'.length ≤ K.length + 1→Quo (fun _=>False) σ σ'→Q (.ret (.int .i64 e)) h'):HC Tryd.prog 12 [ptr bt,.string p,ifcR r].toArray h Q:=by
 have hd0:∀ p q c,dirAt (single r) p=some (q,c)→c ≤ 0:=by
  intro p q c h
  obtain ⟨b,m,clk,ks,h1⟩:=dirAt_iff.1 h
  obtain ⟨_,rfl⟩:=single_some.1 h1
  simp only [bare,Bool.and_eq_true,beq_iff_eq] at hb
  omega
 have hw1:weightR r=1:=by
  cases r with
  | file b sl o hd ps=>rfl
  | dir b m clk q c ks =>
   simp only [bare,Bool.and_eq_true,beq_iff_eq] at hb
   show 1 + c=1
   omega
 have hfδ:Few (single r):=fun p b m clk q c ks h=>by
  obtain ⟨_,rfl⟩:=single_some.1 h
  simp only [bare,Bool.and_eq_true,beq_iff_eq] at hb
  omega
 have hap:Apart σ (single r):=fun p q s x k h1 h2 h3 h4=>by
  obtain ⟨_,rfl⟩:=single_some.1 h2
  have:=hn0 k h4
  have:=hσ p s k h1 h3
  omega
 have no:∀ e:Int,e ≠ 0→Q (.ret (.int .i64 e)) h:=fun e he=>hq e h σ K t (Fr.kp (Kp.refl _ _)) (MvT.refl _ _) (by omega) (Quo.refl _ _)
 refine X12_ok ?_
 unfold X12
 simp (disch:=(first | omega | (simp only [beq_iff_eq,sz_push,sz_put,SC,Nat.reduceAdd,Nat.reduceLeDiff];done) | (simp only [beq_iff_eq,ne_eq,sz_push,sz_put];omega) | assumption | fail)) only [SXB,SX,reduceIte,Int.reduceLT,Int.reduceLE,Int.reduceToNat,Int.reduceBEq,Int.reduceBNe,Nat.reduceAdd,Nat.reduceMul,Nat.reduceSub,Nat.reduceLeDiff]
 refine place_ok t G hp (fun l nm F=>?_) (fun e he=>?_)
 ·simp (disch:=(first | omega | (simp only [beq_iff_eq,sz_push,sz_put,SC,Nat.reduceAdd,Nat.reduceLeDiff];done) | (simp only [beq_iff_eq,ne_eq,sz_push,sz_put];omega) | assumption | fail)) only [SXB,SX,reduceIte,Int.reduceLT,Int.reduceLE,Int.reduceToNat,Int.reduceBEq,Int.reduceBNe,Nat.reduceAdd,Nat.reduceMul,Nat.reduceSub,Nat.reduceLeDiff]
  have h16:l.length ≤ 16:=by
   have:=parts16 p
   rw [F.parts] at this
   simp at this;omega
  have hroom:=room_ok t (nm:=nm) (n:=1) (i0:=0) (by omega) F.dir (by omega) (by omega) (Q:=resK (fun t20 h=>K12_4 (ifcR r) (VSl (wayB σ (l++[nm]))) (.string (mkB nm)) t20 h Q) (fun v h=>Q (.pan v) h)) (fun hr=>?_) ?_
  ·rw [List.drop_zero] at hroom
   exact hroom
  ·simp (disch:=(first | omega | (simp only [beq_iff_eq,sz_push,sz_put,SC,Nat.reduceAdd,Nat.reduceLeDiff];done) | (simp only [beq_iff_eq,ne_eq,sz_push,sz_put];omega) | assumption | fail)) only [SXB,SX,reduceIte,Int.reduceLT,Int.reduceLE,Int.reduceToNat,Int.reduceBEq,Int.reduceBNe,Nat.reduceAdd,Nat.reduceMul,Nat.reduceSub,Nat.reduceLeDiff]
   refine X12_4_ok ?_
   unfold X12_4
   simp (disch:=(first | omega | (simp only [beq_iff_eq,sz_push,sz_put,SC,Nat.reduceAdd,Nat.reduceLeDiff];done) | (simp only [beq_iff_eq,ne_eq,sz_push,sz_put];omega) | assumption | fail)) only [SXB,SX,reduceIte,Int.reduceLT,Int.reduceLE,Int.reduceToNat,Int.reduceBEq,Int.reduceBNe,Nat.reduceAdd,Nat.reduceMul,Nat.reduceSub,Nat.reduceLeDiff]
   refine lay_ok t.tw tr t.ok F.dir F.free (single_some.2 ⟨rfl,rfl⟩) (few_of t) hfδ hap (by omega) fun h' hs hfr tw=>?_
   simp (disch:=(first | omega | (simp only [beq_iff_eq,sz_push,sz_put,SC,Nat.reduceAdd,Nat.reduceLeDiff];done) | (simp only [beq_iff_eq,ne_eq,sz_push,sz_put];omega) | assumption | fail)) only [SXB,SX,reduceIte,Int.reduceLT,Int.reduceLE,Int.reduceToNat,Int.reduceBEq,Int.reduceBNe,Nat.reduceAdd,Nat.reduceMul,Nat.reduceSub,Nat.reduceLeDiff]
   refine X12_6_ok ?_
   unfold X12_6
   have hvl:validL (l++[nm])=true:=by
    have:=(join_ok (okL_okP F.ok)).1
    rw [F.parts] at this
    exact this
   have T:=t.lay (D:=[[]]) F.dir F.free (single_ok hb) (single_some.2 ⟨rfl,rfl⟩) (by rw [hw1];rfl) (fun d hd=>by rw [List.mem_singleton.1 hd,List.append_nil];exact hvl) (by simpa using hK) tw hs hfr (fun p s h1 hk=>by
    obtain ⟨_,rfl⟩:=single_some.1 h1
    have:=hn0 bt hk;omega)
   refine hq 0 h' _ _ T ⟨by omega,fun k hk hn=>hfr k hn⟩ (fun x s k hx hk=>?_) (by simp) ?_
   ·cases hwx:within (l++[nm]) x with
    | true =>
     rw [graft_in hwx] at hx
     obtain ⟨_,rfl⟩:=single_some.1 hx
     exact .inr (hn0 k hk)
    | false =>
     rw [graft_out hwx] at hx
     obtain ⟨r',h1,h2,_⟩:=addCK_own hx
     exact .inl ⟨x,r',h1,h2 ▸ hk⟩
   ·rw [hw1]
    refine Quo.lay (fun x q c hx hd=>?_) hd0
    obtain ⟨h1,h2⟩:=within_len hx
    rw [h2] at hd
    exact hr x.length (by omega) h1 q c hd
  ·simp (disch:=(first | omega | (simp only [beq_iff_eq,sz_push,sz_put,SC,Nat.reduceAdd,Nat.reduceLeDiff];done) | (simp only [beq_iff_eq,ne_eq,sz_push,sz_put];omega) | assumption | fail)) only [SXB,SX,reduceIte,Int.reduceLT,Int.reduceLE,Int.reduceToNat,Int.reduceBEq,Int.reduceBNe,Nat.reduceAdd,Nat.reduceMul,Nat.reduceSub,Nat.reduceLeDiff]
   refine X12_4_ok ?_
   unfold X12_4
   simp (disch:=(first | omega | (simp only [beq_iff_eq,sz_push,sz_put,SC,Nat.reduceAdd,Nat.reduceLeDiff];done) | (simp only [beq_iff_eq,ne_eq,sz_push,sz_put];omega) | assumption | fail)) only [SXB,SX,reduceIte,Int.reduceLT,Int.reduceLE,Int.reduceToNat,Int.reduceBEq,Int.reduceBNe,Nat.reduceAdd,Nat.reduceMul,Nat.reduceSub,Nat.reduceLeDiff]
   refine X12_6_ok ?_
   unfold X12_6
   exact no 74 (by decide)
 ·have he0:(e == 0)=false:=by simpa using he
  simp (disch:=(first | omega | (simp only [beq_iff_eq,sz_push,sz_put,SC,Nat.reduceAdd,Nat.reduceLeDiff];done) | (simp only [beq_iff_eq,ne_eq,sz_push,sz_put];omega) | assumption | fail)) only [he0,SXB,SX,reduceIte,Int.reduceLT,Int.reduceLE,Int.reduceToNat,Int.reduceBEq,Int.reduceBNe,Nat.reduceAdd,Nat.reduceMul,Nat.reduceSub,Nat.reduceLeDiff]
  refine X12_4_ok ?_
  unfold X12_4
  simp (disch:=(first | omega | (simp only [beq_iff_eq,sz_push,sz_put,SC,Nat.reduceAdd,Nat.reduceLeDiff];done) | (simp only [beq_iff_eq,ne_eq,sz_push,sz_put];omega) | assumption | fail)) only [he0,SXB,SX,reduceIte,Int.reduceLT,Int.reduceLE,Int.reduceToNat,Int.reduceBEq,Int.reduceBNe,Nat.reduceAdd,Nat.reduceMul,Nat.reduceSub,Nat.reduceLeDiff]
  refine X12_6_ok ?_
  unfold X12_6
  exact no e he
end Go.Proofs.YtgdnfoijhdpppaaDoor.L
end
