import Derived.Test.YtgdnfoijhdpppaaDoorZ23
set_option linter.unusedVariables false
set_option linter.unusedSimpArgs false
section
namespace Go.Proofs.YtgdnfoijhdpppaaDoor.L
open Go.Ab Go.Tr Go.Mh Go.Proofs.YtgdnfoijhdpppaaDoor.X
set_option maxRecDepth 100000
def Apart (σ δ:St):Prop:=∀ p q r s k,σ p=some r→δ q=some s→k ∈ own r→k ∈ own s→False
theorem TW.graft {h:AH} {lo:Nat} {σ δ:St} {l:Pt} {nm:Nm} {b m clk:Nat} {q c:Int} {ks:List (Nm × Nat)} {r0:Row} (t:TW h lo σ) (tδ:TW h lo δ) (hap:Apart σ δ) (hl:σ l=some (.dir b m clk q c ks))
  (hn:∀ p,within (l++[nm]) p=true→σ p=none) (hk:∀ x ∈ ks,x.1 ≠ nm) (hr0:δ []=some r0) :
  TW (h.put m (some (.map ((ks.map (ent σ l)).toArray.push { key:=.string (mkB nm),val:=ifcR r0,born:=clk }) (clk + 1),none))) lo (Tr.graft (l++[nm]) δ (addK l nm σ)):=by
 have inn:∀ p,within (l++[nm]) p=true→Tr.graft (l++[nm]) δ (addK l nm σ) p=δ (p.drop (l++[nm]).length):=fun p hp=>by unfold Tr.graft;rw [if_pos hp]
 have ino:∀ p,within (l++[nm]) p=false→Tr.graft (l++[nm]) δ (addK l nm σ) p=addK l nm σ p:=fun p hp=>by unfold Tr.graft;rw [if_neg (by rw [hp];exact Bool.false_ne_true)]
 have lnot:within (l++[nm]) l=false:=by
  cases h:within (l++[nm]) l with
  | false=>rfl
  | true=>have:=hn l h;rw [hl] at this;cases this
 have ik:∀ p,ifc (addK l nm σ p)=ifc (σ p):=by
  intro p
  unfold addK
  cases h:σ p with
  | none=>rfl
  | some r=>cases r with
   | file b sl o hd ps=>rfl
   | dir b m clk q c ks=>simp only;split <;> rfl
 have hm:m ∈ own (.dir b m clk q c ks):=by simp [own]
 -- what the rows of the new tree are
 have old:∀ p r,within (l++[nm]) p=false→Tr.graft (l++[nm]) δ (addK l nm σ) p=some r→∃ r',σ p=some r'∧own r' = own r∧(p ≠ l→r' = r):=by
  intro p r hp h
  rw [ino p hp] at h
  unfold addK at h
  split at h
  ·rename_i hs
   split at h
   ·rename_i e;cases h;exact ⟨_,hs,rfl,fun e2=>absurd e e2⟩
   ·cases h;exact ⟨_,hs,rfl,fun _=>rfl⟩
  ·exact ⟨r,h,rfl,fun _=>rfl⟩
 refine ⟨fun p r hp=>?_,fun p q r s k hp hq hr hs=>?_,fun p r k hp hr=>?_⟩
 ·cases hw:within (l++[nm]) p with
  | true =>
   rw [inn p hw] at hp
   have x:=(tδ.rows _ r hp).mono (h':=h.put m (some (.map ((ks.map (ent σ l)).toArray.push { key:=.string (mkB nm),val:=ifcR r0,born:=clk }) (clk + 1),none))) fun k hk=>get_put_ne fun e=>by
    subst e;exact hap _ _ _ _ k hl hp hm hk
   obtain ⟨y,rfl⟩:=Tr.within_iff.1 hw
   rw [List.drop_left] at x
   cases r with
   | file b sl o hd ps=>exact x
   | dir b2 m2 clk2 q2 c2 ks2 =>
    obtain ⟨h1,h2,h3⟩:=x
    refine ⟨h1,?_,h3⟩
    have e:ent (Tr.graft (l++[nm]) δ (addK l nm σ)) (l++[nm]++y)=ent δ y:=by
     funext z
     unfold ent
     rw [inn _ (by rw [List.append_assoc];exact within_app _ _),List.append_assoc,List.drop_left]
    rw [e];exact h2
  | false =>
   obtain ⟨r',h1,h2,h3⟩:=old p r hw hp
   by_cases e:p=l
   ·subst e
    rw [hl] at h1;cases h1
    rw [ino _ hw] at hp
    unfold addK at hp
    rw [hl] at hp
    simp only [if_true,Option.some.injEq] at hp
    subst hp
    obtain ⟨g1,g2,g3⟩:=t.dir hl
    refine ⟨by rw [get_put_ne g3];exact g1,?_,g3⟩
    rw [get_put_eq rfl]
    congr 2
    rw [List.push_toArray]
    congr 2
    rw [List.map_append]
    congr 1
    ·refine List.map_congr_left fun x hx=>?_
     unfold ent
     have:within (p++[nm]) (p++[x.1])=false:=by
      cases h:within (p++[nm]) (p++[x.1]) with
      | false=>rfl
      | true=>exact absurd (not_within_child hw h).2 (hk x hx)
     rw [ino _ this,ik]
    ·simp only [List.map_cons,List.map_nil]
     unfold ent
     rw [inn _ (within_refl _),List.drop_eq_nil_of_le (by simp),hr0]
     rfl
   ·rw [h3 e] at h1
    have x:=(t.rows p r h1).mono (h':=h.put m (some (.map ((ks.map (ent σ l)).toArray.push { key:=.string (mkB nm),val:=ifcR r0,born:=clk }) (clk + 1),none))) fun k hk=>get_put_ne fun e2=>by
     subst e2;exact e (t.apart _ _ _ _ k h1 hl hk hm)
    cases r with
    | file b sl o hd ps=>exact x
    | dir b2 m2 clk2 q2 c2 ks2 =>
     obtain ⟨x1,x2,x3⟩:=x
     refine ⟨x1,?_,x3⟩
     have e2:ent (Tr.graft (l++[nm]) δ (addK l nm σ)) p=ent σ p:=by
      funext z
      unfold ent
      have:within (l++[nm]) (p++[z.1])=false:=by
       cases h:within (l++[nm]) (p++[z.1]) with
       | false=>rfl
       | true=>exact absurd (not_within_child hw h).1 e
      rw [ino _ this,ik]
     rw [e2];exact x2
 ·cases hw:within (l++[nm]) p with
  | true =>
   rw [inn p hw] at hp
   cases hw2:within (l++[nm]) q with
   | true =>
    rw [inn q hw2] at hq
    have:=tδ.apart _ _ _ _ k hp hq hr hs
    rw [← drop_within hw,← drop_within hw2,this]
   | false =>
    obtain ⟨s',h1,h2,_⟩:=old q s hw2 hq
    exact (hap _ _ _ _ k h1 hp (h2 ▸ hs) hr).elim
  | false =>
   obtain ⟨r',h1,h2,_⟩:=old p r hw hp
   cases hw2:within (l++[nm]) q with
   | true =>
    rw [inn q hw2] at hq
    exact (hap _ _ _ _ k h1 hq (h2 ▸ hr) hs).elim
   | false =>
    obtain ⟨s',h3,h4,_⟩:=old q s hw2 hq
    exact t.apart _ _ _ _ k h1 h3 (h2 ▸ hr) (h4 ▸ hs)
 ·have hsz:∀ k,k < h.size→k < (h.put m (some (.map ((ks.map (ent σ l)).toArray.push { key:=.string (mkB nm),val:=ifcR r0,born:=clk }) (clk + 1),none))).size:=fun k hk=>by simpa using hk
  cases hw:within (l++[nm]) p with
  | true =>
   rw [inn p hw] at hp
   have:=tδ.bnd _ r k hp hr
   exact ⟨this.1,hsz _ this.2⟩
  | false =>
   obtain ⟨r',h1,h2,_⟩:=old p r hw hp
   have:=t.bnd _ r' k h1 (h2 ▸ hr)
   exact ⟨this.1,hsz _ this.2⟩
def Few (σ:St):Prop:=∀ p b m clk q c ks,σ p=some (.dir b m clk q c ks)→0 ≤ c∧c ≤ 1099511627776
theorem weight_step {h:AH} {lo:Nat} {δ:St} {r0:Row} (tδ:TW h lo δ) (hr0:δ []=some r0) (hf:Few δ) {k pk:Value→AH→Prop} (hk:k (.int .i64 (weightR r0)) h):invokeP Tryd.prog (ifcR r0) "mahout/tree.weight" [] h k pk:=by
 cases r0 with
 | file b sl o hd ps =>
  unfold ifcR
  rw [inv_fw]
  exact HC.exact fweight_ok hk
 | dir b m clk q c ks =>
  unfold ifcR
  rw [inv_dw]
  obtain ⟨c1,c2⟩:=hf _ _ _ _ _ _ _ hr0
  exact HC.exact (dweight_ok tδ hr0 c1 c2) hk
theorem weight_bnd {δ:St} {r0:Row} (hr0:δ []=some r0) (hf:Few δ):1 ≤ weightR r0∧weightR r0 ≤ 1099511627777:=by
 cases r0 with
 | file b sl o hd ps =>
  show (1:Int) ≤ 1∧(1:Int) ≤ 1099511627777
  omega
 | dir b m clk q c ks =>
  obtain ⟨c1,c2⟩:=hf _ _ _ _ _ _ _ hr0
  show (1:Int) ≤ 1 + c∧1 + c ≤ 1099511627777
  omega
theorem lay_loop {h0:AH} {lo:Nat} {σ δ:St} {K:List Pt} {l:Pt} {nm:Nm} {r0:Row} (o:OkD σ K) (hl:∃ b m clk q c ks,σ l=some (.dir b m clk q c ks)) (hn:σ (l++[nm])=none) (hr0:δ []=some r0) (hf:Few σ) (hfδ:Few δ) (hap:Apart σ δ)
  (h1048:l.length ≤ 1000000) {Q:Res→AH→Prop}
  (hq:∀ h',h'.size=h0.size→(∀ k,(∀ p r,σ p=some r→k ∉ own r)→h'.get k=h0.get k)→TW h' lo (Tr.graft (l++[nm]) δ (addK l nm (addC l (weightR r0) σ)))→Q (.ret (.tuple #[])) h') :
  ∀ (d i:Nat) (h:AH),i + d=l.length + 1→TW h lo (addCn l i (weightR r0) σ)→TW h lo δ→h.size=h0.size→(∀ k,(∀ p r,σ p=some r→k ∉ own r)→h.get k=h0.get k) →
   H23_1 (VSl (wayB σ (l++[nm]))) (.string (mkB nm)) (ifcR r0) (VSl (wayB σ (l++[nm]))) (.int .i64 ((l.length + 1:Nat):Int)) (.int .i64 (i:Nat)) h Q:=by
 obtain ⟨wb1,wb2⟩:=weight_bnd hr0 hfδ
 have hlen:(wayB σ (l++[nm])).length=l.length + 1:=by rw [wayB_len];simp
 have hdir:∀ i,i ≤ l.length→∃ b m clk q c ks,σ (l.take i)=some (.dir b m clk q c ks):=by
  intro i hi
  by_cases hc:i=l.length
  ·rw [hc,List.take_length];exact hl
  ·refine o.ups (l.drop i) _ (fun e=>?_) (by rw [List.take_append_drop];obtain ⟨_,_,_,_,_,_,h1⟩:=hl;rw [h1];rfl)
   have:=congrArg List.length e
   simp at this;omega
 intro d
 induction d with
 | zero =>
  intro i h hi t tδ hs hfr
  have ie:i=l.length + 1:=by omega
  subst ie
  refine X23_1_ok ?_
  unfold X23_1
  have e:¬ (((l.length + 1:Nat):Int) < ((l.length + 1:Nat):Int)):=by omega
  have hw:IntKind.wrap .i64 (((l.length + 1:Nat):Int) - 1)=((l.length:Nat):Int):=by rw [wrap64 (by omega) (by omega)];omega
  have e0:(0:Int) ≤ (l.length:Nat):=by omega
  obtain ⟨b,m,clk,q,c,ks,hd⟩:=hl
  have hb:blkAt σ l=b:=by unfold blkAt;rw [hd];rfl
  have er:(wayB σ (l++[nm]))[l.length]?=some (ptr b):=by
   rw [wayB_get (by simp),List.take_left' rfl,hb]
  rw [addCn_all] at t
  have hd2:=addC_of (l:=l) (w:=weightR r0) hd
  rw [within_refl,if_pos rfl] at hd2
  obtain ⟨g1,g2,g3⟩:=t.dir hd2
  have hk:∀ x ∈ ks,x.1 ≠ nm:=by
   intro x hx e
   have:=(o.kids _ _ _ _ _ _ _ hd nm).1 (List.mem_map.2 ⟨x,hx,e⟩)
   rw [hn] at this;cases this
  have hfk:opFind Tryd.prog 9 (.string (mkB nm)) (ks.map (ent (addC l (weightR r0) σ) l)).toArray false=some none:=by
   rw [find_kid,findW_none fun x hx=>beq_eq_false_iff_ne.2 (hk x hx)]
   rfl
  have hup:=mapUpdate_new (v:=ifcR r0) map_und g2 hfk
  have hn2:∀ p,within (l++[nm]) p=true→addC l (weightR r0) σ p=none:=fun p hp=>by
   have:(addC l (weightR r0) σ p).isSome=false:=by rw [addC_some,o.none_of hn hp];rfl
   simpa using this
  have hap2:Apart (addC l (weightR r0) σ) δ:=by
   intro p q r s k hp hq2 hr hs2
   obtain ⟨r',h1,h2,_⟩:=addCn_own (l:=l) (i:=l.length + 1) (w:=weightR r0) (by rw [addCn_all];exact hp)
   exact hap p q r' s k h1 hq2 (h2 ▸ hr) hs2
  have hfin:=TW.graft t tδ hap2 hd2 hn2 hk hr0
  simp (disch:=(first | omega | (simp only [beq_iff_eq,sz_push,sz_put,SC,Nat.reduceAdd,Nat.reduceLeDiff];done) | (simp only [beq_iff_eq,ne_eq,sz_push,sz_put];omega) | assumption | fail)) only [e,hlen,hw,e0,er,g1,hup,SXB,SX,reduceIte,Int.reduceLT,Int.reduceLE,Int.reduceToNat,Int.reduceBEq,Int.reduceBNe,Nat.reduceAdd,Nat.reduceMul,Nat.reduceSub,Nat.reduceLeDiff]
  refine hq _ (by rw [sz_put];exact hs) (fun k hk2=>?_) hfin
  rw [get_put_ne fun e=>hk2 l _ hd (by subst e;simp [own])]
  exact hfr k hk2
 | succ d ih =>
  intro i h hi t tδ hs hfr
  refine X23_1_ok ?_
  unfold X23_1
  have e:(i:Int) < ((l.length + 1:Nat):Int):=by omega
  have e0:(0:Int) ≤ (i:Nat):=by omega
  have ei:(i:Int) + 1=((i + 1:Nat):Int):=by omega
  obtain ⟨b,m,clk,q,c,ks,hd⟩:=hdir i (by omega)
  have hb:blkAt σ (l.take i)=b:=by unfold blkAt;rw [hd];rfl
  have er:(wayB σ (l++[nm]))[i]?=some (ptr b):=by
   rw [wayB_get (by simp;omega),List.take_append_of_le_length (by omega),hb]
  obtain ⟨c1,c2⟩:=hf _ _ _ _ _ _ _ hd
  have hd2:=addCn_at (w:=weightR r0) (by omega:i ≤ l.length) hd
  obtain ⟨g1,g2,g3⟩:=t.dir hd2
  have hw:IntKind.wrap .i64 (c + weightR r0)=c + weightR r0:=wrap64 (by omega) (by omega)
  simp (disch:=(first | omega | (simp only [beq_iff_eq,sz_push,sz_put,SC,Nat.reduceAdd,Nat.reduceLeDiff];done) | (simp only [beq_iff_eq,ne_eq,sz_push,sz_put];omega) | assumption | fail)) only [e,e0,er,g1,SXB,SX,reduceIte,Int.reduceLT,Int.reduceLE,Int.reduceToNat,Int.reduceBEq,Int.reduceBNe,Nat.reduceAdd,Nat.reduceMul,Nat.reduceSub,Nat.reduceLeDiff]
  refine weight_step tδ hr0 hfδ ?_
  simp (disch:=(first | omega | (simp only [beq_iff_eq,sz_push,sz_put,SC,Nat.reduceAdd,Nat.reduceLeDiff];done) | (simp only [beq_iff_eq,ne_eq,sz_push,sz_put];omega) | assumption | fail)) only [g1,hw,SXB,SX,reduceIte,Int.reduceLT,Int.reduceLE,Int.reduceToNat,Int.reduceBEq,Int.reduceBNe,Nat.reduceAdd,Nat.reduceMul,Nat.reduceSub,Nat.reduceLeDiff]
  rw [ei]
  have t2:=t.setDir (q':=q) (c':=c + weightR r0) hd2
  rw [addCn_succ (by omega) hd] at t2
  refine ih (i + 1) _ (by omega) t2 (tδ.mono (by simp) fun p r k hp hk=>get_put_ne fun e2=>?_) (by rw [sz_put];exact hs) fun k hk=>?_
  ·subst e2;exact hap _ _ _ _ k hd hp (by simp [own]) hk
  ·rw [get_put_ne fun e2=>hk _ _ hd (by subst e2;simp [own])]
   exact hfr k hk
theorem lay_ok {h:AH} {lo:Nat} {σ δ:St} {K:List Pt} {l:Pt} {nm:Nm} {r0:Row} (t:TW h lo σ) (tδ:TW h lo δ) (o:OkD σ K) (hl:∃ b m clk q c ks,σ l=some (.dir b m clk q c ks)) (hn:σ (l++[nm])=none) (hr0:δ []=some r0) (hf:Few σ) (hfδ:Few δ) (hap:Apart σ δ)
  (h1048:l.length ≤ 1000000) {Q:Res→AH→Prop}
  (hq:∀ h',h'.size=h.size→(∀ k,(∀ p r,σ p=some r→k ∉ own r)→h'.get k=h.get k)→TW h' lo (Tr.graft (l++[nm]) δ (addK l nm (addC l (weightR r0) σ)))→Q (.ret (.tuple #[])) h') :
  HC Tryd.prog 23 [VSl (wayB σ (l++[nm])),.string (mkB nm),ifcR r0].toArray h Q:=by
 refine X23_ok ?_
 unfold X23
 have hlen:(wayB σ (l++[nm])).length=l.length + 1:=by rw [wayB_len];simp
 simp (disch:=(first | omega | (simp only [beq_iff_eq,sz_push,sz_put,SC,Nat.reduceAdd,Nat.reduceLeDiff];done) | (simp only [beq_iff_eq,ne_eq,sz_push,sz_put];omega) | assumption | fail)) only [hlen,SXB,SX,reduceIte,Int.reduceLT,Int.reduceLE,Int.reduceToNat,Int.reduceBEq,Int.reduceBNe,Nat.reduceAdd,Nat.reduceMul,Nat.reduceSub,Nat.reduceLeDiff]
 exact lay_loop o hl hn hr0 hf hfδ hap h1048 hq (l.length + 1) 0 h (by omega) (by rw [addCn_zero];exact t) tδ rfl fun _ _=>rfl
end Go.Proofs.YtgdnfoijhdpppaaDoor.L
end
section
namespace Go.Proofs.YtgdnfoijhdpppaaDoor.L
open Go.Ab Go.Tr Go.Mh Go.Proofs.YtgdnfoijhdpppaaDoor.X
set_option maxRecDepth 100000
theorem TW.sub {h:AH} {lo:Nat} {σ:St} (t:TW h lo σ) (d:Pt):TW h lo (Tr.sub d σ):=by
 refine ⟨fun p r hp=>?_,fun p q r s k hp hq hr hs=>?_,fun p r k hp hr=>t.bnd _ r k hp hr⟩
 ·have x:=t.rows _ r hp
  cases r with
  | file b sl o hd ps=>exact x
  | dir b m clk q c ks =>
   obtain ⟨h1,h2,h3⟩:=x
   refine ⟨h1,?_,h3⟩
   have:ent (Tr.sub d σ) p=ent σ (d++p):=by
    funext z
    unfold ent Tr.sub
    rw [List.append_assoc]
   rw [this];exact h2
 ·exact List.append_cancel_left (t.apart _ _ _ _ k hp hq hr hs)
theorem eraseIdx_map' {α β:Type} (f:α→β):∀ (l:List α) (i:Nat),(l.map f).eraseIdx i=(l.eraseIdx i).map f
 | [],_=>rfl
 | _::_,0=>rfl
 | a::l,i + 1=>by
  rw [List.map_cons,List.eraseIdx_cons_succ,List.eraseIdx_cons_succ,List.map_cons,eraseIdx_map' f l i]
theorem erase_filter {ks:List (Nm × Nat)} (hn:(ks.map (·.1)).Nodup) {i:Nat} {y:Nm × Nat} (hi:ks[i]?=some y):ks.eraseIdx i=ks.filter fun x=>!(x.1 == y.1):=by
 induction ks generalizing i with
 | nil=>simp at hi
 | cons x ks ih =>
  rw [List.map_cons,List.nodup_cons] at hn
  cases i with
  | zero =>
   simp at hi
   subst hi
   rw [List.eraseIdx_cons_zero,List.filter_cons]
   simp only [beq_self_eq_true,Bool.not_true,Bool.false_eq_true,if_false]
   exact (List.filter_eq_self.2 fun z hz=>by
    rw [Bool.not_eq_true',beq_eq_false_iff_ne]
    intro e
    exact hn.1 (List.mem_map.2 ⟨z,hz,e⟩)).symm
  | succ i =>
   rw [List.getElem?_cons_succ] at hi
   rw [List.eraseIdx_cons_succ,List.filter_cons,ih hn.2 hi]
   have:x.1 ≠ y.1:=fun e=>hn.1 (List.mem_map.2 ⟨y,List.mem_of_getElem? hi,e.symm⟩)
   simp [beq_eq_false_iff_ne.2 this]
theorem TW.prune {h:AH} {lo:Nat} {σ:St} {l:Pt} {nm:Nm} {b m clk:Nat} {q c:Int} {ks:List (Nm × Nat)} (t:TW h lo σ) (hl:σ l=some (.dir b m clk q c ks)) :
  TW (h.put m (some (.map ((ks.filter fun x=>!(x.1 == nm)).map (ent σ l)).toArray clk,none))) lo (Tr.prune (l++[nm]) (delK l nm σ)) ∧
   TW (h.put m (some (.map ((ks.filter fun x=>!(x.1 == nm)).map (ent σ l)).toArray clk,none))) lo (Tr.sub (l++[nm]) σ)∧Apart (Tr.prune (l++[nm]) (delK l nm σ)) (Tr.sub (l++[nm]) σ):=by
 have inn:∀ p,within (l++[nm]) p=true→Tr.prune (l++[nm]) (delK l nm σ) p=none:=fun p hp=>by unfold Tr.prune;rw [if_pos hp]
 have ino:∀ p,within (l++[nm]) p=false→Tr.prune (l++[nm]) (delK l nm σ) p=delK l nm σ p:=fun p hp=>by unfold Tr.prune;rw [if_neg (by rw [hp];exact Bool.false_ne_true)]
 have lnot:within (l++[nm]) l=false:=by
  cases h:within (l++[nm]) l with
  | false=>rfl
  | true =>
   obtain ⟨r,hr⟩:=Tr.within_iff.1 h
   have:=congrArg List.length hr
   simp at this
 have ik:∀ p,ifc (delK l nm σ p)=ifc (σ p):=by
  intro p
  unfold delK
  cases h:σ p with
  | none=>rfl
  | some r=>cases r with
   | file b sl o hd ps=>rfl
   | dir b m clk q c ks=>simp only;split <;> rfl
 have hm:m ∈ own (.dir b m clk q c ks):=by simp [own]
 have old:∀ p r,Tr.prune (l++[nm]) (delK l nm σ) p=some r→within (l++[nm]) p=false∧∃ r',σ p=some r'∧own r' = own r∧(p ≠ l→r' = r):=by
  intro p r h
  cases hw:within (l++[nm]) p with
  | true=>rw [inn p hw] at h;cases h
  | false =>
   refine ⟨rfl,?_⟩
   rw [ino p hw] at h
   unfold delK at h
   split at h
   ·rename_i hs
    split at h
    ·rename_i e;cases h;exact ⟨_,hs,rfl,fun e2=>absurd e e2⟩
    ·cases h;exact ⟨_,hs,rfl,fun _=>rfl⟩
   ·exact ⟨r,h,rfl,fun _=>rfl⟩
 have hsz:∀ k,k < h.size→k < (h.put m (some (.map ((ks.filter fun x=>!(x.1 == nm)).map (ent σ l)).toArray clk,none))).size:=fun k hk=>by simpa using hk
 refine ⟨⟨fun p r hp=>?_,fun p q r s k hp hq hr hs=>?_,fun p r k hp hr=>?_⟩,(t.sub (l++[nm])).mono (by simp) fun p r k hp hk=>get_put_ne fun e=>?_,fun p q r s k hp hq hr hs=>?_⟩
 ·obtain ⟨hw,r',h1,h2,h3⟩:=old p r hp
  by_cases e:p=l
  ·subst e
   rw [hl] at h1;cases h1
   rw [ino _ hw] at hp
   unfold delK at hp
   rw [hl] at hp
   simp only [if_true,Option.some.injEq] at hp
   subst hp
   obtain ⟨g1,g2,g3⟩:=t.dir hl
   refine ⟨by rw [get_put_ne g3];exact g1,?_,g3⟩
   rw [get_put_eq rfl]
   congr 2
   congr 2
   refine List.map_congr_left fun x hx=>?_
   have hx2:=(List.mem_filter.1 hx).2
   rw [Bool.not_eq_true',beq_eq_false_iff_ne] at hx2
   unfold ent
   have:within (p++[nm]) (p++[x.1])=false:=by
    cases h:within (p++[nm]) (p++[x.1]) with
    | false=>rfl
    | true=>exact absurd (not_within_child hw h).2 hx2
   rw [ino _ this,ik]
  ·rw [h3 e] at h1
   have x:=(t.rows p r h1).mono (h':=h.put m (some (.map ((ks.filter fun x=>!(x.1 == nm)).map (ent σ l)).toArray clk,none))) fun k hk=>get_put_ne fun e2=>by
    subst e2;exact e (t.apart _ _ _ _ k h1 hl hk hm)
   cases r with
   | file b sl o hd ps=>exact x
   | dir b2 m2 clk2 q2 c2 ks2 =>
    obtain ⟨x1,x2,x3⟩:=x
    refine ⟨x1,?_,x3⟩
    have e2:ent (Tr.prune (l++[nm]) (delK l nm σ)) p=ent σ p:=by
     funext z
     unfold ent
     have:within (l++[nm]) (p++[z.1])=false:=by
      cases h:within (l++[nm]) (p++[z.1]) with
      | false=>rfl
      | true=>exact absurd (not_within_child hw h).1 e
     rw [ino _ this,ik]
    rw [e2];exact x2
 ·obtain ⟨_,r',h1,h2,_⟩:=old p r hp
  obtain ⟨_,s',h3,h4,_⟩:=old q s hq
  exact t.apart _ _ _ _ k h1 h3 (h2 ▸ hr) (h4 ▸ hs)
 ·obtain ⟨_,r',h1,h2,_⟩:=old p r hp
  have:=t.bnd _ r' k h1 (h2 ▸ hr)
  exact ⟨this.1,hsz _ this.2⟩
 ·subst e
  have:=congrArg List.length (t.apart _ _ _ _ k hp hl hk hm)
  simp at this
 ·obtain ⟨hw,r',h1,h2,_⟩:=old p r hp
  have:=t.apart _ _ _ _ k h1 hq (h2 ▸ hr) hs
  rw [this,within_app] at hw
  cases hw
theorem sub_addCn {l:Pt} {nm:Nm} {i:Nat} {w:Int} {σ:St}:Tr.sub (l++[nm]) (addCn l i w σ)=Tr.sub (l++[nm]) σ:=by
 funext p
 unfold Tr.sub addCn
 have:within (l++[nm]++p) l=false:=by
  cases h:within (l++[nm]++p) l with
  | false=>rfl
  | true =>
   obtain ⟨r,hr⟩:=Tr.within_iff.1 h
   have:=congrArg List.length hr
   simp at this
 split
 ·rename_i hs;rw [hs,this];simp
 ·rfl
theorem take_loop {h0:AH} {lo:Nat} {σ:St} {K:List Pt} {l:Pt} {nm:Nm} {r0:Row} (o:OkD σ K) (hr0:σ (l++[nm])=some r0) (hf:Few σ)
  (h1048:l.length ≤ 1000000) {Q:Res→AH→Prop}
  (hq:∀ h',h'.size=h0.size→(∀ k,(∀ p r,σ p=some r→k ∉ own r)→h'.get k=h0.get k)→TW h' lo (Tr.prune (l++[nm]) (delK l nm (addC l (-weightR r0) σ)))→TW h' lo (Tr.sub (l++[nm]) σ) →
   Apart (Tr.prune (l++[nm]) (delK l nm (addC l (-weightR r0) σ))) (Tr.sub (l++[nm]) σ)→Q (.ret (.tuple #[])) h') :
  ∀ (d i:Nat) (h:AH),i + d=l.length + 1→TW h lo (addCn l i (-weightR r0) σ)→h.size=h0.size→(∀ k,(∀ p r,σ p=some r→k ∉ own r)→h.get k=h0.get k) →
   H27_1 (VSl (wayB σ (l++[nm]))) (.string (mkB nm)) (ifcR r0) (VSl (wayB σ (l++[nm]))) (.int .i64 ((l.length + 1:Nat):Int)) (.int .i64 (i:Nat)) h Q:=by
 have hfδ:Few (Tr.sub (l++[nm]) σ):=fun p b m clk q c ks hp=>hf _ _ _ _ _ _ _ hp
 have hr0':Tr.sub (l++[nm]) σ []=some r0:=by unfold Tr.sub;rw [List.append_nil];exact hr0
 obtain ⟨wb1,wb2⟩:=weight_bnd hr0' hfδ
 have hlen:(wayB σ (l++[nm])).length=l.length + 1:=by rw [wayB_len];simp
 have hdir:∀ i,i ≤ l.length→∃ b m clk q c ks,σ (l.take i)=some (.dir b m clk q c ks):=by
  intro i hi
  refine o.ups (l.drop i++[nm]) _ (by simp) ?_
  rw [← List.append_assoc,List.take_append_drop,hr0];rfl
 intro d
 induction d with
 | zero =>
  intro i h hi t hs hfr
  have ie:i=l.length + 1:=by omega
  subst ie
  refine X27_1_ok ?_
  unfold X27_1
  have e:¬ (((l.length + 1:Nat):Int) < ((l.length + 1:Nat):Int)):=by omega
  have hw:IntKind.wrap .i64 (((l.length + 1:Nat):Int) - 1)=((l.length:Nat):Int):=by rw [wrap64 (by omega) (by omega)];omega
  have e0:(0:Int) ≤ (l.length:Nat):=by omega
  obtain ⟨b,m,clk,q,c,ks,hd⟩:=hdir l.length (Nat.le_refl _)
  rw [List.take_length] at hd
  have hb:blkAt σ l=b:=by unfold blkAt;rw [hd];rfl
  have er:(wayB σ (l++[nm]))[l.length]?=some (ptr b):=by
   rw [wayB_get (by simp),List.take_left' rfl,hb]
  have hsub:=sub_addCn (l:=l) (nm:=nm) (i:=l.length + 1) (w:=-weightR r0) (σ:=σ)
  rw [addCn_all] at t hsub
  have hd2:=addC_of (l:=l) (w:=-weightR r0) hd
  rw [within_refl,if_pos rfl] at hd2
  obtain ⟨g1,g2,g3⟩:=t.dir hd2
  obtain ⟨x,hx,hxn⟩:=List.mem_map.1 ((o.kids _ _ _ _ _ _ _ hd nm).2 (by rw [hr0];rfl))
  obtain ⟨j,y,e1,e2,e3⟩:=findW_mem (p:=fun x=>x.1 == nm) hx (by simpa using hxn)
  have hj:=(findW_at e1).1
  have hyn:y.1=nm:=by simpa using e3
  have hfk:opFind Tryd.prog 9 (.string (mkB nm)) (ks.map (ent (addC l (-weightR r0) σ) l)).toArray ((ks.map (ent (addC l (-weightR r0) σ) l)).toArray.isEmpty)=some (some (j,(ent (addC l (-weightR r0) σ) l y).val)):=by
   rw [find_kid,e1]
   rfl
  have her:(ks.map (ent (addC l (-weightR r0) σ) l)).toArray.eraseIdxIfInBounds j=((ks.filter fun x=>!(x.1 == nm)).map (ent (addC l (-weightR r0) σ) l)).toArray:=by
   rw [List.eraseIdxIfInBounds_toArray]
   congr 1
   rw [← hyn,← erase_filter (o.knod _ _ _ _ _ _ _ hd) hj,eraseIdx_map']
  have hdel:opDelete Tryd.prog h 65 (.map (some m)) (.string (mkB nm))=some (h.put m (some (.map ((ks.filter fun x=>!(x.1 == nm)).map (ent (addC l (-weightR r0) σ) l)).toArray clk,none))):=by
   unfold opDelete
   rw [map_und]
   simp only [g2,hfk,her]
  obtain ⟨p1,p2,p3⟩:=TW.prune (nm:=nm) t hd2
  rw [hsub] at p2 p3
  simp (disch:=(first | omega | (simp only [beq_iff_eq,sz_push,sz_put,SC,Nat.reduceAdd,Nat.reduceLeDiff];done) | (simp only [beq_iff_eq,ne_eq,sz_push,sz_put];omega) | assumption | fail)) only [e,hlen,hw,e0,er,g1,hdel,SXB,SX,reduceIte,Int.reduceLT,Int.reduceLE,Int.reduceToNat,Int.reduceBEq,Int.reduceBNe,Nat.reduceAdd,Nat.reduceMul,Nat.reduceSub,Nat.reduceLeDiff]
  refine hq _ (by rw [sz_put];exact hs) (fun k hk2=>?_) p1 p2 p3
  rw [get_put_ne fun e=>hk2 l _ hd (by subst e;simp [own])]
  exact hfr k hk2
 | succ d ih =>
  intro i h hi t hs hfr
  refine X27_1_ok ?_
  unfold X27_1
  have e:(i:Int) < ((l.length + 1:Nat):Int):=by omega
  have e0:(0:Int) ≤ (i:Nat):=by omega
  have ei:(i:Int) + 1=((i + 1:Nat):Int):=by omega
  obtain ⟨b,m,clk,q,c,ks,hd⟩:=hdir i (by omega)
  have hb:blkAt σ (l.take i)=b:=by unfold blkAt;rw [hd];rfl
  have er:(wayB σ (l++[nm]))[i]?=some (ptr b):=by
   rw [wayB_get (by simp;omega),List.take_append_of_le_length (by omega),hb]
  obtain ⟨c1,c2⟩:=hf _ _ _ _ _ _ _ hd
  have hd2:=addCn_at (w:=-weightR r0) (by omega:i ≤ l.length) hd
  obtain ⟨g1,g2,g3⟩:=t.dir hd2
  have hw:IntKind.wrap .i64 (c - weightR r0)=c + -weightR r0:=wrap64 (by omega) (by omega)
  have tδ:=t.sub (l++[nm])
  rw [sub_addCn] at tδ
  simp (disch:=(first | omega | (simp only [beq_iff_eq,sz_push,sz_put,SC,Nat.reduceAdd,Nat.reduceLeDiff];done) | (simp only [beq_iff_eq,ne_eq,sz_push,sz_put];omega) | assumption | fail)) only [e,e0,er,g1,SXB,SX,reduceIte,Int.reduceLT,Int.reduceLE,Int.reduceToNat,Int.reduceBEq,Int.reduceBNe,Nat.reduceAdd,Nat.reduceMul,Nat.reduceSub,Nat.reduceLeDiff]
  refine weight_step tδ hr0' hfδ ?_
  simp (disch:=(first | omega | (simp only [beq_iff_eq,sz_push,sz_put,SC,Nat.reduceAdd,Nat.reduceLeDiff];done) | (simp only [beq_iff_eq,ne_eq,sz_push,sz_put];omega) | assumption | fail)) only [g1,hw,SXB,SX,reduceIte,Int.reduceLT,Int.reduceLE,Int.reduceToNat,Int.reduceBEq,Int.reduceBNe,Nat.reduceAdd,Nat.reduceMul,Nat.reduceSub,Nat.reduceLeDiff]
  rw [ei]
  have t2:=t.setDir (q':=q) (c':=c + -weightR r0) hd2
  rw [addCn_succ (by omega) hd] at t2
  refine ih (i + 1) _ (by omega) t2 (by rw [sz_put];exact hs) fun k hk=>?_
  rw [get_put_ne fun e2=>hk _ _ hd (by subst e2;simp [own])]
  exact hfr k hk
theorem take_ok {h:AH} {lo:Nat} {σ:St} {K:List Pt} {l:Pt} {nm:Nm} {r0:Row} (t:TW h lo σ) (o:OkD σ K) (hr0:σ (l++[nm])=some r0) (hf:Few σ)
  (h1048:l.length ≤ 1000000) {Q:Res→AH→Prop}
  (hq:∀ h',h'.size=h.size→(∀ k,(∀ p r,σ p=some r→k ∉ own r)→h'.get k=h.get k)→TW h' lo (Tr.prune (l++[nm]) (delK l nm (addC l (-weightR r0) σ)))→TW h' lo (Tr.sub (l++[nm]) σ) →
   Apart (Tr.prune (l++[nm]) (delK l nm (addC l (-weightR r0) σ))) (Tr.sub (l++[nm]) σ)→Q (.ret (.tuple #[])) h') :
  HC Tryd.prog 27 [VSl (wayB σ (l++[nm])),.string (mkB nm),ifcR r0].toArray h Q:=by
 refine X27_ok ?_
 unfold X27
 have hlen:(wayB σ (l++[nm])).length=l.length + 1:=by rw [wayB_len];simp
 simp (disch:=(first | omega | (simp only [beq_iff_eq,sz_push,sz_put,SC,Nat.reduceAdd,Nat.reduceLeDiff];done) | (simp only [beq_iff_eq,ne_eq,sz_push,sz_put];omega) | assumption | fail)) only [hlen,SXB,SX,reduceIte,Int.reduceLT,Int.reduceLE,Int.reduceToNat,Int.reduceBEq,Int.reduceBNe,Nat.reduceAdd,Nat.reduceMul,Nat.reduceSub,Nat.reduceLeDiff]
 exact take_loop o hr0 hf h1048 hq (l.length + 1) 0 h (by omega) (by rw [addCn_zero];exact t) rfl fun _ _=>rfl
end Go.Proofs.YtgdnfoijhdpppaaDoor.L
end
