import Derived.RangeFuncNested
import Derived.RecoverIn
import Derived.Test.YtgdnfoijhdpppaaDoorZ13
import Derived.Test.YtgdnfoijhdpppaaDoorZ15
set_option linter.unusedVariables false
set_option linter.unusedSimpArgs false
section
namespace Go.Ab
open Region
theorem sufTrans {α:Type} {a b c:List α} (h:b <:+ c) (g:a <:+ b):a <:+ c:=g.trans h
def okW (P:Program) (ops:Array Oper) (pl order:List Nat):Bool:=order.length == ops.size && (List.range ops.size).all order.contains && okY P ops pl [] order
def plW (n:Nat) (pl:List Nat) (x y:Nat):List Nat:=(List.range n).map fun k=>if k == y || inPl pl k y then pl.getD k 0 ||| ((1 <<< x) ||| pl.getD x 0) else pl.getD k 0
theorem plW_in {n:Nat} {pl:List Nat} {x y i j:Nat} (h:inPl (plW n pl x y) i j=true):inPl pl i j=true ∨ ((i=y ∨ inPl pl i y=true)∧(j=x ∨ inPl pl x j=true)):=by
 unfold inPl plW at h
 by_cases hi:i < n
 ·rw [List.getD_eq_getElem?_getD,List.getElem?_map,List.getElem?_range hi,Option.map_some,Option.getD_some] at h
  split at h
  ·rename_i hc
   rw [Nat.testBit_or,Nat.testBit_or,Bool.or_eq_true,Bool.or_eq_true] at h
   have hc':i=y ∨ inPl pl i y=true:=by simpa using hc
   rcases h with h | h | h
   ·exact .inl h
   ·exact .inr ⟨hc',.inl (bit_one h).symm⟩
   ·exact .inr ⟨hc',.inr h⟩
  ·exact .inl h
 ·rw [List.getD_eq_getElem?_getD,List.getElem?_eq_none (by simp;omega)] at h
  simp at h
section
variable {P:Program} {ops:Array Oper}
theorem draw_core {order pl:List Nat} (hokw:okW P ops pl order=true) {m:Region.Mode} {L:List Nat} (hgL:Good m ops L) (hlL:L.length=ops.size) (ahead:∀ i l,(i::l) <:+ L→∀ j,inPl pl i j=true→j ∈ l)
  {a0:AA} {h0:AH} {Q:AA→AH→Prop} {PK:Value→AH→Prop} (hh:wpY P ops pl order [] a0 h0 Q PK) {ro:Option Nat} {D:List Deferred} {E:Ren} {w:World} {x:Act}
  {W:Exit→Act→World→Prop} (r:RW P E h0 w) (rt:RT E a0 x.tmps) (hdf:x.defers=D)
  (hQ:∀ a₂ h₂ E' w' y,Q a₂ h₂→a₂.rnd=a0.rnd→RW P E' h₂ w'→Ext E w E' w'→RT E' a₂ y.tmps→y.defers=D→W .normal y w')
  (hP:∀ v v' h' E' w' y,PK v h'→RW P E' h' w'→Ext E w E' w'→RT E' (a0.less (dstsOf ops)) y.tmps→y.defers=D→RV E' v v'→W (.panic [{ v:=v',recovered:=false }]) y w') :
  wpOpsR ro P ops W L.reverse x { w with drawn:=w.drawn + 1 }:=by
 unfold okW at hokw
 simp only [Bool.and_eq_true,beq_iff_eq] at hokw
 obtain ⟨⟨hlen,hall⟩,hok⟩:=hokw
 have hmem:∀ i,i < ops.size→i ∈ order:=fun i hi=>by have:=List.all_eq_true.1 hall i (List.mem_range.2 hi);simpa using this
 have at_:=fun p i r e=>okY_at order [] hok p i r e
 have hone:oneY ops a0.n:=by
  intro i j t ⟨o,h1,h2,h3⟩ ⟨o',g1,g2,g3⟩
  apply Classical.byContradiction
  intro hne
  have hi:i ∈ order:=hmem i (Array.getElem?_eq_some_iff.1 h1).1
  obtain ⟨p,q,e⟩:=List.append_of_mem hi
  obtain ⟨y,k1,_,_,_,_,k2⟩:=at_ p i q e
  rw [h1] at k1;cases k1
  exact (k2 j o' t g1 (fun e=>hne e.symm) g2).1 h2
 -- what an operation reads,whatever has run
 have hreads:∀ {acc p:List Nat} {i:Nat} {q:List Nat} {o:Oper},Good m ops (i::acc)→(i::acc) <:+ L→order=p++i::q→ops[i]?=some o→∀ t ∈ readsOf ops o,∀ j,wrY ops a0.n t j→(j ∈ p ↔ j ∈ acc):=by
  intro acc p i q o hg hsf e ho t ht j ⟨y,hy,hd,hlt⟩
  obtain ⟨o',k1,_,k3,k4,_,k6⟩:=at_ p i q e
  rw [ho] at k1;cases k1
  simp only [List.append_nil,List.mem_reverse] at k3 k4
  by_cases hji:j=i
  ·subst hji
   exact ⟨fun h=>absurd h k4,fun h=>absurd h hg.2.1⟩
  ·rcases (k6 j y t hy hji hd).2 ht with h | h
   ·exact ⟨fun _=>ahead i acc hsf j h,fun _=>k3 j h⟩
   ·refine ⟨fun hp=>?_,fun ha=>?_⟩
    ·
     obtain ⟨p1,p2,rfl⟩:=List.append_of_mem hp
     obtain ⟨_,_,_,z3,_⟩:=at_ p1 j (p2++i::q) (by rw [e];simp)
     have:=z3 i h
     simp only [List.append_nil,List.mem_reverse] at this
     exact absurd (by simp [this]) k4
    ·obtain ⟨l1,l2,rfl⟩:=List.append_of_mem ha
     have:=ahead j l2 (sufTrans hsf ⟨i::l1,by simp⟩) i h
     exact absurd (by simp [this]) hg.2.1
 have hput:∀ (y:Act) (d:Option Tmp) (v:Value),(y.put d v).defers=y.defers:=fun y d v=>by cases d <;> rfl
 have go:∀ (todo acc:List Nat),todo.reverse++acc=L→Good m ops (todo.reverse++acc)→(todo.reverse++acc).length=ops.size→∀ pre rest pend val a h E' w' y aS,InvY P ops order pl a0 Q PK acc pre rest pend val a h →
   (rest=[] ∨ ∃ i r o,rest=i::r∧ops[i]?=some o∧loud P o=true)→AtY ops a0 acc val aS→RW P E' h w'→Ext E w E' w'→RT E' aS y.tmps→y.defers=D→wpOpsR ro P ops W todo y w':=by
  intro todo
  induction todo with
  | nil =>
   intro acc hLe hg hl pre rest pend val a h E' w' y aS x hr hA rw' xe rt' hd
   simp only [List.reverse_nil,List.nil_append] at hg hl
   have hall':∀ k,k < ops.size→k ∈ acc:=by
    intro k hk
    apply Classical.byContradiction
    intro hc
    have hsub:∀ j ∈ k::acc,j ∈ List.range ops.size:=by
     intro j hj
     cases hj with
     | head=>exact List.mem_range.2 hk
     | tail _ hj=>exact List.mem_range.2 (hg.lt j hj)
    have:=(List.nodup_cons.2 ⟨hc,hg.nodup⟩).length_le_of_subset hsub
    rw [List.length_range,List.length_cons] at this
    omega
   have hrest:rest=[]:=by
    rcases hr with h | ⟨i,r,o,rfl,ho,hl⟩
    ·exact h
    ·have hi:=hall' i (Array.getElem?_eq_some_iff.1 ho).1
     obtain ⟨_,_,_,_,k4,_⟩:=at_ pre i r x.ord
     simp only [List.append_nil,List.mem_reverse] at k4
     exact absurd (x.sub i hi) k4
   subst hrest
   have hrun:Q a h:=x.run
   simp only [wpOpsR]
   refine hQ a h E' w' y hrun x.aty.rnd rw' xe (rt'.agree (by rw [x.aty.n,hA.n]) fun t v hv=>?_) hd
   have:=x.aty.reads hA (R:=[t]) (fun t _ j hj=>?_) t (by simp)
   ·rw [← this];exact hv
   ·obtain ⟨o,ho,_⟩:=hj
    have hlt:=(Array.getElem?_eq_some_iff.1 ho).1
    have:=hmem j hlt
    rw [x.ord,List.append_nil] at this
    exact ⟨fun _=>hall' j hlt,fun _=>this⟩
  | cons i todo ih =>
   intro acc hLe hg hl pre rest pend val a h E' w' y aS x hr hA rw' xe rt' hd
   have hg':Good m ops (todo.reverse++(i::acc)):=by simpa using hg
   have hl':(todo.reverse++(i::acc)).length=ops.size:=by simpa using hl
   have hgi:Good m ops (i::acc):=hg'.drop
   have hLe':todo.reverse++(i::acc)=L:=by simpa using hLe
   have hsf:(i::acc) <:+ L:=⟨todo.reverse,hLe'⟩
   obtain ⟨o,hoi,_⟩:=hgi.2.2
   have hacc:i ∉ acc:=hgi.2.1
   simp only [wpOpsR,hoi]
   by_cases hip:i ∈ pre
   ·
    obtain ⟨p,q,hpq⟩:=List.append_of_mem hip
    obtain ⟨o',k1,k2⟩:=x.quiet p i q hpq hacc
    rw [hoi] at k1;cases k1
    have hord:order=p++i::(q++rest):=by rw [x.ord,hpq];simp
    have hq:QStep P ops o aS h (val i):=by
     -- an activation in which just these have run
     obtain ⟨b,hb⟩:∃ b,AtY ops a0 p val b:=by
      clear hpq hord k2
      induction p with
      | nil=>exact ⟨a0,rfl,rfl,(fun t j hj=>nomatch hj),fun t _=>rfl⟩
      | cons j p ihp =>
       obtain ⟨b,hb⟩:=ihp
       by_cases hjp:j ∈ p
       ·exact ⟨b,hb.n,hb.rnd,fun t k hk hw=>hb.wr t k (by cases hk with | head=>exact hjp | tail _ h=>exact h) hw,fun t hno=>hb.no t fun k hk=>hno k (by simp [hk])⟩
       ·cases hoj:ops[j]? with
        | none=>exact ⟨b,hb.n,hb.rnd,fun t k hk hw=>hb.wr t k (by
          cases hk with
          | head=>obtain ⟨z,hz,_⟩:=hw;rw [hoj] at hz;cases hz
          | tail _ h=>exact h) hw,fun t hno=>hb.no t fun k hk=>hno k (by simp [hk])⟩
        | some z=>exact ⟨_,hb.put hone hoj hjp (v:=val j) rfl⟩
     exact (k2 b hb).congr (by rw [hb.n,hA.n]) fun t ht=>hb.reads hA (hreads hgi hsf hord hoi) t ht
    have hx':InvY P ops order pl a0 Q PK (i::acc) pre rest pend val a h:=⟨x.ord,x.run,x.aty,fun j hj=>by
      cases hj with
      | head=>exact hip
      | tail _ h=>exact x.sub j h,fun p j r e hj=>x.quiet p j r e fun h=>hj (by simp [h]),fun p j r e hj=>x.pnd p j r e fun h=>hj (by simp [h]),x.pin⟩
    have hA':=hA.put hone hoi hacc (v:=val i) rfl
    rw [← rt'.yielded ops hq.1]
    rcases hq.2 with ⟨hw,hv⟩ | ⟨hw,habs⟩
    ·rw [if_neg (by rw [hw];simp)]
     rw [hv] at hA'
     exact ih (i::acc) hLe' hg' hl' pre rest pend val a h E' w' _ _ hx' hr hA' rw' xe (rt'.put o.dst rv_undef) (by rw [hput];exact hd)
    ·rw [if_pos hw]
     obtain ⟨E2,v',w2,h1,h2,h3,h4⟩:=absOp_ok rw' (rt'.opnd rw') habs
     exact wpR_value (abs_nodefer habs) h1 (ih (i::acc) hLe' hg' hl' pre rest pend val a h E2 w2 _ _ hx' hr hA' h2 (xe.trans h3) ((rt'.mono h3.le).put o.dst h4) (by rw [hput];exact hd))
   ·
    have hio:i ∈ pre++rest:=by rw [← x.ord];exact hmem i (Array.getElem?_eq_some_iff.1 hoi).1
    have hir:i ∈ rest:=by simpa [hip] using hio
    obtain ⟨rest',hrest⟩:∃ rest',rest=i::rest':=by
     rcases hr with h | ⟨i0,r0,o0,h,ho0,hl0⟩
     ·rw [h] at hir;cases hir
     ·rw [h] at hir
      cases hir with
      | head=>exact ⟨r0,h⟩
      | tail _ hir =>
       obtain ⟨p',q',e⟩:=List.append_of_mem hir
       obtain ⟨_,_,_,_,_,k5,_⟩:=at_ (pre++i0::p') i q' (by rw [x.ord,h,e];simp)
       obtain ⟨y0,hy0,hy1⟩:=k5 i0 (by simp)
       rw [ho0] at hy0;cases hy0
       have:i0 ∈ acc:=ahead i acc hsf i0 (hy1 hl0)
       obtain ⟨_,_,_,_,z4,_⟩:=at_ pre i0 r0 (by rw [x.ord,h])
       simp only [List.append_nil,List.mem_reverse] at z4
       exact absurd (x.sub i0 this) z4
    subst hrest
    obtain ⟨o',k1,k2,k3,k4,k5,k6⟩:=at_ pre i rest' x.ord
    rw [hoi] at k1;cases k1
    simp only [List.append_nil,List.mem_reverse] at k3 k4
    have hlo:loud P o=true:=by
     rcases hr with h | ⟨i0,r0,o0,h,ho0,hl0⟩
     ·cases h
     ·cases h;rw [hoi] at ho0;cases ho0;exact hl0
    have hrun:=x.run
    unfold wpY at hrun
    rw [hoi] at hrun
    simp only [hlo] at hrun
    obtain ⟨c1,c2⟩:=stepY_cases k2 hrun
    obtain ⟨e1,e2,e3⟩:=know_congr (P:=P) (o:=o) (a:=a) (b:=aS) (by rw [x.aty.n,hA.n]) fun t ht=>x.aty.reads hA (hreads hgi hsf x.ord hoi) t ht
    rw [← rt'.yielded ops (by rw [← e1];exact c1),← e2]
    -- behind it
    have next:∀ {v:Value} {h':AH} {E2:Ren} {w2:World} {v':Value},(againY P ops (pend.filter fun x=>!inPl pl i x.1) h'∧wpY P ops pl rest' (pend.filter fun x=>!inPl pl i x.1) (a.put o.dst v) h' Q PK) →
      RW P E2 h' w2→Ext E' w' E2 w2→RV E2 v v'→wpOpsR ro P ops W todo (y.put o.dst v') w2:=by
     intro v h' E2 w2 v' ⟨hag,hrun'⟩ r2 x2 hv
     have hval:∀ j ∈ pre,(if j=i then v else val j)=val j:=fun j hj=>if_neg (fun (e:j=i)=>k4 (e ▸ hj))
     have hvalA:∀ j ∈ acc,(if j=i then v else val j)=val j:=fun j hj=>hval j (x.sub j hj)
     have hput':=(x.aty.congr hval).put hone hoi k4 (v:=v) (by simp)
     have split:∀ {p j r},pre++[i]=p++j::r→j ∉ i::acc→∃ u,pre=p++j::u∧r=u++[i]:=by
      intro p j r hp hj
      rcases List.append_eq_append_iff.1 hp with ⟨u,h1,h2⟩ | ⟨u,h1,h2⟩
      ·cases u with
       | nil=>simp at h2;exact absurd (by simp [h2.1]) hj
       | cons c u=>simp at h2
      ·cases u with
       | nil=>simp at h2;exact absurd (by simp [h2.1]) hj
       | cons c u=>simp only [List.cons_append,List.cons.injEq] at h2;obtain ⟨rfl,h2⟩:=h2;exact ⟨u,h1,h2⟩
     have late:∀ {j},j ∉ acc→inPl pl i j=false:=fun {j} hj=>by
      apply Bool.eq_false_iff.2
      intro hc
      exact hj (ahead i acc hsf j hc)
     have x':InvY P ops order pl a0 Q PK (i::acc) (pre++[i]) rest' (pend.filter fun x=>!inPl pl i x.1) (fun j=>if j=i then v else val j) (a.put o.dst v) h':=by
      refine ⟨by rw [x.ord];simp,hrun',?_,fun j hj=>?_,fun p j r hp hj=>?_,fun p j r hp hj=>?_,fun z hz=>?_⟩
      ·refine ⟨hput'.n,hput'.rnd,fun t j hj hw=>hput'.wr t j (by simpa [or_comm] using hj) hw,fun t hno=>hput'.no t fun j hj=>hno j (by simpa [or_comm] using hj)⟩
      ·cases hj with
       | head=>simp
       | tail _ h=>simp [x.sub j h]
      ·obtain ⟨u,h1,_⟩:=split hp hj
       have hjp:j ∈ pre:=by rw [h1];simp
       have hja:j ∉ acc:=fun h=>hj (by simp [h])
       obtain ⟨oj,q1,q2⟩:=x.pnd p j u h1 hja
       obtain ⟨oj',q1',q3⟩:=x.quiet p j u h1 hja
       rw [q1] at q1';cases q1'
       refine ⟨oj,q1,fun b hb=>?_⟩
       have hb':=hb.congr (val':=val) fun k hk=>(hval k (by rw [h1];simp [hk])).symm
       rw [hval j hjp]
       rcases q2 with hf | ⟨bj,q2,q4⟩
       ·exact (q3 b hb').free hf
       ·have hst:=againY_mem hag (List.mem_filter.2 ⟨q2,by simpa using late hja⟩)
        obtain ⟨_,z2,z3,z4⟩:=x.pin _ q2
        obtain ⟨u',hqs,hu⟩:=QStep.of_step z3 z4 hst
        simp only at hu
        subst hu
        exact hqs.congr (by rw [q4.n,hb'.n]) fun t ht=>q4.reads hb' (R:=readsOf ops oj) (fun _ _ _ _=>Iff.rfl) t ht
      ·obtain ⟨u,h1,_⟩:=split hp hj
       have hjp:j ∈ pre:=by rw [h1];simp
       have hja:j ∉ acc:=fun h=>hj (by simp [h])
       obtain ⟨oj,q1,q2⟩:=x.pnd p j u h1 hja
       refine ⟨oj,q1,?_⟩
       rcases q2 with hf | ⟨bj,q2,q4⟩
       ·exact .inl hf
       ·refine .inr ⟨bj,?_,q4.congr fun k hk=>hval k (by rw [h1];simp [hk])⟩
        rw [hval j hjp]
        exact List.mem_filter.2 ⟨q2,by simpa using late hja⟩
      ·obtain ⟨q1,q2⟩:=x.pin z (List.mem_filter.1 hz).1
       exact ⟨by simp [q1],q2⟩
     obtain ⟨pre2,rest2,pend2,val2,a2,n1,n2,n3⟩:=x'.norm hone hok x'.sub
     have hA':=((hA.congr hvalA).put hone hoi hacc (v:=v) (by simp)).congr n2
     exact ih (i::acc) hLe' hg' hl' pre2 rest2 pend2 val2 a2 h' E2 w2 _ _ n1 n3 hA' r2 (xe.trans x2) ((rt'.mono x2.le).put o.dst hv) (by rw [hput];exact hd)
    rcases c2 with ⟨hw,hk⟩ | ⟨hw,out,habs,hout⟩
    ·rw [if_neg (by rw [hw];simp)]
     exact next hk rw' (.refl E' w') rv_undef
    ·rw [if_pos hw]
     rw [e3] at habs
     have hok':=absOp_ok rw' (rt'.opnd rw') habs
     cases out with
     | val v h' =>
      obtain ⟨E2,v',w2,h1,h2,h3,h4⟩:=hok'
      exact wpR_value (abs_nodefer habs) h1 (next hout h2 h3 h4)
     | unit h' =>
      obtain ⟨E2,w2,h1,h2,h3⟩:=hok'
      exact wpR_skip (abs_nodefer habs) h1 (next hout h2 h3 rv_undef)
     | enter f args h' =>
      obtain ⟨E2,args',w2,h1,h2,h3,h4⟩:=hok'
      refine wpR_enter (abs_nodefer habs) h1 ((hout E2 w2 args' h2 h4).mono ?_)
      rintro e w3 ⟨E3,res,h3',q1,q2,q3,q4⟩
      cases res with
      | ret v =>
       cases e with
       | returned v'=>exact next q4 q2 (h3.trans q3) q1
       | _=>cases q1
      | pan v =>
       cases e with
       | panicked chain =>
        obtain ⟨v',rfl,hv⟩:=q1
        refine hP v v' h3' E3 w3 y q4 q2 (xe.trans (h3.trans q3)) ?_ hd hv
        refine ((rt'.mono h3.le).mono q3.le).agree (by rw [AA.less_n,hA.n]) fun t u hu=>?_
        obtain ⟨f1,f2⟩:=AA.less_get a0 _ _ _ hu
        rw [hA.no t fun j hj ⟨z,hz,hd,_⟩=>f1 (List.mem_filterMap.2 ⟨z,List.mem_of_getElem? (by simpa using hz),hd⟩)]
        exact f2
       | _=>cases q1
 have rd:RW P E h0 { w with drawn:=w.drawn + 1 }:=r.of_heap rfl
 have xd:Ext E w E { w with drawn:=w.drawn + 1 }:=⟨.refl E,fun k n hk=>.inl ⟨k,hk⟩,Nat.le_refl _,fun _ _ _=>rfl,rfl,rfl,rfl,Nat.le_succ _,fun _ _=>rfl⟩
 have i0:InvY P ops order pl a0 Q PK [] [] order [] (fun _=>undef) a0 h0:=⟨rfl,hh,⟨rfl,rfl,(fun t j hj=>nomatch hj),fun t _=>rfl⟩,(fun j hj=>nomatch hj),(fun p j r e=>by cases p <;> cases e),(fun p j r e=>by cases p <;> cases e),(fun x hx=>nomatch hx)⟩
 obtain ⟨pre2,rest2,pend2,val2,a2,n1,n2,n3⟩:=i0.norm hone hok (fun j hj=>by cases hj)
 exact go L.reverse [] (by simp) (by simpa using hgL) (by simpa using hlL) pre2 rest2 pend2 val2 a2 h0 E _ x a0 n1 n3 ⟨rfl,rfl,(fun t j hj=>nomatch hj),fun t _=>rfl⟩ rd xd rt hdf
theorem draw_Y (hob:orderedY P ops=true) {a0:AA} {h0:AH} {Q:AA→AH→Prop} {PK:Value→AH→Prop} (hh:wpY P ops (cloB ops.toList []) (orderOf P ops) [] a0 h0 Q PK) {id:Nat} {ro:Option Nat} {D:List Deferred} {E:Ren} {w:World} {x:Act}
  {W:Exit→Act→World→Prop} (r:RW P E h0 w) (rt:RT E a0 x.tmps) (hdf:x.defers=D)
  (hQ:∀ a₂ h₂ E' w' y,Q a₂ h₂→a₂.rnd=a0.rnd→RW P E' h₂ w'→Ext E w E' w'→RT E' a₂ y.tmps→y.defers=D→W .normal y w')
  (hP:∀ v v' h' E' w' y,PK v h'→RW P E' h' w'→Ext E w E' w'→RT E' (a0.less (dstsOf ops)) y.tmps→y.defers=D→RV E' v v'→W (.panic [{ v:=v',recovered:=false }]) y w') :
  (Code.region id ops true).wpR ro P W x w:=by
 unfold orderedY at hob
 simp only [Bool.and_eq_true,beq_iff_eq] at hob
 obtain ⟨⟨⟨hback,hlen⟩,hall⟩,hok⟩:=hob
 refine wpR_region_draw fun t=>?_
 obtain ⟨m,l,e,hg,hl⟩:=schedule_good (mixed:=P.follows .mixedOrders) hback t
 rw [e]
 refine draw_core (order:=orderOf P ops) (pl:=cloB ops.toList []) (by unfold okW;simp only [Bool.and_eq_true,beq_iff_eq];exact ⟨⟨hlen,hall⟩,hok⟩) hg hl (fun i l' hs j hj=>?_) hh r rt hdf hQ hP
 obtain ⟨u,hu⟩:=hs
 exact cloB_ahead ops.toList [] rfl (Nat.zero_le _) (fun i j hj=>by simp [inPl] at hj) i j hj m l' (by rw [← hu] at hg;exact hg.drop)
def pairW (P:Program) (ops:Array Oper) (pl:List Nat):Option (Nat × Nat) :=
 let ls:=(List.range ops.size).filter fun i=>match ops[i]? with | some o=>loud P o | none=>false
 (ls.flatMap fun i=>ls.filterMap fun j=>if i < j && !inPl pl i j && !inPl pl j i then some (i,j) else none).head?
def ordP (P:Program) (ops:Array Oper) (pl:List Nat):List Nat:=ordY P ops pl ops.size (List.range ops.size) []
def okT (P:Program) (ops:Array Oper):Nat→List Nat→Bool
 | 0,pl=>okW P ops pl (ordP P ops pl)
 | n + 1,pl=>okW P ops pl (ordP P ops pl) || match pairW P ops pl with
  | some (x,y)=>x != y && decide (x < ops.size) && decide (y < ops.size) && okT P ops n (plW ops.size pl x y) && okT P ops n (plW ops.size pl y x)
  | none=>false
def orderedW (P:Program) (ops:Array Oper):Bool:=backs ops && okT P ops 3 (cloB ops.toList [])
def wpT (P:Program) (ops:Array Oper) (a:AA) (h:AH) (Q:AA→AH→Prop) (PK:Value→AH→Prop):Nat→List Nat→Prop
 | 0,pl=>wpY P ops pl (ordP P ops pl) [] a h Q PK
 | n + 1,pl=>if okW P ops pl (ordP P ops pl) then wpY P ops pl (ordP P ops pl) [] a h Q PK else match pairW P ops pl with
  | some (x,y)=>wpT P ops a h Q PK n (plW ops.size pl x y)∧wpT P ops a h Q PK n (plW ops.size pl y x)
  | none=>False
def wpW (P:Program) (ops:Array Oper) (a:AA) (h:AH) (Q:AA→AH→Prop) (PK:Value→AH→Prop):Prop:=wpT P ops a h Q PK 3 (cloB ops.toList [])
theorem two_ahead {m:Region.Mode} {L:List Nat} (hg:Good m ops L) {pl:List Nat} (ahead:∀ i l,(i::l) <:+ L→∀ j,inPl pl i j=true→j ∈ l) {n x y:Nat} {l1 l2 l3:List Nat} (hL:L=l1++y::(l2++x::l3)) :
  ∀ i l,(i::l) <:+ L→∀ j,inPl (plW n pl x y) i j=true→j ∈ l:=by
 intro i l hs j hj
 have hgi:=hs
 obtain ⟨u,hu⟩:=hs
 have hnd:=hg.nodup
 rcases plW_in hj with h | ⟨h1,h2⟩
 ·exact ahead i l hgi j h
 -- y stands in i::l,and so what is ahead of it
 have hy:y ∈ i::l:=by
  rcases h1 with rfl | h1
  ·simp
  ·exact List.mem_cons_of_mem _ (ahead i l hgi y h1)
 -- the part from y on is the same
 have key:∀ v r,i::l=v++y::r→r=l2++x::l3:=fun v r e=>by
  have e2:(u++v)++y::r=l1++y::(l2++x::l3):=by rw [← hL,← hu,e];simp
  have n1:y ∉ u++v:=by
   rw [hL,← e2] at hnd
   intro hm
   exact (List.nodup_append.1 hnd).2.2 y hm y (by simp) rfl
  have n2:y ∉ l1:=by
   rw [hL] at hnd
   intro hm
   exact (List.nodup_append.1 hnd).2.2 y hm y (by simp) rfl
  rcases List.append_eq_append_iff.1 e2 with ⟨c,h3,h4⟩ | ⟨c,h3,h4⟩
  ·cases c with
   | nil=>simpa using h4
   | cons d c=>simp only [List.cons_append,List.cons.injEq] at h4;exact absurd (by rw [h3,← h4.1];simp) n2
  ·cases c with
   | nil=>simpa using h4.symm
   | cons d c=>simp only [List.cons_append,List.cons.injEq] at h4;exact absurd (by rw [h3,← h4.1];simp) n1
 obtain ⟨v,r,hv⟩:=List.append_of_mem hy
 have hr:=key v r hv
 subst hr
 have hgx:(x::l3) <:+ L:=⟨l1++y::l2,by rw [hL];simp⟩
 have hj2:j=x ∨ j ∈ l3:=by
  rcases h2 with rfl | h2
  ·exact .inl rfl
  ·exact .inr (ahead x l3 hgx j h2)
 have hjin:j ∈ l2++x::l3:=by rcases hj2 with rfl | h <;> simp [*]
 cases v with
 | nil=>simp only [List.nil_append,List.cons.injEq] at hv;rw [hv.2];exact hjin
 | cons d v=>simp only [List.cons_append,List.cons.injEq] at hv;rw [hv.2];simp only [List.mem_append,List.mem_cons];exact .inr (.inr (by simpa using hjin))
theorem draw_T {a0:AA} {h0:AH} {Q:AA→AH→Prop} {PK:Value→AH→Prop} {m:Region.Mode} {L:List Nat} (hg:Good m ops L) (hl:L.length=ops.size) {ro:Option Nat} {D:List Deferred} {E:Ren} {w:World} {x:Act}
  {W:Exit→Act→World→Prop} (r:RW P E h0 w) (rt:RT E a0 x.tmps) (hdf:x.defers=D)
  (hQ:∀ a₂ h₂ E' w' y,Q a₂ h₂→a₂.rnd=a0.rnd→RW P E' h₂ w'→Ext E w E' w'→RT E' a₂ y.tmps→y.defers=D→W .normal y w')
  (hP:∀ v v' h' E' w' y,PK v h'→RW P E' h' w'→Ext E w E' w'→RT E' (a0.less (dstsOf ops)) y.tmps→y.defers=D→RV E' v v'→W (.panic [{ v:=v',recovered:=false }]) y w')
  (hall':∀ k,k < ops.size→k ∈ L):∀ (n:Nat) (pl:List Nat),okT P ops n pl=true→wpT P ops a0 h0 Q PK n pl→(∀ i l,(i::l) <:+ L→∀ j,inPl pl i j=true→j ∈ l) →
  wpOpsR ro P ops W L.reverse x { w with drawn:=w.drawn + 1 }:=by
 intro n
 induction n with
 | zero=>intro pl hok hh ahead;exact draw_core hok hg hl ahead hh r rt hdf hQ hP
 | succ n ih =>
  intro pl hok hh ahead
  unfold okT at hok
  unfold wpT at hh
  cases hw:okW P ops pl (ordP P ops pl) with
  | true =>
   rw [hw,if_pos rfl] at hh
   exact draw_core hw hg hl ahead hh r rt hdf hQ hP
  | false =>
   rw [hw,if_neg (by simp)] at hh
   rw [hw,Bool.false_or] at hok
   generalize hpw:pairW P ops pl=pw at hok hh
   cases pw with
   | none=>cases hok
   | some xy =>
    obtain ⟨px,py⟩:=xy
    simp only [Bool.and_eq_true,decide_eq_true_eq] at hok
    obtain ⟨⟨⟨⟨hne,hxs⟩,hys⟩,hA⟩,hB⟩:=hok
    obtain ⟨hwA,hwB⟩:=hh
    have hne:px ≠ py:=by simpa using hne
    obtain ⟨l1,l2,h1⟩:=List.append_of_mem (hall' py hys)
    have hx:=hall' px hxs
    rw [h1] at hx
    rcases List.mem_append.1 hx with hx | hx
    ·obtain ⟨u1,u2,h2⟩:=List.append_of_mem hx
     have hL:L=u1++px::(u2++py::l2):=by rw [h1,h2];simp
     exact ih _ hB hwB (two_ahead hg ahead hL)
    ·have hx:px ∈ l2:=by
      cases hx with
      | head=>exact absurd rfl hne
      | tail _ h=>exact h
     obtain ⟨u1,u2,h2⟩:=List.append_of_mem hx
     have hL:L=l1++py::(u1++px::u2):=by rw [h1,h2]
     exact ih _ hA hwA (two_ahead hg ahead hL)
theorem draw_W (hob:orderedW P ops=true) {a0:AA} {h0:AH} {Q:AA→AH→Prop} {PK:Value→AH→Prop} (hh:wpW P ops a0 h0 Q PK) {id:Nat} {ro:Option Nat} {D:List Deferred} {E:Ren} {w:World} {x:Act}
  {W:Exit→Act→World→Prop} (r:RW P E h0 w) (rt:RT E a0 x.tmps) (hdf:x.defers=D)
  (hQ:∀ a₂ h₂ E' w' y,Q a₂ h₂→a₂.rnd=a0.rnd→RW P E' h₂ w'→Ext E w E' w'→RT E' a₂ y.tmps→y.defers=D→W .normal y w')
  (hP:∀ v v' h' E' w' y,PK v h'→RW P E' h' w'→Ext E w E' w'→RT E' (a0.less (dstsOf ops)) y.tmps→y.defers=D→RV E' v v'→W (.panic [{ v:=v',recovered:=false }]) y w') :
  (Code.region id ops true).wpR ro P W x w:=by
 unfold orderedW at hob
 simp only [Bool.and_eq_true] at hob
 obtain ⟨hback,hob⟩:=hob
 refine wpR_region_draw fun t=>?_
 obtain ⟨m,l,e,hg,hl⟩:=schedule_good (mixed:=P.follows .mixedOrders) hback t
 rw [e]
 -- all have run
 have hall':∀ k,k < ops.size→k ∈ l:=by
  intro k hk
  apply Classical.byContradiction
  intro hc
  have hsub:∀ j ∈ k::l,j ∈ List.range ops.size:=by
   intro j hj
   cases hj with
   | head=>exact List.mem_range.2 hk
   | tail _ hj=>exact List.mem_range.2 (hg.lt j hj)
  have:=(List.nodup_cons.2 ⟨hc,hg.nodup⟩).length_le_of_subset hsub
  rw [List.length_range,List.length_cons] at this
  omega
 refine draw_T hg hl r rt hdf hQ hP hall' 3 _ hob hh fun i l' hs j hj=>?_
 obtain ⟨u,hu⟩:=hs
 exact cloB_ahead ops.toList [] rfl (Nat.zero_le _) (fun i j hj=>by simp [inPl] at hj) i j hj m l' (by rw [← hu] at hg;exact hg.drop)
end
end Go.Ab
end
section
namespace Go.Ab
inductive DM where
 | ret
 | pan (v:Value)
 | recd (v:Value)
def DM.rel (E:Ren):DM→FrameMode→Prop
 | .ret,u=>u=.returning
 | .pan v,u=>∃ v',u=.panicking [{ v:=v',recovered:=false }]∧RV E v v'
 | .recd v,u=>∃ v',u=.panicking [{ v:=v',recovered:=true }]∧RV E v v'
theorem DM.rel.mono {E E':Ren} (le:E.Le E') {m:DM} {u:FrameMode} (h:m.rel E u):m.rel E' u:=by
 cases m with
 | ret=>exact h
 | pan v=>obtain ⟨v',h1,h2⟩:=h;exact ⟨v',h1,h2.mono le⟩
 | recd v=>obtain ⟨v',h1,h2⟩:=h;exact ⟨v',h1,h2.mono le⟩
def DM.settle:DM→DM
 | .recd _=>.ret
 | m=>m
theorem DM.rel.settle {E:Ren} {m:DM} {u:FrameMode} (h:m.rel E u):m.settle.rel E (Go.settle u):=by
 cases m with
 | ret=>cases h;rfl
 | pan v=>obtain ⟨v',h1,h2⟩:=h;subst h1;exact ⟨v',rfl,h2⟩
 | recd v=>obtain ⟨v',h1,h2⟩:=h;subst h1;rfl
theorem DM.rel.ne {E:Ren} {m:DM} {u:FrameMode} (h:m.rel E u):u ≠ .run:=by
 cases m with
 | ret=>cases h;simp
 | pan v=>obtain ⟨v',h1,h2⟩:=h;subst h1;simp
 | recd v=>obtain ⟨v',h1,h2⟩:=h;subst h1;simp
def isRecover:Op→Bool
 | .call c=>match c.callee with
  | .builtin .recover=>true
  | _=>false
 | _=>false
def dOps (P:Program) (ops:Array Oper):List Nat→AA→AH→DM→Option (AA × AH × DM)
 | [],a,h,m=>some (a,h,m)
 | i::rest,a,h,m =>
  match ops[i]? with
  | none=>dOps P ops rest a h m
  | some o =>
   if a.knows ops o then
   if Region.wanted o (a.yielded ops) then
    if isRecover o.op then match m with
     | .pan v=>dOps P ops rest (a.put o.dst v) h (.recd v)
     | m=>dOps P ops rest (a.put o.dst .nilIface) h m
    else match absOp P (a.opnd P) o h with
    | some (.val v h')=>dOps P ops rest (a.put o.dst v) h' m
    | some (.unit h')=>dOps P ops rest (a.put o.dst undef) h' m
    | _=>none
   else dOps P ops rest (a.put o.dst undef) h m
   else none
def dCode (P:Program):Code→AA→AH→DM→Option (AX × AA × AH × DM)
 | .skip,a,h,m | .label _,a,h,m=>some (.normal,a,h,m)
 | .region _ ops draw,a,h,m=>if draw then none else match dOps P ops (List.range ops.size) a h m with
  | some (a',h',m')=>some (.normal,a',h',m')
  | none=>none
 | .seq x y,a,h,m=>match dCode P x a h m with
  | some (.normal,a',h',m')=>dCode P y a' h' m'
  | r=>r
 | .cond c x y,a,h,m=>match a.opnd P c with
  | some (.bool true)=>dCode P x a h m
  | some (.bool false)=>dCode P y a h m
  | _=>none
 | .ret,a,h,m=>some (.ret,a,h,m)
 | _,_,_,_=>none
def dRun (P:Program) (f:FuncId) (args:List Value) (h:AH) (m:DM):Option (AH × DM):=match P.funcs[f]? with
 | some fn=>if fn.name == "runtime.NumGoroutine" then none else match fn.body with
  | some c=>match dCode P c ⟨tmsOf 0 args .leaf,args.length + (fn.ntmps - args.length),{}⟩ h m with
   | some (.normal,a,h',m') | some (.ret,a,h',m')=>match resultsOf P a h' fn.results.toList with
    | some _=>some (h',m')
    | none=>none
   | _=>none
  | none=>none
 | none=>none
theorem dOps_ok {P:Program} {ops:Array Oper}:∀ (l:List Nat) {a:AA} {h:AH} {m:DM} {a₂:AA} {h₂:AH} {m₂:DM},dOps P ops l a h m=some (a₂,h₂,m₂) →
  ∀ {E:Ren} {w:World} {x:Act} {c0:Frame} {cs:List Frame} {Q:Exit→Act→List Frame→World→Prop},RW P E h w→RT E a x.tmps→x.defers=[]→m.rel E c0.mode →
   (∀ E' w' y u',RW P E' h₂ w'→Ext E w E' w'→RT E' a₂ y.tmps→y.defers=[]→m₂.rel E' u'→Q .normal y ({ c0 with mode:=u' }::cs) w')→wpOpsSIn Fence.wide 0 P ops Q l x (c0::cs) w:=by
 intro l
 induction l with
 | nil =>
  intro a h m a₂ h₂ m₂ hh E w x c0 cs Q r rt hd hm hQ
  cases hh
  exact hQ E w x c0.mode r (.refl E w) rt hd hm
 | cons i rest ih =>
  intro a h m a₂ h₂ m₂ hh E w x c0 cs Q r rt hd hm hQ
  have hput:∀ (d:Option Tmp) (v:Value),(x.put d v).defers=x.defers:=fun d v=>by cases d <;> rfl
  simp only [dOps] at hh
  simp only [wpOpsSIn]
  cases ho:ops[i]? with
  | none=>rw [ho] at hh;exact ih hh r rt hd hm hQ
  | some o =>
   rw [ho] at hh
   simp only at hh ⊢
   refine ⟨fun _ _=>trivial,?_⟩
   split at hh
   case isFalse=>cases hh
   rename_i hkn
   rw [← rt.yielded ops hkn]
   split at hh
   ·rename_i hw
    rw [if_pos hw]
    split at hh
    ·rename_i hrec
     have hrun:(execOp x.eval o).run P w=.ok .recover w:=by
      unfold isRecover at hrec
      split at hrec
      ·rename_i c hop
       split at hrec
       ·rename_i hc
        unfold execOp
        rw [hop]
        simp [resolve,hc,Sem.run_bind,Sem.run_pure,Result.andThen_ok,invoke,builtin]
       ·cases hrec
      ·cases hrec
     rw [hrun]
     simp only
     cases m with
     | pan v =>
      obtain ⟨v',h1,h2⟩:=hm
      simp only [recoverD,h1]
      exact ih hh (c0:={ c0 with mode:=.panicking [{ v:=v',recovered:=true }] }) r (rt.put o.dst h2) (by rw [hput];exact hd) ⟨v',rfl,h2⟩ hQ
     | ret =>
      have h1:c0.mode=.returning:=hm
      simp only [recoverD,h1]
      exact ih hh r (rt.put o.dst .nilIface) (by rw [hput];exact hd) hm hQ
     | recd v =>
      obtain ⟨v',h1,h2⟩:=hm
      simp only [recoverD,h1]
      exact ih hh r (rt.put o.dst .nilIface) (by rw [hput];exact hd) ⟨v',h1,h2⟩ hQ
    ·split at hh
     ·rename_i v h' hop
      obtain ⟨E',v',w',h1,h2,h3,h4⟩:=absOp_ok r (rt.opnd r) hop
      rw [h1]
      exact ih hh h2 ((rt.mono h3.le).put o.dst h4) (by rw [hput];exact hd) (hm.mono h3.le) fun E'' w'' y u' q1 q2 q3 q4 q5=>hQ E'' w'' y u' q1 (h3.trans q2) q3 q4 q5
     ·rename_i h' hop
      obtain ⟨E',w',h1,h2,h3⟩:=absOp_ok r (rt.opnd r) hop
      rw [h1]
      exact ih hh h2 ((rt.mono h3.le).put o.dst rv_undef) (by rw [hput];exact hd) (hm.mono h3.le) fun E'' w'' y u' q1 q2 q3 q4 q5=>hQ E'' w'' y u' q1 (h3.trans q2) q3 q4 q5
     ·cases hh
   ·rename_i hw
    rw [if_neg hw]
    exact ih hh r (rt.put o.dst rv_undef) (by rw [hput];exact hd) hm hQ
theorem dCode_ok {P:Program}:∀ (c:Code) {a:AA} {h:AH} {m:DM} {e:AX} {a₂:AA} {h₂:AH} {m₂:DM},dCode P c a h m=some (e,a₂,h₂,m₂) →
  ∀ {E:Ren} {w:World} {x:Act} {c0:Frame} {cs:List Frame} {Q:Exit→Act→List Frame→World→Prop},RW P E h w→RT E a x.tmps→x.defers=[]→m.rel E c0.mode →
   (∀ E' w' y u',RW P E' h₂ w'→Ext E w E' w'→RT E' a₂ y.tmps→y.defers=[]→m₂.rel E' u'→Q e.toExit y ({ c0 with mode:=u' }::cs) w')→c.wpSIn Fence.wide 0 P Q x (c0::cs) w:=by
 intro c
 induction c with
 | skip =>
  intro a h m e a₂ h₂ m₂ hh E w x c0 cs Q r rt hd hm hQ
  cases hh
  exact wpSIn_of_wpIn rfl (wpIn_skip (hQ E w x c0.mode r (.refl E w) rt hd hm))
 | label l =>
  intro a h m e a₂ h₂ m₂ hh E w x c0 cs Q r rt hd hm hQ
  cases hh
  exact wpSIn_of_wpIn rfl (wpIn_label (hQ E w x c0.mode r (.refl E w) rt hd hm))
 | ret =>
  intro a h m e a₂ h₂ m₂ hh E w x c0 cs Q r rt hd hm hQ
  cases hh
  exact wpSIn_of_wpIn rfl (wpIn_ret (hQ E w x c0.mode r (.refl E w) rt hd hm))
 | region id ops draw =>
  intro a h m e a₂ h₂ m₂ hh E w x c0 cs Q r rt hd hm hQ
  simp only [dCode] at hh
  cases draw with
  | true=>simp at hh
  | false =>
   simp only [Bool.false_eq_true,if_false] at hh
   split at hh
   ·rename_i a' h' m' hops
    cases hh
    exact wpSIn_region (dOps_ok _ hops r rt hd hm hQ)
   ·cases hh
 | seq p q ihp ihq =>
  intro a h m e a₂ h₂ m₂ hh E w x c0 cs Q r rt hd hm hQ
  simp only [dCode] at hh
  split at hh
  ·rename_i a' h' m' hp
   refine wpSIn_seq (ihp hp r rt hd hm fun E' w' y u' q1 q2 q3 q4 q5=>?_)
   exact ihq hh (c0:={ c0 with mode:=u' }) q1 q3 q4 q5 fun E'' w'' y' u'' p1 p2 p3 p4 p5=>hQ E'' w'' y' u'' p1 (q2.trans p2) p3 p4 p5
  ·rename_i hne
   refine wpSIn_seq (ihp hh r rt hd hm fun E' w' y u' q1 q2 q3 q4 q5=>?_)
   have:=hQ E' w' y u' q1 q2 q3 q4 q5
   cases e with
   | normal=>exact absurd hh (hne _ _ _)
   | _=>exact this
 | cond c p q ihp ihq =>
  intro a h m e a₂ h₂ m₂ hh E w x c0 cs Q r rt hd hm hQ
  simp only [dCode] at hh
  split at hh
  ·rename_i hb
   have hv:=rt.opnd r c _ hb
   generalize hx:x.eval c=u at hv
   cases hv
   exact wpSIn_cond (t:=true) hx (by simpa using ihp hh r rt hd hm hQ)
  ·rename_i hb
   have hv:=rt.opnd r c _ hb
   generalize hx:x.eval c=u at hv
   cases hv
   exact wpSIn_cond (t:=false) hx (by simpa using ihq hh r rt hd hm hQ)
  ·cases hh
 | _ =>
  intro a h m e a₂ h₂ m₂ hh
  cases hh
theorem dRun_ok {P:Program} {f:FuncId} {args:List Value} {h h':AH} {m m':DM} (hh:dRun P f args h m=some (h',m')) {E:Ren} {w:World} {args':Array Value} {u:FrameMode} (r:RW P E h w) (ra:RA E args.toArray args') (hm:m.rel E u) :
  CallsDIn Fence.wide 0 P f args' u w fun e u' w'=>∃ v' E',e=.returned v'∧RW P E' h' w'∧Ext E w E' w'∧m'.rel E' u':=by
 unfold dRun at hh
 split at hh
 case h_2=>cases hh
 rename_i fn hf
 split at hh
 ·cases hh
 split at hh
 case h_2=>cases hh
 rename_i c hb
 have fin:∀ (e:AX) (a:AA) (hx:AH) (mx:DM),(e=.normal ∨ e=.ret)→dCode P c ⟨tmsOf 0 args .leaf,args.length + (fn.ntmps - args.length),{}⟩ h m=some (e,a,hx,mx)→(∃ vs,resultsOf P a hx fn.results.toList=some vs)→h' = hx→m' = mx →
   CallsDIn Fence.wide 0 P f args' u w fun e u' w'=>∃ v' E',e=.returned v'∧RW P E' h' w'∧Ext E w E' w'∧m'.rel E' u':=by
  rintro e a hx mx he hcode ⟨vs,hvs⟩ rfl rfl
  refine callsDIn_of_wpSIn hf hb trivial fun c₀ cs hu=>?_
  have hst:=RT.start ra fn.ntmps
  have e0:(⟨tmsOf 0 args.toArray.toList .leaf,args.toArray.size + (fn.ntmps - args.toArray.size),{}⟩:AA)=⟨tmsOf 0 args .leaf,args.length + (fn.ntmps - args.length),{}⟩:=by simp
  rw [e0] at hst
  refine dCode_ok c hcode r hst rfl (by rw [hu];exact hm) fun E' w' y u' q1 q2 q3 q4 q5=>?_
  obtain ⟨v',g1,g2⟩:=results_run q1 q3 hvs
  rcases he with rfl | rfl <;> exact ⟨q4,u',rfl,v',g1,v',E',rfl,q1,q2,q5⟩
 split at hh
 ·rename_i a hx mx hcode
  split at hh
  ·rename_i vs hvs
   cases hh
   exact fin .normal a _ _ (.inl rfl) hcode ⟨vs,hvs⟩ rfl rfl
  ·cases hh
 ·rename_i a hx mx hcode
  split at hh
  ·rename_i vs hvs
   cases hh
   exact fin .ret a _ _ (.inr rfl) hcode ⟨vs,hvs⟩ rfl rfl
  ·cases hh
 ·cases hh
def dAll (P:Program):List Value→AH→DM→Option (AH × DM)
 | [],h,m=>some (h,m)
 | .func (.func f) first captured::l,h,m=>match dRun P f (first.toList++captured.toList) h m with
  | some (h',m')=>dAll P l h' m'.settle
  | none=>none
 | _::_,_,_=>none
def leftK (P:Program) (res:List ResultVar) (a:AA) (Q:Res→AH→Prop):AH × DM→Prop
 | (h,.ret)=>bq (resultsOf P a h res) fun vs=>Q (.ret (oneOf vs)) h
 | (h,.pan v)=>Q (.pan v) h
 | (_,.recd _)=>False
theorem Ext.aside {P:Program} {E₀ E:Ren} {w₀ w:World} {h:AH} (x:Ext E₀ w₀ E w) {n:Nat} (o:Obj) (hn:w₀.heap.size ≤ n) (hj:∀ k,E.at_ k ≠ some n) (hf:E.fro n=none):Ext E₀ w₀ E (w.putObj n o) where
 le:=x.le
 range:=x.range
 size:=by rw [World.putObj_size];exact x.size
 frame m hm hk:=by rw [World.putObj_heap_other (by omega)];exact x.frame m hm hk
 os:=x.os
 output:=x.output
 tape:=x.tape
 drawn:=x.drawn
 ice m hm:=by
  obtain ⟨c,hc⟩:=Option.isSome_iff_exists.1 hm
  have:=x.le.fro m c hc
  rw [World.putObj_heap_other (fun e=>by subst e;rw [hf] at this;cases this)]
  exact x.ice m hm
theorem XD.aside {B:Nat} {E:Ren} {w:World} {dfs:List Value} {ds:List Deferred} {n:Nat} {ns:List Nat} (h0:B ≤ w.heap.size) (h1:XL E dfs ds ns) (h2:ns.Nodup) (h3:∀ m ∈ ns,B ≤ m∧w.heap[m]?=some (.deferred (some []))∧∀ k,E.at_ k ≠ some m) (hn:n ∉ ns) (o:Obj) :
  XD B E (w.putObj n o) dfs ds:=by
 refine ⟨by rw [World.putObj_size];exact h0,ns,h1,h2,fun m hm=>?_⟩
 obtain ⟨f1,f2,f3⟩:=h3 m hm
 have hne:m ≠ n:=fun e=>hn (by rw [← e];exact hm)
 exact ⟨f1,by rw [World.putObj_heap_other hne];exact f2,f3⟩
theorem leaves_ok {P:Program} {fn:Func} {a:AA} {tmps:Array Value} {E₀:Ren} {w₀:World} {Q:Res→AH→Prop}:∀ (ds:List Deferred) {dfs:List Value} {E:Ren} {w:World} {h:AH} {m:DM} {u:FrameMode} {y:AH × DM},
  dAll P dfs h m=some y→leftK P fn.results.toList a Q y→RW P E h w→Ext E₀ w₀ E w→XD w₀.heap.size E w dfs ds→m.rel E u→(∀ v,m ≠ .recd v)→RT E a tmps →
  LeavesInM Fence.wide 0 P fn tmps (fun e w'=>∃ E' r h',Res.rel E' r e∧RW P E' h' w'∧Ext E₀ w₀ E' w'∧Q r h') ds u w:=by
 intro ds
 induction ds with
 | nil =>
  intro dfs E w h m u y hy hq r x xd hm hnr rt
  obtain ⟨h0,ns,h1,h2,h3⟩:=xd
  cases h1
  cases hy
  cases m with
  | ret =>
   have hu:u=.returning:=hm
   subst hu
   obtain ⟨vs,e1,hq⟩:=bq_eq hq
   obtain ⟨v',g1,g2⟩:=results_run r rt e1
   exact ⟨v',g1,E,.ret (oneOf vs),h,g2,r,x,hq⟩
  | pan v =>
   obtain ⟨v',hu,hv⟩:=hm
   subst hu
   exact ⟨E,.pan v,h,⟨v',rfl,hv⟩,r,x,hq⟩
  | recd v=>exact absurd rfl (hnr v)
 | cons d ds ih =>
  intro dfs E w h m u y hy hq r x xd hm hnr rt
  obtain ⟨h0,ns,h1,h2,h3⟩:=xd
  cases h1 with
  | mark n h1 =>
   rename_i ns
   obtain ⟨g1,g2,g3⟩:=h3 n (by simp)
   have hnf:E.fro n=none:=by
    cases hf:E.fro n with
    | none=>rfl
    | some c =>
     obtain ⟨_,_,_,q1,_⟩:=r.frz n c hf
     rw [g2] at q1;cases q1
   refine ⟨hm.ne,.inl ⟨n,_,rfl,run_takeDeferred g2,ih hy hq (r.asideFrom (.deferred none) g3 hnf) (x.aside (P:=P) (h:=h) _ g1 g3 hnf) ?_ hm hnr rt⟩⟩
   exact XD.aside h0 h1 (List.nodup_cons.1 h2).2 (fun m hm=>h3 m (List.mem_cons_of_mem _ hm)) (List.nodup_cons.1 h2).1 _
  | fn hv h1 =>
   rename_i dfs v f first cap
   unfold dAll at hy
   split at hy
   ·rename_i hd;cases hd
   ·rename_i h m f₀ first₀ cap₀ l₀ hd
    cases hd
    split at hy
    case h_2=>cases hy
    rename_i h' m' hrun
    cases hv with
    | func _ a1 a2 a3 a4 =>
     have hra:RA E (first₀.toList++cap₀.toList).toArray (first++cap):=by
      have e3:(first₀.toList++cap₀.toList).toArray=first₀++cap₀:=Array.ext' (by simp)
      rw [e3]
      exact RA.append ⟨a1,a3⟩ ⟨a2,a4⟩
     obtain ⟨fn₀,c₀,hf₀,hb₀,hn₀⟩:∃ fn₀ c₀,P.funcs[f₀]?=some fn₀∧fn₀.body=some c₀∧(fn₀.name == "runtime.NumGoroutine")=false:=by
      unfold dRun at hrun
      split at hrun
      case h_2=>cases hrun
      rename_i fn₀ hf₀
      split at hrun
      ·cases hrun
      rename_i hne
      split at hrun
      case h_2=>cases hrun
      rename_i c₀ hb₀
      exact ⟨fn₀,c₀,hf₀,hb₀,by simpa using hne⟩
     have henter:(invoke (.fn (.func f₀) cap) first).run P w=.ok (.enter f₀ (first++cap)) w:=by
      simp only [invoke]
      have:=enterOf_ok (P:=P) (args:=first₀.toList++cap₀.toList) (o:=.enter f₀ (first₀.toList++cap₀.toList).toArray _) (f:=f₀) r (by
       unfold enterOf
       rw [hf₀]
       simp only [hn₀,hb₀,Option.isNone_some,Bool.false_eq_true,if_false]
       rfl) hra
      obtain ⟨E₂,args₂,w₂,k1,_⟩:=this
      have:(callFunc f₀ (first++cap)).run P w=.ok (.enter f₀ (first++cap)) w:=by
       simp [callFunc,Sem.run_bind,hf₀,hb₀,(by simpa using hn₀:¬ fn₀.name = "runtime.NumGoroutine")]
      exact this
     refine ⟨hm.ne,.inr ⟨fun hd=>(by cases hd),.func f₀,cap,f₀,first++cap,rfl,henter,fun _ _=>trivial,?_⟩⟩
     refine (dRun_ok hrun r hra hm).mono ?_
     rintro e u' w' ⟨v',E',rfl,q1,q2,q3⟩
     obtain ⟨h0',ns',h1',h2',h3'⟩:=(XD.ext ⟨h0,ns,h1,h2,h3⟩ q2)
     refine ih hy hq q1 (x.trans q2) ⟨h0',ns',h1',h2',h3'⟩ q3.settle (fun v=>?_) (rt.mono q2.le)
     cases m' <;> simp [DM.settle]
   ·cases hy
end Go.Ab
end
