import Derived.Test.YtgdnfoijhdpppaaDoorZ4
set_option linter.unusedVariables false
set_option linter.unusedSimpArgs false
section
namespace Go.Ab
def opRange (P:Program) (h:AH) (t:TypeId) (x:Value):Option (Value × AH) :=
 let it (o:Obj):Option (Value × AH):=some (.pointer (some ⟨h.size,0,none⟩),h.push o none)
 match P.underlying t,x with
 | some .string,.string s=>it (.stringIter s 0)
 | some (.map _ _),.map none=>it (.mapIter none 0 #[] 0)
 | some (.map _ _),.map (some m)=>match h.get m with
  | some (.map _ clock,_)=>it (.mapIter (some m) clock #[] clock)
  | _=>none
 | _,_=>none
theorem opRange_run {P:Program} {E:Ren} {h h':AH} {w:World} (r:RW P E h w) {t:TypeId} {x x' v:Value} (hh:opRange P h t x=some (v,h')) (hx:RV E x x') :
  ∃ E' v' w',(Instr.range t x').run P w=.ok v' w'∧RW P E' h' w'∧Ext E w E' w'∧RV E' v v':=by
 have fin:∀ o o':Obj,RO (E.add h.size w.heap.size none) none o o'→(Instr.range t x').run P w=.ok (.pointer (some ⟨w.heap.size,0,none⟩)) { w with heap:=w.heap.push o' } →
   some (Value.pointer (some ⟨h.size,0,none⟩),h.push o none)=some (v,h')→∃ E' v' w',(Instr.range t x').run P w=.ok v' w'∧RW P E' h' w'∧Ext E w E' w'∧RV E' v v':=by
  intro o o' ho hrun he
  cases he
  obtain ⟨a,b⟩:=r.push (o:=o) (o':=o') none ho
  exact ⟨_,_,_,hrun,a,b,.ptr (by simp [Ren.add])⟩
 unfold opRange at hh
 simp only at hh
 split at hh
 ·rename_i s e
  cases hx
  exact fin _ _ (.stringIter s 0) (by simp [Instr.range,und_run e,run_newObj]) hh
 ·rename_i k el e
  cases hx
  exact fin _ _ (.mapIter0 0 #[] 0) (by simp [Instr.range,und_run e,run_newObj]) hh
 ·rename_i k el m e
  split at hh
  ·rename_i es clock s hg
   cases hx with
   | map hat =>
    obtain ⟨es',g1,g2,g3⟩:=r.map hg hat
    exact fin _ _ (.mapIter ((Ren.le_add r _ _).at_ _ _ hat) clock #[] clock) (by simp [Instr.range,und_run e,getObj_run g1 (by intro _ _ _ hc;cases hc),run_newObj]) hh
  ·cases hh
 ·cases hh
def overV:Value:=.tuple #[.bool false]
def opNext (P:Program) (h:AH) (it:Value) (isString:Bool):Option (Value × AH) :=
 match it with
 | .pointer (some ⟨r,0,none⟩)=>match h.get r,isString with
  | some (.stringIter s pos,so),true =>
   if pos < s.size then some (.tuple #[.bool true,goInt pos,.int .i32 (Utf8.decode s pos).1],h.put r (some (.stringIter s (pos + (Utf8.decode s pos).2),so)))
   else some (overV,h)
  | some (.mapIter none _ _ _,so),false=>some (overV,h)
  | some (.mapIter (some m) since seen last,so),false=>match h.get m with
   | some (.map es clock,_)=>if !seen.isEmpty && !es.isEmpty && es.all (·.born ≥ last) then none else
    match (es.filter fun e=>!seen.contains e.born).toList with
    | []=>some (overV,h)
    | [e]=>if e.born < since then some (.tuple #[.bool true,e.key,e.val],h.put r (some (.mapIter (some m) since (seen.push e.born) clock,so))) else none
    | _=>none
   | _=>none
  | _,_=>none
 | _=>none
def nextP (P:Program) (h:AH) (it:Value) (isString:Bool) (k:Value→AH→Prop):Prop :=
 match it with
 | .pointer (some ⟨r,0,none⟩)=>match h.get r with
  | some (.mapIter (some m) since seen last,so)=>isString=false∧match h.get m with
   | some (.map es clock,_)=>(!seen.isEmpty && !es.isEmpty && es.all (·.born ≥ last))=false ∧
    ((∀ e ∈ es.toList,seen.contains e.born=false→since ≤ e.born)→k overV h) ∧
    ∀ e ∈ es.toList,seen.contains e.born=false→k (.tuple #[.bool true,e.key,e.val]) (h.put r (some (.mapIter (some m) since (seen.push e.born) clock,so)))
   | _=>False
  | _=>match opNext P h it isString with
   | some r=>k r.1 r.2
   | none=>False
 | _=>False
theorem choose_run {P:Program} {w:World} {q:Question}:∃ i w',(choose q).run P w=.ok i w'∧w'.heap=w.heap∧w'.os=w.os∧w'.output=w.output∧w'.tape=w.tape∧w.drawn ≤ w'.drawn∧((q.forced=true∧i=0) ∨ ∃ t,i=q.cut t):=by
 unfold choose
 simp only [Sem.run]
 by_cases h:q.forced=true
 ·rw [if_pos h]
  exact ⟨0,w,rfl,rfl,rfl,rfl,rfl,Nat.le_refl _,.inl ⟨h,rfl⟩⟩
 ·rw [if_neg h]
  exact ⟨_,_,rfl,rfl,rfl,rfl,rfl,Nat.le_succ _,.inr ⟨_,rfl⟩⟩
section
variable {P:Program} {E:Ren} {h:AH} {w:World}
theorem RW.iter (r:RW P E h w) {b b':Nat} {m since last:Nat} {seen:Array Nat} {s:Option Nat} (hb:h.get b=some (.mapIter (some m) since seen last,s)) (hat:E.at_ b=some b') :
  ∃ m',E.at_ m=some m'∧w.heap[b']?=some (.mapIter (some m') since seen last):=by
 obtain ⟨n,o',h1,h2,h3,h4⟩:=r.live b _ s hb
 rw [hat] at h1;cases h1
 cases h3 with
 | mapIter h _ _ _=>exact ⟨_,h,h2⟩
theorem RW.iter0 (r:RW P E h w) {b b':Nat} {since last:Nat} {seen:Array Nat} {s:Option Nat} (hb:h.get b=some (.mapIter none since seen last,s)) (hat:E.at_ b=some b') :
  w.heap[b']?=some (.mapIter none since seen last):=by
 obtain ⟨n,o',h1,h2,h3,h4⟩:=r.live b _ s hb
 rw [hat] at h1;cases h1
 cases h3 with
 | mapIter0=>exact h2
theorem RW.strIter (r:RW P E h w) {b b':Nat} {x:ByteArray} {p:Nat} {s:Option Nat} (hb:h.get b=some (.stringIter x p,s)) (hat:E.at_ b=some b') :
  w.heap[b']?=some (.stringIter x p):=by
 obtain ⟨n,o',h1,h2,h3,h4⟩:=r.live b _ s hb
 rw [hat] at h1;cases h1
 cases h3 with
 | stringIter=>exact h2
theorem mapNext_run (r:RW P E h w) {b b' m since last:Nat} {seen:Array Nat} {so sm:Option Nat} {es:Array MapEntry} {clock:Nat} {t:TypeId} (hb:h.get b=some (.mapIter (some m) since seen last,so)) (hat:E.at_ b=some b')
  (hm:h.get m=some (.map es clock,sm)) (hok:(!seen.isEmpty && !es.isEmpty && es.all (·.born ≥ last))=false) :
  ∃ v v' h' w',(Instr.next (.pointer (some ⟨b',0,none⟩)) false t).run P w=.ok v' w'∧RW P E h' w'∧Ext E w E w'∧RV E v v' ∧
   ((v=overV∧h' = h∧∀ e ∈ es.toList,seen.contains e.born=false→since ≤ e.born) ∨
    ∃ e ∈ es.toList,seen.contains e.born=false∧v=.tuple #[.bool true,e.key,e.val]∧h' = h.put b (some (.mapIter (some m) since (seen.push e.born) clock,so))):=by
 obtain ⟨m',hm',hw⟩:=r.iter hb hat
 obtain ⟨es',g1,g2,g3⟩:=r.map hm hm'
 have hob:=getObj_run (P:=P) hw (by intro _ _ _ hc;cases hc)
 have hom:=getObj_run (P:=P) g1 (by intro _ _ _ hc;cases hc)
 have hall:(es'.all (·.born ≥ last))=es.all (·.born ≥ last):=by
  rw [Bool.eq_iff_iff,Array.all_eq_true,Array.all_eq_true]
  constructor
  ·intro hh i hi
   have e1:=g3 i es[i] es'[i] (Array.getElem?_eq_getElem hi) (Array.getElem?_eq_getElem (g2 ▸ hi))
   have:=hh i (g2 ▸ hi)
   rw [e1.2.2];exact this
  ·intro hh i hi
   have hi':i < es.size:=g2 ▸ hi
   have e1:=g3 i es[i] es'[i] (Array.getElem?_eq_getElem hi') (Array.getElem?_eq_getElem hi)
   have:=hh i hi'
   rw [← e1.2.2];exact this
 have hemp:es'.isEmpty=es.isEmpty:=by simp [Array.isEmpty,g2]
 have hok':(!seen.isEmpty && !es'.isEmpty && es'.all (·.born ≥ last))=false:=by rw [hall,hemp];exact hok
 have mem:∀ e' ∈ es'.toList,∃ e ∈ es.toList,RV E e.key e'.key∧RV E e.val e'.val∧e.born=e'.born:=by
  intro e' he
  obtain ⟨i,hi⟩:=List.mem_iff_getElem?.1 he
  rw [Array.getElem?_toList] at hi
  have hlt:=(Array.getElem?_eq_some_iff.1 hi).1
  have hlt':i < es.size:=g2 ▸ hlt
  exact ⟨es[i],by simp,g3 i _ _ (Array.getElem?_eq_getElem hlt') hi⟩
 have mem':∀ e ∈ es.toList,∃ e' ∈ es'.toList,e.born=e'.born:=by
  intro e he
  obtain ⟨i,hi⟩:=List.mem_iff_getElem?.1 he
  rw [Array.getElem?_toList] at hi
  have hlt:=(Array.getElem?_eq_some_iff.1 hi).1
  have hlt':i < es'.size:=g2 ▸ hlt
  exact ⟨es'[i],by simp,(g3 i _ _ hi (Array.getElem?_eq_getElem hlt')).2.2⟩
 generalize hold:(es'.filter fun e=>!seen.contains e.born).filter (·.born < since)=old
 generalize hnew:(es'.filter fun e=>!seen.contains e.born).filter (·.born ≥ since)=new
 generalize hcand:(if old.isEmpty then #[none] else #[])++(old++new).map some=cand
 have hpos:0 < cand.size:=by
  rw [← hcand]
  cases ho:old.isEmpty with
  | true=>simp;omega
  | false =>
   have:0 < old.size:=by
    cases hs:old.size with
    | zero=>rw [Array.isEmpty,hs] at ho;simp at ho
    | succ n=>omega
   simp;omega
 obtain ⟨i,w1,c1,c2,c3,c4,c5,c6,c7⟩:=choose_run (P:=P) (w:=w) (q:=.mapNext cand.size)
 have hi:i < cand.size:=by
  rcases c7 with ⟨_,rfl⟩ | ⟨t,rfl⟩
  ·exact hpos
  ·exact Nat.mod_lt _ hpos
 have hstep:∀ (x:Option MapEntry),cand[i]?=some x→(Instr.next (.pointer (some ⟨b',0,none⟩)) false t).run P w =
   (match x with | some e=>(do setObj b' (.mapIter (some m') since (seen.push e.born) clock);pure (.tuple #[.bool true,e.key,e.val]):Sem Value) | none=>pure (.tuple #[.bool false])).run P w1:=by
  intro x hx
  unfold Instr.next
  simp only [Sem.run_bind,hob,Result.andThen_ok,hom]
  simp only [hok',Bool.false_eq_true,if_false]
  simp only [hold,hnew,hcand,Sem.run_bind,c1,Result.andThen_ok,hx]
  cases x <;> rfl
 obtain ⟨x,hx⟩:∃ x,cand[i]?=some x:=⟨cand[i],Array.getElem?_eq_getElem hi⟩
 have hmemx:x ∈ cand.toList:=List.mem_of_getElem? (by simpa using hx)
 have hrun:=hstep x hx
 have r1:RW P E h w1:=r.of_heap c2
 have x1:Ext E w E w1:=(Ext.refl E w1).of_heap c2 c3 c4 c5 c6
 cases x with
 | none =>
  refine ⟨overV,overV,h,w1,?_,r1,x1,.tuple rfl fun i v v' a b=>?_,.inl ⟨rfl,rfl,fun e he hs=>?_⟩⟩
  ·rw [hrun];rfl
  ·rw [a] at b;cases b
   match i with
   | 0=>simp at a;subst a;exact .bool _
   | _ + 1=>simp at a
  ·rw [← hcand] at hmemx
   have hoe:old.isEmpty=true:=by
    cases ho:old.isEmpty with
    | true=>rfl
    | false=>rw [ho] at hmemx;simp at hmemx
   obtain ⟨e',he',hb'⟩:=mem' e he
   apply Classical.byContradiction
   intro hlt
   have:e' ∈ old:=by
    rw [← hold]
    simp only [Array.mem_filter,Bool.not_eq_true',decide_eq_true_eq]
    exact ⟨⟨by simpa using he',by rw [← hb'];exact hs⟩,by omega⟩
   rw [Array.isEmpty_iff] at hoe
   rw [hoe] at this
   simp at this
 | some e' =>
  rw [← hcand] at hmemx
  have hin:e' ∈ es'.toList∧seen.contains e'.born=false:=by
   have:e' ∈ old ∨ e' ∈ new:=by
    cases ho:old.isEmpty <;> (rw [ho] at hmemx;simpa using hmemx)
   rcases this with h1 | h1
   ·rw [← hold] at h1
    simp only [Array.mem_filter,Bool.not_eq_true',decide_eq_true_eq] at h1
    exact ⟨by simpa using h1.1.1,h1.1.2⟩
   ·rw [← hnew] at h1
    simp only [Array.mem_filter,Bool.not_eq_true',decide_eq_true_eq] at h1
    exact ⟨by simpa using h1.1.1,h1.1.2⟩
  obtain ⟨e,he,k1,k2,k3⟩:=mem e' hin.1
  have hw1:w1.heap[b']?=some (.mapIter (some m') since seen last):=by rw [c2];exact hw
  obtain ⟨rp,xp⟩:=r1.put hb rfl hat (o:=.mapIter (some m) since (seen.push e.born) clock) (o':=.mapIter (some m') since (seen.push e.born) clock) (.mapIter hm' _ _ _)
  refine ⟨.tuple #[.bool true,e.key,e.val],.tuple #[.bool true,e'.key,e'.val],_,_,?_,rp,x1.trans xp,.tuple rfl fun i v v' a b=>?_,.inr ⟨e,he,by rw [k3];exact hin.2,rfl,rfl⟩⟩
  ·rw [hrun]
   simp only [Sem.run_bind,setObj_run hw1 (by intro _ _ _ hc;cases hc),Result.andThen_ok,Sem.run_pure,k3]
  ·match i with
   | 0=>simp at a b;subst a b;exact .bool _
   | 1=>simp at a b;subst a b;exact k1
   | 2=>simp at a b;subst a b;exact k2
   | _ + 3=>simp at a
theorem opNext_run (r:RW P E h w) {it it' v:Value} {isString:Bool} {t:TypeId} {h':AH} (hh:opNext P h it isString=some (v,h')) (hi:RV E it it') :
  ∃ v' w',(Instr.next it' isString t).run P w=.ok v' w'∧RW P E h' w'∧Ext E w E w'∧RV E v v':=by
 have over:RV E overV overV:=.tuple rfl fun i v v' a b=>by
  rw [a] at b;cases b
  match i with
  | 0=>simp at a;subst a;exact .bool _
  | _ + 1=>simp at a
 unfold opNext at hh
 split at hh
 case h_2=>cases hh
 rename_i b
 cases hi with
 | ptr hat =>
  rename_i b'
  split at hh
  ·rename_i s pos so hg
   have hw:=r.strIter hg hat
   have hob:=getObj_run (P:=P) hw (by intro _ _ _ hc;cases hc)
   split at hh
   ·rename_i hlt
    cases hh
    obtain ⟨rp,xp⟩:=r.put hg rfl hat (o:=.stringIter s (pos + (Utf8.decode s pos).2)) (o':=.stringIter s (pos + (Utf8.decode s pos).2)) (.stringIter _ _)
    refine ⟨_,_,?_,rp,xp,RV.of_plain (n:=4) (by simp [plainN,goInt])⟩
    simp [Instr.next,hob,hlt,setObj_run hw (by intro _ _ _ hc;cases hc)]
   ·rename_i hge
    cases hh
    exact ⟨_,_,by simp [Instr.next,hob,hge];rfl,r,.refl E w,over⟩
  ·rename_i so hg
   have hw:=r.iter0 hg hat
   have hob:=getObj_run (P:=P) hw (by intro _ _ _ hc;cases hc)
   cases hh
   exact ⟨_,_,by simp [Instr.next,hob];rfl,r,.refl E w,over⟩
  ·rename_i m since seen last so hg
   split at hh
   case h_2=>cases hh
   rename_i es clock sm hm
   split at hh
   ·cases hh
   rename_i hok
   obtain ⟨v1,v',h1,w',q1,q2,q3,q4,q5⟩:=mapNext_run (t:=t) r hg hat hm (by simpa using hok)
   have key:v1=v∧h1=h':=by
    have filt:∀ e ∈ es.toList,seen.contains e.born=false→e ∈ (es.filter fun e=>!seen.contains e.born).toList:=fun e he hs=>by
     simp only [Array.toList_filter,List.mem_filter]
     exact ⟨he,by rw [hs];rfl⟩
    split at hh
    ·rename_i hl
     cases hh
     rcases q5 with ⟨a,b,_⟩ | ⟨e,he,hs,_,_⟩
     ·exact ⟨a,b⟩
     ·have:=filt e he hs
      rw [hl] at this
      cases this
    ·rename_i e0 hl
     split at hh
     ·rename_i hlt
      cases hh
      have he0:e0 ∈ es.toList∧seen.contains e0.born=false:=by
       have:e0 ∈ (es.filter fun e=>!seen.contains e.born).toList:=by rw [hl];simp
       simpa [Array.toList_filter,List.mem_filter] using this
      rcases q5 with ⟨a,b,c⟩ | ⟨e,he,hs,e1,e2⟩
      ·have:=c e0 he0.1 he0.2
       omega
      ·have:=filt e he hs
       rw [hl] at this
       have:e=e0:=by simpa using this
       subst this
       exact ⟨e1,e2⟩
     ·cases hh
    ·cases hh
   obtain ⟨rfl,rfl⟩:=key
   exact ⟨v',w',q1,q2,q3,q4⟩
  ·cases hh
theorem nextP_run (r:RW P E h w) {it it':Value} {isString:Bool} {t:TypeId} {k:Value→AH→Prop} (hh:nextP P h it isString k) (hi:RV E it it') :
  ∃ v v' h' w',(Instr.next it' isString t).run P w=.ok v' w'∧RW P E h' w'∧Ext E w E w'∧RV E v v'∧k v h':=by
 unfold nextP at hh
 split at hh
 case h_2=>cases hh
 rename_i b
 split at hh
 ·rename_i m since seen last so hg
  obtain ⟨rfl,hh⟩:=hh
  split at hh
  case h_2=>cases hh
  rename_i es clock sm hm
  obtain ⟨h1,h2,h3⟩:=hh
  cases hi with
  | ptr hat =>
   obtain ⟨v,v',h',w',q1,q2,q3,q4,q5⟩:=mapNext_run (t:=t) r hg hat hm h1
   refine ⟨v,v',h',w',q1,q2,q3,q4,?_⟩
   rcases q5 with ⟨rfl,rfl,c⟩ | ⟨e,he,hs,rfl,rfl⟩
   ·exact h2 c
   ·exact h3 e he hs
 ·split at hh
  ·rename_i x hx
   obtain ⟨v',w',q1,q2,q3,q4⟩:=opNext_run (t:=t) r (v:=x.1) (h':=x.2) hx hi
   exact ⟨x.1,v',x.2,w',q1,q2,q3,q4,hh⟩
  ·cases hh
end
def opEntry (h:AH) (it:Value):Option Value :=
 match it with
 | .pointer (some ⟨r,0,none⟩)=>match h.get r with
  | some (.mapIter (some m) _ seen stepped,_)=>match seen.back?,h.get m with
   | some stamp,some (.map es clock,_)=>if clock != stepped then none else
    match es.find? (·.born == stamp) with
    | some e=>some (.tuple #[e.key,e.val])
    | none=>none
   | _,_=>none
  | _=>none
 | _=>none
theorem find_born {E:Ren} {n:Nat}:∀ {l k:List MapEntry},Es E l k→∀ {e:MapEntry},l.find? (·.born == n)=some e→∃ e',k.find? (·.born == n)=some e'∧RV E e.key e'.key∧RV E e.val e'.val:=by
 intro l k h
 induction h with
 | nil=>intro e he;cases he
 | @cons x y l k hk hv hb t ih =>
  intro e he
  rw [List.find?_cons] at he ⊢
  rw [← hb]
  cases hc:(x.born == n) with
  | true=>rw [hc] at he;cases he;exact ⟨y,rfl,hk,hv⟩
  | false=>rw [hc] at he;exact ih he
theorem opEntry_run {P:Program} {E:Ren} {h:AH} {w:World} (r:RW P E h w) {it it' v:Value} (hh:opEntry h it=some v) (hi:RV E it it'):∃ v',(Instr.entry it').run P w=.ok v' w∧RV E v v':=by
 unfold opEntry at hh
 split at hh
 case h_2=>cases hh
 rename_i b
 split at hh
 case h_2=>cases hh
 rename_i m since seen stepped so hg
 split at hh
 case h_2=>cases hh
 rename_i stamp es clock sm hb hm
 split at hh
 ·cases hh
 rename_i hcl
 split at hh
 case h_2=>cases hh
 rename_i e he
 cases hh
 cases hi with
 | ptr hat =>
  obtain ⟨m',hm',hw⟩:=r.iter hg hat
  obtain ⟨es',g1,g2,g3⟩:=r.map hm hm'
  have hob:=getObj_run (P:=P) hw (by intro _ _ _ hc;cases hc)
  have hom:=getObj_run (P:=P) g1 (by intro _ _ _ hc;cases hc)
  have hes:Es E es.toList es'.toList:=es_of (by simpa using g2) fun i x y hx hy=>g3 i x y (by simpa using hx) (by simpa using hy)
  rw [← Array.find?_toList] at he
  obtain ⟨e',k1,k2,k3⟩:=find_born hes he
  rw [Array.find?_toList] at k1
  refine ⟨.tuple #[e'.key,e'.val],?_,RV.tup (RA.two k2 k3)⟩
  simp only [Instr.entry,Sem.run_bind,hob,Result.andThen_ok,hb,hom]
  simp only [hcl,if_false,Bool.false_eq_true,k1,Sem.run_pure]
theorem es_erase {E:Ren} {es es':Array MapEntry} (hn:es.size=es'.size) (hh:∀ (i:Nat) x y,es[i]?=some x→es'[i]?=some y→RV E x.key y.key∧RV E x.val y.val∧x.born=y.born) (i:Nat) :
  (es.eraseIdxIfInBounds i).size=(es'.eraseIdxIfInBounds i).size∧∀ (j:Nat) x y,(es.eraseIdxIfInBounds i)[j]?=some x→(es'.eraseIdxIfInBounds i)[j]?=some y→RV E x.key y.key∧RV E x.val y.val∧x.born=y.born:=by
 unfold Array.eraseIdxIfInBounds
 by_cases h:i < es.size
 ·rw [dif_pos h,dif_pos (hn ▸ h)]
  refine ⟨by simp [hn],fun j x y hx hy=>?_⟩
  rw [Array.getElem?_eraseIdx] at hx hy
  split at hx
  ·rename_i e;rw [if_pos e] at hy;exact hh j x y hx hy
  ·rename_i e;rw [if_neg e] at hy;exact hh (j + 1) x y hx hy
 ·rw [dif_neg h,dif_neg (hn ▸ h)]
  exact ⟨hn,hh⟩
theorem opDelete_run {P:Program} {E:Ren} {h h':AH} {w:World} (r:RW P E h w) {ats:Array TypeId} {ty t:TypeId} {x x' k k':Value} (h0:ats[0]?=some t) (hh:opDelete P h t x k=some h') (hx:RV E x x') (hk:RV E k k') :
  ∃ w',(Builtin.delete_ ats ty #[x',k']).run P w=.ok (.tuple #[]) w'∧RW P E h' w'∧Ext E w E w':=by
 unfold opDelete at hh
 split at hh
 ·rename_i kt el hu
  split at hh
  case isFalse=>cases hh
  rename_i hp
  split at hh
  case h_2=>cases hh
  rename_i hc
  cases hh
  cases hx
  have ek:=RV.eq_of_plain hp hk
  subst ek
  exact ⟨w,by simp [Builtin.delete_,h0,und_run hu,flat_run w hc],r,.refl E w⟩
 ·rename_i kt el b hu
  split at hh
  case h_2=>cases hh
  rename_i es clock s hg
  cases hx with
  | map hat =>
   obtain ⟨es',g1,g2,g3⟩:=r.map hg hat
   have hobj:=getObj_run (P:=P) g1 (by intro _ _ _ hc;cases hc)
   have hset:=fun n=>setObj_run (P:=P) (n:=n) g1 (by intro _ _ _ hc;cases hc)
   have hemp:es'.isEmpty=es.isEmpty:=by simp [Array.isEmpty,g2]
   split at hh
   ·rename_i i u hf
    cases hh
    obtain ⟨rfl,c1,r',c2,c3⟩:=opFind_run (es':=es') hf hk g2 g3 w
    rw [← hemp] at c1
    rcases c3 with ⟨e,_⟩ | ⟨j',u0,u',e1,rfl,_⟩
    ·cases e
    ·cases e1
     obtain ⟨e1,e2⟩:=es_erase g2 g3 i
     refine ⟨_,?_,r.put hg rfl hat (o':=.map (es'.eraseIdxIfInBounds i) clock) (.map clock e1 e2)⟩
     simp [Builtin.delete_,h0,und_run hu,hobj,c1,c2,hset]
   ·rename_i hf
    cases hh
    obtain ⟨rfl,c1,r',c2,c3⟩:=opFind_run (es':=es') hf hk g2 g3 w
    rw [← hemp] at c1
    rcases c3 with ⟨_,rfl⟩ | ⟨j',u0,u',e1,_⟩
    ·refine ⟨_,?_,r.put hg rfl hat (o':=.map es' clock) (.map clock g2 g3)⟩
     simp [Builtin.delete_,h0,und_run hu,hobj,c1,c2,hset]
    ·cases e1
   ·cases hh
 ·cases hh
def opMapEntry (P:Program) (h:AH) (t:TypeId) (x k:Value):Option (Value × AH) :=
 match P.underlying t,x with
 | some (.map kt elem),.map (some b)=>match h.get b with
  | some (.map es clock,s)=>match opFind P kt k es false with
   | some (some (i,v))=>match es[i]? with
    | some e=>if plain e.key && Instr.sameBits 10000 e.key k then some (.tuple #[v,goInt e.born],h.put b (some (.map (es.modify i fun e=>{ e with key:=k }) clock,s))) else none
    | none=>none
   | some none=>match P.info? elem with
    | some inf=>match inf.zero with
     | some z=>if plain z then some (.tuple #[z,goInt clock],h.put b (some (.map (es.push { key:=k,val:=z,born:=clock }) (clock + 1),s))) else none
     | none=>none
    | none=>none
   | none=>none
  | _=>none
 | _,_=>none
theorem opMapEntry_run {P:Program} {E:Ren} {h h':AH} {w:World} (r:RW P E h w) {t:TypeId} {x x' k k' v:Value} (hh:opMapEntry P h t x k=some (v,h')) (hx:RV E x x') (hk:RV E k k') :
  ∃ E' v' w',(Instr.mapEntry t x' k').run P w=.ok v' w'∧RW P E' h' w'∧Ext E w E' w'∧RV E' v v':=by
 unfold opMapEntry at hh
 split at hh
 case h_2=>cases hh
 rename_i kt elem b hu
 split at hh
 case h_2=>cases hh
 rename_i es clock s hg
 cases hx with
 | map hat =>
  obtain ⟨es',g1,g2,g3⟩:=r.map hg hat
  have hobj:=getObj_run (P:=P) g1 (by intro _ _ _ hc;cases hc)
  have hset:=fun n=>setObj_run (P:=P) (n:=n) g1 (by intro _ _ _ hc;cases hc)
  split at hh
  ·rename_i i u hf
   obtain ⟨rfl,c1,r',c2,c3⟩:=opFind_run (es':=es') hf hk g2 g3 w
   rcases c3 with ⟨e,_⟩ | ⟨j',u0,u',e1,rfl,huv⟩
   ·cases e
   ·cases e1
    split at hh
    ·rename_i e he
     split at hh
     ·rename_i hp
      simp only [Bool.and_eq_true] at hp
      cases hh
      have hlt:i < es'.size:=by rw [← g2];exact (Array.getElem?_eq_some_iff.1 he).1
      have he':es'[i]?=some es'[i]:=Array.getElem?_eq_getElem hlt
      obtain ⟨k1,_,kb⟩:=g3 i e es'[i] he he'
      have hkey:=RV.eq_of_plain hp.1 k1
      have hstay:(Instr.keyThatStays es'[i].key k').run P w=.ok k' w:=by
       rw [hkey];simp [Instr.keyThatStays,hp.2]
      obtain ⟨rp,xp⟩:=r.put hg rfl hat (o:=.map (es.modify i fun e=>{ e with key:=k' }) clock) (o':=.map (es'.modify i fun e=>{ e with key:=k' }) clock) (.map clock (by simp [g2]) fun j a c ha hc=>by
       rw [Array.getElem?_modify] at ha hc
       split at ha
       ·rename_i e
        rw [if_pos e] at hc
        rw [Option.map_eq_some_iff] at ha hc
        obtain ⟨a0,a1,rfl⟩:=ha
        obtain ⟨c0,c1,rfl⟩:=hc
        exact ⟨hk,(g3 j a0 c0 a1 c1).2⟩
       ·rename_i e
        rw [if_neg e] at hc
        exact g3 j a c ha hc)
      refine ⟨E,.tuple #[u',goInt e.born],_,?_,rp,xp,RV.tup (RA.two huv (.int _ _))⟩
      simp only [Instr.mapEntry,Sem.run_bind,und_run hu,Result.andThen_ok,hobj,c1,c2,he',Option.map_some,Option.getD_some,hstay,hset,Sem.run_pure,kb]
     ·cases hh
    ·cases hh
  ·rename_i hf
   obtain ⟨rfl,c1,r',c2,c3⟩:=opFind_run (es':=es') hf hk g2 g3 w
   split at hh
   ·rename_i inf hi
    split at hh
    ·rename_i z hz
     split at hh
     ·rename_i hp
      cases hh
      rcases c3 with ⟨_,rfl⟩ | ⟨j',u0,u',e1,_⟩
      ·obtain ⟨rp,xp⟩:=r.put hg rfl hat (o:=.map (es.push { key:=k',val:=z,born:=clock }) (clock + 1)) (o':=.map (es'.push { key:=k',val:=z,born:=clock }) (clock + 1)) (.map (clock + 1) (by simp [g2]) fun j a c ha hc=>by
        rw [Array.getElem?_push] at ha hc
        rw [← g2] at hc
        split at ha
        ·rename_i e
         rw [if_pos e] at hc
         cases ha;cases hc
         exact ⟨hk,RV.of_plain hp,rfl⟩
        ·rename_i e
         rw [if_neg e] at hc
         exact g3 j a c ha hc)
       refine ⟨E,.tuple #[z,goInt clock],_,?_,rp,xp,RV.tup (RA.two (RV.of_plain hp) (.int _ _))⟩
       simp only [Instr.mapEntry,Sem.run_bind,und_run hu,Result.andThen_ok,hobj,c1,c2,zero_run hi hz w,hset,Sem.run_pure]
      ·cases e1
     ·cases hh
    ·cases hh
   ·cases hh
  ·cases hh
def opEntryStore (h:AH) (x stamp v:Value):Option AH :=
 match x,stamp with
 | .map (some b),.int _ n=>match h.get b with
  | some (.map es clock,s)=>match es.findIdx? (fun e=>(e.born:Int) == n) with
   | some i=>some (h.put b (some (.map (es.modify i fun e=>{ e with val:=v }) clock,s)))
   | none=>none
  | _=>none
 | _,_=>none
theorem findBorn {E:Ren} {es es':Array MapEntry} (hn:es.size=es'.size) (hh:∀ (i:Nat) x y,es[i]?=some x→es'[i]?=some y→RV E x.key y.key∧RV E x.val y.val∧x.born=y.born) (n:Int) :
  es'.findIdx? (fun e=>(e.born:Int) == n)=es.findIdx? (fun e=>(e.born:Int) == n):=by
 have e:es'.toList.map (·.born)=es.toList.map (·.born):=by
  apply List.ext_getElem?
  intro i
  rw [List.getElem?_map,List.getElem?_map,Array.getElem?_toList,Array.getElem?_toList]
  by_cases hi:i < es.size
  ·have h1:=Array.getElem?_eq_getElem hi
   have h2:=Array.getElem?_eq_getElem (hn ▸ hi:i < es'.size)
   rw [h1,h2]
   simp only [Option.map_some,(hh i _ _ h1 h2).2.2]
  ·rw [Array.getElem?_eq_none (by omega),Array.getElem?_eq_none (by omega)]
 have arr:∀ (xs:Array MapEntry) (p:MapEntry→Bool),xs.findIdx? p=xs.toList.findIdx? p:=fun xs p=>by
  cases xs;simp
 rw [arr,arr]
 have key:∀ l:List MapEntry,l.findIdx? (fun e=>(e.born:Int) == n)=(l.map (·.born)).findIdx? (fun b:Nat=>((b:Nat):Int) == n):=by
  intro l
  rw [List.findIdx?_map]
  rfl
 rw [key,key,e]
theorem opEntryStore_run {P:Program} {E:Ren} {h h':AH} {w:World} (r:RW P E h w) {t:TypeId} {x x' k k' v v':Value} (hh:opEntryStore h x k v=some h') (hx:RV E x x') (hk:RV E k k') (hv:RV E v v') :
  ∃ w',(Instr.entryStore t x' k' v').run P w=.ok () w'∧RW P E h' w'∧Ext E w E w':=by
 unfold opEntryStore at hh
 split at hh
 case h_2=>cases hh
 rename_i b kk n
 split at hh
 case h_2=>cases hh
 rename_i es clock s hg
 split at hh
 case h_2=>cases hh
 rename_i i hi
 cases hh
 cases hk
 cases hx with
 | map hat =>
  obtain ⟨es',g1,g2,g3⟩:=r.map hg hat
  have hobj:=getObj_run (P:=P) g1 (by intro _ _ _ hc;cases hc)
  have hset:=fun n=>setObj_run (P:=P) (n:=n) g1 (by intro _ _ _ hc;cases hc)
  have hi':=(findBorn g2 g3 n).trans hi
  refine ⟨_,?_,r.put hg rfl hat (o':=.map (es'.modify i fun e=>{ e with val:=v' }) clock) (.map clock (by simp [g2]) fun j a c ha hc=>?_)⟩
  ·simp [Instr.entryStore,hobj,asInt,asIntOf,hi',hset]
  ·rw [Array.getElem?_modify] at ha hc
   split at ha
   ·rename_i e
    rw [if_pos e] at hc
    rw [Option.map_eq_some_iff] at ha hc
    obtain ⟨a0,a1,rfl⟩:=ha
    obtain ⟨c0,c1,rfl⟩:=hc
    exact ⟨(g3 j a0 c0 a1 c1).1,hv,(g3 j a0 c0 a1 c1).2.2⟩
   ·rename_i e
    rw [if_neg e] at hc
    exact g3 j a c ha hc
def opClear (P:Program) (h:AH) (t:TypeId) (x:Value):Option AH :=
 match P.underlying t,x with
 | some (.slice e),.slice none _ _=>some h
 | some (.slice e),.slice (some a) n _=>if n=0 then some h else if a.spot.isSome then none else match P.info? e with
  | some i=>match i.zero,zerosOf P e n with
   | some z,some c=>if i.size ≠ 0∧z.cells.size=i.size then opSetCells h a c else none
   | _,_=>none
  | none=>none
 | some (.map _ _),.map none=>some h
 | some (.map _ _),.map (some b)=>match h.get b with
  | some (.map es clock,s)=>some (h.put b (some (.map #[] clock,s)))
  | _=>none
 | _,_=>none
theorem opClear_run {P:Program} {E:Ren} {h h':AH} {w:World} (r:RW P E h w) {ats:Array TypeId} {ty t:TypeId} {x x':Value} (h0:ats[0]?=some t) (hh:opClear P h t x=some h') (hx:RV E x x') :
  ∃ w',(Builtin.clear_ ats ty #[x']).run P w=.ok (.tuple #[]) w'∧RW P E h' w'∧Ext E w E w':=by
 unfold opClear at hh
 split at hh
 ·rename_i e hu
  cases hh;cases hx
  exact ⟨w,by simp [Builtin.clear_,h0,und_run hu],r,.refl E w⟩
 ·rename_i e a n cap hu
  split at hh
  ·rename_i hn
   subst hn
   cases hh
   cases hx <;> exact ⟨w,by simp [Builtin.clear_,h0,und_run hu],r,.refl E w⟩
  ·rename_i hn
   split at hh
   ·cases hh
   ·split at hh
    case h_2=>cases hh
    rename_i i hi
    split at hh
    case h_2=>cases hh
    rename_i z c hz hc
    split at hh
    case isFalse=>cases hh
    rename_i hs
    obtain ⟨i',e1,e2,e3⟩:=zerosOf_eq hc w
    rw [hi] at e1;cases e1
    have hne:n * i.size ≠ 0:=Nat.mul_ne_zero hn hs.1
    rcases e3 with ⟨e4,_⟩ | ⟨_,z',e4,e5⟩
    ·exact absurd e4 hne
    have hz':z' = z:=by
     rw [zero_run hi hz w] at e4
     cases e4;rfl
    subst hz'
    have hrow:Builtin.zeroCells z'.cells n=c:=by
     unfold Builtin.zeroCells
     rw [hs.2,← e5,hs.2]
    have run:∀ (a':Addr) (cap':Nat) (w₂:World),(storeCells a' c.toList).run P w=.ok () w₂→(Builtin.clear_ ats ty #[.slice (some a') n cap']).run P w=.ok (.tuple #[]) w₂:=by
     intro a' cap' w₂ hst
     simp only [Builtin.clear_,h0,List.getElem?_toArray,List.getElem?_cons_zero,Sem.run_bind,und_run hu,Result.andThen_ok]
     cases n with
     | zero=>exact absurd rfl hn
     | succ n=>simp [zero_run hi hz,hrow,hst]
    cases hx with
    | slice hat _ =>
     obtain ⟨_,w',q1,q2,q3,_⟩:=opSetCells_run r hh hat (e2 E)
     exact ⟨w',run _ _ w' q1,q2,q3⟩
    | softSlice hat _ _ _ _ =>
     obtain ⟨_,w',q1,q2,q3,_⟩:=opSetCells_run r hh hat (e2 E)
     exact ⟨w',run _ _ w' q1,q2,q3⟩
    | stub _=>exact absurd rfl hn
 ·rename_i k e hu
  cases hh;cases hx
  exact ⟨w,by simp [Builtin.clear_,h0,und_run hu],r,.refl E w⟩
 ·rename_i k e b hu
  split at hh
  case h_2=>cases hh
  rename_i es clock s hg
  cases hh
  cases hx with
  | map hat =>
   obtain ⟨es',g1,g2,g3⟩:=r.map hg hat
   have hobj:=getObj_run (P:=P) g1 (by intro _ _ _ hc;cases hc)
   have hset:=fun n=>setObj_run (P:=P) (n:=n) g1 (by intro _ _ _ hc;cases hc)
   refine ⟨_,?_,r.put hg rfl hat (o':=.map #[] clock) (.map clock rfl fun i x y hx=>by simp at hx)⟩
   simp [Builtin.clear_,h0,und_run hu,hobj,hset]
 ·cases hh
end Go.Ab
end
section
namespace Go.Ab
def bounds3? (cap:Nat) (low high max:Option Value):Option (Nat × Nat × Nat) :=
 match high,max with
 | some v,some m=>match bound? m cap with
  | some m=>match bound? v m with
   | some g=>match (match low with | some v=>bound? v g | none=>some 0) with
    | some l=>some (l,g,m)
    | none=>none
   | none=>none
  | none=>none
 | _,_=>none
theorem bounds3_run {P:Program} {len cap cap':Nat} {low high max:Option Value} {l g m:Nat} (hb:bounds3? cap low high max=some (l,g,m)) (hc:cap ≤ cap') (b:Bool) (w:World) :
  (Instr.sliceBounds b len cap' low high max).run P w=.ok (l,g,m) w∧l ≤ g∧g ≤ m∧m ≤ cap:=by
 unfold bounds3? at hb
 split at hb
 ·rename_i v mv
  split at hb
  ·rename_i m0 e1
   split at hb
   ·rename_i g0 e2
    split at hb
    ·rename_i l0 e3
     cases hb
     refine ⟨?_,?_,bound_le e2,bound_le e1⟩
     ·unfold Instr.sliceBounds
      cases low with
      | none=>simp only at e3;cases e3;simp [bound_run e1 hc,bound_run e2 (Nat.le_refl _)]
      | some v=>simp only at e3;simp [bound_run e1 hc,bound_run e2 (Nat.le_refl _),bound_run e3 (Nat.le_refl _)]
     ·cases low with
      | none=>simp only at e3;cases e3;exact Nat.zero_le _
      | some u=>exact bound_le e3
    ·cases hb
   ·cases hb
  ·cases hb
 ·cases hb
theorem bounds3_ints {cap:Nat} {low high max:Option Value} {p:Nat × Nat × Nat} (hb:bounds3? cap low high max=some p) :
  (∀ v,low=some v→∃ k n,v=.int k n)∧(∀ v,high=some v→∃ k n,v=.int k n)∧(∀ v,max=some v→∃ k n,v=.int k n):=by
 have key:∀ {v:Value} {y n:Nat},bound? v y=some n→∃ k i,v=.int k i:=by
  intro v y n h
  unfold bound? at h
  split at h
  ·exact ⟨_,_,rfl⟩
  ·cases h
 unfold bounds3? at hb
 split at hb
 ·rename_i v mv
  split at hb
  ·rename_i m0 e1
   split at hb
   ·rename_i g0 e2
    split at hb
    ·rename_i l0 e3
     refine ⟨?_,?_,?_⟩
     ·rintro v rfl;exact key e3
     ·intro v h;cases h;exact key e2
     ·intro v h;cases h;exact key e1
    ·cases hb
   ·cases hb
  ·cases hb
 ·cases hb
def opSlice3 (P:Program) (h:AH) (t:TypeId) (x:Value) (low high max:Option Value):Option Value :=
 match P.underlying t,x with
 | some (.slice elem),.slice none len cap=>match P.info? elem,bounds3? cap low high max with
  | some d,some (l,g,m)=>some (.slice none (g - l) (m - l))
  | _,_=>none
 | some (.slice elem),.slice (some a) len cap=>match P.info? elem,bounds3? cap low high max,h.get a.block with
  | some d,some (l,g,m),some (_,none)=>if a.spot.isSome then none else
    some (.slice (some (if m=l then a else a.add (l * d.size))) (g - l) (m - l))
  | some d,some (l,g,m),some (_,some _)=>if a.spot.isSome || m != 0 then none else some (.slice (some a) 0 0)
  | _,_,_=>none
 | some (.slice elem),.func (.yield 0) _ vs=>match P.info? elem,bounds3? vs.size low high max with
  | some d,some (l,g,m)=>if (vs[0]?).all (·.cells.size=d.size) then some (VSl ((vs.toList.drop l).take (g - l))) else none
  | _,_=>none
 | _,_=>none
theorem opSlice3_bounds {P:Program} {h:AH} {t:TypeId} {x:Value} {lo hi mx:Option Value} {v:Value} (hv:opSlice3 P h t x lo hi mx=some v) :
  (∀ v,lo=some v→∃ k n,v=.int k n)∧(∀ v,hi=some v→∃ k n,v=.int k n)∧(∀ v,mx=some v→∃ k n,v=.int k n):=by
 unfold opSlice3 at hv
 split at hv
 ·split at hv
  ·rename_i hb;exact bounds3_ints hb
  ·cases hv
 ·split at hv
  ·rename_i hb _;exact bounds3_ints hb
  ·rename_i hb _;exact bounds3_ints hb
  ·cases hv
 ·split at hv
  ·rename_i hb;exact bounds3_ints hb
  ·cases hv
 ·cases hv
theorem opSlice3_run {P:Program} {E:Ren} {h:AH} {w:World} (r:RW P E h w) {t:TypeId} {x x':Value} {low high max:Option Value} {v:Value}
  (hv:opSlice3 P h t x low high max=some v) (hr:RV E x x'):∃ v',(Instr.sliceAt t x' low high max).run P w=.ok v' w∧RV E v v':=by
 unfold opSlice3 at hv
 split at hv
 ·rename_i elem len cap e
  split at hv
  ·rename_i d l g m hd hb
   cases hv
   cases hr with
   | nilSlice _ _ =>
    simp only [Instr.sliceAt,Instr.slice,Sem.run_bind,und_run e,Result.andThen_ok,(bounds3_run hb (Nat.le_refl _) _ _).1,siz_run hd,Sem.run_pure]
    refine ⟨_,rfl,?_⟩
    have:(if m=l then (none:Option Addr) else Option.map (fun x:Addr=>x.add (l * d.size)) none)=none:=by split <;> rfl
    rw [this]
    exact .nilSlice _ _
  ·cases hv
 ·rename_i elem a len cap e
  split at hv
  ·rename_i d l g m o hd hb hg
   split at hv
   ·cases hv
   ·obtain ⟨n',o',h1,h2,h3,h4⟩:=r.live _ _ _ hg
    have hrun:∀ (a':Addr),(Instr.sliceAt t (.slice (some a') len cap) low high max).run P w =
      .ok (.slice (some (if m=l then a' else a'.add (l * d.size))) (g - l) (m - l)) w:=by
     intro a'
     simp only [Instr.sliceAt,Instr.slice,Sem.run_bind,und_run e,Result.andThen_ok,(bounds3_run hb (Nat.le_refl _) _ _).1,siz_run hd,Sem.run_pure]
     by_cases e2:m=l
     ·simp [e2]
     ·simp [e2]
    cases hr with
    | slice hat hs =>
     cases hv
     refine ⟨_,hrun _,?_⟩
     rw [add_off,add_off]
     split
     ·exact .slice hat hs
     ·exact .slice hat hs
    | softSlice hat hs ho hc hle=>rw [hs] at h4;cases h4
    | stub hs=>rw [Option.isSome_iff_exists] at hs;obtain ⟨s,hs⟩:=hs;rw [hs] at h4;cases h4
  ·rename_i d l g m o so hd hb hg
   split at hv
   ·cases hv
   ·rename_i hsp
    have hm0:m=0:=by
     simp only [Bool.or_eq_true,bne_iff_ne,ne_eq,not_or,Classical.not_not] at hsp
     exact hsp.2
    obtain ⟨n',o',h1,h2,h3,h4⟩:=r.live _ _ _ hg
    have hrun:∀ (a':Addr) (cap':Nat),cap ≤ cap'→(Instr.sliceAt t (.slice (some a') len cap') low high max).run P w=.ok (.slice (some a') 0 0) w:=by
     intro a' cap' hc
     obtain ⟨b0,b1,b2,-⟩:=bounds3_run (P:=P) (len:=len) hb hc true w
     have hl0:l=0:=by omega
     have hg0:g=0:=by omega
     subst hm0 hl0 hg0
     simp only [Instr.sliceAt,Instr.slice,Sem.run_bind,und_run e,Result.andThen_ok,(bounds3_run hb hc _ _).1,siz_run hd,Sem.run_pure]
     simp
    cases hr with
    | slice hat hs =>
     rw [h1] at hat
     cases hat
     rw [hs] at h4
     cases h4
    | softSlice hat hs ho hc hle =>
     cases hv
     exact ⟨_,hrun _ _ hle,.stub (by rw [hs];rfl)⟩
    | stub hs =>
     cases hv
     exact ⟨_,hrun _ _ (Nat.zero_le _),.stub hs⟩
  ·cases hv
 ·rename_i elem z vs e
  split at hv
  ·rename_i d l g m hd hb
   split at hv
   ·rename_i hsz
    cases hv
    obtain ⟨-,b1,b2,b3⟩:=bounds3_run (P:=P) (len:=0) hb (Nat.le_refl _) true w
    have hrun:∀ (a':Addr) (cap':Nat),vs.size ≤ cap'→(Instr.sliceAt t (.slice (some a') vs.size cap') low high max).run P w =
      .ok (.slice (some (if m=l then a' else a'.add (l * d.size))) (g - l) (m - l)) w:=by
     intro a' cap' hc
     simp only [Instr.sliceAt,Instr.slice,Sem.run_bind,und_run e,Result.andThen_ok,(bounds3_run hb hc _ _).1,siz_run hd,Sem.run_pure]
     by_cases e2:m=l
     ·simp [e2]
     ·simp [e2]
    rcases vs_inv hr with ⟨rfl,a',cap',rfl⟩ | ⟨b',off,cap,s,c,rfl,h1,h2,h3,h4,h5,h6⟩
    ·refine ⟨_,hrun a' cap' (Nat.zero_le _),?_⟩
     simp at b3
     have:g - l=0:=by omega
     simp only [this,List.take_zero]
     exact .vs0
    ·refine ⟨_,hrun _ _ h5,?_⟩
     by_cases hgl:g - l=0
     ·simp only [hgl,List.take_zero];exact .vs0
     ·have hne:¬ m=l:=by omega
      rw [if_neg hne,add_off]
      have hv0:vs[0]?=some vs[0]:=Array.getElem?_eq_getElem (by omega)
      have hds:d.size=s:=by
       rw [hv0] at hsz
       have e1:vs[0].cells.size=d.size:=by simpa using hsz
       rw [← e1];exact h3 _ (by simp)
      rw [hds]
      exact RV.vsPart h1 h2 h3 (by simpa using h4) h6 (by simp;omega) (by omega)
   ·cases hv
  ·cases hv
 ·cases hv
end Go.Ab
end
