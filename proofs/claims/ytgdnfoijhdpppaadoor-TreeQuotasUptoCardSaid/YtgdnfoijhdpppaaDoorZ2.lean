import Derived.Test.YtgdnfoijhdpppaaDoorZ1
set_option linter.unusedVariables false
set_option linter.unusedSimpArgs false
section
namespace Go.Ab
def setFrom (c:Array Value) (k:Nat):List Value→Array Value
 | []=>c
 | v::vs=>setFrom (c.setIfInBounds k v) (k + 1) vs
theorem setFrom_size:∀ (vs:List Value) (c:Array Value) (k:Nat),(setFrom c k vs).size=c.size
 | [],c,k=>rfl
 | v::vs,c,k=>by rw [setFrom,setFrom_size vs];simp
def putRow (w:World) (b:Nat) (c:Array Value) (e:TypeId) (fz:Nat × Nat):World:={ w with heap:=w.heap.setIfInBounds b (.cells c e fz) }
theorem storeCells_run {P:Program} {b off:Nat} {e:TypeId} {fz:Nat × Nat}:∀ (vs:List Value) (i:Nat) (c:Array Value) (w:World),
  w.heap[b]?=some (.cells c e fz)→off + i + vs.length ≤ c.size→(∀ k,k < c.size→¬ (fz.1 ≤ k∧k < fz.2))→(∀ v ∈ vs,v.oneCell' = true) →
  (storeCells ⟨b,off,none⟩ vs i).run P w=.ok () (putRow w b (setFrom c (off + i) vs) e fz):=by
 intro vs
 induction vs with
 | nil =>
  intro i c w hb hn hf h1
  have:putRow w b c e fz=w:=by
   unfold putRow
   obtain ⟨hl,hg⟩:=Array.getElem?_eq_some_iff.1 hb
   have:w.heap.setIfInBounds b (.cells c e fz)=w.heap:=by
    apply Array.ext_getElem?
    intro k
    rw [Array.getElem?_setIfInBounds]
    split
    ·rename_i e;subst e;rw [hb]
    ·rfl
   rw [this]
  simp [storeCells,setFrom,this]
 | cons v vs ih =>
  intro i c w hb hn hf h1
  simp only [List.length_cons] at hn
  have hlt:off + i < c.size:=by omega
  have hc:w.cell? ⟨b,off + i,none⟩=some c[off + i]:=by simp [World.cell?,hb,hlt]
  have hfr:w.frozen? ⟨b,off + i,none⟩=false:=by
   have:=hf _ hlt
   simp only [World.frozen?,hb]
   rw [Bool.and_eq_false_iff]
   simp only [decide_eq_false_iff_not]
   omega
  have hset:w.setCell ⟨b,off + i,none⟩ v=putRow w b (c.setIfInBounds (off + i) v) e fz:=by
   unfold World.setCell putRow
   congr 1
   obtain ⟨hl,hg⟩:=Array.getElem?_eq_some_iff.1 hb
   apply Array.ext_getElem?
   intro k
   rw [Array.getElem?_setIfInBounds,Array.getElem?_modify]
   split
   ·rename_i e;subst e;simp [hb]
   ·rfl
  have hb2:(putRow w b (c.setIfInBounds (off + i) v) e fz).heap[b]?=some (.cells (c.setIfInBounds (off + i) v) e fz):=by
   obtain ⟨hl,hg⟩:=Array.getElem?_eq_some_iff.1 hb
   simp [putRow,hl]
  simp only [storeCells,Sem.run_bind,add_off]
  rw [run_store P w _ v _ (h1 v (by simp)),hc]
  simp only [hfr,Bool.false_eq_true,if_false,Result.andThen_ok,hset]
  rw [ih (i + 1) _ _ hb2 (by simp;omega) (by simpa using hf) (fun u hu=>h1 u (by simp [hu]))]
  rw [setFrom]
  congr 1
  simp [putRow,Array.setIfInBounds_setIfInBounds,Nat.add_assoc]
theorem oneCell_rv {E:Ren} {v v':Value} (h:RV E v v'):v'.oneCell' = v.oneCell':=by cases h <;> rfl
theorem mem_of_ra {E:Ren} {c c':Array Value} (h:RA E c c') {v':Value} (hv:v' ∈ c'.toList):∃ v ∈ c.toList,RV E v v':=by
 obtain ⟨i,hi⟩:=List.mem_iff_getElem?.1 hv
 rw [Array.getElem?_toList] at hi
 obtain ⟨hl,_⟩:=Array.getElem?_eq_some_iff.1 hi
 have hl':i < c.size:=h.1 ▸ hl
 have hg:c[i]?=some c[i]:=Array.getElem?_eq_getElem hl'
 exact ⟨c[i],by simp,h.2 i _ _ hg hi⟩
theorem setFrom_get:∀ (vs:List Value) (c:Array Value) (k i:Nat),(setFrom c k vs)[i]?=if k ≤ i∧i < k + vs.length∧i < c.size then vs[i - k]? else c[i]?:=by
 intro vs
 induction vs with
 | nil=>intro c k i;rw [setFrom,if_neg (by simp;omega)]
 | cons v vs ih =>
  intro c k i
  rw [setFrom,ih]
  simp only [Array.size_setIfInBounds,List.length_cons]
  by_cases h:k + 1 ≤ i∧i < k + 1 + vs.length∧i < c.size
  ·rw [if_pos h,if_pos (by omega)]
   have:i - k=(i - (k + 1)) + 1:=by omega
   rw [this,List.getElem?_cons_succ]
  ·rw [if_neg h]
   rw [Array.getElem?_setIfInBounds]
   by_cases hk:k=i
   ·subst hk
    by_cases hl:k < c.size
    ·rw [if_pos rfl,if_pos hl,if_pos ⟨Nat.le_refl _,by omega,hl⟩];simp
    ·rw [if_pos rfl,if_neg hl,if_neg (by omega),Array.getElem?_eq_none (by omega)]
   ·rw [if_neg hk,if_neg (by omega)]
theorem setFrom_rel {E:Ren} {c c' d d':Array Value} (k:Nat) (hd:RA E d d') (hle:c.size ≤ c'.size)
  (h:∀ (i:Nat) v v',c[i]?=some v→c'[i]?=some v'→RV E v v') :
  ∀ (i:Nat) v v',(setFrom c k d.toList)[i]?=some v→(setFrom c' k d'.toList)[i]?=some v'→RV E v v':=by
 intro i v v' hv hv'
 rw [setFrom_get] at hv hv'
 simp only [Array.length_toList,Array.getElem?_toList] at hv hv'
 split at hv
 ·rename_i e
  rw [if_pos ⟨e.1,hd.1 ▸ e.2.1,by omega⟩] at hv'
  exact hd.2 _ _ _ hv hv'
 ·rename_i e
  obtain ⟨hl,_⟩:=Array.getElem?_eq_some_iff.1 hv
  rw [if_neg (by rw [← hd.1];omega)] at hv'
  exact h _ _ _ hv hv'
def opSetCells (h:AH) (a:Addr) (vs:Array Value):Option AH :=
 if a.spot.isSome then none else
 match h.get a.block with
 | some (.cells c e fz,s)=>if fz=(0,0)∧a.off + vs.size ≤ c.size∧vs.toList.all Value.oneCell' = true then some (h.put a.block (some (.cells (setFrom c a.off vs.toList) e (0,0),s))) else none
 | _=>none
theorem opSetCells_run {P:Program} {E:Ren} {h h':AH} {w:World} (r:RW P E h w) {a:Addr} {b':Nat} {vs vs':Array Value} (hl:opSetCells h a vs=some h')
  (hat:E.at_ a.block=some b') (hv:RA E vs vs') :
  a.spot=none∧∃ w',(storeCells ⟨b',a.off,none⟩ vs'.toList).run P w=.ok () w'∧RW P E h' w'∧Ext E w E w'∧w'.heap.size=w.heap.size:=by
 unfold opSetCells at hl
 split at hl
 ·cases hl
 ·rename_i hs
  refine ⟨by simpa using hs,?_⟩
  split at hl
  ·rename_i c e fz s hb
   split at hl
   ·rename_i hn
    cases hl
    obtain ⟨rfl,hn⟩:=hn
    obtain ⟨n,o',h1,h2,h3,h4⟩:=r.live _ _ _ hb
    rw [hat] at h1;cases h1
    obtain ⟨c',fz',g1,g2,g3,g4⟩:=r.cells hb hat
    rw [h2] at g1;cases g1
    have hrun:=storeCells_run (P:=P) (off:=a.off) vs'.toList 0 c' w h2 (by have:=hv.1;simp;omega) (g4 rfl) (fun v' hv'=>by
     obtain ⟨v,m1,m2⟩:=mem_of_ra hv hv'
     rw [oneCell_rv m2];exact List.all_eq_true.1 hn.2 v m1)
    rw [Nat.add_zero] at hrun
    have ho:RO E (E.soft a.block) (.cells (setFrom c a.off vs.toList) e (0,0)) (.cells (setFrom c' a.off vs'.toList) e fz'):=by
     cases h3 with
     | hard hs hh =>
      exact .hard hs ⟨by rw [setFrom_size,setFrom_size];exact hh.1,setFrom_rel _ hv g2 g3⟩
     | soft hs hz hn' hle hf hh =>
      exact .soft hs hz (by rw [setFrom_size];exact hn') (by rw [setFrom_size,setFrom_size];exact hle) (by rw [setFrom_size];exact hf) (setFrom_rel _ hv g2 g3)
    obtain ⟨q1,q2⟩:=r.put hb rfl hat ho
    exact ⟨_,hrun,q1,q2,by simp [putRow]⟩
   ·cases hl
  ·cases hl
def opStore (P:Program) (h:AH) (t:TypeId) (addr val:Value):Option AH :=
 match addr with
 | .pointer (some a)=>match P.info? t with
  | some i=>if val.cells.size=i.size then opSetCells h a val.cells else none
  | none=>none
 | _=>none
theorem opStore_run {P:Program} {E:Ren} {h h':AH} {w:World} (r:RW P E h w) {t:TypeId} {x x' v v':Value} (hl:opStore P h t x v=some h') (hx:RV E x x') (hv:RV E v v') :
  ∃ w',(Instr.storeAt t x' v').run P w=.ok () w'∧RW P E h' w'∧Ext E w E w':=by
 unfold opStore at hl
 split at hl
 ·rename_i a
  split at hl
  ·rename_i i hi
   split at hl
   ·rename_i hn
    cases hx with
    | ptr hat =>
     obtain ⟨_,w',h1,h2,h3,_⟩:=opSetCells_run r hl hat hv.ra
     refine ⟨w',?_,h2,h3⟩
     have hs:v'.cells.size=i.size:=by rw [← hv.ra.1];exact hn
     simp [Instr.storeAt,Instr.sureAddr,storeVar,siz_run hi,hs,h1]
   ·cases hl
  ·cases hl
 ·cases hl
theorem RW.newRow {P:Program} {E:Ren} {h:AH} {w:World} (r:RW P E h w) {c c':Array Value} (e:TypeId) (hc:RA E c c') :
  ∃ E',RW P E' (h.push (.cells c e (0,0)) none) { w with heap:=w.heap.push (.cells c' e (0,0)) }∧Ext E w E' { w with heap:=w.heap.push (.cells c' e (0,0)) } ∧
   E'.at_ h.size=some w.heap.size∧E'.soft h.size=none:=by
 have le:=Ren.le_add r w.heap.size none
 obtain ⟨a,b⟩:=r.push none (.hard rfl (hc.mono le))
 exact ⟨_,a,b,by simp [Ren.add],by simp [Ren.add]⟩
def opNew (h:AH) (e:TypeId) (c:Array Value):Value × AH:=(.pointer (some ⟨h.size,0,none⟩),h.push (.cells c e (0,0)) none)
def opAlloc (P:Program) (h:AH) (e:TypeId):Option (Value × AH) :=
 match P.info? e with
 | some i=>match i.zero with
  | some z=>if plain z then some (opNew h e z.cells) else none
  | none=>none
 | none=>none
theorem opAlloc_run {P:Program} {E:Ren} {h h':AH} {w:World} (r:RW P E h w) {e:TypeId} {v:Value} (hl:opAlloc P h e=some (v,h')) :
  ∃ E' v' w',(Instr.alloc e true (.tuple #[])).run P w=.ok v' w'∧RW P E' h' w'∧Ext E w E' w'∧RV E' v v':=by
 unfold opAlloc at hl
 split at hl
 ·rename_i i hi
  split at hl
  ·rename_i z hz
   split at hl
   ·rename_i hp
    cases hl
    obtain ⟨E',h1,h2,h3,h4⟩:=r.newRow e (RV.of_plain (E:=E) hp).ra
    exact ⟨E',_,_,by simp [Instr.alloc,zero_run hi hz,newVar,newRow,run_newObj],h1,h2,.ptr h3⟩
   ·cases hl
  ·cases hl
 ·cases hl
theorem opBox_run {P:Program} {E:Ren} {h:AH} {w:World} (r:RW P E h w) {e:TypeId} {x x':Value} (hx:RV E x x') :
  ∃ E' v' w',(Instr.box e x').run P w=.ok v' w'∧RW P E' (opNew h e x.cells).2 w'∧Ext E w E' w'∧RV E' (opNew h e x.cells).1 v':=by
 obtain ⟨E',h1,h2,h3,h4⟩:=r.newRow e hx.ra
 exact ⟨E',_,_,by simp [Instr.box,newVar,newRow,run_newObj],h1,h2,.ptr h3⟩
end Go.Ab
end
section
namespace Go.Ab
def opFieldAddr (P:Program) (s:TypeId) (v:Value) (f:Nat):Option Value :=
 match P.underlying s,v with
 | some (.struct fs),.pointer (some a)=>match fs[f]? with
  | some fd=>match P.info? fd.type with
   | some i=>if i.size=0 then none else if a.spot.isSome then none else some (.pointer (some (a.add fd.offset)))
   | none=>none
  | none=>none
 | some (.struct fs),.func (.yield 1) _ d=>match fs[f]? with
  | some fd=>match P.info? fd.type with
   | some i=>if i.size=0 then none else if fd.offset + i.size ≤ d.size then some (FPv (d.extract fd.offset (fd.offset + i.size))) else none
   | none=>none
  | none=>none
 | _,_=>none
theorem RV.fpPart {E:Ren} {d:Array Value} {b' off:Nat} {c:Array Value} (hf:E.fro b' = some c) (hn:off + d.size ≤ c.size) (h:∀ (i:Nat) v v',d[i]?=some v→c[off + i]?=some v'→RV E v v')
  {o n:Nat} (ho:o + n ≤ d.size):RV E (FPv (d.extract o (o + n))) (.pointer (some ⟨b',off + o,none⟩)):=by
 refine .fp hf (by simp;omega) fun i v v' hv hv'=>?_
 rw [Array.getElem?_extract] at hv
 split at hv
 ·exact h (o + i) v v' hv (by rw [← Nat.add_assoc];exact hv')
 ·cases hv
theorem fp_inv {E:Ren} {z d:Array Value} {x':Value} (h:RV E (.func (.yield 1) z d) x'):∃ b' off c,x' = .pointer (some ⟨b',off,none⟩)∧E.fro b' = some c∧off + d.size ≤ c.size ∧
  ∀ (i:Nat) v v',d[i]?=some v→c[off + i]?=some v'→RV E v v':=by
 generalize hxx:Value.func (.yield 1) z d=xx at h
 cases h with
 | fp hf hn hh=>cases hxx;exact ⟨_,_,_,rfl,hf,hn,hh⟩
 | _=>cases hxx
theorem vs_inv {E:Ren} {z l:Array Value} {x':Value} (h:RV E (.func (.yield 0) z l) x'):(l = #[]∧∃ a' cap',x' = .slice (some a') 0 cap') ∨
  ∃ b' off cap s c,x' = .slice (some ⟨b',off,none⟩) l.size cap∧E.fro b' = some c∧0 < s∧(∀ v ∈ l.toList,v.cells.size=s)∧off + l.size * s ≤ c.size∧l.size ≤ cap ∧
   ∀ (i:Nat) v v',(flatC l.toList)[i]?=some v→c[off + i]?=some v'→RV E v v':=by
 generalize hxx:Value.func (.yield 0) z l=xx at h
 cases h with
 | vs hf hs hl hn hc hh=>cases hxx;exact .inr ⟨_,_,_,_,_,rfl,hf,hs,by simpa using hl,by simpa using hn,by simpa using hc,by simpa using hh⟩
 | vs0=>cases hxx;exact .inl ⟨rfl,_,_,rfl⟩
 | _=>cases hxx
theorem flatC_at {l:List Value} {s:Nat} (hl:∀ v ∈ l,v.cells.size=s):∀ {i:Nat} {x:Value} (j:Nat),l[i]?=some x→j < s→(flatC l)[i * s + j]?=x.cells[j]?:=by
 induction l with
 | nil=>intro i x j h;simp at h
 | cons v l ih =>
  intro i x j h hj
  have hv:=hl v (by simp)
  have e:flatC (v::l)=v.cells.toList++flatC l:=rfl
  rw [e]
  cases i with
  | zero =>
   simp at h;subst h
   rw [List.getElem?_append_left (by simp;omega)];simp
  | succ i =>
   rw [List.getElem?_append_right (by simp [hv,Nat.succ_mul];omega)]
   have:(i + 1) * s + j - v.cells.toList.length=i * s + j:=by simp [hv,Nat.succ_mul];omega
   rw [this]
   exact ih (fun u hu=>hl u (by simp [hu])) j (by simpa using h) hj
theorem flatC_length {l:List Value} {s:Nat} (hl:∀ v ∈ l,v.cells.size=s):(flatC l).length=l.length * s:=by
 induction l with
 | nil=>simp [flatC]
 | cons v l ih =>
  have e:flatC (v::l)=v.cells.toList++flatC l:=rfl
  rw [e,List.length_append,ih (fun u hu=>hl u (by simp [hu])),Array.length_toList,hl v (by simp),List.length_cons,Nat.succ_mul];omega
theorem opFieldAddr_run {P:Program} {E:Ren} {s:TypeId} {x x':Value} {f:Nat} {v:Value} (h:opFieldAddr P s x f=some v) (hr:RV E x x') (w:World) :
  ∃ v',(Instr.fieldAt s x' f).run P w=.ok v' w∧RV E v v':=by
 unfold opFieldAddr at h
 split at h
 ·rename_i fs a e
  split at h
  ·rename_i fd hf
   split at h
   ·rename_i i hi
    split at h
    ·cases h
    ·rename_i hz
     split at h
     ·cases h
     ·cases hr with
      | ptr hat =>
       cases h
       refine ⟨_,?_,by rw [add_off];exact .ptr hat⟩
       simp [Instr.fieldAt,und_run e,hf,Instr.sureAddr,fieldPlace,siz_run hi,hz,add_off]
   ·cases h
  ·cases h
 ·rename_i fs z d e
  split at h
  ·rename_i fd hf
   split at h
   ·rename_i i hi
    split at h
    ·cases h
    ·rename_i hz
     split at h
     ·rename_i hle
      cases h
      obtain ⟨b',off,c,rfl,h1,h2,h3⟩:=fp_inv hr
      refine ⟨_,?_,RV.fpPart h1 h2 h3 hle⟩
      simp [Instr.fieldAt,und_run e,hf,Instr.sureAddr,fieldPlace,siz_run hi,hz,add_off]
     ·cases h
   ·cases h
  ·cases h
 ·cases h
def opIndexAddr (P:Program) (t:TypeId) (x ix:Value):Option Value :=
 match ix with
 | .int k i =>
  match P.underlying t,x with
  | some (.array len elem),.pointer (some a)=>match P.info? elem with
   | some d=>if a.spot.isSome then none else if 0 ≤ i∧i < len then some (.pointer (some (a.add (i.toNat * d.size)))) else none
   | none=>none
  | some (.slice elem),.slice (some a) len _=>match P.info? elem with
   | some d=>if a.spot.isSome then none else if 0 ≤ i∧i < len then some (.pointer (some (a.add (i.toNat * d.size)))) else none
   | none=>none
  | some (.array len elem),.func (.yield 1) _ c=>match P.info? elem with
   | some d=>if 0 ≤ i∧i < len∧i.toNat * d.size + d.size ≤ c.size then some (FPv (c.extract (i.toNat * d.size) (i.toNat * d.size + d.size))) else none
   | none=>none
  | some (.slice elem),.func (.yield 0) _ l=>match P.info? elem with
   | some d=>if 0 ≤ i then match l[i.toNat]? with
    | some v=>if v.cells.size=d.size then some (FPv v.cells) else none
    | none=>none
    else none
   | none=>none
  | _,_=>none
 | _=>none
theorem opIndexAddr_run {P:Program} {E:Ren} {t:TypeId} {x x' ix:Value} {v:Value} (h:opIndexAddr P t x ix=some v) (hr:RV E x x') (w:World) :
  ∃ v',(Instr.indexAt t x' ix).run P w=.ok v' w∧RV E v v':=by
 unfold opIndexAddr at h
 split at h
 ·rename_i k i
  split at h
  ·rename_i len elem a e
   split at h
   ·rename_i d hd
    split at h
    ·cases h
    ·split at h
     ·rename_i hi
      cases hr with
      | ptr hat =>
       cases h
       refine ⟨_,?_,by rw [add_off];exact .ptr hat⟩
       simp [Instr.indexAt,asIntOf,und_run e,Instr.sureAddr,hi.1,hi.2,siz_run hd,add_off]
     ·cases h
   ·cases h
  ·rename_i elem a len cap e
   split at h
   ·rename_i d hd
    split at h
    ·cases h
    ·split at h
     ·rename_i hi
      cases hr with
      | slice hat _ =>
       cases h
       refine ⟨_,?_,by rw [add_off];exact .ptr hat⟩
       simp [Instr.indexAt,asIntOf,und_run e,Instr.sureAddr,hi.1,hi.2,siz_run hd,add_off]
      | softSlice hat _ _ _ _ =>
       cases h
       refine ⟨_,?_,by rw [add_off];exact .ptr hat⟩
       simp [Instr.indexAt,asIntOf,und_run e,Instr.sureAddr,hi.1,hi.2,siz_run hd,add_off]
      | stub _=>exact absurd hi.2 (by omega)
     ·cases h
   ·cases h
  ·rename_i len elem z c e
   split at h
   ·rename_i d hd
    split at h
    ·rename_i hi
     cases h
     obtain ⟨b',off,c',rfl,h1,h2,h3⟩:=fp_inv hr
     refine ⟨_,?_,RV.fpPart h1 h2 h3 hi.2.2⟩
     simp [Instr.indexAt,asIntOf,und_run e,Instr.sureAddr,hi.1,hi.2.1,siz_run hd,add_off]
    ·cases h
   ·cases h
  ·rename_i elem z l e
   split at h
   ·rename_i d hd
    split at h
    ·rename_i hi
     split at h
     ·rename_i v hv
      split at h
      ·rename_i hvs
       cases h
       have hlt:=(Array.getElem?_eq_some_iff.1 hv).1
       rcases vs_inv hr with ⟨rfl,_⟩ | ⟨b',off,cap,s,c,rfl,h1,h2,h3,h4,h5,h6⟩
       ·simp at hlt
       ·have hvl:l.toList[i.toNat]?=some v:=by simpa using hv
        have hss:v.cells.size=s:=h3 v (List.mem_of_getElem? hvl)
        have hsd:d.size=s:=by omega
        have hmul:i.toNat * s + s ≤ l.size * s:=by rw [← Nat.succ_mul];exact Nat.mul_le_mul_right _ hlt
        refine ⟨.pointer (some ⟨b',off + i.toNat * d.size,none⟩),?_,.fp h1 (by rw [hsd];omega) fun j x x' hx hx'=>?_⟩
        ·have hb:i < (l.size:Int):=by omega
         simp [Instr.indexAt,asIntOf,und_run e,Instr.sureAddr,hi,hb,siz_run hd,add_off]
        ·have hj:j < s:=by have:=(Array.getElem?_eq_some_iff.1 hx).1;omega
         exact h6 (i.toNat * s + j) x x' (by rw [flatC_at h3 j hvl hj];exact hx) (by rw [← Nat.add_assoc,← hsd];exact hx')
      ·cases h
     ·cases h
    ·cases h
   ·cases h
  ·cases h
 ·cases h
def bound? (v:Value) (y:Nat):Option Nat :=
 match v with
 | .int _ i=>if 0 ≤ i∧i ≤ y then some i.toNat else none
 | _=>none
theorem bound_le {v:Value} {y n:Nat} (h:bound? v y=some n):n ≤ y:=by
 unfold bound? at h
 split at h
 ·split at h
  ·rename_i hi;cases h;omega
  ·cases h
 ·cases h
theorem bound_run {P:Program} {v:Value} {y y' n:Nat} (h:bound? v y=some n) (hy:y ≤ y') (c:BoundsCode) (w:World):(Instr.sliceBound v y' c).run P w=.ok n w:=by
 unfold bound? at h
 split at h
 ·rename_i k i
  split at h
  ·rename_i hi
   cases h
   have:0 ≤ i∧i ≤ (y':Int):=⟨hi.1,by omega⟩
   simp [Instr.sliceBound,asIntOf,this.1,this.2]
  ·cases h
 ·cases h
def bounds? (len cap:Nat) (low high:Option Value):Option (Nat × Nat) :=
 match (match high with | some v=>bound? v cap | none=>some len) with
 | some h=>match (match low with | some v=>bound? v h | none=>some 0) with
  | some l=>some (l,h)
  | none=>none
 | none=>none
theorem bounds_run {P:Program} {len cap cap':Nat} {low high:Option Value} {l h:Nat} (hb:bounds? len cap low high=some (l,h)) (hc:cap ≤ cap') (b:Bool) (w:World) :
  (Instr.sliceBounds b len cap' low high none).run P w=.ok (l,h,cap') w:=by
 unfold bounds? at hb
 split at hb
 ·rename_i h0 e
  split at hb
  ·rename_i l0 e'
   cases hb
   unfold Instr.sliceBounds
   cases high with
   | none =>
    simp only at e;cases e
    cases low with
    | none=>simp only at e';cases e';simp
    | some v=>simp only at e';simp [bound_run e' (Nat.le_refl _)]
   | some u =>
    simp only at e
    cases low with
    | none=>simp only at e';cases e';simp [bound_run e hc]
    | some v=>simp only at e';simp [bound_run e hc,bound_run e' (Nat.le_refl _)]
  ·cases hb
 ·cases hb
theorem bounds_le {len cap:Nat} {low high:Option Value} {l h:Nat} (hb:bounds? len cap low high=some (l,h)) (hlc:len ≤ cap):l ≤ h∧h ≤ cap:=by
 unfold bounds? at hb
 split at hb
 ·rename_i h0 e
  split at hb
  ·rename_i l0 e'
   cases hb
   have e2:h ≤ cap:=by
    cases high with
    | none=>simp only at e;cases e;exact hlc
    | some u=>exact bound_le e
   have e3:l ≤ h:=by
    cases low with
    | none=>simp only at e';cases e';exact Nat.zero_le _
    | some u=>exact bound_le e'
   exact ⟨e3,e2⟩
  ·cases hb
 ·cases hb
def opSlice (P:Program) (h:AH) (t:TypeId) (x:Value) (low high:Option Value):Option Value :=
 match P.underlying t,x with
 | some (.array n elem),.pointer (some a)=>match P.info? elem,h.get a.block,bounds? n n low high with
  | some d,some (_,none),some (l,g)=>if a.spot.isSome then none else some (.slice (some (if n=l then a else a.add (l * d.size))) (g - l) (n - l))
  | _,_,_=>none
 | some (.slice elem),.slice none len cap=>match P.info? elem,bounds? len cap low high with
  | some d,some (l,g)=>some (.slice none (g - l) (cap - l))
  | _,_=>none
 | some (.slice elem),.slice (some a) len cap=>match P.info? elem,bounds? len cap low high,h.get a.block with
  | some d,some (l,g),some (_,s)=>if a.spot.isSome then none else if len ≤ cap∧s.all (· = d.size) then
    some (.slice (some (if cap=l then a else a.add (l * d.size))) (g - l) (cap - l)) else none
  | _,_,_=>none
 | some (.slice elem),.func (.yield 0) _ vs=>match P.info? elem,bounds? vs.size vs.size low high with
  | some d,some (l,g)=>if (vs[0]?).all (·.cells.size=d.size) then some (VSl ((vs.toList.drop l).take (g - l))) else none
  | _,_=>none
 | _,_=>none
theorem RV.vsPart {E:Ren} {l:List Value} {b' off s:Nat} {c:Array Value} (hf:E.fro b' = some c) (hs:0 < s) (hl:∀ v ∈ l,v.cells.size=s) (hn:off + l.length * s ≤ c.size)
  (h:∀ (i:Nat) v v',(flatC l)[i]?=some v→c[off + i]?=some v'→RV E v v') {i n cap:Nat} (hi:i + n ≤ l.length) (hc:n ≤ cap) :
  RV E (VSl ((l.drop i).take n)) (.slice (some ⟨b',off + i * s,none⟩) n cap):=by
 have hlen:((l.drop i).take n).length=n:=by simp;omega
 have hm:∀ v ∈ (l.drop i).take n,v.cells.size=s:=fun v hv=>hl v (List.mem_of_mem_drop (List.mem_of_mem_take hv))
 have hle:(i + n) * s ≤ l.length * s:=Nat.mul_le_mul_right _ hi
 rw [Nat.add_mul] at hle
 have:=RV.vs (E:=E) (l:=(l.drop i).take n) (b':=b') (off:=off + i * s) (cap:=cap) hf hs hm (by rw [hlen];omega) (by rw [hlen];exact hc) fun j v v' hv hv'=>?_
 ·rw [hlen] at this;exact this
 ·have hj:j < n * s:=by
   have:=(List.getElem?_eq_some_iff.1 hv).1
   rw [flatC_length hm,hlen] at this;exact this
  have hq:j / s < n:=(Nat.div_lt_iff_lt_mul hs).2 hj
  have hjs:j / s * s + j % s=j:=by rw [Nat.mul_comm];exact Nat.div_add_mod j s
  have hx:((l.drop i).take n)[j / s]?=some (l[i + j / s]'(by omega)):=by
   rw [List.getElem?_take,if_pos hq,List.getElem?_drop,List.getElem?_eq_getElem]
  have hx2:l[i + j / s]?=some (l[i + j / s]'(by omega)):=List.getElem?_eq_getElem _
  have e1:=flatC_at hm (j % s) hx (Nat.mod_lt _ hs)
  have e2:=flatC_at hl (j % s) hx2 (Nat.mod_lt _ hs)
  rw [hjs] at e1
  rw [e1,← e2] at hv
  refine h _ v v' hv ?_
  rw [← hv']
  congr 1
  rw [Nat.add_mul];omega
theorem opSlice_run {P:Program} {E:Ren} {h:AH} {w:World} (r:RW P E h w) {t:TypeId} {x x':Value} {low high:Option Value} {v:Value}
  (hv:opSlice P h t x low high=some v) (hr:RV E x x'):∃ v',(Instr.sliceAt t x' low high none).run P w=.ok v' w∧RV E v v':=by
 unfold opSlice at hv
 split at hv
 ·rename_i n elem a e
  split at hv
  ·rename_i d o l g hd hg hb
   split at hv
   ·cases hv
   ·cases hv
    cases hr with
    | ptr hat =>
     obtain ⟨n',o',h1,h2,h3,h4⟩:=r.live _ _ _ hg
     rw [hat] at h1;cases h1
     have hs:=Option.map_eq_none_iff.1 h4.symm
     simp only [Instr.sliceAt,Sem.run_bind,und_run e,Result.andThen_ok,Instr.sureAddr,Sem.run_pure,bounds_run hb (Nat.le_refl _),siz_run hd]
     refine ⟨_,rfl,?_⟩
     rw [add_off,add_off]
     split
     ·exact .slice hat hs
     ·exact .slice hat hs
  ·cases hv
 ·rename_i elem len cap e
  split at hv
  ·rename_i d l g hd hb
   cases hv
   cases hr with
   | nilSlice _ _ =>
    simp only [Instr.sliceAt,Instr.slice,Sem.run_bind,und_run e,Result.andThen_ok,bounds_run hb (Nat.le_refl _),siz_run hd,Sem.run_pure]
    refine ⟨_,rfl,?_⟩
    have:(if cap=l then (none:Option Addr) else Option.map (fun x:Addr=>x.add (l * d.size)) none)=none:=by split <;> rfl
    rw [this]
    exact .nilSlice _ _
  ·cases hv
 ·rename_i elem a len cap e
  split at hv
  ·rename_i d l g o s hd hb hg
   split at hv
   ·cases hv
   ·split at hv
    ·rename_i hlc
     obtain ⟨n',o',h1,h2,h3,h4⟩:=r.live _ _ _ hg
     obtain ⟨b1,b2⟩:=bounds_le hb hlc.1
     have hrun:∀ (a':Addr) (cap':Nat),cap ≤ cap'→(Instr.sliceAt t (.slice (some a') len cap') low high none).run P w =
       .ok (.slice (some (if cap' = l then a' else a'.add (l * d.size))) (g - l) (cap' - l)) w:=by
      intro a' cap' hc
      simp only [Instr.sliceAt,Instr.slice,Sem.run_bind,und_run e,Result.andThen_ok,bounds_run hb hc,siz_run hd,Sem.run_pure]
      by_cases e2:cap' = l
      ·simp [e2]
      ·simp [e2]
     cases hr with
     | slice hat hs =>
      cases hv
      refine ⟨_,hrun _ _ (Nat.le_refl _),?_⟩
      rw [add_off,add_off]
      split
      ·exact .slice hat hs
      ·exact .slice hat hs
     | softSlice hat hs ho hc hle =>
      cases hv
      refine ⟨_,hrun _ _ hle,?_⟩
      rename_i bb' off0 cap0 C0 s0 i0 hspot
      have hsz:s0=d.size:=by
       have:=hlc.2
       rw [h4,hs] at this
       simpa using this
      by_cases e2:cap=l
      ·have:g - l=0:=by omega
       rw [if_pos e2,this]
       have:cap - l=0:=by omega
       rw [this]
       exact .stub (by rw [hs];rfl)
      ·rw [if_neg e2,if_neg (by omega),add_off,add_off]
       exact .softSlice (i:=i0 + l) hat hs (by rw [Nat.add_mul,← ho,hsz]) (by omega) (by omega)
     | stub hs =>
      cases hv
      refine ⟨_,hrun _ _ (Nat.zero_le _),?_⟩
      have e0:l=0:=by omega
      have e1:g=0:=by omega
      subst e0 e1
      rw [if_pos rfl]
      exact .stub hs
    ·cases hv
  ·cases hv
 ·rename_i elem z vs e
  split at hv
  ·rename_i d l g hd hb
   split at hv
   ·rename_i hsz
    cases hv
    obtain ⟨b1,b2⟩:=bounds_le hb (Nat.le_refl _)
    have hrun:∀ (a':Addr) (cap':Nat),vs.size ≤ cap'→(Instr.sliceAt t (.slice (some a') vs.size cap') low high none).run P w =
      .ok (.slice (some (if cap' = l then a' else a'.add (l * d.size))) (g - l) (cap' - l)) w:=by
     intro a' cap' hc
     simp only [Instr.sliceAt,Instr.slice,Sem.run_bind,und_run e,Result.andThen_ok,bounds_run hb hc,siz_run hd,Sem.run_pure]
     by_cases e2:cap' = l
     ·simp [e2]
     ·simp [e2]
    rcases vs_inv hr with ⟨rfl,a',cap',rfl⟩ | ⟨b',off,cap,s,c,rfl,h1,h2,h3,h4,h5,h6⟩
    ·refine ⟨_,hrun a' cap' (Nat.zero_le _),?_⟩
     simp at b2
     have:g - l=0:=by omega
     simp only [this,List.take_zero]
     exact .vs0
    ·refine ⟨_,hrun _ _ h5,?_⟩
     by_cases hgl:g - l=0
     ·simp only [hgl,List.take_zero];exact .vs0
     ·have hne:¬ cap=l:=by omega
      rw [if_neg hne,add_off]
      have hv0:vs[0]?=some vs[0]:=Array.getElem?_eq_getElem (by omega)
      have hds:d.size=s:=by
       rw [hv0] at hsz
       have e1:vs[0].cells.size=d.size:=by simpa using hsz
       rw [← e1];exact h3 _ (by simp)
      rw [hds]
      exact RV.vsPart h1 h2 h3 (by simpa using h4) h6 (by simp;omega) (by omega)
   ·cases hv
  ·cases hv
 ·cases hv
def opIndex (P:Program) (t:TypeId) (x ix:Value):Option Value :=
 match ix,P.underlying t,x with
 | .int k i,some (.array len elem),.agg cs=>match P.info? elem with
  | some d=>if 0 ≤ i∧i < len then opPart P elem cs (i.toNat * d.size) else none
  | none=>none
 | .int k i,some .string,.string s=>if 0 ≤ i∧i.toNat < s.size then some (.int .u8 s[i.toNat]!.toNat) else none
 | _,_,_=>none
theorem opIndex_run {P:Program} {E:Ren} {t:TypeId} {x x' ix:Value} {v:Value} (h:opIndex P t x ix=some v) (hr:RV E x x') (w:World) :
  ∃ v',(Instr.index t x' ix).run P w=.ok v' w∧RV E v v':=by
 unfold opIndex at h
 split at h
 ·rename_i k i len elem cs e
  split at h
  ·rename_i d hd
   split at h
   ·rename_i hi
    cases hr with
    | agg hn hh =>
     obtain ⟨v',h1,h2⟩:=opPart_run h ⟨hn,hh⟩ w
     exact ⟨v',by simp [Instr.index,asIntOf,und_run e,hi.1,hi.2,siz_run hd,h1],h2⟩
   ·cases h
  ·cases h
 ·rename_i k i s e
  split at h
  ·rename_i hi
   cases h
   cases hr with
   | string =>
    refine ⟨_,?_,.int _ _⟩
    have:s[i.toNat]?=some s[i.toNat]!:=by
     rw [getElem?_pos s i.toNat hi.2,getElem!_pos s i.toNat hi.2]
    simp [Instr.index,asIntOf,und_run e,hi.1,this]
  ·cases h
 ·cases h
def opExtract (x:Value) (i:Nat):Option Value :=
 match x with
 | .tuple vs=>vs[i]?
 | _=>none
theorem opExtract_run {P:Program} {E:Ren} {x x':Value} {i:Nat} {v:Value} (h:opExtract x i=some v) (hr:RV E x x') (w:World) :
  ∃ v',(Instr.extract x' i).run P w=.ok v' w∧RV E v v':=by
 unfold opExtract at h
 split at h
 ·cases hr with
  | tuple hn hh =>
   obtain ⟨v',h1,h2⟩:=RA.get ⟨hn,hh⟩ h
   exact ⟨v',by simp [Instr.extract,h1],h2⟩
 ·cases h
def opMakeInterface (P:Program) (t:TypeId) (x:Value):Option Value :=
 match P.underlying t with
 | some (.interface _) | none=>none
 | some _=>some (.iface t x)
theorem opMakeInterface_run {P:Program} {E:Ren} {t:TypeId} {x x' v:Value} (h:opMakeInterface P t x=some v) (hr:RV E x x') (w:World) :
  ∃ v',(Instr.makeInterface t x').run P w=.ok v' w∧RV E v v':=by
 unfold opMakeInterface at h
 split at h
 ·cases h
 ·cases h
 ·rename_i d hd e
  cases h
  refine ⟨_,?_,.iface t hr⟩
  simp only [Instr.makeInterface,Sem.run_bind,und_run e,Result.andThen_ok]
  cases d <;> first | rfl | exact absurd rfl (hd _)
def opTypeAssert (P:Program) (x:Value) (asserted:TypeId) (ok:Bool):Option Value :=
 let holds (v:Value):Option Value:=some (if ok then .tuple #[v,.bool true] else v)
 let fails:Option Value:=if ok then match P.info? asserted with
  | some i=>match i.zero with
   | some z=>if plain z then some (.tuple #[z,.bool false]) else none
   | none=>none
  | none=>none
  else none
 match P.underlying asserted,x with
 | some (.interface _),.nilIface=>fails
 | some (.interface want),.iface t v=>match P.info? t with
  | some i=>match Instr.missingMethod want i.methods with
   | none=>holds (.iface t v)
   | some _=>fails
  | none=>none
 | some _,.nilIface=>fails
 | some _,.iface t v=>if t=asserted then holds v else fails
 | _,_=>none
theorem RA.two {E:Ren} {a a' b b':Value} (ha:RV E a a') (hb:RV E b b'):RA E #[a,b] #[a',b']:=by
 have:=(RA.one ha).push hb
 exact this
theorem RV.tup {E:Ren} {c c':Array Value} (h:RA E c c'):RV E (.tuple c) (.tuple c'):=.tuple h.1 h.2
end Go.Ab
end
