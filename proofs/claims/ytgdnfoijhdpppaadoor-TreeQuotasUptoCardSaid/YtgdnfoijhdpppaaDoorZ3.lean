import Derived.Laws.BytesString
import Derived.Test.YtgdnfoijhdpppaaDoorZ2
set_option linter.unusedVariables false
set_option linter.unusedSimpArgs false
section
namespace Go.Ab
theorem opTypeAssert_run {P:Program} {E:Ren} {x x':Value} {st t:TypeId} {ok:Bool} {v:Value} (h:opTypeAssert P x t ok=some v) (hr:RV E x x') (w:World) :
  ∃ v',(Instr.typeAssert x' st t ok).run P w=.ok v' w∧RV E v v':=by
 have holds:∀ {u u':Value},RV E u u'→RV E (if ok then .tuple #[u,.bool true] else u) (if ok then .tuple #[u',.bool true] else u'):=by
  intro u u' hu
  cases ok
  ·exact hu
  ·exact RV.tup (RA.two hu (.bool true))
 have fails:∀ {u:Value},(if ok=true then match P.info? t with
  | some i=>match i.zero with
   | some z=>if plain z=true then some (.tuple #[z,.bool false]) else none
   | none=>none
  | none=>none
  else none)=some u→ok=true∧∃ z,(zeroValue t).run P w=.ok z w∧u=.tuple #[z,.bool false]∧plain z=true:=by
  intro u hu
  split at hu
  ·rename_i hok
   split at hu
   ·rename_i i hi
    split at hu
    ·rename_i z hz
     split at hu
     ·rename_i hp
      cases hu
      exact ⟨hok,z,zero_run hi hz w,rfl,hp⟩
     ·cases hu
    ·cases hu
   ·cases hu
  ·cases hu
 unfold opTypeAssert at h
 simp only at h
 unfold Instr.typeAssert
 split at h
 ·rename_i m e
  cases hr
  obtain ⟨hok,z,h1,h2,h3⟩:=fails h
  subst h2
  refine ⟨.tuple #[z,.bool false],?_,RV.tup (RA.two (RV.of_plain h3) (.bool _))⟩
  simp [und_run e,hok,h1]
 ·rename_i want ty u e
  split at h
  ·rename_i i hi
   cases hr with
   | iface _ hu =>
    split at h
    ·rename_i hm
     cases h
     refine ⟨_,?_,holds (.iface ty hu)⟩
     simp only [Sem.run_bind,und_run e,Result.andThen_ok,info_run hi,hm,Sem.run_pure]
    ·rename_i s hm
     obtain ⟨hok,z,h1,h2,h3⟩:=fails h
     subst h2
     refine ⟨.tuple #[z,.bool false],?_,RV.tup (RA.two (RV.of_plain h3) (.bool _))⟩
     simp [und_run e,info_run hi,hm,hok,h1]
  ·cases h
 ·rename_i d hd e
  cases hr
  obtain ⟨hok,z,h1,h2,h3⟩:=fails h
  subst h2
  refine ⟨.tuple #[z,.bool false],?_,RV.tup (RA.two (RV.of_plain h3) (.bool _))⟩
  simp only [Sem.run_bind,und_run e,Result.andThen_ok]
  cases d <;> first | (exact absurd rfl (hd _)) | simp [hok,h1]
 ·rename_i d ty u hd e
  cases hr with
  | iface _ hu =>
   split at h
   ·rename_i ht
    cases h
    refine ⟨_,?_,holds hu⟩
    simp only [Sem.run_bind,und_run e,Result.andThen_ok]
    cases d <;> first | (exact absurd rfl (hd _)) | simp [ht]
   ·rename_i ht
    obtain ⟨hok,z,h1,h2,h3⟩:=fails h
    subst h2
    refine ⟨.tuple #[z,.bool false],?_,RV.tup (RA.two (RV.of_plain h3) (.bool _))⟩
    simp only [Sem.run_bind,und_run e,Result.andThen_ok]
    cases d <;> first | (exact absurd rfl (hd _)) | simp [ht,hok,h1]
 ·cases h
def fillA (place:Nat→Option (Nat × Nat)) (cells:Array Value):List (Nat × Value)→Option (Array Value)
 | []=>some cells
 | (i,v)::rest =>
  match place i with
  | none=>none
  | some (off,size)=>if v.cells.size ≠ size || off + v.cells.size > cells.size then none else fillA place (setFrom cells off v.cells.toList) rest
theorem zip_setFrom:∀ (l:List Value) (k off:Nat) (cs:Array Value),(l.zipIdx k).foldl (fun cs (p:Value × Nat)=>cs.setIfInBounds (off + p.2) p.1) cs=setFrom cs (off + k) l
 | [],k,off,cs=>rfl
 | v::l,k,off,cs=>by
  rw [List.zipIdx_cons,List.foldl_cons,zip_setFrom l (k + 1) off,setFrom]
  rfl
inductive Parts (E:Ren):List (Nat × Value)→List (Nat × Value)→Prop
 | nil:Parts E [] []
 | cons {i:Nat} {v v':Value} {l l':List (Nat × Value)} (h:RV E v v') (t:Parts E l l'):Parts E ((i,v)::l) ((i,v')::l')
theorem fillA_run {E:Ren} {place:Nat→Option (Nat × Nat)} {l l':List (Nat × Value)} (hp:Parts E l l'):∀ {c c' r:Array Value},RA E c c'→fillA place c l=some r →
  ∃ r',Instr.fill place c' l' = some r'∧RA E r r':=by
 induction hp with
 | nil=>intro c c' r hc h;cases h;exact ⟨c',rfl,hc⟩
 | @cons i v v' l l' h t ih =>
  intro c c' r hc hf
  unfold fillA at hf
  unfold Instr.fill
  cases hpl:place i with
  | none=>rw [hpl] at hf;cases hf
  | some os =>
   obtain ⟨off,size⟩:=os
   rw [hpl] at hf
   simp only at hf ⊢
   split at hf
   ·cases hf
   ·rename_i hn
    have hra:=h.ra
    rw [← hra.1,← hc.1,if_neg hn]
    have e:v'.cells.zipIdx.foldl (fun cs (c,j)=>cs.setIfInBounds (off + j) c) c' = setFrom c' off v'.cells.toList:=by
     rw [← Array.foldl_toList,Array.toList_zipIdx]
     exact zip_setFrom _ 0 off c'
    rw [e]
    exact ih ⟨by rw [setFrom_size,setFrom_size];exact hc.1,setFrom_rel _ hra (Nat.le_of_eq hc.1) hc.2⟩ hf
def placesOf (P:Program):List Field→Option (List (Nat × Nat))
 | []=>some []
 | f::fs=>match P.info? f.type,placesOf P fs with
  | some i,some l=>some ((f.offset,i.size)::l)
  | _,_=>none
theorem placesOf_run {P:Program} (w:World):∀ {fs:List Field} {l:List (Nat × Nat)},placesOf P fs=some l →
  (fs.mapM fun f=>do pure (f.offset,← sizeOf f.type):Sem (List (Nat × Nat))).run P w=.ok l w:=by
 intro fs
 induction fs with
 | nil=>intro l h;cases h;rfl
 | cons f fs ih =>
  intro l h
  unfold placesOf at h
  split at h
  ·rename_i i l' hi hl
   cases h
   rw [List.mapM_cons]
   simp only [Sem.run_bind,siz_run hi,ih hl,Result.andThen_ok,Sem.run_pure]
  ·cases h
def opBuild (P:Program) (t:TypeId) (parts:List (Nat × Value)):Option Value :=
 match P.info? t with
 | some i=>match i.zero with
  | some z=>if plain z then match P.underlying t with
   | some (.struct fs)=>match placesOf P fs.toList with
    | some pl=>match fillA (fun i=>pl[i]?) z.cells parts with
     | some c=>some (.agg c)
     | none=>none
    | none=>none
   | some (.array _ elem)=>match P.info? elem with
    | some d=>match fillA (fun i=>some (i * d.size,d.size)) z.cells parts with
     | some c=>some (.agg c)
     | none=>none
    | none=>none
   | _=>none
   else none
  | none=>none
 | none=>none
theorem opBuild_run {P:Program} {E:Ren} {t:TypeId} {l:List (Nat × Value)} {l':Array (Nat × Value)} {v:Value} (h:opBuild P t l=some v) (hp:Parts E l l'.toList) (w:World) :
  ∃ v',(Instr.build t l').run P w=.ok v' w∧RV E v v':=by
 unfold opBuild at h
 split at h
 ·rename_i i hi
  split at h
  ·rename_i z hz
   split at h
   ·rename_i hpz
    have hzz:=(RV.of_plain (E:=E) hpz).ra
    split at h
    ·rename_i fs e
     split at h
     ·rename_i pl hpl
      split at h
      ·rename_i c hc
       cases h
       obtain ⟨c',h1,h2⟩:=fillA_run hp hzz hc
       refine ⟨.agg c',?_,.agg h2.1 h2.2⟩
       have hm:(fs.mapM fun f=>do pure (f.offset,← sizeOf f.type):Sem (Array (Nat × Nat))).run P w=.ok pl.toArray w:=by
        rw [Array.mapM_eq_mapM_toList]
        simp only [Sem.run_map,placesOf_run w hpl,Result.andThen_ok]
       simp only [Instr.build,Sem.run_bind,zero_run hi hz,Result.andThen_ok,und_run e,hm]
       have:(fun x:Nat=>pl.toArray[x]?)=fun x:Nat=>pl[x]?:=by funext x;simp
       rw [this,h1]
       rfl
      ·cases h
     ·cases h
    ·rename_i n elem e
     split at h
     ·rename_i d hd
      split at h
      ·rename_i c hc
       cases h
       obtain ⟨c',h1,h2⟩:=fillA_run hp hzz hc
       refine ⟨.agg c',?_,.agg h2.1 h2.2⟩
       simp only [Instr.build,Sem.run_bind,zero_run hi hz,Result.andThen_ok,und_run e,siz_run hd,h1]
       rfl
      ·cases h
     ·cases h
    ·cases h
   ·cases h
  ·cases h
 ·cases h
def zrow (z:Array Value):Nat→List Value
 | 0=>[]
 | n + 1=>zrow z n++[z[n % z.size]!]
theorem zrow_eq (z:Array Value) (n:Nat):(Array.range n).map (fun i=>z[i % z.size]!)=(zrow z n).toArray:=by
 induction n with
 | zero=>simp [zrow]
 | succ n ih=>rw [Array.range_succ,Array.map_append,ih,zrow];simp
def zerosOf (P:Program) (e:TypeId) (n:Nat):Option (Array Value) :=
 match P.info? e with
 | some i=>if n * i.size=0 then some #[] else match i.zero with
  | some z=>if plain z && z.cells.size == i.size then
    some (if i.size=1 then (List.replicate n z.cells[0]!).toArray else (zrow z.cells (n * i.size)).toArray) else none
  | none=>none
 | none=>none
theorem zerosOf_eq {P:Program} {e:TypeId} {n:Nat} {c:Array Value} (h:zerosOf P e n=some c) (w:World) :
  ∃ i,P.info? e=some i∧(∀ E:Ren,RA E c c) ∧
   ((n * i.size=0∧c = #[]) ∨ (n * i.size ≠ 0∧∃ z,(zeroValue e).run P w=.ok z w∧(Array.range (n * i.size)).map (fun k=>z.cells[k % z.cells.size]!)=c)):=by
 unfold zerosOf at h
 split at h
 ·rename_i i hi
  refine ⟨i,hi,?_⟩
  split at h
  ·rename_i h0
   cases h
   exact ⟨fun E=>.empty,.inl ⟨h0,rfl⟩⟩
  ·rename_i h0
   split at h
   ·rename_i z hz
    split at h
    ·rename_i hp
     simp only [Bool.and_eq_true,beq_iff_eq] at hp
     cases h
     have key:(Array.range (n * i.size)).map (fun k=>z.cells[k % z.cells.size]!)=if i.size=1 then (List.replicate n z.cells[0]!).toArray else (zrow z.cells (n * i.size)).toArray:=by
      rw [zrow_eq]
      split
      ·rename_i h1
       have hz1:z.cells.size=1:=hp.2.trans h1
       congr 1
       rw [h1,Nat.mul_one]
       clear h0 hz hi
       induction n with
       | zero=>rfl
       | succ n ih=>rw [zrow,ih,hz1,Nat.mod_one,List.replicate_succ']
      ·rfl
     rw [← key]
     refine ⟨fun E=>⟨rfl,fun k v v' hv hv'=>?_⟩,.inr ⟨h0,z,zero_run hi hz w,rfl⟩⟩
     rw [hv] at hv'
     cases hv'
     obtain ⟨hk,hg⟩:=Array.getElem?_eq_some_iff.1 hv
     simp only [Array.getElem_map,Array.getElem_range] at hg
     have hpos:0 < z.cells.size:=by rw [hp.2];exact Nat.pos_of_ne_zero (fun e=>h0 (by simp [e]))
     have hlt:=Nat.mod_lt k hpos
     rw [getElem!_pos z.cells _ hlt] at hg
     rw [← hg]
     exact (RV.of_plain (E:=E) hp.1).ra.2 _ _ _ (Array.getElem?_eq_getElem hlt) (Array.getElem?_eq_getElem hlt)
    ·cases h
   ·cases h
 ·cases h
def opBuildSlice (P:Program) (h:AH) (t:TypeId) (len:Nat) (parts:List (Nat × Value)):Option (Value × AH) :=
 match P.underlying t with
 | some (.slice elem)=>match P.info? elem with
  | some d=>if len * d.size > 2 ^ 24 then none else match zerosOf P elem len with
   | some z=>match fillA (fun i=>some (i * d.size,d.size)) z parts with
    | some c=>some (.slice (some ⟨h.size,0,none⟩) len len,h.push (.cells c elem (0,0)) none)
    | none=>none
   | none=>none
  | none=>none
 | _=>none
theorem opBuildSlice_run {P:Program} {E:Ren} {h h':AH} {w:World} (r:RW P E h w) {t:TypeId} {len:Nat} {l:List (Nat × Value)} {l':Array (Nat × Value)} {v:Value}
  (hh:opBuildSlice P h t len l=some (v,h')) (hp:Parts E l l'.toList) :
  ∃ E' v' w',(Instr.buildSlice t len l').run P w=.ok v' w'∧RW P E' h' w'∧Ext E w E' w'∧RV E' v v':=by
 unfold opBuildSlice at hh
 split at hh
 ·rename_i elem e
  split at hh
  ·rename_i d hd
   split at hh
   ·cases hh
   ·rename_i hlim
    split at hh
    ·rename_i z hz
     split at hh
     ·rename_i c hc
      cases hh
      obtain ⟨i,hi,hra,hcase⟩:=zerosOf_eq hz w
      rw [hd] at hi;cases hi
      obtain ⟨c',h1,h2⟩:=fillA_run hp (hra E) hc
      obtain ⟨E',g1,g2,g3,g4⟩:=r.newRow elem h2
      refine ⟨E',_,_,?_,g1,g2,.slice g3 g4⟩
      rcases hcase with ⟨h0,rfl⟩ | ⟨h0,z',hz',rfl⟩
      ·simp only [Instr.buildSlice,Sem.run_bind,und_run e,Result.andThen_ok,siz_run hd,if_neg hlim,if_pos h0,Sem.run_pure]
       have:(Array.range (len * d.size)).map (fun k=>(#[]:Array Value)[k % (#[]:Array Value).size]!) = #[]:=by rw [h0];simp
       rw [this,h1]
       simp [newRow,run_newObj]
      ·simp only [Instr.buildSlice,Sem.run_bind,und_run e,Result.andThen_ok,siz_run hd,if_neg hlim,if_neg h0,hz',Sem.run_pure]
       rw [h1]
       simp [newRow,run_newObj]
     ·cases hh
    ·cases hh
  ·cases hh
 ·cases hh
def opMakeSlice (P:Program) (h:AH) (t:TypeId) (len cap:Value):Option (Value × AH) :=
 match P.underlying t,len,cap with
 | some (.slice elem),.int _ l,.int _ c=>match P.info? elem with
  | some d=>if 0 ≤ l∧l ≤ c∧c < 2 ^ 24∧d.bytes < 2 ^ 16 then match zerosOf P elem c.toNat with
   | some z=>some (.slice (some ⟨h.size,0,none⟩) l.toNat c.toNat,h.push (.cells z elem (0,0)) none)
   | none=>none
   else none
  | none=>none
 | _,_,_=>none
theorem wrap_small {n:Int} (h0:0 ≤ n) (h:n < 2 ^ 24):IntKind.i64.wrap n=n:=by
 unfold IntKind.wrap
 simp [IntKind.bits,IntKind.signed]
 omega
theorem opMakeSlice_run {P:Program} {E:Ren} {h h':AH} {w:World} (r:RW P E h w) {t:TypeId} {len cap:Value} {v:Value}
  (hh:opMakeSlice P h t len cap=some (v,h')) :
  ∃ E' v' w',(Instr.makeSlice t len cap).run P w=.ok v' w'∧RW P E' h' w'∧Ext E w E' w'∧RV E' v v':=by
 unfold opMakeSlice at hh
 split at hh
 ·rename_i elem k1 l k2 c e
  split at hh
  ·rename_i d hd
   split at hh
   ·rename_i hlc
    split at hh
    ·rename_i z hz
     cases hh
     obtain ⟨i,hi,hra,hcase⟩:=zerosOf_eq hz w
     rw [hd] at hi;cases hi
     obtain ⟨E',g1,g2,g3,g4⟩:=r.newRow elem (hra E)
     refine ⟨E',_,_,?_,g1,g2,.slice g3 g4⟩
     have w1:=wrap_small hlc.1 (by omega:l < 2 ^ 24)
     have w2:=wrap_small (by omega:0 ≤ c) hlc.2.2.1
     have hb:¬ ((d.bytes:Int) * c > 2 ^ 48):=by
      have:(d.bytes:Int) * c ≤ 2 ^ 16 * 2 ^ 24:=Int.mul_le_mul (by omega) (by omega) (by omega) (by omega)
      omega
     have hc0:¬ c < 0:=by omega
     have hl0:¬ l < 0:=by omega
     have hlc':¬ l > c:=by omega
     rcases hcase with ⟨h0,rfl⟩ | ⟨h0,z',hz',rfl⟩
     ·simp only [Instr.makeSlice,Sem.run_bind,und_run e,Result.andThen_ok,asInt,asIntOf,Sem.run_pure,info_run hd,w1,w2,hb,hc0,hl0,hlc',decide_false,Bool.or_false,Bool.or_self,Bool.false_eq_true,if_false,
       run_askRoom,siz_run hd,if_pos h0]
      have:(Array.range (c.toNat * d.size)).map (fun k=>(#[]:Array Value)[k % (#[]:Array Value).size]!) = #[]:=by rw [h0];simp
      rw [this]
      simp [newRow,run_newObj]
     ·simp only [Instr.makeSlice,Sem.run_bind,und_run e,Result.andThen_ok,asInt,asIntOf,Sem.run_pure,info_run hd,w1,w2,hb,hc0,hl0,hlc',decide_false,Bool.or_false,Bool.or_self,Bool.false_eq_true,if_false,
       run_askRoom,siz_run hd,if_neg h0,hz']
      simp [newRow,run_newObj]
    ·cases hh
   ·cases hh
  ·cases hh
 ·cases hh
end Go.Ab
end
section
namespace Go.Ab
theorem RW.grow {P:Program} {E:Ren} {h:AH} {w:World} (r:RW P E h w) {b b' C z:Nat} {o₀:Obj} {s₀:Option Nat} (hb:h.get b=some (o₀,s₀)) (hi:iced o₀=false) (hat:E.at_ b=some b')
  (hsoft:E.soft b=some (C,z)) {o o':Obj} (ho:RO (E.add h.size b' (some (C,z))) (some (C,z)) o o') :
  RW P (E.add h.size b' (some (C,z))) ((h.put b none).push o (some z)) { w with heap:=w.heap.setIfInBounds b' o' } ∧
   Ext E w (E.add h.size b' (some (C,z))) { w with heap:=w.heap.setIfInBounds b' o' }:=by
 have le:=Ren.le_add r b' (some (C,z))
 have hlt:=(r.dom b b' hat).2
 have hbs:=(r.dom b b' hat).1
 have hnf:=r.unfro hb hat hi
 refine ⟨⟨fun g hg=>le.at_ g g (r.glob g hg),fun k n hk=>?_,fun k x hk=>?_,fun k x t hk=>?_,fun j k n hj hk gj gk=>?_,fun n c hn=>?_,fun k x t n hk hn hf=>?_,RW.sep_add r fun g hg=>?_⟩,⟨le,fun k n hk=>?_,by simp,fun n hn hj=>?_,rfl,rfl,rfl,Nat.le_refl _,fun n hn=>?_⟩⟩
 ·simp only [Ren.add] at hk
  split at hk
  ·cases hk;subst_vars;simp [hlt]
  ·have:=r.dom k n hk;simp;omega
 ·by_cases e:k=h.size
  ·exact ⟨b',by simp [Ren.add,e]⟩
  ·have hk':E.soft k=some x:=by simpa [Ren.add,e] using hk
   obtain ⟨n,hn⟩:=r.sdom k x hk'
   exact ⟨n,by simpa [Ren.add,e] using hn⟩
 ·rw [AH.get_push,AH.size_put] at hk
  split at hk
  ·rename_i e;subst e;cases hk
   exact ⟨b',o',by simp [Ren.add],by simp [hlt],by simpa [Ren.add] using ho,by simp [Ren.add]⟩
  ·rename_i e
   rw [AH.get_put] at hk
   split at hk
   ·cases hk
   ·rename_i e2
    obtain ⟨n,o2,g1,g2,g3,g4⟩:=r.live k x t hk
    have hs:(E.add h.size b' (some (C,z))).soft k=E.soft k:=le.soft k n g1
    have hne:n ≠ b':=fun he=>e2 (r.inj k b n g1 (he ▸ hat) (by rw [hk];rfl) (by rw [hb];rfl))
    refine ⟨n,o2,le.at_ k n g1,?_,hs ▸ g3.mono le,hs ▸ g4⟩
    simp only [Array.getElem?_setIfInBounds]
    rw [if_neg (fun e=>hne e.symm)];exact g2
 ·have hd:∀ (i:Nat),(E.add h.size b' (some (C,z))).at_ i=some n→(((h.put b none).push o (some z)).get i).isSome→(i=h.size∧n=b') ∨ (E.at_ i=some n∧i ≠ b∧(h.get i).isSome∧i < h.size):=by
   intro i hi gi
   simp only [Ren.add] at hi
   split at hi
   ·cases hi;exact .inl ⟨by assumption,rfl⟩
   ·rename_i e
    rw [AH.get_push,AH.size_put,if_neg e,AH.get_put] at gi
    split at gi
    ·cases gi
    ·rename_i e2
     exact .inr ⟨hi,e2,gi,(r.dom i n hi).1⟩
  rcases hd j hj gj with ⟨a1,a2⟩ | ⟨a1,a2,a3,a4⟩ <;> rcases hd k hk gk with ⟨b1,b2⟩ | ⟨b1,b2,b3,b4⟩
  ·omega
  ·subst a2
   exact absurd (r.inj k b _ b1 hat b3 (by rw [hb];rfl)) b2
  ·subst b2
   exact absurd (r.inj j b _ a1 hat a3 (by rw [hb];rfl)) a2
  ·exact r.inj j k n a1 b1 a3 b3
 ·obtain ⟨cw,e,fz,g1,g2,g3⟩:=r.frz n c hn
  refine ⟨cw,e,fz,?_,g2,g3⟩
  have:b' ≠ n:=by rintro rfl;rw [show E.fro b' = _ from hn] at hnf;cases hnf
  simp only [Array.getElem?_setIfInBounds]
  rw [if_neg this];exact g1
 ·simp only [Ren.add] at hn hf
  split at hn
  ·cases hn;rw [hnf] at hf;cases hf
  ·rename_i e
   rw [AH.get_push,AH.size_put,if_neg e,AH.get_put] at hk
   split at hk
   ·cases hk
   ·exact r.icy k x t n hk hn hf
 ·refine Nat.lt_of_lt_of_le hg (Nat.le_of_not_lt fun hlt'=>?_)
  have e:=r.sep.2 b b' hat hlt'
  rw [r.sep.1 b (e ▸ hlt')] at hsoft
  cases hsoft
 ·simp only [Ren.add] at hk
  split at hk
  ·cases hk;exact .inl ⟨b,hat⟩
  ·exact .inl ⟨k,hk⟩
 ·have:b' ≠ n:=fun e=>hj b (e ▸ hat)
  simp only [Array.getElem?_setIfInBounds]
  rw [if_neg this]
 ·have:b' ≠ n:=by rintro rfl;rw [hnf] at hn;cases hn
  simp only [Array.getElem?_setIfInBounds]
  rw [if_neg this]
def opFirst (h:AH) (size n:Nat) (x:Value):Option (Array Value) :=
 match x with
 | .slice (some a) _ _=>if n * size=0 then some #[] else opCells h a (n * size)
 | .slice none _ _=>some #[]
 | .string s=>some ((s.extract 0 n).data.map fun b=>.int .u8 b.toNat)
 | .func (.yield 0) _ l=>if n * size=0 then some #[] else if (l[0]?).all (·.cells.size=size)∧n ≤ l.size then some (flatC (l.toList.take n)).toArray else none
 | _=>none
theorem RA.of_plain {E:Ren} {c:Array Value} (h:∀ v ∈ c.toList,RV E v v):RA E c c:=by
 refine ⟨rfl,fun i v v' hv hv'=>?_⟩
 rw [hv] at hv';cases hv'
 exact h v (by rw [← Array.getElem?_toList] at hv;exact List.mem_of_getElem? hv)
theorem opFirst_run {P:Program} {E:Ren} {h:AH} {w:World} (r:RW P E h w) {size n:Nat} {x x':Value} {l:Array Value} (hl:opFirst h size n x=some l) (hx:RV E x x')
  (hstub:∀ a c,x=.slice (some a) 0 c→n=0):∃ l',(Builtin.firstCells size n x').run P w=.ok l' w∧RA E l l':=by
 unfold opFirst at hl
 split at hl
 ·rename_i a ln cp
  by_cases h0:n * size=0
  ·rw [if_pos h0] at hl;cases hl
   have:∀ a',(Builtin.firstCells size n (.slice (some a') ln cp)).run P w=.ok #[] w:=fun a'=>by
    simp [Builtin.firstCells,h0,loadCells,loadCellsFrom]
   have key:∀ a' ln' cp',(Builtin.firstCells size n (.slice (some a') ln' cp')).run P w=.ok #[] w:=fun a' ln' cp'=>by
    simp [Builtin.firstCells,h0,loadCells,loadCellsFrom]
   cases hx with
   | slice=>exact ⟨#[],key _ _ _,.empty⟩
   | softSlice=>exact ⟨#[],key _ _ _,.empty⟩
   | stub=>exact ⟨#[],key _ _ _,.empty⟩
  ·rw [if_neg h0] at hl
   cases hx with
   | slice hat _ =>
    obtain ⟨_,l',h1,h2⟩:=opCells_run r hl hat
    exact ⟨l',by simpa [Builtin.firstCells] using h1,h2⟩
   | softSlice hat _ _ _ _ =>
    obtain ⟨_,l',h1,h2⟩:=opCells_run r hl hat
    exact ⟨l',by simpa [Builtin.firstCells] using h1,h2⟩
   | stub _=>exact absurd (hstub _ _ rfl) (fun e=>h0 (by simp [e]))
 ·cases hl;cases hx
  exact ⟨#[],by simp [Builtin.firstCells],.empty⟩
 ·cases hl;cases hx
  refine ⟨_,by simp [Builtin.firstCells],.of_plain fun v hv=>?_⟩
  simp only [Array.toList_map,List.mem_map] at hv
  obtain ⟨b,_,rfl⟩:=hv
  exact .int _ _
 ·rename_i z vs
  split at hl
  ·rename_i h0
   cases hl
   have key:∀ a' ln' cp',(Builtin.firstCells size n (.slice (some a') ln' cp')).run P w=.ok #[] w:=fun a' ln' cp'=>by
    simp [Builtin.firstCells,h0,loadCells,loadCellsFrom]
   rcases vs_inv hx with ⟨rfl,a',cap',rfl⟩ | ⟨b',off,cap,s,c,rfl,h1,h2,h3,h4,h5,h6⟩
   ·exact ⟨#[],key _ _ _,.empty⟩
   ·exact ⟨#[],key _ _ _,.empty⟩
  ·rename_i h0
   split at hl
   ·rename_i hc
    cases hl
    rcases vs_inv hx with ⟨rfl,a',cap',rfl⟩ | ⟨b',off,cap,s,c,rfl,h1,h2,h3,h4,h5,h6⟩
    ·have:=hc.2
     simp at this
     subst this
     simp at h0
    ·have hpos:0 < vs.size:=by
      have:n ≠ 0:=fun e=>h0 (by simp [e])
      omega
     have hv0:vs[0]?=some vs[0]:=Array.getElem?_eq_getElem hpos
     have hds:size=s:=by
      have:=hc.1
      rw [hv0] at this
      have e1:vs[0].cells.size=size:=by simpa using this
      rw [← e1];exact h3 _ (by simp)
     subst hds
     have hm:∀ v ∈ vs.toList.take n,v.cells.size=size:=fun v hv=>h3 v (List.mem_of_mem_take hv)
     have hfl:=flatC_length hm
     have hlen:(vs.toList.take n).length=n:=by simp;omega
     rw [hlen] at hfl
     have hle:n * size ≤ vs.size * size:=Nat.mul_le_mul_right _ hc.2
     have hpre:∀ (i:Nat) v,(flatC (vs.toList.take n))[i]?=some v→(flatC vs.toList)[i]?=some v:=by
      intro i v hv
      have:flatC vs.toList=flatC (vs.toList.take n)++flatC (vs.toList.drop n):=by
       unfold flatC
       rw [← List.flatMap_append,List.take_append_drop]
      rw [this,List.getElem?_append_left (List.getElem?_eq_some_iff.1 hv).1]
      exact hv
     obtain ⟨l',g1,g2⟩:=r.still (d:=(flatC (vs.toList.take n)).toArray) h1 (by simp [hfl];omega) (fun i v v' hv hv'=>h6 i v v' (hpre i v (by simpa using hv)) hv') (n:=n * size) (by simp [hfl])
     refine ⟨l',by simpa [Builtin.firstCells] using g1,?_⟩
     have e:((flatC (vs.toList.take n)).toArray).extract 0 (n * size)=(flatC (vs.toList.take n)).toArray:=by
      rw [← hfl];simp
     rw [e] at g2;exact g2
   ·cases hl
 ·cases hl
def lenOf?:Value→Option Nat
 | .slice _ n _=>some n
 | .string s=>some s.size
 | .func (.yield 0) _ l=>some l.size
 | _=>none
theorem lenOf_run {P:Program} {E:Ren} {x x':Value} {n:Nat} (h:lenOf? x=some n) (hx:RV E x x') (w:World):(Builtin.lenOf x').run P w=.ok n w:=by
 cases hx <;> simp [lenOf?,VSl,FPv] at h <;> (try subst h) <;> simp [Builtin.lenOf]
def appendKind (P:Program) (argTypes:Array TypeId):Bool :=
 match argTypes[1]? with
 | none=>true
 | some t=>match P.underlying t with
  | some (.int _) | none=>false
  | some _=>true
def opAppend (P:Program) (h:AH) (argTypes:Array TypeId) (s x:Value):Option (Value × AH) :=
 if appendKind P argTypes then
 match argTypes[0]? with
 | some st=>match P.underlying st with
  | some (.slice elem)=>match P.info? elem,lenOf? x with
   | some d,some n=>match opFirst h d.size n x,s with
    | some new,.slice base sLen sCap =>
     if new.size=n * d.size then
     if sLen + n ≤ sCap then
      match base with
      | none=>some (.slice none (sLen + n) sCap,h)
      | some a=>if n * d.size=0 then some (.slice base (sLen + n) sCap,h) else
       if a.spot.isSome then none else match opSetCells h (a.add (sLen * d.size)) new with
       | some h'=>some (.slice base (sLen + n) sCap,h')
       | none=>none
     else if 0 < d.size∧0 < d.bytes∧d.bytes < 2 ^ 30∧(sLen + n) * d.bytes < 2 ^ 40∧(d.zero.any fun z=>z.cells.size=d.size) then
      match opFirst h d.size sLen s with
      | some old=>if old.size=sLen * d.size then match base with
       | none=>some (.slice (some ⟨h.size,0,none⟩) (sLen + n) (sLen + n),h.push (.cells (old++new) elem (0,0)) (some d.size))
       | some a=>match h.get a.block with
        | some (_,none)=>some (.slice (some ⟨h.size,0,none⟩) (sLen + n) (sLen + n),h.push (.cells (old++new) elem (0,0)) (some d.size))
        | some (.cells _ e fz,some z)=>if fz=(0,0)∧z=d.size∧e=elem∧a.off=0∧a.spot=none∧0 < sCap∧new.toList.all Value.oneCell' then
          some (.slice (some ⟨h.size,0,none⟩) (sLen + n) (sLen + n),(h.put a.block none).push (.cells (old++new) elem (0,0)) (some d.size))
          else none
        | _=>none
       else none
      | none=>none
     else none
     else none
    | _,_=>none
   | _,_=>none
  | _=>none
 | none=>none
 else none
theorem growBy_le (newLen:Nat):∀ (r c:Nat),Builtin.growBy newLen r c ≤ max c (newLen + (newLen + 768) / 4):=by
 intro r
 induction r with
 | zero=>intro c;exact Nat.le_max_left _ _
 | succ r ih =>
  intro c
  rw [Builtin.growBy]
  split
  ·exact Nat.le_max_left _ _
  ·refine Nat.le_trans (ih _) (Nat.max_le.2 ⟨?_,Nat.le_max_right _ _⟩)
   refine Nat.le_trans ?_ (Nat.le_max_right _ _)
   omega
theorem nextslicecap_le {need old:Nat} (h:old < need):Builtin.nextslicecap need old ≤ 2 * need + 192:=by
 unfold Builtin.nextslicecap
 split
 ·omega
 ·split
  ·omega
  ·have:=growBy_le need 4 old
   omega
theorem append_new {P:Program} {w:World} {argTypes:Array TypeId} {st elem ty:TypeId} {d:TypeInfo} {z:Value} {s x:Value} {base:Option Addr} {sLen sCap n:Nat} {old new:Array Value}
  (hk:appendKind P argTypes=true) (h0:argTypes[0]?=some st) (hu:P.underlying st=some (.slice elem)) (hd:P.info? elem=some d) (hz:d.zero=some z)
  (hs:s=.slice base sLen sCap) (hn:(Builtin.lenOf x).run P w=.ok n w) (hno:sCap < sLen + n) (hb0:0 < d.bytes) (hb:d.bytes < 2 ^ 30) (hlim:(sLen + n) * d.bytes < 2 ^ 40)
  (hold':(Builtin.firstCells d.size sLen s).run P { w with drawn:=w.drawn + 1 }=.ok old { w with drawn:=w.drawn + 1 })
  (hnew':(Builtin.firstCells d.size n x).run P { w with drawn:=w.drawn + 1 }=.ok new { w with drawn:=w.drawn + 1 }) :
  ∃ newCap,sLen + n ≤ newCap∧(Builtin.append_ argTypes ty #[s,x]).run P w =
   .ok (.slice (some ⟨w.heap.size,0,none⟩) (sLen + n) newCap)
    { w with drawn:=w.drawn + 1,heap:=w.heap.push (.cells (old++new++Builtin.zeroCells z.cells (newCap - (sLen + n))) elem (0,0)) }:=by
 subst hs
 have hneed:sLen + n < 2 ^ 40:=Nat.lt_of_le_of_lt (Nat.le_mul_of_pos_right _ hb0) hlim
 have hcap:=nextslicecap_le hno
 have h48:¬ (Builtin.nextslicecap (sLen + n) sCap * d.bytes > 2 ^ 48):=by
  have h1:Builtin.nextslicecap (sLen + n) sCap * d.bytes ≤ (2 * (sLen + n) + 192) * d.bytes:=Nat.mul_le_mul_right _ hcap
  have h2:(2 * (sLen + n) + 192) * d.bytes=2 * ((sLen + n) * d.bytes) + 192 * d.bytes:=by rw [Nat.add_mul,Nat.mul_assoc]
  omega
 have hmax:¬ (((sLen + n:Nat):Int) > IntKind.i64.max∧((false=true) ∨ d.bytes=0)):=by
  rintro ⟨h1,h2 | h2⟩
  ·cases h2
  ·omega
 have hroom:¬ (sLen + n ≤ sCap):=by omega
 have e0:¬ d.bytes=0:=by omega
 have hforced:(Question.appendCap (sLen + n) sCap elem).forced=false:=rfl
 refine ⟨(Question.appendCap (sLen + n) sCap elem).cut (w.tape w.drawn (.appendCap (sLen + n) sCap elem)),?_,?_⟩
 ·simp only [Question.cut];omega
 have hzr:∀ w':World,(zeroValue elem).run P w' = .ok z w':=fun w'=>zero_run hd hz w'
 have body:∀ zeros:Bool,zeros=false→True:=fun _ _=>trivial
 unfold appendKind at hk
 cases h1:argTypes[1]? with
 | none =>
  simp only [Builtin.append_,h0,h1,List.getElem?_toArray,List.getElem?_cons_zero,List.getElem?_cons_succ,Sem.run_bind,und_run hu,Result.andThen_ok,siz_run hd,Sem.run_pure,Bool.false_eq_true,if_false,hn,
   hroom,hmax,info_run hd,h48,run_choose,hforced,run_askRoom,hold',hnew',Bool.not_false,if_true,hzr,false_or,false_and,and_false,ite_false,ite_true,e0,or_self]
  simp only [newRow,run_newObj,Sem.run_bind,Result.andThen_ok,Sem.run_pure]
 | some t =>
  rw [h1] at hk
  simp only at hk
  cases hut:P.underlying t with
  | none=>rw [hut] at hk;cases hk
  | some dd =>
   rw [hut] at hk
   have hm:∀ k,dd ≠ .int k:=by rintro k rfl;cases hk
   cases dd
   case int k=>exact absurd rfl (hm k)
   all_goals
    simp only [Builtin.append_,h0,h1,List.getElem?_toArray,List.getElem?_cons_zero,List.getElem?_cons_succ,Sem.run_bind,und_run hu,und_run hut,Result.andThen_ok,siz_run hd,Sem.run_pure,Bool.false_eq_true,if_false,hn,
     hroom,hmax,info_run hd,h48,run_choose,hforced,run_askRoom,hold',hnew',Bool.not_false,if_true,hzr,false_or,false_and,and_false,ite_false,ite_true,e0,or_self]
    simp only [newRow,run_newObj,Sem.run_bind,Result.andThen_ok,Sem.run_pure]
end Go.Ab
end
section
namespace Go.Ab
theorem append_room {P:Program} {w w₂:World} {argTypes:Array TypeId} {st elem ty:TypeId} {d:TypeInfo} {s x:Value} {base:Option Addr} {sLen sCap n:Nat} {new:Array Value}
  (hk:appendKind P argTypes=true) (h0:argTypes[0]?=some st) (hu:P.underlying st=some (.slice elem)) (hd:P.info? elem=some d)
  (hs:s=.slice base sLen sCap) (hn:(Builtin.lenOf x).run P w=.ok n w) (hroom:sLen + n ≤ sCap)
  (hnew:(Builtin.firstCells d.size n x).run P w=.ok new w)
  (hst:match base with | some a=>(storeCells (a.add (sLen * d.size)) new.toList).run P w=.ok () w₂ | none=>w₂=w) :
  (Builtin.append_ argTypes ty #[s,x]).run P w=.ok (.slice base (sLen + n) sCap) w₂:=by
 subst hs
 unfold appendKind at hk
 cases h1:argTypes[1]? with
 | none =>
  simp only [Builtin.append_,h0,h1,List.getElem?_toArray,List.getElem?_cons_zero,List.getElem?_cons_succ,Sem.run_bind,und_run hu,Result.andThen_ok,siz_run hd,Sem.run_pure,Bool.false_eq_true,if_false,hn,
   hroom,hnew,Bool.not_false,if_true]
  cases base with
  | none=>simp only at hst;subst hst;simp
  | some a=>simp only at hst;simp [hst]
 | some t =>
  rw [h1] at hk
  simp only at hk
  cases hut:P.underlying t with
  | none=>rw [hut] at hk;cases hk
  | some dd =>
   rw [hut] at hk
   have hm:∀ k,dd ≠ .int k:=by rintro k rfl;cases hk
   cases dd
   case int k=>exact absurd rfl (hm k)
   all_goals
    simp only [Builtin.append_,h0,h1,List.getElem?_toArray,List.getElem?_cons_zero,List.getElem?_cons_succ,Sem.run_bind,und_run hu,und_run hut,Result.andThen_ok,siz_run hd,Sem.run_pure,Bool.false_eq_true,if_false,hn,
     hroom,hnew,Bool.not_false,if_true]
    cases base with
    | none=>simp only at hst;subst hst;simp
    | some a=>simp only at hst;simp [hst]
theorem RW.of_heap {P:Program} {E:Ren} {h:AH} {w w':World} (r:RW P E h w) (e:w'.heap=w.heap):RW P E h w' where
 glob:=r.glob
 dom k n hk:=by rw [e];exact r.dom k n hk
 sdom:=r.sdom
 live k o s hk:=by rw [e];exact r.live k o s hk
 inj:=r.inj
 frz b c hb:=by rw [e];exact r.frz b c hb
 icy:=r.icy
 sep:=r.sep
theorem Ext.of_heap {E E':Ren} {w w₁ w':World} (x:Ext E w₁ E' w') (e:w₁.heap=w.heap) (ho:w₁.os=w.os) (hu:w₁.output=w.output) (ht:w₁.tape=w.tape) (hd:w.drawn ≤ w₁.drawn):Ext E w E' w' where
 le:=x.le
 range k n hk:=by rw [← e];exact x.range k n hk
 size:=by rw [← e];exact x.size
 frame n hn hj:=by rw [← e] at hn ⊢;exact x.frame n hn hj
 os:=x.os.trans ho
 output:=x.output.trans hu
 tape:=x.tape.trans ht
 drawn:=Nat.le_trans hd x.drawn
 ice n hn:=by rw [← e];exact x.ice n hn
theorem RW.newSoft {P:Program} {E:Ren} {h:AH} {w:World} (r:RW P E h w) {c c' rest:Array Value} (e:TypeId) {C z:Nat} {lo hi:Nat} (hz:0 < z) (hc:RA E c c') (hn:(c'++rest).size=C * z)
  (hf:(c'++rest).size ≤ lo ∨ hi ≤ lo) :
  ∃ E',RW P E' (h.push (.cells c e (0,0)) (some z)) { w with heap:=w.heap.push (.cells (c'++rest) e (lo,hi)) }∧Ext E w E' { w with heap:=w.heap.push (.cells (c'++rest) e (lo,hi)) } ∧
   E'.at_ h.size=some w.heap.size∧E'.soft h.size=some (C,z):=by
 have le:=Ren.le_add r w.heap.size (some (C,z))
 obtain ⟨a,b⟩:=r.push (o:=.cells c e (0,0)) (o':=.cells (c'++rest) e (lo,hi)) (some (C,z)) (.soft rfl hz hn (by simp [hc.1]) hf (fun i v v' hv hv'=>by
  have hlt:=(Array.getElem?_eq_some_iff.1 hv).1
  rw [Array.getElem?_append_left (hc.1 ▸ hlt)] at hv'
  exact (hc.2 i v v' hv hv').mono le))
 exact ⟨_,a,b,by simp [Ren.add],by simp [Ren.add]⟩
theorem zeroCells_size (z:Array Value) (n:Nat):(Builtin.zeroCells z n).size=n * z.size:=by simp [Builtin.zeroCells]
theorem opAppend_run {P:Program} {E:Ren} {h h':AH} {w:World} (r:RW P E h w) {argTypes:Array TypeId} {ty:TypeId} {s x s' x' v:Value}
  (hh:opAppend P h argTypes s x=some (v,h')) (hs:RV E s s') (hx:RV E x x') :
  ∃ E' v' w',(Builtin.append_ argTypes ty #[s',x']).run P w=.ok v' w'∧RW P E' h' w'∧Ext E w E' w'∧RV E' v v':=by
 unfold opAppend at hh
 split at hh
 case isFalse=>cases hh
 rename_i hk
 split at hh
 case h_2=>cases hh
 rename_i st h0
 split at hh
 case h_2=>cases hh
 rename_i elem hu
 split at hh
 case h_2=>cases hh
 rename_i d n hd hln
 split at hh
 case h_2=>cases hh
 rename_i new base sLen sCap hnew
 have hn:=lenOf_run (P:=P) hln hx w
 have hstub:∀ a c,x=.slice (some a) 0 c→n=0:=by
  rintro a c rfl;simp [lenOf?] at hln;exact hln.symm
 split at hh
 case isFalse=>cases hh
 rename_i hnsz
 have hnew2:∀ w':World,w'.heap=w.heap→∃ l',(Builtin.firstCells d.size n x').run P w' = .ok l' w'∧RA E new l':=fun w' e=>opFirst_run (r.of_heap e) hnew hx hstub
 split at hh
 ·
  rename_i hroom
  obtain ⟨new',g1,g2⟩:=hnew2 w rfl
  split at hh
  ·
   cases hh
   cases hs
   exact ⟨E,_,w,append_room hk h0 hu hd rfl hn hroom g1 rfl,r,.refl E w,.nilSlice _ _⟩
  ·rename_i a
   split at hh
   ·
    rename_i hz
    cases hh
    have he:new'.toList=[]:=by
     have:new'.size=0:=by rw [← g2.1,hnsz,hz]
     simpa using this
    have hst:∀ a':Addr,(storeCells (a'.add (sLen * d.size)) new'.toList).run P w=.ok () w:=by
     intro a';rw [he];rfl
    cases hs with
    | slice hat hsf=>exact ⟨E,_,w,append_room hk h0 hu hd rfl hn hroom g1 (hst _),r,.refl E w,.slice hat hsf⟩
    | softSlice hat hsf ho hc hle=>exact ⟨E,_,w,append_room hk h0 hu hd rfl hn (Nat.le_trans hroom hle) g1 (hst _),r,.refl E w,.softSlice hat hsf ho hc hle⟩
    | stub hsf =>
     have:n=0:=by omega
     subst this
     exact ⟨E,_,w,append_room hk h0 hu hd rfl hn (Nat.zero_le _) g1 (hst _),r,.refl E w,.stub hsf⟩
   ·rename_i hz
    split at hh
    ·cases hh
    ·split at hh
     case h_2=>cases hh
     rename_i h2 hset
     cases hh
     cases hs with
     | slice hat hsf =>
      rw [add_off] at hset
      obtain ⟨_,w',q1,q2,q3,_⟩:=opSetCells_run r hset hat g2
      exact ⟨E,_,w',append_room hk h0 hu hd rfl hn hroom g1 (by simp only [add_off];exact q1),q2,q3,.slice hat hsf⟩
     | softSlice hat hsf ho hc hle =>
      rw [add_off] at hset
      obtain ⟨_,w',q1,q2,q3,_⟩:=opSetCells_run r hset hat g2
      exact ⟨E,_,w',append_room hk h0 hu hd rfl hn (Nat.le_trans hroom hle) g1 (by simp only [add_off];exact q1),q2,q3,.softSlice hat hsf ho hc hle⟩
     | stub hsf=>exact absurd (by omega:n=0) (fun e=>hz (by simp [e]))
 ·
  rename_i hroom
  split at hh
  case isFalse=>cases hh
  rename_i hlim
  obtain ⟨hsz,hb0,hb,hlim,hzz⟩:=hlim
  obtain ⟨z,hz,hzs⟩:∃ z,d.zero=some z∧z.cells.size=d.size:=by
   cases hzd:d.zero with
   | none=>rw [hzd] at hzz;cases hzz
   | some z=>rw [hzd] at hzz;exact ⟨z,rfl,by simpa using hzz⟩
  split at hh
  case h_2=>cases hh
  rename_i old hold
  split at hh
  case isFalse=>cases hh
  rename_i hosz
  have rd:RW P E h { w with drawn:=w.drawn + 1 }:=r.of_heap rfl
  obtain ⟨old',o1,o2⟩:=opFirst_run rd hold hs (by rintro a c e;cases e;rfl)
  obtain ⟨new',n1,n2⟩:=opFirst_run rd hnew hx hstub
  have xt:∀ {E' w'},Ext E { w with drawn:=w.drawn + 1 } E' w'→Ext E w E' w':=fun x=>x.of_heap rfl rfl rfl rfl (Nat.le_succ _)
  have osz:old'.size=sLen * d.size:=by rw [← o2.1,hosz]
  have nsz:new'.size=n * d.size:=by rw [← n2.1,hnsz]
  have hra:=o2.append n2
  have total:∀ newCap,sLen + n ≤ newCap→(old'++new'++Builtin.zeroCells z.cells (newCap - (sLen + n))).size=newCap * d.size:=by
   intro newCap hc
   rw [Array.size_append,Array.size_append,osz,nsz,zeroCells_size,hzs,← Nat.add_mul,← Nat.add_mul]
   congr 1
   omega
  -- a new row in the world
  have fresh:∀ {base':Option Addr} {cap':Nat},s' = .slice base' sLen cap'→cap' < sLen + n →
    ∃ newCap,sLen + n ≤ newCap∧(Builtin.append_ argTypes ty #[s',x']).run P w=.ok (.slice (some ⟨w.heap.size,0,none⟩) (sLen + n) newCap)
     { w with drawn:=w.drawn + 1,heap:=w.heap.push (.cells (old'++new'++Builtin.zeroCells z.cells (newCap - (sLen + n))) elem (0,0)) }:=by
   intro base' cap' e hc
   exact append_new hk h0 hu hd hz e hn hc hb0 hb hlim o1 n1
  have put:∀ {g:AH},RW P E g { w with drawn:=w.drawn + 1 }→g.size=h.size→∀ newCap,sLen + n ≤ newCap→∃ E',RW P E' (g.push (.cells (old++new) elem (0,0)) (some d.size))
     { w with drawn:=w.drawn + 1,heap:=w.heap.push (.cells (old'++new'++Builtin.zeroCells z.cells (newCap - (sLen + n))) elem (0,0)) } ∧
     Ext E w E' { w with drawn:=w.drawn + 1,heap:=w.heap.push (.cells (old'++new'++Builtin.zeroCells z.cells (newCap - (sLen + n))) elem (0,0)) } ∧
     RV E' (.slice (some ⟨h.size,0,none⟩) (sLen + n) (sLen + n)) (.slice (some ⟨w.heap.size,0,none⟩) (sLen + n) newCap):=by
   intro g rg hg newCap hc
   obtain ⟨E',q1,q2,q3,q4⟩:=rg.newSoft (rest:=Builtin.zeroCells z.cells (newCap - (sLen + n))) elem (lo:=0) (hi:=0) hsz hra (total newCap hc) (.inr (Nat.le_refl 0))
   rw [hg] at q3 q4
   exact ⟨E',q1,xt q2,.softSlice (i:=0) q3 q4 (by simp) (by simp) hc⟩
  split at hh
  ·
   cases hh
   cases hs
   obtain ⟨newCap,hc,hrun⟩:=fresh rfl (by omega)
   obtain ⟨E',q1,q2,q3⟩:=put rd rfl newCap hc
   exact ⟨E',_,_,hrun,q1,q2,q3⟩
  ·rename_i a
   split at hh
   ·
    rename_i o hg
    cases hh
    obtain ⟨nn,oo,l1,l2,l3,l4⟩:=r.live _ _ _ hg
    have hsf:=Option.map_eq_none_iff.1 l4.symm
    cases hs with
    | slice hat _ =>
     obtain ⟨newCap,hc,hrun⟩:=fresh rfl (by omega)
     obtain ⟨E',q1,q2,q3⟩:=put rd rfl newCap hc
     exact ⟨E',_,_,hrun,q1,q2,q3⟩
    | softSlice hat hs2 _ _ _=>rw [hs2] at hsf;cases hsf
    | stub hs2=>rw [hsf] at hs2;cases hs2
   ·rename_i c0 e0 fz0 zz hg
    split at hh
    case isFalse=>cases hh
    rename_i hcond
    obtain ⟨hfz0,rfl,rfl,ha0,hasp,hcap0,hone⟩:=hcond
    subst hfz0
    cases hh
    obtain ⟨nn,oo,l1,l2,l3,l4⟩:=r.live _ _ _ hg
    cases hs with
    | slice hat hs2=>rw [hs2] at l4;cases l4
    | stub hs2=>omega
    | softSlice hat hs2 ho hc hle =>
     rename_i b b' off cap' C s₀ i
     have hs0:s₀=d.size:=by rw [hs2] at l4;simpa using l4.symm
     subst hs0
     simp only at ha0 hg
     rw [ha0] at ho
     have hi0:i=0:=by
      rcases Nat.mul_eq_zero.1 ho.symm with e | e
      ·exact e
      ·omega
     subst hi0
     rw [Nat.zero_add] at hc
     subst hc
     by_cases hroom':sLen + n ≤ cap'
     ·
      obtain ⟨new2,g1,g2⟩:=hnew2 w rfl
      have hprefix:∀ (i:Nat) v,old[i]?=some v→c0[i]?=some v:=by
       intro i v hv
       unfold opFirst at hold
       simp only at hold
       split at hold
       ·cases hold;simp at hv
       ·unfold opCells at hold
        split at hold
        ·cases hold
        ·simp only [hg] at hold
         split at hold
         ·cases hold
          rw [Array.getElem?_extract] at hv
          split at hv
          ·rw [ha0,Nat.zero_add] at hv;exact hv
          ·cases hv
         ·cases hold
      rw [hat] at l1
      obtain rfl:nn=b':=(Option.some.inj l1).symm
      have n2sz:new2.size=n * d.size:=by rw [← g2.1,hnsz]
      cases l3 with
      | hard hs3 _=>rw [hs2] at hs3;cases hs3
      | soft hs3 hz3 hn3 hle3 hf3 hrel =>
       rename_i c' C' z' lo hi
       rw [hs2] at hs3;cases hs3
       have hfit:sLen * d.size + new2.toList.length ≤ c'.size:=by
        rw [hn3,Array.length_toList,n2sz,← Nat.add_mul]
        exact Nat.mul_le_mul_right _ hroom'
       have hst:=storeCells_run (P:=P) (off:=0 + sLen * d.size) new2.toList 0 c' w l2 (by omega) (by intro k hk;simp only;omega) (fun v' hv'=>by
        obtain ⟨v,m1,m2⟩:=mem_of_ra g2 hv'
        rw [oneCell_rv m2];exact List.all_eq_true.1 hone v m1)
       have hgrow:=r.grow hg rfl hat hs2 (o:=.cells (old++new) e0 (0,0)) (o':=.cells (setFrom c' (0 + sLen * d.size) new2.toList) e0 (lo,hi)) (.soft rfl hz3 (by rw [setFrom_size];exact hn3)
        (by rw [setFrom_size,Array.size_append,hosz,hnsz];rw [Array.length_toList,n2sz] at hfit;exact hfit) (by rw [setFrom_size];exact hf3) (fun i v v' hv hv'=>by
         have le:=Ren.le_add r nn (some (cap',d.size))
         refine RV.mono le ?_
         rw [setFrom_get,Array.length_toList,n2sz,Nat.zero_add] at hv'
         rw [Array.getElem?_append,hosz] at hv
         split at hv
         ·rename_i hlt
          rw [if_neg (by omega)] at hv'
          exact hrel i v v' (hprefix i v hv) hv'
         ·rename_i hge
          have hlt2:i - sLen * d.size < new.size:=(Array.getElem?_eq_some_iff.1 hv).1
          rw [Array.length_toList,n2sz] at hfit
          rw [if_pos ⟨by omega,by omega,by omega⟩,Array.getElem?_toList] at hv'
          exact g2.2 _ v v' hv hv'))
       refine ⟨_,_,_,append_room (w₂:=_) hk h0 hu hd rfl hn hroom' g1 (by simp only [add_off,ha0];exact hst),hgrow.1,hgrow.2,?_⟩
       have e1:(E.add h.size nn (some (cap',d.size))).at_ h.size=some nn:=by simp [Ren.add]
       have e2:(E.add h.size nn (some (cap',d.size))).soft h.size=some (cap',d.size):=by simp [Ren.add]
       rw [ha0]
       exact .softSlice (i:=0) e1 e2 (by simp) (Nat.zero_add _) hroom'
     ·obtain ⟨newCap,hc,hrun⟩:=fresh rfl (by omega)
      obtain ⟨E',q1,q2,q3⟩:=put (rd.drop b) rfl newCap hc
      exact ⟨E',_,_,hrun,q1,q2,q3⟩
   ·cases hh
end Go.Ab
end
