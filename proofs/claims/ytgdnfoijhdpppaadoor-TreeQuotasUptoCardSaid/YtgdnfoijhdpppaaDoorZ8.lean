import Derived.Test.YtgdnfoijhdpppaaDoorZ7
set_option linter.unusedVariables false
set_option linter.unusedSimpArgs false
section
namespace Go.Ab
inductive Below (n:Nat):Value→Prop
 | bool (b:Bool):Below n (.bool b)
 | int (k:IntKind) (m:Int):Below n (.int k m)
 | float (k:FloatKind) (b:Nat):Below n (.float k b)
 | complex (k:FloatKind) (a b:Nat):Below n (.complex k a b)
 | string (s:ByteArray):Below n (.string s)
 | nilPtr:Below n (.pointer none)
 | ptr {a:Addr} (h:a.block < n):Below n (.pointer (some a))
 | nilSlice (l c:Nat):Below n (.slice none l c)
 | slice {a:Addr} (l c:Nat) (h:a.block < n):Below n (.slice (some a) l c)
 | nilMap:Below n (.map none)
 | map {r:Nat} (h:r < n):Below n (.map (some r))
 | nilChan:Below n (.chan none)
 | yld {k:Nat} (h:k < n):Below n (.chan (some k))
 | func (fn:FuncId) {f c:Array Value} (hf:∀ v ∈ f.toList,Below n v) (hc:∀ v ∈ c.toList,Below n v):Below n (.func (.func fn) f c)
 | meth (m:String) {f c:Array Value} (hf:∀ v ∈ f.toList,Below n v) (hc:∀ v ∈ c.toList,Below n v):Below n (.func (.method m) f c)
 | vs {l:Array Value} (h:∀ v ∈ flatC l.toList,Below n v):Below n (.func (.yield 0) #[] l)
 | fp {l:Array Value} (h:∀ v ∈ l.toList,Below n v):Below n (.func (.yield 1) #[] l)
 | nilFunc:Below n .nilFunc
 | iface (t:TypeId) {v:Value} (h:Below n v):Below n (.iface t v)
 | nilIface:Below n .nilIface
 | agg {c:Array Value} (h:∀ v ∈ c.toList,Below n v):Below n (.agg c)
 | tuple {c:Array Value} (h:∀ v ∈ c.toList,Below n v):Below n (.tuple c)
theorem mem_at {c:Array Value} {v:Value} {i:Nat} (h:c[i]?=some v):v ∈ c.toList:=List.mem_of_getElem? (by simpa using h)
theorem RV.isBelow {E:Ren} {n:Nat} (hE:∀ k m,E.at_ k=some m→k < n) (hS:∀ k,(E.soft k).isSome=true→k < n) {v v':Value} (h:RV E v v'):Below n v:=by
 have key:∀ {c c':Array Value},c.size=c'.size→(∀ (i:Nat) v v',c[i]?=some v→c'[i]?=some v'→Below n v)→∀ v ∈ c.toList,Below n v:=by
  intro c c' hs hh v hv
  obtain ⟨i,hi⟩:=List.mem_iff_getElem?.1 hv
  rw [Array.getElem?_toList] at hi
  have hlt:=(Array.getElem?_eq_some_iff.1 hi).1
  exact hh i v _ hi (Array.getElem?_eq_getElem (hs ▸ hlt))
 induction h with
 | bool b=>exact .bool b
 | int k n=>exact .int k n
 | float k b=>exact .float k b
 | complex k a b=>exact .complex k a b
 | string s=>exact .string s
 | nilPtr=>exact .nilPtr
 | ptr h=>exact .ptr (hE _ _ h)
 | nilSlice l c=>exact .nilSlice l c
 | slice h hs=>exact .slice _ _ (hE _ _ h)
 | softSlice h hs ho hc hle=>exact .slice _ _ (hE _ _ h)
 | stub hs=>exact .slice _ _ (hS _ hs)
 | nilMap=>exact .nilMap
 | map h=>exact .map (hE _ _ h)
 | nilChan=>exact .nilChan
 | yld h=>exact .yld (hE _ _ h)
 | func fn hf hc _ _ i1 i2=>exact .func fn (key hf i1) (key hc i2)
 | meth fn hf hc _ _ i1 i2=>exact .meth fn (key hf i1) (key hc i2)
 | vs hf hs hl hn hc h ih =>
  rename_i l b' off cap s c
  refine .vs fun v hv=>?_
  obtain ⟨i,hi⟩:=List.mem_iff_getElem?.1 hv
  have hlt:=(List.getElem?_eq_some_iff.1 hi).1
  rw [List.toList_toArray,flatC_length hl] at hlt
  exact ih i v _ hi (Array.getElem?_eq_getElem (show off + i < c.size by omega))
 | vs0=>exact .vs fun v hv=>by simp [flatC] at hv
 | fp hf hn h ih =>
  rename_i d b' off c
  refine .fp fun v hv=>?_
  obtain ⟨i,hi⟩:=List.mem_iff_getElem?.1 hv
  have hlt:=(List.getElem?_eq_some_iff.1 hi).1
  rw [Array.length_toList] at hlt
  exact ih i v _ (by simpa using hi) (Array.getElem?_eq_getElem (show off + i < c.size by omega))
 | nilFunc=>exact .nilFunc
 | iface t _ ih=>exact .iface t ih
 | nilIface=>exact .nilIface
 | agg hn _ ih=>exact .agg (key hn ih)
 | tuple hn _ ih=>exact .tuple (key hn ih)
def Ren.cut (E:Ren) (n:Nat):Ren:={ at_:=fun k=>if k < n then E.at_ k else none,soft:=fun k=>if k < n then E.soft k else none,fro:=E.fro }
theorem RV.cut {E:Ren} {n:Nat} {v v':Value} (h:RV E v v'):Below n v→RV (E.cut n) v v':=by
 induction h with
 | bool b=>intro _;exact .bool b
 | int k n=>intro _;exact .int k n
 | float k b=>intro _;exact .float k b
 | complex k a b=>intro _;exact .complex k a b
 | string s=>intro _;exact .string s
 | nilPtr=>intro _;exact .nilPtr
 | ptr h=>intro b;cases b with | ptr hb=>exact .ptr (by simp only [Ren.cut];rw [if_pos hb];exact h)
 | nilSlice l c=>intro _;exact .nilSlice l c
 | slice h hs=>intro b;cases b with | slice _ _ hb=>exact .slice (by simp only [Ren.cut];rw [if_pos hb];exact h) (by simp only [Ren.cut];rw [if_pos hb];exact hs)
 | softSlice h hs ho hc hle=>intro b;cases b with | slice _ _ hb=>exact .softSlice (by simp only [Ren.cut];rw [if_pos hb];exact h) (by simp only [Ren.cut];rw [if_pos hb];exact hs) ho hc hle
 | stub hs=>intro b;cases b with | slice _ _ hb=>exact .stub (by simp only [Ren.cut];rw [if_pos hb];exact hs)
 | nilMap=>intro _;exact .nilMap
 | map h=>intro b;cases b with | map hb=>exact .map (by simp only [Ren.cut];rw [if_pos hb];exact h)
 | nilChan=>intro _;exact .nilChan
 | yld h=>intro b;cases b with | yld hb=>exact .yld (by simp only [Ren.cut];rw [if_pos hb];exact h)
 | func fn hf hc _ _ i1 i2=>intro b;cases b with | func _ b1 b2=>exact .func fn hf hc (fun i v v' h1 h2=>i1 i v v' h1 h2 (b1 v (mem_at h1))) (fun i v v' h1 h2=>i2 i v v' h1 h2 (b2 v (mem_at h1)))
 | meth fn hf hc _ _ i1 i2=>intro b;cases b with | meth _ b1 b2=>exact .meth fn hf hc (fun i v v' h1 h2=>i1 i v v' h1 h2 (b1 v (mem_at h1))) (fun i v v' h1 h2=>i2 i v v' h1 h2 (b2 v (mem_at h1)))
 | vs hf hs hl hn hc h ih =>
  intro b
  generalize hx:VSl _=x at b
  cases b with
  | vs hb=>cases hx;exact .vs hf hs hl hn hc fun i v v' h1 h2=>ih i v v' h1 h2 (hb v (by simpa using List.mem_of_getElem? h1))
  | _=>cases hx
 | vs0=>intro _;exact .vs0
 | fp hf hn h ih =>
  intro b
  generalize hx:FPv _=x at b
  cases b with
  | fp hb=>cases hx;exact .fp hf hn fun i v v' h1 h2=>ih i v v' h1 h2 (hb v (mem_at h1))
  | _=>cases hx
 | nilFunc=>intro _;exact .nilFunc
 | iface t _ ih=>intro b;cases b with | iface _ hb=>exact .iface t (ih hb)
 | nilIface=>intro _;exact .nilIface
 | agg hn _ ih=>intro b;cases b with | agg hb=>exact .agg hn fun i v v' h1 h2=>ih i v v' h1 h2 (hb v (mem_at h1))
 | tuple hn _ ih=>intro b;cases b with | tuple hb=>exact .tuple hn fun i v v' h1 h2=>ih i v v' h1 h2 (hb v (mem_at h1))
def BelowO (n:Nat):Obj→Prop
 | .cells c _ _=>∀ v ∈ c.toList,Below n v
 | .map es _=>∀ e ∈ es.toList,Below n e.key∧Below n e.val
 | .mapIter (some m) _ _ _=>m < n
 | .loop r=>∀ v ∈ r.tmps.toList,v=unk ∨ Below n v
 | _=>True
theorem RO.isBelow {E:Ren} {n:Nat} (hE:∀ k m,E.at_ k=some m→k < n) (hS:∀ k,(E.soft k).isSome=true→k < n) {s:Option (Nat × Nat)} {o o':Obj} (h:RO E s o o'):BelowO n o:=by
 have key:∀ {c c':Array Value},c.size ≤ c'.size→(∀ (i:Nat) v v',c[i]?=some v→c'[i]?=some v'→RV E v v')→∀ v ∈ c.toList,Below n v:=by
  intro c c' hs hh v hv
  obtain ⟨i,hi⟩:=List.mem_iff_getElem?.1 hv
  rw [Array.getElem?_toList] at hi
  have hlt:=(Array.getElem?_eq_some_iff.1 hi).1
  exact (hh i v _ hi (Array.getElem?_eq_getElem (Nat.lt_of_lt_of_le hlt hs))).isBelow hE hS
 cases h with
 | hard hs h=>exact key (Nat.le_of_eq h.1) h.2
 | soft hs hz hn hle hf h=>exact key hle h
 | ice hle hx h=>exact key hle h
 | map t hn h =>
  intro e he
  obtain ⟨i,hi⟩:=List.mem_iff_getElem?.1 he
  rw [Array.getElem?_toList] at hi
  have hlt:=(Array.getElem?_eq_some_iff.1 hi).1
  have:=h i e _ hi (Array.getElem?_eq_getElem (hn ▸ hlt))
  exact ⟨this.1.isBelow hE hS,this.2.1.isBelow hE hS⟩
 | stringIter b p=>trivial
 | mapIter h a l b=>exact hE _ _ h
 | mapIter0 a l b=>trivial
 | loop h1 h2 h3 h4 h5 hn h =>
  rename_i r r'
  intro v hv
  obtain ⟨i,hi⟩:=List.mem_iff_getElem?.1 hv
  rw [Array.getElem?_toList] at hi
  have hlt:=(Array.getElem?_eq_some_iff.1 hi).1
  exact (h i v _ hi (Array.getElem?_eq_getElem (hn ▸ hlt))).imp id fun h=>h.isBelow hE hS
theorem RO.cut {E:Ren} {n:Nat} {s:Option (Nat × Nat)} {o o':Obj} (h:RO E s o o') (hb:BelowO n o):RO (E.cut n) s o o':=by
 cases h with
 | hard hs h=>exact .hard hs ⟨h.1,fun i v v' h1 h2=>(h.2 i v v' h1 h2).cut (hb v (mem_at h1))⟩
 | soft hs hz hn hle hf h=>exact .soft hs hz hn hle hf fun i v v' h1 h2=>(h i v v' h1 h2).cut (hb v (mem_at h1))
 | ice hle hx h=>exact .ice hle hx fun i v v' h1 h2=>(h i v v' h1 h2).cut (hb v (mem_at h1))
 | map t hn h =>
  refine .map t hn fun i x y h1 h2=>?_
  obtain ⟨a,b,c⟩:=h i x y h1 h2
  obtain ⟨p,q⟩:=hb x (List.mem_of_getElem? (by simpa using h1))
  exact ⟨a.cut p,b.cut q,c⟩
 | stringIter b p=>exact .stringIter b p
 | mapIter h a l b=>exact .mapIter (by simp only [Ren.cut];rw [if_pos (show _ < n from hb)];exact h) a l b
 | mapIter0 a l b=>exact .mapIter0 a l b
 | loop h1 h2 h3 h4 h5 hn h =>
  refine .loop h1 h2 h3 h4 h5 hn fun i v v' a b=>?_
  rcases h i v v' a b with e | e
  ·exact .inl e
  ·rcases hb v (mem_at a) with e' | e'
   ·exact .inl e'
   ·exact .inr (e.cut e')
theorem RW.cut {P:Program} {E₀ E:Ren} {h₀ h₁ h₂:AH} {w₀ w:World} (r₀:RW P E₀ h₀ w₀) (r:RW P E h₁ w) (x:Ext E₀ w₀ E w) (hs:h₂.size=h₀.size)
  (hg:∀ k y,h₂.get k=some y→k < h₀.size∧h₁.get k=some y∧(BelowO h₀.size y.1 ∨ h₀.get k=some y)):RW P (E.cut h₀.size) h₂ w∧Ext E₀ w₀ (E.cut h₀.size) w:=by
 have hE:∀ k m,E₀.at_ k=some m→k < h₀.size:=fun k m h=>(r₀.dom k m h).1
 have hS:∀ k,(E₀.soft k).isSome=true→k < h₀.size:=fun k h=>by
  obtain ⟨y,hy⟩:=Option.isSome_iff_exists.1 h
  obtain ⟨m,hm⟩:=r₀.sdom k y hy
  exact hE k m hm
 have ca:∀ k m,(E.cut h₀.size).at_ k=some m→k < h₀.size∧E.at_ k=some m:=fun k m hk=>by
  simp only [Ren.cut] at hk
  split at hk
  ·exact ⟨by assumption,hk⟩
  ·cases hk
 have cs:∀ k,k < h₀.size→(E.cut h₀.size).soft k=E.soft k:=fun k hk=>by simp only [Ren.cut];rw [if_pos hk]
 have ct:∀ k,k < h₀.size→(E.cut h₀.size).at_ k=E.at_ k:=fun k hk=>by simp only [Ren.cut];rw [if_pos hk]
 refine ⟨⟨fun g hgg=>?_,fun k n hk=>?_,fun k y hk=>?_,fun k o s hk=>?_,fun j k n hj hk gj gk=>?_,r.frz,fun k o s n hk hn hf=>?_,⟨fun g hg=>?_,fun k n hk hn=>?_⟩⟩,⟨⟨fun k n hk=>?_,fun k n hk=>?_,fun k y hk=>?_,x.le.fro⟩,fun k n hk=>x.range k n (ca k n hk).2,x.size,x.frame,x.os,x.output,x.tape,x.drawn,x.ice⟩⟩
 ·rw [ct g (hE g g (r₀.glob g hgg))];exact r.glob g hgg
 ·obtain ⟨a,b⟩:=ca k n hk
  exact ⟨by omega,(r.dom k n b).2⟩
 ·simp only [Ren.cut] at hk
  split at hk
  ·rename_i e
   obtain ⟨n,hn⟩:=r.sdom k y hk
   exact ⟨n,by rw [ct k e];exact hn⟩
  ·cases hk
 ·obtain ⟨a,b,c⟩:=hg k _ hk
  obtain ⟨n,o',g1,g2,g3,g4⟩:=r.live k o s b
  have hb:BelowO h₀.size o:=by
   rcases c with c | c
   ·exact c
   ·obtain ⟨m,o2,f1,f2,f3,f4⟩:=r₀.live k o s c
    exact f3.isBelow hE hS
  exact ⟨n,o',by rw [ct k a];exact g1,g2,by rw [cs k a];exact g3.cut hb,by rw [cs k a];exact g4⟩
 ·obtain ⟨y,hy⟩:=Option.isSome_iff_exists.1 gj
  obtain ⟨z,hz⟩:=Option.isSome_iff_exists.1 gk
  exact r.inj j k n (ca j n hj).2 (ca k n hk).2 (by rw [(hg j y hy).2.1];rfl) (by rw [(hg k z hz).2.1];rfl)
 ·exact r.icy k o s n (hg k _ hk).2.1 (ca k n hn).2 hf
 ·rw [cs g (hE g g (r₀.glob g hg))];exact r.sep.1 g hg
 ·exact r.sep.2 k n (ca k n hk).2 hn
 ·rw [ct k (hE k n hk)];exact x.le.at_ k n hk
 ·rw [cs k (hE k n hk)];exact x.le.soft k n hk
 ·rw [cs k (hS k (by rw [hk];rfl))];exact x.le.soft' k y hk
def belowN (n:Nat):Nat→Value→Bool
 | 0,_=>false
 | d + 1,v=>match v with
  | .pointer (some a) | .slice (some a) _ _=>decide (a.block < n)
  | .map (some r)=>decide (r < n)
  | .chan (some k)=>decide (k < n)
  | .agg c | .tuple c=>c.toList.all (belowN n d)
  | .func (.func _) f c=>f.toList.all (belowN n d) && c.toList.all (belowN n d)
  | .func (.yield 0) z l=>z.isEmpty && (flatC l.toList).all (belowN n d)
  | .func (.yield 1) z l=>z.isEmpty && l.toList.all (belowN n d)
  | .func _ _ _=>false
  | .iface _ v=>belowN n d v
  | _=>true
theorem belowN_ok {n:Nat}:∀ {d:Nat} {v:Value},belowN n d v=true→Below n v:=by
 intro d
 induction d with
 | zero=>intro v h;cases h
 | succ d ih =>
  intro v h
  cases v with
  | bool b=>exact .bool b
  | int k n=>exact .int k n
  | float k b=>exact .float k b
  | complex k a b=>exact .complex k a b
  | string s=>exact .string s
  | pointer a=>cases a with
   | none=>exact .nilPtr
   | some a=>exact .ptr (by simpa [belowN] using h)
  | slice a l c=>cases a with
   | none=>exact .nilSlice l c
   | some a=>exact .slice l c (by simpa [belowN] using h)
  | map r=>cases r with
   | none=>exact .nilMap
   | some a=>exact .map (by simpa [belowN] using h)
  | chan r=>cases r with
   | none=>exact .nilChan
   | some a=>exact .yld (by simpa [belowN] using h)
  | func fn f c =>
   cases fn with
   | func fn =>
    simp only [belowN,Bool.and_eq_true,List.all_eq_true] at h
    exact .func fn (fun v hv=>ih (h.1 v hv)) (fun v hv=>ih (h.2 v hv))
   | yield i =>
    match i with
    | 0 =>
     simp only [belowN,Bool.and_eq_true,List.all_eq_true,Array.isEmpty_iff] at h
     obtain ⟨rfl,h⟩:=h
     exact .vs fun v hv=>ih (h v hv)
    | 1 =>
     simp only [belowN,Bool.and_eq_true,List.all_eq_true,Array.isEmpty_iff] at h
     obtain ⟨rfl,h⟩:=h
     exact .fp fun v hv=>ih (h v hv)
    | _ + 2=>cases h
   | _=>cases h
  | nilFunc=>exact .nilFunc
  | iface t v=>exact .iface t (ih h)
  | nilIface=>exact .nilIface
  | agg c=>simp only [belowN,List.all_eq_true] at h;exact .agg fun v hv=>ih (h v hv)
  | tuple c=>simp only [belowN,List.all_eq_true] at h;exact .tuple fun v hv=>ih (h v hv)
def belowOB (n:Nat):Obj→Bool
 | .cells c _ _=>c.toList.all (belowN n 40)
 | .map es _=>es.toList.all fun e=>belowN n 40 e.key && belowN n 40 e.val
 | .mapIter (some m) _ _ _=>decide (m < n)
 | .loop _=>false
 | _=>true
theorem belowOB_ok {n:Nat} {o:Obj} (h:belowOB n o=true):BelowO n o:=by
 cases o with
 | cells c e fz =>
  simp only [belowOB,List.all_eq_true] at h
  exact fun v hv=>belowN_ok (h v hv)
 | map es t =>
  simp only [belowOB,List.all_eq_true,Bool.and_eq_true] at h
  exact fun e he=>⟨belowN_ok (h e he).1,belowN_ok (h e he).2⟩
 | mapIter m a l b =>
  cases m with
  | none=>trivial
  | some m=>exact of_decide_eq_true (p:=m < n) h
 | loop r=>cases h
 | _=>trivial
structure Logs (h h':AH):Prop where
 size:h.size ≤ h'.size
 log:∃ l,h'.log=l++h.log∧∀ k,k < h.size→k ∉ l→h'.get k=h.get k
theorem Logs.refl (h:AH):Logs h h:=⟨Nat.le_refl _,[],rfl,fun _ _ _=>rfl⟩
theorem Logs.trans {h g f:AH} (a:Logs h g) (b:Logs g f):Logs h f:=by
 obtain ⟨a1,l,a2,a3⟩:=a
 obtain ⟨b1,m,b2,b3⟩:=b
 refine ⟨Nat.le_trans a1 b1,m++l,by rw [b2,a2,List.append_assoc],fun k hk hm=>?_⟩
 simp only [List.mem_append,not_or] at hm
 rw [b3 k (by omega) hm.1,a3 k hk hm.2]
theorem Logs.put (h:AH) (k:Nat) (v:Option (Obj × Option Nat)):Logs h (h.put k v):=by
 refine ⟨Nat.le_refl _,[k],rfl,fun j hj hm=>?_⟩
 rw [AH.get_put,if_neg (by simpa using hm)]
theorem Logs.push (h:AH) (o:Obj) (s:Option Nat):Logs h (h.push o s):=by
 refine ⟨Nat.le_succ _,[],rfl,fun j hj hm=>?_⟩
 rw [AH.get_push,if_neg (by omega)]
def Out.heap:Out→AH
 | .val _ h | .unit h | .enter _ _ h=>h
section
variable {P:Program} {ρ:Operand→Option Value} {h h':AH}
theorem logs_setCells {a:Addr} {vs:Array Value} (hh:opSetCells h a vs=some h'):Logs h h':=by
 unfold opSetCells at hh
 repeat' split at hh
 all_goals first | cases hh;done | (cases hh;exact .put _ _ _)
theorem logs_append {ats:Array TypeId} {s x v:Value} (hh:opAppend P h ats s x=some (v,h')):Logs h h':=by
 unfold opAppend at hh
 repeat' split at hh
 all_goals first
  | (cases hh;done)
  | (cases hh;exact .refl _)
  | (cases hh;exact .push _ _ _)
  | (cases hh;exact .trans (.put _ _ _) (.push _ _ _))
  | (rename_i hs;cases hh;exact logs_setCells hs)
theorem logs_copy {ats:Array TypeId} {s x v:Value} (hh:opCopy P h ats s x=some (v,h')):Logs h h':=by
 unfold opCopy at hh
 repeat' split at hh
 all_goals first
  | (cases hh;done)
  | (cases hh;exact .refl _)
  | (rename_i hs;cases hh;exact logs_setCells hs)
theorem logs_mapUpdate {t:TypeId} {m k x:Value} (hh:opMapUpdate P h t m k x=some h'):Logs h h':=by
 unfold opMapUpdate at hh
 repeat' split at hh
 all_goals first
  | (cases hh;done)
  | (cases hh;exact .refl _)
  | (cases hh;exact .put _ _ _)
theorem logs_delete {t:TypeId} {m k:Value} (hh:opDelete P h t m k=some h'):Logs h h':=by
 unfold opDelete at hh
 repeat' split at hh
 all_goals first
  | (cases hh;done)
  | (cases hh;exact .refl _)
  | (cases hh;exact .put _ _ _)
theorem logs_clear {t:TypeId} {m:Value} (hh:opClear P h t m=some h'):Logs h h':=by
 unfold opClear at hh
 repeat' split at hh
 all_goals first
  | (cases hh;done)
  | (cases hh;exact .refl _)
  | (cases hh;exact .put _ _ _)
  | exact logs_setCells hh
theorem logs_mapEntry {t:TypeId} {m k v:Value} (hh:opMapEntry P h t m k=some (v,h')):Logs h h':=by
 unfold opMapEntry at hh
 repeat' split at hh
 all_goals first
  | (cases hh;done)
  | (cases hh;exact .put _ _ _)
theorem logs_entryStore {m k v:Value} (hh:opEntryStore h m k v=some h'):Logs h h':=by
 unfold opEntryStore at hh
 repeat' split at hh
 all_goals first
  | (cases hh;done)
  | (cases hh;exact .put _ _ _)
theorem logs_range {t:TypeId} {m v:Value} (hh:opRange P h t m=some (v,h')):Logs h h':=by
 unfold opRange at hh
 simp only at hh
 repeat' split at hh
 all_goals first
  | (cases hh;done)
  | (cases hh;exact .push _ _ _)
theorem logs_next {m v:Value} {s:Bool} (hh:opNext P h m s=some (v,h')):Logs h h':=by
 unfold opNext at hh
 repeat' split at hh
 all_goals first
  | (cases hh;done)
  | (cases hh;exact .refl _)
  | (cases hh;exact .put _ _ _)
theorem logs_valH {v:Option Value} {o:Out} (hh:valH h v=some o):Logs h o.heap:=by
 obtain ⟨u,_,rfl⟩:=valH_eq hh
 exact .refl _
theorem logs_clone {x v:Value} (hh:opClone h x=some (v,h')):Logs h h':=by
 unfold opClone at hh
 repeat' split at hh
 all_goals first
  | (cases hh;done)
  | (cases hh;exact .push _ _ _)
theorem logs_ext {n:String} {args:List Value} {v:Value} (hh:extO n args h=some (v,h')):Logs h h':=by
 unfold extO at hh
 repeat' split at hh
 all_goals first
  | (cases hh;done)
  | exact logs_clone hh
  | (cases hh;exact .refl _)
theorem logs_ustring {t:TypeId} {x y v:Value} (hh:opUString P h t x y=some (v,h')):Logs h h':=by
 unfold opUString at hh
 repeat' split at hh
 all_goals first
  | (cases hh;done)
  | (cases hh;exact .refl _)
  | (cases hh;exact .put _ _ _)
theorem logs_enter {f:FuncId} {args:List Value} {o:Out} (hh:enterOf P f args h=some o):Logs h o.heap:=by
 unfold enterOf at hh
 repeat' split at hh
 all_goals first
  | (obtain ⟨u,h',h1,rfl⟩:=valP_eq hh;exact logs_ext h1)
  | (cases hh;done)
  | (cases hh;exact .refl _)
theorem logs_call {c:Call} {ty:TypeId} {o:Out} (hh:absCall P ρ c ty h=some o):Logs h o.heap:=by
 unfold absCall at hh
 repeat' split at hh
 all_goals first
  | (cases hh;done)
  | exact logs_valH hh
  | exact logs_enter hh
  | (rename_i hs;cases hh;exact logs_delete hs)
  | (rename_i hs;cases hh;exact logs_clear hs)
  | (obtain ⟨u,h',h1,rfl⟩:=valP_eq hh;first | exact logs_append h1 | exact logs_copy h1 | exact logs_ustring h1)
theorem logs_bin {op:BinOp} {t:TypeId} {x y:Operand} {a b:Value} {o:Out} (hh:absBin P op t x y a b h=some o):Logs h o.heap:=by
 unfold absBin at hh
 repeat' split at hh
 all_goals first
  | (cases hh;done)
  | exact logs_valH hh
  | (cases hh;exact .refl _)
theorem logs_convert {s d:TypeId} {x:Value} {o:Out} (hh:absConvert P s d x h=some o):Logs h o.heap:=by
 unfold absConvert at hh
 repeat' split at hh
 all_goals first
  | (cases hh;done)
  | exact logs_valH hh
  | (rename_i hs;cases hs;cases hh;exact .push _ _ _)
theorem logs_store {t:TypeId} {a v:Value} (hh:opStore P h t a v=some h'):Logs h h':=by
 unfold opStore at hh
 repeat' split at hh
 all_goals first
  | (cases hh;done)
  | exact logs_setCells hh
theorem logs_alloc {e:TypeId} {v:Value} (hh:opAlloc P h e=some (v,h')):Logs h h':=by
 unfold opAlloc at hh
 repeat' split at hh
 all_goals first
  | (cases hh;done)
  | (cases hh;exact .push _ _ _)
theorem logs_buildSlice {t:TypeId} {n:Nat} {l:List (Nat × Value)} {v:Value} (hh:opBuildSlice P h t n l=some (v,h')):Logs h h':=by
 unfold opBuildSlice at hh
 repeat' split at hh
 all_goals first
  | (cases hh;done)
  | (cases hh;exact .push _ _ _)
theorem logs_makeSlice {t:TypeId} {a b v:Value} (hh:opMakeSlice P h t a b=some (v,h')):Logs h h':=by
 unfold opMakeSlice at hh
 repeat' split at hh
 all_goals first
  | (cases hh;done)
  | (cases hh;exact .push _ _ _)
theorem absOp_logs {op:Oper} {o:Out} (hh:absOp P ρ op h=some o):Logs h o.heap:=by
 unfold absOp at hh
 repeat' split at hh
 all_goals first
  | (cases hh;done)
  | exact logs_valH hh
  | exact logs_call hh
  | exact logs_bin hh
  | exact logs_convert hh
  | (cases hh;exact .refl _)
  | (rename_i hs;cases hs;cases hh;exact .push _ _ _)
  | (rename_i hs;cases hh;exact logs_mapUpdate hs)
  | (rename_i hs;cases hh;exact logs_store hs)
  | (rename_i hs;cases hh;exact logs_entryStore hs)
  | (obtain ⟨u,h',h1,rfl⟩:=valP_eq hh;first | exact logs_alloc h1 | exact logs_buildSlice h1 | exact logs_makeSlice h1 | exact logs_mapEntry h1 | exact logs_range h1 | exact logs_next h1)
end
def tidy (h₀ h₁:AH) (v:Value):Bool × AH :=
 let ks:=h₁.log.filter fun k=>decide (k < h₀.size)
 if belowN h₀.size 40 v then
  if ks.isEmpty then (false,h₀)
  else if ks.all fun k=>match h₁.get k with | some (o,_)=>belowOB h₀.size o | none=>true then (true,ks.eraseDups.foldr (fun k h=>h.put k (h₁.get k)) h₀)
  else (true,{ h₁ with log:=ks++h₀.log })
 else (true,{ h₁ with log:=ks++h₀.log })
theorem tidy_logs {h₀ h₁:AH} {v:Value} (hl:Logs { h₀ with log:=[] } h₁):Logs h₀ (tidy h₀ h₁ v).2∧((tidy h₀ h₁ v).1=false→(tidy h₀ h₁ v).2=h₀):=by
 have key:Logs h₀ { h₁ with log:=h₁.log.filter (fun k=>decide (k < h₀.size))++h₀.log }:=by
  obtain ⟨a,l,b,c⟩:=hl
  refine ⟨a,_,rfl,fun k hk hm=>?_⟩
  have:k ∉ l:=fun hc=>hm (by rw [List.mem_filter];exact ⟨by rw [b];simpa using hc,by simpa using hk⟩)
  exact c k hk this
 have fold:∀ ks:List Nat,Logs h₀ (ks.foldr (fun k h=>h.put k (h₁.get k)) h₀):=by
  intro ks
  induction ks with
  | nil=>exact .refl _
  | cons k ks ih=>exact ih.trans (.put _ _ _)
 unfold tidy
 simp only
 split
 ·split
  ·exact ⟨.refl _,fun _=>rfl⟩
  ·split
   ·exact ⟨fold _,fun e=>by cases e⟩
   ·exact ⟨key,fun e=>by cases e⟩
 ·exact ⟨key,fun e=>by cases e⟩
theorem mem_dups:∀ {l:List Nat} {k:Nat},k ∈ l→k ∈ l.eraseDups:=by
 intro l k h;simpa using h
theorem fold_get {h₀ h₁:AH}:∀ (ks:List Nat) (k:Nat),(ks.foldr (fun k h=>h.put k (h₁.get k)) h₀).get k=if k ∈ ks then h₁.get k else h₀.get k:=by
 intro ks
 induction ks with
 | nil=>intro k;simp
 | cons j ks ih =>
  intro k
  rw [List.foldr_cons,AH.get_put,ih]
  by_cases e:k=j
  ·subst e;simp
  ·rw [if_neg e];simp [e]
theorem fold_size {h₀ h₁:AH}:∀ (ks:List Nat),(ks.foldr (fun k h=>h.put k (h₁.get k)) h₀).size=h₀.size:=by
 intro ks
 induction ks with
 | nil=>rfl
 | cons j ks ih=>rw [List.foldr_cons,AH.size_put,ih]
theorem tidy_ok {P:Program} {E₀ E:Ren} {h₀ h₁:AH} {w₀ w:World} {v v':Value} (r₀:RW P E₀ h₀ w₀) (r:RW P E h₁ w) (x:Ext E₀ w₀ E w) (hv:RV E v v') (hl:Logs { h₀ with log:=[] } h₁) :
  ∃ E',RW P E' (tidy h₀ h₁ v).2 w∧Ext E₀ w₀ E' w∧RV E' v v':=by
 have key:RW P E { h₁ with log:=h₁.log.filter (fun k=>decide (k < h₀.size))++h₀.log } w:=r.less (Nat.le_refl _) fun k y hk=>hk
 obtain ⟨a,l,b,c⟩:=hl
 have hlog:h₁.log=l:=by rw [b];simp
 have keep:∀ k,k < h₀.size→k ∉ h₁.log→h₁.get k=h₀.get k:=fun k hk hm=>c k hk (by rw [← hlog];exact hm)
 have old:∀ k y,h₀.get k=some y→k < h₀.size:=by
  intro k y hk
  obtain ⟨n,o',g1,_⟩:=r₀.live k y.1 y.2 hk
  exact (r₀.dom k n g1).1
 unfold tidy
 simp only
 split
 ·rename_i hb
  have hbv:=belowN_ok hb
  split
  ·rename_i he
   have he':∀ k,k < h₀.size→k ∉ h₁.log:=by
    intro k hk hm
    have:k ∈ h₁.log.filter fun k=>decide (k < h₀.size):=List.mem_filter.2 ⟨hm,by simpa using hk⟩
    rw [List.isEmpty_iff.1 he] at this;cases this
   obtain ⟨g1,g2⟩:=r₀.cut r x (h₂:=h₀) rfl fun k y hk=>⟨old k y hk,by rw [keep k (old k y hk) (he' k (old k y hk))];exact hk,.inr hk⟩
   exact ⟨_,g1,g2,hv.cut hbv⟩
  ·split
   ·rename_i hall
    obtain ⟨g1,g2⟩:=r₀.cut r x (h₂:=(h₁.log.filter fun k=>decide (k < h₀.size)).eraseDups.foldr (fun k h=>h.put k (h₁.get k)) h₀) (fold_size _) fun k y hk=>by
     rw [fold_get] at hk
     split at hk
     ·rename_i hm
      have hm':k ∈ h₁.log.filter fun k=>decide (k < h₀.size):=by simpa using hm
      have hlt:k < h₀.size:=by simpa using (List.mem_filter.1 hm').2
      have:=List.all_eq_true.1 hall k hm'
      rw [hk] at this
      exact ⟨hlt,hk,.inl (belowOB_ok this)⟩
     ·rename_i hm
      have hlt:=old k y hk
      refine ⟨hlt,?_,.inr hk⟩
      rw [keep k hlt fun hc=>hm (mem_dups (List.mem_filter.2 ⟨hc,by simpa using hlt⟩))];exact hk
    exact ⟨_,g1,g2,hv.cut hbv⟩
   ·exact ⟨E,key,x,hv⟩
 ·exact ⟨E,key,x,hv⟩
end Go.Ab
end
section
namespace Go.Ab
open Region
def Good (m:Region.Mode) (ops:Array Oper):List Nat→Prop
 | []=>True
 | i::acc=>Good m ops acc∧i ∉ acc∧∃ o,ops[i]?=some o∧∀ e ∈ o.after,binds m e=true→e.on ∈ acc
theorem Good.drop {m:Region.Mode} {ops:Array Oper}:∀ {l k:List Nat},Good m ops (l++k)→Good m ops k:=by
 intro l
 induction l with
 | nil=>intro k h;exact h
 | cons i l ih=>intro k h;exact ih h.1
theorem Good.nodup {m:Region.Mode} {ops:Array Oper}:∀ {l:List Nat},Good m ops l→l.Nodup:=by
 intro l
 induction l with
 | nil=>intro _;exact List.nodup_nil
 | cons i l ih=>intro h;exact List.nodup_cons.2 ⟨h.2.1,ih h.1⟩
theorem Good.lt {m:Region.Mode} {ops:Array Oper}:∀ {l:List Nat},Good m ops l→∀ i ∈ l,i < ops.size:=by
 intro l
 induction l with
 | nil=>intro _ i hi;cases hi
 | cons j l ih =>
  intro h i hi
  cases hi with
  | head=>obtain ⟨o,ho,_⟩:=h.2.2;exact (Array.getElem?_eq_some_iff.1 ho).1
  | tail _ hi=>exact ih h.1 i hi
def strong (e:Edge):Bool:=match e.ground with
 | .textOnly _ | .gcOnly _=>false
 | _=>true
theorem strong_binds {e:Edge} (h:strong e=true) (m:Region.Mode):binds m e=true:=by
 unfold strong at h
 unfold binds
 cases hg:e.ground <;> simp_all
def okOrd (m:Region.Mode) (ops:Array Oper):List Nat→List Nat→Bool
 | seen,[]=>(List.range ops.size).all fun i=>seen.contains i
 | seen,i::r=>(match ops[i]? with
  | some o=>o.after.toList.all fun e=>!binds m e || seen.contains e.on
  | none=>false) && okOrd m ops (i::seen) r
def backs (ops:Array Oper):Bool:=((List.range ops.size).all fun i=>match ops[i]? with
 | some o=>o.after.toList.all fun e=>(match e.ground with | .gcOnly _=>true | _=>false) || decide (e.on < i)
 | none=>true) && okOrd .gc ops [] (linearise .gc ops 0)
theorem backs_lt' {ops:Array Oper} (h:backs ops=true) {i:Nat} {o:Oper} (ho:ops[i]?=some o):∀ e ∈ o.after,(match e.ground with | .gcOnly _=>true | _=>false)=false→e.on < i:=by
 intro e he hs
 have hi:i < ops.size:=(Array.getElem?_eq_some_iff.1 ho).1
 unfold backs at h
 rw [Bool.and_eq_true] at h
 have h1:=List.all_eq_true.1 h.1 i (List.mem_range.2 hi)
 simp only [ho] at h1
 have h2:=List.all_eq_true.1 h1 e (by simpa using he)
 rw [hs,Bool.false_or] at h2
 exact of_decide_eq_true h2
theorem backs_lt {ops:Array Oper} (h:backs ops=true) {i:Nat} {o:Oper} (ho:ops[i]?=some o):∀ e ∈ o.after,strong e=true→e.on < i:=by
 intro e he hs
 refine backs_lt' h ho e he ?_
 unfold strong at hs
 cases hg:e.ground <;> simp_all
def Ready (m:Region.Mode) (ops:Array Oper):Prop:=∀ acc:List Nat,(∃ i,i < ops.size∧i ∉ acc)→∃ i o,i < ops.size∧i ∉ acc∧ops[i]?=some o∧∀ e ∈ o.after,binds m e=true→e.on ∈ acc∧e.on < ops.size
theorem ready_least {m:Region.Mode} {ops:Array Oper} (hb:backs ops=true) (hm:m ≠ .gc):Ready m ops:=by
 intro acc hex
 have key:∀ k,(∃ i,i < ops.size∧i ∉ acc∧i ≤ k)→∃ i,i < ops.size∧i ∉ acc∧∀ j,j < i→j ∈ acc:=by
  intro k
  induction k with
  | zero=>rintro ⟨i,h1,h2,h3⟩;exact ⟨i,h1,h2,fun j hj=>by omega⟩
  | succ k ihk =>
   rintro ⟨i,h1,h2,h3⟩
   by_cases hh:∃ i,i < ops.size∧i ∉ acc∧i ≤ k
   ·exact ihk hh
   ·refine ⟨i,h1,h2,fun j hj=>Classical.byContradiction fun hc=>hh ⟨j,by omega,hc,by omega⟩⟩
 obtain ⟨i₀,a1,a2⟩:=hex
 obtain ⟨i,h1,h2,h3⟩:=key i₀ ⟨i₀,a1,a2,Nat.le_refl _⟩
 refine ⟨i,ops[i],h1,h2,Array.getElem?_eq_getElem h1,fun e he hbe=>?_⟩
 have hlt:=backs_lt' hb (Array.getElem?_eq_getElem h1) e he (by
  unfold binds at hbe
  cases hg:e.ground with
  | gcOnly d=>rw [hg] at hbe;simp only [beq_iff_eq] at hbe;exact absurd hbe hm
  | _=>rfl)
 exact ⟨h3 _ hlt,by omega⟩
theorem okOrd_ready {m:Region.Mode} {ops:Array Oper}:∀ (r seen:List Nat),okOrd m ops seen r=true→∀ acc:List Nat,(∀ i ∈ seen,i ∈ acc)→(∀ i ∈ seen,i < ops.size)→(∃ i,i < ops.size∧i ∉ acc) →
  ∃ i o,i < ops.size∧i ∉ acc∧ops[i]?=some o∧∀ e ∈ o.after,binds m e=true→e.on ∈ acc∧e.on < ops.size:=by
 intro r
 induction r with
 | nil =>
  intro seen h acc hs _ ⟨i,h1,h2⟩
  have:=List.all_eq_true.1 h i (List.mem_range.2 h1)
  exact absurd (hs i (by simpa using this)) h2
 | cons i r ih =>
  intro seen h acc hs hl hex
  simp only [okOrd,Bool.and_eq_true] at h
  cases ho:ops[i]? with
  | none=>rw [ho] at h;cases h.1
  | some o =>
   rw [ho] at h
   have hi:i < ops.size:=(Array.getElem?_eq_some_iff.1 ho).1
   by_cases hm:i ∈ acc
   ·refine ih (i::seen) h.2 acc (fun j hj=>?_) (fun j hj=>?_) hex
    ·rcases List.mem_cons.1 hj with rfl | hj
     ·exact hm
     ·exact hs j hj
    ·rcases List.mem_cons.1 hj with rfl | hj
     ·exact hi
     ·exact hl j hj
   ·refine ⟨i,o,hi,hm,ho,fun e he hbe=>?_⟩
    have h1:=List.all_eq_true.1 h.1 e (by simpa using he)
    rw [hbe,Bool.not_true,Bool.false_or] at h1
    have h2:e.on ∈ seen:=by simpa using h1
    exact ⟨hs _ h2,hl _ h2⟩
theorem backs_ready {ops:Array Oper} (hb:backs ops=true) (m:Region.Mode):Ready m ops:=by
 cases m with
 | gc =>
  unfold backs at hb
  rw [Bool.and_eq_true] at hb
  exact fun acc hex=>okOrd_ready _ [] hb.2 acc (fun i h=>by cases h) (fun i h=>by cases h) hex
 | text=>exact ready_least hb (by decide)
 | any=>exact ready_least hb (by decide)
theorem go_good {m:Region.Mode} {ops:Array Oper} (hb:Ready m ops):∀ (fuel t:Nat) (listed:Array Bool) (acc:List Nat),listed.size=ops.size →
  (∀ i,i < ops.size→(listed[i]?=some true ↔ i ∈ acc))→Good m ops acc→acc.length + fuel=ops.size →
  ∃ l,linearise.go m ops fuel t listed acc=l.reverse∧Good m ops l∧l.length=ops.size:=by
 intro fuel
 induction fuel with
 | zero=>intro t listed acc hs hl hg hf;exact ⟨acc,rfl,hg,by omega⟩
 | succ fuel ih =>
  intro t listed acc hs hl hg hf
  simp only [linearise.go]
  generalize hrs:(List.range ops.size).filter (fun i=>!listed.getD i true && ((ops[i]?).map (·.after.all fun e=>!binds m e || listed.getD e.on false)).getD false)=rs
  have hlist:∀ i,i < ops.size→listed.getD i true=decide (i ∈ acc)∧listed.getD i false=decide (i ∈ acc):=by
   intro i hi
   have h1:=hl i hi
   have hlt:i < listed.size:=by omega
   rw [Array.getElem?_eq_getElem hlt] at h1
   rw [Array.getD_eq_getD_getElem?,Array.getD_eq_getD_getElem?,Array.getElem?_eq_getElem hlt]
   simp only [Option.getD_some,Option.some.injEq] at h1 ⊢
   cases hv:listed[i] with
   | true=>rw [hv] at h1;simp [h1.1 rfl]
   | false =>
    rw [hv] at h1
    have:i ∉ acc:=fun hm=>by cases h1.2 hm
    simp [this]
  have hne:rs ≠ []:=by
   -- the least that has not run is ready
   have hex:∃ i,i < ops.size∧i ∉ acc:=by
    apply Classical.byContradiction
    intro hno
    have hall:∀ i ∈ List.range ops.size,i ∈ acc:=fun i hi=>Classical.byContradiction fun hc=>hno ⟨i,List.mem_range.1 hi,hc⟩
    have:=(List.nodup_range (n:=ops.size)).length_le_of_subset hall
    rw [List.length_range] at this
    omega
   obtain ⟨i,o,h1,h2,ho,h3⟩:=hb acc hex
   have:i ∈ rs:=by
    rw [← hrs,List.mem_filter]
    refine ⟨List.mem_range.2 h1,?_⟩
    rw [(hlist i h1).1,ho]
    simp only [h2,decide_false,Bool.not_false,Bool.true_and,Option.map_some,Option.getD_some,Array.all_eq_true']
    intro e he
    cases hbe:binds m e with
    | false=>rfl
    | true =>
     obtain ⟨h4,h5⟩:=h3 e he hbe
     rw [(hlist e.on h5).2]
     simp [h4]
   intro he
   rw [he] at this
   cases this
  have hlen:0 < rs.length:=List.length_pos_iff.2 hne
  have hget:rs[t % rs.length]?=some (rs[t % rs.length]'(Nat.mod_lt _ hlen)):=List.getElem?_eq_getElem _
  rw [hget]
  simp only
  generalize hi:rs[t % rs.length]'(Nat.mod_lt _ hlen)=i
  have him:i ∈ rs:=by rw [← hi];exact List.getElem_mem _
  rw [← hrs,List.mem_filter,List.mem_range] at him
  obtain ⟨h1,h2⟩:=him
  have ho:ops[i]?=some ops[i]:=Array.getElem?_eq_getElem h1
  rw [(hlist i h1).1,ho] at h2
  simp only [Option.map_some,Option.getD_some,Bool.and_eq_true,Bool.not_eq_true',decide_eq_false_iff_not,Array.all_eq_true'] at h2
  refine ih _ _ _ (by simp [hs]) ?_ ⟨hg,h2.1,_,ho,fun e he hbe=>?_⟩ (by simp;omega)
  ·intro j hj
   rw [Array.getElem?_setIfInBounds]
   by_cases e:i=j
   ·subst e
    rw [if_pos rfl,if_pos (by omega)]
    simp
   ·rw [if_neg e,hl j hj]
    constructor
    ·exact fun h=>List.mem_cons_of_mem _ h
    ·intro h
     cases h with
     | head=>exact absurd rfl e
     | tail _ h=>exact h
  ·have h3:=h2.2 e he
   rw [hbe] at h3
   have hlt:e.on < ops.size:=by
    apply Classical.byContradiction
    intro hge
    rw [Array.getD_eq_getD_getElem?,Array.getElem?_eq_none (by omega)] at h3
    cases h3
   rw [(hlist e.on hlt).2] at h3
   simpa using h3
theorem linearise_good {m:Region.Mode} {ops:Array Oper} (hb:backs ops=true) (t:Nat):∃ l,linearise m ops t=l.reverse∧Good m ops l∧l.length=ops.size:=by
 refine go_good (backs_ready hb m) _ _ _ _ (by simp) (fun i hi=>?_) trivial (by simp)
 rw [Array.getElem?_replicate,if_pos hi]
 simp
theorem schedule_good {mixed:Bool} {ops:Array Oper} (hb:backs ops=true) (t:Nat):∃ m l,schedule mixed ops t=l.reverse∧Good m ops l∧l.length=ops.size:=by
 unfold schedule
 split
 ·obtain ⟨l,h⟩:=linearise_good (m:=.any) hb t;exact ⟨_,l,h⟩
 ·obtain ⟨l,h⟩:=linearise_good (m:=if t % 2 == 0 then .text else .gc) hb (t / 2);exact ⟨_,l,h⟩
end Go.Ab
end
