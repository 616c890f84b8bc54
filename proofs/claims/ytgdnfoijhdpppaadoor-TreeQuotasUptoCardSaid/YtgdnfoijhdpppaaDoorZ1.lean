import Derived.Calls
import Derived.ChangeKeysEq
import Derived.Laws.Sem
import Derived.Recover
set_option linter.unusedVariables false
set_option linter.unusedSimpArgs false
section
namespace Go.Ab
structure Ren where
 at_:Nat→Option Nat
 soft:Nat→Option (Nat × Nat)
 /-- rows of the world whose first cells stay as they are -/
 fro:Nat→Option (Array Value):=fun _=>none
def VSl (l:List Value):Value:=.func (.yield 0) #[] l.toArray
def FPv (c:Array Value):Value:=.func (.yield 1) #[] c
def flatC (l:List Value):List Value:=l.flatMap fun v=>v.cells.toList
def unk:Value:=.func (.yield 2) #[] #[]
def knw (v:Value):Value:=.tuple #[v]
def unknw:Value→Option Value
 | .tuple c=>c[0]?
 | _=>none
inductive RV (E:Ren):Value→Value→Prop
 | bool (b:Bool):RV E (.bool b) (.bool b)
 | int (k:IntKind) (n:Int):RV E (.int k n) (.int k n)
 | float (k:FloatKind) (b:Nat):RV E (.float k b) (.float k b)
 | complex (k:FloatKind) (a b:Nat):RV E (.complex k a b) (.complex k a b)
 | string (s:ByteArray):RV E (.string s) (.string s)
 | nilPtr:RV E (.pointer none) (.pointer none)
 | ptr {b b' off:Nat} (h:E.at_ b=some b'):RV E (.pointer (some ⟨b,off,none⟩)) (.pointer (some ⟨b',off,none⟩))
 | nilSlice (l c:Nat):RV E (.slice none l c) (.slice none l c)
 | slice {b b' off len cap:Nat} (h:E.at_ b=some b') (hs:E.soft b=none) :
   RV E (.slice (some ⟨b,off,none⟩) len cap) (.slice (some ⟨b',off,none⟩) len cap)
 | softSlice {b b' off len cap cap' C s i:Nat} (h:E.at_ b=some b') (hs:E.soft b=some (C,s)) (ho:off=i * s) (hc:i + cap' = C) (hle:cap ≤ cap') :
   RV E (.slice (some ⟨b,off,none⟩) len cap) (.slice (some ⟨b',off,none⟩) len cap')
 | stub {b off cap':Nat} {a':Addr} (hs:(E.soft b).isSome):RV E (.slice (some ⟨b,off,none⟩) 0 0) (.slice (some a') 0 cap')
 | nilMap:RV E (.map none) (.map none)
 | map {r r':Nat} (h:E.at_ r=some r'):RV E (.map (some r)) (.map (some r'))
 | nilChan:RV E (.chan none) (.chan none)
 | yld {k n:Nat} (h:E.at_ k=some n):RV E (.chan (some k)) (.func (.yield n) #[] #[])
 | func (fn:FuncId) {f f' c c':Array Value} (hf:f.size=f'.size) (hc:c.size=c'.size)
   (h1:∀ (i:Nat) v v',f[i]?=some v→f'[i]?=some v'→RV E v v') (h2:∀ (i:Nat) v v',c[i]?=some v→c'[i]?=some v'→RV E v v') :
   RV E (.func (.func fn) f c) (.func (.func fn) f' c')
 | meth (n:String) {f f' c c':Array Value} (hf:f.size=f'.size) (hc:c.size=c'.size)
   (h1:∀ (i:Nat) v v',f[i]?=some v→f'[i]?=some v'→RV E v v') (h2:∀ (i:Nat) v v',c[i]?=some v→c'[i]?=some v'→RV E v v') :
   RV E (.func (.method n) f c) (.func (.method n) f' c')
 | vs {l:List Value} {b' off cap s:Nat} {c:Array Value} (hf:E.fro b' = some c) (hs:0 < s) (hl:∀ v ∈ l,v.cells.size=s) (hn:off + l.length * s ≤ c.size) (hc:l.length ≤ cap)
   (h:∀ (i:Nat) v v',(flatC l)[i]?=some v→c[off + i]?=some v'→RV E v v'):RV E (VSl l) (.slice (some ⟨b',off,none⟩) l.length cap)
 | vs0 {a':Addr} {cap':Nat}:RV E (VSl []) (.slice (some a') 0 cap')
 | fp {d:Array Value} {b' off:Nat} {c:Array Value} (hf:E.fro b' = some c) (hn:off + d.size ≤ c.size)
   (h:∀ (i:Nat) v v',d[i]?=some v→c[off + i]?=some v'→RV E v v'):RV E (FPv d) (.pointer (some ⟨b',off,none⟩))
 | nilFunc:RV E .nilFunc .nilFunc
 | iface (t:TypeId) {v v':Value} (h:RV E v v'):RV E (.iface t v) (.iface t v')
 | nilIface:RV E .nilIface .nilIface
 | agg {c c':Array Value} (hn:c.size=c'.size) (h:∀ (i:Nat) v v',c[i]?=some v→c'[i]?=some v'→RV E v v'):RV E (.agg c) (.agg c')
 | tuple {c c':Array Value} (hn:c.size=c'.size) (h:∀ (i:Nat) v v',c[i]?=some v→c'[i]?=some v'→RV E v v'):RV E (.tuple c) (.tuple c')
def RA (E:Ren) (c c':Array Value):Prop:=c.size=c'.size∧∀ (i:Nat) v v',c[i]?=some v→c'[i]?=some v'→RV E v v'
structure Ren.Le (E E':Ren):Prop where
 at_:∀ k n,E.at_ k=some n→E'.at_ k=some n
 soft:∀ k n,E.at_ k=some n→E'.soft k=E.soft k
 soft':∀ k x,E.soft k=some x→E'.soft k=some x
 fro:∀ b c,E.fro b=some c→E'.fro b=some c
theorem Ren.Le.refl (E:Ren):E.Le E:=⟨fun _ _ h=>h,fun _ _ _=>rfl,fun _ _ h=>h,fun _ _ h=>h⟩
theorem Ren.Le.trans {E F G:Ren} (h:E.Le F) (h':F.Le G):E.Le G :=
 ⟨fun k n e=>h'.at_ k n (h.at_ k n e),fun k n e=>(h'.soft k n (h.at_ k n e)).trans (h.soft k n e),fun k x e=>h'.soft' k x (h.soft' k x e),fun b c e=>h'.fro b c (h.fro b c e)⟩
theorem RV.mono {E E':Ren} (le:E.Le E') {v v':Value} (h:RV E v v'):RV E' v v':=by
 induction h with
 | bool b=>exact .bool b
 | int k n=>exact .int k n
 | float k b=>exact .float k b
 | complex k a b=>exact .complex k a b
 | string s=>exact .string s
 | nilPtr=>exact .nilPtr
 | ptr h=>exact .ptr (le.at_ _ _ h)
 | nilSlice l c=>exact .nilSlice l c
 | slice h hs=>exact .slice (le.at_ _ _ h) ((le.soft _ _ h).trans hs)
 | softSlice h hs ho hc hle=>exact .softSlice (le.at_ _ _ h) (le.soft' _ _ hs) ho hc hle
 | stub hs =>
  refine .stub ?_
  obtain ⟨x,hx⟩:=Option.isSome_iff_exists.1 hs
  rw [le.soft' _ _ hx];rfl
 | nilMap=>exact .nilMap
 | map h=>exact .map (le.at_ _ _ h)
 | nilChan=>exact .nilChan
 | yld h=>exact .yld (le.at_ _ _ h)
 | func fn hf hc _ _ i1 i2=>exact .func fn hf hc i1 i2
 | meth n hf hc _ _ i1 i2=>exact .meth n hf hc i1 i2
 | vs hf hs hl hn hc _ ih=>exact .vs (le.fro _ _ hf) hs hl hn hc ih
 | vs0=>exact .vs0
 | fp hf hn _ ih=>exact .fp (le.fro _ _ hf) hn ih
 | nilFunc=>exact .nilFunc
 | iface t _ ih=>exact .iface t ih
 | nilIface=>exact .nilIface
 | agg hn _ ih=>exact .agg hn ih
 | tuple hn _ ih=>exact .tuple hn ih
theorem RA.mono {E E':Ren} (le:E.Le E') {c c':Array Value} (h:RA E c c'):RA E' c c':=⟨h.1,fun i v v' a b=>(h.2 i v v' a b).mono le⟩
theorem RA.get {E:Ren} {c c':Array Value} (h:RA E c c') {i:Nat} {v:Value} (hi:c[i]?=some v):∃ v',c'[i]?=some v'∧RV E v v':=by
 obtain ⟨hl,rfl⟩:=Array.getElem?_eq_some_iff.1 hi
 have hl':i < c'.size:=h.1 ▸ hl
 exact ⟨c'[i],Array.getElem?_eq_getElem hl',h.2 i _ _ hi (Array.getElem?_eq_getElem hl')⟩
theorem RA.empty {E:Ren}:RA E #[] #[]:=⟨rfl,fun i v v' h _=>by simp at h⟩
theorem RA.one {E:Ren} {v v':Value} (h:RV E v v'):RA E #[v] #[v']:=by
 refine ⟨rfl,fun i a b ha hb=>?_⟩
 cases i with
 | zero=>simp at ha hb;subst ha hb;exact h
 | succ n=>simp at ha
theorem RA.push {E:Ren} {c c':Array Value} {v v':Value} (h:RA E c c') (hv:RV E v v'):RA E (c.push v) (c'.push v'):=by
 refine ⟨by simp [h.1],fun i a b ha hb=>?_⟩
 rw [Array.getElem?_push] at ha hb
 rw [← h.1] at hb
 split at ha
 ·rename_i e
  rw [if_pos e] at hb
  cases ha;cases hb;exact hv
 ·rename_i e
  rw [if_neg e] at hb
  exact h.2 i a b ha hb
theorem RA.append {E:Ren} {c c' d d':Array Value} (h:RA E c c') (h':RA E d d'):RA E (c++d) (c'++d'):=by
 refine ⟨by simp [h.1,h'.1],fun i a b ha hb=>?_⟩
 rw [Array.getElem?_append] at ha hb
 rw [← h.1] at hb
 split at ha
 ·rename_i e
  rw [if_pos e] at hb
  exact h.2 i a b ha hb
 ·rename_i e
  rw [if_neg e] at hb
  exact h'.2 _ a b ha hb
theorem RA.extract {E:Ren} {c c':Array Value} (h:RA E c c') (i j:Nat):RA E (c.extract i j) (c'.extract i j):=by
 refine ⟨by simp [h.1],fun k a b ha hb=>?_⟩
 rw [Array.getElem?_extract] at ha hb
 rw [← h.1] at hb
 split at ha
 ·rename_i e
  rw [if_pos e] at hb
  exact h.2 _ a b ha hb
 ·cases ha
theorem RA.set {E:Ren} {c c':Array Value} {v v':Value} (h:RA E c c') (i:Nat) (hv:RV E v v'):RA E (c.setIfInBounds i v) (c'.setIfInBounds i v'):=by
 refine ⟨by simp [h.1],fun k a b ha hb=>?_⟩
 rw [Array.getElem?_setIfInBounds] at ha hb
 rw [← h.1] at hb
 split at ha
 ·rename_i e
  rw [if_pos e] at hb
  split at ha
  ·rename_i e'
   rw [if_pos e'] at hb
   cases ha;cases hb;exact hv
  ·cases ha
 ·rename_i e
  rw [if_neg e] at hb
  exact h.2 _ a b ha hb
def RU (E:Ren) (v v':Value):Prop:=v=unk ∨ RV E v (.tuple #[v'])
theorem RU.mono {E E':Ren} (le:E.Le E') {v v':Value} (h:RU E v v'):RU E' v v':=h.imp id fun h=>h.mono le
theorem RV.ra {E:Ren} {v v':Value} (h:RV E v v'):RA E v.cells v'.cells:=by
 cases h with
 | agg hn h=>exact ⟨hn,h⟩
 | bool b=>exact .one (.bool b)
 | int k n=>exact .one (.int k n)
 | float k b=>exact .one (.float k b)
 | complex k a b=>exact .one (.complex k a b)
 | string s=>exact .one (.string s)
 | nilPtr=>exact .one .nilPtr
 | ptr h=>exact .one (.ptr h)
 | nilSlice l c=>exact .one (.nilSlice l c)
 | slice h hs=>exact .one (.slice h hs)
 | softSlice h hs ho hc hle=>exact .one (.softSlice h hs ho hc hle)
 | stub hs=>exact .one (.stub hs)
 | nilMap=>exact .one .nilMap
 | map h=>exact .one (.map h)
 | nilChan=>exact .one .nilChan
 | yld h=>exact .one (.yld h)
 | func fn hf hc i1 i2=>exact .one (.func fn hf hc i1 i2)
 | meth n hf hc i1 i2=>exact .one (.meth n hf hc i1 i2)
 | vs hf hs hl hn hc h=>exact .one (.vs hf hs hl hn hc h)
 | vs0=>exact .one .vs0
 | fp hf hn h=>exact .one (.fp hf hn h)
 | nilFunc=>exact .one .nilFunc
 | iface t h=>exact .one (.iface t h)
 | nilIface=>exact .one .nilIface
 | tuple hn h=>exact .one (.tuple hn h)
def plainN:Nat→Value→Bool
 | 0,_=>false
 | n + 1,v=>match v with
  | .pointer (some _) | .slice (some _) _ _ | .map (some _) | .chan (some _)=>false
  | .agg c | .tuple c=>c.toList.all (plainN n)
  | .func (.func _) f c=>f.toList.all (plainN n) && c.toList.all (plainN n)
  | .func _ _ _=>false
  | .iface _ v=>plainN n v
  | _=>true
abbrev plain (v:Value):Bool:=plainN 12 v
theorem RV.of_plain {E:Ren}:∀ {n:Nat} {v:Value},plainN n v=true→RV E v v:=by
 intro n
 induction n with
 | zero=>intro v h;cases h
 | succ n ih =>
  intro v h
  have hA:∀ c:Array Value,c.toList.all (plainN n)=true→∀ (i:Nat) v v',c[i]?=some v→c[i]?=some v'→RV E v v':=by
   intro c hc i v v' h1 h2
   rw [h1] at h2
   cases h2
   exact ih (List.all_eq_true.1 hc v (by rw [← Array.getElem?_toList] at h1;exact List.mem_of_getElem? h1))
  cases v with
  | bool b=>exact .bool b
  | int k n=>exact .int k n
  | float k b=>exact .float k b
  | complex k a b=>exact .complex k a b
  | string s=>exact .string s
  | pointer a=>cases a with
   | none=>exact .nilPtr
   | some a=>cases h
  | slice a l c=>cases a with
   | none=>exact .nilSlice l c
   | some a=>cases h
  | map r=>cases r with
   | none=>exact .nilMap
   | some a=>cases h
  | chan r=>cases r with
   | none=>exact .nilChan
   | some a=>cases h
  | func fn f c =>
   cases fn with
   | func fn =>
    simp only [plainN,Bool.and_eq_true] at h
    exact .func fn rfl rfl (hA f h.1) (hA c h.2)
   | _=>cases h
  | nilFunc=>exact .nilFunc
  | iface t v=>exact .iface t (ih h)
  | nilIface=>exact .nilIface
  | agg c=>exact .agg rfl (hA c h)
  | tuple c=>exact .tuple rfl (hA c h)
theorem RV.eq_of_plain {E:Ren}:∀ {n:Nat} {v v':Value},plainN n v=true→RV E v v'→v' = v:=by
 intro n
 induction n with
 | zero=>intro v v' h;cases h
 | succ n ih =>
  intro v v' h hr
  have hA:∀ c c':Array Value,c.toList.all (plainN n)=true→c.size=c'.size→(∀ (i:Nat) v v',c[i]?=some v→c'[i]?=some v'→RV E v v')→c' = c:=by
   intro c c' hc hs hh
   refine Array.ext hs.symm fun i h1 h2=>?_
   have hi:c[i]?=some c[i]:=Array.getElem?_eq_getElem h2
   exact ih (List.all_eq_true.1 hc _ (by simp)) (hh i _ _ hi (Array.getElem?_eq_getElem h1))
  cases hr with
  | bool | int | float | complex | string | nilPtr | nilSlice | nilMap | nilChan | nilFunc | nilIface=>rfl
  | ptr _ | yld _ | meth _ _ _ _ _ | slice _ _ | softSlice _ _ _ _ _ | stub _ | map _ | vs _ _ _ _ _ _ | vs0 | fp _ _ _=>cases h
  | func fn hf hc h1 h2 =>
   simp only [plainN,Bool.and_eq_true] at h
   rw [hA _ _ h.1 hf h1,hA _ _ h.2 hc h2]
  | iface t h'=>rw [ih h h']
  | agg hn h'=>rw [hA _ _ h hn h']
  | tuple hn h'=>rw [hA _ _ h hn h']
end Go.Ab
end
section
namespace Go.Ab
inductive T (α:Type) where
 | leaf
 | node (v:Option α) (l r:T α)
def T.get {α:Type}:T α→Nat→Option α
 | .leaf,_=>none
 | .node v l r,p=>if p ≤ 1 then v else if p % 2=0 then l.get (p / 2) else r.get (p / 2)
def T.put {α:Type}:Nat→T α→Nat→Option α→T α
 | 0,t,_,_=>t
 | n + 1,.leaf,p,v=>if p ≤ 1 then .node v .leaf .leaf else if p % 2=0 then .node none (put n .leaf (p / 2) v) .leaf else .node none .leaf (put n .leaf (p / 2) v)
 | n + 1,.node u l r,p,v=>if p ≤ 1 then .node v l r else if p % 2=0 then .node u (put n l (p / 2) v) r else .node u l (put n r (p / 2) v)
theorem T.get_node {α:Type} (v:Option α) (l r:T α) (p:Nat):(T.node v l r).get p=if p ≤ 1 then v else if p % 2=0 then l.get (p / 2) else r.get (p / 2):=rfl
theorem T.get_put {α:Type}:∀ (n:Nat) (t:T α) (p q:Nat) (v:Option α),1 ≤ p→p ≤ n→1 ≤ q→(T.put n t p v).get q=if q=p then v else t.get q:=by
 intro n
 induction n with
 | zero=>intro t p q v h1 h2;omega
 | succ n ih =>
  intro t p q v h1 h2 h3
  have key:∀ l:T α,1 < p→1 < q→(T.put n l (p / 2) v).get (q / 2)=if q / 2=p / 2 then v else l.get (q / 2):=fun l a b=>ih l (p / 2) (q / 2) v (by omega) (by omega) (by omega)
  cases t with
  | leaf =>
   rw [T.put]
   by_cases hp:p ≤ 1
   ·rw [if_pos hp,T.get_node]
    by_cases hq:q ≤ 1
    ·rw [if_pos hq,if_pos (by omega)]
    ·have hne:q ≠ p:=by omega
     simp [hne,hq,T.get]
   ·rw [if_neg hp]
    by_cases he:p % 2=0
    ·rw [if_pos he,T.get_node]
     by_cases hq:q ≤ 1
     ·rw [if_pos hq,if_neg (by omega)];rfl
     ·rw [if_neg hq]
      by_cases hqe:q % 2=0
      ·rw [if_pos hqe,key _ (by omega) (by omega)]
       by_cases hpq:q=p
       ·rw [if_pos (by omega),if_pos hpq]
       ·rw [if_neg (by omega),if_neg hpq];rfl
      ·rw [if_neg hqe,if_neg (by omega)];rfl
    ·rw [if_neg he,T.get_node]
     by_cases hq:q ≤ 1
     ·rw [if_pos hq,if_neg (by omega)];rfl
     ·rw [if_neg hq]
      by_cases hqe:q % 2=0
      ·rw [if_pos hqe,if_neg (by omega)];rfl
      ·rw [if_neg hqe,key _ (by omega) (by omega)]
       by_cases hpq:q=p
       ·rw [if_pos (by omega),if_pos hpq]
       ·rw [if_neg (by omega),if_neg hpq];rfl
  | node u l r =>
   rw [T.put]
   by_cases hp:p ≤ 1
   ·rw [if_pos hp,T.get_node,T.get_node]
    by_cases hq:q ≤ 1
    ·rw [if_pos hq,if_pos (by omega)]
    ·have hne:q ≠ p:=by omega
     simp [hne,hq]
   ·rw [if_neg hp]
    by_cases he:p % 2=0
    ·rw [if_pos he,T.get_node,T.get_node]
     by_cases hq:q ≤ 1
     ·rw [if_pos hq,if_pos hq,if_neg (by omega)]
     ·rw [if_neg hq,if_neg hq]
      by_cases hqe:q % 2=0
      ·rw [if_pos hqe,if_pos hqe,key _ (by omega) (by omega)]
       by_cases hpq:q=p
       ·rw [if_pos (by omega),if_pos hpq]
       ·rw [if_neg (by omega),if_neg hpq]
      ·rw [if_neg hqe,if_neg hqe,if_neg (by omega)]
    ·rw [if_neg he,T.get_node,T.get_node]
     by_cases hq:q ≤ 1
     ·rw [if_pos hq,if_pos hq,if_neg (by omega)]
     ·rw [if_neg hq,if_neg hq]
      by_cases hqe:q % 2=0
      ·rw [if_pos hqe,if_pos hqe,if_neg (by omega)]
      ·rw [if_neg hqe,if_neg hqe,key _ (by omega) (by omega)]
       by_cases hpq:q=p
       ·rw [if_pos (by omega),if_pos hpq]
       ·rw [if_neg (by omega),if_neg hpq]
structure AH where
 tree:T (Obj × Option Nat)
 size:Nat
 /-- the keys that were put since the function began -/
 log:List Nat:=[]
def AH.get (h:AH) (k:Nat):Option (Obj × Option Nat):=h.tree.get (k + 1)
def AH.put (h:AH) (k:Nat) (v:Option (Obj × Option Nat)):AH:=⟨h.tree.put (k + 1) (k + 1) v,h.size,k::h.log⟩
def AH.push (h:AH) (o:Obj) (soft:Option Nat):AH:=⟨h.tree.put (h.size + 1) (h.size + 1) (some (o,soft)),h.size + 1,h.log⟩
theorem AH.get_put (h:AH) (k j:Nat) (v:Option (Obj × Option Nat)):(h.put k v).get j=if j=k then v else h.get j:=by
 unfold AH.get AH.put
 rw [T.get_put _ _ _ _ _ (by omega) (Nat.le_refl _) (by omega)]
 by_cases e:j=k
 ·rw [if_pos (by omega),if_pos e]
 ·rw [if_neg (by omega),if_neg e]
theorem AH.get_push (h:AH) (o:Obj) (s:Option Nat) (j:Nat):(h.push o s).get j=if j=h.size then some (o,s) else h.get j:=by
 unfold AH.get AH.push
 rw [T.get_put _ _ _ _ _ (by omega) (Nat.le_refl _) (by omega)]
 by_cases e:j=h.size
 ·rw [if_pos (by omega),if_pos e]
 ·rw [if_neg (by omega),if_neg e]
@[simp] theorem AH.size_put (h:AH) (k:Nat) (v:Option (Obj × Option Nat)):(h.put k v).size=h.size:=rfl
@[simp] theorem AH.size_push (h:AH) (o:Obj) (s:Option Nat):(h.push o s).size=h.size + 1:=rfl
inductive RO (E:Ren) (s:Option (Nat × Nat)):Obj→Obj→Prop
 | hard {c c':Array Value} {e:TypeId} (hs:s=none) (h:RA E c c'):RO E s (.cells c e (0,0)) (.cells c' e (0,0))
 | soft {c c':Array Value} {e:TypeId} {C z lo hi:Nat} (hs:s=some (C,z)) (hz:0 < z) (hn:c'.size=C * z) (hle:c.size ≤ c'.size)
   (hf:c'.size ≤ lo ∨ hi ≤ lo)
   (h:∀ (i:Nat) v v',c[i]?=some v→c'[i]?=some v'→RV E v v'):RO E s (.cells c e (0,0)) (.cells c' e (lo,hi))
 | ice {c c':Array Value} {e:TypeId} {fz:Nat × Nat} (hle:c.size ≤ c'.size) (hx:s=none→c.size=c'.size)
   (h:∀ (i:Nat) v v',c[i]?=some v→c'[i]?=some v'→RV E v v'):RO E s (.cells c e (0,1)) (.cells c' e fz)
 | map {es es':Array MapEntry} (t:Nat) (hn:es.size=es'.size)
   (h:∀ (i:Nat) x y,es[i]?=some x→es'[i]?=some y→RV E x.key y.key∧RV E x.val y.val∧x.born=y.born):RO E s (.map es t) (.map es' t)
 | stringIter (b:ByteArray) (p:Nat):RO E s (.stringIter b p) (.stringIter b p)
 | mapIter {m m':Nat} (h:E.at_ m=some m') (a:Nat) (l:Array Nat) (b:Nat):RO E s (.mapIter (some m) a l b) (.mapIter (some m') a l b)
 | mapIter0 (a:Nat) (l:Array Nat) (b:Nat):RO E s (.mapIter none a l b) (.mapIter none a l b)
 | loop {r r':Loop} (h1:r'.state=r.state) (h2:r'.pending=r.pending) (h3:r'.params=r.params) (h4:r'.assign=r.assign) (h5:r'.body=r.body) (hn:r.tmps.size=r'.tmps.size)
   (h:∀ (i:Nat) v v',r.tmps[i]?=some v→r'.tmps[i]?=some v'→RU E v v'):RO E s (.loop r) (.loop r')
theorem RO.mono {E E':Ren} (le:E.Le E') {s:Option (Nat × Nat)} {o o':Obj} (h:RO E s o o'):RO E' s o o':=by
 cases h with
 | hard hs h=>exact .hard hs (h.mono le)
 | soft hs hz hn hle hf h=>exact .soft hs hz hn hle hf fun i v v' a b=>(h i v v' a b).mono le
 | ice hle hx h=>exact .ice hle hx fun i v v' a b=>(h i v v' a b).mono le
 | map t hn h=>exact .map t hn fun i x y a b=>⟨(h i x y a b).1.mono le,(h i x y a b).2.1.mono le,(h i x y a b).2.2⟩
 | stringIter b p=>exact .stringIter b p
 | mapIter h a l b=>exact .mapIter (le.at_ _ _ h) a l b
 | mapIter0 a l b=>exact .mapIter0 a l b
 | loop h1 h2 h3 h4 h5 hn h=>exact .loop h1 h2 h3 h4 h5 hn fun i v v' a b=>(h i v v' a b).mono le
def iced:Obj→Bool
 | .cells _ _ fz=>fz != (0,0)
 | _=>false
structure RW (P:Program) (E:Ren) (h:AH) (w:World):Prop where
 glob:∀ g,g < P.globals.size→E.at_ g=some g
 dom:∀ k n,E.at_ k=some n→k < h.size∧n < w.heap.size
 sdom:∀ k x,E.soft k=some x→∃ n,E.at_ k=some n
 live:∀ k o s,h.get k=some (o,s)→∃ n o',E.at_ k=some n∧w.heap[n]?=some o'∧RO E (E.soft k) o o'∧s=(E.soft k).map (·.2)
 inj:∀ j k n,E.at_ j=some n→E.at_ k=some n→(h.get j).isSome→(h.get k).isSome→j=k
 frz:∀ b c,E.fro b=some c→∃ cw e fz,w.heap[b]?=some (.cells cw e fz)∧c.size ≤ cw.size∧∀ i,i < c.size→cw[i]?=c[i]?
 icy:∀ k o s n,h.get k=some (o,s)→E.at_ k=some n→(E.fro n).isSome=true→iced o=true
 /-- package-level variables don't grow,and nothing else lies where they lie -/
 sep:(∀ g,g < P.globals.size→E.soft g=none)∧∀ k n,E.at_ k=some n→n < P.globals.size→k=n
theorem RW.frzLt {P:Program} {E:Ren} {h:AH} {w:World} (r:RW P E h w) {b:Nat} {c:Array Value} (hb:E.fro b=some c):b < w.heap.size:=by
 obtain ⟨_,_,_,h1,_⟩:=r.frz b c hb
 exact (Array.getElem?_eq_some_iff.1 h1).1
theorem RW.unfro {P:Program} {E:Ren} {h:AH} {w:World} (r:RW P E h w) {k n:Nat} {o:Obj} {s:Option Nat} (hk:h.get k=some (o,s)) (hat:E.at_ k=some n) (hi:iced o=false):E.fro n=none:=by
 cases hf:E.fro n with
 | none=>rfl
 | some c =>
  have:=r.icy k o s n hk hat (by rw [hf];rfl)
  rw [hi] at this;cases this
structure Ext (E:Ren) (w:World) (E':Ren) (w':World):Prop where
 le:E.Le E'
 range:∀ k n,E'.at_ k=some n→(∃ j,E.at_ j=some n) ∨ w.heap.size ≤ n
 size:w.heap.size ≤ w'.heap.size
 frame:∀ n,n < w.heap.size→(∀ j,E.at_ j ≠ some n)→w'.heap[n]?=w.heap[n]?
 os:w'.os=w.os
 output:w'.output=w.output
 tape:w'.tape=w.tape
 drawn:w.drawn ≤ w'.drawn
 ice:∀ b,(E.fro b).isSome=true→w'.heap[b]?=w.heap[b]?
theorem Ext.refl (E:Ren) (w:World):Ext E w E w:=⟨.refl E,fun k n h=>.inl ⟨k,h⟩,Nat.le_refl _,fun _ _ _=>rfl,rfl,rfl,rfl,Nat.le_refl _,fun _ _=>rfl⟩
theorem Ext.trans {E F G:Ren} {u v w:World} (a:Ext E u F v) (b:Ext F v G w):Ext E u G w where
 le:=a.le.trans b.le
 range k n h:=by
  rcases b.range k n h with ⟨j,hj⟩ | hj
  ·exact a.range j n hj
  ·exact .inr (Nat.le_trans a.size hj)
 size:=Nat.le_trans a.size b.size
 frame n hn hj:=by
  have:∀ j,F.at_ j ≠ some n:=fun j h=>by
   rcases a.range j n h with ⟨i,hi⟩ | hi
   ·exact hj i hi
   ·omega
  rw [b.frame n (Nat.lt_of_lt_of_le hn a.size) this,a.frame n hn hj]
 os:=b.os.trans a.os
 output:=b.output.trans a.output
 tape:=b.tape.trans a.tape
 drawn:=Nat.le_trans a.drawn b.drawn
 ice n hn:=by
  obtain ⟨c,hc⟩:=Option.isSome_iff_exists.1 hn
  rw [b.ice n (by rw [a.le.fro n c hc];rfl),a.ice n hn]
theorem RW.put {P:Program} {E:Ren} {h:AH} {w:World} (r:RW P E h w) {b b':Nat} {o₀ o o':Obj} {s:Option Nat} (hb:h.get b=some (o₀,s)) (hi:iced o₀=false)
  (hat:E.at_ b=some b') (ho:RO E (E.soft b) o o') :
  RW P E (h.put b (some (o,s))) { w with heap:=w.heap.setIfInBounds b' o' }∧Ext E w E { w with heap:=w.heap.setIfInBounds b' o' }:=by
 obtain ⟨n,o1,h1,h2,h3,h4⟩:=r.live b o₀ s hb
 rw [hat] at h1;cases h1
 have hlt:b' < w.heap.size:=(r.dom b b' hat).2
 have hnf:=r.unfro hb hat hi
 refine ⟨⟨r.glob,fun k n hk=>?_,r.sdom,fun k x t hk=>?_,fun j k n hj hk gj gk=>?_,fun n c hn=>?_,fun k x t n hk hn hf=>?_,r.sep⟩,⟨.refl E,fun k n hk=>.inl ⟨k,hk⟩,by simp,fun n hn hj=>?_,rfl,rfl,rfl,Nat.le_refl _,fun n hn=>?_⟩⟩
 ·simpa using r.dom k n hk
 ·rw [AH.get_put] at hk
  split at hk
  ·rename_i e;subst e;cases hk
   exact ⟨b',o',hat,by simp [hlt],ho,h4⟩
  ·rename_i e
   obtain ⟨n,o2,g1,g2,g3,g4⟩:=r.live k x t hk
   have:n ≠ b':=fun he=>e (r.inj k b n g1 (he ▸ hat) (by rw [hk];rfl) (by rw [hb];rfl))
   exact ⟨n,o2,g1,by simp only [Array.getElem?_setIfInBounds];rw [if_neg (fun e=>this e.symm)];exact g2,g3,g4⟩
 ·refine r.inj j k n hj hk ?_ ?_
  ·rw [AH.get_put] at gj
   split at gj
   ·rename_i e;rw [e,hb];rfl
   ·exact gj
  ·rw [AH.get_put] at gk
   split at gk
   ·rename_i e;rw [e,hb];rfl
   ·exact gk
 ·obtain ⟨cw,e,fz,g1,g2,g3⟩:=r.frz n c hn
  refine ⟨cw,e,fz,?_,g2,g3⟩
  have:b' ≠ n:=by rintro rfl;rw [hnf] at hn;cases hn
  simp only [Array.getElem?_setIfInBounds]
  rw [if_neg this];exact g1
 ·rw [AH.get_put] at hk
  split at hk
  ·rename_i e;subst e
   rw [hat] at hn;cases hn
   rw [hnf] at hf;cases hf
  ·exact r.icy k x t n hk hn hf
 ·have:b' ≠ n:=fun e=>hj b (e ▸ hat)
  simp only [Array.getElem?_setIfInBounds]
  rw [if_neg this]
 ·have:b' ≠ n:=by rintro rfl;rw [hnf] at hn;cases hn
  simp only [Array.getElem?_setIfInBounds]
  rw [if_neg this]
def Ren.add (E:Ren) (k n:Nat) (s:Option (Nat × Nat)):Ren :=
 { at_:=fun j=>if j=k then some n else E.at_ j,soft:=fun j=>if j=k then s else E.soft j,fro:=E.fro }
theorem Ren.le_add {P:Program} {E:Ren} {h:AH} {w:World} (r:RW P E h w) (n:Nat) (s:Option (Nat × Nat)):E.Le (E.add h.size n s) where
 at_ k m hk:=by
  have:=(r.dom k m hk).1
  simp only [Ren.add];rw [if_neg (by omega)];exact hk
 soft k m hk:=by
  have:=(r.dom k m hk).1
  simp only [Ren.add];rw [if_neg (by omega)]
 soft' k x hk:=by
  obtain ⟨m,hm⟩:=r.sdom k x hk
  have:=(r.dom k m hm).1
  simp only [Ren.add];rw [if_neg (by omega)];exact hk
 fro _ _ h:=h
theorem RW.sep_add {P:Program} {E:Ren} {h:AH} {w:World} (r:RW P E h w) {b:Nat} {s:Option (Nat × Nat)} (hb:∀ g,g < P.globals.size→g < b) :
  (∀ g,g < P.globals.size→(E.add h.size b s).soft g=none)∧∀ k n,(E.add h.size b s).at_ k=some n→n < P.globals.size→k=n:=by
 refine ⟨fun g hg=>?_,fun k n hk hn=>?_⟩
 ·have:=(r.dom g g (r.glob g hg)).1
  simp only [Ren.add];rw [if_neg (by omega)];exact r.sep.1 g hg
 ·simp only [Ren.add] at hk
  split at hk
  ·cases hk;have:=hb _ hn;omega
  ·exact r.sep.2 k n hk hn
theorem RW.push {P:Program} {E:Ren} {h:AH} {w:World} (r:RW P E h w) {o o':Obj} (s:Option (Nat × Nat)) (ho:RO (E.add h.size w.heap.size s) s o o') :
  RW P (E.add h.size w.heap.size s) (h.push o (s.map (·.2))) { w with heap:=w.heap.push o' }∧Ext E w (E.add h.size w.heap.size s) { w with heap:=w.heap.push o' }:=by
 have le:=Ren.le_add r w.heap.size s
 refine ⟨⟨fun g hg=>le.at_ g g (r.glob g hg),fun k n hk=>?_,fun k x hk=>?_,fun k x t hk=>?_,fun j k n hj hk gj gk=>?_,fun n c hn=>?_,fun k x t n hk hn hf=>?_,RW.sep_add r fun g hg=>?_⟩,⟨le,fun k n hk=>?_,by simp,fun n hn hj=>?_,rfl,rfl,rfl,Nat.le_refl _,fun n hn=>?_⟩⟩
 ·simp only [Ren.add] at hk
  split at hk
  ·cases hk;subst_vars;simp
  ·have:=r.dom k n hk;simp;omega
 ·by_cases e:k=h.size
  ·exact ⟨w.heap.size,by simp [Ren.add,e]⟩
  ·have hk':E.soft k=some x:=by simpa [Ren.add,e] using hk
   obtain ⟨n,hn⟩:=r.sdom k x hk'
   exact ⟨n,by simpa [Ren.add,e] using hn⟩
 ·rw [AH.get_push] at hk
  split at hk
  ·rename_i e;subst e;cases hk
   exact ⟨w.heap.size,o',by simp [Ren.add],by simp,by simpa [Ren.add] using ho,by simp [Ren.add]⟩
  ·rename_i e
   obtain ⟨n,o2,g1,g2,g3,g4⟩:=r.live k x t hk
   have hn:=(r.dom k n g1).2
   have hs:(E.add h.size w.heap.size s).soft k=E.soft k:=le.soft k n g1
   refine ⟨n,o2,le.at_ k n g1,?_,hs ▸ g3.mono le,hs ▸ g4⟩
   show (w.heap.push o')[n]?=_
   rw [Array.getElem?_push,if_neg (by omega)];exact g2
 ·have hd:∀ (i:Nat),(E.add h.size w.heap.size s).at_ i=some n→(i=h.size∧n=w.heap.size) ∨ (E.at_ i=some n∧n < w.heap.size∧i < h.size):=by
   intro i hi
   simp only [Ren.add] at hi
   split at hi
   ·cases hi;exact .inl ⟨by assumption,rfl⟩
   ·exact .inr ⟨hi,(r.dom i n hi).2,(r.dom i n hi).1⟩
  rcases hd j hj with ⟨a1,a2⟩ | ⟨a1,a2,a3⟩ <;> rcases hd k hk with ⟨b1,b2⟩ | ⟨b1,b2,b3⟩
  ·omega
  ·omega
  ·omega
  ·rw [AH.get_push,if_neg (by omega)] at gj gk
   exact r.inj j k n a1 b1 gj gk
 ·obtain ⟨cw,e,fz,g1,g2,g3⟩:=r.frz n c hn
  have hlt:=r.frzLt hn
  refine ⟨cw,e,fz,?_,g2,g3⟩
  show (w.heap.push o')[n]?=_
  rw [Array.getElem?_push,if_neg (by omega)];exact g1
 ·obtain ⟨c,hc⟩:=Option.isSome_iff_exists.1 hf
  have hlt:=r.frzLt hc
  simp only [Ren.add] at hn
  split at hn
  ·cases hn;omega
  ·rename_i e
   rw [AH.get_push,if_neg e] at hk
   exact r.icy k x t n hk hn hf
 ·exact (r.dom g g (r.glob g hg)).2
 ·simp only [Ren.add] at hk
  split at hk
  ·cases hk;exact .inr (Nat.le_refl _)
  ·exact .inl ⟨k,hk⟩
 ·show (w.heap.push o')[n]?=_
  rw [Array.getElem?_push,if_neg (by omega)]
 ·obtain ⟨c,hc⟩:=Option.isSome_iff_exists.1 hn
  have hlt:=r.frzLt hc
  show (w.heap.push o')[n]?=_
  rw [Array.getElem?_push,if_neg (by omega)]
theorem RW.less {P:Program} {E:Ren} {h h':AH} {w:World} (r:RW P E h w) (hs:h.size ≤ h'.size) (hg:∀ k x,h'.get k=some x→h.get k=some x):RW P E h' w where
 glob:=r.glob
 dom k n hk:=by have:=r.dom k n hk;omega
 sdom:=r.sdom
 live k o s hk:=r.live k o s (hg k _ hk)
 inj j k n hj hk gj gk:=by
  obtain ⟨x,hx⟩:=Option.isSome_iff_exists.1 gj
  obtain ⟨y,hy⟩:=Option.isSome_iff_exists.1 gk
  exact r.inj j k n hj hk (by rw [hg j x hx];rfl) (by rw [hg k y hy];rfl)
 frz:=r.frz
 icy k o s n hk hn hf:=r.icy k o s n (hg k _ hk) hn hf
 sep:=r.sep
theorem RW.drop {P:Program} {E:Ren} {h:AH} {w:World} (r:RW P E h w) (b:Nat):RW P E (h.put b none) w :=
 r.less (Nat.le_refl _) fun k x hk=>by
  rw [AH.get_put] at hk
  split at hk
  ·cases hk
  ·exact hk
end Go.Ab
end
section
namespace Go.Ab
section flat
def flat (P:Program) {α:Type}:Sem α→Option α
 | .pure x=>some x
 | .program k=>flat P (k P)
 | .mark _ k=>flat P k
 | _=>none
theorem flat_run {P:Program} {α:Type} {m:Sem α}:∀ {x:α} (w:World),flat P m=some x→m.run P w=.ok x w:=by
 induction m with
 | pure a=>intro x w h;cases h;rfl
 | program k ih=>intro x w h;exact ih P w h
 | mark m k ih=>intro x w h;exact ih w h
 | _=>intro x w h;cases h
end flat
def agg? (P:Program) (t:TypeId):Option Bool :=
 match P.underlying t with
 | some (.struct _) | some (.array _ _)=>some true
 | some _=>some false
 | none=>none
theorem und_run {P:Program} {t:TypeId} {d:TypeDesc} (h:P.underlying t=some d) (w:World):(underlying t).run P w=.ok d w:=by
 simp [underlying,h]
theorem agg_run {P:Program} {t:TypeId} {b:Bool} (h:agg? P t=some b) (w:World):(isAgg t).run P w=.ok b w:=by
 unfold agg? at h
 unfold isAgg
 split at h
 ·rename_i e;cases h;simp [und_run e]
 ·rename_i e;cases h;simp [und_run e]
 ·rename_i d h1 h2 e
  cases h
  simp only [Sem.run_bind,und_run e,Result.andThen_ok]
  cases d <;> first | rfl | (exact absurd e (h1 _)) | (exact absurd e (h2 _ _))
 ·cases h
theorem siz_run {P:Program} {t:TypeId} {i:TypeInfo} (h:P.info? t=some i) (w:World):(sizeOf t).run P w=.ok i.size w:=by
 simp [sizeOf,typeInfo,h]
theorem info_run {P:Program} {t:TypeId} {i:TypeInfo} (h:P.info? t=some i) (w:World):(typeInfo t).run P w=.ok i w:=by
 simp [typeInfo,h]
theorem zero_run {P:Program} {t:TypeId} {i:TypeInfo} {z:Value} (h:P.info? t=some i) (hz:i.zero=some z) (w:World):(zeroValue t).run P w=.ok z w:=by
 simp [zeroValue,typeInfo,h,hz]
def opPart (P:Program) (t:TypeId) (cs:Array Value) (off:Nat):Option Value :=
 match agg? P t with
 | some true=>match P.info? t with
  | some i=>some (.agg (cs.extract off (off + i.size)))
  | none=>none
 | some false=>cs[off]?
 | none=>none
theorem opPart_run {P:Program} {E:Ren} {t:TypeId} {cs cs':Array Value} {off:Nat} {v:Value} (h:opPart P t cs off=some v) (hr:RA E cs cs') (w:World) :
  ∃ v',(part t cs' off).run P w=.ok v' w∧RV E v v':=by
 unfold opPart at h
 split at h
 ·rename_i e
  split at h
  ·rename_i i hi
   cases h
   refine ⟨.agg (cs'.extract off (off + i.size)),?_,.agg (hr.extract _ _).1 (hr.extract _ _).2⟩
   simp [part,agg_run e,siz_run hi]
  ·cases h
 ·rename_i e
  obtain ⟨v',h1,h2⟩:=hr.get h
  exact ⟨v',by simp [part,agg_run e,h1],h2⟩
 ·cases h
def opField (P:Program) (s:TypeId) (v:Value) (f:Nat):Option Value :=
 match P.underlying s,v with
 | some (.struct fs),.agg cs=>match fs[f]? with
  | some fd=>opPart P fd.type cs fd.offset
  | none=>none
 | _,_=>none
theorem opField_run {P:Program} {E:Ren} {s:TypeId} {x x':Value} {f:Nat} {v:Value} (h:opField P s x f=some v) (hr:RV E x x') (w:World) :
  ∃ v',(Instr.field s x' f).run P w=.ok v' w∧RV E v v':=by
 unfold opField at h
 split at h
 ·rename_i fs cs e
  split at h
  ·rename_i fd hf
   cases hr with
   | agg hn hh =>
    obtain ⟨v',h1,h2⟩:=opPart_run h ⟨hn,hh⟩ w
    exact ⟨v',by simp [Instr.field,und_run e,hf,asAgg,h1],h2⟩
  ·cases h
 ·cases h
def opCells (h:AH) (a:Addr) (n:Nat):Option (Array Value) :=
 if a.spot.isSome then none else
 match h.get a.block with
 | some (.cells c _ _,_)=>if a.off + n ≤ c.size then some (c.extract a.off (a.off + n)) else none
 | _=>none
theorem add_off {b off i:Nat}:(⟨b,off,none⟩:Addr).add i=⟨b,off + i,none⟩:=by
 unfold Addr.add
 split
 ·rename_i e;subst e;rfl
 ·rfl
theorem loadCellsFrom_run {P:Program} {w:World} {b off:Nat} {c:Array Value} {e:TypeId} {fz:Nat × Nat} (hb:w.heap[b]?=some (.cells c e fz)) :
  ∀ (n i:Nat) (acc:Array Value),off + i + n ≤ c.size→(loadCellsFrom ⟨b,off,none⟩ i n acc).run P w=.ok (acc++c.extract (off + i) (off + i + n)) w:=by
 intro n
 induction n with
 | zero=>intro i acc hn;simp [loadCellsFrom];omega
 | succ n ih =>
  intro i acc hn
  have hlt:off + i < c.size:=by omega
  have hc:w.cell? ⟨b,off + i,none⟩=some c[off + i]:=by simp [World.cell?,hb,hlt]
  simp only [loadCellsFrom,add_off,Sem.run_bind,run_load,hc,Result.andThen_ok]
  rw [ih (i + 1) _ (by omega)]
  congr 1
  apply Array.ext'
  simp only [Array.toList_append,Array.toList_push,Array.toList_extract,List.append_assoc]
  congr 1
  simp only [List.extract_eq_take_drop]
  have e1:off + i + (n + 1) - (off + i)=n + 1:=by omega
  have e2:off + (i + 1) + n - (off + (i + 1))=n:=by omega
  have e3:off + (i + 1)=off + i + 1:=by omega
  rw [e1,e2,e3]
  have hd:c.toList.drop (off + i)=c[off + i]::c.toList.drop (off + i + 1):=by
   rw [List.drop_eq_getElem_cons (by simpa using hlt)];simp
  rw [hd,List.take_succ_cons]
  rfl
theorem loadCells_run {P:Program} {w:World} {b off n:Nat} {c:Array Value} {e:TypeId} {fz:Nat × Nat} (hb:w.heap[b]?=some (.cells c e fz)) (hn:off + n ≤ c.size) :
  (loadCells ⟨b,off,none⟩ n).run P w=.ok (c.extract off (off + n)) w:=by
 have:=loadCellsFrom_run (P:=P) hb n 0 #[] (by omega)
 simpa [loadCells] using this
theorem RW.cells {P:Program} {E:Ren} {h:AH} {w:World} (r:RW P E h w) {b b':Nat} {c:Array Value} {e:TypeId} {fz:Nat × Nat} {s:Option Nat}
  (hb:h.get b=some (.cells c e fz,s)) (hat:E.at_ b=some b') :
  ∃ c' fz',w.heap[b']?=some (.cells c' e fz')∧c.size ≤ c'.size∧(∀ (i:Nat) v v',c[i]?=some v→c'[i]?=some v'→RV E v v') ∧
   (fz=(0,0)→∀ i,i < c'.size→¬ (fz'.1 ≤ i∧i < fz'.2)):=by
 obtain ⟨n,o',h1,h2,h3,h4⟩:=r.live b _ s hb
 rw [hat] at h1;cases h1
 cases h3 with
 | hard hs h=>exact ⟨_,_,h2,Nat.le_of_eq h.1,h.2,fun _ i _=>by simp⟩
 | soft hs hz hn hle hf h=>exact ⟨_,_,h2,hle,h,fun _ i hi=>by simp only;omega⟩
 | ice hle hx h=>exact ⟨_,_,h2,hle,h,fun e=>by cases e⟩
theorem RW.exact {P:Program} {E:Ren} {h:AH} {w:World} (r:RW P E h w) {b b':Nat} {c c':Array Value} {e e':TypeId} {fz fz':Nat × Nat} {s:Option Nat}
  (hb:h.get b=some (.cells c e fz,s)) (hat:E.at_ b=some b') (hw:w.heap[b']?=some (.cells c' e' fz')) (hs:E.soft b=none):c.size=c'.size:=by
 obtain ⟨n,o',h1,h2,h3,h4⟩:=r.live b _ s hb
 rw [hat] at h1;cases h1
 rw [hw] at h2;cases h2
 cases h3 with
 | hard hs h=>exact h.1
 | soft hs' _ _ _ _ _=>rw [hs] at hs';cases hs'
 | ice hle hx h=>exact hx hs
theorem opCells_run {P:Program} {E:Ren} {h:AH} {w:World} (r:RW P E h w) {a:Addr} {n b':Nat} {l:Array Value} (hl:opCells h a n=some l)
  (hat:E.at_ a.block=some b'):a.spot=none∧∃ l',(loadCells ⟨b',a.off,none⟩ n).run P w=.ok l' w∧RA E l l':=by
 unfold opCells at hl
 split at hl
 ·cases hl
 ·rename_i hs
  refine ⟨by simpa using hs,?_⟩
  split at hl
  ·rename_i c e fz s hb
   split at hl
   ·rename_i hn
    cases hl
    obtain ⟨c',fz',h1,h2,h3,h4⟩:=r.cells hb hat
    refine ⟨_,loadCells_run h1 (by omega),?_,fun i v v' hv hv'=>?_⟩
    ·simp;omega
    ·rw [Array.getElem?_extract] at hv hv'
     split at hv
     ·split at hv'
      ·exact h3 _ _ _ hv hv'
      ·cases hv'
     ·cases hv
   ·cases hl
  ·cases hl
def opLoad (P:Program) (h:AH) (t:TypeId) (v:Value):Option Value :=
 match v with
 | .pointer (some a) =>
  match agg? P t with
  | some true=>match P.info? t with
   | some i=>(opCells h a i.size).map .agg
   | none=>none
  | some false=>(opCells h a 1).bind (·[0]?)
  | none=>none
 | .func (.yield 1) _ d =>
  match agg? P t with
  | some true=>match P.info? t with
   | some i=>if i.size ≤ d.size then some (.agg (d.extract 0 i.size)) else none
   | none=>none
  | some false=>d[0]?
  | none=>none
 | _=>none
theorem load_run {P:Program} {E:Ren} {w:World} {t:TypeId} {b off n:Nat} {l l':Array Value} {v:Value} (hr:RA E l l') (hl:∀ m,m=n→(loadCells ⟨b,off,none⟩ m).run P w=.ok l' w)
  (hv:(agg? P t=some true∧(∃ i,P.info? t=some i∧i.size=n)∧v=.agg l) ∨ (agg? P t=some false∧n=1∧l[0]?=some v)) :
  ∃ v',(Instr.loadAt t (.pointer (some ⟨b,off,none⟩))).run P w=.ok v' w∧RV E v v':=by
 have hl:=hl n rfl
 rcases hv with ⟨e,⟨i,hi,rfl⟩,rfl⟩ | ⟨e,rfl,h2⟩
 ·exact ⟨.agg l',by simp [Instr.loadAt,Instr.sureAddr,loadVar,agg_run e,siz_run hi,hl],.agg hr.1 hr.2⟩
 ·obtain ⟨v',h5,h6⟩:=hr.get h2
  refine ⟨v',?_,h6⟩
  simp only [Instr.loadAt,Instr.sureAddr,loadVar,Sem.run_bind,Sem.run_pure,Result.andThen_ok,agg_run e,Bool.false_eq_true,if_false]
  simp only [loadCells,loadCellsFrom,add_off,Nat.add_zero,Sem.run_bind,run_load] at hl
  rw [run_load]
  cases hc:w.cell? ⟨b,off,none⟩ with
  | some u =>
   rw [hc] at hl
   simp at hl
   subst hl
   simp at h5
   subst h5
   rfl
  | none =>
   rw [hc] at hl
   simp only at hl ⊢
   split at hl
   ·rename_i u l2 hu
    simp at hl
    subst hl
    simp at h5
    subst h5
    rfl
   ·simp at hl
theorem RW.still {P:Program} {E:Ren} {h:AH} {w:World} (r:RW P E h w) {d:Array Value} {b' off:Nat} {c:Array Value} (hf:E.fro b' = some c) (hn:off + d.size ≤ c.size)
  (hh:∀ (i:Nat) v v',d[i]?=some v→c[off + i]?=some v'→RV E v v') {n:Nat} (hd:n ≤ d.size):∃ l',(loadCells ⟨b',off,none⟩ n).run P w=.ok l' w∧RA E (d.extract 0 n) l':=by
 obtain ⟨cw,e,fz,g1,g2,g3⟩:=r.frz b' c hf
 refine ⟨_,loadCells_run g1 (by omega),?_,fun i v v' hv hv'=>?_⟩
 ·simp;omega
 ·rw [Array.getElem?_extract] at hv hv'
  split at hv
  ·split at hv'
   ·rw [Nat.zero_add] at hv
    rw [g3 _ (by omega)] at hv'
    exact hh i v v' hv hv'
   ·cases hv'
  ·cases hv
theorem opLoad_run {P:Program} {E:Ren} {h:AH} {w:World} (r:RW P E h w) {t:TypeId} {x x' v:Value} (hl:opLoad P h t x=some v) (hx:RV E x x') :
  ∃ v',(Instr.loadAt t x').run P w=.ok v' w∧RV E v v':=by
 unfold opLoad at hl
 split at hl
 ·rename_i a
  cases hx with
  | ptr hat =>
   split at hl
   ·rename_i e
    split at hl
    ·rename_i i hi
     rw [Option.map_eq_some_iff] at hl
     obtain ⟨l,h1,rfl⟩:=hl
     obtain ⟨_,l',h2,h3⟩:=opCells_run r h1 hat
     exact load_run h3 (fun m hm=>by rw [hm];exact h2) (.inl ⟨e,⟨i,hi,rfl⟩,rfl⟩)
    ·cases hl
   ·rename_i e
    rw [Option.bind_eq_some_iff] at hl
    obtain ⟨l,h1,h2⟩:=hl
    obtain ⟨_,l',h3,h4⟩:=opCells_run r h1 hat
    exact load_run h4 (fun m hm=>by rw [hm];exact h3) (.inr ⟨e,rfl,h2⟩)
   ·cases hl
 ·rename_i z d
  generalize hxx:Value.func (.yield 1) z d=xx at hx
  cases hx with
  | fp hf hn hh =>
   cases hxx
   split at hl
   ·rename_i e
    split at hl
    ·rename_i i hi
     split at hl
     ·rename_i hle
      cases hl
      obtain ⟨l',h1,h2⟩:=r.still hf hn hh hle
      exact load_run h2 (fun m hm=>by rw [hm];exact h1) (.inl ⟨e,⟨i,hi,rfl⟩,rfl⟩)
     ·cases hl
    ·cases hl
   ·rename_i e
    have hlt:1 ≤ d.size:=by have:=(Array.getElem?_eq_some_iff.1 hl).1;omega
    obtain ⟨l',h1,h2⟩:=r.still hf hn hh hlt
    exact load_run h2 (fun m hm=>by rw [hm];exact h1) (.inr ⟨e,rfl,by rw [Array.getElem?_extract,if_pos (by omega)];exact hl⟩)
   ·cases hl
  | _=>cases hxx
 ·cases hl
end Go.Ab
end
