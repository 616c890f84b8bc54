import Derived.Below
import Derived.OpenShut
import Derived.ProofKit
import Derived.WalkKit
import Derived.WideShapes
import Derived.Test.YtgdnfoijhdpppaaDoorZ10
set_option linter.unusedVariables false
set_option linter.unusedSimpArgs false
section
namespace Go.Ab
inductive Ty where
 | int (k:IntKind)
 | bool
 | str
 | slice (t:Ty)
 | arr (n:Nat) (t:Ty)
 | nil
 | cons (t r:Ty)
abbrev Ty.T:Ty→Type
 | .int _=>Int
 | .bool=>Bool
 | .str=>ByteArray
 | .slice t=>Option (List t.T)
 | .arr _ t=>List t.T
 | .nil=>Unit
 | .cons t r=>t.T × r.T
def Ty.one:Ty→List Value→Value
 | .arr _ _,l | .nil,l | .cons _ _,l=>.agg l.toArray
 | _,l=>l.headD undef
def Ty.enc:(t:Ty)→t.T→List Value
 | .int k,n=>[.int k n]
 | .bool,b=>[.bool b]
 | .str,s=>[.string s]
 | .slice _,none=>[.slice none 0 0]
 | .slice t,some l=>[VSl (l.map fun x=>t.one (t.enc x))]
 | .arr _ t,l=>l.flatMap t.enc
 | .nil,_=>[]
 | .cons t r,x=>t.enc x.1++r.enc x.2
def Ty.val (t:Ty) (x:t.T):Value:=t.one (t.enc x)
def Ty.WF:(t:Ty)→t.T→Prop
 | .int k,n=>(Lit.int k n).wf=true
 | .bool,_=>True
 | .str,s=>s.size ≤ maxLen
 | .slice _,none=>True
 | .slice t,some l=>∀ x ∈ l,t.WF x
 | .arr n t,l=>l.length=n∧∀ x ∈ l,t.WF x
 | .nil,_=>True
 | .cons t r,x=>t.WF x.1∧r.WF x.2
def Ty.bulk:(t:Ty)→t.T→Nat
 | .int _,_=>1
 | .bool,_=>1
 | .str,s=>s.size + 1
 | .slice _,none=>1
 | .slice t,some l=>(l.map t.bulk).sum + 1
 | .arr _ t,l=>(l.map t.bulk).sum + 1
 | .nil,_=>0
 | .cons t r,x=>t.bulk x.1 + r.bulk x.2
def Ty.has (P:Program):Ty→Option (List Field × Nat × Nat)→TypeId→Bool
 | .int k,none,t=>match P.underlying t with | some (.int k')=>k == k' && P.cellsOf t == 1 | _=>false
 | .bool,none,t=>match P.underlying t with | some .bool=>P.cellsOf t == 1 | _=>false
 | .str,none,t=>match P.underlying t with | some .string=>P.cellsOf t == 1 | _=>false
 | .slice e,none,t=>match P.underlying t with | some (.slice e')=>e.has P none e' && decide (0 < P.cellsOf e') && P.cellsOf t == 1 | _=>false
 | .arr n e,none,t=>match P.underlying t with | some (.array m e')=>m == n && e.has P none e' && P.cellsOf t == n * P.cellsOf e' | _=>false
 | .nil,some (fs,off,tot),_=>fs.isEmpty && off == tot
 | .nil,none,t=>match P.underlying t with | some (.struct fs)=>fs.isEmpty && P.cellsOf t == 0 | _=>false
 | .cons a r,some (fs,off,tot),_=>match fs with
  | f::fs=>f.offset == off && a.has P none f.type && r.has P (some (fs,off + P.cellsOf f.type,tot)) 0
  | []=>false
 | .cons a r,none,t=>match P.underlying t with
  | some (.struct fs)=>match fs.toList with
   | f::rest=>f.offset == 0 && a.has P none f.type && r.has P (some (rest,P.cellsOf f.type,P.cellsOf t)) 0
   | []=>false
  | _=>false
 | _,_,_=>false
inductive CR (E:Ren):List Value→List Value→Prop
 | nil:CR E [] []
 | cons {v v':Value} {l l':List Value} (h:RV E v v') (t:CR E l l'):CR E (v::l) (v'::l')
theorem CR.append {E:Ren} {a a' b b':List Value} (h:CR E a a') (k:CR E b b'):CR E (a++b) (a'++b'):=by
 induction h with
 | nil=>exact k
 | cons h _ ih=>exact .cons h ih
theorem CR.length {E:Ren} {a a':List Value} (h:CR E a a'):a.length=a'.length:=by
 induction h with
 | nil=>rfl
 | cons _ _ ih=>simp [ih]
theorem CR.get {E:Ren} {a a':List Value} (h:CR E a a'):∀ (i:Nat) v v',a[i]?=some v→a'[i]?=some v'→RV E v v':=by
 induction h with
 | nil=>intro i v v' h;simp at h
 | cons h _ ih =>
  intro i v v' h1 h2
  cases i with
  | zero=>simp at h1 h2;subst h1 h2;exact h
  | succ i=>exact ih i v v' (by simpa using h1) (by simpa using h2)
theorem CR.ra {E:Ren} {a a':List Value} (h:CR E a a'):RA E a.toArray a'.toArray:=⟨by simpa using h.length,fun i v v' h1 h2=>h.get i v v' (by simpa using h1) (by simpa using h2)⟩
def stillR (P:Program) (w:World):Ren where
 at_ k:=if k < P.globals.size then some k else none
 soft _:=none
 fro b:=match w.heap[b]? with | some (.cells c _ _)=>some c | _=>none
structure Bulky {H:Type} (B:DataW H→Nat) (BA:List (DataW H)→Nat):Prop where
 str:∀ s,B (.lit (.string s))=s.length + 1
 lit:∀ l,1 ≤ B (.lit l)
 nil:B .nil=1
 slice:∀ e s,B (.slice e s)=BA e + BA s + 1
 agg:∀ p,B (.agg p)=BA p + 1
 none:BA []=0
 cons:∀ d r,BA (d::r)=B d + BA r
section
variable {H:Type} {E₀:TypeId × Value→H} {P:Program} {w:World} {sp:Nat→Bool} {held:Bool} {B:DataW H→Nat} {BA:List (DataW H)→Nat}
theorem sum_le {α:Type} {f:α→Nat} {xs:List (DataW H × List MemPlace)} {l:List α} (hB:Bulky B BA) (hl:l.length=xs.length) (h:∀ (i:Nat) x d,l[i]?=some x→xs[i]?=some d→f x ≤ B d.1) :
  (l.map f).sum ≤ BA (xs.map (·.1)):=by
 induction xs generalizing l with
 | nil=>cases l with
  | nil=>simp
  | cons=>simp at hl
 | cons x xs ih =>
  cases l with
  | nil=>simp at hl
  | cons y l =>
   rw [List.map_cons,List.sum_cons,List.map_cons,hB.cons]
   exact Nat.add_le_add (h 0 y x (by simp) (by simp)) (ih (by simpa using hl) fun i a b ha hb=>h (i + 1) a b (by simpa using ha) (by simpa using hb))
theorem mapM_get {α β:Type} {f:α→Option β}:∀ {l:List α} {r:List β},l.mapM f=some r→l.length=r.length∧∀ (i:Nat) x,l[i]?=some x→∃ y,f x=some y∧r[i]?=some y:=by
 intro l
 induction l with
 | nil=>intro r h;simp at h;subst h;exact ⟨rfl,fun i x hx=>by simp at hx⟩
 | cons a l ih =>
  intro r h
  rw [List.mapM_cons] at h
  cases ha:f a with
  | none=>rw [ha] at h;cases h
  | some y =>
   rw [ha] at h
   cases hr:l.mapM f with
   | none=>rw [hr] at h;cases h
   | some r' =>
    rw [hr] at h
    simp at h
    subst h
    obtain ⟨h1,h2⟩:=ih hr
    refine ⟨by simp [h1],fun i x hx=>?_⟩
    cases i with
    | zero=>simp at hx;subst hx;exact ⟨y,ha,by simp⟩
    | succ i=>simpa using h2 i x (by simpa using hx)
theorem cells_get {a:Addr} {n:Nat} {cs:List Value} (h:w.cells? 0 a n=some cs):cs.length=n∧(0 < n→a.spot=none∧∃ c e fz,w.heap[a.block]?=some (.cells c e fz)∧a.off + n ≤ c.size∧∀ i,i < n→c[a.off + i]?=cs[i]?):=by
 unfold World.cells? at h
 rw [if_pos (Nat.zero_le _)] at h
 obtain ⟨h1,h2⟩:=mapM_get h
 rw [List.length_range] at h1
 refine ⟨h1.symm,fun hn=>?_⟩
 obtain ⟨v,hv,_⟩:=h2 0 0 (by rw [List.getElem?_range hn])
 rw [show a.add 0=a from rfl] at hv
 have hsp:a.spot=none:=by
  unfold World.cell? at hv
  split at hv
  ·split at hv
   ·cases hv
   ·rename_i hs;simpa using hs
  ·cases hv
 refine ⟨hsp,?_⟩
 obtain ⟨b,off,spot⟩:=a
 simp only at hsp
 subst hsp
 unfold World.cell? at hv
 split at hv
 ·rename_i c e fz hb
  refine ⟨c,e,fz,hb,?_,fun i hi=>?_⟩
  ·obtain ⟨u,hu,_⟩:=h2 (n - 1) (n - 1) (by rw [List.getElem?_range (by omega)])
   rw [add_off] at hu
   unfold World.cell? at hu
   simp only at hb hu
   rw [hb] at hu
   simp at hu
   have:=(Array.getElem?_eq_some_iff.1 hu).1
   show off + n ≤ c.size
   omega
  ·obtain ⟨u,hu,hg⟩:=h2 i i (by rw [List.getElem?_range hi])
   rw [add_off] at hu
   unfold World.cell? at hu
   simp only at hb hu
   rw [hb] at hu
   simp at hu
   rw [hu,hg]
 ·cases hv
theorem val_cells:∀ (ty:Ty) (x:ty.T),(ty.val x).cells.toList=ty.enc x:=by
 intro ty x
 cases ty with
 | arr n t=>rfl
 | nil=>rfl
 | cons t r=>rfl
 | int k=>rfl
 | bool=>rfl
 | str=>rfl
 | slice e=>cases x <;> rfl
theorem elems_open {ty:Ty} {n:Nat} {s:Nat} {get:Nat→Option (List Value)} {f:List Value→Option (DataW H × List MemPlace)} {xs:List (DataW H × List MemPlace)} (hB:Bulky B BA)
  (hx:(List.range n).mapM (fun i=>(get i).bind f)=some xs)
  (ih:∀ cs d,f cs=some d→∃ x:ty.T,ty.WF x∧CR (stillR P w) (ty.enc x) cs∧ty.bulk x ≤ B d.1) :
  ∃ l:List ty.T,l.length=n∧(∀ x ∈ l,ty.WF x)∧(∀ (i:Nat) x,l[i]?=some x→∃ cs,get i=some cs∧CR (stillR P w) (ty.enc x) cs)∧(l.map ty.bulk).sum ≤ BA (xs.map (·.1)):=by
 obtain ⟨h1,h2⟩:=mapM_get hx
 rw [List.length_range] at h1
 have key:∀ i,i < n→∃ x:ty.T,ty.WF x∧(∃ cs,get i=some cs∧CR (stillR P w) (ty.enc x) cs)∧∀ d,xs[i]?=some d→ty.bulk x ≤ B d.1:=by
  intro i hi
  obtain ⟨y,hy,hg⟩:=h2 i i (by rw [List.getElem?_range hi])
  rw [Option.bind_eq_some_iff] at hy
  obtain ⟨cs,hc,hf⟩:=hy
  obtain ⟨x,w1,w2,w3⟩:=ih cs y hf
  exact ⟨x,w1,⟨cs,hc,w2⟩,fun d hd=>by rw [hg] at hd;cases hd;exact w3⟩
 have build:∀ m,m ≤ n→∃ l:List ty.T,l.length=m∧∀ (i:Nat) x,l[i]?=some x→ty.WF x∧(∃ cs,get i=some cs∧CR (stillR P w) (ty.enc x) cs)∧∀ d,xs[i]?=some d→ty.bulk x ≤ B d.1:=by
  intro m
  induction m with
  | zero=>intro _;exact ⟨[],rfl,fun i x h=>by simp at h⟩
  | succ m im =>
   intro hm
   obtain ⟨l,l1,l2⟩:=im (by omega)
   obtain ⟨x,hx⟩:=key m (by omega)
   refine ⟨l++[x],by simp [l1],fun i y hy=>?_⟩
   rw [List.getElem?_append] at hy
   split at hy
   ·exact l2 i y hy
   ·rename_i hge
    have hi:i=m:=by
     have:=(List.getElem?_eq_some_iff.1 hy).1
     simp at this
     omega
    subst hi
    rw [l1] at hy
    simp at hy
    subst hy
    exact hx
 obtain ⟨l,l1,l2⟩:=build n (Nat.le_refl _)
 refine ⟨l,l1,fun x hx=>?_,fun i x hx=>(l2 i x hx).2.1,sum_le hB (by rw [l1,h1]) fun i x d hx hd=>(l2 i x hx).2.2 d hd⟩
 obtain ⟨i,hi⟩:=List.mem_iff_getElem?.1 hx
 exact (l2 i x hi).1
theorem flat_open {ty:Ty} {E:Ren} {s:Nat}:∀ {l:List ty.T} {cs:List Value},cs.length=l.length * s→(∀ (i:Nat) x,l[i]?=some x→CR E (ty.enc x) ((cs.drop (i * s)).take s))→CR E (l.flatMap ty.enc) cs:=by
 intro l
 induction l with
 | nil=>intro cs h _;simp at h;subst h;exact .nil
 | cons x l ih =>
  intro cs h hh
  have h0:=hh 0 x (by simp)
  simp only [Nat.zero_mul,List.drop_zero] at h0
  have hr:CR E (l.flatMap ty.enc) (cs.drop s):=by
   refine ih (by simp [h,Nat.succ_mul]) fun i y hy=>?_
   have:=hh (i + 1) y (by simpa using hy)
   rw [List.drop_drop]
   rw [Nat.succ_mul,Nat.add_comm] at this
   exact this
  have:=h0.append hr
  rw [List.take_append_drop] at this
  exact this
theorem open_ty (hB:Bulky B BA):∀ ty:Ty,
  (∀ t fuel cs d,ty.has P none t=true→DataW.trod E₀ P w 0 sp held fuel t cs=some d→∃ x:ty.T,ty.WF x∧CR (stillR P w) (ty.enc x) cs∧ty.bulk x ≤ B d.1) ∧
  (∀ (fs:List Field) (off tot fuel:Nat) (cs:List Value) (xs:List (DataW H × List MemPlace)),ty.has P (some (fs,off,tot)) 0=true→cs.length=tot→fs.mapM (fun f=>DataW.trod E₀ P w 0 sp held fuel f.type ((cs.drop f.offset).take (P.cellsOf f.type)))=some xs →
   ∃ x:ty.T,ty.WF x∧CR (stillR P w) (ty.enc x) (cs.drop off)∧ty.bulk x ≤ BA (xs.map (·.1))):=by
 intro ty
 induction ty with
 | int k =>
  refine ⟨fun t fuel cs d ht hd=>?_,fun fs off tot fuel cs xs h=>by cases h⟩
  simp only [Ty.has] at ht
  split at ht
  ·rename_i k' hu
   simp only [Bool.and_eq_true,beq_iff_eq] at ht
   obtain ⟨rfl,_⟩:=ht
   cases fuel with
   | zero=>cases hd
   | succ fuel =>
    unfold DataW.trod at hd
    rw [hu] at hd
    split at hd <;> first | (rename_i e _;cases e;done) | skip
    all_goals first
     | (rename_i e;cases e;done)
     | skip
    ·rename_i k2 k3 n e
     cases e
     split at hd
     ·rename_i hw
      cases hd
      obtain ⟨rfl,hw⟩:=hw
      exact ⟨n,hw,.cons (.int _ _) .nil,hB.lit _⟩
     ·cases hd
    all_goals (cases hd)
  ·cases ht
 | bool =>
  refine ⟨fun t fuel cs d ht hd=>?_,fun fs off tot fuel cs xs h=>by cases h⟩
  simp only [Ty.has] at ht
  split at ht
  ·rename_i hu
   cases fuel with
   | zero=>cases hd
   | succ fuel =>
    unfold DataW.trod at hd
    rw [hu] at hd
    split at hd <;> first | (rename_i e _;cases e;done) | skip
    all_goals first
     | (rename_i e;cases e;done)
     | skip
    ·rename_i b e
     cases hd
     exact ⟨b,trivial,.cons (.bool _) .nil,hB.lit _⟩
    all_goals (cases hd)
  ·cases ht
 | str =>
  refine ⟨fun t fuel cs d ht hd=>?_,fun fs off tot fuel cs xs h=>by cases h⟩
  simp only [Ty.has] at ht
  split at ht
  ·rename_i hu
   cases fuel with
   | zero=>cases hd
   | succ fuel =>
    unfold DataW.trod at hd
    rw [hu] at hd
    split at hd <;> first | (rename_i e _;cases e;done) | skip
    all_goals first
     | (rename_i e;cases e;done)
     | skip
    ·rename_i s e
     split at hd
     ·rename_i hs
      cases hd
      exact ⟨s,hs,.cons (.string _) .nil,by simp only [Ty.bulk];rw [hB.str];simp⟩
     ·cases hd
    all_goals (cases hd)
  ·cases ht
 | slice e ih =>
  refine ⟨fun t fuel cs d ht hd=>?_,fun fs off tot fuel cs xs h=>by cases h⟩
  simp only [Ty.has] at ht
  split at ht
  ·rename_i e' hu
   simp only [Bool.and_eq_true,beq_iff_eq,decide_eq_true_eq] at ht
   obtain ⟨⟨he,hpos⟩,_⟩:=ht
   cases fuel with
   | zero=>cases hd
   | succ fuel =>
    unfold DataW.trod at hd
    rw [hu] at hd
    split at hd <;> first | (rename_i e _;cases e;done) | skip
    all_goals first
     | (rename_i e;cases e;done)
     | skip
    ·rename_i e1
     cases e1
     cases hd
     exact ⟨none,trivial,.cons (.nilSlice 0 0) .nil,by simp only [Ty.bulk];rw [hB.nil];exact Nat.le_refl _⟩
    ·rename_i a len cap e1
     cases e1
     simp only at hd
     split at hd
     ·rename_i hc
      rw [Option.bind_eq_some_iff] at hd
      obtain ⟨elems,hel,hd⟩:=hd
      rw [Option.map_eq_some_iff] at hd
      obtain ⟨rest,_,rfl⟩:=hd
      obtain ⟨l,l1,l2,l3,l4⟩:=elems_open (P:=P) (w:=w) (s:=P.cellsOf e') hB hel fun cs d hf=>ih.1 e' fuel cs d he hf
      refine ⟨some l,l2,?_,by simp only [Ty.bulk];rw [hB.slice];omega⟩
      refine .cons ?_ .nil
      by_cases h0:l.length=0
      ·have:l=[]:=List.eq_nil_of_length_eq_zero h0
       subst this
       have:len=0:=by rw [← l1];rfl
       subst this
       exact .vs0
      ·have hfirst:∃ x,l[0]?=some x:=⟨l[0]'(by omega),List.getElem?_eq_getElem _⟩
       obtain ⟨x0,hx0⟩:=hfirst
       obtain ⟨cs0,g1,_⟩:=l3 0 x0 hx0
       rw [Nat.zero_mul] at g1
       obtain ⟨g2,g3⟩:=cells_get g1
       obtain ⟨hsp,c,ce,fz,hb,_,_⟩:=g3 hpos
       obtain ⟨b,off,spot⟩:=a
       have hsp':spot=none:=hsp
       subst hsp'
       have hb':w.heap[b]?=some (.cells c ce fz):=hb
       have each:∀ (i:Nat) x,l[i]?=some x→off + i * P.cellsOf e' + P.cellsOf e' ≤ c.size∧(e.enc x).length=P.cellsOf e'∧∀ j v v',(e.enc x)[j]?=some v→c[off + i * P.cellsOf e' + j]?=some v'→RV (stillR P w) v v':=by
        intro i x hx
        obtain ⟨cs,q1,q2⟩:=l3 i x hx
        obtain ⟨q3,q4⟩:=cells_get q1
        rw [add_off] at q4
        obtain ⟨_,c',ce',fz',q5,q6,q7⟩:=q4 hpos
        have q5':w.heap[b]?=some (.cells c' ce' fz'):=q5
        rw [hb'] at q5';cases q5'
        refine ⟨q6,by rw [q2.length,q3],fun j v v' h1 h2=>?_⟩
        have hj:j < P.cellsOf e':=by
         have:=(List.getElem?_eq_some_iff.1 h1).1
         rw [q2.length,q3] at this;exact this
        rw [q7 j hj] at h2
        exact q2.get j v v' h1 h2
       have hsz:∀ v ∈ l.map (fun x=>e.one (e.enc x)),v.cells.size=P.cellsOf e':=by
        intro v hv
        obtain ⟨x,hx,rfl⟩:=List.mem_map.1 hv
        obtain ⟨i,hi⟩:=List.mem_iff_getElem?.1 hx
        have h1:=val_cells e x
        unfold Ty.val at h1
        rw [← Array.length_toList,h1]
        exact (each i x hi).2.1
       have hlen:(l.map (fun x=>e.one (e.enc x))).length=len:=by simp [l1]
       have hle:off + len * P.cellsOf e' ≤ c.size:=by
        have hlast:∃ x,l[len - 1]?=some x:=⟨l[len - 1]'(by omega),List.getElem?_eq_getElem _⟩
        obtain ⟨x,hx⟩:=hlast
        have:=(each (len - 1) x hx).1
        have e2:len * P.cellsOf e' = (len - 1) * P.cellsOf e' + P.cellsOf e':=by
         rw [← Nat.succ_mul];congr 1;omega
        omega
       have:=RV.vs (E:=stillR P w) (l:=l.map fun x=>e.one (e.enc x)) (b':=b) (off:=off) (cap:=cap) (s:=P.cellsOf e') (c:=c) (by simp [stillR,hb']) hpos hsz (by rw [hlen];exact hle) (by rw [hlen];exact hc.2.1) fun i v v' h1 h2=>?_
       ·rw [hlen] at this;exact this
       ·have hi:i < len * P.cellsOf e':=by
         have:=(List.getElem?_eq_some_iff.1 h1).1
         rw [flatC_length hsz,hlen] at this;exact this
        have hq:i / P.cellsOf e' < len:=(Nat.div_lt_iff_lt_mul hpos).2 hi
        have hjs:i / P.cellsOf e' * P.cellsOf e' + i % P.cellsOf e' = i:=by rw [Nat.mul_comm];exact Nat.div_add_mod i _
        have hx:l[i / P.cellsOf e']?=some (l[i / P.cellsOf e']'(by omega)):=List.getElem?_eq_getElem _
        generalize l[i / P.cellsOf e']'(by omega)=x at hx
        have hat:=flatC_at hsz (i % P.cellsOf e') (i:=i / P.cellsOf e') (x:=e.one (e.enc x)) (by rw [List.getElem?_map,hx];rfl) (Nat.mod_lt _ hpos)
        rw [hjs] at hat
        rw [hat] at h1
        have h1':(e.enc x)[i % P.cellsOf e']?=some v:=by
         have h3:=val_cells e x
         unfold Ty.val at h3
         rw [← h3,Array.getElem?_toList];exact h1
        exact (each _ x hx).2.2 _ v v' h1' (by rw [Nat.add_assoc,hjs];exact h2)
     ·cases hd
    all_goals (cases hd)
  ·cases ht
 | arr n e ih =>
  refine ⟨fun t fuel cs d ht hd=>?_,fun fs off tot fuel cs xs h=>by cases h⟩
  simp only [Ty.has] at ht
  split at ht
  ·rename_i m e' hu
   simp only [Bool.and_eq_true,beq_iff_eq] at ht
   obtain ⟨⟨rfl,he⟩,hsz⟩:=ht
   cases fuel with
   | zero=>cases hd
   | succ fuel =>
    unfold DataW.trod at hd
    rw [hu] at hd
    dsimp only at hd
    ·split at hd
     ·rename_i hc
      rw [Option.map_eq_some_iff] at hd
      obtain ⟨xs,hxs,rfl⟩:=hd
      obtain ⟨l,l1,l2,l3,l4⟩:=elems_open (P:=P) (w:=w) (s:=P.cellsOf e') (get:=fun i=>some ((cs.drop (i * P.cellsOf e')).take (P.cellsOf e'))) (f:=DataW.trod E₀ P w 0 sp held fuel e') hB hxs fun cs d hf=>ih.1 e' fuel cs d he hf
      refine ⟨l,⟨l1,l2⟩,flat_open (s:=P.cellsOf e') (by rw [l1,← hsz];exact hc) fun i x hx=>?_,by simp only [Ty.bulk];rw [hB.agg];omega⟩
      obtain ⟨cs',q1,q2⟩:=l3 i x hx
      cases q1
      exact q2
     ·cases hd
  ·cases ht
 | nil =>
  refine ⟨fun t fuel cs d ht hd=>?_,fun fs off tot fuel cs xs h hl hx=>?_⟩
  ·simp only [Ty.has] at ht
   split at ht
   ·rename_i fs hu
    simp only [Bool.and_eq_true,beq_iff_eq] at ht
    cases fuel with
    | zero=>cases hd
    | succ fuel =>
     unfold DataW.trod at hd
     rw [hu] at hd
     dsimp only at hd
     ·split at hd
      ·rename_i hc
       have:cs=[]:=List.eq_nil_of_length_eq_zero (by rw [hc,ht.2])
       subst this
       exact ⟨(),trivial,.nil,Nat.zero_le _⟩
      ·cases hd
   ·cases ht
  ·simp only [Ty.has,Bool.and_eq_true,beq_iff_eq] at h
   refine ⟨(),trivial,?_,Nat.zero_le _⟩
   rw [List.drop_eq_nil_of_le (by omega)]
   exact .nil
 | cons a r iha ihr =>
  have step:∀ (f:Field) (fs:List Field) (off tot fuel:Nat) (cs:List Value) (xs:List (DataW H × List MemPlace)),f.offset=off→a.has P none f.type=true→r.has P (some (fs,off + P.cellsOf f.type,tot)) 0=true→cs.length=tot →
    (f::fs).mapM (fun f=>DataW.trod E₀ P w 0 sp held fuel f.type ((cs.drop f.offset).take (P.cellsOf f.type)))=some xs →
    ∃ x:(Ty.cons a r).T,(Ty.cons a r).WF x∧CR (stillR P w) ((Ty.cons a r).enc x) (cs.drop off)∧(Ty.cons a r).bulk x ≤ BA (xs.map (·.1)):=by
   intro f fs off tot fuel cs xs hf ha hr hl hx
   rw [List.mapM_cons] at hx
   cases hy:DataW.trod E₀ P w 0 sp held fuel f.type ((cs.drop f.offset).take (P.cellsOf f.type)) with
   | none=>rw [hy] at hx;cases hx
   | some y =>
    rw [hy] at hx
    cases hz:fs.mapM (fun f=>DataW.trod E₀ P w 0 sp held fuel f.type ((cs.drop f.offset).take (P.cellsOf f.type))) with
    | none=>rw [hz] at hx;cases hx
    | some ys =>
     rw [hz] at hx
     simp at hx
     subst hx
     obtain ⟨x1,a1,a2,a3⟩:=iha.1 f.type fuel _ y ha hy
     obtain ⟨x2,b1,b2,b3⟩:=ihr.2 fs (off + P.cellsOf f.type) tot fuel cs ys hr hl hz
     refine ⟨(x1,x2),⟨a1,b1⟩,?_,?_⟩
     ·have h3:=a2.append b2
      rw [hf] at h3
      have e:(cs.drop off).take (P.cellsOf f.type)++cs.drop (off + P.cellsOf f.type)=cs.drop off:=by
       rw [← List.drop_drop,List.take_append_drop]
      rw [e] at h3
      exact h3
     ·simp only [Ty.bulk]
      rw [List.map_cons,hB.cons]
      exact Nat.add_le_add a3 b3
  refine ⟨fun t fuel cs d ht hd=>?_,fun fs off tot fuel cs xs h hl hx=>?_⟩
  ·simp only [Ty.has] at ht
   split at ht
   ·rename_i fs hu
    split at ht
    ·rename_i f rest hfs
     simp only [Bool.and_eq_true,beq_iff_eq] at ht
     obtain ⟨⟨h1,h2⟩,h3⟩:=ht
     cases fuel with
     | zero=>cases hd
     | succ fuel =>
      unfold DataW.trod at hd
      rw [hu] at hd
      dsimp only at hd
      ·split at hd
       ·rename_i hc
        rw [Option.map_eq_some_iff] at hd
        obtain ⟨xs,hxs,rfl⟩:=hd
        rw [hfs] at hxs
        obtain ⟨x,g1,g2,g3⟩:=step f rest 0 (P.cellsOf t) fuel cs xs h1 h2 (by rw [Nat.zero_add];exact h3) hc hxs
        refine ⟨x,g1,by simpa using g2,?_⟩
        rw [hB.agg]
        exact Nat.le_succ_of_le g3
       ·cases hd
    ·cases ht
   ·cases ht
  ·simp only [Ty.has] at h
   split at h
   ·rename_i f fs
    simp only [Bool.and_eq_true,beq_iff_eq] at h
    obtain ⟨⟨h1,h2⟩,h3⟩:=h
    exact step f fs off tot fuel cs xs h1 h2 h3 hl hx
   ·cases h
end
end Go.Ab
end
section
namespace Go.Ab
open Go.WideShapes
def HF (P:Program) (f:FuncId) (args:Array Value) (h:AH) (Q:Value→AH→Prop):Prop:=∀ E w args',RW P E h w→RA E args args' →
 Calls P f args' w fun e w'=>∃ E' v v' h',e=.returned v'∧RW P E' h' w'∧Ext E w E' w'∧RV E' v v'∧Q v h'
theorem HF.mono {P:Program} {f:FuncId} {args:Array Value} {h:AH} {Q R:Value→AH→Prop} (a:HF P f args h Q) (hr:∀ v h',Q v h'→R v h'):HF P f args h R :=
 fun E w args' r ra=>(a E w args' r ra).mono fun e w' ⟨E',v,v',h',e1,e2,e3,e4,e5⟩=>⟨E',v,v',h',e1,e2,e3,e4,hr v h' e5⟩
theorem HF.of_call {P:Program} {call:CallF} (hc:CallOk P call) {f:FuncId} {args:Array Value} {h h':AH} {v:Value} {q:Bool} (hh:call f args h=some (v,q,h')):HF P f args h fun u g=>u=v∧g=h' :=
 fun E w args' r ra=>((hc f args h v q h' hh).2 E w args' r ra).mono fun e w' ⟨E',v',e1,e2,e3,e4⟩=>⟨E',v,v',h',e1,e2,e3,e4,rfl,rfl⟩
def AH.bare (P:Program):AH:=⟨.leaf,P.globals.size,[]⟩
theorem rw_bare {P:Program} {w:World} (hsz:P.globals.size ≤ w.heap.size):RW P (stillR P w) (AH.bare P) w where
 glob g hg:=by simp only [stillR];rw [if_pos hg]
 dom k n hk:=by
  simp only [stillR] at hk
  split at hk
  ·cases hk;exact ⟨by assumption,by omega⟩
  ·cases hk
 sdom k x hk:=by cases hk
 live k o s hk:=by simp [AH.bare,AH.get,T.get] at hk
 inj j k n _ _ gj _:=by simp [AH.bare,AH.get,T.get] at gj
 frz b c hb:=by
  simp only [stillR] at hb
  split at hb
  ·rename_i c' e fz hc
   cases hb
   exact ⟨c,e,fz,hc,Nat.le_refl _,fun _ _=>rfl⟩
  ·cases hb
 icy k o s n hk:=by simp [AH.bare,AH.get,T.get] at hk
 sep:=⟨fun _ _=>rfl,fun k n hk hn=>by
  simp only [stillR] at hk
  split at hk
  ·cases hk;rfl
  ·cases hk⟩
def varsB (P:Program):Bool:=(List.range P.globals.size).all fun g=>(((begin P (fun _ _=>0) default).world.heap[g]?).bind Obj.row?).isSome
theorem vars_rows {P:Program} {w:World} (hv:varsB P=true) (hs:w.ShapedOpen P):∀ g,g < P.globals.size→∃ c e,w.heap[g]?=some (.cells c e):=by
 intro g hg
 have h1:=List.all_eq_true.1 hv g (List.mem_range.2 hg)
 obtain ⟨x,hx⟩:=Option.isSome_iff_exists.1 h1
 obtain ⟨zero,t⟩:=x
 obtain ⟨cs,h2,_⟩:=hs.1 g zero t hg hx
 exact ⟨cs,t,h2⟩
theorem vars_size {P:Program} {w:World} (hv:∀ g,g < P.globals.size→∃ c e,w.heap[g]?=some (.cells c e)):P.globals.size ≤ w.heap.size:=by
 cases hn:P.globals.size with
 | zero=>exact Nat.zero_le _
 | succ n =>
  obtain ⟨c,e,h⟩:=hv n (by omega)
  have:=(Array.getElem?_eq_some_iff.1 h).1
  omega
theorem below_of_ext {P:Program} {w w':World} {E':Ren} (x:Ext (stillR P w) w E' w') (hv:∀ g,g < P.globals.size→∃ c e,w.heap[g]?=some (.cells c e)):RowKit.Below w.heap.size w w' where
 os:=x.os
 tape:=x.tape
 output:=x.output
 size:=x.size
 block k hk:=by
  by_cases hc:∃ c e fz,w.heap[k]?=some (.cells c e fz)
  ·obtain ⟨c,e,fz,hc⟩:=hc
   exact x.ice k (by simp [stillR,hc])
  ·refine x.frame k hk fun j hj=>?_
   simp only [stillR] at hj
   split at hj
   ·rename_i hlt
    cases hj
    obtain ⟨c,e,h⟩:=hv _ hlt
    exact hc ⟨c,e,_,h⟩
   ·cases hj
section
variable {H:Type} {E₀:TypeId × Value→H} {P:Program} {w:World} {sp:Nat→Bool} {held:Bool} {B:DataW H→Nat} {BA:List (DataW H)→Nat}
theorem open_arg (hB:Bulky B BA) (ty:Ty) {t:TypeId} {v:Value} {d:DataW H} {ps:List MemPlace} {r:Reach} {b0:Nat} (ht:ty.has P none t=true) (hval:Value.okWide P w r b0 t v) (hd:DataW.Trod E₀ P w 0 sp held t v d ps) :
  ∃ x:ty.T,ty.WF x∧RV (stillR P w) (ty.val x) v∧ty.bulk x ≤ B d:=by
 obtain ⟨fuel,hd⟩:=hd
 obtain ⟨x,h1,h2,h3⟩:=(open_ty (P:=P) (w:=w) (E₀:=E₀) (sp:=sp) (held:=held) hB ty).1 t fuel v.cells.toList (d,ps) ht hd
 refine ⟨x,h1,?_,h3⟩
 have aggc:(∃ cs,v=.agg cs)→RV (stillR P w) (.agg (ty.enc x).toArray) v:=by
  rintro ⟨cs,rfl⟩
  have:=h2.ra
  exact .agg this.1 this.2
 have onec:∀ u,ty.enc x=[u]→(∀ cs,v ≠ .agg cs)→RV (stillR P w) u v:=by
  intro u hu hn
  rw [hu] at h2
  have hc:v.cells.toList=[v]:=by cases v <;> first | rfl | exact absurd rfl (hn _)
  rw [hc] at h2
  cases h2 with
  | cons h _=>exact h
 cases ty with
 | int k =>
  simp only [Ty.has] at ht
  split at ht
  ·rename_i k' hu
   obtain ⟨n,rfl⟩:=okWide_int hu hval
   exact onec _ rfl fun cs e=>by cases e
  ·cases ht
 | bool =>
  simp only [Ty.has] at ht
  split at ht
  ·rename_i hu
   obtain ⟨n,rfl⟩:=okWide_bool hu hval
   exact onec _ rfl fun cs e=>by cases e
  ·cases ht
 | str =>
  simp only [Ty.has] at ht
  split at ht
  ·rename_i hu
   obtain ⟨n,rfl⟩:=okWide_string hu hval
   exact onec _ rfl fun cs e=>by cases e
  ·cases ht
 | slice e =>
  simp only [Ty.has] at ht
  split at ht
  ·rename_i e' hu
   obtain ⟨a,len,cap,rfl⟩:=okWide_slice hu hval
   cases x with
   | none=>exact onec _ rfl fun cs e=>by cases e
   | some l=>exact onec _ rfl fun cs e=>by cases e
  ·cases ht
 | arr n e =>
  simp only [Ty.has] at ht
  split at ht
  ·rename_i m e' hu
   unfold Value.okWide at hval
   rw [hu] at hval
   obtain ⟨cs,hc,_⟩:=hval
   exact aggc ⟨cs,hc⟩
  ·cases ht
 | nil =>
  simp only [Ty.has] at ht
  split at ht
  ·rename_i fs hu
   obtain ⟨cs,hc,_⟩:=okWide_struct hu hval
   exact aggc ⟨cs,hc⟩
  ·cases ht
 | cons a r =>
  simp only [Ty.has] at ht
  split at ht
  ·rename_i fs hu
   obtain ⟨cs,hc,_⟩:=okWide_struct hu hval
   exact aggc ⟨cs,hc⟩
  ·cases ht
end
end Go.Ab
end
