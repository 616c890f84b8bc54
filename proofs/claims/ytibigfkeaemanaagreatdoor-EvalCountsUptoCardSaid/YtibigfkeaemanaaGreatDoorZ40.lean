import Derived.Test.YtibigfkeaemanaaGreatDoorRows
import GoSem.ClaimJoined
import Derived.Test.YtibigfkeaemanaaGreatDoorZ8
import Derived.Test.YtibigfkeaemanaaGreatDoorZ39
set_option linter.unusedVariables false
set_option linter.unusedSimpArgs false
section
namespace Go.Ab
def laidL (f:DataW Unit→Option (List Value)) (s:Nat):List (DataW Unit)→Option (List Value)
 | []=>some []
 | d::ds=>match f d,laidL f s ds with
  | some v,some vs=>if v.length=s then some (v++vs) else none
  | _,_=>none
def laidF (P:Program) (f:TypeId→DataW Unit→Option (List Value)):Nat→List Field→List (DataW Unit)→Option (List Value)
 | _,[],[]=>some []
 | off,g::gs,d::ds=>if g.offset=off then match f g.type d with
  | some v=>if v.length=P.cellsOf g.type then match laidF P f (off + v.length) gs ds with
   | some vs=>some (v++vs)
   | none=>none
   else none
  | none=>none
  else none
 | _,_,_=>none
def laidC (P:Program):Nat→TypeId→DataW Unit→Option (List Value)
 | 0,_,_=>none
 | n + 1,t,d=>match P.underlying t with
  | some (.int _)=>match d with
   | .lit (.int k x)=>some [.int k x]
   | _=>none
  | some .bool=>match d with
   | .lit (.bool b)=>some [.bool b]
   | _=>none
  | some .string=>match d with
   | .lit (.string l)=>some [.string ⟨l.toArray⟩]
   | _=>none
  | some (.array m e)=>match d with
   | .agg ds=>if P.cellsOf t=m * P.cellsOf e then laidL (laidC P n e) (P.cellsOf e) ds else none
   | _=>none
  | some (.struct fs)=>match d with
   | .agg ds=>match laidF P (laidC P n) 0 fs.toList ds with
    | some vs=>if vs.length=P.cellsOf t then some vs else none
    | none=>none
   | _=>none
  | _=>none
theorem chunks_eq {α:Type} {s:Nat}:∀ {m:Nat} {a b:List α},a.length=m * s→b.length=m * s→(∀ i,i < m→(a.drop (i * s)).take s=(b.drop (i * s)).take s)→a=b:=by
 intro m
 induction m with
 | zero =>
  intro a b ha hb _
  have e1:a=[]:=List.eq_nil_of_length_eq_zero (by simpa using ha)
  have e2:b=[]:=List.eq_nil_of_length_eq_zero (by simpa using hb)
  rw [e1,e2]
 | succ m ih =>
  intro a b ha hb h
  have h0:=h 0 (by omega)
  simp only [Nat.zero_mul,List.drop_zero] at h0
  have e:a.drop s=b.drop s:=by
   refine ih (by rw [List.length_drop,ha,Nat.succ_mul];omega) (by rw [List.length_drop,hb,Nat.succ_mul];omega) fun i hi=>?_
   have:=h (i + 1) (by omega)
   rw [List.drop_drop,List.drop_drop]
   rw [show s + i * s=(i + 1) * s by rw [Nat.succ_mul];omega]
   exact this
  rw [← List.take_append_drop s a,← List.take_append_drop s b,h0,e]
theorem laidL_eq {f:DataW Unit→Option (List Value)} {s:Nat}:∀ {ds:List (DataW Unit)} {vs:List Value},laidL f s ds=some vs→vs.length=ds.length * s∧∀ (i:Nat) d,ds[i]?=some d→∃ v,f d=some v∧(vs.drop (i * s)).take s=v:=by
 intro ds
 induction ds with
 | nil=>intro vs h;cases h;exact ⟨by simp,fun i d hd=>by simp at hd⟩
 | cons d ds ih =>
  intro vs h
  simp only [laidL] at h
  split at h
  ·rename_i v ws hv hw
   split at h
   ·rename_i hl
    cases h
    obtain ⟨h1,h2⟩:=ih hw
    refine ⟨by rw [List.length_append,List.length_cons,Nat.succ_mul];omega,fun i x hx=>?_⟩
    cases i with
    | zero =>
     simp at hx;subst hx
     exact ⟨v,hv,by simp [← hl]⟩
    | succ i =>
     obtain ⟨u,g1,g2⟩:=h2 i x (by simpa using hx)
     refine ⟨u,g1,?_⟩
     rw [show (i + 1) * s=v.length + i * s by rw [hl,Nat.succ_mul];omega,← List.drop_drop,List.drop_left]
     exact g2
   ·cases h
  ·cases h
theorem laidF_eq {P:Program} {f:TypeId→DataW Unit→Option (List Value)} {cs:List Value} {g:Field→Option (DataW Unit × List MemPlace)} (hg:∀ x y v,g x=some y→f x.type y.1=some v→v.length=P.cellsOf x.type→(cs.drop x.offset).take (P.cellsOf x.type)=v) :
  ∀ {fs:List Field} {ds:List (DataW Unit)} {off:Nat} {vs:List Value} {xs:List (DataW Unit × List MemPlace)},laidF P f off fs ds=some vs→fs.mapM g=some xs→ds=xs.map (·.1)→(cs.drop off).take vs.length=vs:=by
 intro fs
 induction fs with
 | nil =>
  intro ds off vs xs h hm hd
  cases ds with
  | nil=>simp only [laidF] at h;cases h;rfl
  | cons=>simp only [laidF] at h;cases h
 | cons x fs ih =>
  intro ds off vs xs h hm hd
  cases ds with
  | nil=>simp only [laidF] at h;cases h
  | cons d ds =>
   simp only [laidF] at h
   split at h
   case isFalse=>cases h
   rename_i hoff
   split at h
   case h_2=>cases h
   rename_i v hv
   split at h
   case isFalse=>cases h
   rename_i hl
   split at h
   case h_2=>cases h
   rename_i ws hw
   cases h
   rw [List.mapM_cons] at hm
   simp only [Option.bind_eq_bind,Option.bind_eq_some_iff,Option.pure_def,Option.some.injEq] at hm
   obtain ⟨y,hy,ys,hys,rfl⟩:=hm
   simp only [List.map_cons,List.cons.injEq] at hd
   obtain ⟨rfl,rfl⟩:=hd
   have h1:=hg x y v hy hv hl
   have h2:=ih hw hys rfl
   rw [hoff,← hl] at h1
   rw [List.length_append,List.take_add,h1,List.drop_drop]
   rw [h2]
theorem laidC_eq {P:Program} {w:World} {base:Nat} {sp:Nat→Bool} {held:Bool}:∀ (n:Nat) {fuel:Nat} {t:TypeId} {cs vs:List Value} {d:DataW Unit} {p:List MemPlace},
  laidC P n t d=some vs→DataW.trod (fun _=>()) P w base sp held fuel t cs=some (d,p)→cs=vs:=by
 intro n
 induction n with
 | zero=>intro fuel t cs vs d p h;cases h
 | succ n ih =>
  intro fuel t cs vs d p h ht
  cases fuel with
  | zero=>cases ht
  | succ fuel =>
   unfold laidC at h
   unfold DataW.trod at ht
   split at h
   ·rename_i k hu
    rw [hu] at ht
    simp only at ht
    split at ht <;> first
     | (cases ht;done)
     | skip
    ·rename_i e;cases e
    ·rename_i k1 k2 m e
     cases e
     split at ht
     ·rename_i hk
      cases ht
      simp only at h
      cases h
      rw [hk.1]
     ·cases ht
    all_goals (rename_i e;cases e)
   ·rename_i hu
    rw [hu] at ht
    simp only at ht
    split at ht <;> first
     | (cases ht;done)
     | skip
    ·cases ht;simp only at h;cases h;rfl
    all_goals (rename_i e;cases e)
   ·rename_i hu
    rw [hu] at ht
    simp only at ht
    split at ht <;> first
     | (cases ht;done)
     | skip
    all_goals first
     | (rename_i e;cases e;done)
     | skip
    split at ht
    ·cases ht
     simp only at h
     cases h
     rfl
    ·cases ht
   ·rename_i m e hu
    rw [hu] at ht
    simp only at ht
    split at ht
    ·rename_i hlen
     rw [Option.map_eq_some_iff] at ht
     obtain ⟨xs,hx,hxe⟩:=ht
     cases hxe
     simp only at h
     split at h
     case isFalse=>cases h
     rename_i hcells
     obtain ⟨h1,h2⟩:=laidL_eq h
     obtain ⟨g1,g2⟩:=mapM_get hx
     rw [List.length_range] at g1
     refine chunks_eq (m:=m) (s:=P.cellsOf e) (by rw [hlen,hcells]) (by rw [h1,List.length_map,← g1]) fun i hi=>?_
     obtain ⟨y,k1,k2⟩:=g2 i i (by rw [List.getElem?_range hi])
     obtain ⟨v,k3,k4⟩:=h2 i y.1 (by rw [List.getElem?_map,k2];rfl)
     rw [ih k3 k1,k4]
    ·cases ht
   ·rename_i fs hu
    rw [hu] at ht
    simp only at ht
    split at ht
    ·rename_i hlen
     rw [Option.map_eq_some_iff] at ht
     obtain ⟨xs,hx,hxe⟩:=ht
     cases hxe
     simp only at h
     split at h
     case h_2=>cases h
     rename_i ws hw
     split at h
     case isFalse=>cases h
     rename_i hl
     cases h
     have:=laidF_eq (cs:=cs) (fun x y v hy hv _=>ih hv hy) hw hx rfl
     rw [List.drop_zero,hl,← hlen,List.take_length] at this
     exact this
    ·cases ht
   ·cases h
def rowT (P:Program) (g:Nat):Option TypeId:=(((begin P (fun _ _=>0) default).world.heap[g]?).bind Obj.row?).map (·.2)
def laid1 (P:Program) (x:String × DataW Unit):Option (Nat × Array Value × TypeId):=match P.globalNamed x.1 with
 | some g=>match (P.globals[g]?).map (·.type) with
  | some t=>match laidC P 20 t x.2,rowT P g with
   | some vs,some e=>if vs.all plain then some (g,vs.toArray,e) else none
   | _,_=>none
  | none=>none
 | none=>none
def laidT (P:Program):List (String × DataW Unit)→T (Obj × Option Nat)
 | []=>.leaf
 | x::l=>match laid1 P x with
  | some (g,c,e)=>(laidT P l).put (g + 1) (g + 1) (some (.cells c e (0,1),none))
  | none=>laidT P l
def AH.laid (P:Program) (l:List (String × DataW Unit)):AH:=⟨laidT P l,P.globals.size,[]⟩
theorem laidT_get {P:Program} {w:World} (hv:∀ g e,rowT P g=some e→g < P.globals.size→∃ c,w.heap[g]?=some (.cells c e)):∀ {l:List (String × DataW Unit)} {ps:List MemPlace},DataW.LaidVars P w l ps →
  ∀ k o s,(laidT P l).get (k + 1)=some (o,s)→s=none∧k < P.globals.size∧∃ c e fz,o=.cells c e (0,1)∧w.heap[k]?=some (.cells c e fz)∧∀ v ∈ c.toList,plain v=true:=by
 intro l
 induction l with
 | nil=>intro ps _ k o s h;simp [laidT,T.get] at h
 | cons x l ih =>
  intro ps hl k o s h
  obtain ⟨n,d⟩:=x
  obtain ⟨g,t,cs,fuel,p,q,h1,h2,h3,h4,h5,_⟩:=hl
  simp only [laidT] at h
  split at h
  ·rename_i g' c e he
   rw [T.get_put _ _ _ _ _ (by omega) (Nat.le_refl _) (by omega)] at h
   split at h
   ·rename_i hk
    have hk':k=g':=by omega
    subst hk'
    cases h
    unfold laid1 at he
    rw [h1] at he
    simp only [h2] at he
    split at he
    case h_2=>cases he
    rename_i vs e' hvs hrow
    split at he
    case isFalse=>cases he
    rename_i hpl
    cases he
    have hlt:k < P.globals.size:=by
     cases hg:P.globals[k]? with
     | none=>rw [hg] at h2;cases h2
     | some _=>exact (Array.getElem?_eq_some_iff.1 hg).1
    obtain ⟨c',hc'⟩:=hv k e hrow hlt
    unfold World.var? at h3
    rw [h1] at h3
    simp only [Option.bind_some,hc'] at h3
    cases h3
    have:=laidC_eq 20 hvs h4
    refine ⟨rfl,hlt,vs.toArray,e,(0,0),rfl,?_,fun v hv=>List.all_eq_true.1 hpl v (by simpa using hv)⟩
    rw [hc',← this]
   ·exact ih h5 k o s h
  ·exact ih h5 k o s h
theorem rw_known {P:Program} {w:World} (hsz:P.globals.size ≤ w.heap.size) {h:AH} (hs:h.size=P.globals.size) (hget:∀ k o s,h.get k=some (o,s)→s=none∧k < P.globals.size∧∃ c e fz c',o=.cells c e (0,1) ∧
  w.heap[k]?=some (.cells c' e fz)∧c.size=c'.size∧(∀ (i:Nat) v,c[i]?=some v→c'[i]?=some v)∧∀ v ∈ c.toList,plain v=true):RW P (stillR P w) h w:=by
 have b:=rw_bare (P:=P) hsz
 refine ⟨b.glob,fun k n hk=>by rw [hs];exact b.dom k n hk,b.sdom,fun k o s hk=>?_,fun j k n hj hk gj gk=>?_,b.frz,fun k o s n hk hn hf=>?_,b.sep⟩
 ·obtain ⟨rfl,hlt,c,e,fz,c',rfl,hw,hle,hcc,hp⟩:=hget k o s hk
  refine ⟨k,_,b.glob k hlt,hw,.ice (Nat.le_of_eq hle) (fun _=>hle) fun i v v' h1 h2=>?_,rfl⟩
  rw [hcc i v h1] at h2
  cases h2
  exact RV.of_plain (hp v (List.mem_of_getElem? (by rw [Array.getElem?_toList];exact h1)))
 ·have hlj:=(b.dom j n hj).1
  have hlk:=(b.dom k n hk).1
  have e1:=b.glob j hlj
  have e2:=b.glob k hlk
  rw [hj] at e1;rw [hk] at e2
  cases e1;cases e2;rfl
 ·obtain ⟨rfl,_,c,e,fz,c',rfl,_⟩:=hget k o s hk
  rfl
theorem laid_get {P:Program} {w:World} {l:List (String × DataW Unit)} (hv:varsB P=true) (hs:w.ShapedOpen P) (hh:(l.filter fun x=>x.2.handleName?.isSome).isEmpty=true) (hl:laidMetH P l w) :
  ∀ k o s,(AH.laid P l).get k=some (o,s)→s=none∧k < P.globals.size∧∃ c e fz,o=.cells c e (0,1)∧w.heap[k]?=some (.cells c e fz)∧∀ v ∈ c.toList,plain v=true:=by
 unfold laidMetH at hl
 rw [List.isEmpty_iff] at hh
 rw [hh] at hl
 obtain ⟨ps,hl,_⟩:=hl
 exact laidT_get (P:=P) (w:=w) (fun g e he hg=>by
  have h1:=List.all_eq_true.1 hv g (List.mem_range.2 hg)
  unfold rowT at he
  rw [Option.map_eq_some_iff] at he
  obtain ⟨⟨zero,t⟩,hx,rfl⟩:=he
  obtain ⟨cs,h2,_⟩:=hs.1 g zero t hg hx
  exact ⟨cs,h2⟩) hl
def rowT1 (P:Program) (g:Nat):Option TypeId:=(((begin P (fun _ _=>0) default).world.heap[g]?).bind Obj.row?).bind fun x=>if x.1.size=1 then some x.2 else none
def AH.laidM (P:Program) (l:List (String × DataW Unit)) (g:Nat) (e:TypeId) (m:Int):AH:=(AH.laid P l).put g (some (.cells #[.int .i64 m] e (0,1),none))
theorem rw_laidM {P:Program} {w:World} {l:List (String × DataW Unit)} (hv:varsB P=true) (hs:w.ShapedOpen P) (hh:(l.filter fun x=>x.2.handleName?.isSome).isEmpty=true) (hl:laidMetH P l w) {g:Nat} {e:TypeId} {m:Int}
  (hg:g < P.globals.size) (he:rowT1 P g=some e) (hm:w.cell? ⟨g,0,none⟩=some (.int .i64 m)):RW P (stillR P w) (AH.laidM P l g e m) w :=
 rw_known (vars_size (vars_rows hv hs)) rfl fun k o s hk=>by
  unfold AH.laidM at hk
  rw [AH.get_put] at hk
  split at hk
  ·rename_i e1;subst e1;cases hk
   have h1:=List.all_eq_true.1 hv k (List.mem_range.2 hg)
   unfold rowT1 at he
   rw [Option.bind_eq_some_iff] at he
   obtain ⟨⟨zero,t⟩,hx,he⟩:=he
   split at he
   case isFalse=>cases he
   rename_i hz1
   cases he
   obtain ⟨cs,h2,hsz,_⟩:=hs.1 k zero t hg hx
   have h3:cs[0]?=some (.int .i64 m):=by simpa [World.cell?,h2] using hm
   refine ⟨rfl,hg,#[.int .i64 m],t,_,cs,rfl,h2,?_,fun i v hi=>?_,fun v hv=>?_⟩
   ·have:zero.size=1:=hz1;simp;omega
   ·cases i with
    | zero=>simp at hi;rw [← hi];exact h3
    | succ i=>simp at hi
   ·simp at hv;subst hv;rfl
  ·obtain ⟨h1,h2,c,e,fz,h3,h4,h5⟩:=laid_get hv hs hh hl k o s hk
   exact ⟨h1,h2,c,e,fz,c,h3,h4,rfl,fun _ _ h=>h,h5⟩
end Go.Ab
end
section
namespace Go.Proofs.YtibigfkeaemanaaGreatDoor.L
open Go.Ab Go.Lang Go.Proofs.YtibigfkeaemanaaGreatDoor.X
set_option maxRecDepth 100000
noncomputable def heap0 (l:List (String × DataW Unit)) (m:Int):AH:=AH.laidM Tryz.prog l 1 3 m
theorem heap0_rw {W:World} {l:List (String × DataW Unit)} (hl:laidMetH Tryz.prog l W) (hs:W.ShapedOpen Tryz.prog) (hh:(l.filter fun x=>x.2.handleName?.isSome).isEmpty=true):∃ m,RW Tryz.prog (stillR Tryz.prog W) (heap0 l m) W:=by
 obtain ⟨m,hm⟩:=Tryz.laysM219.s1_3 W hs
 exact ⟨m,rw_laidM (by kernel_rfl) hs hh hl (of_decide_eq_true (by kernel_rfl)) (by kernel_rfl) hm⟩
end Go.Proofs.YtibigfkeaemanaaGreatDoor.L
end
section
namespace Go.Proofs.YtibigfkeaemanaaGreatDoor.L
open Go.Ab Go.Lang Go.Proofs.YtibigfkeaemanaaGreatDoor.X
set_option maxRecDepth 100000
def cnt (x:ByteArray) (l:List ByteArray):Nat:=(l.filter fun w=>eqT w x).length
theorem cnt_snoc (x w:ByteArray) (l:List ByteArray):cnt x (l++[w])=cnt x l + if eqT w x then 1 else 0:=by
 unfold cnt
 rw [List.filter_append,List.length_append]
 cases h:eqT w x <;> simp [List.filter,h]
theorem cnt_le (x:ByteArray) (l:List ByteArray):cnt x l ≤ l.length:=List.length_filter_le ..
def wl (l:List ByteArray):List (List UInt8):=l.map fun w=>w.data.toList
theorem wl_snoc (l:List ByteArray) (w:ByteArray):wl (l++[w])=wl l++[w.data.toList]:=by unfold wl;simp
theorem join_snoc (l:List ByteArray) (w:ByteArray):(⟨(joinW (wl (l++[w]))).toArray⟩:ByteArray)=if l=[] then w else (⟨(joinW (wl l)).toArray⟩:ByteArray)++⟨#[32]⟩++w:=by
 rw [wl_snoc]
 by_cases h:l=[]
 ·subst h
  rw [if_pos rfl]
  exact ext_all w
 ·rw [if_neg h,joinW_snoc _ _ (by unfold wl;cases l with | nil=>exact absurd rfl h | cons a l=>simp)]
  refine ByteArray.ext (Array.ext' ?_)
  simp
theorem join_size:∀ (l:List ByteArray) (m:Nat),(∀ w ∈ l,w.size ≤ m)→(joinW (wl l)).length ≤ l.length * (m + 1)
 | [],m,_=>by simp [wl,joinW]
 | [w],m,h=>by
  have:=h w (by simp)
  show w.data.toList.length ≤ _
  rw [dlen]
  simp;omega
 | w::x::l,m,h=>by
  have h1:=h w (by simp)
  have h2:=join_size (x::l) m fun y hy=>h y (List.mem_cons_of_mem _ hy)
  show (w.data.toList++32::joinW (wl (x::l))).length ≤ _
  rw [List.length_append,List.length_cons,dlen,List.length_cons (a:=w),Nat.add_mul]
  omega
theorem word_end {h:AH} {ws:List ByteArray} (hm:∀ w ∈ ws,w.size ≤ 281474976710656) {other:ByteArray} {q:Nat} {sv:Value} (hs:sv=VSl (strL ws)) {i:Nat} {w:ByteArray} (hw:ws[i]?=some w) (hi:i < 256) {Q:RQ} {x:ByteArray}
  (hx:x=if i=0 then (⟨#[]⟩:ByteArray) else (⟨(joinW (wl (ws.take i))).toArray⟩:ByteArray)++⟨#[32]⟩)
  (next:H4_7 sv (.string other) (.pointer (some ⟨q,0,none⟩)) (.string ⟨(joinW (wl (ws.take (i + 1)))).toArray⟩) (.int .i64 (cnt other (ws.take (i + 1)):Nat)) (.int .i64 (i + 1:Nat)) h Q) :
  K4_16 sv (.string other) (.pointer (some ⟨q,0,none⟩)) (.string x) (.int .i64 (cnt other (ws.take i):Nat)) (.int .i64 i) h Q:=by
 refine X4_16_ok ?_
 unfold X4_16
 subst hs
 have hlt:=(List.getElem?_eq_some_iff.1 hw).1
 have etk:ws.take (i + 1)=ws.take i++[w]:=by rw [List.take_add_one,hw];rfl
 have hwm:=hm w (List.mem_of_getElem? hw)
 have hj:=join_size (ws.take i) 281474976710656 fun y hy=>hm y (List.mem_of_mem_take hy)
 have hl:(ws.take i).length=i:=by rw [List.length_take];omega
 rw [hl] at hj
 have hj2:(joinW (wl (ws.take i))).length ≤ 256 * 281474976710657:=Nat.le_trans hj (Nat.mul_le_mul_right _ (by omega))
 have hxs:x.size ≤ 72057594037928193:=by
  rw [hx]
  split
  ·exact Nat.zero_le _
  ·rw [ByteArray.size_append]
   have e1:=mk_sz (l:=joinW (wl (ws.take i)))
   have e2:(ByteArray.mk #[32]).size=1:=rfl
   omega
 have hcat:x++w=⟨(joinW (wl (ws.take (i + 1)))).toArray⟩:=by
  rw [etk,join_snoc,hx]
  by_cases h0:i=0
  ·subst h0
   rw [if_pos rfl,if_pos (by simp)]
   refine ByteArray.ext (Array.ext' ?_)
   simp
  ·rw [if_neg h0,if_neg (by intro e;rw [e] at hl;simp at hl;omega)]
 have hcn:=cnt_le other (ws.take i)
 have hc1:=cnt_snoc other w (ws.take i)
 rw [← etk] at hc1
 have e8:∀ (sx:Value) (n:Value),H4_7 (VSl (strL ws)) (.string other) (.pointer (some ⟨q,0,none⟩)) sx n (.int .i64 (i + 1:Nat)) h Q→K4_8 (VSl (strL ws)) (.string other) (.pointer (some ⟨q,0,none⟩)) sx n (.int .i64 i) h Q:=fun sx n hh=>by
  refine X4_8_ok ?_
  unfold X4_8
  simp (disch:=(first | exact dz | fail)) only [SXB,SX,reduceIte,Int.reduceLT,Int.reduceLE,Int.reduceToNat,Int.reduceBEq,Int.reduceBNe,Nat.reduceAdd,Nat.reduceMul,Nat.reduceSub,Nat.reduceLeDiff]
  exact hh
 have hbin:(w.toList == other.toList)=eqT w other:=rfl
 simp (disch:=(first | exact dz | fail)) only [ia_str hw,bin_add_9 (show x.size + w.size ≤ 9223372036854775807 by omega),hbin,SXB,SX,reduceIte,Int.reduceLT,Int.reduceLE,Int.reduceToNat,Int.reduceBEq,Int.reduceBNe,Nat.reduceAdd,Nat.reduceMul,Nat.reduceSub,Nat.reduceLeDiff]
 rw [hcat]
 rw [hc1] at next
 cases heq:eqT w other with
 | true =>
  rw [heq] at next
  simp (disch:=(first | exact dz | fail)) only [SXB,SX,reduceIte,Int.reduceLT,Int.reduceLE,Int.reduceToNat,Int.reduceBEq,Int.reduceBNe,Nat.reduceAdd,Nat.reduceMul,Nat.reduceSub,Nat.reduceLeDiff]
  exact e8 _ _ next
 | false =>
  rw [heq] at next
  simp (disch:=(first | exact dz | fail)) only [SXB,SX,reduceIte,Int.reduceLT,Int.reduceLE,Int.reduceToNat,Int.reduceBEq,Int.reduceBNe,Nat.reduceAdd,Nat.reduceMul,Nat.reduceSub,Nat.reduceLeDiff]
  exact e8 _ _ next
end Go.Proofs.YtibigfkeaemanaaGreatDoor.L
end
section
namespace Go.Proofs.YtibigfkeaemanaaGreatDoor.L
open Go.Ab Go.Lang Go.Proofs.YtibigfkeaemanaaGreatDoor.X
set_option maxRecDepth 100000
theorem letter_loop {h:AH} {ws:List ByteArray} (hm:∀ w ∈ ws,w.size ≤ 281474976710656) {other:ByteArray} {q:Nat} {i:Nat} {w:ByteArray} (hw:ws[i]?=some w) (hi:i < 256) {Q:RQ} (hq:Q (.ret (.bool true)) h)
  (next:32 ∉ w.data.toList→H4_7 (VSl (strL ws)) (.string other) (.pointer (some ⟨q,0,none⟩)) (.string ⟨(joinW (wl (ws.take (i + 1)))).toArray⟩) (.int .i64 (cnt other (ws.take (i + 1)):Nat)) (.int .i64 (i + 1:Nat)) h Q) :
  ∀ (r:List UInt8) (k:Nat),w.data.toList.drop k=r→k ≤ w.size→32 ∉ w.data.toList.take k →
  H4_10 (VSl (strL ws)) (.string other) (.pointer (some ⟨q,0,none⟩)) (.string ⟨(joinW (wl (ws.take i))).toArray⟩) (.int .i64 (cnt other (ws.take i):Nat)) (.int .i64 i) (.int .i64 k) h Q:=by
 have hwm:=hm w (List.mem_of_getElem? hw)
 have hdl:=dlen (s:=w)
 intro r
 induction r with
 | nil =>
  intro k hd hk hn
  have:=drop_nil hd
  have hk':k=w.size:=by omega
  subst hk'
  rw [← hdl,List.take_of_length_le (Nat.le_refl _)] at hn
  refine X4_10_ok ?_
  unfold X4_10
  have e:¬ ((w.size:Int) < (w.size:Int)):=by omega
  have hj:=join_size (ws.take i) 281474976710656 fun y hy=>hm y (List.mem_of_mem_take hy)
  have hl:(ws.take i).length ≤ 256:=by rw [List.length_take];omega
  have hj2:(joinW (wl (ws.take i))).length ≤ 256 * 281474976710657:=Nat.le_trans hj (Nat.mul_le_mul_right _ hl)
  have hsz:=mk_sz (l:=joinW (wl (ws.take i)))
  have e2:(ByteArray.mk #[32]).size=1:=rfl
  by_cases h0:i=0
  ·have e1:¬ ((i:Int) > 0):=by omega
   simp (disch:=(first | exact dz | fail)) only [ia_str hw,e,e1,SXB,SX,reduceIte,Int.reduceLT,Int.reduceLE,Int.reduceToNat,Int.reduceBEq,Int.reduceBNe,Nat.reduceAdd,Nat.reduceMul,Nat.reduceSub,Nat.reduceLeDiff]
   refine word_end hm rfl hw hi ?_ (next hn)
   subst h0
   rw [if_pos rfl]
   rfl
  ·have e1:(i:Int) > 0:=by omega
   have hcs:(ByteArray.mk (joinW (wl (ws.take i))).toArray).size + (ByteArray.mk #[32]).size ≤ 9223372036854775807:=by omega
   have hca:=fun (x y:Operand)=>bin_add_9 (x:=x) (y:=y) (h:=h) hcs
   simp (disch:=(first | exact dz | fail)) only [ia_str hw,e,e1,hca,SXB,SX,reduceIte,Int.reduceLT,Int.reduceLE,Int.reduceToNat,Int.reduceBEq,Int.reduceBNe,Nat.reduceAdd,Nat.reduceMul,Nat.reduceSub,Nat.reduceLeDiff]
   refine word_end hm rfl hw hi ?_ (next hn)
   rw [if_neg h0]
 | cons c r ih =>
  intro k hd hk hn
  obtain ⟨h1,h2,h3⟩:=drop_cons hd
  refine X4_10_ok ?_
  unfold X4_10
  have e:(k:Int) < (w.size:Int):=by omega
  have e0:ixS (.string w) (.int .i64 k)=some (.int .u8 c.toNat):=ixS_at rfl h1
  by_cases hc:c=32
  ·subst hc
   have e2:((((32:UInt8).toNat:Nat):Int) == 32)=true:=rfl
   simp (disch:=(first | exact dz | fail)) only [ia_str hw,e,e0,e2,SXB,SX,reduceIte,Int.reduceLT,Int.reduceLE,Int.reduceToNat,Int.reduceBEq,Int.reduceBNe,Nat.reduceAdd,Nat.reduceMul,Nat.reduceSub,Nat.reduceLeDiff]
   exact hq
  ·have e2:(((c.toNat:Nat):Int) == 32)=false:=by
    rw [beq_eq_false_iff_ne]
    intro he
    apply hc
    have:c.toNat=(32:UInt8).toNat:=by show c.toNat=32;omega
    exact UInt8.toNat_inj.1 this
   simp (disch:=(first | exact dz | fail)) only [ia_str hw,e,e0,e2,SXB,SX,reduceIte,Int.reduceLT,Int.reduceLE,Int.reduceToNat,Int.reduceBEq,Int.reduceBNe,Nat.reduceAdd,Nat.reduceMul,Nat.reduceSub,Nat.reduceLeDiff]
   refine ih (k + 1) h2 (by omega) ?_
   rw [List.take_add_one,h1]
   simp only [Option.toList_some,List.mem_append,List.mem_singleton,not_or]
   exact ⟨hn,fun he=>hc he.symm⟩
theorem cnt_words {h:AH} {ws:List ByteArray} (hm:∀ w ∈ ws,w.size ≤ 281474976710656) {other:ByteArray} {q:Nat} {Q:RQ} (hq:Q (.ret (.bool true)) h)
  (fin:(∀ w ∈ ws.take 256,32 ∉ w.data.toList)→ws ≠ []→HC Tryz.prog 8 [.pointer (some ⟨q,0,none⟩),.string ⟨#[48]⟩,.string ⟨(joinW (wl (ws.take 256))).toArray⟩].toArray h
   (resK (fun t70 h=>H4_24 (VSl (strL ws)) (.string other) (.pointer (some ⟨q,0,none⟩)) (.int .i64 (cnt other (ws.take 256):Nat)) t70 (.slice none 0 0) (.int .i64 0) h Q) fun v h=>Q (.pan v) h)) :
  ∀ (n i:Nat),i + n=min ws.length 256→(∀ w ∈ ws.take i,32 ∉ w.data.toList) →
  H4_7 (VSl (strL ws)) (.string other) (.pointer (some ⟨q,0,none⟩)) (.string ⟨(joinW (wl (ws.take i))).toArray⟩) (.int .i64 (cnt other (ws.take i):Nat)) (.int .i64 i) h Q:=by
 have elen:lenL (VSl (strL ws))=some (.int .i64 (ws.length:Nat)):=by rw [lenL_vs];unfold strL;rw [List.length_map]
 intro n
 induction n with
 | zero =>
  intro i hi hn
  have etk:ws.take i=ws.take 256:=by
   by_cases hl:ws.length ≤ 256
   ·rw [List.take_of_length_le hl,List.take_of_length_le (by omega)]
   ·rw [show i=256 by omega]
  rw [etk] at hn ⊢
  refine X4_7_ok ?_
  unfold X4_7
  have tail:condP (some (.bool (((ws.length:Nat):Int) == 0))) (Q (.ret (.bool true)) h) (HC Tryz.prog 8 [.pointer (some ⟨q,0,none⟩),.string ⟨#[48]⟩,.string ⟨(joinW (wl (ws.take 256))).toArray⟩].toArray h
   (resK (fun t70 h=>H4_24 (VSl (strL ws)) (.string other) (.pointer (some ⟨q,0,none⟩)) (.int .i64 (cnt other (ws.take 256):Nat)) t70 (.slice none 0 0) (.int .i64 0) h Q) fun v h=>Q (.pan v) h)):=by
   by_cases h0:ws=[]
   ·subst h0
    exact hq
   ·have e0:(((ws.length:Nat):Int) == 0)=false:=by
     rw [beq_eq_false_iff_ne]
     intro he
     exact h0 (List.eq_nil_of_length_eq_zero (by omega))
    rw [e0,condP_false]
    exact fin hn h0
  by_cases hl:i < ws.length
  ·have e1:(i:Int) < (ws.length:Nat):=by omega
   have e2:¬ ((i:Int) < 256):=by omega
   simp (disch:=(first | exact dz | fail)) only [elen,e1,e2,SXB,SX,reduceIte,Int.reduceLT,Int.reduceLE,Int.reduceToNat,Int.reduceBEq,Int.reduceBNe,Nat.reduceAdd,Nat.reduceMul,Nat.reduceSub,Nat.reduceLeDiff]
   exact tail
  ·have e1:¬ ((i:Int) < (ws.length:Nat)):=by omega
   simp (disch:=(first | exact dz | fail)) only [elen,e1,SXB,SX,reduceIte,Int.reduceLT,Int.reduceLE,Int.reduceToNat,Int.reduceBEq,Int.reduceBNe,Nat.reduceAdd,Nat.reduceMul,Nat.reduceSub,Nat.reduceLeDiff]
   exact tail
 | succ n ih =>
  intro i hi hn
  refine X4_7_ok ?_
  unfold X4_7
  have e1:(i:Int) < (ws.length:Nat):=by omega
  have e2:(i:Int) < 256:=by omega
  obtain ⟨w,hw⟩:∃ w,ws[i]?=some w:=⟨ws[i]'(by omega),List.getElem?_eq_getElem _⟩
  simp (disch:=(first | exact dz | fail)) only [elen,e1,e2,SXB,SX,reduceIte,Int.reduceLT,Int.reduceLE,Int.reduceToNat,Int.reduceBEq,Int.reduceBNe,Nat.reduceAdd,Nat.reduceMul,Nat.reduceSub,Nat.reduceLeDiff]
  refine letter_loop hm hw (by omega) hq (fun hb=>ih (i + 1) (by omega) fun y hy=>?_) w.data.toList 0 rfl (Nat.zero_le _) (by simp)
  rw [List.take_add_one,hw] at hy
  rcases List.mem_append.1 hy with h1 | h1
  ·exact hn y h1
  ·simp at h1
   rw [h1];exact hb
end Go.Proofs.YtibigfkeaemanaaGreatDoor.L
end
section
namespace Go.Proofs.YtibigfkeaemanaaGreatDoor.L
open Go.Ab Go.Lang Go.Proofs.YtibigfkeaemanaaGreatDoor.X
set_option maxRecDepth 100000
theorem cnt_end {h1:AH} (G1:Gl h1) {ws:List ByteArray} {other:ByteArray} (ho:other.size ≤ 281474976710656) {q:Nat} {so:Option Nat} (gq:h1.get q=some (.cells (celP progCounts).toArray 66 (0,0),so)) {k1 cap1:Nat} {s:Value} (S:Gs 9 1 h1 s (strL (List.replicate (cnt other (ws.take 256)) one1)))
  (hq:q < h1.size) (hqs:∀ k,blkOf s=some k→k ≠ q∧10 ≤ k) {x:Value} (hx:x=.int .i64 (ws.take 256).length) :
  H4_24 (VSl (strL ws)) (.string other) (.pointer (some ⟨q,0,none⟩)) (.int .i64 (cnt other (ws.take 256):Nat)) (.slice (some ⟨k1,0,none⟩) (ws.take 256).length cap1) s x h1 fun r _=>∃ v,r=.ret v∧v=.bool true:=by
 refine X4_24_ok ?_
 unfold X4_24
 subst hx
 have en:¬ (((ws.take 256).length:Int) < ((ws.take 256).length:Int)):=by omega
 obtain ⟨w1,w2,w3,w4,w5,w6⟩:=counts_okB
 have hcn:cnt other (ws.take 256) ≤ 256:=Nat.le_trans (cnt_le _ _) (by rw [List.length_take];omega)
 generalize hc:cnt other (ws.take 256)=c at S hcn ⊢
 have slen:=S.len
 have slen2:(strL (List.replicate c one1)).length=c:=by unfold strL;simp
 rw [slen2] at slen
 have elen:lenL (VSl (strL ws))=some (.int .i64 (ws.length:Nat)):=by rw [lenL_vs];unfold strL;rw [List.length_map]
 simp (disch:=(first | exact dz | fail)) only [en,SXB,SX,reduceIte,Int.reduceLT,Int.reduceLE,Int.reduceToNat,Int.reduceBEq,Int.reduceBNe,Nat.reduceAdd,Nat.reduceMul,Nat.reduceSub,Nat.reduceLeDiff]
 obtain ⟨h4,s',gu,gf,gsz,sl⟩:=gsTurn (P:=Tryz.prog) S (by omega) (strL_size _)
 refine HC.gh (pre:=[.pointer (some ⟨q,0,none⟩),.string other]) (post:=[]) (Gh.turn gu .here) ?_
 have gq4:=(gf q fun e=>(hqs q e).1 rfl).trans gq
 have T4:Tab h4:=by
  obtain ⟨⟨e1,fz,s1,q1⟩,⟨m,e2,fz2,s2,q2⟩,q3⟩:=G1.t
  exact ⟨⟨e1,fz,s1,(gf _ fun e=>by have:=(hqs _ e).2;omega).trans q1⟩,⟨m,e2,fz2,s2,(gf _ fun e=>by have:=(hqs _ e).2;omega).trans q2⟩,by rw [gsz];exact q3⟩
 have hone:one1.size=1:=rfl
 refine HC.mono (evreduce_ok (M:=72057594037927936) (p:=progCounts) (by omega) (by omega) w3 (.inr w4) (by omega) T4 gq4 (key:=other) (by omega) (l:=List.replicate c one1) sl (fun y hy=>by rw [List.eq_of_mem_replicate hy,hone];omega) (by simp;omega)) fun r h5 hp=>?_
 obtain ⟨ov2,rfl,K5,O5,b5⟩:=hp
 rw [counts_sum c (by omega)] at O5
 obtain ⟨k2,c2,cap2,sp2,rfl,r2,f2⟩:=out_row O5 (by simp)
 obtain ⟨_,_,l2⟩:=f2 0 _ _ rfl
 simp only [resK_ret]
 have emin:min ((ws.length:Nat):Int) 256=(((ws.take 256).length:Nat):Int):=by rw [List.length_take];omega
 have e1:((((ws.take 256).length:Nat):Int) == (((ws.take 256).length:Nat):Int))=true:=beq_self_eq_true _
 have e2:(((c:Nat):Int) == ((c:Nat):Int))=true:=beq_self_eq_true _
 have e3:(((1:Nat):Int) == 1)=true:=rfl
 have e4:(0:Int) < ((1:Nat):Int):=by omega
 have bs:∀ x:ByteArray,(x.toList == x.toList)=true:=fun x=>beq_self_eq_true _
 generalize hl2:ldN 2=ll at l2
 have esl:(strL ws).length=ws.length:=by unfold strL;simp
 simp (disch:=(first | exact dz | fail)) only [esl,min_ite,emin,e1,slen,e2,e3,e4,l2,SXB,SX,reduceIte,Int.reduceLT,Int.reduceLE,Int.reduceToNat,Int.reduceBEq,Int.reduceBNe,Nat.reduceAdd,Nat.reduceMul,Nat.reduceSub,Nat.reduceLeDiff]
 refine HC.exact (text_ok (c:Int) (by omega) (by omega) h5) ?_
 simp (disch:=(first | exact dz | fail)) only [l2,SXB,SX,reduceIte,Int.reduceLT,Int.reduceLE,Int.reduceToNat,Int.reduceBEq,Int.reduceBNe,Nat.reduceAdd,Nat.reduceMul,Nat.reduceSub,Nat.reduceLeDiff]
 refine bq_of (x:=.agg #[.string other,.string (itoaB (c:Int))]) rfl ?_
 simp (disch:=(first | exact dz | fail)) only [bs,SXB,SX,reduceIte,Int.reduceLT,Int.reduceLE,Int.reduceToNat,Int.reduceBEq,Int.reduceBNe,Nat.reduceAdd,Nat.reduceMul,Nat.reduceSub,Nat.reduceLeDiff]
 exact ⟨_,rfl,rfl⟩
theorem cnt_loop {hB:AH} (GB:Gl hB) {ws:List ByteArray} {other:ByteArray} (ho:other.size ≤ 281474976710656) {q:Nat} {so sp:Option Nat} (gq:hB.get q=some (.cells (celP progCounts).toArray 66 (0,0),so)) {k1 cap1:Nat} {c1:Array Value} (r1:hB.get k1=some (.cells c1 40 (0,0),sp)) (hk1:k1 < hB.size)
  (hq:q < hB.size) (f1:∀ (i:Nat) w,(ws.take 256)[i]?=some w→c1[i * 2]?=some (.string w)∧c1[i * 2 + 1]?=some (.string one1)) :
  ∀ (r:List ByteArray) (i:Nat) (h1:AH) (s:Value),(ws.take 256).drop i=r→i ≤ (ws.take 256).length→Kp hB.size hB h1→Gs 9 1 h1 s (strL (List.replicate (cnt other ((ws.take 256).take i)) one1))→(∀ k,blkOf s=some k→hB.size ≤ k∧k < h1.size) →
  H4_24 (VSl (strL ws)) (.string other) (.pointer (some ⟨q,0,none⟩)) (.int .i64 (cnt other (ws.take 256):Nat)) (.slice (some ⟨k1,0,none⟩) (ws.take 256).length cap1) s (.int .i64 i) h1 fun r _=>∃ v,r=.ret v∧v=.bool true:=by
 have hgn:=GB.t.size
 intro r
 induction r with
 | nil =>
  intro i h1 s hd hi K S hs
  have:=drop_nil hd
  have hi':i=(ws.take 256).length:=by omega
  rw [hi',List.take_of_length_le (Nat.le_refl _)] at S
  exact cnt_end (GB.kp K) ho ((K.get q hq).trans gq) S (by have:=K.size;omega) (fun k hk=>by have:=hs k hk;exact ⟨by omega,by omega⟩) (by rw [hi'])
 | cons w r ih =>
  intro i h1 s hd hi K S hs
  obtain ⟨h1',h2',h3'⟩:=drop_cons hd
  have hz:=K.size
  have hlt:(ws.take 256).length ≤ 256:=by rw [List.length_take];omega
  obtain ⟨a0,a1⟩:=f1 i w h1'
  have r1':=(K.get k1 hk1).trans r1
  refine X4_24_ok ?_
  unfold X4_24
  have en:(i:Int) < ((ws.take 256).length:Int):=by omega
  have e0:(0:Int) ≤ (i:Int)∧(i:Int) < ((ws.take 256).length:Int):=by omega
  have hbin:(w.toList == other.toList)=eqT w other:=rfl
  have hcn:=cnt_snoc other w ((ws.take 256).take i)
  have etk:(ws.take 256).take (i + 1)=(ws.take 256).take i++[w]:=by rw [List.take_add_one,h1'];rfl
  rw [← etk] at hcn
  have step:∀ (h2:AH) (s2:Value),Kp hB.size hB h2→Gs 9 1 h2 s2 (strL (List.replicate (cnt other ((ws.take 256).take (i + 1))) one1))→(∀ k,blkOf s2=some k→hB.size ≤ k∧k < h2.size) →
    K4_25 (VSl (strL ws)) (.string other) (.pointer (some ⟨q,0,none⟩)) (.int .i64 (cnt other (ws.take 256):Nat)) (.slice (some ⟨k1,0,none⟩) (ws.take 256).length cap1) s2 (.int .i64 i) h2 fun r _=>∃ v,r=.ret v∧v=.bool true:=fun h2 s2 K2 S2 hs2=>by
   refine X4_25_ok ?_
   unfold X4_25
   simp (disch:=(first | exact dz | fail)) only [SXB,SX,reduceIte,Int.reduceLT,Int.reduceLE,Int.reduceToNat,Int.reduceBEq,Int.reduceBNe,Nat.reduceAdd,Nat.reduceMul,Nat.reduceSub,Nat.reduceLeDiff]
   exact ih (i + 1) h2 s2 h2' (by omega) K2 S2 hs2
  cases heq:eqT w other with
  | false =>
   rw [heq] at hcn
   simp (disch:=(first | exact dz | fail)) only [en,e0,r1',a0,hbin,heq,SXB,SX,reduceIte,Int.reduceLT,Int.reduceLE,Int.reduceToNat,Int.reduceBEq,Int.reduceBNe,Nat.reduceAdd,Nat.reduceMul,Nat.reduceSub,Nat.reduceLeDiff]
   refine step h1 s K ?_ hs
   rw [hcn]
   exact S
  | true =>
   rw [heq] at hcn
   simp (disch:=(first | exact dz | fail)) only [en,e0,r1',a0,a1,hbin,heq,SXB,SX,reduceIte,Int.reduceLT,Int.reduceLE,Int.reduceToNat,Int.reduceBEq,Int.reduceBNe,Nat.reduceAdd,Nat.reduceMul,Nat.reduceSub,Nat.reduceLeDiff]
   have hlen1:(cnt other ((ws.take 256).take i)) ≤ 256:=Nat.le_trans (cnt_le _ _) (by rw [List.length_take];omega)
   obtain ⟨s2,h2,p1,p2,p3,p4,p5⟩:=(S.mono (h':=h1.push (.cells #[.string one1] 9 (0,0)) none) fun k hk=>get_push_ne (by have:=hs k hk;omega)).append (x:=.slice (some ⟨h1.size,0,none⟩) 1 1) (m:=[.string one1]) (Src.one (get_push_eq rfl) rfl rfl) (strL_size _) (fun v hv=>by rw [List.mem_singleton.1 hv];rfl) (fun v hv=>by simp [flatC,Value.cells] at hv;subst hv;rfl) (bytes:=16) (zero:=.string ⟨#[]⟩) (by omega) (by omega) (by omega) rfl (by simp [strL];omega)
   refine bq_of (x:=(.slice (some ⟨h1.size,0,none⟩) 1 1,h1.push (.cells #[.string one1] 9 (0,0)) none)) rfl ?_
   refine bq_of p1 ?_
   simp only [sz_push] at p3 p4 p5
   refine step h2 s2 ⟨by omega,fun k hk=>?_⟩ ?_ fun k hk=>?_
   ·rw [p4 k (by omega) (fun e=>by have:=hs k e;omega),get_push_ne (by omega)]
    exact K.get k hk
   ·rw [hcn]
    have:strL (List.replicate (cnt other ((ws.take 256).take i) + if true=true then 1 else 0) one1)=strL (List.replicate (cnt other ((ws.take 256).take i)) one1)++[.string one1]:=by
     rw [if_pos rfl,List.replicate_succ']
     unfold strL
     simp
    rw [this]
    exact p2
   ·rcases p5 with e1 | ⟨k',e1,e2,e3⟩
    ·rw [e1] at hk
     have:=hs k hk
     omega
    ·rw [e1] at hk;cases hk;omega
theorem evalCounts_pre {h:AH} (G:Gl h) (sv:Value) (other:ByteArray) (hh:∀ (h2:AH) (q:Nat),Gl h2→q < h2.size→h2.get q=some (.cells (celP progCounts).toArray 66 (0,0),none) →
  H4_7 sv (.string other) (.pointer (some ⟨q,0,none⟩)) (.string ⟨#[]⟩) (.int .i64 0) (.int .i64 0) h2 fun r _=>∃ v,r=.ret v∧v=.bool true):HC Tryz.prog 4 [sv,.string other].toArray h fun r _=>∃ v,r=.ret v∧v=.bool true:=by
 refine X4_ok ?_
 unfold X4
 generalize hs2:stN 2=s2
 simp (disch:=(first | exact dz | fail)) only [SXB,SX,reduceIte,Int.reduceLT,Int.reduceLE,Int.reduceToNat,Int.reduceBEq,Int.reduceBNe,Nat.reduceAdd,Nat.reduceMul,Nat.reduceSub,Nat.reduceLeDiff]
 subst hs2
 refine HC.mono (evspeaks_ok G) fun r h0 hp=>?_
 obtain ⟨rfl,K0⟩:=hp
 have z0:=K0.size
 have G0:=G.kp K0
 generalize hs2:stN 2=s2
 simp (disch:=(first | exact dz | fail)) only [SXB,SX,reduceIte,Int.reduceLT,Int.reduceLE,Int.reduceToNat,Int.reduceBEq,Int.reduceBNe,Nat.reduceAdd,Nat.reduceMul,Nat.reduceSub,Nat.reduceLeDiff]
 subst hs2
 refine HC.mono (parse_ok G0.g) fun r h1 hp=>?_
 have hrd:=readCounts
 unfold textCounts at hrd
 rw [hrd] at hp
 obtain ⟨K1,q,rfl,hq,hq2,gq⟩:=hp
 have z1:=K1.size
 simp only [resK_ret]
 refine bq_of (x:=.pointer (some ⟨q,0,none⟩)) rfl ?_
 refine bq_of (x:=.agg #[.int .i64 0,.int .i64 0]) rfl ?_
 refine bq_of (stN_full (get_push_eq rfl) rfl rfl (fun z hz=>by simp [Value.cells] at hz;rcases hz with rfl | rfl <;> rfl)) ?_
 have gq2:=(get_put_ne (h:=h1.push (.cells #[.int .i64 0,.int .i64 0] 25 (0,0)) none) (k:=h1.size) (j:=q) (v:=some (.cells (Value.agg #[.int .i64 0,.int .i64 0]).cells 25 (0,0),none)) (by omega)).trans ((get_push_ne (by omega)).trans gq)
 have K2:Kp h0.size h0 ((h1.push (.cells #[.int .i64 0,.int .i64 0] 25 (0,0)) none).put h1.size (some (.cells (Value.agg #[.int .i64 0,.int .i64 0]).cells 25 (0,0),none))):=by (repeat (first | exact Kp.refl _ _ | assumption | refine Kp.push ?_ _ _ (by first | omega | (simp only [sz_push,sz_put];omega)) | refine Kp.put ?_ _ _ (by first | omega | (simp only [sz_push,sz_put];omega))))
 have z2:((h1.push (.cells #[.int .i64 0,.int .i64 0] 25 (0,0)) none).put h1.size (some (.cells (Value.agg #[.int .i64 0,.int .i64 0]).cells 25 (0,0),none))).size=h1.size + 1:=by simp
 generalize ((h1.push (.cells #[.int .i64 0,.int .i64 0] 25 (0,0)) none).put h1.size (some (.cells (Value.agg #[.int .i64 0,.int .i64 0]).cells 25 (0,0),none)))=h2 at gq2 K2 z2 ⊢
 have G2:=G0.kp K2
 exact hh h2 q G2 (by omega) gq2
theorem evalCounts_main {h:AH} (G:Gl h) (ws:List ByteArray) (hm:∀ w ∈ ws,w.size ≤ 281474976710656) (other:ByteArray) (ho:other.size ≤ 281474976710656):HC Tryz.prog 4 [VSl (strL ws),.string other].toArray h fun r _=>∃ v,r=.ret v∧v=.bool true:=by
 refine evalCounts_pre G _ other fun h2 q G2 hq2 gq2=>?_
 obtain ⟨w1,w2,w3,w4,w5,w6⟩:=counts_okB
 refine cnt_words hm ⟨_,rfl,rfl⟩ (fun hb hne=>?_) (min ws.length 256) 0 (by omega) (by simp)
 have hlt:(ws.take 256).length ≤ 256:=by rw [List.length_take];omega
 have hjs:=join_size (ws.take 256) 281474976710656 fun y hy=>hm y (List.mem_of_mem_take hy)
 have hjs2:(joinW (wl (ws.take 256))).length ≤ 256 * 281474976710657:=Nat.le_trans hjs (Nat.mul_le_mul_right _ hlt)
 have hne2:ws.take 256 ≠ []:=by cases ws with | nil=>exact absurd rfl hne | cons a l=>simp
 refine HC.mono (evmap_ok (M:=144115188075855872) (p:=progCounts) (by omega) (by omega) w1 (.inr w2) (by omega) G2.t gq2 (key:=⟨#[48]⟩) (by show 1 ≤ _;omega) (by rw [mk_sz];omega)) fun r h3 hp=>?_
 obtain ⟨ov,rfl,K3,O3,b3⟩:=hp
 have hcl:=counts_law (wl (ws.take 256)) ⟨#[48]⟩ (by unfold wl;cases h:ws.take 256 with | nil=>exact absurd h hne2 | cons a l=>simp) (by unfold wl;rw [List.length_map];exact hlt) (fun p hp=>by
  unfold wl at hp
  obtain ⟨y,hy,rfl⟩:=List.mem_map.1 hp
  exact hb y hy)
 have hmp:(wl (ws.take 256)).map (fun p=>((⟨p.toArray⟩:ByteArray),one1))=(ws.take 256).map fun w=>(w,one1):=by
  unfold wl
  rw [List.map_map]
  refine List.map_congr_left fun y hy=>?_
  show ((⟨y.data.toList.toArray⟩:ByteArray),one1)=_
  rw [ext_all]
 rw [hcl,hmp] at O3
 obtain ⟨k1,c1,cap1,sp1,rfl,r1,f1⟩:=out_row O3 (by simp;exact hne)
 have hk:=b3 k1 rfl
 simp only [resK_ret]
 rw [List.length_map]
 have z3:=K3.size
 exact cnt_loop (G2.kp K3) ho ((K3.get q (by omega)).trans gq2) r1 hk.2 (by omega) (fun i w hi=>by
  obtain ⟨p0,p1,_⟩:=f1 i w one1 (by rw [List.getElem?_map,hi];rfl)
  exact ⟨p0,p1⟩) (ws.take 256) 0 h3 (.slice none 0 0) rfl (Nat.zero_le _) (.refl _ _) .nil (fun k hk=>by cases hk)
theorem evalCounts_nil {h:AH} (G:Gl h) (other:ByteArray):HC Tryz.prog 4 [.slice none 0 0,.string other].toArray h fun r _=>∃ v,r=.ret v∧v=.bool true:=by
 refine evalCounts_pre G _ other fun h2 q G2 hq2 gq2=>?_
 refine X4_7_ok ?_
 unfold X4_7
 have e0:((((0:Nat):Int)) == 0)=true:=rfl
 have e1:¬ ((0:Int) < ((0:Nat):Int)):=by omega
 simp (disch:=(first | exact dz | fail)) only [e0,e1,SXB,SX,reduceIte,Int.reduceLT,Int.reduceLE,Int.reduceToNat,Int.reduceBEq,Int.reduceBNe,Nat.reduceAdd,Nat.reduceMul,Nat.reduceSub,Nat.reduceLeDiff]
 exact ⟨_,rfl,rfl⟩
end Go.Proofs.YtibigfkeaemanaaGreatDoor.L
end
section
namespace Go.Proofs.YtibigfkeaemanaaGreatDoor.L
open Go.Ab Go.Lang Go.Proofs.YtibigfkeaemanaaGreatDoor.X
set_option maxRecDepth 100000
theorem counts_gl (m:Int):Gl (heap0 Rows.evalCountsUptoRow.laid m):=by
 have hm:(heap0 Rows.evalCountsUptoRow.laid m).get 1=some (.cells #[.int .i64 m] 3 (0,1),none):=by
  unfold heap0 AH.laidM
  rw [AH.get_put,if_pos rfl]
 refine ⟨⟨⟨m,3,(0,1),none,hm⟩,?_,of_decide_eq_true (by kernel_rfl)⟩,⟨?_,⟨m,3,(0,1),none,hm⟩,of_decide_eq_true (by kernel_rfl)⟩⟩
 ·exact ⟨157,(0,1),none,by kernel_rfl⟩
 ·exact ⟨173,(0,1),none,by kernel_rfl⟩
theorem sum_le:∀ (l:List Nat) (x:Nat),x ∈ l→x ≤ l.sum
 | [],x,h=>by cases h
 | y::l,x,h=>by
  rw [List.sum_cons]
  rcases List.mem_cons.1 h with rfl | h
  ·omega
  ·have:=sum_le l x h;omega
theorem evalCounts_law (m:Int) (ws:(Ty.slice .str).T) (other:Ty.str.T) (w0:(Ty.slice .str).WF ws) (w1:Ty.str.WF other) (hb:(Ty.slice .str).bulk ws + Ty.str.bulk other ≤ 1048576):HF Tryz.prog 4 #[(Ty.slice .str).val ws,Ty.str.val other] (heap0 Rows.evalCountsUptoRow.laid m) fun v _=>v=.bool true:=by
 have ho:ByteArray.size other ≤ 281474976710656:=by
  have:Ty.str.bulk other=ByteArray.size other + 1:=rfl
  omega
 match ws,hb with
 | none,_=>exact HC.to_HF (evalCounts_nil (counts_gl m) other)
 | some l,hb =>
  refine HC.to_HF (evalCounts_main (counts_gl m) l (fun w hw=>?_) other ho)
  have h1:(Ty.slice .str).bulk (some l)=(List.map (fun w:ByteArray=>w.size + 1) l).sum + 1:=rfl
  have h2:=sum_le (List.map (fun w:ByteArray=>w.size + 1) l) (w.size + 1) (List.mem_map.2 ⟨w,hw,rfl⟩)
  omega
end Go.Proofs.YtibigfkeaemanaaGreatDoor.L
end
