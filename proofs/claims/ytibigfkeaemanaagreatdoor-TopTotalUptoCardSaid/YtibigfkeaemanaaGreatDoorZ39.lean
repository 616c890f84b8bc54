import Derived.KernelRfl
import Derived.Test.YtibigfkeaemanaaGreatDoorProg
import Derived.Test.YtibigfkeaemanaaGreatDoorRows
import GoSem.ClaimJoined
import Derived.Test.YtibigfkeaemanaaGreatDoorZ8
import Derived.Test.YtibigfkeaemanaaGreatDoorZ14
import Derived.Test.YtibigfkeaemanaaGreatDoorZ35
import Derived.Test.YtibigfkeaemanaaGreatDoorZ36
import Derived.Test.YtibigfkeaemanaaGreatDoorZ38
set_option linter.unusedVariables false
set_option linter.unusedSimpArgs false
section
namespace Go.Ab
def laidL (f:DataW Unit→Option (List Value)) (s:Nat):List (DataW Unit)→Option (List Value)
 | []=>some []
 | d::ds=>match f d,laidL f s ds with
  | some v,some vs=>if v.length=s then some (v++vs) else none
  | _,_=>none
def laidF (P:Program) (f:TypeId→DataW Unit→Option (List Value)):Nat→List Field→List (DataW Unit)→Option (List Value)
 | _,[],[]=>some []
 | off,g::gs,d::ds=>if g.offset=off then match f g.type d with
  | some v=>if v.length=P.cellsOf g.type then match laidF P f (off + v.length) gs ds with
   | some vs=>some (v++vs)
   | none=>none
   else none
  | none=>none
  else none
 | _,_,_=>none
def laidC (P:Program):Nat→TypeId→DataW Unit→Option (List Value)
 | 0,_,_=>none
 | n + 1,t,d=>match P.underlying t with
  | some (.int _)=>match d with
   | .lit (.int k x)=>some [.int k x]
   | _=>none
  | some .bool=>match d with
   | .lit (.bool b)=>some [.bool b]
   | _=>none
  | some .string=>match d with
   | .lit (.string l)=>some [.string ⟨l.toArray⟩]
   | _=>none
  | some (.array m e)=>match d with
   | .agg ds=>if P.cellsOf t=m * P.cellsOf e then laidL (laidC P n e) (P.cellsOf e) ds else none
   | _=>none
  | some (.struct fs)=>match d with
   | .agg ds=>match laidF P (laidC P n) 0 fs.toList ds with
    | some vs=>if vs.length=P.cellsOf t then some vs else none
    | none=>none
   | _=>none
  | _=>none
theorem chunks_eq {α:Type} {s:Nat}:∀ {m:Nat} {a b:List α},a.length=m * s→b.length=m * s→(∀ i,i < m→(a.drop (i * s)).take s=(b.drop (i * s)).take s)→a=b:=by
 intro m
 induction m with
 | zero =>
  intro a b ha hb _
  have e1:a=[]:=List.eq_nil_of_length_eq_zero (by simpa using ha)
  have e2:b=[]:=List.eq_nil_of_length_eq_zero (by simpa using hb)
  rw [e1,e2]
 | succ m ih =>
  intro a b ha hb h
  have h0:=h 0 (by omega)
  simp only [Nat.zero_mul,List.drop_zero] at h0
  have e:a.drop s=b.drop s:=by
   refine ih (by rw [List.length_drop,ha,Nat.succ_mul];omega) (by rw [List.length_drop,hb,Nat.succ_mul];omega) fun i hi=>?_
   have:=h (i + 1) (by omega)
   rw [List.drop_drop,List.drop_drop]
   rw [show s + i * s=(i + 1) * s by rw [Nat.succ_mul];omega]
   exact this
  rw [← List.take_append_drop s a,← List.take_append_drop s b,h0,e]
theorem laidL_eq {f:DataW Unit→Option (List Value)} {s:Nat}:∀ {ds:List (DataW Unit)} {vs:List Value},laidL f s ds=some vs→vs.length=ds.length * s∧∀ (i:Nat) d,ds[i]?=some d→∃ v,f d=some v∧(vs.drop (i * s)).take s=v:=by
 intro ds
 induction ds with
 | nil=>intro vs h;cases h;exact ⟨by simp,fun i d hd=>by simp at hd⟩
 | cons d ds ih =>
  intro vs h
  simp only [laidL] at h
  split at h
  ·rename_i v ws hv hw
   split at h
   ·rename_i hl
    cases h
    obtain ⟨h1,h2⟩:=ih hw
    refine ⟨by rw [List.length_append,List.length_cons,Nat.succ_mul];omega,fun i x hx=>?_⟩
    cases i with
    | zero =>
     simp at hx;subst hx
     exact ⟨v,hv,by simp [← hl]⟩
    | succ i =>
     obtain ⟨u,g1,g2⟩:=h2 i x (by simpa using hx)
     refine ⟨u,g1,?_⟩
     rw [show (i + 1) * s=v.length + i * s by rw [hl,Nat.succ_mul];omega,← List.drop_drop,List.drop_left]
     exact g2
   ·cases h
  ·cases h
theorem laidF_eq {P:Program} {f:TypeId→DataW Unit→Option (List Value)} {cs:List Value} {g:Field→Option (DataW Unit × List MemPlace)} (hg:∀ x y v,g x=some y→f x.type y.1=some v→v.length=P.cellsOf x.type→(cs.drop x.offset).take (P.cellsOf x.type)=v) :
  ∀ {fs:List Field} {ds:List (DataW Unit)} {off:Nat} {vs:List Value} {xs:List (DataW Unit × List MemPlace)},laidF P f off fs ds=some vs→fs.mapM g=some xs→ds=xs.map (·.1)→(cs.drop off).take vs.length=vs:=by
 intro fs
 induction fs with
 | nil =>
  intro ds off vs xs h hm hd
  cases ds with
  | nil=>simp only [laidF] at h;cases h;rfl
  | cons=>simp only [laidF] at h;cases h
 | cons x fs ih =>
  intro ds off vs xs h hm hd
  cases ds with
  | nil=>simp only [laidF] at h;cases h
  | cons d ds =>
   simp only [laidF] at h
   split at h
   case isFalse=>cases h
   rename_i hoff
   split at h
   case h_2=>cases h
   rename_i v hv
   split at h
   case isFalse=>cases h
   rename_i hl
   split at h
   case h_2=>cases h
   rename_i ws hw
   cases h
   rw [List.mapM_cons] at hm
   simp only [Option.bind_eq_bind,Option.bind_eq_some_iff,Option.pure_def,Option.some.injEq] at hm
   obtain ⟨y,hy,ys,hys,rfl⟩:=hm
   simp only [List.map_cons,List.cons.injEq] at hd
   obtain ⟨rfl,rfl⟩:=hd
   have h1:=hg x y v hy hv hl
   have h2:=ih hw hys rfl
   rw [hoff,← hl] at h1
   rw [List.length_append,List.take_add,h1,List.drop_drop]
   rw [h2]
theorem laidC_eq {P:Program} {w:World} {base:Nat} {sp:Nat→Bool} {held:Bool}:∀ (n:Nat) {fuel:Nat} {t:TypeId} {cs vs:List Value} {d:DataW Unit} {p:List MemPlace},
  laidC P n t d=some vs→DataW.trod (fun _=>()) P w base sp held fuel t cs=some (d,p)→cs=vs:=by
 intro n
 induction n with
 | zero=>intro fuel t cs vs d p h;cases h
 | succ n ih =>
  intro fuel t cs vs d p h ht
  cases fuel with
  | zero=>cases ht
  | succ fuel =>
   unfold laidC at h
   unfold DataW.trod at ht
   split at h
   ·rename_i k hu
    rw [hu] at ht
    simp only at ht
    split at ht <;> first
     | (cases ht;done)
     | skip
    ·rename_i e;cases e
    ·rename_i k1 k2 m e
     cases e
     split at ht
     ·rename_i hk
      cases ht
      simp only at h
      cases h
      rw [hk.1]
     ·cases ht
    all_goals (rename_i e;cases e)
   ·rename_i hu
    rw [hu] at ht
    simp only at ht
    split at ht <;> first
     | (cases ht;done)
     | skip
    ·cases ht;simp only at h;cases h;rfl
    all_goals (rename_i e;cases e)
   ·rename_i hu
    rw [hu] at ht
    simp only at ht
    split at ht <;> first
     | (cases ht;done)
     | skip
    all_goals first
     | (rename_i e;cases e;done)
     | skip
    split at ht
    ·cases ht
     simp only at h
     cases h
     rfl
    ·cases ht
   ·rename_i m e hu
    rw [hu] at ht
    simp only at ht
    split at ht
    ·rename_i hlen
     rw [Option.map_eq_some_iff] at ht
     obtain ⟨xs,hx,hxe⟩:=ht
     cases hxe
     simp only at h
     split at h
     case isFalse=>cases h
     rename_i hcells
     obtain ⟨h1,h2⟩:=laidL_eq h
     obtain ⟨g1,g2⟩:=mapM_get hx
     rw [List.length_range] at g1
     refine chunks_eq (m:=m) (s:=P.cellsOf e) (by rw [hlen,hcells]) (by rw [h1,List.length_map,← g1]) fun i hi=>?_
     obtain ⟨y,k1,k2⟩:=g2 i i (by rw [List.getElem?_range hi])
     obtain ⟨v,k3,k4⟩:=h2 i y.1 (by rw [List.getElem?_map,k2];rfl)
     rw [ih k3 k1,k4]
    ·cases ht
   ·rename_i fs hu
    rw [hu] at ht
    simp only at ht
    split at ht
    ·rename_i hlen
     rw [Option.map_eq_some_iff] at ht
     obtain ⟨xs,hx,hxe⟩:=ht
     cases hxe
     simp only at h
     split at h
     case h_2=>cases h
     rename_i ws hw
     split at h
     case isFalse=>cases h
     rename_i hl
     cases h
     have:=laidF_eq (cs:=cs) (fun x y v hy hv _=>ih hv hy) hw hx rfl
     rw [List.drop_zero,hl,← hlen,List.take_length] at this
     exact this
    ·cases ht
   ·cases h
def rowT (P:Program) (g:Nat):Option TypeId:=(((begin P (fun _ _=>0) default).world.heap[g]?).bind Obj.row?).map (·.2)
def laid1 (P:Program) (x:String × DataW Unit):Option (Nat × Array Value × TypeId):=match P.globalNamed x.1 with
 | some g=>match (P.globals[g]?).map (·.type) with
  | some t=>match laidC P 20 t x.2,rowT P g with
   | some vs,some e=>if vs.all plain then some (g,vs.toArray,e) else none
   | _,_=>none
  | none=>none
 | none=>none
def laidT (P:Program):List (String × DataW Unit)→T (Obj × Option Nat)
 | []=>.leaf
 | x::l=>match laid1 P x with
  | some (g,c,e)=>(laidT P l).put (g + 1) (g + 1) (some (.cells c e (0,1),none))
  | none=>laidT P l
def AH.laid (P:Program) (l:List (String × DataW Unit)):AH:=⟨laidT P l,P.globals.size,[]⟩
theorem laidT_get {P:Program} {w:World} (hv:∀ g e,rowT P g=some e→g < P.globals.size→∃ c,w.heap[g]?=some (.cells c e)):∀ {l:List (String × DataW Unit)} {ps:List MemPlace},DataW.LaidVars P w l ps →
  ∀ k o s,(laidT P l).get (k + 1)=some (o,s)→s=none∧k < P.globals.size∧∃ c e fz,o=.cells c e (0,1)∧w.heap[k]?=some (.cells c e fz)∧∀ v ∈ c.toList,plain v=true:=by
 intro l
 induction l with
 | nil=>intro ps _ k o s h;simp [laidT,T.get] at h
 | cons x l ih =>
  intro ps hl k o s h
  obtain ⟨n,d⟩:=x
  obtain ⟨g,t,cs,fuel,p,q,h1,h2,h3,h4,h5,_⟩:=hl
  simp only [laidT] at h
  split at h
  ·rename_i g' c e he
   rw [T.get_put _ _ _ _ _ (by omega) (Nat.le_refl _) (by omega)] at h
   split at h
   ·rename_i hk
    have hk':k=g':=by omega
    subst hk'
    cases h
    unfold laid1 at he
    rw [h1] at he
    simp only [h2] at he
    split at he
    case h_2=>cases he
    rename_i vs e' hvs hrow
    split at he
    case isFalse=>cases he
    rename_i hpl
    cases he
    have hlt:k < P.globals.size:=by
     cases hg:P.globals[k]? with
     | none=>rw [hg] at h2;cases h2
     | some _=>exact (Array.getElem?_eq_some_iff.1 hg).1
    obtain ⟨c',hc'⟩:=hv k e hrow hlt
    unfold World.var? at h3
    rw [h1] at h3
    simp only [Option.bind_some,hc'] at h3
    cases h3
    have:=laidC_eq 20 hvs h4
    refine ⟨rfl,hlt,vs.toArray,e,(0,0),rfl,?_,fun v hv=>List.all_eq_true.1 hpl v (by simpa using hv)⟩
    rw [hc',← this]
   ·exact ih h5 k o s h
  ·exact ih h5 k o s h
theorem rw_known {P:Program} {w:World} (hsz:P.globals.size ≤ w.heap.size) {h:AH} (hs:h.size=P.globals.size) (hget:∀ k o s,h.get k=some (o,s)→s=none∧k < P.globals.size∧∃ c e fz c',o=.cells c e (0,1) ∧
  w.heap[k]?=some (.cells c' e fz)∧c.size=c'.size∧(∀ (i:Nat) v,c[i]?=some v→c'[i]?=some v)∧∀ v ∈ c.toList,plain v=true):RW P (stillR P w) h w:=by
 have b:=rw_bare (P:=P) hsz
 refine ⟨b.glob,fun k n hk=>by rw [hs];exact b.dom k n hk,b.sdom,fun k o s hk=>?_,fun j k n hj hk gj gk=>?_,b.frz,fun k o s n hk hn hf=>?_,b.sep⟩
 ·obtain ⟨rfl,hlt,c,e,fz,c',rfl,hw,hle,hcc,hp⟩:=hget k o s hk
  refine ⟨k,_,b.glob k hlt,hw,.ice (Nat.le_of_eq hle) (fun _=>hle) fun i v v' h1 h2=>?_,rfl⟩
  rw [hcc i v h1] at h2
  cases h2
  exact RV.of_plain (hp v (List.mem_of_getElem? (by rw [Array.getElem?_toList];exact h1)))
 ·have hlj:=(b.dom j n hj).1
  have hlk:=(b.dom k n hk).1
  have e1:=b.glob j hlj
  have e2:=b.glob k hlk
  rw [hj] at e1;rw [hk] at e2
  cases e1;cases e2;rfl
 ·obtain ⟨rfl,_,c,e,fz,c',rfl,_⟩:=hget k o s hk
  rfl
theorem laid_get {P:Program} {w:World} {l:List (String × DataW Unit)} (hv:varsB P=true) (hs:w.ShapedOpen P) (hh:(l.filter fun x=>x.2.handleName?.isSome).isEmpty=true) (hl:laidMetH P l w) :
  ∀ k o s,(AH.laid P l).get k=some (o,s)→s=none∧k < P.globals.size∧∃ c e fz,o=.cells c e (0,1)∧w.heap[k]?=some (.cells c e fz)∧∀ v ∈ c.toList,plain v=true:=by
 unfold laidMetH at hl
 rw [List.isEmpty_iff] at hh
 rw [hh] at hl
 obtain ⟨ps,hl,_⟩:=hl
 exact laidT_get (P:=P) (w:=w) (fun g e he hg=>by
  have h1:=List.all_eq_true.1 hv g (List.mem_range.2 hg)
  unfold rowT at he
  rw [Option.map_eq_some_iff] at he
  obtain ⟨⟨zero,t⟩,hx,rfl⟩:=he
  obtain ⟨cs,h2,_⟩:=hs.1 g zero t hg hx
  exact ⟨cs,h2⟩) hl
def rowT1 (P:Program) (g:Nat):Option TypeId:=(((begin P (fun _ _=>0) default).world.heap[g]?).bind Obj.row?).bind fun x=>if x.1.size=1 then some x.2 else none
def AH.laidM (P:Program) (l:List (String × DataW Unit)) (g:Nat) (e:TypeId) (m:Int):AH:=(AH.laid P l).put g (some (.cells #[.int .i64 m] e (0,1),none))
theorem rw_laidM {P:Program} {w:World} {l:List (String × DataW Unit)} (hv:varsB P=true) (hs:w.ShapedOpen P) (hh:(l.filter fun x=>x.2.handleName?.isSome).isEmpty=true) (hl:laidMetH P l w) {g:Nat} {e:TypeId} {m:Int}
  (hg:g < P.globals.size) (he:rowT1 P g=some e) (hm:w.cell? ⟨g,0,none⟩=some (.int .i64 m)):RW P (stillR P w) (AH.laidM P l g e m) w :=
 rw_known (vars_size (vars_rows hv hs)) rfl fun k o s hk=>by
  unfold AH.laidM at hk
  rw [AH.get_put] at hk
  split at hk
  ·rename_i e1;subst e1;cases hk
   have h1:=List.all_eq_true.1 hv k (List.mem_range.2 hg)
   unfold rowT1 at he
   rw [Option.bind_eq_some_iff] at he
   obtain ⟨⟨zero,t⟩,hx,he⟩:=he
   split at he
   case isFalse=>cases he
   rename_i hz1
   cases he
   obtain ⟨cs,h2,hsz,_⟩:=hs.1 k zero t hg hx
   have h3:cs[0]?=some (.int .i64 m):=by simpa [World.cell?,h2] using hm
   refine ⟨rfl,hg,#[.int .i64 m],t,_,cs,rfl,h2,?_,fun i v hi=>?_,fun v hv=>?_⟩
   ·have:zero.size=1:=hz1;simp;omega
   ·cases i with
    | zero=>simp at hi;rw [← hi];exact h3
    | succ i=>simp at hi
   ·simp at hv;subst hv;rfl
  ·obtain ⟨h1,h2,c,e,fz,h3,h4,h5⟩:=laid_get hv hs hh hl k o s hk
   exact ⟨h1,h2,c,e,fz,c,h3,h4,rfl,fun _ _ h=>h,h5⟩
end Go.Ab
end
section
namespace Go.Proofs.YtibigfkeaemanaaGreatDoor.L
open Go.Ab Go.Lang Go.Proofs.YtibigfkeaemanaaGreatDoor.X
set_option maxRecDepth 100000
noncomputable def heap0 (l:List (String × DataW Unit)) (m:Int):AH:=AH.laidM Tryz.prog l 1 3 m
theorem heap0_rw {W:World} {l:List (String × DataW Unit)} (hl:laidMetH Tryz.prog l W) (hs:W.ShapedOpen Tryz.prog) (hh:(l.filter fun x=>x.2.handleName?.isSome).isEmpty=true):∃ m,RW Tryz.prog (stillR Tryz.prog W) (heap0 l m) W:=by
 obtain ⟨m,hm⟩:=Tryz.laysM219.s1_3 W hs
 exact ⟨m,rw_laidM (by kernel_rfl) hs hh hl (of_decide_eq_true (by kernel_rfl)) (by kernel_rfl) hm⟩
end Go.Proofs.YtibigfkeaemanaaGreatDoor.L
end
section
namespace Go.Proofs.YtibigfkeaemanaaGreatDoor.X
open Go.Ab
set_option maxRecDepth 100000
noncomputable def code3:Code:=match Tryz.f3.body with | some c=>c | none=>.skip
noncomputable def res3:List ResultVar:=Tryz.f3.results.toList
def L3:Nat→Option (List Nat):=fun r=>if r=11 then some [1,9,10,11,12,13] else if r=15 then some [1,9,10,11,12,13,14,15] else if r=24 then some [1,9,10,11,12,13,14,15,16,17,18] else none
noncomputable def H3_11 (t1 t9 t10 t11 t12 t13:Value) (h:AH) (Q:RQ):Prop:=HL Tryz.prog (cAt code3 [.r,.r,.r,.r,.r,.r,.r,.r,.l,.r,.i,.i]) (mkA 145 [(1,t1),(9,t9),(10,t10),(11,t11),(12,t12),(13,t13)]) h (ctxAt Tryz.prog L3 code3 [.r,.r,.r,.r,.r,.r,.r,.r,.l,.r,.i] (retK Tryz.prog res3 Q))
noncomputable def H3_15 (t1 t9 t10 t11 t12 t13 t14 t15:Value) (h:AH) (Q:RQ):Prop:=HL Tryz.prog (cAt code3 (.r::.r::.r::.r::.r::.r::.r::.r::Dir.l::.r::Dir.i::Dir.i::.r::Dir.l::Dir.i::.r::.r::Dir.i::Dir.i::[])) (mkA 145 [(1,t1),(9,t9),(10,t10),(11,t11),(12,t12),(13,t13),(14,t14),(15,t15)]) h (ctxAt Tryz.prog L3 code3 (.r::.r::.r::.r::.r::.r::.r::.r::Dir.l::.r::Dir.i::Dir.i::.r::Dir.l::Dir.i::.r::.r::Dir.i::[]) (retK Tryz.prog res3 Q))
noncomputable def H3_24 (t1 t9 t10 t11 t12 t13 t14 t15 t16 t17 t18:Value) (h:AH) (Q:RQ):Prop:=HL Tryz.prog (cAt code3 (.r::.r::.r::.r::.r::.r::.r::.r::Dir.l::.r::Dir.i::Dir.i::.r::Dir.l::Dir.i::.r::.r::Dir.i::Dir.i::.r::Dir.l::Dir.i::.r::.r::.r::.r::.r::Dir.i::Dir.i::[])) (mkA 145 [(1,t1),(9,t9),(10,t10),(11,t11),(12,t12),(13,t13),(14,t14),(15,t15),(16,t16),(17,t17),(18,t18)]) h (ctxAt Tryz.prog L3 code3 (.r::.r::.r::.r::.r::.r::.r::.r::Dir.l::.r::Dir.i::Dir.i::.r::Dir.l::Dir.i::.r::.r::Dir.i::Dir.i::.r::Dir.l::Dir.i::.r::.r::.r::.r::.r::Dir.i::[]) (retK Tryz.prog res3 Q))
noncomputable def X3_24 (t1 t9 t10 t11 t12 t13 t14 t15 t16 t17 t18:Value) (h:AH) (Q:RQ):Prop :=
 let t111:Value:=t18
 let t112:Value:=t16
 bq (lenL t112) fun t113 =>
 bq (binV Tryz.prog .lss 3 (.tmp 111) (.tmp 113) t111 t113 h) fun t114 =>
 condP (some t114)
 (let t117:Value:=t9
 let t118:Value:=t16
 let t119:Value:=t18
 bq (ia 2 t118 t119) fun t120 =>
 bq (fa 0 1 t120) fun t121 =>
 bq (ld1 h t121) fun t122 =>
 HC Tryz.prog 11 (([]:List Value)++[t117,t122,(Value.int .i64 7)]++([]:List Value)).toArray h (resK (fun t123 h =>
 let t19:Value:=t123
 let t124:Value:=t16
 let t125:Value:=t18
 bq (ia 2 t124 t125) fun t126 =>
 bq (ldN 2 h t126) fun t127 =>
 let t128:Value:=t17
 let t129:Value:=t18
 bq (ia 2 t128 t129) fun t130 =>
 bq (ldN 2 h t130) fun t131 =>
 bq (binV Tryz.prog .neq 40 (.tmp 127) (.tmp 131) t127 t131 h) fun t132 =>
 let t133:Value:=t132
 guardQ t133 false h (fun k=>k t19 h) fun t134 h =>
 guardQ t133 false h (fun k=>bq (binV Tryz.prog .lss 3 (.tmp 134) (.const (Value.int .i64 0)) t134 (Value.int .i64 0) h) fun v=>k v h) fun t135 h =>
 bq (pickV t133 (Value.bool true) t135) fun t136 =>
 let t137:Value:=t136
 guardQ t137 false h (fun k=>k t19 h) fun t138 h =>
 guardQ t137 false h (fun k=>bq (binV Tryz.prog .gtr 3 (.tmp 138) (.const (Value.int .i64 6)) t138 (Value.int .i64 6) h) fun v=>k v h) fun t139 h =>
 bq (pickV t137 (Value.bool true) t139) fun t140 =>
 condP (some t140)
 (let t6:Value:=(Value.bool false)
 Q (.ret t6) h)
 (let t115:Value:=t18
 bq (binV Tryz.prog .add 3 (.tmp 115) (.const (Value.int .i64 1)) t115 (Value.int .i64 1) h) fun t116 =>
 let t18:Value:=t116
 H3_24 t1 t9 t10 t11 t12 t13 t14 t15 t16 t17 t18 h Q)) (fun v h=>Q (.pan v) h)))
 (let t68:Value:=t15
 bq (binV Tryz.prog .add 3 (.tmp 68) (.const (Value.int .i64 1)) t68 (Value.int .i64 1) h) fun t69 =>
 let t15:Value:=t69
 H3_15 t1 t9 t10 t11 t12 t13 t14 t15 h Q)
theorem X3_24_eq (t1 t9 t10 t11 t12 t13 t14 t15 t16 t17 t18:Value) (h:AH) (Q:RQ):X3_24 t1 t9 t10 t11 t12 t13 t14 t15 t16 t17 t18 h Q=wpC Tryz.prog L3 (cAt code3 (.r::.r::.r::.r::.r::.r::.r::.r::Dir.l::.r::Dir.i::Dir.i::.r::Dir.l::Dir.i::.r::.r::Dir.i::Dir.i::.r::Dir.l::Dir.i::.r::.r::.r::.r::.r::Dir.i::Dir.i::[])) (mkA 145 [(1,t1),(9,t9),(10,t10),(11,t11),(12,t12),(13,t13),(14,t14),(15,t15),(16,t16),(17,t17),(18,t18)]) h (ctxAt Tryz.prog L3 code3 (.r::.r::.r::.r::.r::.r::.r::.r::Dir.l::.r::Dir.i::Dir.i::.r::Dir.l::Dir.i::.r::.r::Dir.i::Dir.i::.r::Dir.l::Dir.i::.r::.r::.r::.r::.r::Dir.i::Dir.i::[]) (retK Tryz.prog res3 Q)):=by kernel_rfl
theorem X3_24_ok {t1 t9 t10 t11 t12 t13 t14 t15 t16 t17 t18:Value} {h:AH} {Q:RQ} (H:X3_24 t1 t9 t10 t11 t12 t13 t14 t15 t16 t17 t18 h Q):H3_24 t1 t9 t10 t11 t12 t13 t14 t15 t16 t17 t18 h Q:=HL.step (L:=L3) ((X3_24_eq t1 t9 t10 t11 t12 t13 t14 t15 t16 t17 t18 h Q).mp H)
noncomputable def X3_15 (t1 t9 t10 t11 t12 t13 t14 t15:Value) (h:AH) (Q:RQ):Prop :=
 let t64:Value:=t15
 let t65:Value:=t14
 bq (lenL t65) fun t66 =>
 bq (binV Tryz.prog .lss 3 (.tmp 64) (.tmp 66) t64 t66 h) fun t67 =>
 condP (some t67)
 (let t70:Value:=t11
 let t71:Value:=t10
 bq (lenL t71) fun t72 =>
 bq (binV Tryz.prog .geq 3 (.tmp 70) (.tmp 72) t70 t72 h) fun t73 =>
 let t74:Value:=t73
 guardQ t74 false h (fun k=>k t14 h) fun t75 h =>
 guardQ t74 false h (fun k=>k t15 h) fun t76 h =>
 guardQ t74 false h (fun k=>bq (ia 2 t75 t76) fun v=>k v h) fun t77 h =>
 guardQ t74 false h (fun k=>bq (ldN 2 h t77) fun v=>k v h) fun t78 h =>
 guardQ t74 false h (fun k=>k t10 h) fun t79 h =>
 guardQ t74 false h (fun k=>k t11 h) fun t80 h =>
 guardQ t74 false h (fun k=>bq (ia 2 t79 t80) fun v=>k v h) fun t81 h =>
 guardQ t74 false h (fun k=>bq (ldN 2 h t81) fun v=>k v h) fun t82 h =>
 guardQ t74 false h (fun k=>bq (binV Tryz.prog .neq 37 (.tmp 78) (.tmp 82) t78 t82 h) fun v=>k v h) fun t83 h =>
 bq (pickV t74 (Value.bool true) t83) fun t84 =>
 condP (some t84)
 (let t6:Value:=(Value.bool false)
 Q (.ret t6) h)
 (let t85:Value:=t11
 bq (binV Tryz.prog .add 3 (.tmp 85) (.const (Value.int .i64 1)) t85 (Value.int .i64 1) h) fun t86 =>
 let t11:Value:=t86
 let t87:Value:=t9
 let t88:Value:=t14
 let t89:Value:=t15
 bq (ia 2 t88 t89) fun t90 =>
 bq (fa 1 1 t90) fun t91 =>
 bq (ld1 h t91) fun t92 =>
 let t94:Value:=t9
 let t95:Value:=t14
 let t96:Value:=t15
 bq (ia 2 t95 t96) fun t97 =>
 bq (fa 1 1 t97) fun t98 =>
 bq (ld1 h t98) fun t99 =>
 HC Tryz.prog 8 (([]:List Value)++[t87,(Value.string (ByteArray.mk #[48])),t92]++([]:List Value)).toArray h (resK (fun t93 h =>
 ((bq (ld1 h t98) fun u=>(u=t99))∧(True)) ∧
 HC Tryz.prog 8 (([]:List Value)++[t94,(Value.string (ByteArray.mk #[48])),t99]++([]:List Value)).toArray h (resK (fun t100 h =>
 (True) ∧
 let t16:Value:=t93
 let t17:Value:=t100
 let t101:Value:=t16
 bq (lenL t101) fun t102 =>
 bq (binV Tryz.prog .gtr 3 (.tmp 102) (.const (Value.int .i64 1024)) t102 (Value.int .i64 1024) h) fun t103 =>
 let t104:Value:=t103
 guardQ t104 false h (fun k=>k t16 h) fun t105 h =>
 guardQ t104 false h (fun k=>bq (lenL t105) fun v=>k v h) fun t106 h =>
 guardQ t104 false h (fun k=>k t17 h) fun t107 h =>
 guardQ t104 false h (fun k=>bq (lenL t107) fun v=>k v h) fun t108 h =>
 guardQ t104 false h (fun k=>bq (binV Tryz.prog .neq 3 (.tmp 106) (.tmp 108) t106 t108 h) fun v=>k v h) fun t109 h =>
 bq (pickV t104 (Value.bool true) t109) fun t110 =>
 condP (some t110)
 (let t6:Value:=(Value.bool false)
 Q (.ret t6) h)
 (let t18:Value:=(Value.int .i64 0)
 H3_24 t1 t9 t10 t11 t12 t13 t14 t15 t16 t17 t18 h Q)) (fun v h=>Q (.pan v) h))) (fun v h=>Q (.pan v) h))))
 (let t56:Value:=t13
 bq (binV Tryz.prog .add 3 (.tmp 56) (.const (Value.int .i64 1)) t56 (Value.int .i64 1) h) fun t57 =>
 let t13:Value:=t57
 H3_11 t1 t9 t10 t11 t12 t13 h Q)
theorem X3_15_eq (t1 t9 t10 t11 t12 t13 t14 t15:Value) (h:AH) (Q:RQ):X3_15 t1 t9 t10 t11 t12 t13 t14 t15 h Q=wpC Tryz.prog L3 (cAt code3 (.r::.r::.r::.r::.r::.r::.r::.r::Dir.l::.r::Dir.i::Dir.i::.r::Dir.l::Dir.i::.r::.r::Dir.i::Dir.i::[])) (mkA 145 [(1,t1),(9,t9),(10,t10),(11,t11),(12,t12),(13,t13),(14,t14),(15,t15)]) h (ctxAt Tryz.prog L3 code3 (.r::.r::.r::.r::.r::.r::.r::.r::Dir.l::.r::Dir.i::Dir.i::.r::Dir.l::Dir.i::.r::.r::Dir.i::Dir.i::[]) (retK Tryz.prog res3 Q)):=by kernel_rfl
theorem X3_15_ok {t1 t9 t10 t11 t12 t13 t14 t15:Value} {h:AH} {Q:RQ} (H:X3_15 t1 t9 t10 t11 t12 t13 t14 t15 h Q):H3_15 t1 t9 t10 t11 t12 t13 t14 t15 h Q:=HL.step (L:=L3) ((X3_15_eq t1 t9 t10 t11 t12 t13 t14 t15 h Q).mp H)
noncomputable def X3_11 (t1 t9 t10 t11 t12 t13:Value) (h:AH) (Q:RQ):Prop :=
 let t52:Value:=t13
 let t53:Value:=t12
 bq (lenL t53) fun t54 =>
 bq (binV Tryz.prog .lss 3 (.tmp 52) (.tmp 54) t52 t54 h) fun t55 =>
 condP (some t55)
 (let t58:Value:=t1
 let t59:Value:=t12
 let t60:Value:=t13
 bq (ia 2 t59 t60) fun t61 =>
 bq (ldN 2 h t61) fun t62 =>
 HC Tryz.prog 9 (([]:List Value)++[t58,t62]++([]:List Value)).toArray h (resK (fun t63 h =>
 let t14:Value:=t63
 let t15:Value:=(Value.int .i64 0)
 H3_15 t1 t9 t10 t11 t12 t13 t14 t15 h Q) (fun v h=>Q (.pan v) h)))
 (let t141:Value:=t11
 let t142:Value:=t10
 bq (lenL t142) fun t143 =>
 bq (binV Tryz.prog .eql 3 (.tmp 141) (.tmp 143) t141 t143 h) fun t144 =>
 let t6:Value:=t144
 Q (.ret t6) h)
theorem X3_11_eq (t1 t9 t10 t11 t12 t13:Value) (h:AH) (Q:RQ):X3_11 t1 t9 t10 t11 t12 t13 h Q=wpC Tryz.prog L3 (cAt code3 [.r,.r,.r,.r,.r,.r,.r,.r,.l,.r,.i,.i]) (mkA 145 [(1,t1),(9,t9),(10,t10),(11,t11),(12,t12),(13,t13)]) h (ctxAt Tryz.prog L3 code3 [.r,.r,.r,.r,.r,.r,.r,.r,.l,.r,.i,.i] (retK Tryz.prog res3 Q)):=by kernel_rfl
theorem X3_11_ok {t1 t9 t10 t11 t12 t13:Value} {h:AH} {Q:RQ} (H:X3_11 t1 t9 t10 t11 t12 t13 h Q):H3_11 t1 t9 t10 t11 t12 t13 h Q:=HL.step (L:=L3) ((X3_11_eq t1 t9 t10 t11 t12 t13 h Q).mp H)
noncomputable def X3 (t0 t1 t2:Value) (h:AH) (Q:RQ):Prop :=
 let t6:Value:=(Value.bool false)
 HC Tryz.prog 7 (([]:List Value)++[(Value.string (ByteArray.mk #[109,97,112,32,123,32,101,109,105,116,32,118,97,108,117,101,44,32,107,101,121,59,32,125,32,114,101,100,117,99,101,32,123,32,125]))]++([]:List Value)).toArray h (resK (fun t21 h =>
 let t20:Value:=t21
 bq (opExtract t20 0) fun t22 =>
 bq (opExtract t20 1) fun t23 =>
 (fun t8 h =>
 let t7:Value:=t22
 bq (stN 2 h t8 t23) fun h=>(fun _ h =>
 bq (ldN 2 h t8) fun t24 =>
 bq (bd #[(Value.int .i64 0),(Value.int .i64 0)] []) fun t25 =>
 bq (binV Tryz.prog .neq 25 (.tmp 24) (.tmp 25) t24 t25 h) fun t26 =>
 let t27:Value:=t26
 guardQ t27 false h (fun k=>k t7 h) fun t28 h =>
 guardQ t27 false h (fun k=>HC Tryz.prog 8 (([]:List Value)++[t28,(Value.string (ByteArray.mk #[107])),(Value.string (ByteArray.mk #[118]))]++([]:List Value)).toArray h (resK k (fun v h=>Q (.pan v) h))) fun t29 h =>
 guardQ t27 false h (fun k=>bq (lenL t29) fun v=>k v h) fun t30 h =>
 guardQ t27 false h (fun k=>bq (binV Tryz.prog .neq 3 (.tmp 30) (.const (Value.int .i64 1)) t30 (Value.int .i64 1) h) fun v=>k v h) fun t31 h =>
 bq (pickV t27 (Value.bool true) t31) fun t32 =>
 condP (some t32)
 (let t6:Value:=(Value.bool false)
 Q (.ret t6) h)
 (let t34:Value:=t0
 HC Tryz.prog 7 (([]:List Value)++[t34]++([]:List Value)).toArray h (resK (fun t35 h =>
 let t33:Value:=t35
 bq (opExtract t33 0) fun t36 =>
 bq (opExtract t33 1) fun t37 =>
 let t9:Value:=t36
 bq (stN 2 h t8 t37) fun h=>(fun _ h =>
 bq (ldN 2 h t8) fun t38 =>
 bq (bd #[(Value.int .i64 0),(Value.int .i64 0)] []) fun t39 =>
 bq (binV Tryz.prog .neq 25 (.tmp 38) (.tmp 39) t38 t39 h) fun t40 =>
 condP (some t40)
 (let t41:Value:=t9
 bq (binV Tryz.prog .eql 22 (.tmp 41) (.const (Value.pointer none)) t41 (Value.pointer none) h) fun t42 =>
 let t6:Value:=t42
 Q (.ret t6) h)
 (let t43:Value:=t1
 let t44:Value:=t1
 bq (lenS t44) fun t45 =>
 bq (bd #[(Value.int .i64 0),(Value.int .i64 0)] [(0,1,(Value.int .i64 0)),(1,1,t45)]) fun t46 =>
 HC Tryz.prog 9 (([]:List Value)++[t43,t46]++([]:List Value)).toArray h (resK (fun t47 h =>
 let t10:Value:=t47
 let t11:Value:=(Value.int .i64 0)
 let t48:Value:=t1
 bq (lenS t48) fun t49 =>
 let t50:Value:=t2
 HC Tryz.prog 10 (([]:List Value)++[t49,t50]++([]:List Value)).toArray h (resK (fun t51 h =>
 let t12:Value:=t51
 let t13:Value:=(Value.int .i64 0)
 H3_11 t1 t9 t10 t11 t12 t13 h Q) (fun v h=>Q (.pan v) h))) (fun v h=>Q (.pan v) h)))) undef h) (fun v h=>Q (.pan v) h)))) undef h) (opNew h 25 #[(Value.int .i64 0),(Value.int .i64 0)]).1 (opNew h 25 #[(Value.int .i64 0),(Value.int .i64 0)]).2) (fun v h=>Q (.pan v) h))
theorem X3_eq (t0 t1 t2:Value) (h:AH) (Q:RQ):X3 t0 t1 t2 h Q=wpC Tryz.prog L3 code3 (argA [t0,t1,t2] Tryz.f3.ntmps) h (retK Tryz.prog res3 Q):=by kernel_rfl
theorem X3_body:Tryz.f3.body=some code3:=by kernel_rfl
theorem X3_ok {t0 t1 t2:Value} {h:AH} {Q:RQ} (H:X3 t0 t1 t2 h Q):HC Tryz.prog 3 [t0,t1,t2].toArray h Q:=HC.body Tryz.func3 X3_body ((X3_eq t0 t1 t2 h Q).mp H)
end Go.Proofs.YtibigfkeaemanaaGreatDoor.X
end
section
namespace Go.Proofs.YtibigfkeaemanaaGreatDoor.L
open Go.Ab Go.Lang Go.Proofs.YtibigfkeaemanaaGreatDoor.X
set_option maxRecDepth 100000
theorem eqs_rec {x0 y0:Int} {x1 y1:ByteArray}:flat Tryz.prog (Op.equalIn 10000 37 (.agg #[(.int .i64 x0),(.string x1)]) (.agg #[(.int .i64 y0),(.string y1)]))=some ((x0 == y0) && ((x1.toList == y1.toList) && true)):=by exact ((flat_struct (fs:=#[⟨ "At",3,0,false, "", "",0⟩,⟨ "Line",9,1,false, "", "",8⟩]) (by kernel_rfl) (by kernel_rfl)).trans (flat_fcons (a:=(.int .i64 x0)) (b:=(.int .i64 y0)) (r:=(x0 == y0)) (by decide) (by kernel_rfl) (by kernel_rfl) (flat_eqInt (k:=.i64) (by kernel_rfl)) (flat_fcons (a:=(.string x1)) (b:=(.string y1)) (r:=(x1.toList == y1.toList)) (by decide) (by kernel_rfl) (by kernel_rfl) (flat_eqStr (by kernel_rfl)) flat_fnil)))
theorem neq_rec {x0 y0:Int} {x1 y1:ByteArray} {x y:Operand} {h:AH}:binV Tryz.prog .neq 37 x y (.agg #[(.int .i64 x0),(.string x1)]) (.agg #[(.int .i64 y0),(.string y1)]) h=some (.bool (!((x0 == y0) && ((x1.toList == y1.toList) && true)))):=by exact bin_neqStruct (by kernel_rfl) rfl rfl eqs_rec
theorem neq_pair {x0 y0:ByteArray} {x1 y1:ByteArray} {x y:Operand} {h:AH}:binV Tryz.prog .neq 40 x y (.agg #[(.string x0),(.string x1)]) (.agg #[(.string y0),(.string y1)]) h=some (.bool (!((x0.toList == y0.toList) && ((x1.toList == y1.toList) && true)))):=by exact bin_neqStruct (by kernel_rfl) rfl rfl eqs_40
theorem Pt.fa {h:AH} {p:Value} {c:Array Value} {off n:Nat} (x:Pt h p c) (hc:off + n ≤ c.size):∃ p',Ab.fa off n p=some p'∧Pt h p' (c.extract off (off + n)):=by
 cases x with
 | fp c=>exact ⟨FPv (c.extract off (off + n)),by show (if off + n ≤ c.size then _ else _)=_;rw [if_pos hc],.fp _⟩
 | ptr hk hg hc' =>
  rename_i k o m c e fz s
  simp at hc
  refine ⟨.pointer (some ⟨k,o + off,none⟩),by unfold Ab.fa;simp only;rw [if_neg (by simp),add_off],?_⟩
  have e1:(c.extract o (o + m)).extract off (off + n)=c.extract (o + off) (o + off + n):=by
   rw [Array.extract_extract]
   congr 1 <;> omega
  rw [e1]
  exact .ptr hk hg (by omega)
structure LawS (q:Nat) (p:Lang.Prog) (xs:List (Value × List Value)) (h:AH):Prop where
 g:Gl h
 n:Nib h
 lt:q < h.size
 gq:h.get q=some (.cells (celP p).toArray 66 (0,0),none)
 rd:∀ x ∈ xs,Rd h 2 x.1 x.2
theorem LawS.kp {q:Nat} {p:Lang.Prog} {xs:List (Value × List Value)} {h h':AH} (S:LawS q p xs h) (K:Kp h.size h h'):LawS q p xs h' :=
 ⟨S.g.kp K,S.n.kp K,Nat.lt_of_lt_of_le S.lt K.size,(K.get _ S.lt).trans S.gq,fun x hx=>(S.rd x hx).mono K⟩
theorem LawS.add {q:Nat} {p:Lang.Prog} {xs:List (Value × List Value)} {h:AH} (S:LawS q p xs h) {v:Value} {l:List Value} (R:Rd h 2 v l):LawS q p ((v,l)::xs) h :=
 ⟨S.g,S.n,S.lt,S.gq,fun x hx=>by
  rcases List.mem_cons.1 hx with rfl | hx
  ·exact R
  ·exact S.rd x hx⟩
theorem LawS.tail {q:Nat} {p:Lang.Prog} {y:Value × List Value} {xs:List (Value × List Value)} {h:AH} (S:LawS q p (y::xs) h):LawS q p xs h :=
 ⟨S.g,S.n,S.lt,S.gq,fun x hx=>S.rd x (List.mem_cons_of_mem _ hx)⟩
theorem pairs_len (l:List (ByteArray × ByteArray)):(l.map encPair).length=l.length:=by simp
theorem pair_loop {q:Nat} {p:Lang.Prog} (hok:okE p.part=true) {a b vr t1 t10 t11 t12 t13:Value} {k:Nat} {rs:List Value} {xs:List (Value × List Value)} {out:Lang.Out} (ho:out.length ≤ 1024) (hk:∀ x ∈ out,x.1.size ≤ 4611686018427387904) (hkk:k ≤ 4611686018427387904) {Q:RQ}
  (next:∀ h',LawS q p ((vr,rs)::xs) h'→H3_15 t1 (.pointer (some ⟨q,0,none⟩)) t10 t11 t12 t13 vr (.int .i64 (k + 1:Nat)) h' Q) :
  ∀ (r:List (ByteArray × ByteArray)) (j:Nat) (h:AH),out.drop j=r→j ≤ out.length→LawS q p ((b,out.map encPair)::(a,out.map encPair)::(vr,rs)::xs) h →
  H3_24 t1 (.pointer (some ⟨q,0,none⟩)) t10 t11 t12 t13 vr (.int .i64 (k:Nat)) a b (.int .i64 (j:Nat)) h Q:=by
 intro r
 induction r with
 | nil =>
  intro j h hd hj S
  have:=drop_nil hd
  refine X3_24_ok ?_
  unfold X3_24
  have e:¬ ((j:Int) < out.length):=by omega
  have el:=(S.rd (a,out.map encPair) (by simp)).len
  rw [pairs_len] at el
  have ew:IntKind.i64.wrap ((k:Int) + 1)=((k + 1:Nat):Int):=(wrap64 (by omega) (by omega)).trans (by omega)
  simp (disch:=first|exact dz|fail) only [e,el,ew,SXB,SX,simprocAttr]
  exact next h S.tail.tail
 | cons x r ih =>
  intro j h hd hj S
  obtain ⟨h1,h2,h3⟩:=drop_cons hd
  refine X3_24_ok ?_
  unfold X3_24
  have e:((j:Int) < out.length):=by omega
  have Ra:=S.rd (a,out.map encPair) (by simp)
  have Rb:=S.rd (b,out.map encPair) (by simp)
  have el:=Ra.len
  rw [pairs_len] at el
  have hx:(out.map encPair)[j]?=some (encPair x):=by rw [List.getElem?_map,h1];rfl
  obtain ⟨pa,a1,a2,a3⟩:=Ra.el j _ hx
  obtain ⟨pb,b1,b2,b3⟩:=Rb.el j _ hx
  obtain ⟨pk,c1,c2⟩:=Pt.fa (off:=0) (n:=1) a2 (by rw [a3];decide)
  have c3:=c2.ld1 (by simp [a3])
  have hc:(((encPair x).cells.extract 0 (0 + 1))[0]?:Option Value)=some (.string x.1):=rfl
  rw [hc] at c3
  dsimp only at a1 b1
  generalize hfa:Ab.fa 0 1=f0 at c1 ⊢
  simp (disch:=first|exact dz|fail) only [e,el,a1,c1,c3,SXB,SX,simprocAttr]
  refine (part_ok (M:=4611686018427387904) (by omega) (by omega) S.n S.g.t hok S.gq (hk x (List.mem_of_getElem? h1)) S.lt (parts:=7) (by omega) (by omega)).mono ?_
  rintro rr h' ⟨K,n,rfl,hn0,hn7⟩
  have S':=S.kp K
  have d1:=(a2.mono K).ldN (n:=2) (by rw [a3])
  have d2:=(b2.mono K).ldN (n:=2) (by rw [b3])
  have ee:Value.agg (encPair x).cells=.agg #[.string x.1,.string x.2]:=rfl
  rw [ee] at d1 d2
  have en1:¬ n < 0:=by omega
  have en2:¬ 6 < n:=by omega
  have ew:IntKind.i64.wrap ((j:Int) + 1)=((j + 1:Nat):Int):=(wrap64 (by omega) (by omega)).trans (by omega)
  simp (disch:=first|exact dz|fail) only [a1,b1,d1,d2,neq_pair,en1,en2,ew,SXB,SX,simprocAttr]
  exact ih (j + 1) h' h2 (by omega) S'
theorem gs_rd {h:AH} {v:Value} {out:Lang.Out} (o:Gs 40 2 h v (out.map encPair)) (hb:∀ k,blkOf v=some k→k < h.size):Rd h 2 v (out.map encPair) :=
 o.rd (fun v hv=>by obtain ⟨x,_,rfl⟩:=List.mem_map.1 hv;rfl) hb
theorem recs_len (l:List (Nat × ByteArray)):(l.map encR).length=l.length:=by simp
theorem rec_loop {q:Nat} {p:Lang.Prog} (hok:okP p) (hneed:2 + needB p.map ≤ 999999) {t1 vw vl vr:Value} {i:Nat} {W rs rest:List (Nat × ByteArray)} (hW:W.length ≤ 1073741824) (hrl:rs.length ≤ 1073741824) (hsz:∀ x ∈ W,x.2.size ≤ 1048576) {xs:List (Value × List Value)} (hi:i ≤ 1073741824) (hin:(vw,W.map encR) ∈ xs) {Q:RQ}
  (next:∀ n h',W.drop n=rest→n ≤ W.length→LawS q p xs h'→H3_11 t1 (.pointer (some ⟨q,0,none⟩)) vw (.int .i64 (n:Nat)) vl (.int .i64 (i + 1:Nat)) h' Q) :
  ∀ (r:List (Nat × ByteArray)) (k n:Nat) (h:AH),rs.drop k=r→k ≤ rs.length→W.drop n=r++rest→n ≤ W.length→LawS q p ((vr,rs.map encR)::xs) h →
  H3_15 t1 (.pointer (some ⟨q,0,none⟩)) vw (.int .i64 (n:Nat)) vl (.int .i64 (i:Nat)) vr (.int .i64 (k:Nat)) h Q:=by
 intro r
 induction r with
 | nil =>
  intro k n h hd hk hw hn S
  have:=drop_nil hd
  refine X3_15_ok ?_
  unfold X3_15
  have e:¬ ((k:Int) < rs.length):=by omega
  have el:=(S.rd (vr,rs.map encR) (by simp)).len
  rw [recs_len] at el
  have ew:IntKind.i64.wrap ((i:Int) + 1)=((i + 1:Nat):Int):=(wrap64 (by omega) (by omega)).trans (by omega)
  simp (disch:=first|exact dz|fail) only [e,el,ew,SXB,SX,simprocAttr]
  exact next n h (by simpa using hw) hn S.tail
 | cons x r ih =>
  intro k n h hd hk hw hn S
  obtain ⟨h1,h2,h3⟩:=drop_cons hd
  have hwn:W[n]?=some x:=by
   have:=congrArg (fun l=>l[0]?) hw
   simpa using this
  have hwd:W.drop (n + 1)=r++rest:=by
   rw [← List.tail_drop,hw];rfl
  have hnl:=(List.getElem?_eq_some_iff.1 hwn).1
  refine X3_15_ok ?_
  unfold X3_15
  have e:((k:Int) < rs.length):=by omega
  have e2:¬ ((W.length:Int) ≤ n):=by omega
  have Rr:=S.rd (vr,rs.map encR) (by simp)
  have Rw:=S.rd (vw,W.map encR) (List.mem_cons_of_mem _ hin)
  have el:=Rr.len
  have el2:=Rw.len
  rw [recs_len] at el el2
  obtain ⟨pr,a1,a2,a3⟩:=Rr.el k (encR x) (by rw [List.getElem?_map,h1];rfl)
  obtain ⟨pw,b1,b2,b3⟩:=Rw.el n (encR x) (by rw [List.getElem?_map,hwn];rfl)
  obtain ⟨pl,c1,c2⟩:=Pt.fa (off:=1) (n:=1) a2 (by rw [a3];decide)
  have d1:=a2.ldN (n:=2) (by rw [a3])
  have d2:=b2.ldN (n:=2) (by rw [b3])
  have ee:Value.agg (encR x).cells=.agg #[.int .i64 (x.1:Nat),.string x.2]:=rfl
  rw [ee] at d1 d2
  have c3:=c2.ld1 (by simp [a3])
  have hc:(((encR x).cells.extract 1 (1 + 1))[0]?:Option Value)=some (.string x.2):=rfl
  rw [hc] at c3
  dsimp only at a1 b1
  have ew:IntKind.i64.wrap ((n:Int) + 1)=((n + 1:Nat):Int):=(wrap64 (by omega) (by omega)).trans (by omega)
  generalize hfa:Ab.fa 1 1=f1 at c1 ⊢
  simp (disch:=first|exact dz|fail) only [e,el,e2,el2,a1,b1,d1,d2,c1,c3,neq_rec,ew,SXB,SX,simprocAttr]
  have hx2:=hsz x (List.mem_of_getElem? hwn)
  obtain ⟨o1,o2⟩:=map_out (M:=1048576) (by omega) hok.1 (key:=⟨#[48]⟩) (val:=x.2) (by show 1 ≤ _;omega) hx2
  refine (evmap_ok (M:=1048576) (by omega) (by omega) hok.1 (.inl (by omega)) hneed S.g.t S.gq (key:=⟨#[48]⟩) (val:=x.2) (by show 1 ≤ _;omega) hx2).mono ?_
  rintro rr ha ⟨oa,rfl,Ka,Oa,ba⟩
  have Sa:=S.kp Ka
  have c4:=(c2.mono Ka).ld1 (by simp [a3])
  rw [hc] at c4
  simp (disch:=first|exact dz|fail) only [c4,SXB,SX,simprocAttr]
  refine (evmap_ok (M:=1048576) (by omega) (by omega) hok.1 (.inl (by omega)) hneed Sa.g.t Sa.gq (key:=⟨#[48]⟩) (val:=x.2) (by show 1 ≤ _;omega) hx2).mono ?_
  rintro rr hb ⟨ob,rfl,Kb,Ob,bb⟩
  generalize mapV itoaB p ⟨#[48]⟩ x.2=out at o1 o2 Oa Ob
  have Sb:=((Sa.add (gs_rd Oa fun k hk=>(ba k hk).2)).kp Kb).add (gs_rd Ob fun k hk=>(bb k hk).2)
  have la:=(Sb.rd (oa,out.map encPair) (by simp)).len
  have lb:=(Sb.rd (ob,out.map encPair) (by simp)).len
  rw [pairs_len] at la lb
  have en:¬ (1024:Int) < out.length:=by omega
  simp (disch:=first|exact dz|fail) only [la,lb,en,SXB,SX,simprocAttr]
  refine pair_loop hok.2.2.2 o1 (fun y hy=>Nat.le_trans (o2 y hy) (by omega)) (by omega) (xs:=xs) (rs:=rs.map encR) (fun h' S'=>?_) out 0 hb rfl (Nat.zero_le _) Sb
  exact ih (k + 1) (n + 1) h' h2 (by omega) hwd (by omega) S'
theorem flat_drop {α β:Type} (f:α→List β) {L:List α} {i:Nat} {x:α} {r:List α} (h:L.drop i=x::r):(L.drop i).flatMap f=f x++(L.drop (i + 1)).flatMap f:=by
 have:L.drop (i + 1)=r:=by rw [← List.tail_drop,h];rfl
 rw [h,this,List.flatMap_cons]
theorem spl_len (l:List (Nat × Nat)):(l.map encSp).length=l.length:=by simp
theorem split_loop {q:Nat} {p:Lang.Prog} (hok:okP p) (hneed:2 + needB p.map ≤ 999999) {s:ByteArray} (hs:s.size ≤ 1048576) {vw vl:Value} {L:List (Nat × Nat)} (hL:L.length ≤ 1073741824) {xs:List (Value × List Value)} (hin:(vw,(allR s).map encR) ∈ xs) (hin2:(vl,L.map encSp) ∈ xs) :
  ∀ (r:List (Nat × Nat)) (i n:Nat) (h:AH),L.drop i=r→i ≤ L.length→(allR s).drop n=(L.drop i).flatMap (recsOf s)→n ≤ (allR s).length→LawS q p xs h →
  H3_11 (.string s) (.pointer (some ⟨q,0,none⟩)) vw (.int .i64 (n:Nat)) vl (.int .i64 (i:Nat)) h fun r _=>∃ v,r=.ret v∧v=.bool true:=by
 have hW:(allR s).length ≤ 1073741824:=by
  have:=recF_len (s:=s) (lo:=0) (hi:=s.size) (s.size + 1) 0 (by omega)
  unfold allR;omega
 have hsz:∀ x ∈ allR s,x.2.size ≤ 1048576:=fun x hx=>by
  have:=(recF_ge (s:=s) (lo:=0) (hi:=s.size) (s.size + 1) 0 (by omega) x hx).2.2
  omega
 intro r
 induction r with
 | nil =>
  intro i n h hd hi hw hn S
  have:=drop_nil hd
  rw [hd] at hw
  have hnn:=drop_nil hw
  refine X3_11_ok ?_
  unfold X3_11
  have e:¬ ((i:Int) < L.length):=by omega
  have el:=(S.rd (vl,L.map encSp) hin2).len
  have el2:=(S.rd (vw,(allR s).map encR) hin).len
  rw [spl_len] at el
  rw [recs_len] at el2
  have e2:((n:Int) == ((allR s).length:Nat))=true:=by simp;omega
  simp (disch:=first|exact dz|fail) only [e,el,el2,e2,SXB,SX,simprocAttr]
  exact ⟨_,rfl,rfl⟩
 | cons x r ih =>
  intro i n h hd hi hw hn S
  obtain ⟨h1,h2,h3⟩:=drop_cons hd
  rw [flat_drop _ hd] at hw
  refine X3_11_ok ?_
  unfold X3_11
  have e:((i:Int) < L.length):=by omega
  have Rl:=S.rd (vl,L.map encSp) hin2
  have el:=Rl.len
  rw [spl_len] at el
  obtain ⟨px,a1,a2,a3⟩:=Rl.el i (encSp x) (by rw [List.getElem?_map,h1];rfl)
  have d1:=a2.ldN (n:=2) (by rw [a3])
  have ee:Value.agg (encSp x).cells=encSp x:=rfl
  rw [ee] at d1
  dsimp only at a1
  simp (disch:=first|exact dz|fail) only [e,el,a1,d1,SXB,SX,simprocAttr]
  refine (recs_ok (by omega) x.1 x.2).mono ?_
  rintro rr h' ⟨vr,rfl,K,O,b⟩
  have S':=S.kp K
  have Rr:Rd h' 2 vr ((recsOf s x).map encR):=O.rd (fun v hv=>by obtain ⟨y,_,rfl⟩:=List.mem_map.1 hv;rfl) fun k hk=>(b k hk).2
  have hrl:(recsOf s x).length ≤ 1073741824:=by
   have:=recF_len (s:=s) (lo:=x.1) (hi:=x.2) (s.size + 1) 0 (by omega)
   unfold recsOf;omega
  simp (disch:=first|exact dz|fail) only [SXB,SX,simprocAttr]
  refine rec_loop hok hneed hW hrl hsz (by omega) hin (fun n' h2' hw' hn' S2=>?_) (recsOf s x) 0 n h' rfl (Nat.zero_le _) hw hn (S'.add Rr)
  exact ih (i + 1) n' h2' h2 (by omega) hw' hn' S2
end Go.Proofs.YtibigfkeaemanaaGreatDoor.L
end
