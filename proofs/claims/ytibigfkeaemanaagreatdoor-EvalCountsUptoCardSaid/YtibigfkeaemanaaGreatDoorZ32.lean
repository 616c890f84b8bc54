import Derived.KernelRfl
import Derived.Test.YtibigfkeaemanaaGreatDoorProg
import Derived.Test.YtibigfkeaemanaaGreatDoorZ15
import Derived.Test.YtibigfkeaemanaaGreatDoorZ19
import Derived.Test.YtibigfkeaemanaaGreatDoorZ31
set_option linter.unusedVariables false
set_option linter.unusedSimpArgs false
section
namespace Go.Ab
inductive Gs (e z:Nat) (h:AH):Value→List Value→Prop
 | nil:Gs e z h (.slice none 0 0) []
 | row {k:Nat} {c:Array Value} {l x:List Value} {sp:Option Nat} (hg:h.get k=some (.cells c e (0,0),sp)) (hsp:sp=none ∨ sp=some z) (hc:c=(flatC (l++x)).toArray) (hx:∀ v ∈ x,v.cells.size=z) (hp:0 < l.length + x.length) :
   Gs e z h (.slice (some ⟨k,0,none⟩) l.length (l.length + x.length)) l
theorem Gs.of_own {e z:Nat} {h:AH} {s:Value} {l:List Value} (o:Own e z h s l):Gs e z h s l:=by
 cases o with
 | nil=>exact .nil
 | row hg hc hx hp=>exact .row hg (.inr rfl) hc hx hp
theorem Gs.mono {e z:Nat} {h h':AH} {s:Value} {l:List Value} (o:Gs e z h s l) (hg:∀ k,blkOf s=some k→h'.get k=h.get k):Gs e z h' s l:=by
 cases o with
 | nil=>exact .nil
 | row h1 hsp hc hx hp=>exact .row ((hg _ rfl).trans h1) hsp hc hx hp
theorem Gs.len {e z:Nat} {h:AH} {s:Value} {l:List Value} (o:Gs e z h s l):lenL s=some (.int .i64 l.length):=by
 cases o <;> rfl
theorem Gs.isSl {e z:Nat} {h:AH} {s:Value} {l:List Value} (o:Gs e z h s l):∃ a n c,s=.slice a n c:=by
 cases o <;> exact ⟨_,_,_,rfl⟩
theorem Gs.src {e z:Nat} {h:AH} {s:Value} {l:List Value} (o:Gs e z h s l) (hz:∀ v ∈ l,v.cells.size=z):Src h z s l:=by
 cases o with
 | nil=>exact Src.nil (n:=0)
 | row h1 hsp hc hx hp =>
  have hl:=flatC_length hz
  refine Src.row h1 hz ?_ ?_
  ·rw [hc];simp [flatC,← hl]
  ·rw [hc,Nat.zero_add,← hl];simp [flatC]
theorem Gs.append {e z bytes:Nat} {zero:Value} {h:AH} {s x:Value} {l m:List Value} (o:Gs e z h s l) (hx:Src h z x m) (hl:∀ v ∈ l,v.cells.size=z) (hm:∀ v ∈ m,v.cells.size=z) (hone:∀ v ∈ flatC m,v.oneCell' = true)
  (hz:0 < z) (hb:0 < bytes) (hb':bytes < 1073741824) (hzero:zero.cells.size=z) (hs:(l.length + m.length) * bytes < 1099511627776) :
  ∃ s' h',apT e z bytes (some zero) h s x=some (s',h')∧Gs e z h' s' (l++m)∧h.size ≤ h'.size∧(∀ k,k < h.size→blkOf s ≠ some k→h'.get k=h.get k)∧(blkOf s' = blkOf s ∨ ∃ k,blkOf s' = some k∧h.size ≤ k∧k < h'.size):=by
 have hlm:=flatC_length hm
 have hll:=flatC_length hl
 obtain ⟨h1,h2⟩:=hx
 have hfm:(flatC m).toArray.size=m.length * z:=by simp [hlm]
 have hcat:∀ a b:List Value,flatC (a++b)=flatC a++flatC b:=fun a b=>by simp [flatC]
 cases o with
 | nil =>
  obtain ⟨s',h',a1,a2,a3,a4,a5⟩:=(Hld.nil (e:=e) (z:=z) (h:=h) (lo:=0)).append ⟨h1,h2⟩ (Nat.zero_le _) hl hm hone hz hb hb' hzero hs
  exact ⟨s',h',a1,.of_own (.of_hld a2),a3,a4,a5⟩
 | row hg hsp hc hxz hp =>
  rename_i k c r sp
  have hrl:=flatC_length hxz
  have hcs:c.size=(l.length + r.length) * z:=by rw [hc,hcat];simp [hll,hrl,Nat.add_mul]
  unfold apT
  simp only [h1,h2,hfm,if_true]
  by_cases hroom:m.length ≤ r.length
  ·rw [if_pos (by omega)]
   by_cases h0:m.length * z=0
   ·have hm0:m=[]:=by
     rcases Nat.mul_eq_zero.1 h0 with e1 | e1
     ·exact List.eq_nil_of_length_eq_zero e1
     ·omega
    subst hm0
    refine ⟨_,h,by rw [if_pos h0];rfl,?_,Nat.le_refl _,fun _ _ _=>rfl,.inl rfl⟩
    have:=Gs.row (x:=r) hg hsp hc hxz hp
    rw [List.append_nil];exact this
   ·rw [if_neg h0]
    simp only [Option.isSome_none,Bool.false_eq_true,if_false]
    have hset:opSetCells h (Addr.add ⟨k,0,none⟩ (l.length * z)) (flatC m).toArray=some (h.put k (some (.cells (flatC (l++m++r.drop m.length)).toArray e (0,0),sp))):=by
     rw [add_off]
     unfold opSetCells
     simp only [Option.isSome_none,Bool.false_eq_true,if_false,hg]
     have hle:0 + l.length * z + (flatC m).toArray.size ≤ c.size:=by
      rw [hfm,hcs,Nat.zero_add,← Nat.add_mul];exact Nat.mul_le_mul_right _ (by omega)
     rw [if_pos ⟨trivial,hle,by simpa using hone⟩]
     congr 5
     have e1:flatC (l++r)=flatC l++(flatC (r.take m.length)++flatC (r.drop m.length)):=by
      rw [hcat,← hcat (r.take _),List.take_append_drop]
     rw [hc,e1]
     show setFrom _ _ (flatC m)=_
     rw [setFrom_mid (n:=flatC m) ?_ (by rw [Nat.zero_add,hll])]
     ·rw [hcat,hcat,List.append_assoc]
     ·rw [flatC_length (fun v hv=>hxz v (List.mem_of_mem_take hv)),hlm,List.length_take,Nat.min_eq_left hroom]
    rw [hset]
    refine ⟨_,_,rfl,?_,by simp,fun j hj hne=>get_put_ne (fun e=>hne (by rw [e];rfl)),.inl rfl⟩
    have:=Gs.row (e:=e) (z:=z) (h:=h.put k (some (.cells (flatC (l++m++r.drop m.length)).toArray e (0,0),sp))) (k:=k) (l:=l++m) (x:=r.drop m.length) (get_put_eq rfl) hsp rfl (fun v hv=>hxz v (List.mem_of_mem_drop hv)) (by simp;omega)
    have e2:(l++m).length + (r.drop m.length).length=l.length + r.length:=by simp;omega
    rw [e2] at this
    simpa using this
  ·rw [if_neg (by omega),if_pos ⟨hz,hb,by simpa using hb',by simpa using hs,by simpa using hzero⟩]
   have hsrc:=(Gs.src (Gs.row (x:=r) hg hsp hc hxz hp) hl).2
   have hfl:(flatC l).toArray.size=l.length * z:=by simp [hll]
   simp only [hsrc,hfl,if_true,hg]
   rcases hsp with rfl | rfl
   ·refine ⟨_,_,rfl,?_,by simp,fun j hj hne=>?_,.inr ⟨h.size,rfl,Nat.le_refl _,by simp⟩⟩
    ·have:=Gs.row (e:=e) (z:=z) (h:=h.push (.cells ((flatC l).toArray++(flatC m).toArray) e (0,0)) (some z)) (k:=h.size) (l:=l++m) (x:=[]) (get_push_eq rfl) (.inr rfl) (by rw [List.append_nil,hcat];simp) (by simp) (by simp;omega)
     simpa using this
    ·rw [get_push_ne (by omega)]
   ·dsimp only
    rw [if_pos ⟨rfl,rfl,rfl,trivial,trivial,hp,by simpa using hone⟩]
    refine ⟨_,_,rfl,?_,by simp,fun j hj hne=>?_,.inr ⟨h.size,rfl,Nat.le_refl _,by simp⟩⟩
    ·have:=Gs.row (e:=e) (z:=z) (h:=(h.put k none).push (.cells ((flatC l).toArray++(flatC m).toArray) e (0,0)) (some z)) (k:=h.size) (l:=l++m) (x:=[]) (get_push_eq rfl) (.inr rfl) (by rw [List.append_nil,hcat];simp) (by simp) (by simp;omega)
     simpa using this
    ·rw [get_push_ne (by simp;omega),get_put_ne (fun e=>hne (by rw [e];rfl))]
theorem Gs.rd {e:Nat} {h:AH} {z:Nat} {v:Value} {l:List Value} (o:Gs e z h v l) (hz:∀ v ∈ l,v.cells.size=z) (hb:∀ k,blkOf v=some k→k < h.size):Rd h z v l:=by
 refine ⟨o.len,fun i x hx=>?_⟩
 have hxz:=hz x (List.mem_of_getElem? hx)
 have hi:=(List.getElem?_eq_some_iff.1 hx).1
 cases o with
 | nil=>cases hx
 | row hg hsp hc hrz hp =>
  rename_i k c r sp
  have hall:∀ v ∈ l++r,v.cells.size=z:=fun v hv=>(List.mem_append.1 hv).elim (hz v) (hrz v)
  have hsz:c.size=(l.length + r.length) * z:=by rw [hc];simp [flatC_length hall]
  have hle:i * z + z ≤ (l.length + r.length) * z:=by rw [← Nat.succ_mul];exact Nat.mul_le_mul_right _ (by omega)
  refine ⟨.pointer (some ⟨k,i * z,none⟩),?_,?_,hxz⟩
  ·rw [ia_sl,if_pos ⟨by omega,by omega⟩]
   simp
  ·have e:x.cells=c.extract (i * z) (i * z + z):=by
    apply Array.ext
    ·simp;omega
    ·intro j h1 h2
     rw [Array.getElem_extract]
     have:=flatC_at hall j (i:=i) (x:=x) (by rw [List.getElem?_append_left hi];exact hx) (by omega)
     apply Option.some.inj
     rw [← Array.getElem?_eq_getElem,← this,← Array.getElem?_eq_getElem,hc]
     simp
   rw [e]
   exact .ptr (hb _ rfl) hg (by omega)
def cutS:Value→Nat→Value
 | .slice b _ c,k=>.slice b k c
 | v,_=>v
theorem Gs.cutV {P:Program} {e z t el k:Nat} {d:TypeInfo} {h:AH} {v:Value} {l:List Value} (o:Gs e z h v l) (hu:P.underlying t=some (.slice el)) (hd:P.info? el=some d) (hds:d.size=z)
  (hz:∀ v ∈ l,v.cells.size=z) (hk:k ≤ l.length):sliceV P h t v none (some (.int .i64 (k:Int)))=some (cutS v k)∧Gs e z h (cutS v k) (l.take k)∧blkOf (cutS v k)=blkOf v:=by
 cases o with
 | nil =>
  obtain rfl:k=0:=by simpa using hk
  refine ⟨?_,.nil,rfl⟩
  show opSlice P h t (.slice none 0 0) none (some (.int .i64 ((0:Nat):Int)))=_
  unfold opSlice
  rw [hu]
  simp only [hd,bounds_high (Nat.le_refl 0)]
  rfl
 | row hg hsp hc hx hp =>
  rename_i b c r sp
  refine ⟨?_,?_,rfl⟩
  ·rcases hsp with rfl | rfl
   ·show opSlice P h t (.slice (some ⟨b,0,none⟩) l.length (l.length + r.length)) none (some (.int .i64 (k:Int)))=_
    unfold opSlice
    rw [hu]
    simp only [hd,bounds_high (len:=l.length) (show k ≤ l.length + r.length by omega),hg,add_off]
    simp [hds,cutS]
   ·show opSlice P h t (.slice (some ⟨b,0,none⟩) l.length (l.length + r.length)) none (some (.int .i64 (k:Int)))=_
    unfold opSlice
    rw [hu]
    simp only [hd,bounds_high (len:=l.length) (show k ≤ l.length + r.length by omega),hg,add_off]
    simp [hds,cutS]
  ·have:=Gs.row (e:=e) (z:=z) (h:=h) (k:=b) (l:=l.take k) (x:=l.drop k++r) hg hsp (by rw [← List.append_assoc,List.take_append_drop];exact hc) (fun v hv=>(List.mem_append.1 hv).elim (fun q=>hz v (List.mem_of_mem_drop q)) (hx v)) (by simp;omega)
   have e1:(l.take k).length=k:=by simp;omega
   have e2:(l.take k).length + (l.drop k++r).length=l.length + r.length:=by simp;omega
   rw [e2,e1] at this
   exact this
theorem Src.one {h:AH} {k:Nat} {v:Value} {c:Array Value} {e z:Nat} {fz:Nat × Nat} {s:Option Nat} (hg:h.get k=some (.cells c e fz,s)) (hc:v.cells=c) (hz:c.size=z):Src h z (.slice (some ⟨k,0,none⟩) 1 1) [v]:=by
 subst hc
 have hfl:flatC [v]=v.cells.toList:=by simp [flatC]
 refine Src.row (m:=[v]) hg (fun x hx=>by rw [List.mem_singleton.1 hx];exact hz) (by simp [hz]) ?_
 rw [hfl];simp [hz]
end Go.Ab
end
section
namespace Go.Proofs.YtibigfkeaemanaaGreatDoor.L
open Go.Ab Go.Lang Go.Proofs.YtibigfkeaemanaaGreatDoor.X
set_option maxRecDepth 100000
theorem slOne {s:Value} {l:List Value} (h:Sl s l):s.oneCell' = true:=by cases h <;> rfl
theorem slBelow {n:Nat} {s:Value} {l:List ByteArray} (h:Sl s (strL l)):Below n s:=by
 generalize he:strL l=v at h
 cases h with
 | nil=>exact .nilSlice 0 0
 | vs =>
  subst he
  refine .vs fun v hv=>?_
  unfold strL at hv
  obtain ⟨w,hw,hv⟩:=List.mem_flatMap.1 hv
  obtain ⟨t,_,rfl⟩:=List.mem_map.1 hw
  simp [Value.cells] at hv
  subst hv
  exact .string _
theorem VR.below {n:Nat} {v:Value} {x:V} (h:VR v x):Below n v:=by
 obtain ⟨s,hs,rfl⟩:=h
 refine .agg fun v hv=>?_
 simp at hv
 rcases hv with rfl | rfl | rfl
 ·exact .int _ _
 ·exact .string _
 ·exact slBelow hs
theorem VR.size {v:Value} {x:V} (h:VR v x):v.cells.size=3:=by obtain ⟨s,hs,rfl⟩:=h;rfl
theorem VR.ones {v:Value} {x:V} (h:VR v x):∀ z ∈ v.cells.toList,z.oneCell' = true:=by
 obtain ⟨s,hs,rfl⟩:=h
 intro z hz
 simp [Value.cells] at hz
 rcases hz with rfl | rfl | rfl
 ·rfl
 ·rfl
 ·exact slOne hs
def encPair (p:ByteArray × ByteArray):Value:=.agg #[.string p.1,.string p.2]
inductive VRs:List Value→Env→Prop
 | nil:VRs [] []
 | cons {v:Value} {x:ByteArray × V} {vs:List Value} {e:Env} (h:VR v x.2) (t:VRs vs e):VRs (v::vs) (x::e)
theorem VRs.len {vs:List Value} {e:Env} (h:VRs vs e):vs.length=e.length:=by induction h <;> simp_all
theorem VRs.at_ {vs:List Value} {e:Env} (h:VRs vs e):∀ {i:Nat} {x:ByteArray × V},e[i]?=some x→∃ v,vs[i]?=some v∧VR v x.2:=by
 induction h with
 | nil=>intro i x hx;cases hx
 | cons h t ih =>
  intro i y hy
  cases i with
  | zero=>cases hy;exact ⟨_,rfl,h⟩
  | succ i=>exact ih hy
theorem VRs.size {vs:List Value} {e:Env} (h:VRs vs e):∀ v ∈ vs,v.cells.size=3:=by
 induction h with
 | nil=>intro v hv;cases hv
 | cons h t ih =>
  intro v hv
  cases hv with
  | head=>exact h.size
  | tail _ hv=>exact ih v hv
theorem VRs.append {vs ws:List Value} {e f:Env} (h:VRs vs e) (k:VRs ws f):VRs (vs++ws) (e++f):=by
 induction h with
 | nil=>exact k
 | cons h t ih=>exact .cons h ih
theorem VRs.take {vs:List Value} {e:Env} (h:VRs vs e):∀ n,VRs (vs.take n) (e.take n):=by
 induction h with
 | nil=>intro n;simp;exact .nil
 | cons h t ih =>
  intro n
  cases n with
  | zero=>exact .nil
  | succ n=>exact .cons h (ih n)
def nmL (e:Env):List Value:=e.map fun p=>.string p.1
theorem nmL_size (e:Env):∀ v ∈ nmL e,v.cells.size=1:=fun v hv=>by
 obtain ⟨t,_,rfl⟩:=List.mem_map.1 hv
 rfl
structure Tri where
 n:Value
 v:Value
 o:Value
def Tri.has (t:Tri) (k:Nat):Prop:=blkOf t.n=some k ∨ blkOf t.v=some k ∨ blkOf t.o=some k
structure EnvS (h:AH) (ke:Nat) (t:Tri) (e:Env) (o:Lang.Out):Prop where
 row:h.get ke=some (.cells #[t.n,t.v,t.o] 78 (0,0),none)
 names:Gs 9 1 h t.n (nmL e)
 vals:∃ vs,Gs 68 3 h t.v vs∧VRs vs e
 out:Gs 40 2 h t.o (o.map encPair)
 ne:¬ t.has ke
 d1:∀ k,blkOf t.n=some k→blkOf t.v ≠ some k
 d2:∀ k,blkOf t.n=some k→blkOf t.o ≠ some k
 d3:∀ k,blkOf t.v=some k→blkOf t.o ≠ some k
 lt:ke < h.size
 lts:∀ k,t.has k→k < h.size
structure AdvE (ke:Nat) (t:Tri) (h h':AH):Prop where
 size:h.size ≤ h'.size
 get:∀ k,k < h.size→k ≠ ke→¬ t.has k→h'.get k=h.get k
def Mv (h:AH) (t t':Tri):Prop:=∀ k,t'.has k→t.has k ∨ h.size ≤ k
theorem AdvE.refl (ke:Nat) (t:Tri) (h:AH):AdvE ke t h h:=⟨Nat.le_refl _,fun _ _ _ _=>rfl⟩
theorem Mv.refl (h:AH) (t:Tri):Mv h t t:=fun _ h=>.inl h
theorem Mv.trans {a b:AH} {t u w:Tri} (x:Mv a t u) (y:Mv b u w) (hs:a.size ≤ b.size):Mv a t w:=fun k hk=>by
 rcases y k hk with h | h
 ·exact x k h
 ·exact .inr (Nat.le_trans hs h)
theorem AdvE.trans {ke:Nat} {t u:Tri} {a b c:AH} (x:AdvE ke t a b) (y:AdvE ke u b c) (m:Mv a t u):AdvE ke t a c:=by
 refine ⟨Nat.le_trans x.size y.size,fun k h1 h2 h3=>?_⟩
 rw [y.get k (Nat.lt_of_lt_of_le h1 x.size) h2 fun e=>?_,x.get k h1 h2 h3]
 rcases m k e with h | h
 ·exact h3 h
 ·omega
theorem AdvE.of_kp {ke:Nat} {t:Tri} {h h':AH} (K:Kp h.size h h'):AdvE ke t h h':=⟨K.size,fun k h1 _ _=>K.get k h1⟩
theorem EnvS.keep {h h':AH} {ke:Nat} {t:Tri} {e:Env} {o:Lang.Out} (S:EnvS h ke t e o) (hs:h.size ≤ h'.size) (hg:∀ k,(k=ke ∨ t.has k)→h'.get k=h.get k):EnvS h' ke t e o:=by
 obtain ⟨vs,B,R⟩:=S.vals
 exact ⟨(hg ke (.inl rfl)).trans S.row,S.names.mono fun k hk=>hg k (.inr (.inl hk)),⟨vs,B.mono fun k hk=>hg k (.inr (.inr (.inl hk))),R⟩,S.out.mono fun k hk=>hg k (.inr (.inr (.inr hk))),S.ne,S.d1,S.d2,S.d3,Nat.lt_of_lt_of_le S.lt hs,fun k hk=>Nat.lt_of_lt_of_le (S.lts k hk) hs⟩
theorem EnvS.kp {h h':AH} {ke:Nat} {t:Tri} {e:Env} {o:Lang.Out} (S:EnvS h ke t e o) (K:Kp h.size h h'):EnvS h' ke t e o:=S.keep K.size fun k hk=>K.get k (by rcases hk with rfl | hk;exact S.lt;exact S.lts k hk)
def ExV (f:FuncId) (args:Array Value) (h:AH) (x:V):Prop:=HC Tryz.prog f args h fun r h'=>h' = h∧∃ v,r=.ret v∧VR v x
theorem ExV.pure {f:FuncId} {args:Array Value} {h:AH} {x:V} (hh:HC Tryz.prog f args h fun r h₁=>Kp h.size h h₁∧∃ v,r=.ret v∧VR v x):ExV f args h x :=
 HC.pureF (hh.mono fun r h₁ ⟨a,v,b,c⟩=>⟨a,by rw [b];exact c.below,rfl,v,b,c⟩)
theorem getV_cons (p:ByteArray × V) (e:Env) (x:ByteArray):getV (p::e) x=if eqT p.1 x then p.2 else getV e x:=by
 unfold getV
 rw [List.find?_cons]
 cases eqT p.1 x <;> rfl
theorem get_loop {h:AH} {ke:Nat} {t:Tri} {e:Env} {o:Lang.Out} (S:EnvS h ke t e o) (hlen:e.length ≤ 1099511627776) {x:ByteArray} {Q:RQ}:∀ (r:Env) (i:Nat) (h1:AH),e.drop i=r→i ≤ e.length→Kp h.size h h1→h.size < h1.size→(∃ c,h1.get h.size=some (.cells c 68 (0,0),none)∧c.size=3) →
  (∀ h2 v,Kp h.size h h2→VR v (getV r x)→Q (.ret v) h2)→H35_2 (.pointer (some ⟨ke,0,none⟩)) (.string x) (.pointer (some ⟨h.size,0,none⟩)) t.n (.int .i64 e.length) (.int .i64 i) h1 Q:=by
 intro r
 induction r with
 | nil =>
  intro i h1 hd hi K hlt ⟨c,hg,hc⟩ hq
  have:=drop_nil hd
  refine X35_2_ok ?_
  unfold X35_2
  have e:¬ ((i:Int) < e.length):=by omega
  generalize hs3:stN 3=s3
  simp (disch:=(first | exact dz | fail)) only [e,SXB,SX,reduceIte,Int.reduceLT,Int.reduceLE,Int.reduceToNat,Int.reduceBEq,Int.reduceBNe,Nat.reduceAdd,Nat.reduceMul,Nat.reduceSub,Nat.reduceLeDiff]
  subst hs3
  refine bq_of (stN_full hg hc rfl (fun z hz=>by simp [Value.cells] at hz;rcases hz with rfl | rfl | rfl <;> rfl)) ?_
  simp (disch:=(first | exact dz | fail)) only [SXB,SX,reduceIte,Int.reduceLT,Int.reduceLE,Int.reduceToNat,Int.reduceBEq,Int.reduceBNe,Nat.reduceAdd,Nat.reduceMul,Nat.reduceSub,Nat.reduceLeDiff]
  refine hq _ (encN {}) ?_ (VR.of rfl)
  (repeat (first | exact Kp.refl _ _ | assumption | refine Kp.push ?_ _ _ (by first | omega | (simp only [sz_push,sz_put];omega)) | refine Kp.put ?_ _ _ (by first | omega | (simp only [sz_push,sz_put];omega))))
 | cons p r ih =>
  intro i h1 hd hi K hlt ⟨c,hg,hc⟩ hq
  obtain ⟨h1',h2',h3'⟩:=drop_cons hd
  have S1:=S.kp K
  have N:=S1.names
  obtain ⟨vs,B,R⟩:=S1.vals
  have hr:=S1.row
  refine X35_2_ok ?_
  unfold X35_2
  have e1:(i:Int) < e.length:=by omega
  obtain ⟨q,q1,q2,q3⟩:=(N.rd (nmL_size e) fun k hk=>S1.lts k (.inl hk)).el i (.string p.1) (by unfold nmL;rw [List.getElem?_map,h1'];rfl)
  have q4:=q2.ld1 (by simp [Value.cells])
  rw [show (Value.string p.1).cells[0]?=some (.string p.1) from rfl] at q4
  obtain ⟨v,hv,hvr⟩:=R.at_ h1'
  obtain ⟨q',q1',q2',q3'⟩:=(B.rd R.size fun k hk=>S1.lts k (.inr (.inl hk))).el i v hv
  have q4':=q2'.ldN (n:=3) hvr.size
  have hbin:((p.1.toList == x.toList):Bool)=eqT p.1 x:=rfl
  generalize hs3:stN 3=s3
  generalize hl3:ldN 3=l3 at q4'
  simp (disch:=(first | exact dz | fail)) only [e1,q1,q4,hbin,SXB,SX,reduceIte,Int.reduceLT,Int.reduceLE,Int.reduceToNat,Int.reduceBEq,Int.reduceBNe,Nat.reduceAdd,Nat.reduceMul,Nat.reduceSub,Nat.reduceLeDiff]
  rw [getV_cons] at hq
  cases he:eqT p.1 x with
  | true =>
   rw [he,if_pos rfl] at hq
   simp (disch:=(first | exact dz | fail)) only [hr,q1',q4',SXB,SX,reduceIte,Int.reduceLT,Int.reduceLE,Int.reduceToNat,Int.reduceBEq,Int.reduceBNe,Nat.reduceAdd,Nat.reduceMul,Nat.reduceSub,Nat.reduceLeDiff]
   subst hs3 hl3
   refine bq_of (stN_full hg hc (by rw [cells_agg];exact hvr.size) (fun z hz=>hvr.ones z (by rw [cells_agg] at hz;exact hz))) ?_
   refine bq_of (x:=[.agg v.cells]) ?_ ?_
   ·rw [ldN_full (get_put_eq rfl) (by rw [cells_agg];exact hvr.size),seqO_cons,seqO_nil]
    rfl
   ·rw [oneOf_one]
    refine hq _ _ ?_ ?_
    ·(repeat (first | exact Kp.refl _ _ | assumption | refine Kp.push ?_ _ _ (by first | omega | (simp only [sz_push,sz_put];omega)) | refine Kp.put ?_ _ _ (by first | omega | (simp only [sz_push,sz_put];omega))))
    ·obtain ⟨s,hs,rfl⟩:=hvr
     exact ⟨s,hs,rfl⟩
  | false =>
   rw [he,if_neg Bool.false_ne_true] at hq
   subst hs3 hl3
   simp (disch:=(first | exact dz | fail)) only [SXB,SX,reduceIte,Int.reduceLT,Int.reduceLE,Int.reduceToNat,Int.reduceBEq,Int.reduceBNe,Nat.reduceAdd,Nat.reduceMul,Nat.reduceSub,Nat.reduceLeDiff]
   exact ih (i + 1) h1 h2' (by omega) K hlt ⟨c,hg,hc⟩ hq
theorem get_ok {h:AH} {ke:Nat} {t:Tri} {e:Env} {o:Lang.Out} (S:EnvS h ke t e o) (hlen:e.length ≤ 1099511627776) (x:ByteArray):ExV 35 [.pointer (some ⟨ke,0,none⟩),.string x].toArray h (getV e x):=by
 refine ExV.pure (X35_ok ?_)
 unfold X35
 have hr:=S.row
 have hlt:=S.lt
 have el:=S.names.len
 have hne:(nmL e).length=e.length:=by unfold nmL;simp
 rw [hne] at el
 simp (disch:=(first | exact dz | fail)) only [hr,el,SXB,SX,reduceIte,Int.reduceLT,Int.reduceLE,Int.reduceToNat,Int.reduceBEq,Int.reduceBNe,Nat.reduceAdd,Nat.reduceMul,Nat.reduceSub,Nat.reduceLeDiff]
 refine get_loop S hlen e 0 _ rfl (by omega) ?_ ?_ ⟨_,get_push_eq rfl,rfl⟩ fun h2 v K hv=>⟨K,v,rfl,hv⟩
 ·(repeat (first | exact Kp.refl _ _ | assumption | refine Kp.push ?_ _ _ (by first | omega | (simp only [sz_push,sz_put];omega)) | refine Kp.put ?_ _ _ (by first | omega | (simp only [sz_push,sz_put];omega))))
 ·simp (disch:=(first | exact dz | fail)) only [SXB,SX,reduceIte,Int.reduceLT,Int.reduceLE,Int.reduceToNat,Int.reduceBEq,Int.reduceBNe,Nat.reduceAdd,Nat.reduceMul,Nat.reduceSub,Nat.reduceLeDiff]
  omega
end Go.Proofs.YtibigfkeaemanaaGreatDoor.L
end
section
namespace Go.Proofs.YtibigfkeaemanaaGreatDoor.X
open Go.Ab
set_option maxRecDepth 100000
noncomputable def code23:Code:=match Tryz.f23.body with | some c=>c | none=>.skip
noncomputable def res23:List ResultVar:=Tryz.f23.results.toList
def L23:Nat→Option (List Nat):=fun r=>if r=10 then some [0,3,4,5,27,28,29] else none
noncomputable def H23_10 (t0 t3 t4 t5 t27 t28 t29:Value) (h:AH) (Q:RQ):Prop:=HL Tryz.prog (cAt code23 [.r,.r,.r,.l,.r,.i,.i]) (mkA 188 [(0,t0),(3,t3),(4,t4),(5,t5),(27,t27),(28,t28),(29,t29)]) h (ctxAt Tryz.prog L23 code23 [.r,.r,.r,.l,.r,.i] (retK Tryz.prog res23 Q))
noncomputable def X23_10 (t0 t3 t4 t5 t27 t28 t29:Value) (h:AH) (Q:RQ):Prop :=
 bq (binV Tryz.prog .lss 3 (.tmp 29) (.tmp 28) t29 t28 h) fun t30 =>
 condP (some t30)
 (let t31:Value:=t29
 bq (ia 5 t27 t29) fun t32 =>
 bq (ldN 5 h t32) fun t33 =>
 (fun t7 h =>
 let t6:Value:=t31
 bq (stN 5 h t7 t33) fun h=>(fun _ h =>
 let t34:Value:=t6
 let t35:Value:=t0
 bq (ldN 5 h t7) fun t36 =>
 HC Tryz.prog 23 (([]:List Value)++[t35,t36]++([]:List Value)).toArray h (resK (fun t37 h =>
 bq (iaA 3 3 t5 t34) fun t38 =>
 bq (stN 3 h t38 t37) fun h=>(fun _ h =>
 bq (binV Tryz.prog .add 3 (.tmp 29) (.const (Value.int .i64 1)) t29 (Value.int .i64 1) h) fun t39 =>
 let t29:Value:=t39
 H23_10 t0 t3 t4 t5 t27 t28 t29 h Q) undef h) (fun v h=>Q (.pan v) h))) undef h) (opNew h 64 #[(Value.string (ByteArray.mk #[])),(Value.int .i64 0),(Value.int .i64 0),(Value.string (ByteArray.mk #[])),(Value.slice none 0 0)]).1 (opNew h 64 #[(Value.string (ByteArray.mk #[])),(Value.int .i64 0),(Value.int .i64 0),(Value.string (ByteArray.mk #[])),(Value.slice none 0 0)]).2)
 (bq (fa 0 1 t3) fun t40 =>
 bq (ld1 h t40) fun t41 =>
 bq (binV Tryz.prog .eql 9 (.tmp 41) (.const (Value.string (ByteArray.mk #[97,100,100]))) t41 (Value.string (ByteArray.mk #[97,100,100])) h) fun t43 =>
 let t42:Value:=t43
 condP (some t42)
 (bq (iaA 3 3 t5 (Value.int .i64 0)) fun t44 =>
 bq (fa 0 1 t44) fun t45 =>
 bq (ld1 h t45) fun t46 =>
 bq (iaA 3 3 t5 (Value.int .i64 1)) fun t47 =>
 bq (fa 0 1 t47) fun t48 =>
 bq (ld1 h t48) fun t49 =>
 bq (binV Tryz.prog .add 3 (.tmp 46) (.tmp 49) t46 t49 h) fun t50 =>
 HC Tryz.prog 22 (([]:List Value)++[t50]++([]:List Value)).toArray h (resK (fun t51 h =>
 bq (bd #[(Value.int .i64 0),(Value.string (ByteArray.mk #[])),(Value.slice none 0 0)] [(0,1,t51)]) fun t52 =>
 bq (stN 3 h t4 t52) fun h=>(fun _ h =>
 bq (seqO [ldN 3 h t4]) fun vs=>Q (.ret (oneOf vs)) h) undef h) (fun v h=>Q (.pan v) h)))
 (bq (binV Tryz.prog .eql 9 (.tmp 41) (.const (Value.string (ByteArray.mk #[115,117,98]))) t41 (Value.string (ByteArray.mk #[115,117,98])) h) fun t54 =>
 let t53:Value:=t54
 condP (some t53)
 (bq (iaA 3 3 t5 (Value.int .i64 0)) fun t55 =>
 bq (fa 0 1 t55) fun t56 =>
 bq (ld1 h t56) fun t57 =>
 bq (iaA 3 3 t5 (Value.int .i64 1)) fun t58 =>
 bq (fa 0 1 t58) fun t59 =>
 bq (ld1 h t59) fun t60 =>
 bq (binV Tryz.prog .sub 3 (.tmp 57) (.tmp 60) t57 t60 h) fun t61 =>
 HC Tryz.prog 22 (([]:List Value)++[t61]++([]:List Value)).toArray h (resK (fun t62 h =>
 bq (bd #[(Value.int .i64 0),(Value.string (ByteArray.mk #[])),(Value.slice none 0 0)] [(0,1,t62)]) fun t63 =>
 bq (stN 3 h t4 t63) fun h=>(fun _ h =>
 bq (seqO [ldN 3 h t4]) fun vs=>Q (.ret (oneOf vs)) h) undef h) (fun v h=>Q (.pan v) h)))
 (bq (binV Tryz.prog .eql 9 (.tmp 41) (.const (Value.string (ByteArray.mk #[109,117,108]))) t41 (Value.string (ByteArray.mk #[109,117,108])) h) fun t65 =>
 let t64:Value:=t65
 condP (some t64)
 (bq (iaA 3 3 t5 (Value.int .i64 0)) fun t66 =>
 bq (fa 0 1 t66) fun t67 =>
 bq (ld1 h t67) fun t68 =>
 bq (iaA 3 3 t5 (Value.int .i64 1)) fun t69 =>
 bq (fa 0 1 t69) fun t70 =>
 bq (ld1 h t70) fun t71 =>
 HC Tryz.prog 36 (([]:List Value)++[t68,t71]++([]:List Value)).toArray h (resK (fun t72 h =>
 bq (bd #[(Value.int .i64 0),(Value.string (ByteArray.mk #[])),(Value.slice none 0 0)] [(0,1,t72)]) fun t73 =>
 bq (stN 3 h t4 t73) fun h=>(fun _ h =>
 bq (seqO [ldN 3 h t4]) fun vs=>Q (.ret (oneOf vs)) h) undef h) (fun v h=>Q (.pan v) h)))
 (bq (binV Tryz.prog .eql 9 (.tmp 41) (.const (Value.string (ByteArray.mk #[100,105,118]))) t41 (Value.string (ByteArray.mk #[100,105,118])) h) fun t75 =>
 let t74:Value:=t75
 condP (some t74)
 (bq (iaA 3 3 t5 (Value.int .i64 1)) fun t76 =>
 bq (fa 0 1 t76) fun t77 =>
 bq (ld1 h t77) fun t78 =>
 bq (binV Tryz.prog .eql 3 (.tmp 78) (.const (Value.int .i64 0)) t78 (Value.int .i64 0) h) fun t79 =>
 condP (some t79)
 (bq (bd #[(Value.int .i64 0),(Value.string (ByteArray.mk #[])),(Value.slice none 0 0)] []) fun t80 =>
 bq (stN 3 h t4 t80) fun h=>(fun _ h =>
 bq (seqO [ldN 3 h t4]) fun vs=>Q (.ret (oneOf vs)) h) undef h)
 (bq (iaA 3 3 t5 (Value.int .i64 0)) fun t81 =>
 bq (fa 0 1 t81) fun t82 =>
 bq (ld1 h t82) fun t83 =>
 bq (iaA 3 3 t5 (Value.int .i64 1)) fun t84 =>
 bq (fa 0 1 t84) fun t85 =>
 bq (ld1 h t85) fun t86 =>
 bq (binV Tryz.prog .quo 3 (.tmp 83) (.tmp 86) t83 t86 h) fun t87 =>
 bq (bd #[(Value.int .i64 0),(Value.string (ByteArray.mk #[])),(Value.slice none 0 0)] [(0,1,t87)]) fun t88 =>
 bq (stN 3 h t4 t88) fun h=>(fun _ h =>
 bq (seqO [ldN 3 h t4]) fun vs=>Q (.ret (oneOf vs)) h) undef h))
 (bq (binV Tryz.prog .eql 9 (.tmp 41) (.const (Value.string (ByteArray.mk #[108,116]))) t41 (Value.string (ByteArray.mk #[108,116])) h) fun t90 =>
 let t89:Value:=t90
 condP (some t89)
 (bq (iaA 3 3 t5 (Value.int .i64 0)) fun t91 =>
 bq (fa 0 1 t91) fun t92 =>
 bq (ld1 h t92) fun t93 =>
 bq (iaA 3 3 t5 (Value.int .i64 1)) fun t94 =>
 bq (fa 0 1 t94) fun t95 =>
 bq (ld1 h t95) fun t96 =>
 bq (binV Tryz.prog .lss 3 (.tmp 93) (.tmp 96) t93 t96 h) fun t97 =>
 HC Tryz.prog 37 (([]:List Value)++[t97]++([]:List Value)).toArray h (resK (fun t98 h =>
 bq (bd #[(Value.int .i64 0),(Value.string (ByteArray.mk #[])),(Value.slice none 0 0)] [(0,1,t98)]) fun t99 =>
 bq (stN 3 h t4 t99) fun h=>(fun _ h =>
 bq (seqO [ldN 3 h t4]) fun vs=>Q (.ret (oneOf vs)) h) undef h) (fun v h=>Q (.pan v) h)))
 (bq (binV Tryz.prog .eql 9 (.tmp 41) (.const (Value.string (ByteArray.mk #[110,111,116]))) t41 (Value.string (ByteArray.mk #[110,111,116])) h) fun t101 =>
 let t100:Value:=t101
 condP (some t100)
 (bq (iaA 3 3 t5 (Value.int .i64 0)) fun t102 =>
 bq (fa 0 1 t102) fun t103 =>
 bq (ld1 h t103) fun t104 =>
 bq (binV Tryz.prog .eql 3 (.tmp 104) (.const (Value.int .i64 0)) t104 (Value.int .i64 0) h) fun t105 =>
 HC Tryz.prog 37 (([]:List Value)++[t105]++([]:List Value)).toArray h (resK (fun t106 h =>
 bq (bd #[(Value.int .i64 0),(Value.string (ByteArray.mk #[])),(Value.slice none 0 0)] [(0,1,t106)]) fun t107 =>
 bq (stN 3 h t4 t107) fun h=>(fun _ h =>
 bq (seqO [ldN 3 h t4]) fun vs=>Q (.ret (oneOf vs)) h) undef h) (fun v h=>Q (.pan v) h)))
 (bq (binV Tryz.prog .eql 9 (.tmp 41) (.const (Value.string (ByteArray.mk #[97,110,100]))) t41 (Value.string (ByteArray.mk #[97,110,100])) h) fun t109 =>
 let t108:Value:=t109
 condP (some t108)
 (bq (iaA 3 3 t5 (Value.int .i64 0)) fun t110 =>
 bq (fa 0 1 t110) fun t111 =>
 bq (ld1 h t111) fun t112 =>
 bq (binV Tryz.prog .neq 3 (.tmp 112) (.const (Value.int .i64 0)) t112 (Value.int .i64 0) h) fun t113 =>
 let t114:Value:=t113
 guardQ t114 true h (fun k=>bq (iaA 3 3 t5 (Value.int .i64 1)) fun v=>k v h) fun t115 h =>
 guardQ t114 true h (fun k=>bq (fa 0 1 t115) fun v=>k v h) fun t116 h =>
 guardQ t114 true h (fun k=>bq (ld1 h t116) fun v=>k v h) fun t117 h =>
 guardQ t114 true h (fun k=>bq (binV Tryz.prog .neq 3 (.tmp 117) (.const (Value.int .i64 0)) t117 (Value.int .i64 0) h) fun v=>k v h) fun t118 h =>
 bq (pickV t114 t118 (Value.bool false)) fun t119 =>
 HC Tryz.prog 37 (([]:List Value)++[t119]++([]:List Value)).toArray h (resK (fun t120 h =>
 bq (bd #[(Value.int .i64 0),(Value.string (ByteArray.mk #[])),(Value.slice none 0 0)] [(0,1,t120)]) fun t121 =>
 bq (stN 3 h t4 t121) fun h=>(fun _ h =>
 bq (seqO [ldN 3 h t4]) fun vs=>Q (.ret (oneOf vs)) h) undef h) (fun v h=>Q (.pan v) h)))
 (bq (binV Tryz.prog .eql 9 (.tmp 41) (.const (Value.string (ByteArray.mk #[111,114]))) t41 (Value.string (ByteArray.mk #[111,114])) h) fun t123 =>
 let t122:Value:=t123
 condP (some t122)
 (bq (iaA 3 3 t5 (Value.int .i64 0)) fun t124 =>
 bq (fa 0 1 t124) fun t125 =>
 bq (ld1 h t125) fun t126 =>
 bq (binV Tryz.prog .neq 3 (.tmp 126) (.const (Value.int .i64 0)) t126 (Value.int .i64 0) h) fun t127 =>
 let t128:Value:=t127
 guardQ t128 false h (fun k=>bq (iaA 3 3 t5 (Value.int .i64 1)) fun v=>k v h) fun t129 h =>
 guardQ t128 false h (fun k=>bq (fa 0 1 t129) fun v=>k v h) fun t130 h =>
 guardQ t128 false h (fun k=>bq (ld1 h t130) fun v=>k v h) fun t131 h =>
 guardQ t128 false h (fun k=>bq (binV Tryz.prog .neq 3 (.tmp 131) (.const (Value.int .i64 0)) t131 (Value.int .i64 0) h) fun v=>k v h) fun t132 h =>
 bq (pickV t128 (Value.bool true) t132) fun t133 =>
 HC Tryz.prog 37 (([]:List Value)++[t133]++([]:List Value)).toArray h (resK (fun t134 h =>
 bq (bd #[(Value.int .i64 0),(Value.string (ByteArray.mk #[])),(Value.slice none 0 0)] [(0,1,t134)]) fun t135 =>
 bq (stN 3 h t4 t135) fun h=>(fun _ h =>
 bq (seqO [ldN 3 h t4]) fun vs=>Q (.ret (oneOf vs)) h) undef h) (fun v h=>Q (.pan v) h)))
 (bq (binV Tryz.prog .eql 9 (.tmp 41) (.const (Value.string (ByteArray.mk #[115,117,109]))) t41 (Value.string (ByteArray.mk #[115,117,109])) h) fun t137 =>
 let t136:Value:=t137
 condP (some t136)
 (bq (iaA 3 3 t5 (Value.int .i64 0)) fun t138 =>
 bq (fa 2 1 t138) fun t139 =>
 bq (ld1 h t139) fun t140 =>
 HC Tryz.prog 38 (([]:List Value)++[t140,(Value.func (.func 39) #[] #[])]++([]:List Value)).toArray h (resK (fun t141 h =>
 bq (stN 3 h t4 t141) fun h=>(fun _ h =>
 bq (seqO [ldN 3 h t4]) fun vs=>Q (.ret (oneOf vs)) h) undef h) (fun v h=>Q (.pan v) h)))
 (bq (binV Tryz.prog .eql 9 (.tmp 41) (.const (Value.string (ByteArray.mk #[109,97,120]))) t41 (Value.string (ByteArray.mk #[109,97,120])) h) fun t143 =>
 let t142:Value:=t143
 condP (some t142)
 (bq (iaA 3 3 t5 (Value.int .i64 0)) fun t144 =>
 bq (fa 2 1 t144) fun t145 =>
 bq (ld1 h t145) fun t146 =>
 HC Tryz.prog 38 (([]:List Value)++[t146,(Value.func (.func 40) #[] #[])]++([]:List Value)).toArray h (resK (fun t147 h =>
 bq (stN 3 h t4 t147) fun h=>(fun _ h =>
 bq (seqO [ldN 3 h t4]) fun vs=>Q (.ret (oneOf vs)) h) undef h) (fun v h=>Q (.pan v) h)))
 (bq (binV Tryz.prog .eql 9 (.tmp 41) (.const (Value.string (ByteArray.mk #[109,105,110]))) t41 (Value.string (ByteArray.mk #[109,105,110])) h) fun t149 =>
 let t148:Value:=t149
 condP (some t148)
 (bq (iaA 3 3 t5 (Value.int .i64 0)) fun t150 =>
 bq (fa 2 1 t150) fun t151 =>
 bq (ld1 h t151) fun t152 =>
 HC Tryz.prog 38 (([]:List Value)++[t152,(Value.func (.func 41) #[] #[])]++([]:List Value)).toArray h (resK (fun t153 h =>
 bq (stN 3 h t4 t153) fun h=>(fun _ h =>
 bq (seqO [ldN 3 h t4]) fun vs=>Q (.ret (oneOf vs)) h) undef h) (fun v h=>Q (.pan v) h)))
 (bq (binV Tryz.prog .eql 9 (.tmp 41) (.const (Value.string (ByteArray.mk #[99,111,117,110,116]))) t41 (Value.string (ByteArray.mk #[99,111,117,110,116])) h) fun t155 =>
 let t154:Value:=t155
 condP (some t154)
 (bq (iaA 3 3 t5 (Value.int .i64 0)) fun t156 =>
 bq (fa 2 1 t156) fun t157 =>
 bq (ld1 h t157) fun t158 =>
 bq (lenL t158) fun t159 =>
 HC Tryz.prog 22 (([]:List Value)++[t159]++([]:List Value)).toArray h (resK (fun t160 h =>
 bq (bd #[(Value.int .i64 0),(Value.string (ByteArray.mk #[])),(Value.slice none 0 0)] [(0,1,t160)]) fun t161 =>
 bq (stN 3 h t4 t161) fun h=>(fun _ h =>
 bq (seqO [ldN 3 h t4]) fun vs=>Q (.ret (oneOf vs)) h) undef h) (fun v h=>Q (.pan v) h)))
 (bq (binV Tryz.prog .eql 9 (.tmp 41) (.const (Value.string (ByteArray.mk #[102,105,114,115,116]))) t41 (Value.string (ByteArray.mk #[102,105,114,115,116])) h) fun t163 =>
 let t162:Value:=t163
 condP (some t162)
 (bq (iaA 3 3 t5 (Value.int .i64 0)) fun t164 =>
 bq (fa 2 1 t164) fun t165 =>
 bq (ld1 h t165) fun t166 =>
 HC Tryz.prog 42 (([]:List Value)++[t166,(Value.bool false)]++([]:List Value)).toArray h (resK (fun t167 h =>
 bq (stN 3 h t4 t167) fun h=>(fun _ h =>
 bq (seqO [ldN 3 h t4]) fun vs=>Q (.ret (oneOf vs)) h) undef h) (fun v h=>Q (.pan v) h)))
 (bq (binV Tryz.prog .eql 9 (.tmp 41) (.const (Value.string (ByteArray.mk #[108,97,115,116]))) t41 (Value.string (ByteArray.mk #[108,97,115,116])) h) fun t169 =>
 let t168:Value:=t169
 condP (some t168)
 (bq (iaA 3 3 t5 (Value.int .i64 0)) fun t170 =>
 bq (fa 2 1 t170) fun t171 =>
 bq (ld1 h t171) fun t172 =>
 HC Tryz.prog 42 (([]:List Value)++[t172,(Value.bool true)]++([]:List Value)).toArray h (resK (fun t173 h =>
 bq (stN 3 h t4 t173) fun h=>(fun _ h =>
 bq (seqO [ldN 3 h t4]) fun vs=>Q (.ret (oneOf vs)) h) undef h) (fun v h=>Q (.pan v) h)))
 (bq (binV Tryz.prog .eql 9 (.tmp 41) (.const (Value.string (ByteArray.mk #[106,111,105,110]))) t41 (Value.string (ByteArray.mk #[106,111,105,110])) h) fun t175 =>
 let t174:Value:=t175
 condP (some t174)
 (bq (iaA 3 3 t5 (Value.int .i64 0)) fun t176 =>
 bq (fa 2 1 t176) fun t177 =>
 bq (ld1 h t177) fun t178 =>
 bq (iaA 3 3 t5 (Value.int .i64 1)) fun t179 =>
 bq (fa 1 1 t179) fun t180 =>
 bq (ld1 h t180) fun t181 =>
 HC Tryz.prog 43 (([]:List Value)++[t178,t181]++([]:List Value)).toArray h (resK (fun t182 h =>
 bq (bd #[(Value.int .i64 0),(Value.string (ByteArray.mk #[])),(Value.slice none 0 0)] [(1,1,t182)]) fun t183 =>
 bq (stN 3 h t4 t183) fun h=>(fun _ h =>
 bq (seqO [ldN 3 h t4]) fun vs=>Q (.ret (oneOf vs)) h) undef h) (fun v h=>Q (.pan v) h)))
 (bq (fa 0 1 t3) fun t184 =>
 bq (ld1 h t184) fun t185 =>
 bq (ldN 9 h t5) fun t186 =>
 HC Tryz.prog 44 (([]:List Value)++[t185,t186]++([]:List Value)).toArray h (resK (fun t187 h =>
 bq (stN 3 h t4 t187) fun h=>(fun _ h =>
 bq (seqO [ldN 3 h t4]) fun vs=>Q (.ret (oneOf vs)) h) undef h) (fun v h=>Q (.pan v) h))))))))))))))))))
theorem X23_10_eq (t0 t3 t4 t5 t27 t28 t29:Value) (h:AH) (Q:RQ):X23_10 t0 t3 t4 t5 t27 t28 t29 h Q=wpC Tryz.prog L23 (cAt code23 [.r,.r,.r,.l,.r,.i,.i]) (mkA 188 [(0,t0),(3,t3),(4,t4),(5,t5),(27,t27),(28,t28),(29,t29)]) h (ctxAt Tryz.prog L23 code23 [.r,.r,.r,.l,.r,.i,.i] (retK Tryz.prog res23 Q)):=by kernel_rfl
theorem X23_10_ok {t0 t3 t4 t5 t27 t28 t29:Value} {h:AH} {Q:RQ} (H:X23_10 t0 t3 t4 t5 t27 t28 t29 h Q):H23_10 t0 t3 t4 t5 t27 t28 t29 h Q:=HL.step (L:=L23) ((X23_10_eq t0 t3 t4 t5 t27 t28 t29 h Q).mp H)
noncomputable def X23 (t0 t1:Value) (h:AH) (Q:RQ):Prop :=
 (fun t3 h =>
 (fun t4 h =>
 bq (fa 0 1 t3) fun t8 =>
 bq (ld1 h t8) fun t9 =>
 bq (binV Tryz.prog .eql 9 (.tmp 9) (.const (Value.string (ByteArray.mk #[110,117,109,98,101,114]))) t9 (Value.string (ByteArray.mk #[110,117,109,98,101,114])) h) fun t11 =>
 let t10:Value:=t11
 condP (some t10)
 (bq (fa 2 1 t3) fun t12 =>
 bq (ld1 h t12) fun t13 =>
 bq (bd #[(Value.int .i64 0),(Value.string (ByteArray.mk #[])),(Value.slice none 0 0)] [(0,1,t13)]) fun t14 =>
 bq (stN 3 h t4 t14) fun h=>(fun _ h =>
 bq (seqO [ldN 3 h t4]) fun vs=>Q (.ret (oneOf vs)) h) undef h)
 (bq (binV Tryz.prog .eql 9 (.tmp 9) (.const (Value.string (ByteArray.mk #[115,116,114,105,110,103]))) t9 (Value.string (ByteArray.mk #[115,116,114,105,110,103])) h) fun t16 =>
 let t15:Value:=t16
 condP (some t15)
 (bq (fa 3 1 t3) fun t17 =>
 bq (ld1 h t17) fun t18 =>
 bq (bd #[(Value.int .i64 0),(Value.string (ByteArray.mk #[])),(Value.slice none 0 0)] [(1,1,t18)]) fun t19 =>
 bq (stN 3 h t4 t19) fun h=>(fun _ h =>
 bq (seqO [ldN 3 h t4]) fun vs=>Q (.ret (oneOf vs)) h) undef h)
 (bq (binV Tryz.prog .eql 9 (.tmp 9) (.const (Value.string (ByteArray.mk #[118,97,114]))) t9 (Value.string (ByteArray.mk #[118,97,114])) h) fun t21 =>
 let t20:Value:=t21
 condP (some t20)
 (let t22:Value:=t0
 bq (fa 3 1 t3) fun t23 =>
 bq (ld1 h t23) fun t24 =>
 HC Tryz.prog 35 (([]:List Value)++[t22,t24]++([]:List Value)).toArray h (resK (fun t25 h =>
 bq (stN 3 h t4 t25) fun h=>(fun _ h =>
 bq (seqO [ldN 3 h t4]) fun vs=>Q (.ret (oneOf vs)) h) undef h) (fun v h=>Q (.pan v) h)))
 ((fun t5 h =>
 bq (fa 4 1 t3) fun t26 =>
 bq (ld1 h t26) fun t27 =>
 bq (lenL t27) fun t28 =>
 let t29:Value:=(Value.int .i64 0)
 H23_10 t0 t3 t4 t5 t27 t28 t29 h Q) (opNew h 95 #[(Value.int .i64 0),(Value.string (ByteArray.mk #[])),(Value.slice none 0 0),(Value.int .i64 0),(Value.string (ByteArray.mk #[])),(Value.slice none 0 0),(Value.int .i64 0),(Value.string (ByteArray.mk #[])),(Value.slice none 0 0)]).1 (opNew h 95 #[(Value.int .i64 0),(Value.string (ByteArray.mk #[])),(Value.slice none 0 0),(Value.int .i64 0),(Value.string (ByteArray.mk #[])),(Value.slice none 0 0),(Value.int .i64 0),(Value.string (ByteArray.mk #[])),(Value.slice none 0 0)]).2)))) (opNew h 68 #[(Value.int .i64 0),(Value.string (ByteArray.mk #[])),(Value.slice none 0 0)]).1 (opNew h 68 #[(Value.int .i64 0),(Value.string (ByteArray.mk #[])),(Value.slice none 0 0)]).2) (opNew h 64 t1.cells).1 (opNew h 64 t1.cells).2
theorem X23_eq (t0 t1:Value) (h:AH) (Q:RQ):X23 t0 t1 h Q=wpC Tryz.prog L23 code23 (argA [t0,t1] Tryz.f23.ntmps) h (retK Tryz.prog res23 Q):=by kernel_rfl
theorem X23_body:Tryz.f23.body=some code23:=by kernel_rfl
theorem X23_ok {t0 t1:Value} {h:AH} {Q:RQ} (H:X23 t0 t1 h Q):HC Tryz.prog 23 [t0,t1].toArray h Q:=HC.body Tryz.func23 X23_body ((X23_eq t0 t1 h Q).mp H)
end Go.Proofs.YtibigfkeaemanaaGreatDoor.X
end
