import Derived.KernelRfl
import Derived.Shelf.Strings.Builder1
import Derived.Test.YtibigfkeaemanaaGreatDoorProg
import Derived.Test.YtibigfkeaemanaaGreatDoorZ14
import Derived.Test.YtibigfkeaemanaaGreatDoorZ30
set_option linter.unusedVariables false
set_option linter.unusedSimpArgs false
section
namespace Go.Proofs.YtibigfkeaemanaaGreatDoor.X
open Go.Ab
set_option maxRecDepth 100000
noncomputable def code53:Code:=match Tryz.f53.body with | some c=>c | none=>.skip
noncomputable def res53:List ResultVar:=Tryz.f53.results.toList
def L53:Nat→Option (List Nat):=fun r=>none
noncomputable def X53 (t0 t1:Value) (h:AH) (Q:RQ):Prop :=
 let t4:Value:=(Value.int .i64 0)
 let t5:Value:=Value.nilIface
 let t6:Value:=t0
 HC Tryz.prog 72 (([]:List Value)++[t6]++([]:List Value)).toArray h (resK (fun t7 h =>
 let t8:Value:=t0
 let t9:Value:=t0
 bq (nilV Tryz.prog t9) fun t10 =>
 bq (fa 1 1 t10) fun t11 =>
 bq (ld1 h t11) fun t12 =>
 let t13:Value:=t1
 bq (apT 5 1 1 (some (Value.int .u8 0)) h t12 t13) fun r=>(fun t14 h =>
 bq (nilV Tryz.prog t8) fun t15 =>
 bq (fa 1 1 t15) fun t16 =>
 bq (stN 1 h t16 t14) fun h=>(fun _ h =>
 let t17:Value:=t1
 bq (lenS t17) fun t18 =>
 let t4:Value:=t18
 let t5:Value:=Value.nilIface
 Q (.ret (.tuple [t4,t5].toArray)) h) undef h) r.1 r.2) (fun v h=>Q (.pan v) h))
theorem X53_eq (t0 t1:Value) (h:AH) (Q:RQ):X53 t0 t1 h Q=wpC Tryz.prog L53 code53 (argA [t0,t1] Tryz.f53.ntmps) h (retK Tryz.prog res53 Q):=by kernel_rfl
theorem X53_body:Tryz.f53.body=some code53:=by kernel_rfl
theorem X53_ok {t0 t1:Value} {h:AH} {Q:RQ} (H:X53 t0 t1 h Q):HC Tryz.prog 53 [t0,t1].toArray h Q:=HC.body Tryz.func53 X53_body ((X53_eq t0 t1 h Q).mp H)
noncomputable def code54:Code:=match Tryz.f54.body with | some c=>c | none=>.skip
noncomputable def res54:List ResultVar:=Tryz.f54.results.toList
def L54:Nat→Option (List Nat):=fun r=>none
noncomputable def X54 (t0:Value) (h:AH) (Q:RQ):Prop :=
 let t2:Value:=(Value.int .i64 0)
 let t3:Value:=t0
 bq (nilV Tryz.prog t3) fun t4 =>
 bq (fa 1 1 t4) fun t5 =>
 bq (ld1 h t5) fun t6 =>
 bq (lenL t6) fun t7 =>
 let t2:Value:=t7
 Q (.ret t2) h
theorem X54_eq (t0:Value) (h:AH) (Q:RQ):X54 t0 h Q=wpC Tryz.prog L54 code54 (argA [t0] Tryz.f54.ntmps) h (retK Tryz.prog res54 Q):=by kernel_rfl
theorem X54_body:Tryz.f54.body=some code54:=by kernel_rfl
theorem X54_ok {t0:Value} {h:AH} {Q:RQ} (H:X54 t0 h Q):HC Tryz.prog 54 [t0].toArray h Q:=HC.body Tryz.func54 X54_body ((X54_eq t0 h Q).mp H)
noncomputable def code55:Code:=match Tryz.f55.body with | some c=>c | none=>.skip
noncomputable def res55:List ResultVar:=Tryz.f55.results.toList
def L55:Nat→Option (List Nat):=fun r=>none
noncomputable def X55 (t0:Value) (h:AH) (Q:RQ):Prop :=
 let t2:Value:=(Value.string (ByteArray.mk #[]))
 let t3:Value:=t0
 bq (nilV Tryz.prog t3) fun t4 =>
 bq (fa 1 1 t4) fun t5 =>
 bq (ld1 h t5) fun t6 =>
 let t8:Value:=t0
 bq (nilV Tryz.prog t8) fun t9 =>
 bq (fa 1 1 t9) fun t10 =>
 bq (ld1 h t10) fun t11 =>
 bq (lenL t11) fun t12 =>
 bq (opSliceData t6) fun t7 =>
 ((bq (lenL t11) fun u=>(u=t12))∧((bq (ld1 h t10) fun u=>(u=t11))∧(True))) ∧
 bq (opUString Tryz.prog h 133 t7 t12) fun r=>(fun t13 h =>
 (True) ∧
 let t2:Value:=t13
 Q (.ret t2) h) r.1 r.2
theorem X55_eq (t0:Value) (h:AH) (Q:RQ):X55 t0 h Q=wpC Tryz.prog L55 code55 (argA [t0] Tryz.f55.ntmps) h (retK Tryz.prog res55 Q):=by kernel_rfl
theorem X55_body:Tryz.f55.body=some code55:=by kernel_rfl
theorem X55_ok {t0:Value} {h:AH} {Q:RQ} (H:X55 t0 h Q):HC Tryz.prog 55 [t0].toArray h Q:=HC.body Tryz.func55 X55_body ((X55_eq t0 h Q).mp H)
end Go.Proofs.YtibigfkeaemanaaGreatDoor.X
end
section
namespace Go.Proofs.YtibigfkeaemanaaGreatDoor.L
open Go.Ab Go.Lang Go.Proofs.YtibigfkeaemanaaGreatDoor.X
set_option maxRecDepth 100000
set_option maxHeartbeats 1000000
theorem bld_used (b:Nat) (w:World) (h0:w.cell? ⟨b,0,none⟩=some (.pointer (some ⟨b,0,none⟩))) :
  Calls Tryz.prog 72 #[.pointer (some ⟨b,0,none⟩)] w fun e w'=>e=.returned (.tuple #[])∧w' = w:=by
 have hX:((Tryz.prog).info? 115).map (·.size)=some 2:=by kernel_rfl
 obtain ⟨j,hj,_⟩:=Option.map_eq_some_iff.1 hX
 go_enter Tryz.func72,Tryz.ntmps72
 go_wp2
 rw [Lib.run_neq_ptr_same w _ Tryz.underlying113 hj]
 go_wp2
 go_end0
 exact ⟨rfl,rfl⟩
theorem bld_fresh (b:Nat) (w:World) (h0:w.cell? ⟨b,0,none⟩=some (.pointer none)) (hsh:w.shape? b=some (115,2)) (hfz:w.frozen? ⟨b,0,none⟩=false) :
  Calls Tryz.prog 72 #[.pointer (some ⟨b,0,none⟩)] w fun e w'=>e=.returned (.tuple #[])∧w' = w.setCell ⟨b,0,none⟩ (.pointer (some ⟨b,0,none⟩)):=by
 have hX:((Tryz.prog).info? 115).map (·.size)=some 2:=by kernel_rfl
 have hL:liesAt Tryz.prog (Tryz.prog).depth 115 (2 / (Tryz.prog).cellsOf 115) 0 115 1=true:=by kernel_rfl
 obtain ⟨j,hj,hjs⟩:=Option.map_eq_some_iff.1 hX
 go_enter Tryz.func72,Tryz.ntmps72
 go_wp2
 rw [Lib.run_to_unsafe w ⟨b,0,none⟩ Tryz.underlying113 Tryz.underlying148 hj (by rw [hjs];decide) hsh (Nat.zero_lt_succ 1)]
 simp only [Result.andThen]
 rw [Oper.upon_value]
 go_wp2
 rw [run_callFunc_extern Tryz.func88 (by kernel_rfl) (by kernel_rfl) (by kernel_rfl) (e:=Extern.AbiNoEscape.same) (by kernel_rfl)]
 rw [Lib.run_noEscape]
 simp only [Result.andThen]
 rw [Oper.upon_value]
 go_wp2
 rw [Lib.run_from_unsafe w ⟨b,0,none⟩ Tryz.underlying148 Tryz.underlying113 hj hsh hL]
 simp only [Result.andThen]
 rw [Oper.upon_value]
 go_wp2
 go_end0
 exact ⟨rfl,rfl⟩
structure Bld (b:Nat) (h:AH) (p s:Value) (l:List UInt8):Prop where
 row:h.get b=some (.cells #[p,s] 115 (0,0),none)
 ptr:p=.pointer none ∨ p=.pointer (some ⟨b,0,none⟩)
 own:Go.Ab.Own 5 1 h s (encB l)
 low:∀ k,blkOf s=some k→b < k∧k < h.size
 lt:b < h.size
theorem ra_one {E:Ren} {b:Nat} {a:Array Value} (r:RA E #[.pointer (some ⟨b,0,none⟩)] a):∃ b',E.at_ b=some b'∧a = #[.pointer (some ⟨b',0,none⟩)]:=by
 obtain ⟨h1,h2⟩:=r
 have hs:a.size=1:=by simpa using h1.symm
 have h3:=h2 0 _ _ rfl (Array.getElem?_eq_getElem (by omega))
 generalize hz:a[0]=z at h3
 cases h3 with
 | ptr hat =>
  refine ⟨_,hat,?_⟩
  apply Array.ext
  ·simpa using hs
  ·intro i h4 h5
   have:i=0:=by omega
   subst this
   rw [hz];rfl
theorem ccheck_ok {b:Nat} {h:AH} {p s:Value} {l:List UInt8} (B:Bld b h p s l):HC Tryz.prog 72 [.pointer (some ⟨b,0,none⟩)].toArray h fun r h'=>r=.ret (.tuple #[])∧Bld b h' (.pointer (some ⟨b,0,none⟩)) s l∧Kp b h h'∧h'.size=h.size:=by
 intro E w args' r ra
 obtain ⟨b',hat,rfl⟩:=ra_one ra
 obtain ⟨n,o',g1,g2,g3,g4⟩:=r.live _ _ _ B.row
 rw [hat] at g1;cases g1
 have hso:E.soft b=none:=by
  generalize E.soft b=z at g4
  cases z with
  | none=>rfl
  | some x=>simp at g4
 have hm:=B.ptr
 cases g3 with
 | soft hs=>rw [hso] at hs;cases hs
 | hard hs hc =>
  rename_i c'
  have hsz:c'.size=2:=by have:=hc.1;simpa using this.symm
  have h0:=hc.2 0 _ _ rfl (Array.getElem?_eq_getElem (show 0 < c'.size by omega))
  have h1:=hc.2 1 _ _ rfl (Array.getElem?_eq_getElem (show 1 < c'.size by omega))
  have hcell:w.cell? ⟨b',0,none⟩=some c'[0]:=by
   simp [World.cell?,g2]
  rcases hm with rfl | rfl
  ·generalize hz:c'[0]=z at h0 hcell
   cases h0
   refine (bld_fresh b' w hcell (by simp [World.shape?,g2,hsz]) (by simp [World.frozen?,g2])).mono ?_
   rintro e w' ⟨rfl,rfl⟩
   have ho:RO E (E.soft b) (.cells #[.pointer (some ⟨b,0,none⟩),s] 115 (0,0)) (.cells (c'.setIfInBounds 0 (.pointer (some ⟨b',0,none⟩))) 115 (0,0)):=by
    refine .hard hso ⟨by simp [hsz],fun i v v' q1 q2=>?_⟩
    match i,q1 with
    | 0,q1 =>
     cases q1
     have:v' = .pointer (some ⟨b',0,none⟩):=by
      rw [Array.getElem?_setIfInBounds,if_pos rfl,if_pos (by omega)] at q2
      exact (Option.some.inj q2).symm
     subst this
     exact .ptr hat
    | 1,q1 =>
     cases q1
     have:v' = c'[1]:=by
      rw [Array.getElem?_setIfInBounds,if_neg (by decide),Array.getElem?_eq_getElem (by omega)] at q2
      exact (Option.some.inj q2).symm
     subst this
     exact h1
    | k + 2,q1=>simp at q1
   obtain ⟨q1,q2⟩:=r.put B.row rfl hat ho
   have hw:w.setCell ⟨b',0,none⟩ (.pointer (some ⟨b',0,none⟩)) = { w with heap:=w.heap.setIfInBounds b' (.cells (c'.setIfInBounds 0 (.pointer (some ⟨b',0,none⟩))) 115 (0,0)) }:=by
    unfold World.setCell
    congr 1
    obtain ⟨hl,hg⟩:=Array.getElem?_eq_some_iff.1 g2
    apply Array.ext_getElem?
    intro k
    rw [Array.getElem?_setIfInBounds,Array.getElem?_modify]
    split
    ·rename_i e;subst e;simp [g2]
    ·rfl
   rw [hw]
   refine ⟨E,.ret (.tuple #[]),_,(RV.of_plain (n:=3) (by kernel_rfl):RV E (.tuple #[]) (.tuple #[])),q1,q2,rfl,⟨get_put_eq rfl,.inr rfl,B.own.mono fun k hk=>get_put_ne (by have:=(B.low k hk).1;omega),B.low,B.lt⟩,⟨by simp,fun k hk=>get_put_ne (by omega)⟩,by simp⟩
  ·generalize hz:c'[0]=z at h0 hcell
   cases h0 with
   | ptr hat2 =>
    rw [hat] at hat2
    cases hat2
    refine (bld_used b' w hcell).mono ?_
    rintro e w' ⟨rfl,rfl⟩
    exact ⟨E,.ret (.tuple #[]),h,(RV.of_plain (n:=3) (by kernel_rfl):RV E (.tuple #[]) (.tuple #[])),r,.refl E _,rfl,B,.refl _ _,rfl⟩
theorem src_str {h:AH} (x:ByteArray):Src h 1 (.string x) (encB x.data.toList):=by
 refine ⟨by show some x.size=_;simp [encB],?_⟩
 show some (((x.extract 0 (encB x.data.toList).length).data).map fun b=>Value.int .u8 b.toNat)=some _
 rw [flatC_encB]
 have:(encB x.data.toList).length=x.size:=by simp [encB]
 rw [this,ByteArray.extract_zero_size]
 congr 1
 apply Array.ext'
 unfold encB
 simp
theorem encB_one (l:List UInt8):∀ v ∈ encB l,v.cells.size=1:=fun v hv=>by
 obtain ⟨c,_,rfl⟩:=List.mem_map.1 hv
 rfl
theorem encB_app (a b:List UInt8):encB (a++b)=encB a++encB b:=by simp [encB]
theorem wstr_ok {b:Nat} {h:AH} {p s:Value} {l:List UInt8} (B:Bld b h p s l) (x:ByteArray) (hl:l.length + x.size < 1099511627776) :
  HC Tryz.prog 53 [.pointer (some ⟨b,0,none⟩),.string x].toArray h fun r h'=>r=.ret (.tuple #[.int .i64 x.size,.nilIface])∧∃ p' s',Bld b h' p' s' (l++x.data.toList)∧Kp b h h':=by
 refine X53_ok ?_
 unfold X53
 dsimp only
 refine (ccheck_ok B).mono ?_
 rintro r h1 ⟨rfl,B1,K1,hs1⟩
 have hx:x.data.toList.length=x.size:=by simp
 obtain ⟨s',h2,a1,a2,a3,a4,a5⟩:=B1.own.append (bytes:=1) (zero:=.int .u8 0) (src_str x) (encB_one _) (encB_one _) (by rw [flatC_encB];intro v hv;obtain ⟨c,_,rfl⟩:=List.mem_map.1 hv;rfl) (by decide) (by decide) (by decide) rfl (by simp [encB];omega)
 have e1:=B1.row
 have hb2:h2.get b=some (.cells #[.pointer (some ⟨b,0,none⟩),s] 115 (0,0),none):=by
  rw [a4 b B1.lt (fun e=>absurd (B1.low b e).1 (Nat.lt_irrefl _))];exact e1
 obtain ⟨sa,sn,sc,rfl⟩:∃ a n c,s' = .slice a n c:=by
  generalize encB l++encB x.data.toList=z at a2
  cases a2 <;> exact ⟨_,_,_,rfl⟩
 have hlen:lenS (.string x)=some (.int .i64 x.size):=rfl
 simp (disch:=first|exact dz|fail) only [e1,a1,hb2,hlen,SXB,SX,reduceIte,Int.reduceLT,Int.reduceLE,Int.reduceToNat,Int.reduceBEq,Int.reduceBNe,Nat.reduceAdd,Nat.reduceMul,Nat.reduceSub,Nat.reduceLeDiff]
 refine ⟨.pointer (some ⟨b,0,none⟩),.slice sa sn sc,?_,?_⟩
 ·refine ⟨get_put_eq rfl,.inr rfl,?_,?_,by simp;have:=B1.lt;omega⟩
  ·rw [encB_app]
   refine a2.mono fun k hk=>get_put_ne fun e=>?_
   subst e
   rcases a5 with a5 | ⟨j,a5,a6,a7⟩
   ·rw [a5] at hk;exact absurd (B1.low _ hk).1 (Nat.lt_irrefl _)
   ·rw [a5] at hk;cases hk;have:=B1.lt;omega
  ·intro k hk
   rcases a5 with a5 | ⟨j,a5,a6,a7⟩
   ·rw [a5] at hk;have:=B1.low _ hk;simp;omega
   ·rw [a5] at hk;cases hk;have:=B1.lt;simp;omega
 ·refine ⟨by simp;have:=K1.size;omega,fun k hk=>?_⟩
  rw [get_put_ne (by omega),a4 k (by have:=B1.lt;omega) (fun e=>by have:=(B1.low k e).1;omega)]
  exact K1.get k hk
theorem blen_ok {b:Nat} {h:AH} {p s:Value} {l:List UInt8} (B:Bld b h p s l):HC Tryz.prog 54 [.pointer (some ⟨b,0,none⟩)].toArray h fun r h'=>r=.ret (.int .i64 l.length)∧h' = h:=by
 refine X54_ok ?_
 unfold X54
 have e1:=B.row
 have e2:=B.own.len
 have e3:(encB l).length=l.length:=by simp [encB]
 rw [e3] at e2
 simp (disch:=first|exact dz|fail) only [e1,e2,SXB,SX,reduceIte,Int.reduceLT,Int.reduceLE,Int.reduceToNat,Int.reduceBEq,Int.reduceBNe,Nat.reduceAdd,Nat.reduceMul,Nat.reduceSub,Nat.reduceLeDiff]
theorem bstr_ok {b:Nat} {h:AH} {p s:Value} {l:List UInt8} (B:Bld b h p s l) (hl:l.length ≤ 9223372036854775807):HC Tryz.prog 55 [.pointer (some ⟨b,0,none⟩)].toArray h fun r h'=>r=.ret (.string ⟨l.toArray⟩)∧Kp b h h':=by
 refine X55_ok ?_
 unfold X55
 have e1:=B.row
 have e2:=B.own.len
 have e3:(encB l).length=l.length:=by simp [encB]
 rw [e3] at e2
 have key:∃ q h',opSliceData s=some q∧opUString Tryz.prog h 133 q (.int .i64 l.length)=some (.string ⟨l.toArray⟩,h')∧Kp b h h':=by
  have hlow:=B.low
  have ho:=B.own
  generalize hv:encB l=v at ho
  cases ho with
  | nil =>
   have:l=[]:=by
    cases l with
    | nil=>rfl
    | cons=>cases hv
   subst this
   exact ⟨_,h,rfl,rfl,.refl _ _⟩
  | row hg hc hx hp =>
   rename_i k c x
   have hk:=hlow k rfl
   have hlv:v.length=l.length:=by rw [← hv,e3]
   refine ⟨.pointer (some ⟨k,0,none⟩),if l.length=0 then h else h.put k (some (.cells c 5 (0,1),some 1)),?_,?_,?_⟩
   ·show (if v.length + x.length ≠ 0 then _ else _)=_
    rw [if_pos (by omega)]
   ·unfold opUString
    simp only
    by_cases h0:l.length=0
    ·have:l=[]:=List.eq_nil_of_length_eq_zero h0
     subst this
     rw [if_pos (by simp),if_pos (by simp)]
     rfl
    ·rw [if_neg (by omega),if_neg h0]
     simp only [hg]
     have hu:(Tryz.prog).underlying 133=some (.pointer 5):=by kernel_rfl
     have hce:(Tryz.prog).cellsOf 5=1:=by kernel_rfl
     have hcs:c.toList=encB l++flatC x:=by
      rw [hc,← hv]
      show flatC (encB l++x)=_
      rw [show flatC (encB l++x)=flatC (encB l)++flatC x by simp [flatC],flatC_encB]
     have hsz:l.length ≤ c.size:=by
      have:c.toList.length=c.size:=by simp
      rw [← this,hcs];simp [e3]
     simp only [hu,hce]
     rw [if_pos ⟨trivial,trivial,by omega,by omega,by omega⟩,Int.toNat_natCast,hcs,List.take_append_of_le_length (by rw [e3];exact Nat.le_refl _),List.take_of_length_le (by rw [e3];exact Nat.le_refl _),intsOf_encB]
     simp only [Option.some.injEq,Prod.mk.injEq,and_true,Value.string.injEq]
     refine Go.WideShapes.bytes_inj ?_
     rw [fold_push]
     show ([]:List UInt8)++l=_
     simp
   ·by_cases h0:l.length=0
    ·rw [if_pos h0];exact .refl _ _
    ·rw [if_neg h0];exact ⟨by simp,fun j hj=>get_put_ne (by omega)⟩
 obtain ⟨q,h',k1,k2,k3⟩:=key
 simp (disch:=first|exact dz|fail) only [e1,e2,k1,k2,SXB,SX,reduceIte,Int.reduceLT,Int.reduceLE,Int.reduceToNat,Int.reduceBEq,Int.reduceBNe,Nat.reduceAdd,Nat.reduceMul,Nat.reduceSub,Nat.reduceLeDiff]
 exact k3
theorem app_toList (a b:ByteArray):a.data.toList++b.data.toList=(a++b).data.toList:=by rw [ByteArray.data_append];simp
theorem join_fin {b:Nat} {h1:AH} {p s:Value} {o:ByteArray} (B:Bld b h1 p s o.data.toList) (ho:o.size ≤ 4611686018427387904) {Q:RQ} (hq:∀ h2,Kp b h1 h2→Q (.ret (.string (cellV o))) h2) :
  K43_10 (.pointer (some ⟨b,0,none⟩)) h1 Q:=by
 refine X43_10_ok ?_
 unfold X43_10
 dsimp only
 refine (bstr_ok B (by simp;omega)).mono ?_
 rintro r h2 ⟨rfl,K⟩
 refine HC.exact (cell_ok (h:=h2) o) ?_
 exact hq _ K
theorem join_rest {h:AH} {btw:ByteArray} {l:List ByteArray} (hlen:l.length ≤ 1099511627776) {Q:RQ} {x:ByteArray} {i:Nat} {o:ByteArray} {h1:AH} {p s:Value} (B:Bld h.size h1 p s o.data.toList) (K:Kp h.size h h1) (ho:o.size ≤ 16384)
  (hq:∀ h2,Kp h.size h h2→4096 ≤ (o++cellV x).size→Q (.ret (.string (cellV (o++cellV x)))) h2)
  (next:∀ h2 p s,Bld h.size h2 p s (o++cellV x).data.toList→Kp h.size h h2→(o++cellV x).size < 4096→H43_3 (.string btw) (.pointer (some ⟨h.size,0,none⟩)) (VSl (strL l)) (.int .i64 l.length) (.int .i64 (i + 1:Nat)) h2 Q) (hi:i < l.length) :
  K43_7 (.string btw) (.pointer (some ⟨h.size,0,none⟩)) (.string x) (VSl (strL l)) (.int .i64 l.length) (.int .i64 i) h1 Q:=by
 refine X43_7_ok ?_
 unfold X43_7
 simp (disch:=first|exact dz|fail) only [SXB,SX,reduceIte,Int.reduceLT,Int.reduceLE,Int.reduceToNat,Int.reduceBEq,Int.reduceBNe,Nat.reduceAdd,Nat.reduceMul,Nat.reduceSub,Nat.reduceLeDiff]
 refine HC.exact (cell_ok _) ?_
 have hc:=cell_size x
 have hol:o.data.toList.length=o.size:=by simp
 refine (wstr_ok B (cellV x) (by omega)).mono ?_
 rintro r h2 ⟨rfl,p',s',B2,K2⟩
 rw [app_toList] at B2
 have hsz:(o++cellV x).size=o.size + (cellV x).size:=ByteArray.size_append
 have hol2:(o++cellV x).data.toList.length=(o++cellV x).size:=by simp
 simp (disch:=first|exact dz|fail) only [SXB,SX,reduceIte,Int.reduceLT,Int.reduceLE,Int.reduceToNat,Int.reduceBEq,Int.reduceBNe,Nat.reduceAdd,Nat.reduceMul,Nat.reduceSub,Nat.reduceLeDiff]
 refine (blen_ok B2).mono ?_
 rintro r h3 ⟨rfl,rfl⟩
 rw [hol2]
 by_cases h4:4096 ≤ (o++cellV x).size
 ·have e:(4096:Int) ≤ ((o++cellV x).size:Nat):=by omega
  simp (disch:=first|exact dz|fail) only [e,SXB,SX,reduceIte,Int.reduceLT,Int.reduceLE,Int.reduceToNat,Int.reduceBEq,Int.reduceBNe,Nat.reduceAdd,Nat.reduceMul,Nat.reduceSub,Nat.reduceLeDiff]
  exact join_fin B2 (by omega) fun h4' K4=>hq _ ((K.trans K2).trans K4) h4
 ·have e:¬ (4096:Int) ≤ ((o++cellV x).size:Nat):=by omega
  have ew:IntKind.i64.wrap ((i:Int) + 1)=(i + 1:Nat):=(wrap64 (by omega) (by omega)).trans (by omega)
  simp (disch:=first|exact dz|fail) only [e,ew,SXB,SX,reduceIte,Int.reduceLT,Int.reduceLE,Int.reduceToNat,Int.reduceBEq,Int.reduceBNe,Nat.reduceAdd,Nat.reduceMul,Nat.reduceSub,Nat.reduceLeDiff]
  exact next _ _ _ B2 (K.trans K2) (by omega)
theorem join_loop {h:AH} {btw:ByteArray} {l:List ByteArray} (hlen:l.length ≤ 1099511627776) {Q:RQ} :
  ∀ (r:List ByteArray) (i:Nat) (o:ByteArray) (h1:AH) (p s:Value),l.drop i=r→i ≤ l.length→Bld h.size h1 p s o.data.toList→Kp h.size h h1→o.size < 4096 →
  (∀ h2,Kp h.size h h2→Q (.ret (.string (joinV btw r o (i == 0)))) h2)→H43_3 (.string btw) (.pointer (some ⟨h.size,0,none⟩)) (VSl (strL l)) (.int .i64 l.length) (.int .i64 i) h1 Q:=by
 intro r
 induction r with
 | nil =>
  intro i o h1 p s hd hi B K ho hq
  have:=drop_nil hd
  refine X43_3_ok ?_
  unfold X43_3
  have e:¬ ((i:Int) < l.length):=by omega
  simp (disch:=first|exact dz|fail) only [e,SXB,SX,reduceIte,Int.reduceLT,Int.reduceLE,Int.reduceToNat,Int.reduceBEq,Int.reduceBNe,Nat.reduceAdd,Nat.reduceMul,Nat.reduceSub,Nat.reduceLeDiff]
  exact join_fin B (by omega) fun h2 K2=>hq _ (K.trans K2)
 | cons x r ih =>
  intro i o h1 p s hd hi B K ho hq
  obtain ⟨h1',h2',h3'⟩:=drop_cons hd
  refine X43_3_ok ?_
  unfold X43_3
  have e:(i:Int) < l.length:=by omega
  unfold joinV at hq
  by_cases h0:i=0
  ·subst h0
   have e0:¬ (0:Int) < ((0:Nat):Int):=by omega
   have ee:o++empty=o:=by show o++ByteArray.empty=o;simp
   simp only [beq_self_eq_true,if_true,ee] at hq
   simp (disch:=first|exact dz|fail) only [e,ia_str h1',e0,SXB,SX,reduceIte,Int.reduceLT,Int.reduceLE,Int.reduceToNat,Int.reduceBEq,Int.reduceBNe,Nat.reduceAdd,Nat.reduceMul,Nat.reduceSub,Nat.reduceLeDiff]
   refine join_rest (i:=0) hlen B K (by omega) (fun h2 K2 h4=>?_) (fun h2 p s B2 K2 h4=>?_) h3'
   ·have:=hq h2 K2
    rw [if_pos h4] at this
    exact this
   ·refine ih (0 + 1) _ h2 p s h2' (by omega) B2 K2 h4 fun h3 K3=>?_
    have:=hq h3 K3
    rw [if_neg (by omega)] at this
    exact this
  ·have e0:(0:Int) < (i:Nat):=by omega
   have eb:(i == 0)=false:=by simpa using h0
   simp only [eb,Bool.false_eq_true,if_false] at hq
   simp (disch:=first|exact dz|fail) only [e,ia_str h1',e0,SXB,SX,reduceIte,Int.reduceLT,Int.reduceLE,Int.reduceToNat,Int.reduceBEq,Int.reduceBNe,Nat.reduceAdd,Nat.reduceMul,Nat.reduceSub,Nat.reduceLeDiff]
   refine HC.exact (cell_ok _) ?_
   have hc:=cell_size btw
   have hol:o.data.toList.length=o.size:=by simp
   refine (wstr_ok B (cellV btw) (by omega)).mono ?_
   rintro r' h2 ⟨rfl,p',s',B2,K2⟩
   rw [app_toList] at B2
   have hsz:(o++cellV btw).size=o.size + (cellV btw).size:=ByteArray.size_append
   simp (disch:=first|exact dz|fail) only [SXB,SX,reduceIte,Int.reduceLT,Int.reduceLE,Int.reduceToNat,Int.reduceBEq,Int.reduceBNe,Nat.reduceAdd,Nat.reduceMul,Nat.reduceSub,Nat.reduceLeDiff]
   refine join_rest (i:=i) hlen B2 (K.trans K2) (by omega) (fun h2 K2 h4=>?_) (fun h2 p s B2 K2 h4=>?_) h3'
   ·have:=hq h2 K2
    rw [if_pos h4] at this
    exact this
   ·refine ih (i + 1) _ h2 p s h2' (by omega) B2 K2 h4 fun h3 K3=>?_
    have:=hq h3 K3
    rw [if_neg (by omega)] at this
    exact this
theorem join_ok {h:AH} {s:Value} {l:List ByteArray} (hs:Sl s (strL l)) (hlen:l.length ≤ 1099511627776) (btw:ByteArray) :
  Ex Tryz.prog 43 [s,.string btw].toArray h (.string (joinV btw l empty true)) h:=by
 refine Ex.pureF (.string _) (X43_ok ?_)
 unfold X43
 have e1:=hs.len
 have e3:(strL l).length=l.length:=by simp [strL]
 rw [e3] at e1
 simp (disch:=first|exact dz|fail) only [e1,SXB,SX,reduceIte,Int.reduceLT,Int.reduceLE,Int.reduceToNat,Int.reduceBEq,Int.reduceBNe,Nat.reduceAdd,Nat.reduceMul,Nat.reduceSub,Nat.reduceLeDiff]
 have B:Bld h.size (h.push (.cells #[.pointer none,.slice none 0 0] 115 (0,0)) none) (.pointer none) (.slice none 0 0) empty.data.toList:=⟨get_push_eq rfl,.inl rfl,.nil,fun k hk=>(by cases hk),(by simp)⟩
 have K:Kp h.size h (h.push (.cells #[.pointer none,.slice none 0 0] 115 (0,0)) none):=(Kp.refl _ _).push _ _ (Nat.le_refl _)
 cases l with
 | nil =>
  refine X43_3_ok ?_
  unfold X43_3
  simp (disch:=first|exact dz|fail) only [SXB,SX,reduceIte,Int.reduceLT,Int.reduceLE,Int.reduceToNat,Int.reduceBEq,Int.reduceBNe,Nat.reduceAdd,Nat.reduceMul,Nat.reduceSub,Nat.reduceLeDiff]
  exact join_fin (o:=empty) B (by decide) fun h2 K2=>⟨rfl,K.trans K2⟩
 | cons a l =>
  have hs':s=VSl (strL (a::l)):=by cases hs;rfl
  subst hs'
  exact join_loop (h:=h) hlen (a::l) 0 empty _ _ _ rfl (by simp) B K (by decide) fun h2 K2=>⟨rfl,K2⟩
end Go.Proofs.YtibigfkeaemanaaGreatDoor.L
end
section
namespace Go.Proofs.YtibigfkeaemanaaGreatDoor.X
open Go.Ab
set_option maxRecDepth 100000
noncomputable def code23:Code:=match Tryz.f23.body with | some c=>c | none=>.skip
noncomputable def res23:List ResultVar:=Tryz.f23.results.toList
def L23:Nat→Option (List Nat):=fun r=>if r=10 then some [0,3,4,5,27,28,29] else none
noncomputable def H23_10 (t0 t3 t4 t5 t27 t28 t29:Value) (h:AH) (Q:RQ):Prop:=HL Tryz.prog (cAt code23 [.r,.r,.r,.l,.r,.i,.i]) (mkA 188 [(0,t0),(3,t3),(4,t4),(5,t5),(27,t27),(28,t28),(29,t29)]) h (ctxAt Tryz.prog L23 code23 [.r,.r,.r,.l,.r,.i] (retK Tryz.prog res23 Q))
noncomputable def X23_10 (t0 t3 t4 t5 t27 t28 t29:Value) (h:AH) (Q:RQ):Prop :=
 bq (binV Tryz.prog .lss 3 (.tmp 29) (.tmp 28) t29 t28 h) fun t30 =>
 condP (some t30)
 (let t31:Value:=t29
 bq (ia 5 t27 t29) fun t32 =>
 bq (ldN 5 h t32) fun t33 =>
 (fun t7 h =>
 let t6:Value:=t31
 bq (stN 5 h t7 t33) fun h=>(fun _ h =>
 let t34:Value:=t6
 let t35:Value:=t0
 bq (ldN 5 h t7) fun t36 =>
 HC Tryz.prog 23 (([]:List Value)++[t35,t36]++([]:List Value)).toArray h (resK (fun t37 h =>
 bq (iaA 3 3 t5 t34) fun t38 =>
 bq (stN 3 h t38 t37) fun h=>(fun _ h =>
 bq (binV Tryz.prog .add 3 (.tmp 29) (.const (Value.int .i64 1)) t29 (Value.int .i64 1) h) fun t39 =>
 let t29:Value:=t39
 H23_10 t0 t3 t4 t5 t27 t28 t29 h Q) undef h) (fun v h=>Q (.pan v) h))) undef h) (opNew h 64 #[(Value.string (ByteArray.mk #[])),(Value.int .i64 0),(Value.int .i64 0),(Value.string (ByteArray.mk #[])),(Value.slice none 0 0)]).1 (opNew h 64 #[(Value.string (ByteArray.mk #[])),(Value.int .i64 0),(Value.int .i64 0),(Value.string (ByteArray.mk #[])),(Value.slice none 0 0)]).2)
 (bq (fa 0 1 t3) fun t40 =>
 bq (ld1 h t40) fun t41 =>
 bq (binV Tryz.prog .eql 9 (.tmp 41) (.const (Value.string (ByteArray.mk #[97,100,100]))) t41 (Value.string (ByteArray.mk #[97,100,100])) h) fun t43 =>
 let t42:Value:=t43
 condP (some t42)
 (bq (iaA 3 3 t5 (Value.int .i64 0)) fun t44 =>
 bq (fa 0 1 t44) fun t45 =>
 bq (ld1 h t45) fun t46 =>
 bq (iaA 3 3 t5 (Value.int .i64 1)) fun t47 =>
 bq (fa 0 1 t47) fun t48 =>
 bq (ld1 h t48) fun t49 =>
 bq (binV Tryz.prog .add 3 (.tmp 46) (.tmp 49) t46 t49 h) fun t50 =>
 HC Tryz.prog 22 (([]:List Value)++[t50]++([]:List Value)).toArray h (resK (fun t51 h =>
 bq (bd #[(Value.int .i64 0),(Value.string (ByteArray.mk #[])),(Value.slice none 0 0)] [(0,1,t51)]) fun t52 =>
 bq (stN 3 h t4 t52) fun h=>(fun _ h =>
 bq (seqO [ldN 3 h t4]) fun vs=>Q (.ret (oneOf vs)) h) undef h) (fun v h=>Q (.pan v) h)))
 (bq (binV Tryz.prog .eql 9 (.tmp 41) (.const (Value.string (ByteArray.mk #[115,117,98]))) t41 (Value.string (ByteArray.mk #[115,117,98])) h) fun t54 =>
 let t53:Value:=t54
 condP (some t53)
 (bq (iaA 3 3 t5 (Value.int .i64 0)) fun t55 =>
 bq (fa 0 1 t55) fun t56 =>
 bq (ld1 h t56) fun t57 =>
 bq (iaA 3 3 t5 (Value.int .i64 1)) fun t58 =>
 bq (fa 0 1 t58) fun t59 =>
 bq (ld1 h t59) fun t60 =>
 bq (binV Tryz.prog .sub 3 (.tmp 57) (.tmp 60) t57 t60 h) fun t61 =>
 HC Tryz.prog 22 (([]:List Value)++[t61]++([]:List Value)).toArray h (resK (fun t62 h =>
 bq (bd #[(Value.int .i64 0),(Value.string (ByteArray.mk #[])),(Value.slice none 0 0)] [(0,1,t62)]) fun t63 =>
 bq (stN 3 h t4 t63) fun h=>(fun _ h =>
 bq (seqO [ldN 3 h t4]) fun vs=>Q (.ret (oneOf vs)) h) undef h) (fun v h=>Q (.pan v) h)))
 (bq (binV Tryz.prog .eql 9 (.tmp 41) (.const (Value.string (ByteArray.mk #[109,117,108]))) t41 (Value.string (ByteArray.mk #[109,117,108])) h) fun t65 =>
 let t64:Value:=t65
 condP (some t64)
 (bq (iaA 3 3 t5 (Value.int .i64 0)) fun t66 =>
 bq (fa 0 1 t66) fun t67 =>
 bq (ld1 h t67) fun t68 =>
 bq (iaA 3 3 t5 (Value.int .i64 1)) fun t69 =>
 bq (fa 0 1 t69) fun t70 =>
 bq (ld1 h t70) fun t71 =>
 HC Tryz.prog 36 (([]:List Value)++[t68,t71]++([]:List Value)).toArray h (resK (fun t72 h =>
 bq (bd #[(Value.int .i64 0),(Value.string (ByteArray.mk #[])),(Value.slice none 0 0)] [(0,1,t72)]) fun t73 =>
 bq (stN 3 h t4 t73) fun h=>(fun _ h =>
 bq (seqO [ldN 3 h t4]) fun vs=>Q (.ret (oneOf vs)) h) undef h) (fun v h=>Q (.pan v) h)))
 (bq (binV Tryz.prog .eql 9 (.tmp 41) (.const (Value.string (ByteArray.mk #[100,105,118]))) t41 (Value.string (ByteArray.mk #[100,105,118])) h) fun t75 =>
 let t74:Value:=t75
 condP (some t74)
 (bq (iaA 3 3 t5 (Value.int .i64 1)) fun t76 =>
 bq (fa 0 1 t76) fun t77 =>
 bq (ld1 h t77) fun t78 =>
 bq (binV Tryz.prog .eql 3 (.tmp 78) (.const (Value.int .i64 0)) t78 (Value.int .i64 0) h) fun t79 =>
 condP (some t79)
 (bq (bd #[(Value.int .i64 0),(Value.string (ByteArray.mk #[])),(Value.slice none 0 0)] []) fun t80 =>
 bq (stN 3 h t4 t80) fun h=>(fun _ h =>
 bq (seqO [ldN 3 h t4]) fun vs=>Q (.ret (oneOf vs)) h) undef h)
 (bq (iaA 3 3 t5 (Value.int .i64 0)) fun t81 =>
 bq (fa 0 1 t81) fun t82 =>
 bq (ld1 h t82) fun t83 =>
 bq (iaA 3 3 t5 (Value.int .i64 1)) fun t84 =>
 bq (fa 0 1 t84) fun t85 =>
 bq (ld1 h t85) fun t86 =>
 bq (binV Tryz.prog .quo 3 (.tmp 83) (.tmp 86) t83 t86 h) fun t87 =>
 bq (bd #[(Value.int .i64 0),(Value.string (ByteArray.mk #[])),(Value.slice none 0 0)] [(0,1,t87)]) fun t88 =>
 bq (stN 3 h t4 t88) fun h=>(fun _ h =>
 bq (seqO [ldN 3 h t4]) fun vs=>Q (.ret (oneOf vs)) h) undef h))
 (bq (binV Tryz.prog .eql 9 (.tmp 41) (.const (Value.string (ByteArray.mk #[108,116]))) t41 (Value.string (ByteArray.mk #[108,116])) h) fun t90 =>
 let t89:Value:=t90
 condP (some t89)
 (bq (iaA 3 3 t5 (Value.int .i64 0)) fun t91 =>
 bq (fa 0 1 t91) fun t92 =>
 bq (ld1 h t92) fun t93 =>
 bq (iaA 3 3 t5 (Value.int .i64 1)) fun t94 =>
 bq (fa 0 1 t94) fun t95 =>
 bq (ld1 h t95) fun t96 =>
 bq (binV Tryz.prog .lss 3 (.tmp 93) (.tmp 96) t93 t96 h) fun t97 =>
 HC Tryz.prog 37 (([]:List Value)++[t97]++([]:List Value)).toArray h (resK (fun t98 h =>
 bq (bd #[(Value.int .i64 0),(Value.string (ByteArray.mk #[])),(Value.slice none 0 0)] [(0,1,t98)]) fun t99 =>
 bq (stN 3 h t4 t99) fun h=>(fun _ h =>
 bq (seqO [ldN 3 h t4]) fun vs=>Q (.ret (oneOf vs)) h) undef h) (fun v h=>Q (.pan v) h)))
 (bq (binV Tryz.prog .eql 9 (.tmp 41) (.const (Value.string (ByteArray.mk #[110,111,116]))) t41 (Value.string (ByteArray.mk #[110,111,116])) h) fun t101 =>
 let t100:Value:=t101
 condP (some t100)
 (bq (iaA 3 3 t5 (Value.int .i64 0)) fun t102 =>
 bq (fa 0 1 t102) fun t103 =>
 bq (ld1 h t103) fun t104 =>
 bq (binV Tryz.prog .eql 3 (.tmp 104) (.const (Value.int .i64 0)) t104 (Value.int .i64 0) h) fun t105 =>
 HC Tryz.prog 37 (([]:List Value)++[t105]++([]:List Value)).toArray h (resK (fun t106 h =>
 bq (bd #[(Value.int .i64 0),(Value.string (ByteArray.mk #[])),(Value.slice none 0 0)] [(0,1,t106)]) fun t107 =>
 bq (stN 3 h t4 t107) fun h=>(fun _ h =>
 bq (seqO [ldN 3 h t4]) fun vs=>Q (.ret (oneOf vs)) h) undef h) (fun v h=>Q (.pan v) h)))
 (bq (binV Tryz.prog .eql 9 (.tmp 41) (.const (Value.string (ByteArray.mk #[97,110,100]))) t41 (Value.string (ByteArray.mk #[97,110,100])) h) fun t109 =>
 let t108:Value:=t109
 condP (some t108)
 (bq (iaA 3 3 t5 (Value.int .i64 0)) fun t110 =>
 bq (fa 0 1 t110) fun t111 =>
 bq (ld1 h t111) fun t112 =>
 bq (binV Tryz.prog .neq 3 (.tmp 112) (.const (Value.int .i64 0)) t112 (Value.int .i64 0) h) fun t113 =>
 let t114:Value:=t113
 guardQ t114 true h (fun k=>bq (iaA 3 3 t5 (Value.int .i64 1)) fun v=>k v h) fun t115 h =>
 guardQ t114 true h (fun k=>bq (fa 0 1 t115) fun v=>k v h) fun t116 h =>
 guardQ t114 true h (fun k=>bq (ld1 h t116) fun v=>k v h) fun t117 h =>
 guardQ t114 true h (fun k=>bq (binV Tryz.prog .neq 3 (.tmp 117) (.const (Value.int .i64 0)) t117 (Value.int .i64 0) h) fun v=>k v h) fun t118 h =>
 bq (pickV t114 t118 (Value.bool false)) fun t119 =>
 HC Tryz.prog 37 (([]:List Value)++[t119]++([]:List Value)).toArray h (resK (fun t120 h =>
 bq (bd #[(Value.int .i64 0),(Value.string (ByteArray.mk #[])),(Value.slice none 0 0)] [(0,1,t120)]) fun t121 =>
 bq (stN 3 h t4 t121) fun h=>(fun _ h =>
 bq (seqO [ldN 3 h t4]) fun vs=>Q (.ret (oneOf vs)) h) undef h) (fun v h=>Q (.pan v) h)))
 (bq (binV Tryz.prog .eql 9 (.tmp 41) (.const (Value.string (ByteArray.mk #[111,114]))) t41 (Value.string (ByteArray.mk #[111,114])) h) fun t123 =>
 let t122:Value:=t123
 condP (some t122)
 (bq (iaA 3 3 t5 (Value.int .i64 0)) fun t124 =>
 bq (fa 0 1 t124) fun t125 =>
 bq (ld1 h t125) fun t126 =>
 bq (binV Tryz.prog .neq 3 (.tmp 126) (.const (Value.int .i64 0)) t126 (Value.int .i64 0) h) fun t127 =>
 let t128:Value:=t127
 guardQ t128 false h (fun k=>bq (iaA 3 3 t5 (Value.int .i64 1)) fun v=>k v h) fun t129 h =>
 guardQ t128 false h (fun k=>bq (fa 0 1 t129) fun v=>k v h) fun t130 h =>
 guardQ t128 false h (fun k=>bq (ld1 h t130) fun v=>k v h) fun t131 h =>
 guardQ t128 false h (fun k=>bq (binV Tryz.prog .neq 3 (.tmp 131) (.const (Value.int .i64 0)) t131 (Value.int .i64 0) h) fun v=>k v h) fun t132 h =>
 bq (pickV t128 (Value.bool true) t132) fun t133 =>
 HC Tryz.prog 37 (([]:List Value)++[t133]++([]:List Value)).toArray h (resK (fun t134 h =>
 bq (bd #[(Value.int .i64 0),(Value.string (ByteArray.mk #[])),(Value.slice none 0 0)] [(0,1,t134)]) fun t135 =>
 bq (stN 3 h t4 t135) fun h=>(fun _ h =>
 bq (seqO [ldN 3 h t4]) fun vs=>Q (.ret (oneOf vs)) h) undef h) (fun v h=>Q (.pan v) h)))
 (bq (binV Tryz.prog .eql 9 (.tmp 41) (.const (Value.string (ByteArray.mk #[115,117,109]))) t41 (Value.string (ByteArray.mk #[115,117,109])) h) fun t137 =>
 let t136:Value:=t137
 condP (some t136)
 (bq (iaA 3 3 t5 (Value.int .i64 0)) fun t138 =>
 bq (fa 2 1 t138) fun t139 =>
 bq (ld1 h t139) fun t140 =>
 HC Tryz.prog 38 (([]:List Value)++[t140,(Value.func (.func 39) #[] #[])]++([]:List Value)).toArray h (resK (fun t141 h =>
 bq (stN 3 h t4 t141) fun h=>(fun _ h =>
 bq (seqO [ldN 3 h t4]) fun vs=>Q (.ret (oneOf vs)) h) undef h) (fun v h=>Q (.pan v) h)))
 (bq (binV Tryz.prog .eql 9 (.tmp 41) (.const (Value.string (ByteArray.mk #[109,97,120]))) t41 (Value.string (ByteArray.mk #[109,97,120])) h) fun t143 =>
 let t142:Value:=t143
 condP (some t142)
 (bq (iaA 3 3 t5 (Value.int .i64 0)) fun t144 =>
 bq (fa 2 1 t144) fun t145 =>
 bq (ld1 h t145) fun t146 =>
 HC Tryz.prog 38 (([]:List Value)++[t146,(Value.func (.func 40) #[] #[])]++([]:List Value)).toArray h (resK (fun t147 h =>
 bq (stN 3 h t4 t147) fun h=>(fun _ h =>
 bq (seqO [ldN 3 h t4]) fun vs=>Q (.ret (oneOf vs)) h) undef h) (fun v h=>Q (.pan v) h)))
 (bq (binV Tryz.prog .eql 9 (.tmp 41) (.const (Value.string (ByteArray.mk #[109,105,110]))) t41 (Value.string (ByteArray.mk #[109,105,110])) h) fun t149 =>
 let t148:Value:=t149
 condP (some t148)
 (bq (iaA 3 3 t5 (Value.int .i64 0)) fun t150 =>
 bq (fa 2 1 t150) fun t151 =>
 bq (ld1 h t151) fun t152 =>
 HC Tryz.prog 38 (([]:List Value)++[t152,(Value.func (.func 41) #[] #[])]++([]:List Value)).toArray h (resK (fun t153 h =>
 bq (stN 3 h t4 t153) fun h=>(fun _ h =>
 bq (seqO [ldN 3 h t4]) fun vs=>Q (.ret (oneOf vs)) h) undef h) (fun v h=>Q (.pan v) h)))
 (bq (binV Tryz.prog .eql 9 (.tmp 41) (.const (Value.string (ByteArray.mk #[99,111,117,110,116]))) t41 (Value.string (ByteArray.mk #[99,111,117,110,116])) h) fun t155 =>
 let t154:Value:=t155
 condP (some t154)
 (bq (iaA 3 3 t5 (Value.int .i64 0)) fun t156 =>
 bq (fa 2 1 t156) fun t157 =>
 bq (ld1 h t157) fun t158 =>
 bq (lenL t158) fun t159 =>
 HC Tryz.prog 22 (([]:List Value)++[t159]++([]:List Value)).toArray h (resK (fun t160 h =>
 bq (bd #[(Value.int .i64 0),(Value.string (ByteArray.mk #[])),(Value.slice none 0 0)] [(0,1,t160)]) fun t161 =>
 bq (stN 3 h t4 t161) fun h=>(fun _ h =>
 bq (seqO [ldN 3 h t4]) fun vs=>Q (.ret (oneOf vs)) h) undef h) (fun v h=>Q (.pan v) h)))
 (bq (binV Tryz.prog .eql 9 (.tmp 41) (.const (Value.string (ByteArray.mk #[102,105,114,115,116]))) t41 (Value.string (ByteArray.mk #[102,105,114,115,116])) h) fun t163 =>
 let t162:Value:=t163
 condP (some t162)
 (bq (iaA 3 3 t5 (Value.int .i64 0)) fun t164 =>
 bq (fa 2 1 t164) fun t165 =>
 bq (ld1 h t165) fun t166 =>
 HC Tryz.prog 42 (([]:List Value)++[t166,(Value.bool false)]++([]:List Value)).toArray h (resK (fun t167 h =>
 bq (stN 3 h t4 t167) fun h=>(fun _ h =>
 bq (seqO [ldN 3 h t4]) fun vs=>Q (.ret (oneOf vs)) h) undef h) (fun v h=>Q (.pan v) h)))
 (bq (binV Tryz.prog .eql 9 (.tmp 41) (.const (Value.string (ByteArray.mk #[108,97,115,116]))) t41 (Value.string (ByteArray.mk #[108,97,115,116])) h) fun t169 =>
 let t168:Value:=t169
 condP (some t168)
 (bq (iaA 3 3 t5 (Value.int .i64 0)) fun t170 =>
 bq (fa 2 1 t170) fun t171 =>
 bq (ld1 h t171) fun t172 =>
 HC Tryz.prog 42 (([]:List Value)++[t172,(Value.bool true)]++([]:List Value)).toArray h (resK (fun t173 h =>
 bq (stN 3 h t4 t173) fun h=>(fun _ h =>
 bq (seqO [ldN 3 h t4]) fun vs=>Q (.ret (oneOf vs)) h) undef h) (fun v h=>Q (.pan v) h)))
 (bq (binV Tryz.prog .eql 9 (.tmp 41) (.const (Value.string (ByteArray.mk #[106,111,105,110]))) t41 (Value.string (ByteArray.mk #[106,111,105,110])) h) fun t175 =>
 let t174:Value:=t175
 condP (some t174)
 (bq (iaA 3 3 t5 (Value.int .i64 0)) fun t176 =>
 bq (fa 2 1 t176) fun t177 =>
 bq (ld1 h t177) fun t178 =>
 bq (iaA 3 3 t5 (Value.int .i64 1)) fun t179 =>
 bq (fa 1 1 t179) fun t180 =>
 bq (ld1 h t180) fun t181 =>
 HC Tryz.prog 43 (([]:List Value)++[t178,t181]++([]:List Value)).toArray h (resK (fun t182 h =>
 bq (bd #[(Value.int .i64 0),(Value.string (ByteArray.mk #[])),(Value.slice none 0 0)] [(1,1,t182)]) fun t183 =>
 bq (stN 3 h t4 t183) fun h=>(fun _ h =>
 bq (seqO [ldN 3 h t4]) fun vs=>Q (.ret (oneOf vs)) h) undef h) (fun v h=>Q (.pan v) h)))
 (bq (fa 0 1 t3) fun t184 =>
 bq (ld1 h t184) fun t185 =>
 bq (ldN 9 h t5) fun t186 =>
 HC Tryz.prog 44 (([]:List Value)++[t185,t186]++([]:List Value)).toArray h (resK (fun t187 h =>
 bq (stN 3 h t4 t187) fun h=>(fun _ h =>
 bq (seqO [ldN 3 h t4]) fun vs=>Q (.ret (oneOf vs)) h) undef h) (fun v h=>Q (.pan v) h))))))))))))))))))
theorem X23_10_eq (t0 t3 t4 t5 t27 t28 t29:Value) (h:AH) (Q:RQ):X23_10 t0 t3 t4 t5 t27 t28 t29 h Q=wpC Tryz.prog L23 (cAt code23 [.r,.r,.r,.l,.r,.i,.i]) (mkA 188 [(0,t0),(3,t3),(4,t4),(5,t5),(27,t27),(28,t28),(29,t29)]) h (ctxAt Tryz.prog L23 code23 [.r,.r,.r,.l,.r,.i,.i] (retK Tryz.prog res23 Q)):=by kernel_rfl
theorem X23_10_ok {t0 t3 t4 t5 t27 t28 t29:Value} {h:AH} {Q:RQ} (H:X23_10 t0 t3 t4 t5 t27 t28 t29 h Q):H23_10 t0 t3 t4 t5 t27 t28 t29 h Q:=HL.step (L:=L23) ((X23_10_eq t0 t3 t4 t5 t27 t28 t29 h Q).mp H)
noncomputable def X23 (t0 t1:Value) (h:AH) (Q:RQ):Prop :=
 (fun t3 h =>
 (fun t4 h =>
 bq (fa 0 1 t3) fun t8 =>
 bq (ld1 h t8) fun t9 =>
 bq (binV Tryz.prog .eql 9 (.tmp 9) (.const (Value.string (ByteArray.mk #[110,117,109,98,101,114]))) t9 (Value.string (ByteArray.mk #[110,117,109,98,101,114])) h) fun t11 =>
 let t10:Value:=t11
 condP (some t10)
 (bq (fa 2 1 t3) fun t12 =>
 bq (ld1 h t12) fun t13 =>
 bq (bd #[(Value.int .i64 0),(Value.string (ByteArray.mk #[])),(Value.slice none 0 0)] [(0,1,t13)]) fun t14 =>
 bq (stN 3 h t4 t14) fun h=>(fun _ h =>
 bq (seqO [ldN 3 h t4]) fun vs=>Q (.ret (oneOf vs)) h) undef h)
 (bq (binV Tryz.prog .eql 9 (.tmp 9) (.const (Value.string (ByteArray.mk #[115,116,114,105,110,103]))) t9 (Value.string (ByteArray.mk #[115,116,114,105,110,103])) h) fun t16 =>
 let t15:Value:=t16
 condP (some t15)
 (bq (fa 3 1 t3) fun t17 =>
 bq (ld1 h t17) fun t18 =>
 bq (bd #[(Value.int .i64 0),(Value.string (ByteArray.mk #[])),(Value.slice none 0 0)] [(1,1,t18)]) fun t19 =>
 bq (stN 3 h t4 t19) fun h=>(fun _ h =>
 bq (seqO [ldN 3 h t4]) fun vs=>Q (.ret (oneOf vs)) h) undef h)
 (bq (binV Tryz.prog .eql 9 (.tmp 9) (.const (Value.string (ByteArray.mk #[118,97,114]))) t9 (Value.string (ByteArray.mk #[118,97,114])) h) fun t21 =>
 let t20:Value:=t21
 condP (some t20)
 (let t22:Value:=t0
 bq (fa 3 1 t3) fun t23 =>
 bq (ld1 h t23) fun t24 =>
 HC Tryz.prog 35 (([]:List Value)++[t22,t24]++([]:List Value)).toArray h (resK (fun t25 h =>
 bq (stN 3 h t4 t25) fun h=>(fun _ h =>
 bq (seqO [ldN 3 h t4]) fun vs=>Q (.ret (oneOf vs)) h) undef h) (fun v h=>Q (.pan v) h)))
 ((fun t5 h =>
 bq (fa 4 1 t3) fun t26 =>
 bq (ld1 h t26) fun t27 =>
 bq (lenL t27) fun t28 =>
 let t29:Value:=(Value.int .i64 0)
 H23_10 t0 t3 t4 t5 t27 t28 t29 h Q) (opNew h 95 #[(Value.int .i64 0),(Value.string (ByteArray.mk #[])),(Value.slice none 0 0),(Value.int .i64 0),(Value.string (ByteArray.mk #[])),(Value.slice none 0 0),(Value.int .i64 0),(Value.string (ByteArray.mk #[])),(Value.slice none 0 0)]).1 (opNew h 95 #[(Value.int .i64 0),(Value.string (ByteArray.mk #[])),(Value.slice none 0 0),(Value.int .i64 0),(Value.string (ByteArray.mk #[])),(Value.slice none 0 0),(Value.int .i64 0),(Value.string (ByteArray.mk #[])),(Value.slice none 0 0)]).2)))) (opNew h 68 #[(Value.int .i64 0),(Value.string (ByteArray.mk #[])),(Value.slice none 0 0)]).1 (opNew h 68 #[(Value.int .i64 0),(Value.string (ByteArray.mk #[])),(Value.slice none 0 0)]).2) (opNew h 64 t1.cells).1 (opNew h 64 t1.cells).2
theorem X23_eq (t0 t1:Value) (h:AH) (Q:RQ):X23 t0 t1 h Q=wpC Tryz.prog L23 code23 (argA [t0,t1] Tryz.f23.ntmps) h (retK Tryz.prog res23 Q):=by kernel_rfl
theorem X23_body:Tryz.f23.body=some code23:=by kernel_rfl
theorem X23_ok {t0 t1:Value} {h:AH} {Q:RQ} (H:X23 t0 t1 h Q):HC Tryz.prog 23 [t0,t1].toArray h Q:=HC.body Tryz.func23 X23_body ((X23_eq t0 t1 h Q).mp H)
end Go.Proofs.YtibigfkeaemanaaGreatDoor.X
end
