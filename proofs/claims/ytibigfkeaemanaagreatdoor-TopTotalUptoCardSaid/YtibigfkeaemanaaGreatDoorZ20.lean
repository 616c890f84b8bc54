import Derived.KernelRfl
import Derived.Test.YtibigfkeaemanaaGreatDoorProg
import Derived.Test.YtibigfkeaemanaaGreatDoorZ14
import Derived.Test.YtibigfkeaemanaaGreatDoorZ18
import Derived.Test.YtibigfkeaemanaaGreatDoorZ19
set_option linter.unusedVariables false
set_option linter.unusedSimpArgs false
section
namespace Go.Proofs.YtibigfkeaemanaaGreatDoor.X
open Go.Ab
set_option maxRecDepth 100000
noncomputable def code9:Code:=match Tryz.f9.body with | some c=>c | none=>.skip
noncomputable def res9:List ResultVar:=Tryz.f9.results.toList
def L9:Nat→Option (List Nat):=fun r=>if r=3 then some [3,5] else if r=8 then some [5] else none
noncomputable def J9_8 (t5:Value) (h:AH) (Q:RQ):Prop:=wpC Tryz.prog L9 (cAt code9 [.r,.r,.r]) (mkA 26 [(5,t5)]) h (ctxAt Tryz.prog L9 code9 [.r,.r,.r] (retK Tryz.prog res9 Q))
noncomputable def K9_8 (t5:Value) (h:AH) (Q:RQ):Prop:=(ctxAt Tryz.prog L9 code9 [.r,.r,.l] (retK Tryz.prog res9 Q)) .normal (mkA 26 [(5,t5)]) h
theorem K9_8_eq (t5:Value) (h:AH) (Q:RQ):J9_8 t5 h Q=K9_8 t5 h Q:=join_eq (p:=[.r,.r]) (code:=code9) (by kernel_rfl) (by kernel_rfl)
noncomputable def rec9_3 (t3 t5:Value):Loop:=recOf (mkA 26 [(3,t3),(5,t5)]) (rps (cAt code9 [.r,.r,.l,.r,.i])) (rasg (cAt code9 [.r,.r,.l,.r,.i])) (rbody (cAt code9 [.r,.r,.l,.r,.i]))
noncomputable def X9_8 (t5:Value) (h:AH) (Q:RQ):Prop :=
 bq (ld1 h t5) fun t25 =>
 let t4:Value:=t25
 Q (.ret t4) h
theorem X9_8_eq (t5:Value) (h:AH) (Q:RQ):X9_8 t5 h Q=wpC Tryz.prog L9 (cAt code9 [.r,.r,.r]) (mkA 26 [(5,t5)]) h (ctxAt Tryz.prog L9 code9 [.r,.r,.r] (retK Tryz.prog res9 Q)):=by kernel_rfl
theorem X9_8_ok {t5:Value} {h:AH} {Q:RQ} (H:X9_8 t5 h Q):K9_8 t5 h Q:=(K9_8_eq t5 h Q).mp (((X9_8_eq t5 h Q).mp H))
noncomputable def X9 (t0 t1:Value) (h:AH) (Q:RQ):Prop :=
 (fun t2 h =>
 (fun t3 h =>
 let t4:Value:=(Value.slice none 0 0)
 (fun t5 h =>
 let t8:Value:=(Value.func (.func 19) [].toArray [t2].toArray)
 (rndP none h∧rangeQ Tryz.prog t8 (rec9_3 t3 t5) h (fun j h=>jumpX
 (K9_8 t5 h Q)
 (Q (.ret t4) h)
 (fun i=>if i=0 then (K9_8 t5 h Q) else (False))
 (fun l=>False) j) (fun v h=>Q (.pan v) h))) (opNew h 30 #[(Value.slice none 0 0)]).1 (opNew h 30 #[(Value.slice none 0 0)]).2) (opNew h 33 t1.cells).1 (opNew h 33 t1.cells).2) (opNew h 9 t0.cells).1 (opNew h 9 t0.cells).2
theorem X9_eq (t0 t1:Value) (h:AH) (Q:RQ):X9 t0 t1 h Q=wpC Tryz.prog L9 code9 (argA [t0,t1] Tryz.f9.ntmps) h (retK Tryz.prog res9 Q):=by kernel_rfl
theorem X9_body:Tryz.f9.body=some code9:=by kernel_rfl
theorem X9_ok {t0 t1:Value} {h:AH} {Q:RQ} (H:X9 t0 t1 h Q):HC Tryz.prog 9 [t0,t1].toArray h Q:=HC.body Tryz.func9 X9_body ((X9_eq t0 t1 h Q).mp H)
noncomputable def Y9_3 (t3 t5 t9 t10:Value) (k:Nat) (h:AH) (K:Value→AH→Prop):Prop :=
 let t6:Value:=t9
 let t7:Value:=t10
 bq (loopAt h k) fun q=>q.1.state=.ready∧(fun h:AH =>
 let t11:Value:=t6
 bq (fa 1 1 t3) fun t12 =>
 bq (ld1 h t12) fun t13 =>
 bq (binV Tryz.prog .geq 3 (.tmp 11) (.tmp 13) t11 t13 h) fun t14 =>
 condP (some t14)
 (endRd K k (some (.exit 0)) h)
 (let t15:Value:=t6
 bq (fa 0 1 t3) fun t16 =>
 bq (ld1 h t16) fun t17 =>
 bq (binV Tryz.prog .geq 3 (.tmp 15) (.tmp 17) t15 t17 h) fun t18 =>
 condP (some t18)
 (bq (ld1 h t5) fun t19 =>
 let t20:Value:=t6
 let t21:Value:=t7
 bq (bd #[(Value.int .i64 0),(Value.string (ByteArray.mk #[]))] [(0,1,t20),(1,1,t21)]) fun t22 =>
 bq (bs 37 #[(Value.int .i64 0),(Value.string (ByteArray.mk #[]))] 1 h [(0,2,t22)]) fun r=>(fun t23 h =>
 bq (apT 37 2 24 (some (Value.agg #[(Value.int .i64 0),(Value.string (ByteArray.mk #[]))])) h t19 t23) fun r=>(fun t24 h =>
 bq (stN 1 h t5 t24) fun h=>(fun _ h =>
 endRd K k none h) undef h) r.1 r.2) r.1 r.2)
 (endRd K k none h))) (h.put k (some (.loop { q.1 with state:=.busy },q.2)))
theorem Y9_3_eq (t3 t5 t9 t10:Value) (k:Nat) (h:AH) (K:Value→AH→Prop) (st:LoopState) (pe:Option Code):Y9_3 t3 t5 t9 t10 k h K=roundW Tryz.prog L9 { (rec9_3 t3 t5) with state:=st,pending:=pe } k [t9,t10] h K:=by kernel_rfl
theorem Y9_3_ok {t3 t5 t9 t10:Value} {k:Nat} {h:AH} {K:Value→AH→Prop} {st:LoopState} {pe:Option Code} {s:Option Nat} (hl:loopAt h k=some ({ (rec9_3 t3 t5) with state:=st,pending:=pe },s)) (H:Y9_3 t3 t5 t9 t10 k h K):roundP Tryz.prog k [t9,t10] h K:=roundP_of hl (by kernel_rfl) ((Y9_3_eq t3 t5 t9 t10 k h K st pe).mp H)
noncomputable def code19:Code:=match Tryz.f19.body with | some c=>c | none=>.skip
noncomputable def res19:List ResultVar:=Tryz.f19.results.toList
def L19:Nat→Option (List Nat):=fun r=>none
noncomputable def X19 (t0 t1:Value) (h:AH) (Q:RQ):Prop :=
 bq (ld1 h t1) fun t3 =>
 let t4:Value:=t0
 HC Tryz.prog 20 (([]:List Value)++[t3,t4]++([]:List Value)).toArray h (resK (fun t5 h =>
 Q (.ret (.tuple [].toArray)) h) (fun v h=>Q (.pan v) h))
theorem X19_eq (t0 t1:Value) (h:AH) (Q:RQ):X19 t0 t1 h Q=wpC Tryz.prog L19 code19 (argA [t0,t1] Tryz.f19.ntmps) h (retK Tryz.prog res19 Q):=by kernel_rfl
theorem X19_body:Tryz.f19.body=some code19:=by kernel_rfl
theorem X19_ok {t0 t1:Value} {h:AH} {Q:RQ} (H:X19 t0 t1 h Q):HC Tryz.prog 19 [t0,t1].toArray h Q:=HC.body Tryz.func19 X19_body ((X19_eq t0 t1 h Q).mp H)
noncomputable def code20:Code:=match Tryz.f20.body with | some c=>c | none=>.skip
noncomputable def res20:List ResultVar:=Tryz.f20.results.toList
def L20:Nat→Option (List Nat):=fun r=>if r=1 then some [0,1,4] else if r=5 then some [0,1,4,5] else none
noncomputable def H20_1 (t0 t1 t4:Value) (h:AH) (Q:RQ):Prop:=HL Tryz.prog (cAt code20 [.r,.i,.i]) (mkA 34 [(0,t0),(1,t1),(4,t4)]) h (ctxAt Tryz.prog L20 code20 [.r,.i] (retK Tryz.prog res20 Q))
noncomputable def J20_5 (t0 t1 t4 t5:Value) (h:AH) (Q:RQ):Prop:=wpC Tryz.prog L20 (cAt code20 [.r,.i,.i,.r,.i,.r,.r]) (mkA 34 [(0,t0),(1,t1),(4,t4),(5,t5)]) h (ctxAt Tryz.prog L20 code20 [.r,.i,.i,.r,.i,.r,.r] (retK Tryz.prog res20 Q))
noncomputable def K20_5 (t0 t1 t4 t5:Value) (h:AH) (Q:RQ):Prop:=(ctxAt Tryz.prog L20 code20 [.r,.i,.i,.r,.i,.r,.l] (retK Tryz.prog res20 Q)) .normal (mkA 34 [(0,t0),(1,t1),(4,t4),(5,t5)]) h
theorem K20_5_eq (t0 t1 t4 t5:Value) (h:AH) (Q:RQ):J20_5 t0 t1 t4 t5 h Q=K20_5 t0 t1 t4 t5 h Q:=join_eq (p:=[.r,.i,.i,.r,.i,.r]) (code:=code20) (by kernel_rfl) (by kernel_rfl)
noncomputable def X20_5 (t0 t1 t4 t5:Value) (h:AH) (Q:RQ):Prop :=
 let t20:Value:=t1
 let t21:Value:=t4
 let t22:Value:=t0
 let t23:Value:=t4
 let t24:Value:=t4
 let t25:Value:=t5
 bq (binV Tryz.prog .add 3 (.tmp 24) (.tmp 25) t24 t25 h) fun t26 =>
 bq (sliceV Tryz.prog h 9 t22 (some t23) (some t26)) fun t27 =>
 callP Tryz.prog t20 [t21,t27] h (fun t28 h =>
 bq (unV Tryz.prog .not t28) fun t29 =>
 condP (some t29)
 (Q (.ret (.tuple [].toArray)) h)
 (let t30:Value:=t4
 let t31:Value:=t5
 bq (binV Tryz.prog .add 3 (.tmp 31) (.const (Value.int .i64 1)) t31 (Value.int .i64 1) h) fun t32 =>
 bq (binV Tryz.prog .add 3 (.tmp 30) (.tmp 32) t30 t32 h) fun t33 =>
 let t4:Value:=t33
 H20_1 t0 t1 t4 h Q)) (fun v h=>Q (.pan v) h)
theorem X20_5_eq (t0 t1 t4 t5:Value) (h:AH) (Q:RQ):X20_5 t0 t1 t4 t5 h Q=wpC Tryz.prog L20 (cAt code20 [.r,.i,.i,.r,.i,.r,.r]) (mkA 34 [(0,t0),(1,t1),(4,t4),(5,t5)]) h (ctxAt Tryz.prog L20 code20 [.r,.i,.i,.r,.i,.r,.r] (retK Tryz.prog res20 Q)):=by kernel_rfl
theorem X20_5_ok {t0 t1 t4 t5:Value} {h:AH} {Q:RQ} (H:X20_5 t0 t1 t4 t5 h Q):K20_5 t0 t1 t4 t5 h Q:=(K20_5_eq t0 t1 t4 t5 h Q).mp (((X20_5_eq t0 t1 t4 t5 h Q).mp H))
noncomputable def X20_1 (t0 t1 t4:Value) (h:AH) (Q:RQ):Prop :=
 let t6:Value:=t4
 let t7:Value:=t0
 bq (lenS t7) fun t8 =>
 bq (binV Tryz.prog .lss 3 (.tmp 6) (.tmp 8) t6 t8 h) fun t9 =>
 condP (some t9)
 (let t10:Value:=t0
 let t11:Value:=t4
 bq (sliceV Tryz.prog h 9 t10 (some t11) none) fun t12 =>
 HC Tryz.prog 24 (([]:List Value)++[t12,(Value.int .u8 10)]++([]:List Value)).toArray h (resK (fun t13 h =>
 let t5:Value:=t13
 let t14:Value:=t5
 bq (binV Tryz.prog .lss 3 (.tmp 14) (.const (Value.int .i64 0)) t14 (Value.int .i64 0) h) fun t15 =>
 condP (some t15)
 (let t16:Value:=t0
 bq (lenS t16) fun t17 =>
 let t18:Value:=t4
 bq (binV Tryz.prog .sub 3 (.tmp 17) (.tmp 18) t17 t18 h) fun t19 =>
 let t5:Value:=t19
 K20_5 t0 t1 t4 t5 h Q)
 (K20_5 t0 t1 t4 t5 h Q)) (fun v h=>Q (.pan v) h)))
 (Q (.ret (.tuple [].toArray)) h)
theorem X20_1_eq (t0 t1 t4:Value) (h:AH) (Q:RQ):X20_1 t0 t1 t4 h Q=wpC Tryz.prog L20 (cAt code20 [.r,.i,.i]) (mkA 34 [(0,t0),(1,t1),(4,t4)]) h (ctxAt Tryz.prog L20 code20 [.r,.i,.i] (retK Tryz.prog res20 Q)):=by kernel_rfl
theorem X20_1_ok {t0 t1 t4:Value} {h:AH} {Q:RQ} (H:X20_1 t0 t1 t4 h Q):H20_1 t0 t1 t4 h Q:=HL.step (L:=L20) ((X20_1_eq t0 t1 t4 h Q).mp H)
noncomputable def X20 (t0 t1:Value) (h:AH) (Q:RQ):Prop :=
 let t4:Value:=(Value.int .i64 0)
 H20_1 t0 t1 t4 h Q
theorem X20_eq (t0 t1:Value) (h:AH) (Q:RQ):X20 t0 t1 h Q=wpC Tryz.prog L20 code20 (argA [t0,t1] Tryz.f20.ntmps) h (retK Tryz.prog res20 Q):=by kernel_rfl
theorem X20_body:Tryz.f20.body=some code20:=by kernel_rfl
theorem X20_ok {t0 t1:Value} {h:AH} {Q:RQ} (H:X20 t0 t1 h Q):HC Tryz.prog 20 [t0,t1].toArray h Q:=HC.body Tryz.func20 X20_body ((X20_eq t0 t1 h Q).mp H)
end Go.Proofs.YtibigfkeaemanaaGreatDoor.X
end
section
namespace Go.Ab
inductive Gs (e z:Nat) (h:AH):Value→List Value→Prop
 | nil:Gs e z h (.slice none 0 0) []
 | row {k:Nat} {c:Array Value} {l x:List Value} {sp:Option Nat} (hg:h.get k=some (.cells c e (0,0),sp)) (hsp:sp=none ∨ sp=some z) (hc:c=(flatC (l++x)).toArray) (hx:∀ v ∈ x,v.cells.size=z) (hp:0 < l.length + x.length) :
   Gs e z h (.slice (some ⟨k,0,none⟩) l.length (l.length + x.length)) l
theorem Gs.of_own {e z:Nat} {h:AH} {s:Value} {l:List Value} (o:Own e z h s l):Gs e z h s l:=by
 cases o with
 | nil=>exact .nil
 | row hg hc hx hp=>exact .row hg (.inr rfl) hc hx hp
theorem Gs.mono {e z:Nat} {h h':AH} {s:Value} {l:List Value} (o:Gs e z h s l) (hg:∀ k,blkOf s=some k→h'.get k=h.get k):Gs e z h' s l:=by
 cases o with
 | nil=>exact .nil
 | row h1 hsp hc hx hp=>exact .row ((hg _ rfl).trans h1) hsp hc hx hp
theorem Gs.len {e z:Nat} {h:AH} {s:Value} {l:List Value} (o:Gs e z h s l):lenL s=some (.int .i64 l.length):=by
 cases o <;> rfl
theorem Gs.isSl {e z:Nat} {h:AH} {s:Value} {l:List Value} (o:Gs e z h s l):∃ a n c,s=.slice a n c:=by
 cases o <;> exact ⟨_,_,_,rfl⟩
theorem Gs.src {e z:Nat} {h:AH} {s:Value} {l:List Value} (o:Gs e z h s l) (hz:∀ v ∈ l,v.cells.size=z):Src h z s l:=by
 cases o with
 | nil=>exact Src.nil (n:=0)
 | row h1 hsp hc hx hp =>
  have hl:=flatC_length hz
  refine Src.row h1 hz ?_ ?_
  ·rw [hc];simp [flatC,← hl]
  ·rw [hc,Nat.zero_add,← hl];simp [flatC]
theorem Gs.append {e z bytes:Nat} {zero:Value} {h:AH} {s x:Value} {l m:List Value} (o:Gs e z h s l) (hx:Src h z x m) (hl:∀ v ∈ l,v.cells.size=z) (hm:∀ v ∈ m,v.cells.size=z) (hone:∀ v ∈ flatC m,v.oneCell' = true)
  (hz:0 < z) (hb:0 < bytes) (hb':bytes < 1073741824) (hzero:zero.cells.size=z) (hs:(l.length + m.length) * bytes < 1099511627776) :
  ∃ s' h',apT e z bytes (some zero) h s x=some (s',h')∧Gs e z h' s' (l++m)∧h.size ≤ h'.size∧(∀ k,k < h.size→blkOf s ≠ some k→h'.get k=h.get k)∧(blkOf s' = blkOf s ∨ ∃ k,blkOf s' = some k∧h.size ≤ k∧k < h'.size):=by
 have hlm:=flatC_length hm
 have hll:=flatC_length hl
 obtain ⟨h1,h2⟩:=hx
 have hfm:(flatC m).toArray.size=m.length * z:=by simp [hlm]
 have hcat:∀ a b:List Value,flatC (a++b)=flatC a++flatC b:=fun a b=>by simp [flatC]
 cases o with
 | nil =>
  obtain ⟨s',h',a1,a2,a3,a4,a5⟩:=(Hld.nil (e:=e) (z:=z) (h:=h) (lo:=0)).append ⟨h1,h2⟩ (Nat.zero_le _) hl hm hone hz hb hb' hzero hs
  exact ⟨s',h',a1,.of_own (.of_hld a2),a3,a4,a5⟩
 | row hg hsp hc hxz hp =>
  rename_i k c r sp
  have hrl:=flatC_length hxz
  have hcs:c.size=(l.length + r.length) * z:=by rw [hc,hcat];simp [hll,hrl,Nat.add_mul]
  unfold apT
  simp only [h1,h2,hfm,if_true]
  by_cases hroom:m.length ≤ r.length
  ·rw [if_pos (by omega)]
   by_cases h0:m.length * z=0
   ·have hm0:m=[]:=by
     rcases Nat.mul_eq_zero.1 h0 with e1 | e1
     ·exact List.eq_nil_of_length_eq_zero e1
     ·omega
    subst hm0
    refine ⟨_,h,by rw [if_pos h0];rfl,?_,Nat.le_refl _,fun _ _ _=>rfl,.inl rfl⟩
    have:=Gs.row (x:=r) hg hsp hc hxz hp
    rw [List.append_nil];exact this
   ·rw [if_neg h0]
    simp only [Option.isSome_none,Bool.false_eq_true,if_false]
    have hset:opSetCells h (Addr.add ⟨k,0,none⟩ (l.length * z)) (flatC m).toArray=some (h.put k (some (.cells (flatC (l++m++r.drop m.length)).toArray e (0,0),sp))):=by
     rw [add_off]
     unfold opSetCells
     simp only [Option.isSome_none,Bool.false_eq_true,if_false,hg]
     have hle:0 + l.length * z + (flatC m).toArray.size ≤ c.size:=by
      rw [hfm,hcs,Nat.zero_add,← Nat.add_mul];exact Nat.mul_le_mul_right _ (by omega)
     rw [if_pos ⟨trivial,hle,by simpa using hone⟩]
     congr 5
     have e1:flatC (l++r)=flatC l++(flatC (r.take m.length)++flatC (r.drop m.length)):=by
      rw [hcat,← hcat (r.take _),List.take_append_drop]
     rw [hc,e1]
     show setFrom _ _ (flatC m)=_
     rw [setFrom_mid (n:=flatC m) ?_ (by rw [Nat.zero_add,hll])]
     ·rw [hcat,hcat,List.append_assoc]
     ·rw [flatC_length (fun v hv=>hxz v (List.mem_of_mem_take hv)),hlm,List.length_take,Nat.min_eq_left hroom]
    rw [hset]
    refine ⟨_,_,rfl,?_,by simp,fun j hj hne=>get_put_ne (fun e=>hne (by rw [e];rfl)),.inl rfl⟩
    have:=Gs.row (e:=e) (z:=z) (h:=h.put k (some (.cells (flatC (l++m++r.drop m.length)).toArray e (0,0),sp))) (k:=k) (l:=l++m) (x:=r.drop m.length) (get_put_eq rfl) hsp rfl (fun v hv=>hxz v (List.mem_of_mem_drop hv)) (by simp;omega)
    have e2:(l++m).length + (r.drop m.length).length=l.length + r.length:=by simp;omega
    rw [e2] at this
    simpa using this
  ·rw [if_neg (by omega),if_pos ⟨hz,hb,by simpa using hb',by simpa using hs,by simpa using hzero⟩]
   have hsrc:=(Gs.src (Gs.row (x:=r) hg hsp hc hxz hp) hl).2
   have hfl:(flatC l).toArray.size=l.length * z:=by simp [hll]
   simp only [hsrc,hfl,if_true,hg]
   rcases hsp with rfl | rfl
   ·refine ⟨_,_,rfl,?_,by simp,fun j hj hne=>?_,.inr ⟨h.size,rfl,Nat.le_refl _,by simp⟩⟩
    ·have:=Gs.row (e:=e) (z:=z) (h:=h.push (.cells ((flatC l).toArray++(flatC m).toArray) e (0,0)) (some z)) (k:=h.size) (l:=l++m) (x:=[]) (get_push_eq rfl) (.inr rfl) (by rw [List.append_nil,hcat];simp) (by simp) (by simp;omega)
     simpa using this
    ·rw [get_push_ne (by omega)]
   ·dsimp only
    rw [if_pos ⟨rfl,rfl,rfl,trivial,trivial,hp,by simpa using hone⟩]
    refine ⟨_,_,rfl,?_,by simp,fun j hj hne=>?_,.inr ⟨h.size,rfl,Nat.le_refl _,by simp⟩⟩
    ·have:=Gs.row (e:=e) (z:=z) (h:=(h.put k none).push (.cells ((flatC l).toArray++(flatC m).toArray) e (0,0)) (some z)) (k:=h.size) (l:=l++m) (x:=[]) (get_push_eq rfl) (.inr rfl) (by rw [List.append_nil,hcat];simp) (by simp) (by simp;omega)
     simpa using this
    ·rw [get_push_ne (by simp;omega),get_put_ne (fun e=>hne (by rw [e];rfl))]
theorem Gs.rd {e:Nat} {h:AH} {z:Nat} {v:Value} {l:List Value} (o:Gs e z h v l) (hz:∀ v ∈ l,v.cells.size=z) (hb:∀ k,blkOf v=some k→k < h.size):Rd h z v l:=by
 refine ⟨o.len,fun i x hx=>?_⟩
 have hxz:=hz x (List.mem_of_getElem? hx)
 have hi:=(List.getElem?_eq_some_iff.1 hx).1
 cases o with
 | nil=>cases hx
 | row hg hsp hc hrz hp =>
  rename_i k c r sp
  have hall:∀ v ∈ l++r,v.cells.size=z:=fun v hv=>(List.mem_append.1 hv).elim (hz v) (hrz v)
  have hsz:c.size=(l.length + r.length) * z:=by rw [hc];simp [flatC_length hall]
  have hle:i * z + z ≤ (l.length + r.length) * z:=by rw [← Nat.succ_mul];exact Nat.mul_le_mul_right _ (by omega)
  refine ⟨.pointer (some ⟨k,i * z,none⟩),?_,?_,hxz⟩
  ·rw [ia_sl,if_pos ⟨by omega,by omega⟩]
   simp
  ·have e:x.cells=c.extract (i * z) (i * z + z):=by
    apply Array.ext
    ·simp;omega
    ·intro j h1 h2
     rw [Array.getElem_extract]
     have:=flatC_at hall j (i:=i) (x:=x) (by rw [List.getElem?_append_left hi];exact hx) (by omega)
     apply Option.some.inj
     rw [← Array.getElem?_eq_getElem,← this,← Array.getElem?_eq_getElem,hc]
     simp
   rw [e]
   exact .ptr (hb _ rfl) hg (by omega)
def cutS:Value→Nat→Value
 | .slice b _ c,k=>.slice b k c
 | v,_=>v
theorem Gs.cutV {P:Program} {e z t el k:Nat} {d:TypeInfo} {h:AH} {v:Value} {l:List Value} (o:Gs e z h v l) (hu:P.underlying t=some (.slice el)) (hd:P.info? el=some d) (hds:d.size=z)
  (hz:∀ v ∈ l,v.cells.size=z) (hk:k ≤ l.length):sliceV P h t v none (some (.int .i64 (k:Int)))=some (cutS v k)∧Gs e z h (cutS v k) (l.take k)∧blkOf (cutS v k)=blkOf v:=by
 cases o with
 | nil =>
  obtain rfl:k=0:=by simpa using hk
  refine ⟨?_,.nil,rfl⟩
  show opSlice P h t (.slice none 0 0) none (some (.int .i64 ((0:Nat):Int)))=_
  unfold opSlice
  rw [hu]
  simp only [hd,bounds_high (Nat.le_refl 0)]
  rfl
 | row hg hsp hc hx hp =>
  rename_i b c r sp
  refine ⟨?_,?_,rfl⟩
  ·rcases hsp with rfl | rfl
   ·show opSlice P h t (.slice (some ⟨b,0,none⟩) l.length (l.length + r.length)) none (some (.int .i64 (k:Int)))=_
    unfold opSlice
    rw [hu]
    simp only [hd,bounds_high (len:=l.length) (show k ≤ l.length + r.length by omega),hg,add_off]
    simp [hds,cutS]
   ·show opSlice P h t (.slice (some ⟨b,0,none⟩) l.length (l.length + r.length)) none (some (.int .i64 (k:Int)))=_
    unfold opSlice
    rw [hu]
    simp only [hd,bounds_high (len:=l.length) (show k ≤ l.length + r.length by omega),hg,add_off]
    simp [hds,cutS]
  ·have:=Gs.row (e:=e) (z:=z) (h:=h) (k:=b) (l:=l.take k) (x:=l.drop k++r) hg hsp (by rw [← List.append_assoc,List.take_append_drop];exact hc) (fun v hv=>(List.mem_append.1 hv).elim (fun q=>hz v (List.mem_of_mem_drop q)) (hx v)) (by simp;omega)
   have e1:(l.take k).length=k:=by simp;omega
   have e2:(l.take k).length + (l.drop k++r).length=l.length + r.length:=by simp;omega
   rw [e2,e1] at this
   exact this
theorem Src.one {h:AH} {k:Nat} {v:Value} {c:Array Value} {e z:Nat} {fz:Nat × Nat} {s:Option Nat} (hg:h.get k=some (.cells c e fz,s)) (hc:v.cells=c) (hz:c.size=z):Src h z (.slice (some ⟨k,0,none⟩) 1 1) [v]:=by
 subst hc
 have hfl:flatC [v]=v.cells.toList:=by simp [flatC]
 refine Src.row (m:=[v]) hg (fun x hx=>by rw [List.mem_singleton.1 hx];exact hz) (by simp [hz]) ?_
 rw [hfl];simp [hz]
end Go.Ab
end
section
namespace Go.Proofs.YtibigfkeaemanaaGreatDoor.L
open Go.Ab Go.Lang Go.Proofs.YtibigfkeaemanaaGreatDoor.X
set_option maxRecDepth 100000
theorem own_add {e z bytes lo:Nat} {zero v:Value} {h:AH} {s:Value} {l:List Value} (o:Go.Ab.Own e z h s l) (hlo:∀ k,blkOf s=some k→lo ≤ k∧k < h.size) (hle:lo ≤ h.size) (hl:∀ v ∈ l,v.cells.size=z) (hv:v.cells.size=z) (hone:∀ u ∈ v.cells.toList,u.oneCell' = true)
  (hz:0 < z) (hb:0 < bytes) (hb':bytes < 1073741824) (hzero:zero.cells.size=z) (hs:(l.length + 1) * bytes < 1099511627776) :
  ∃ s' h',apT e z bytes (some zero) (h.push (.cells v.cells e (0,0)) none) s (.slice (some ⟨h.size,0,none⟩) 1 1)=some (s',h')∧Go.Ab.Own e z h' s' (l++[v])∧Kp lo h h'∧h.size < h'.size∧(∀ k,blkOf s' = some k→lo ≤ k∧k < h'.size)∧(∀ k,k < h.size→blkOf s ≠ some k→h'.get k=h.get k):=by
 have o1:Go.Ab.Own e z (h.push (.cells v.cells e (0,0)) none) s l:=o.mono fun k hk=>get_push_ne (by have:=(hlo k hk).2;omega)
 obtain ⟨s',h',a1,a2,a3,a4,a5⟩:=o1.append (bytes:=bytes) (zero:=zero) (Src.one (get_push_eq rfl) rfl hv) hl (fun u hu=>by rw [List.mem_singleton.1 hu];exact hv) (fun u hu=>hone u (by simpa [flatC] using hu)) hz hb hb' hzero (by simpa using hs)
 simp only [sz_push] at a3 a4 a5
 have fr:∀ k,k < h.size→blkOf s ≠ some k→h'.get k=h.get k:=fun k hk hne=>by rw [a4 k (by omega) hne,get_push_ne (by omega)]
 refine ⟨s',h',a1,a2,⟨by omega,fun k hk=>fr k (by omega) fun e=>by have:=(hlo k e).1;omega⟩,by omega,fun k hk=>?_,fr⟩
 rcases a5 with a5 | ⟨j,a5,a6,a7⟩
 ·rw [a5] at hk;have:=hlo k hk;omega
 ·rw [a5] at hk;cases hk;omega
def planF (size w:Nat):Nat→Nat→List (Nat × Nat)
 | 0,_=>[]
 | k + 1,i=>if i < size then (i,if w < size - i then i + w else size)::planF size w k (if w < size - i then i + w else size) else []
def encSp (p:Nat × Nat):Value:=.agg #[.int .i64 (p.1:Nat),.int .i64 (p.2:Nat)]
theorem bin_quo_i {a b:Int} {x y:Operand} {h:AH} (hb:b ≠ 0):binV Tryz.prog .quo 3 x y (.int .i64 a) (.int .i64 b) h=some (.int .i64 (IntKind.wrap .i64 (a.tdiv b))):=by
 cases b with
 | ofNat n=>cases n with
  | zero=>exact absurd rfl hb
  | succ n=>kernel_rfl
 | negSucc n=>kernel_rfl
def NewP (e z:Nat) (h:AH) (l:List Value) (r:Res) (h':AH):Prop:=∃ v,r=.ret v∧Kp h.size h h'∧Go.Ab.Own e z h' v l∧∀ k,blkOf v=some k→h.size ≤ k∧k < h'.size
theorem plan_loop {h:AH} {size w:Nat} (hs:size ≤ 1099511627) (hw:w ≤ 9223372036854775807) (hw1:1 ≤ w) :
  ∀ (k i:Nat) (done:List (Nat × Nat)) (s:Value) (h1:AH),(i ≤ size∧size < i + k)→done.length ≤ i→Kp h.size h h1→Go.Ab.Own 33 2 h1 s (done.map encSp)→(∀ k,blkOf s=some k→h.size ≤ k∧k < h1.size) →
  H10_6 (.int .i64 size) (.int .i64 w) s (.int .i64 i) h1 (NewP 33 2 h ((done++planF size w k i).map encSp)):=by
 intro k
 induction k with
 | zero =>
  intro i done s h1 hk
  exact absurd hk (by omega)
 | succ k ih =>
  intro i done s h1 hk hd K o hlo
  refine X10_6_ok ?_
  unfold X10_6
  unfold planF
  by_cases hi:i < size
  ·have e:(i:Int) < size:=by omega
   rw [if_pos hi]
   have ew:IntKind.i64.wrap ((size:Int) - i)=((size - i:Nat):Int):=(wrap64 (by omega) (by omega)).trans (by omega)
   have step:∀ to:Nat,i < to→to ≤ size→K10_10 (.int .i64 size) (.int .i64 w) s (.int .i64 i) (.int .i64 to) h1 (NewP 33 2 h ((done++(i,to)::planF size w k to).map encSp)):=by
    intro to h1' h2'
    refine X10_10_ok ?_
    unfold X10_10
    have hz:=K.size
    obtain ⟨s',h2,a1,a2,a3,a4,a5,a6⟩:=own_add (bytes:=16) (zero:=.agg #[.int .i64 0,.int .i64 0]) (v:=encSp (i,to)) (lo:=h.size) o hlo K.size (fun v hv=>by obtain ⟨p,_,rfl⟩:=List.mem_map.1 hv;rfl) rfl (by intro u hu;simp [encSp,Value.cells] at hu;rcases hu with rfl | rfl <;> rfl) (by decide) (by decide) (by decide) rfl (by rw [List.length_map];omega)
    have ec:(encSp (i,to)).cells = #[.int .i64 (i:Int),.int .i64 (to:Int)]:=rfl
    rw [ec] at a1
    generalize hap:apT 33 2 16 (some (.agg #[.int .i64 0,.int .i64 0]))=ap at a1 ⊢
    simp (disch:=first|exact dz|fail) only [a1,SXB,SX,simprocAttr]
    have:=ih to (done++[(i,to)]) s' h2 (by omega) (by simp;omega) (K.trans a3) (by rw [List.map_append];exact a2) a5
    rw [List.append_assoc] at this
    exact this
   by_cases hc:w < size - i
   ·have e2:((w:Nat):Int) < ((size - i:Nat):Int):=by omega
    have ew2:IntKind.i64.wrap ((i:Int) + w)=((i + w:Nat):Int):=(wrap64 (by omega) (by omega)).trans (by omega)
    rw [if_pos hc]
    simp (disch:=first|exact dz|fail) only [e,ew,e2,ew2,SXB,SX,simprocAttr]
    exact step (i + w) (by omega) (by omega)
   ·have e2:¬ ((w:Nat):Int) < ((size - i:Nat):Int):=by omega
    rw [if_neg hc]
    simp (disch:=first|exact dz|fail) only [e,ew,e2,SXB,SX,simprocAttr]
    exact step size (by omega) (by omega)
  ·have e:¬ (i:Int) < size:=by omega
   rw [if_neg hi,List.append_nil]
   simp (disch:=first|exact dz|fail) only [e,SXB,SX,simprocAttr]
   exact ⟨s,rfl,K,o,hlo⟩
def planW (size:Nat) (want:Int):Nat:=(max want (((size - 1) / 256 + 1:Nat):Int)).toNat
theorem plan_ok {h:AH} {size:Nat} (hs:size ≤ 1099511627) {want:Int} (hw:want ≤ 9223372036854775807) :
  HC Tryz.prog 10 [.int .i64 size,.int .i64 want].toArray h (NewP 33 2 h ((planF size (planW size want) (size + 1) 0).map encSp)):=by
 refine X10_ok ?_
 unfold X10
 by_cases h0:size < 1
 ·have e:(size:Int) < 1:=by omega
  have:size=0:=by omega
  subst this
  simp (disch:=first|exact dz|fail) only [e,SXB,SX,simprocAttr]
  exact ⟨_,rfl,.refl _ _,.nil,fun k hk=>by cases hk⟩
 ·have e:¬ (size:Int) < 1:=by omega
  have ew:IntKind.i64.wrap ((size:Int) - 1)=((size - 1:Nat):Int):=(wrap64 (by omega) (by omega)).trans (by omega)
  have eq:IntKind.i64.wrap ((((size - 1:Nat):Int)).tdiv 256)=(((size - 1) / 256:Nat):Int):=by
   have:(((size - 1:Nat):Int)).tdiv 256=(((size - 1) / 256:Nat):Int):=rfl
   rw [this];exact wrap64 (by omega) (by omega)
  have ea:IntKind.i64.wrap ((((size - 1) / 256:Nat):Int) + 1)=(((size - 1) / 256 + 1:Nat):Int):=(wrap64 (by omega) (by omega)).trans (by omega)
  have hm:(max want (((size - 1) / 256 + 1:Nat):Int))=((planW size want:Nat):Int):=by unfold planW;omega
  simp (disch:=first|exact dz|fail) only [e,ew,bin_quo_i (show (256:Int) ≠ 0 by decide),eq,ea,max_ite,hm,SXB,SX,simprocAttr]
  exact plan_loop hs (by unfold planW;omega) (by unfold planW;omega) (size + 1) 0 [] _ h (by omega) (by simp) (.refl _ _) .nil (fun k hk=>by cases hk)
end Go.Proofs.YtibigfkeaemanaaGreatDoor.L
end
