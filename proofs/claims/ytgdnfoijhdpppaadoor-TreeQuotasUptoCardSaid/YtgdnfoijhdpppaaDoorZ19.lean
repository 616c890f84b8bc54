import Derived.Test.YtgdnfoijhdpppaaDoorZ17
import Derived.Test.YtgdnfoijhdpppaaDoorZ18
set_option linter.unusedVariables false
set_option linter.unusedSimpArgs false
section
namespace Go.Ab
inductive Pt (h:AH):Value→Array Value→Prop
 | fp (c:Array Value):Pt h (FPv c) c
 | ptr {k o n:Nat} {c:Array Value} {e:TypeId} {fz:Nat × Nat} {s:Option Nat} (hk:k < h.size) (hg:h.get k=some (.cells c e fz,s)) (hc:o + n ≤ c.size):Pt h (.pointer (some ⟨k,o,none⟩)) (c.extract o (o + n))
theorem Pt.ld1 {h:AH} {p:Value} {c:Array Value} (x:Pt h p c) (hc:0 < c.size):Ab.ld1 h p=c[0]?:=by
 cases x with
 | fp c=>rfl
 | ptr hk hg hc' =>
  rw [ld1_ptr,hg,rowC_cells,Option.bind_some,Array.getElem?_extract]
  simp at hc
  rw [if_pos (by omega),Nat.add_zero]
theorem Pt.ldN {h:AH} {p:Value} {c:Array Value} {n:Nat} (x:Pt h p c) (hc:c.size=n):Ab.ldN n h p=some (.agg c):=by
 cases x with
 | fp c =>
  rw [ldN_fp,if_pos (by omega)]
  congr 2
  rw [← hc];simp
 | ptr hk hg hc' =>
  rw [ldN_ptr,hg,rowC_cells,Option.bind_some]
  simp at hc
  rw [if_pos (by omega)]
  congr 3
  omega
structure Rd (h:AH) (z:Nat) (v:Value) (l:List Value):Prop where
 len:lenL v=some (.int .i64 l.length)
 el:∀ (i:Nat) (x:Value),l[i]?=some x→∃ p,ia z v (.int .i64 i)=some p∧Pt h p x.cells∧x.cells.size=z
theorem Rd.of_hld {e lo:Nat} {h:AH} {z:Nat} {v:Value} {l:List Value} (o:Hld e z h lo v l) (hz:∀ v ∈ l,v.cells.size=z) (hb:∀ k,blkOf v=some k→k < h.size):Rd h z v l:=by
 refine ⟨o.len,fun i x hx=>?_⟩
 have hxz:=hz x (List.mem_of_getElem? hx)
 have hi:=(List.getElem?_eq_some_iff.1 hx).1
 cases o with
 | nil=>cases hx
 | row hk hg hc hp =>
  rename_i k c
  have hsz:c.size=l.length * z:=by rw [hc];simp [flatC_length hz]
  have hle:i * z + z ≤ l.length * z:=by rw [← Nat.succ_mul];exact Nat.mul_le_mul_right _ hi
  refine ⟨.pointer (some ⟨k,i * z,none⟩),?_,?_,hxz⟩
  ·rw [ia_sl,if_pos ⟨by omega,by omega⟩]
   simp
  ·have e:x.cells=c.extract (i * z) (i * z + z):=by
    apply Array.ext
    ·simp;omega
    ·intro j h1 h2
     rw [Array.getElem_extract]
     have:=flatC_at hz j hx (by omega)
     apply Option.some.inj
     rw [← Array.getElem?_eq_getElem,← this,← Array.getElem?_eq_getElem,hc]
     simp
   rw [e]
   exact .ptr (hb _ rfl) hg (by omega)
theorem Pt.mono {h h':AH} {p:Value} {c:Array Value} (x:Pt h p c) (K:Kp h.size h h'):Pt h' p c:=by
 cases x with
 | fp c=>exact .fp c
 | ptr hk hg hc=>exact .ptr (Nat.lt_of_lt_of_le hk K.size) ((K.get _ hk).trans hg) hc
theorem Rd.mono {h h':AH} {z:Nat} {v:Value} {l:List Value} (x:Rd h z v l) (K:Kp h.size h h'):Rd h' z v l :=
 ⟨x.len,fun i y hy=>by
  obtain ⟨p,h1,h2,h3⟩:=x.el i y hy
  exact ⟨p,h1,h2.mono K,h3⟩⟩
theorem Gr.rd {e z:Nat} {h0 h:AH} {s:Value} {l:List Value} (g:Gr e z h0 h s l) (hz:∀ v ∈ l,v.cells.size=z):Rd h z s l:=Rd.of_hld g.hld hz g.lt
end Go.Ab
end
section
namespace Go.Ab
theorem bounds_high {len cap k:Nat} (hk:k ≤ cap):bounds? len cap none (some (.int .i64 (k:Int)))=some (0,k):=by
 unfold bounds? bound?
 have:(0:Int) ≤ (k:Int)∧(k:Int) ≤ cap:=by omega
 simp [this]
theorem bounds_low {len cap k:Nat} (hk:k ≤ len):bounds? len cap (some (.int .i64 (k:Int))) none=some (k,len):=by
 unfold bounds? bound?
 have:(0:Int) ≤ (k:Int)∧(k:Int) ≤ len:=by omega
 simp [this]
theorem flatC_part {z i n:Nat} {l:List Value} (hz:∀ v ∈ l,v.cells.size=z) (hi:i + n ≤ l.length):(flatC l).toArray.extract (i * z) (i * z + n * z)=(flatC ((l.drop i).take n)).toArray:=by
 have e1:flatC l=flatC (l.take i)++(flatC ((l.drop i).take n)++flatC ((l.drop i).drop n)):=by
  unfold flatC
  rw [← List.flatMap_append,List.take_append_drop,← List.flatMap_append,List.take_append_drop]
 have h1:(flatC (l.take i)).length=i * z:=by
  rw [flatC_length fun v hv=>hz v (List.mem_of_mem_take hv),List.length_take,Nat.min_eq_left (by omega)]
 have h2:(flatC ((l.drop i).take n)).length=n * z:=by
  rw [flatC_length fun v hv=>hz v (List.mem_of_mem_drop (List.mem_of_mem_take hv)),List.length_take,List.length_drop,Nat.min_eq_left (by omega)]
 rw [e1,List.extract_toArray]
 congr 1
 rw [List.extract_eq_take_drop,← h1,List.drop_left,Nat.add_sub_cancel_left,← h2,List.take_left]
theorem Hld.take {P:Program} {e lo z t el k:Nat} {d:TypeInfo} {h:AH} {v:Value} {l:List Value} (o:Hld e z h lo v l) (hu:P.underlying t=some (.slice el)) (hd:P.info? el=some d) (hds:d.size=z)
  (hz:∀ v ∈ l,v.cells.size=z) (hk:k ≤ l.length):∃ v',sliceV P h t v none (some (.int .i64 (k:Int)))=some v'∧Src h z v' (l.take k):=by
 cases o with
 | nil =>
  obtain rfl:k=0:=by simpa using hk
  refine ⟨.slice none 0 0,?_,Src.nil (n:=0)⟩
  show opSlice P h t (.slice none 0 0) none (some (.int .i64 ((0:Nat):Int)))=_
  unfold opSlice
  rw [hu]
  simp only [hd,bounds_high (Nat.le_refl 0)]
 | row hk' hg hc hp =>
  rename_i b c
  refine ⟨.slice (some (if l.length=0 then ⟨b,0,none⟩ else ⟨b,0 * z,none⟩)) k l.length,?_,?_⟩
  ·show opSlice P h t (.slice (some ⟨b,0,none⟩) l.length l.length) none (some (.int .i64 (k:Int)))=_
   unfold opSlice
   rw [hu]
   simp only [hd,bounds_high hk,hg,add_off]
   simp [hds]
  ·rw [if_neg (by omega),Nat.zero_mul]
   have hlen:(l.take k).length=k:=by rw [List.length_take,Nat.min_eq_left hk]
   have:=Src.row (z:=z) (m:=l.take k) (cap:=l.length) (off:=0) hg (fun v hv=>hz v (List.mem_of_mem_take hv)) (by rw [hc,hlen];simp [flatC_length hz];exact Nat.mul_le_mul_right _ hk) (by
    have q:=flatC_part (i:=0) (n:=k) hz (by omega)
    rw [Nat.zero_mul,List.drop_zero] at q
    rw [hlen,hc,q])
   rw [hlen] at this
   exact this
theorem Hld.drop {P:Program} {e lo z t el k:Nat} {d:TypeInfo} {h:AH} {v:Value} {l:List Value} (o:Hld e z h lo v l) (hu:P.underlying t=some (.slice el)) (hd:P.info? el=some d) (hds:d.size=z)
  (hz:∀ v ∈ l,v.cells.size=z) (hk:k ≤ l.length):∃ v',sliceV P h t v (some (.int .i64 (k:Int))) none=some v'∧Src h z v' (l.drop k):=by
 cases o with
 | nil =>
  obtain rfl:k=0:=by simpa using hk
  refine ⟨.slice none 0 0,?_,Src.nil (n:=0)⟩
  show opSlice P h t (.slice none 0 0) (some (.int .i64 ((0:Nat):Int))) none=_
  unfold opSlice
  rw [hu]
  simp only [hd,bounds_low (Nat.le_refl 0)]
 | row hk' hg hc hp =>
  rename_i b c
  have hlen:(l.drop k).length=l.length - k:=by rw [List.length_drop]
  by_cases hkl:l.length=k
  ·have hnil:l.drop k=[]:=List.drop_of_length_le (by omega)
   refine ⟨.slice (some ⟨b,0,none⟩) 0 0,?_,?_⟩
   ·show opSlice P h t (.slice (some ⟨b,0,none⟩) l.length l.length) (some (.int .i64 (k:Int))) none=_
    unfold opSlice
    rw [hu]
    simp only [hd,bounds_low hk,hg,add_off]
    simp [hds,hkl]
   ·rw [hnil]
    exact Src.row (m:=[]) hg (by simp) (by simp) (by simp [flatC])
  ·refine ⟨.slice (some ⟨b,k * z,none⟩) (l.length - k) (l.length - k),?_,?_⟩
   ·show opSlice P h t (.slice (some ⟨b,0,none⟩) l.length l.length) (some (.int .i64 (k:Int))) none=_
    unfold opSlice
    rw [hu]
    simp only [hd,bounds_low hk,hg,add_off]
    simp [hds,hkl]
   ·have hm:k * z + (l.length - k) * z=l.length * z:=by rw [← Nat.add_mul];congr 1;omega
    have:=Src.row (z:=z) (m:=l.drop k) (cap:=l.length - k) (off:=k * z) hg (fun v hv=>hz v (List.mem_of_mem_drop hv)) (by rw [hc,hlen,hm];simp [flatC_length hz]) (by
     have q:=flatC_part (i:=k) (n:=l.length - k) hz (by omega)
     rw [List.take_of_length_le (by rw [hlen];exact Nat.le_refl _)] at q
     rw [hlen,hc,q])
    rw [hlen] at this
    exact this
theorem Gr.append {e z bytes:Nat} {zero:Value} {h0 h:AH} {s x:Value} {l m:List Value} (g:Gr e z h0 h s l) (hx:Src h z x m) (hl:∀ v ∈ l,v.cells.size=z) (hm:∀ v ∈ m,v.cells.size=z) (hone:∀ v ∈ flatC m,v.oneCell' = true)
  (hz:0 < z) (hb:0 < bytes) (hb':bytes < 1073741824) (hzero:zero.cells.size=z) (hs:(l.length + m.length) * bytes < 1099511627776) :
  ∃ s' h',apT e z bytes (some zero) h s x=some (s',h')∧Gr e z h0 h' s' (l++m)∧(∀ k,k < h.size→blkOf s ≠ some k→h'.get k=h.get k)∧h.size ≤ h'.size:=by
 obtain ⟨s',h',a1,a2,a3,a4,a5⟩:=g.hld.append hx g.kp.size hl hm hone hz hb hb' hzero hs
 have hk:=g.hld.key
 have hsz:=g.kp.size
 refine ⟨s',h',a1,⟨g.kp.trans ⟨a3,fun k hk2=>a4 k (by omega) fun e=>?_⟩,a2,fun k hk2=>?_⟩,a4,a3⟩
 ·have:=hk k e
  omega
 ·rcases a5 with e | ⟨j,e,e1,e2⟩
  ·rw [e] at hk2
   have:=g.lt k hk2
   omega
  ·rw [e] at hk2
   injection hk2 with hk2
   omega
end Go.Ab
end
section
namespace Go.Ab
inductive Own (e z:Nat) (h:AH):Value→List Value→Prop
 | nil:Own e z h (.slice none 0 0) []
 | row {k:Nat} {c:Array Value} {l x:List Value} (hg:h.get k=some (.cells c e (0,0),some z)) (hc:c=(flatC (l++x)).toArray) (hx:∀ v ∈ x,v.cells.size=z) (hp:0 < l.length + x.length) :
   Own e z h (.slice (some ⟨k,0,none⟩) l.length (l.length + x.length)) l
theorem Own.of_hld {e z lo:Nat} {h:AH} {s:Value} {l:List Value} (o:Hld e z h lo s l):Own e z h s l:=by
 cases o with
 | nil=>exact .nil
 | row hk hg hc hp=>exact .row (x:=[]) hg (by simpa using hc) (by simp) (by simpa using hp)
theorem Own.mono {e z:Nat} {h h':AH} {s:Value} {l:List Value} (o:Own e z h s l) (hg:∀ k,blkOf s=some k→h'.get k=h.get k):Own e z h' s l:=by
 cases o with
 | nil=>exact .nil
 | row h1 hc hx hp=>exact .row ((hg _ rfl).trans h1) hc hx hp
theorem Own.len {e z:Nat} {h:AH} {s:Value} {l:List Value} (o:Own e z h s l):lenL s=some (.int .i64 l.length):=by
 cases o <;> rfl
theorem Own.src {e z:Nat} {h:AH} {s:Value} {l:List Value} (o:Own e z h s l) (hz:∀ v ∈ l,v.cells.size=z):Src h z s l:=by
 cases o with
 | nil=>exact Src.nil (n:=0)
 | row h1 hc hx hp =>
  have hl:=flatC_length hz
  refine Src.row h1 hz ?_ ?_
  ·rw [hc];simp [flatC,← hl]
  ·rw [hc,Nat.zero_add,← hl];simp [flatC]
theorem setFrom_mid {a b c n:List Value} (hb:b.length=n.length):∀ {k:Nat},k=a.length→setFrom (a++(b++c)).toArray k n=(a++(n++c)).toArray:=by
 induction n generalizing a b with
 | nil =>
  intro k hk
  have:b=[]:=List.eq_nil_of_length_eq_zero hb
  subst this
  rfl
 | cons v n ih =>
  intro k hk
  cases b with
  | nil=>simp at hb
  | cons w b =>
   rw [setFrom_cons,List.setIfInBounds_toArray]
   have e:(a++(w::b++c)).set k v=(a++[v])++(b++c):=by
    subst hk
    rw [List.set_append_right _ _ (Nat.le_refl _),Nat.sub_self]
    simp
   rw [e,ih (a:=a++[v]) (b:=b) (by simpa using hb) (by simp [hk])]
   simp
theorem Own.append {e z bytes:Nat} {zero:Value} {h:AH} {s x:Value} {l m:List Value} (o:Own e z h s l) (hx:Src h z x m) (hl:∀ v ∈ l,v.cells.size=z) (hm:∀ v ∈ m,v.cells.size=z) (hone:∀ v ∈ flatC m,v.oneCell' = true)
  (hz:0 < z) (hb:0 < bytes) (hb':bytes < 1073741824) (hzero:zero.cells.size=z) (hs:(l.length + m.length) * bytes < 1099511627776) :
  ∃ s' h',apT e z bytes (some zero) h s x=some (s',h')∧Own e z h' s' (l++m)∧h.size ≤ h'.size∧(∀ k,k < h.size→blkOf s ≠ some k→h'.get k=h.get k)∧(blkOf s' = blkOf s ∨ ∃ k,blkOf s' = some k∧h.size ≤ k∧k < h'.size):=by
 have hlm:=flatC_length hm
 have hll:=flatC_length hl
 obtain ⟨h1,h2⟩:=hx
 have hfm:(flatC m).toArray.size=m.length * z:=by simp [hlm]
 have hcat:∀ a b:List Value,flatC (a++b)=flatC a++flatC b:=fun a b=>by simp [flatC]
 cases o with
 | nil =>
  obtain ⟨s',h',a1,a2,a3,a4,a5⟩:=(Hld.nil (e:=e) (z:=z) (h:=h) (lo:=0)).append ⟨h1,h2⟩ (Nat.zero_le _) hl hm hone hz hb hb' hzero hs
  exact ⟨s',h',a1,.of_hld a2,a3,a4,a5⟩
 | row hg hc hxz hp =>
  rename_i k c r
  have hrl:=flatC_length hxz
  have hcs:c.size=(l.length + r.length) * z:=by rw [hc,hcat];simp [hll,hrl,Nat.add_mul]
  unfold apT
  simp only [h1,h2,hfm,if_true]
  by_cases hroom:m.length ≤ r.length
  ·rw [if_pos (by omega)]
   by_cases h0:m.length * z=0
   ·have hm0:m=[]:=by
     rcases Nat.mul_eq_zero.1 h0 with e1 | e1
     ·exact List.eq_nil_of_length_eq_zero e1
     ·omega
    subst hm0
    refine ⟨_,h,by rw [if_pos h0];rfl,?_,Nat.le_refl _,fun _ _ _=>rfl,.inl rfl⟩
    have:=Own.row (x:=r) hg hc hxz hp
    rw [List.append_nil];exact this
   ·rw [if_neg h0]
    simp only [Option.isSome_none,Bool.false_eq_true,if_false]
    have hset:opSetCells h (Addr.add ⟨k,0,none⟩ (l.length * z)) (flatC m).toArray=some (h.put k (some (.cells (flatC (l++m++r.drop m.length)).toArray e (0,0),some z))):=by
     rw [add_off]
     unfold opSetCells
     simp only [Option.isSome_none,Bool.false_eq_true,if_false,hg]
     have hle:0 + l.length * z + (flatC m).toArray.size ≤ c.size:=by
      rw [hfm,hcs,Nat.zero_add,← Nat.add_mul];exact Nat.mul_le_mul_right _ (by omega)
     rw [if_pos ⟨trivial,hle,by simpa using hone⟩]
     congr 5
     have e1:flatC (l++r)=flatC l++(flatC (r.take m.length)++flatC (r.drop m.length)):=by
      rw [hcat,← hcat (r.take _),List.take_append_drop]
     rw [hc,e1]
     show setFrom _ _ (flatC m)=_
     rw [setFrom_mid (n:=flatC m) ?_ (by rw [Nat.zero_add,hll])]
     ·rw [hcat,hcat,List.append_assoc]
     ·rw [flatC_length (fun v hv=>hxz v (List.mem_of_mem_take hv)),hlm,List.length_take,Nat.min_eq_left hroom]
    rw [hset]
    refine ⟨_,_,rfl,?_,by simp,fun j hj hne=>get_put_ne (fun e=>hne (by rw [e];rfl)),.inl rfl⟩
    have:=Own.row (e:=e) (z:=z) (h:=h.put k (some (.cells (flatC (l++m++r.drop m.length)).toArray e (0,0),some z))) (k:=k) (l:=l++m) (x:=r.drop m.length) (get_put_eq rfl) rfl (fun v hv=>hxz v (List.mem_of_mem_drop hv)) (by simp;omega)
    have e2:(l++m).length + (r.drop m.length).length=l.length + r.length:=by simp;omega
    rw [e2] at this
    simpa using this
  ·rw [if_neg (by omega),if_pos ⟨hz,hb,by simpa using hb',by simpa using hs,by simpa using hzero⟩]
   have hsrc:=(Own.src (Own.row (x:=r) hg hc hxz hp) hl).2
   have hfl:(flatC l).toArray.size=l.length * z:=by simp [hll]
   simp only [hsrc,hfl,if_true,hg]
   rw [if_pos ⟨trivial,trivial,trivial,trivial,trivial,hp,by simpa using hone⟩]
   refine ⟨_,_,rfl,?_,by simp,fun j hj hne=>?_,.inr ⟨h.size,rfl,Nat.le_refl _,by simp⟩⟩
   ·have:=Own.row (e:=e) (z:=z) (h:=(h.put k none).push (.cells ((flatC l).toArray++(flatC m).toArray) e (0,0)) (some z)) (k:=h.size) (l:=l++m) (x:=[]) (get_push_eq rfl) (by rw [List.append_nil,hcat];simp) (by simp) (by simp;omega)
    simpa using this
   ·rw [get_push_ne (by simp;omega),get_put_ne (fun e=>hne (by rw [e];rfl))]
theorem Own.rd {e:Nat} {h:AH} {z:Nat} {v:Value} {l:List Value} (o:Own e z h v l) (hz:∀ v ∈ l,v.cells.size=z) (hb:∀ k,blkOf v=some k→k < h.size):Rd h z v l:=by
 refine ⟨o.len,fun i x hx=>?_⟩
 have hxz:=hz x (List.mem_of_getElem? hx)
 have hi:=(List.getElem?_eq_some_iff.1 hx).1
 cases o with
 | nil=>cases hx
 | row hg hc hrz hp =>
  rename_i k c r
  have hall:∀ v ∈ l++r,v.cells.size=z:=fun v hv=>(List.mem_append.1 hv).elim (hz v) (hrz v)
  have hsz:c.size=(l.length + r.length) * z:=by rw [hc];simp [flatC_length hall]
  have hle:i * z + z ≤ (l.length + r.length) * z:=by rw [← Nat.succ_mul];exact Nat.mul_le_mul_right _ (by omega)
  refine ⟨.pointer (some ⟨k,i * z,none⟩),?_,?_,hxz⟩
  ·rw [ia_sl,if_pos ⟨by omega,by omega⟩]
   simp
  ·have e:x.cells=c.extract (i * z) (i * z + z):=by
    apply Array.ext
    ·simp;omega
    ·intro j h1 h2
     rw [Array.getElem_extract]
     have:=flatC_at hall j (i:=i) (x:=x) (by rw [List.getElem?_append_left hi];exact hx) (by omega)
     apply Option.some.inj
     rw [← Array.getElem?_eq_getElem,← this,← Array.getElem?_eq_getElem,hc]
     simp
   rw [e]
   exact .ptr (hb _ rfl) hg (by omega)
theorem Own.cut {P:Program} {e z t el k:Nat} {d:TypeInfo} {h:AH} {v:Value} {l:List Value} (o:Own e z h v l) (hu:P.underlying t=some (.slice el)) (hd:P.info? el=some d) (hds:d.size=z)
  (hz:∀ v ∈ l,v.cells.size=z) (hk:k ≤ l.length):∃ v',sliceV P h t v none (some (.int .i64 (k:Int)))=some v'∧Own e z h v' (l.take k)∧blkOf v' = blkOf v:=by
 cases o with
 | nil =>
  obtain rfl:k=0:=by simpa using hk
  refine ⟨.slice none 0 0,?_,.nil,rfl⟩
  show opSlice P h t (.slice none 0 0) none (some (.int .i64 ((0:Nat):Int)))=_
  unfold opSlice
  rw [hu]
  simp only [hd,bounds_high (Nat.le_refl 0)]
 | row hg hc hx hp =>
  rename_i b c r
  refine ⟨.slice (some ⟨b,0,none⟩) k (l.length + r.length),?_,?_,rfl⟩
  ·show opSlice P h t (.slice (some ⟨b,0,none⟩) l.length (l.length + r.length)) none (some (.int .i64 (k:Int)))=_
   unfold opSlice
   rw [hu]
   simp only [hd,bounds_high (len:=l.length) (show k ≤ l.length + r.length by omega),hg,add_off]
   simp [hds]
  ·have:=Own.row (e:=e) (z:=z) (h:=h) (k:=b) (l:=l.take k) (x:=l.drop k++r) hg (by rw [← List.append_assoc,List.take_append_drop];exact hc) (fun v hv=>(List.mem_append.1 hv).elim (fun q=>hz v (List.mem_of_mem_drop q)) (hx v)) (by simp;omega)
   have e1:(l.take k).length=k:=by simp;omega
   have e2:(l.take k).length + (l.drop k++r).length=l.length + r.length:=by simp;omega
   rw [e2,e1] at this
   exact this
theorem Own.append1 {e z bytes:Nat} {zero v:Value} {h:AH} {s:Value} {l:List Value} {c:Array Value} (o:Own e z h s l) (hc:v.cells=c) (hs2:∀ k,blkOf s=some k→k < h.size) (hl:∀ v ∈ l,v.cells.size=z)
  (hv:c.size=z) (hone:∀ x ∈ c.toList,x.oneCell' = true) (hz:0 < z) (hb:0 < bytes) (hb':bytes < 1073741824) (hzero:zero.cells.size=z) (hs:(l.length + 1) * bytes < 1099511627776) :
  ∃ s' h',apT e z bytes (some zero) (h.push (.cells c e (0,0)) none) s (.slice (some ⟨h.size,0,none⟩) 1 1)=some (s',h')∧Own e z h' s' (l++[v])∧h.size ≤ h'.size∧(∀ k,k < h.size→blkOf s ≠ some k→h'.get k=h.get k) ∧
   (blkOf s' = blkOf s ∨ ∃ k,blkOf s' = some k∧h.size ≤ k∧k < h'.size):=by
 subst hc
 have hfl:flatC [v]=v.cells.toList:=by simp [flatC]
 have hx:Src (h.push (.cells v.cells e (0,0)) none) z (.slice (some ⟨h.size,0,none⟩) 1 1) [v]:=by
  refine Src.row (m:=[v]) (get_push_eq rfl) (fun x hx=>by rw [List.mem_singleton.1 hx];exact hv) (by simp [hv]) ?_
  rw [hfl];simp [hv]
 have o':Own e z (h.push (.cells v.cells e (0,0)) none) s l:=o.mono fun k hk=>get_push_ne (by have:=hs2 k hk;omega)
 obtain ⟨s',h',a1,a2,a3,a4,a5⟩:=o'.append hx hl (fun x hx=>by rw [List.mem_singleton.1 hx];exact hv) (fun x hx=>hone x (by rw [hfl] at hx;exact hx)) hz hb hb' hzero hs
 simp only [AH.size_push] at a3 a4 a5
 refine ⟨s',h',a1,a2,by omega,fun k hk hne=>(a4 k (by omega) hne).trans (get_push_ne (by omega)),?_⟩
 rcases a5 with e | ⟨k,e,h1,h2⟩
 ·exact .inl e
 ·exact .inr ⟨k,e,by omega,h2⟩
end Go.Ab
end
section
namespace Go.Ab
def seqO:List (Option Value)→Option (List Value)
 | []=>some []
 | x::l=>match x,seqO l with
  | some v,some vs=>some (v::vs)
  | _,_=>none
theorem seqO_nil:seqO []=some []:=Option.ext fun a=>Iff.intro (fun h=>h) fun h=>h
theorem seqO_cons {v:Value} {l:List (Option Value)}:seqO (some v::l)=(seqO l).bind fun vs=>some (v::vs):=by
 show (match some v,seqO l with | some v,some vs=>some (v::vs) | _,_=>none)=_
 cases seqO l <;> rfl
theorem oneOf_one {v:Value}:oneOf [v]=v:=by rw [oneOf]
theorem oneOf_two {v w:Value} {l:List Value}:oneOf (v::w::l)=.tuple (v::w::l).toArray:=by rw [oneOf];simp
def deferV (v:Value):Option Value:=match (some v:Option Value) with
 | some (.func (.func g) x y)=>some (.func (.func g) x y)
 | _=>none
theorem deferV_func {g:FuncId} {x y:Array Value}:deferV (.func (.func g) x y)=some (.func (.func g) x y):=Option.ext fun a=>Iff.intro (fun h=>h) fun h=>h
def resultsV (P:Program) (h:AH):List ResultVar→List (Option Value)→Option (List Value)
 | [],_=>some []
 | .tmp _::l,x::xs=>match x,resultsV P h l xs with
  | some v,some vs=>some (v::vs)
  | _,_=>none
 | .cell _ t::l,x::xs=>match x.bind (opLoad P h t),resultsV P h l xs with
  | some v,some vs=>some (v::vs)
  | _,_=>none
 | _::_,[]=>none
def leftV (P:Program) (res:List ResultVar) (vals:List (Option Value)) (Q:Res→AH→Prop):AH→DM→Prop
 | h,.ret=>bq (resultsV P h res vals) fun vs=>Q (.ret (oneOf vs)) h
 | h,.pan v=>Q (.pan v) h
 | _,.recd _=>False
theorem leftV_ret {P:Program} {res:List ResultVar} {vals:List (Option Value)} {Q:Res→AH→Prop} {h:AH}:leftV P res vals Q h .ret=bq (resultsV P h res vals) fun vs=>Q (.ret (oneOf vs)) h:=propext (Iff.intro (fun h=>h) fun h=>h)
theorem leftV_pan {P:Program} {res:List ResultVar} {vals:List (Option Value)} {Q:Res→AH→Prop} {h:AH} {v:Value}:leftV P res vals Q h (.pan v)=Q (.pan v) h:=propext (Iff.intro (fun h=>h) fun h=>h)
def DC (P:Program) (f:FuncId) (args:List Value) (h:AH) (m:DM) (K:AH→DM→Prop):Prop :=
 (∃ fn c,P.funcs[f]?=some fn∧fn.body=some c∧(fn.name == "runtime.NumGoroutine")=false)∧∀ E w args' u,RW P E h w→RA E args.toArray args'→m.rel E u →
  CallsDIn Fence.wide 0 P f args' u w fun e u' w'=>∃ v' E' h' m',e=.returned v'∧RW P E' h' w'∧Ext E w E' w'∧m'.rel E' u'∧K h' m'
def dAllP (P:Program):List Value→AH→DM→(AH→DM→Prop)→Prop
 | [],h,m,K=>K h m
 | .func (.func f) first captured::l,h,m,K=>DC P f (first.toList++captured.toList) h m fun h' m'=>dAllP P l h' m'.settle K
 | _::_,_,_,_=>False
theorem dAllP_nil {P:Program} {h:AH} {m:DM} {K:AH→DM→Prop}:dAllP P [] h m K=K h m:=by rw [dAllP]
theorem dAllP_cons {P:Program} {f:FuncId} {x y:Array Value} {l:List Value} {h:AH} {m:DM} {K:AH→DM→Prop}:dAllP P (.func (.func f) x y::l) h m K=DC P f (x.toList++y.toList) h m fun h' m'=>dAllP P l h' m'.settle K:=by rw [dAllP]
theorem settle_ret:DM.ret.settle=.ret:=rfl
theorem settle_pan {v:Value}:(DM.pan v).settle=.pan v:=rfl
theorem settle_recd {v:Value}:(DM.recd v).settle=.ret:=rfl
theorem ScopeW.seq {ro:Option Nat} {P:Program} {c x y:Code} {Q:Exit→Act→World→Prop} {a:Act} {w:World} (h:x.wpR ro P (Exit.then (ScopeW ro P c y Q) (inScope ro P c Q)) a w):ScopeW ro P c (.seq x y) Q a w:=by
 intro b k cs hro
 obtain ⟨e,a₁,w₁,hq,harr⟩:=h b (.code y::.inScope c::k) cs hro (Fr_fn ro _) (Fr_room ro _)
 cases e with
 | normal =>
  obtain ⟨e₂,a₂,w₂,hq₂,harr₂⟩:=hq b k cs hro
  exact ⟨e₂,a₂,w₂,hq₂,.of_steps (StepsIn.trans (.one (fr_calm rfl) stepR_seq) harr) harr₂⟩
 | exit id =>
  have harr:ArrivesIn (Machine.fenced P (Fr ro)) P (lone (b.atR a (.code (.seq x y)::.inScope c::k)) cs w) b (.inScope c::k) cs (.exit id) a₁ w₁:=.of_steps (.one (fr_calm rfl) stepR_seq) (.pass (x:=.code y) rfl (fun _ _=>.inl (by simp)) harr)
  exact ⟨.exit id,a₁,w₁,hq,fun k' hk=>harr.1 k' (by simp [exitTo,hk]),fun hr hk=>by
   obtain ⟨k₁,g1,g2⟩:=harr.2 hr (by simp [exitTo,hk])
   exact ⟨k₁,g1,g2⟩⟩
 | goto l =>
  have harr:ArrivesIn (Machine.fenced P (Fr ro)) P (lone (b.atR a (.code (.seq x y)::.inScope c::k)) cs w) b (.inScope c::k) cs (.goto l) a₁ w₁:=.of_steps (.one (fr_calm rfl) stepR_seq) (.pass (x:=.code y) rfl (fun _ _=>.inl (by simp)) harr)
  obtain ⟨rest,hf,hs⟩:=hq
  obtain ⟨e₂,a₂,w₂,hq₂,harr₂⟩:=hs b k cs hro
  have hg:gotoIn l (.inScope c::k)=some (.code rest::.inScope c::k):=by simp [gotoIn,hf]
  exact ⟨e₂,a₂,w₂,hq₂,.of_steps (harr.1 _ hg) harr₂⟩
 | ret=>exact ⟨_,a₁,w₁,hq,.of_steps (.one (fr_calm rfl) stepR_seq) (.pass (x:=.code y) rfl (fun _ _=>.inl (by simp)) harr)⟩
 | panic ch=>exact ⟨_,a₁,w₁,hq,.of_steps (.one (fr_calm rfl) stepR_seq) (.pass (x:=.code y) rfl (fun _ _=>.inl (by simp)) harr)⟩
 | outgrown=>exact ⟨_,a₁,w₁,hq,.of_steps (.one (fr_calm rfl) stepR_seq) (.pass (x:=.code y) rfl (fun _ _=>.inl (by simp)) harr)⟩
def enterK (P:Program) (c y:Code) (Q:HX→AA→AH→Prop):HX→AA→AH→Prop
 | .normal,a,h=>HS P c y a h Q
 | .goto _,_,_=>False
 | e,a,h=>Q e a h
theorem HS.seq {P:Program} {c x y:Code} {a:AA} {h:AH} {Q:HX→AA→AH→Prop} (hh:HW P x a h (enterK P c y Q)):HS P c (.seq x y) a h Q:=by
 intro B ro E w z r rx
 refine ScopeW.seq (wpIn_mono (hh B ro E w z r rx) ?_)
 rintro e y w' ⟨hx,a',h',E',h1,h2,h3,h4,h6⟩
 cases hx with
 | normal =>
  cases e with
  | normal =>
   intro b k cs hro
   obtain ⟨e2,a2,w2,q2,arr⟩:=h6 B ro E' w' y h2 h4 b k cs hro
   exact ⟨e2,a2,w2,q2.ext h3,arr⟩
  | _=>cases h1
 | goto l=>cases h6
 | _ =>
  cases e <;> first
   | (cases h1;done)
   | exact ⟨_,a',h',E',h1,h2,h3,h4,h6⟩
theorem HW.skip {P:Program} {a:AA} {h:AH} {Q:HX→AA→AH→Prop} (hh:Q .normal a h):HW P .skip a h Q:=wpC_ok (L:=fun _=>none) .skip hh
def wpE (P:Program) (L:Nat→Option (List Nat)) (c:Code):Code→AA→AH→(HX→AA→AH→Prop)→Prop
 | .seq (.label l) y,a,h,Q=>HS P c y (keepL L (rid y) a) h Q
 | .seq x y,a,h,Q=>wpC P L x a h (fun e a h=>match e with
  | .normal=>wpE P L c y a h Q
  | .goto _=>False
  | e=>Q e a h)
 | _,_,_,_=>False
theorem HS.enter {P:Program} {L:Nat→Option (List Nat)} {c:Code}:∀ (d:Code) {a:AA} {h:AH} {Q:HX→AA→AH→Prop},wpE P L c d a h Q→HS P c d a h Q:=by
 intro d
 induction d with
 | seq x y _ ih =>
  intro a h Q hh
  have key:∀ {a:AA} {h:AH},wpC P L x a h (fun e a h=>match e with
    | .normal=>wpE P L c y a h Q
    | .goto _=>False
    | e=>Q e a h)→HS P c (.seq x y) a h Q:=fun hh=>HS.seq fun B ro E w z r rx=>wpIn_mono (wpC_ok x hh B ro E w z r rx) fun e y w' hp=>hp.mono fun e a h hq=>by
   cases e with
   | normal=>exact ih hq
   | goto l=>exact hq
   | _=>exact hq
  cases x with
  | label l =>
   have hh':HS P c y (keepL L (rid y) a) h Q:=hh
   exact HS.seq (wpC_ok (L:=L) (.label l) (show enterK P c y Q .normal a h from fun B ro E w z r rx=>hh' B ro E w z r (rx.keepL L _)))
  | _=>exact key hh
 | _=>intro a h Q hh;cases hh
def okP:Code→List Dir→Bool
 | .seq _ _,[]=>true
 | .seq a _,.l::p=>okP a p
 | .seq _ b,.r::p=>okP b p
 | .cond _ a _,.l::p=>okP a p
 | .cond _ _ b,.r::p=>okP b p
 | .block _ a,.i::p=>okP a p
 | .loop a,.i::p=>okP a p
 | .scope a,.i::p=>okP a p
 | _,_=>false
theorem join_eq {P:Program} {L:Nat→Option (List Nat)} {a:AA} {h:AH}:∀ {p:List Dir} {code:Code} {Q:HX→AA→AH→Prop},okP code p=true→keepL L (rid (cAt code (p++[.r]))) a=a →
  wpC P L (cAt code (p++[.r])) a h (ctxAt P L code (p++[.r]) Q)=ctxAt P L code (p++[.l]) Q .normal a h:=by
 intro p
 induction p with
 | nil =>
  intro code Q ho hk
  cases code with
  | seq x y =>
   have e1:cAt (.seq x y) ([]++[.r])=y:=by show cAt y []=y;cases y <;> rfl
   have e2:ctxAt P L (.seq x y) ([]++[.r]) Q=Q:=by show ctxAt P L y [] Q=Q;cases y <;> rfl
   have e3:ctxAt P L (.seq x y) ([]++[.l]) Q=seqK (fun a h=>wpC P L y (keepL L (rid y) a) h Q) Q:=by show ctxAt P L x [] _=_;cases x <;> rfl
   rw [e1] at hk ⊢
   rw [e2,e3]
   show _=wpC P L y (keepL L (rid y) a) h Q
   rw [hk]
  | _=>cases ho
 | cons d p ih =>
  intro code Q ho hk
  cases code with
  | seq x y=>cases d with
   | l=>exact ih (code:=x) ho hk
   | r=>exact ih (code:=y) ho hk
   | i=>cases ho
  | cond c x y=>cases d with
   | l=>exact ih (code:=x) ho hk
   | r=>exact ih (code:=y) ho hk
   | i=>cases ho
  | block i x=>cases d with
   | i=>exact ih (code:=x) ho hk
   | _=>cases ho
  | loop x=>cases d with
   | i=>exact ih (code:=x) ho hk
   | _=>cases ho
  | scope x=>cases d with
   | i=>exact ih (code:=x) ho hk
   | _=>cases ho
  | _=>cases ho
theorem flatV_cat {P:Program} {a b:ByteArray} (hs:a.size + b.size ≤ 9223372036854775807):flatV P (Op.stringOp .add a b)=some (.string (a++b)):=by
 have e:¬ (((a.size + b.size:Nat):Int) > IntKind.i64.max):=by
  have:IntKind.i64.max=9223372036854775807:=rfl
  omega
 unfold flatV Op.stringOp
 simp only
 rw [if_neg e]
 rfl
theorem bin_cat {P:Program} {t:TypeId} {x y:Operand} {a b:ByteArray} {h:AH} (hb:absBin P .add t x y (.string a) (.string b) h=valH h (flatV P (Op.stringOp .add a b))) (hs:a.size + b.size ≤ 9223372036854775807):binV P .add t x y (.string a) (.string b) h=some (.string (a++b)):=by
 unfold binV
 rw [hb,flatV_cat hs]
 rfl
theorem resK_ret {k pk:Value→AH→Prop} {v:Value} {h:AH}:resK k pk (.ret v) h=k v h:=propext (Iff.intro (fun h=>h) fun h=>h)
theorem resK_pan {k pk:Value→AH→Prop} {v:Value} {h:AH}:resK k pk (.pan v) h=pk v h:=propext (Iff.intro (fun h=>h) fun h=>h)
theorem guardQ_undef (h:AH) (w:Bool) (op:(Value→AH→Prop)→Prop) (k:Value→AH→Prop):guardQ undef w h op k=k undef h:=propext (guardQ_iff.trans (by simp [guardI,undef]))
end Go.Ab
end
section
namespace Go.Ab
theorem one_slV (l:List Value):(slV l).oneCell' = true:=by cases l <;> rfl
theorem cells_slV (l:List Value):(slV l).cells = #[slV l]:=by cases l <;> rfl
theorem SX:((((((((type_of% @bq_some)∧(type_of% @oq_some))∧((type_of% @get_push_e)∧((type_of% @get_push_ne)∧(type_of% @get_put_e))))∧(((type_of% @get_put_ne)∧(type_of% @sz_push))∧((type_of% @sz_put)∧((type_of% @rowC_cells)∧(type_of% @setC_cells)))))∧((((type_of% @ld1_ptr)∧(type_of% @ld1_fp))∧((type_of% @ldN_ptr)∧((type_of% @ldN_fp)∧(type_of% @stN_ptr))))∧(((type_of% @fa_ptr)∧((type_of% @fa_fp)∧(type_of% @fd1_agg)))∧((type_of% @fdN_agg)∧((type_of% @ia_vs)∧(type_of% @ia_sl))))))∧(((((type_of% @iaA_ptr)∧(type_of% @iaA_fp))∧((type_of% @lenL_vs)∧((type_of% @lenL_sl)∧(type_of% @lenL_slV))))∧(((type_of% @lenS_s)∧((type_of% @lenM_nil)∧(type_of% @lenM_map)))∧((type_of% @lenE_map)∧((type_of% @rngE_map)∧(type_of% @opExtract_tuple)))))∧((((type_of% @nilV_ptr)∧(type_of% @nilV_iface))∧((type_of% @nilV_func)∧((type_of% @nilV_fp)∧(type_of% @pickV_bool))))∧(((type_of% @wrap64)∧((type_of% @cells_agg)∧(type_of% @cells_int)))∧((type_of% @cells_bool)∧((type_of% @cells_string)∧(type_of% @cells_pointer)))))))∧((((((type_of% @cells_slice)∧(type_of% @cells_map))∧((type_of% @cells_iface)∧((type_of% @cells_nilIface)∧(type_of% @cells_func))))∧(((type_of% @cells_float)∧(type_of% @cells_complex))∧((type_of% @cells_vs)∧((type_of% @cells_fp)∧(type_of% @one_int)))))∧((((type_of% @one_bool)∧(type_of% @one_string))∧((type_of% @one_pointer)∧((type_of% @one_slice)∧(type_of% @one_map))))∧(((type_of% @one_iface)∧((type_of% @one_nilIface)∧(type_of% @one_func)))∧((type_of% @one_float)∧((type_of% @one_complex)∧(type_of% @one_vs))))))∧(((((type_of% @one_fp)∧(type_of% @setFrom_nil))∧((type_of% @setFrom_cons)∧((type_of% @bd_eq)∧(type_of% @bdF_nil))))∧(((type_of% @bdF_cons)∧((type_of% @bs_eq)∧(type_of% @new1)))∧((type_of% @new2)∧((type_of% @mm1)∧(type_of% @mm2)))))∧((((type_of% @callX_func)∧(type_of% @callP_func))∧((type_of% @condP_true)∧((type_of% @condP_false)∧(type_of% @guardQ_true))))∧(((type_of% @guardQ_false)∧((type_of% @guardQ_true')∧(type_of% @guardQ_false')))∧((type_of% @plain_int)∧((type_of% @plain_bool)∧(type_of% @plain_string))))))))∧(((((((type_of% @plain_float)∧(type_of% @plain_complex))∧((type_of% @Option.bind_some.{0,0})∧((type_of% @Option.bind_none.{0,0})∧(type_of% @Option.map_some.{0,0}))))∧(((type_of% @Option.map_none.{0,0})∧(type_of% @List.getElem?_toArray.{0}))∧((type_of% @List.getElem?_cons_zero.{0})∧((type_of% @List.getElem?_cons_succ.{0})∧(type_of% @List.size_toArray.{0})))))∧((((type_of% @List.length_cons.{0})∧(type_of% @List.length_nil.{0}))∧((type_of% @List.extract_toArray.{0})∧((type_of% @List.extract_eq_take_drop.{0})∧(type_of% @List.drop_zero.{0}))))∧(((type_of% @List.drop_succ_cons.{0})∧((type_of% @List.take_succ_cons.{0})∧(type_of% @List.take_zero.{0})))∧((type_of% @List.take_nil.{0})∧((type_of% @List.drop_nil.{0})∧(type_of% @List.setIfInBounds_toArray.{0}))))))∧(((((type_of% @List.set_cons_zero.{0})∧(type_of% @List.set_cons_succ.{0}))∧((type_of% @List.toList_toArray.{0})∧((type_of% @List.all_cons.{0})∧(type_of% @List.all_nil.{0}))))∧(((type_of% @Bool.and_true)∧((type_of% @Bool.true_and)∧(type_of% @Bool.and_self)))∧((type_of% @Bool.false_and)∧((type_of% @Bool.and_false)∧(type_of% @Bool.or_false)))))∧((((type_of% @Bool.false_or)∧(type_of% @Bool.or_true))∧((type_of% @Bool.true_or)∧((type_of% @Bool.not_true)∧(type_of% @Bool.not_false))))∧(((type_of% @if_true.{1})∧((type_of% @if_false.{1})∧(type_of% @and_true)))∧((type_of% @true_and)∧((type_of% @false_and)∧(type_of% @and_false)))))))∧((((((type_of% @eq_self.{1})∧(type_of% @ne_eq.{1}))∧((type_of% @not_true_eq_false)∧((type_of% @not_false_eq_true)∧(type_of% @decide_true))))∧(((type_of% @decide_false)∧((type_of% @Bool.false_eq_true)∧(type_of% @Bool.true_eq_false)))∧((type_of% @Nat.zero_add)∧((type_of% @Nat.add_zero)∧(type_of% @Nat.mul_one)))))∧((((type_of% @Nat.one_mul)∧(type_of% @Nat.zero_mul))∧((type_of% @Int.toNat_natCast)∧((type_of% @List.nil_append.{0})∧(type_of% @List.append_nil.{0}))))∧(((type_of% @List.cons_append.{0})∧((type_of% @Array.toList_empty.{0})∧(type_of% @List.getElem?_map.{0,0})))∧((type_of% @ge_iff_le.{0})∧((type_of% @gt_iff_lt.{0})∧(type_of% @decide_eq_true_eq))))))∧(((((type_of% @bne_self_eq_false.{0})∧(type_of% @beq_self_eq_true.{0}))∧((type_of% @Int.natCast_nonneg)∧((type_of% @Nat.lt_irrefl)∧(type_of% @Nat.le_refl))))∧(((type_of% @seqO_nil)∧((type_of% @seqO_cons)∧(type_of% @oneOf_one)))∧((type_of% @oneOf_two)∧((type_of% @deferV_func)∧(type_of% @dAllP_nil)))))∧((((type_of% @dAllP_cons)∧(type_of% @settle_ret))∧((type_of% @settle_pan)∧((type_of% @settle_recd)∧(type_of% @leftV_ret))))∧(((type_of% @leftV_pan)∧((type_of% @resK_ret)∧(type_of% @resK_pan)))∧((type_of% @guardQ_undef)∧((type_of% @one_slV)∧(type_of% @cells_slV))))))))):=⟨⟨⟨⟨⟨⟨⟨@bq_some,@oq_some⟩,⟨@get_push_e,⟨@get_push_ne,@get_put_e⟩⟩⟩,⟨⟨@get_put_ne,@sz_push⟩,⟨@sz_put,⟨@rowC_cells,@setC_cells⟩⟩⟩⟩,⟨⟨⟨@ld1_ptr,@ld1_fp⟩,⟨@ldN_ptr,⟨@ldN_fp,@stN_ptr⟩⟩⟩,⟨⟨@fa_ptr,⟨@fa_fp,@fd1_agg⟩⟩,⟨@fdN_agg,⟨@ia_vs,@ia_sl⟩⟩⟩⟩⟩,⟨⟨⟨⟨@iaA_ptr,@iaA_fp⟩,⟨@lenL_vs,⟨@lenL_sl,@lenL_slV⟩⟩⟩,⟨⟨@lenS_s,⟨@lenM_nil,@lenM_map⟩⟩,⟨@lenE_map,⟨@rngE_map,@opExtract_tuple⟩⟩⟩⟩,⟨⟨⟨@nilV_ptr,@nilV_iface⟩,⟨@nilV_func,⟨@nilV_fp,@pickV_bool⟩⟩⟩,⟨⟨@wrap64,⟨@cells_agg,@cells_int⟩⟩,⟨@cells_bool,⟨@cells_string,@cells_pointer⟩⟩⟩⟩⟩⟩,⟨⟨⟨⟨⟨@cells_slice,@cells_map⟩,⟨@cells_iface,⟨@cells_nilIface,@cells_func⟩⟩⟩,⟨⟨@cells_float,@cells_complex⟩,⟨@cells_vs,⟨@cells_fp,@one_int⟩⟩⟩⟩,⟨⟨⟨@one_bool,@one_string⟩,⟨@one_pointer,⟨@one_slice,@one_map⟩⟩⟩,⟨⟨@one_iface,⟨@one_nilIface,@one_func⟩⟩,⟨@one_float,⟨@one_complex,@one_vs⟩⟩⟩⟩⟩,⟨⟨⟨⟨@one_fp,@setFrom_nil⟩,⟨@setFrom_cons,⟨@bd_eq,@bdF_nil⟩⟩⟩,⟨⟨@bdF_cons,⟨@bs_eq,@new1⟩⟩,⟨@new2,⟨@mm1,@mm2⟩⟩⟩⟩,⟨⟨⟨@callX_func,@callP_func⟩,⟨@condP_true,⟨@condP_false,@guardQ_true⟩⟩⟩,⟨⟨@guardQ_false,⟨@guardQ_true',@guardQ_false'⟩⟩,⟨@plain_int,⟨@plain_bool,@plain_string⟩⟩⟩⟩⟩⟩⟩,⟨⟨⟨⟨⟨⟨@plain_float,@plain_complex⟩,⟨@Option.bind_some.{0,0},⟨@Option.bind_none.{0,0},@Option.map_some.{0,0}⟩⟩⟩,⟨⟨@Option.map_none.{0,0},@List.getElem?_toArray.{0}⟩,⟨@List.getElem?_cons_zero.{0},⟨@List.getElem?_cons_succ.{0},@List.size_toArray.{0}⟩⟩⟩⟩,⟨⟨⟨@List.length_cons.{0},@List.length_nil.{0}⟩,⟨@List.extract_toArray.{0},⟨@List.extract_eq_take_drop.{0},@List.drop_zero.{0}⟩⟩⟩,⟨⟨@List.drop_succ_cons.{0},⟨@List.take_succ_cons.{0},@List.take_zero.{0}⟩⟩,⟨@List.take_nil.{0},⟨@List.drop_nil.{0},@List.setIfInBounds_toArray.{0}⟩⟩⟩⟩⟩,⟨⟨⟨⟨@List.set_cons_zero.{0},@List.set_cons_succ.{0}⟩,⟨@List.toList_toArray.{0},⟨@List.all_cons.{0},@List.all_nil.{0}⟩⟩⟩,⟨⟨@Bool.and_true,⟨@Bool.true_and,@Bool.and_self⟩⟩,⟨@Bool.false_and,⟨@Bool.and_false,@Bool.or_false⟩⟩⟩⟩,⟨⟨⟨@Bool.false_or,@Bool.or_true⟩,⟨@Bool.true_or,⟨@Bool.not_true,@Bool.not_false⟩⟩⟩,⟨⟨@if_true.{1},⟨@if_false.{1},@and_true⟩⟩,⟨@true_and,⟨@false_and,@and_false⟩⟩⟩⟩⟩⟩,⟨⟨⟨⟨⟨@eq_self.{1},@ne_eq.{1}⟩,⟨@not_true_eq_false,⟨@not_false_eq_true,@decide_true⟩⟩⟩,⟨⟨@decide_false,⟨@Bool.false_eq_true,@Bool.true_eq_false⟩⟩,⟨@Nat.zero_add,⟨@Nat.add_zero,@Nat.mul_one⟩⟩⟩⟩,⟨⟨⟨@Nat.one_mul,@Nat.zero_mul⟩,⟨@Int.toNat_natCast,⟨@List.nil_append.{0},@List.append_nil.{0}⟩⟩⟩,⟨⟨@List.cons_append.{0},⟨@Array.toList_empty.{0},@List.getElem?_map.{0,0}⟩⟩,⟨@ge_iff_le.{0},⟨@gt_iff_lt.{0},@decide_eq_true_eq⟩⟩⟩⟩⟩,⟨⟨⟨⟨@bne_self_eq_false.{0},@beq_self_eq_true.{0}⟩,⟨@Int.natCast_nonneg,⟨@Nat.lt_irrefl,@Nat.le_refl⟩⟩⟩,⟨⟨@seqO_nil,⟨@seqO_cons,@oneOf_one⟩⟩,⟨@oneOf_two,⟨@deferV_func,@dAllP_nil⟩⟩⟩⟩,⟨⟨⟨@dAllP_cons,@settle_ret⟩,⟨@settle_pan,⟨@settle_recd,@leftV_ret⟩⟩⟩,⟨⟨@leftV_pan,⟨@resK_ret,@resK_pan⟩⟩,⟨@guardQ_undef,⟨@one_slV,@cells_slV⟩⟩⟩⟩⟩⟩⟩⟩
theorem SC:((((((type_of% @one_slV)∧(type_of% @cells_slV))∧((type_of% @cells_agg)∧(type_of% @cells_int)))∧(((type_of% @cells_bool)∧(type_of% @cells_string))∧((type_of% @cells_pointer)∧((type_of% @cells_slice)∧(type_of% @cells_map)))))∧((((type_of% @cells_iface)∧(type_of% @cells_nilIface))∧((type_of% @cells_func)∧((type_of% @cells_float)∧(type_of% @cells_complex))))∧(((type_of% @cells_vs)∧(type_of% @cells_fp))∧((type_of% @one_int)∧((type_of% @one_bool)∧(type_of% @one_string))))))∧(((((type_of% @one_pointer)∧(type_of% @one_slice))∧((type_of% @one_map)∧((type_of% @one_iface)∧(type_of% @one_nilIface))))∧(((type_of% @one_func)∧(type_of% @one_float))∧((type_of% @one_complex)∧((type_of% @one_vs)∧(type_of% @one_fp)))))∧((((type_of% @List.size_toArray.{0})∧(type_of% @List.length_cons.{0}))∧((type_of% @List.length_nil.{0})∧((type_of% @List.all_cons.{0})∧(type_of% @List.all_nil.{0}))))∧(((type_of% @Bool.and_true)∧(type_of% @Bool.true_and))∧((type_of% @Bool.and_self)∧((type_of% @Nat.zero_add)∧(type_of% @Nat.add_zero))))))):=⟨⟨⟨⟨⟨@one_slV,@cells_slV⟩,⟨@cells_agg,@cells_int⟩⟩,⟨⟨@cells_bool,@cells_string⟩,⟨@cells_pointer,⟨@cells_slice,@cells_map⟩⟩⟩⟩,⟨⟨⟨@cells_iface,@cells_nilIface⟩,⟨@cells_func,⟨@cells_float,@cells_complex⟩⟩⟩,⟨⟨@cells_vs,@cells_fp⟩,⟨@one_int,⟨@one_bool,@one_string⟩⟩⟩⟩⟩,⟨⟨⟨⟨@one_pointer,@one_slice⟩,⟨@one_map,⟨@one_iface,@one_nilIface⟩⟩⟩,⟨⟨@one_func,@one_float⟩,⟨@one_complex,⟨@one_vs,@one_fp⟩⟩⟩⟩,⟨⟨⟨@List.size_toArray.{0},@List.length_cons.{0}⟩,⟨@List.length_nil.{0},⟨@List.all_cons.{0},@List.all_nil.{0}⟩⟩⟩,⟨⟨@Bool.and_true,@Bool.true_and⟩,⟨@Bool.and_self,⟨@Nat.zero_add,@Nat.add_zero⟩⟩⟩⟩⟩⟩
end Go.Ab
end
