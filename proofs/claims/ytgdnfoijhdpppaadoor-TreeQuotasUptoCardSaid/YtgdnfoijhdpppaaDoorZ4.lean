import Derived.Test.YtgdnfoijhdpppaaDoorZ3
set_option linter.unusedVariables false
set_option linter.unusedSimpArgs false
section
namespace Go.Ab
def opCopy (P:Program) (h:AH) (argTypes:Array TypeId) (dst src:Value):Option (Value × AH) :=
 match argTypes[0]? with
 | some dt=>match P.underlying dt with
  | some (.slice elem)=>match P.info? elem,dst,lenOf? src with
   | some d,.slice base dLen _,some sn=>match opFirst h d.size (Nat.min sn dLen) src with
    | some cells=>match base with
     | none=>some (goInt (Nat.min sn dLen),h)
     | some a=>if cells.size=0 then some (goInt (Nat.min sn dLen),h) else if a.spot.isSome then none else if dLen=0 then none else match opSetCells h a cells with
      | some h'=>some (goInt (Nat.min sn dLen),h')
      | none=>none
    | none=>none
   | _,_,_=>none
  | _=>none
 | none=>none
theorem opCopy_run {P:Program} {E:Ren} {h h':AH} {w:World} (r:RW P E h w) {argTypes:Array TypeId} {ty:TypeId} {s x s' x' v:Value}
  (hh:opCopy P h argTypes s x=some (v,h')) (hs:RV E s s') (hx:RV E x x') :
  ∃ E' v' w',(Builtin.copy_ argTypes ty #[s',x']).run P w=.ok v' w'∧RW P E' h' w'∧Ext E w E' w'∧RV E' v v':=by
 unfold opCopy at hh
 split at hh
 case h_2=>cases hh
 rename_i dt h0
 split at hh
 case h_2=>cases hh
 rename_i elem hu
 split at hh
 case h_2=>cases hh
 rename_i d base dLen dCap sn hd hln
 split at hh
 case h_2=>cases hh
 rename_i cells hc
 have hn:=lenOf_run (P:=P) hln hx w
 have hstub:∀ a c,x=.slice (some a) 0 c→Nat.min sn dLen=0:=by
  rintro a c rfl;simp [lenOf?] at hln;subst hln;exact Nat.zero_min _
 obtain ⟨cells',g1,g2⟩:=opFirst_run r hc hx hstub
 have run:∀ (base':Option Addr) (cap':Nat) (w₂:World),(match base' with | some a=>(storeCells a cells'.toList).run P w=.ok () w₂ | none=>w₂=w) →
   (Builtin.copy_ argTypes ty #[.slice base' dLen cap',x']).run P w=.ok (goInt (Nat.min sn dLen)) w₂:=by
  intro base' cap' w₂ hst
  simp only [Builtin.copy_,h0,List.getElem?_toArray,List.getElem?_cons_zero,List.getElem?_cons_succ,Sem.run_bind,und_run hu,Result.andThen_ok,hn,siz_run hd,g1]
  cases base' with
  | none=>simp only at hst;subst hst;simp
  | some a=>simp only at hst;simp [hst]
 split at hh
 ·cases hh;cases hs
  exact ⟨E,_,w,run none _ w rfl,r,.refl E w,.int _ _⟩
 ·rename_i a
  split at hh
  ·rename_i hz
   cases hh
   have he:cells'.toList=[]:=by
    have:cells'.size=0:=by rw [← g2.1,hz]
    simpa using this
   cases hs <;> exact ⟨E,_,w,run (some _) _ w (by simp only [he];rfl),r,.refl E w,.int _ _⟩
  ·split at hh
   ·cases hh
   ·split at hh
    ·cases hh
    ·rename_i hd0
     split at hh
     case h_2=>cases hh
     rename_i h2 hset
     cases hh
     cases hs with
     | slice hat _ =>
      obtain ⟨_,w',q1,q2,q3,_⟩:=opSetCells_run r hset hat g2
      exact ⟨E,_,w',run (some _) _ w' q1,q2,q3,.int _ _⟩
     | softSlice hat _ _ _ _ =>
      obtain ⟨_,w',q1,q2,q3,_⟩:=opSetCells_run r hset hat g2
      exact ⟨E,_,w',run (some _) _ w' q1,q2,q3,.int _ _⟩
     | stub _=>exact absurd rfl hd0
def opLen (P:Program) (h:AH) (t:TypeId) (x:Value):Option Value :=
 match P.underlying t,x with
 | some .string,.string s=>some (goInt s.size)
 | some (.array n _),_=>some (goInt n)
 | some (.slice _),.slice _ n _=>some (goInt n)
 | some (.slice _),.func (.yield 0) _ l=>some (goInt l.size)
 | some (.map _ _),.map none=>some (goInt 0)
 | some (.map _ _),.map (some r)=>match h.get r with
  | some (.map es _,_)=>some (goInt es.size)
  | _=>none
 | _,_=>none
theorem getObj_run {P:Program} {w:World} {r:Nat} {o:Obj} (h:w.heap[r]?=some o) (hc:∀ c e f,o ≠ .cells c e f):(getObj r).run P w=.ok o w:=by
 cases o <;> first | (exact absurd rfl (hc _ _ _)) | simp [getObj,Sem.run,h]
theorem RW.map {P:Program} {E:Ren} {h:AH} {w:World} (r:RW P E h w) {b b':Nat} {es:Array MapEntry} {t:Nat} {s:Option Nat}
  (hb:h.get b=some (.map es t,s)) (hat:E.at_ b=some b') :
  ∃ es',w.heap[b']?=some (.map es' t)∧es.size=es'.size∧(∀ (i:Nat) x y,es[i]?=some x→es'[i]?=some y→RV E x.key y.key∧RV E x.val y.val∧x.born=y.born):=by
 obtain ⟨n,o',h1,h2,h3,h4⟩:=r.live b _ s hb
 rw [hat] at h1;cases h1
 cases h3 with
 | map _ hn hh=>exact ⟨_,h2,hn,hh⟩
theorem opLen_run {P:Program} {E:Ren} {h:AH} {w:World} (r:RW P E h w) {argTypes:Array TypeId} {t ty:TypeId} {x x' v:Value} (h0:argTypes[0]?=some t)
  (hh:opLen P h t x=some v) (hx:RV E x x'):(Builtin.len_ argTypes ty #[x']).run P w=.ok v w∧RV E v v:=by
 unfold opLen at hh
 split at hh
 ·rename_i s e
  cases hh;cases hx
  exact ⟨by simp [Builtin.len_,h0,und_run e],.int _ _⟩
 ·rename_i n el e
  cases hh
  exact ⟨by simp [Builtin.len_,h0,und_run e],.int _ _⟩
 ·rename_i el a n c e
  cases hh
  cases hx <;> exact ⟨by simp [Builtin.len_,h0,und_run e],.int _ _⟩
 ·rename_i el z l e
  cases hh
  rcases vs_inv hx with ⟨rfl,a',cap',rfl⟩ | ⟨b',off,cap,s,c,rfl,h1,h2,h3,h4,h5,h6⟩ <;> exact ⟨by simp [Builtin.len_,h0,und_run e],.int _ _⟩
 ·rename_i e
  cases hh;cases hx
  exact ⟨by simp [Builtin.len_,h0,und_run e],.int _ _⟩
 ·rename_i k el b e
  split at hh
  ·rename_i es t' s hg
   cases hh
   cases hx with
   | map hat =>
    obtain ⟨es',g1,g2,g3⟩:=r.map hg hat
    exact ⟨by simp [Builtin.len_,h0,und_run e,getObj_run g1 (by intro _ _ _ hc;cases hc),g2],.int _ _⟩
  ·cases hh
 ·cases hh
def intsOf:List Value→Option (List Int)
 | []=>some []
 | .int .u8 n::l=>(intsOf l).map (n::·)
 | _=>none
theorem intsOf_eq:∀ {l:List Value} {ns:List Int},intsOf l=some ns→l=ns.map (Value.int .u8):=by
 intro l
 induction l with
 | nil=>intro ns h;cases h;rfl
 | cons v l ih =>
  intro ns h
  unfold intsOf at h
  split at h
  ·rename_i e;cases e
  ·rename_i n l' e
   cases e
   rw [Option.map_eq_some_iff] at h
   obtain ⟨m,h1,rfl⟩:=h
   rw [ih h1];rfl
  ·cases h
theorem RA.ints {E:Ren} {c c':Array Value} (h:RA E c c') {ns:List Int} (hc:c.toList=ns.map (Value.int .u8)):c' = (ns.map (Value.int .u8)).toArray:=by
 have:c' = c:=by
  refine Array.ext h.1.symm fun i h1 h2=>?_
  have hr:=h.2 i _ _ (Array.getElem?_eq_getElem h2) (Array.getElem?_eq_getElem h1)
  have:∃ n,c[i]=.int .u8 n:=by
   have hm:c[i] ∈ c.toList:=by simp
   rw [hc,List.mem_map] at hm
   obtain ⟨n,_,hn⟩:=hm
   exact ⟨n,hn.symm⟩
  obtain ⟨n,hn⟩:=this
  rw [hn] at hr ⊢
  generalize c'[i]=u at hr ⊢
  cases hr
  rfl
 rw [this,← hc]
def opB2S (h:AH) (x:Value):Option Value :=
 match x with
 | .slice none _ _=>some (.string .empty)
 | .slice (some a) len _=>if len=0 then some (.string .empty) else match opCells h a len with
  | some c=>match intsOf c.toList with
   | some ns=>some (.string (ns.foldl (fun r n=>r.push (UInt8.ofNat n.toNat)) ByteArray.empty))
   | none=>none
  | none=>none
 | .func (.yield 0) _ l=>match intsOf l.toList with
  | some ns=>some (.string (ns.foldl (fun r n=>r.push (UInt8.ofNat n.toNat)) ByteArray.empty))
  | none=>none
 | _=>none
theorem flatC_ints:∀ (ns:List Int),flatC (ns.map (Value.int .u8))=ns.map (Value.int .u8):=by
 intro ns
 induction ns with
 | nil=>rfl
 | cons n l ih =>
  have e:flatC (Value.int .u8 n::l.map (Value.int .u8))=[Value.int .u8 n]++flatC (l.map (Value.int .u8)):=rfl
  rw [List.map_cons,e,ih];rfl
theorem opB2S_run {P:Program} {E:Ren} {h:AH} {w:World} (r:RW P E h w) {x x' v:Value} (hh:opB2S h x=some v) (hx:RV E x x') :
  (Conv.bytesToString x').run P w=.ok v w∧RV E v v:=by
 unfold opB2S at hh
 split at hh
 ·cases hh;cases hx
  exact ⟨by simp [Conv.bytesToString],.string _⟩
 ·rename_i a len cap
  split at hh
  ·rename_i hz
   subst hz
   cases hh
   have key:∀ a' c',(Conv.bytesToString (.slice (some a') 0 c')).run P w=.ok (.string .empty) w:=fun a' c' =>
    run_bytesToString w a' 0 c' [] (by simp [loadCells,loadCellsFrom])
   cases hx <;> exact ⟨key _ _,.string _⟩
  ·rename_i hz
   split at hh
   case h_2=>cases hh
   rename_i c hc
   split at hh
   case h_2=>cases hh
   rename_i ns hns
   cases hh
   refine ⟨?_,.string _⟩
   cases hx with
   | slice hat _ =>
    obtain ⟨_,l',h1,h2⟩:=opCells_run r hc hat
    exact run_bytesToString w _ _ _ ns (by rw [← h2.ints (intsOf_eq hns)];exact h1)
   | softSlice hat _ _ _ _ =>
    obtain ⟨_,l',h1,h2⟩:=opCells_run r hc hat
    exact run_bytesToString w _ _ _ ns (by rw [← h2.ints (intsOf_eq hns)];exact h1)
   | stub _=>exact absurd rfl hz
 ·rename_i z l
  split at hh
  case h_2=>cases hh
  rename_i ns hns
  cases hh
  have hl:=intsOf_eq hns
  refine ⟨?_,.string _⟩
  rcases vs_inv hx with ⟨rfl,a',cap',rfl⟩ | ⟨b',off,cap,s,c,rfl,h1,h2,h3,h4,h5,h6⟩
  ·have:ns=[]:=by cases ns with
    | nil=>rfl
    | cons=>cases hl
   subst this
   exact run_bytesToString w a' 0 cap' [] (by simp [loadCells,loadCellsFrom])
  ·have hsz:l.size=ns.length:=by rw [← Array.length_toList,hl,List.length_map]
   by_cases h0:ns=[]
   ·subst h0
    rw [hsz]
    exact run_bytesToString w _ 0 _ [] (by simp [loadCells,loadCellsFrom])
   ·have hs1:s=1:=by
     obtain ⟨n,ns',rfl⟩:=List.exists_cons_of_ne_nil h0
     exact (h3 (.int .u8 n) (by rw [hl];simp)).symm
    subst hs1
    obtain ⟨l',g1,g2⟩:=r.still (d:=(ns.map (Value.int .u8)).toArray) h1 (by simp;omega) (fun i v v' hv hv'=>h6 i v v' (by rw [hl,flatC_ints];simpa using hv) hv') (n:=l.size) (by simp;omega)
    have e:((ns.map (Value.int .u8)).toArray).extract 0 l.size=(ns.map (Value.int .u8)).toArray:=by rw [hsz];apply Array.ext';simp;exact List.take_of_length_le (by simp)
    rw [e] at g2
    exact run_bytesToString w _ _ _ ns (by rw [← g2.ints (ns:=ns) (by simp)];exact g1)
 ·cases hh
def opS2B (h:AH) (elem:TypeId) (s:ByteArray):Value × AH :=
 (.slice (some ⟨h.size,0,none⟩) s.size s.size,h.push (.cells (s.data.map fun b=>.int .u8 b.toNat) elem (0,0)) (some 1))
theorem opS2B_run {P:Program} {E:Ren} {h:AH} {w:World} (r:RW P E h w) (elem:TypeId) (s:ByteArray) :
  ∃ E' v' w',(Conv.stringToBytes elem s).run P w=.ok v' w'∧RW P E' (opS2B h elem s).2 w'∧Ext E w E' w'∧RV E' (opS2B h elem s).1 v':=by
 have rd:RW P E h { w with drawn:=w.drawn + 1 }:=r.of_heap rfl
 have xt:∀ {E' w'},Ext E { w with drawn:=w.drawn + 1 } E' w'→Ext E w E' w':=fun x=>x.of_heap rfl rfl rfl rfl (Nat.le_succ _)
 have hcut:s.size ≤ (Question.appendCap s.size 0 elem).cut (w.tape w.drawn (.appendCap s.size 0 elem)):=by simp only [Question.cut];omega
 generalize hcap:(Question.appendCap s.size 0 elem).cut (w.tape w.drawn (.appendCap s.size 0 elem))=cap at hcut
 have hsz:(s.data.map (fun b=>Value.int .u8 (b.toNat:Int))++Array.replicate (cap - s.size) (Value.int .u8 0)).size=cap:=by
  have:s.data.size=s.size:=rfl
  simp [this];omega
 obtain ⟨E',q1,q2,q3,q4⟩:=rd.newSoft (c:=s.data.map fun b=>.int .u8 b.toNat) (rest:=Array.replicate (cap - s.size) (Value.int .u8 0)) elem (C:=cap) (z:=1)
  (lo:=cap) (hi:=cap + 1) (by omega) (.of_plain fun v hv=>by
   simp only [Array.toList_map,List.mem_map] at hv
   obtain ⟨b,_,rfl⟩:=hv
   exact .int _ _) (by rw [hsz,Nat.mul_one]) (.inl (by rw [hsz];exact Nat.le_refl _))
 refine ⟨E',.slice (some ⟨w.heap.size,0,none⟩) s.size cap,_,?_,q1,xt q2,.softSlice (i:=0) q3 q4 (by simp) (by simp) hcut⟩
 have hforced:(Question.appendCap s.size 0 elem).forced=false:=rfl
 simp only [Conv.stringToBytes,Sem.run_bind,run_choose,hforced,Bool.false_eq_true,if_false,Result.andThen_ok,hcap,newRow,run_newObj,Sem.run_pure,markStringish,run_shape]
 have hsh:World.shape? { w with drawn:=w.drawn + 1,heap:=w.heap.push (.cells (s.data.map (fun b=>Value.int .u8 (b.toNat:Int))++Array.replicate (cap - s.size) (Value.int .u8 0)) elem (0,0)) } w.heap.size=some (elem,cap):=by
  simp only [World.shape?,Array.getElem?_push_size,hsz]
 simp only [hsh,run_freeze,Result.andThen_ok,Sem.run_pure,Sem.run_bind]
 congr 1
 unfold World.freeze
 rw [if_neg (by decide)]
 congr 1
 apply Array.ext_getElem?
 intro k
 rw [Array.getElem?_modify,Array.getElem?_push,Array.getElem?_push]
 by_cases hk:k=w.heap.size
 ·subst hk;simp
 ·simp [hk]
  exact fun e=>absurd e.symm hk
end Go.Ab
end
section
namespace Go.Ab
def opEqPtr (P:Program) (h:AH) (t:TypeId) (x y:Value):Option Bool :=
 match P.underlying t,x,y with
 | some (.pointer _),.pointer none,.pointer (some _)=>some false
 | some (.pointer _),.pointer (some _),.pointer none=>some false
 | some (.pointer e),.pointer (some a),.pointer (some b)=>match P.info? e with
  | some d=>if d.size=0 ∨ a.spot.isSome ∨ b.spot.isSome then none else if a.block=b.block then some (a.off == b.off) else
   match h.get a.block,h.get b.block with
   | some (.cells _ _ (0,0),none),some (.cells _ _ (0,0),none)=>some false
   | _,_=>none
  | none=>none
 | some (.slice _),.slice none _ _,.slice (some _) _ _=>some false
 | some (.slice _),.slice (some _) _ _,.slice none _ _=>some false
 | some (.slice _),.slice none _ _,.func (.yield 0) _ _=>some false
 | some (.slice _),.func (.yield 0) _ _,.slice none _ _=>some false
 | some (.map _ _),.map none,.map (some _)=>some false
 | some (.map _ _),.map (some _),.map none=>some false
 | some (.func _ _ _),.nilFunc,.func (.func _) _ _=>some false
 | some (.func _ _ _),.func (.func _) _ _,.nilFunc=>some false
 | some (.interface _),.nilIface,.iface _ _=>some false
 | some (.interface _),.iface _ _,.nilIface=>some false
 | some (.interface _),.iface t _,.iface u _=>if t=u then none else some false
 | _,_,_=>none
theorem RW.hardCells {P:Program} {E:Ren} {h:AH} {w:World} (r:RW P E h w) {b b':Nat} {c:Array Value} {e:TypeId}
  (hb:h.get b=some (.cells c e (0,0),none)) (hat:E.at_ b=some b'):∃ c',w.heap[b']?=some (.cells c' e (0,0))∧RA E c c':=by
 obtain ⟨n,o',h1,h2,h3,h4⟩:=r.live b _ _ hb
 rw [hat] at h1;cases h1
 have hs:=Option.map_eq_none_iff.1 h4.symm
 cases h3 with
 | hard _ hh=>exact ⟨_,h2,hh⟩
 | soft hs2 _ _ _ _ _=>rw [hs2] at hs;cases hs
theorem sameAddr_far {P:Program} {w:World} {a b oa ob:Nat} {ca cb:Array Value} {ea eb:TypeId} (hne:a ≠ b) (ha:w.heap[a]?=some (.cells ca ea (0,0))) (hb:w.heap[b]?=some (.cells cb eb (0,0))) :
  (sameAddr ⟨a,oa,none⟩ ⟨b,ob,none⟩).run P w=.ok false w:=by
 have fa:∀ o,w.frozen? ⟨a,o,none⟩=false:=fun o=>by simp [World.frozen?,ha]
 have fb:∀ o,w.frozen? ⟨b,o,none⟩=false:=fun o=>by simp [World.frozen?,hb]
 have sa:w.shape? a=some (ea,ca.size):=by simp [World.shape?,ha]
 have sb:w.shape? b=some (eb,cb.size):=by simp [World.shape?,hb]
 have hbe:(a == b)=false:=by simpa using hne
 simp [sameAddr,hbe,fa,fb,noView,viewAt,sa,sb,mayBeOne,stringish]
set_option maxHeartbeats 2000000 in
theorem opEqPtr_run {P:Program} {E:Ren} {h:AH} {w:World} (r:RW P E h w) {t:TypeId} {x y x' y':Value} {b:Bool} (hh:opEqPtr P h t x y=some b) (hx:RV E x x') (hy:RV E y y') :
  (Op.equal t x' y').run P w=.ok b w:=by
 have e1:Op.maxDepth=9999 + 1:=rfl
 unfold Op.equal
 rw [e1]
 generalize 9999=n
 unfold opEqPtr at hh
 split at hh
 ·rename_i e;cases hh;cases hx;cases hy;simp [Op.equalIn,und_run e]
 ·rename_i e;cases hh;cases hx;cases hy;simp [Op.equalIn,und_run e]
 ·rename_i el a c e
  split at hh
  case h_2=>cases hh
  rename_i d hd
  split at hh
  ·cases hh
  ·rename_i hsp
   cases hx with
   | ptr ha =>
    cases hy with
    | ptr hb =>
     have hz:d.size ≠ 0:=fun e=>hsp (.inl e)
     simp only [Op.equalIn,Sem.run_bind,und_run e,Result.andThen_ok,siz_run hd,hz,ne_eq,not_false_eq_true,if_true]
     split at hh
     ·rename_i hbe
      simp only at hbe
      subst hbe
      rw [ha] at hb;cases hb
      cases hh
      simp only [sameAddr,beq_self_eq_true,if_true,Sem.run_pure]
      congr 1
      rw [Bool.eq_iff_iff]
      simp
     ·rename_i hbe
      simp only at hbe hh
      split at hh
      ·rename_i c1 e1 c2 e2 g1 g2
       cases hh
       obtain ⟨c1',p1,_⟩:=r.hardCells g1 ha
       obtain ⟨c2',p2,_⟩:=r.hardCells g2 hb
       exact sameAddr_far (fun e=>hbe (r.inj _ _ _ ha (e ▸ hb) (by rw [g1];rfl) (by rw [g2];rfl))) p1 p2
      ·cases hh
 ·rename_i e;cases hh;cases hx;cases hy <;> simp [Op.equalIn,und_run e]
 ·rename_i e;cases hh;cases hy;cases hx <;> simp [Op.equalIn,und_run e]
 ·rename_i e;cases hh;cases hx
  rcases vs_inv hy with ⟨rfl,a',cap',rfl⟩ | ⟨b',off,cap,s,c,rfl,h1,h2,h3,h4,h5,h6⟩ <;> simp [Op.equalIn,und_run e]
 ·rename_i e;cases hh;cases hy
  rcases vs_inv hx with ⟨rfl,a',cap',rfl⟩ | ⟨b',off,cap,s,c,rfl,h1,h2,h3,h4,h5,h6⟩ <;> simp [Op.equalIn,und_run e]
 ·rename_i e;cases hh;cases hx;cases hy;simp [Op.equalIn,und_run e]
 ·rename_i e;cases hh;cases hx;cases hy;simp [Op.equalIn,und_run e]
 ·rename_i e;cases hh;cases hx;cases hy;simp [Op.equalIn,und_run e]
 ·rename_i e;cases hh;cases hx;cases hy;simp [Op.equalIn,und_run e]
 ·rename_i e;cases hh;cases hx;cases hy;simp [Op.equalIn,und_run e]
 ·rename_i e;cases hh;cases hx;cases hy;simp [Op.equalIn,und_run e]
 ·rename_i e
  split at hh
  ·cases hh
  ·rename_i hne
   cases hh;cases hx;cases hy
   simp [Op.equalIn,und_run e,hne]
 ·cases hh
end Go.Ab
end
section
namespace Go.Ab
inductive Es (E:Ren):List MapEntry→List MapEntry→Prop
 | nil:Es E [] []
 | cons {x y:MapEntry} {l k:List MapEntry} (hk:RV E x.key y.key) (hv:RV E x.val y.val) (hb:x.born=y.born) (t:Es E l k):Es E (x::l) (y::k)
theorem es_of {E:Ren}:∀ {l k:List MapEntry},l.length=k.length→(∀ (i:Nat) x y,l[i]?=some x→k[i]?=some y→RV E x.key y.key∧RV E x.val y.val∧x.born=y.born)→Es E l k:=by
 intro l
 induction l with
 | nil=>intro k h _;cases k with
  | nil=>exact .nil
  | cons=>simp at h
 | cons x l ih =>
  intro k h hh
  cases k with
  | nil=>simp at h
  | cons y k =>
   obtain ⟨a,b,c⟩:=hh 0 x y (by simp) (by simp)
   exact .cons a b c (ih (by simpa using h) fun i u v hu hv=>hh (i + 1) u v (by simpa using hu) (by simpa using hv))
def findP (P:Program) (d:TypeDesc) (kt:TypeId) (k:Value) (es:List MapEntry):Option (Option (Nat × Value)) :=
 Instr.findNow d k es 0
theorem sameNow_rv {E:Ren} {d:TypeDesc} {k x y:Value} {b:Bool} (h:Instr.sameNow d k x=some b) (hr:RV E x y):Instr.sameNow d k y=some b:=by
 cases hr <;> first
  | exact h
  | (unfold Instr.sameNow at h;split at h <;> first | (cases h;done) | (simp_all [VSl,FPv];done))
theorem findNow_rv {E:Ren} {d:TypeDesc} {k:Value}:∀ {l m:List MapEntry} (i:Nat) {r:Option (Nat × Value)},Es E l m→Instr.findNow d k l i=some r →
  ∃ r',Instr.findNow d k m i=some r'∧((r=none∧r' = none) ∨ ∃ j v v',r=some (j,v)∧r' = some (j,v')∧RV E v v'):=by
 intro l
 induction l with
 | nil=>intro m i r he h;cases he;cases h;exact ⟨none,rfl,.inl ⟨rfl,rfl⟩⟩
 | cons x l ih =>
  intro m i r he h
  cases he with
  | cons hk hv hb t =>
   rename_i y m
   simp only [Instr.findNow] at h ⊢
   cases hs:Instr.sameNow d k x.key with
   | none=>rw [hs] at h;cases h
   | some b =>
    rw [hs] at h
    rw [sameNow_rv hs hk]
    cases b with
    | true=>cases h;exact ⟨_,rfl,.inr ⟨i,x.val,y.val,rfl,rfl,hv⟩⟩
    | false=>exact ih (i + 1) t h
theorem sameNow_vr {E:Ren} {d:TypeDesc} {k x y:Value} {b:Bool} (h:Instr.sameNow d k y=some b) (hr:RV E x y):Instr.sameNow d k x=some b:=by
 cases hr <;> first
  | exact h
  | (unfold Instr.sameNow at h;split at h <;> first | (cases h;done) | (simp_all;done))
theorem findNow_none {E:Ren} {d:TypeDesc} {k:Value}:∀ {l m:List MapEntry} (i:Nat),Es E l m→Instr.findNow d k l i=none→Instr.findNow d k m i=none:=by
 intro l
 induction l with
 | nil=>intro m i he h;cases h
 | cons x l ih =>
  intro m i he h
  cases he with
  | cons hk hv hb t =>
   rename_i y m
   simp only [Instr.findNow] at h ⊢
   cases hs:Instr.sameNow d k x.key with
   | none =>
    cases hs':Instr.sameNow d k y.key with
    | none=>rfl
    | some b=>rw [sameNow_vr hs' hk] at hs;cases hs
   | some b =>
    rw [hs] at h
    rw [sameNow_rv hs hk]
    cases b with
    | true=>cases h
    | false=>exact ih (i + 1) t h
def findAskA (P:Program) (kt:TypeId) (k:Value):List MapEntry→Nat→Option (Option (Nat × Value))
 | [],_=>some none
 | e::es,i=>if plain e.key then match flat P (Op.equal kt k e.key) with
  | some true=>some (some (i,e.val))
  | some false=>findAskA P kt k es (i + 1)
  | none=>none
  else none
theorem findAskA_run {P:Program} {E:Ren} {kt:TypeId} {k:Value} {w:World}:∀ {l m:List MapEntry} (i:Nat) {r:Option (Nat × Value)},Es E l m→findAskA P kt k l i=some r →
  ∃ r',(Instr.findAsking kt k m i).run P w=.ok r' w∧((r=none∧r' = none) ∨ ∃ j v v',r=some (j,v)∧r' = some (j,v')∧RV E v v'):=by
 intro l
 induction l with
 | nil=>intro m i r he h;cases he;cases h;exact ⟨none,rfl,.inl ⟨rfl,rfl⟩⟩
 | cons x l ih =>
  intro m i r he h
  cases he with
  | cons hk hv hb t =>
   rename_i y m
   simp only [findAskA] at h
   split at h
   case isFalse=>cases h
   rename_i hp
   have ek:=RV.eq_of_plain hp hk
   split at h
   ·rename_i hf
    cases h
    exact ⟨some (i,y.val),by simp [Instr.findAsking,ek,flat_run w hf],.inr ⟨i,x.val,y.val,rfl,rfl,hv⟩⟩
   ·rename_i hf
    obtain ⟨r',h1,h2⟩:=ih (i + 1) t h
    exact ⟨r',by simp [Instr.findAsking,ek,flat_run w hf,h1],h2⟩
   ·cases h
def opFind (P:Program) (kt:TypeId) (k:Value) (es:Array MapEntry) (empty:Bool):Option (Option (Nat × Value)) :=
 match P.underlying kt with
 | some d=>if plain k then match flat P (Instr.checkKey empty 10000 kt k) with
  | some ()=>match Instr.findNow d k es.toList 0 with
   | some r=>some r
   | none=>findAskA P kt k es.toList 0
  | none=>none
  else none
 | none=>none
theorem opFind_run {P:Program} {E:Ren} {kt:TypeId} {k k':Value} {es es':Array MapEntry} {e:Bool} {r:Option (Nat × Value)} (h:opFind P kt k es e=some r) (hk:RV E k k')
  (hn:es.size=es'.size) (hh:∀ (i:Nat) x y,es[i]?=some x→es'[i]?=some y→RV E x.key y.key∧RV E x.val y.val∧x.born=y.born) (w:World) :
  k' = k∧(Instr.checkKey e 10000 kt k').run P w=.ok () w∧∃ r',(Instr.findKey kt k' es'.toList).run P w=.ok r' w ∧
   ((r=none∧r' = none) ∨ ∃ j v v',r=some (j,v)∧r' = some (j,v')∧RV E v v'):=by
 unfold opFind at h
 split at h
 case h_2=>cases h
 rename_i d hd
 split at h
 case isFalse=>cases h
 rename_i hp
 split at h
 case h_2=>cases h
 rename_i hc
 have ek:=RV.eq_of_plain hp hk
 subst ek
 refine ⟨rfl,flat_run w hc,?_⟩
 have he:Es E es.toList es'.toList:=es_of (by simpa using hn) fun i x y hx hy=>hh i x y (by simpa using hx) (by simpa using hy)
 split at h
 ·rename_i r0 hr0
  cases h
  obtain ⟨r',h1,h2⟩:=findNow_rv 0 he hr0
  exact ⟨r',by simp [Instr.findKey,und_run hd,h1],h2⟩
 ·rename_i hr0
  obtain ⟨r',h1,h2⟩:=findAskA_run (w:=w) 0 he h
  exact ⟨r',by simp [Instr.findKey,und_run hd,findNow_none 0 he hr0,h1],h2⟩
def opMakeMap (h:AH):Value × AH:=(.map (some h.size),h.push (.map #[] 0) none)
theorem opMakeMap_run {P:Program} {E:Ren} {h:AH} {w:World} (r:RW P E h w) (t:TypeId) :
  ∃ E' v' w',(Instr.makeMap t none).run P w=.ok v' w'∧RW P E' (opMakeMap h).2 w'∧Ext E w E' w'∧RV E' (opMakeMap h).1 v':=by
 obtain ⟨a,b⟩:=r.push (o:=.map #[] 0) (o':=.map #[] 0) none (.map 0 rfl fun i x y hx=>by simp at hx)
 exact ⟨_,.map (some w.heap.size),{ w with heap:=w.heap.push (.map #[] 0) },by simp [Instr.makeMap,run_newObj],a,b,.map (by simp [Ren.add])⟩
def entriesOf (h:AH) (x:Value):Option (Array MapEntry) :=
 match x with
 | .map none=>some #[]
 | .map (some r)=>match h.get r with
  | some (.map es _,_)=>some es
  | _=>none
 | _=>none
def opLookup (P:Program) (h:AH) (t:TypeId) (x k:Value) (ok:Bool):Option Value :=
 match P.underlying t with
 | some (.map kt elem)=>match entriesOf h x with
  | some es=>match opFind P kt k es es.isEmpty with
   | some (some (_,v))=>some (if ok then .tuple #[v,.bool true] else v)
   | some none=>match P.info? elem with
    | some i=>match i.zero with
     | some z=>if plain z then some (if ok then .tuple #[z,.bool false] else z) else none
     | none=>none
    | none=>none
   | none=>none
  | none=>none
 | _=>none
theorem opLookup_run {P:Program} {E:Ren} {h:AH} {w:World} (r:RW P E h w) {t:TypeId} {x x' k k' v:Value} {ok:Bool} (hh:opLookup P h t x k ok=some v) (hx:RV E x x') (hk:RV E k k') :
  ∃ v',(Instr.lookup t x' k' ok).run P w=.ok v' w∧RV E v v':=by
 unfold opLookup at hh
 split at hh
 case h_2=>cases hh
 rename_i kt elem hu
 split at hh
 case h_2=>cases hh
 rename_i es hes
 have hent:∃ es',((x' = .map none∧es' = #[]) ∨ ∃ b' t',x' = .map (some b')∧w.heap[b']?=some (.map es' t'))∧es.size=es'.size ∧
   ∀ (i:Nat) x y,es[i]?=some x→es'[i]?=some y→RV E x.key y.key∧RV E x.val y.val∧x.born=y.born:=by
  unfold entriesOf at hes
  split at hes
  ·cases hes;cases hx
   exact ⟨#[],.inl ⟨rfl,rfl⟩,rfl,fun i x y hx=>by simp at hx⟩
  ·rename_i b
   split at hes
   ·rename_i es0 t0 s0 hg
    cases hes
    cases hx with
    | map hat =>
     obtain ⟨es',g1,g2,g3⟩:=r.map hg hat
     exact ⟨es',.inr ⟨_,_,rfl,g1⟩,g2,g3⟩
   ·cases hes
  ·cases hes
 obtain ⟨es',h1,h2,h3⟩:=hent
 have run:∀ (c:Sem Unit) (f:Sem (Option (Nat × Value))) (u':Value),(Instr.checkKey es'.isEmpty 10000 kt k').run P w=.ok () w →
   (∀ v',(Instr.findKey kt k' es'.toList).run P w=.ok (some v') w→(Instr.lookup t x' k' ok).run P w=.ok (if ok then .tuple #[v'.2,.bool true] else v'.2) w) ∧
   (∀ z,(Instr.findKey kt k' es'.toList).run P w=.ok none w→(zeroValue elem).run P w=.ok z w→(Instr.lookup t x' k' ok).run P w=.ok (if ok then .tuple #[z,.bool false] else z) w):=by
  intro c f u' hck
  constructor
  ·rintro ⟨j,v'⟩ hf
   rcases h1 with ⟨rfl,rfl⟩ | ⟨b',t',rfl,g1⟩
   ·have hck':(Instr.checkKey true 10000 kt k').run P w=.ok () w:=hck
    have hf':(Instr.findKey kt k' []).run P w=.ok (some (j,v')) w:=hf
    simp [Instr.lookup,und_run hu,hck',hf']
   ·simp [Instr.lookup,und_run hu,getObj_run g1 (by intro _ _ _ hc;cases hc),hck,hf]
  ·intro z hf hz
   rcases h1 with ⟨rfl,rfl⟩ | ⟨b',t',rfl,g1⟩
   ·have hck':(Instr.checkKey true 10000 kt k').run P w=.ok () w:=hck
    have hf':(Instr.findKey kt k' []).run P w=.ok none w:=hf
    simp [Instr.lookup,und_run hu,hck',hf',hz]
   ·simp [Instr.lookup,und_run hu,getObj_run g1 (by intro _ _ _ hc;cases hc),hck,hf,hz]
 have hemp:es'.isEmpty=es.isEmpty:=by simp [Array.isEmpty,h2]
 have two:∀ {u u':Value} {b:Bool},RV E u u'→RV E (if ok then .tuple #[u,.bool b] else u) (if ok then .tuple #[u',.bool b] else u'):=by
  intro u u' b hu
  cases ok
  ·exact hu
  ·exact RV.tup (RA.two hu (.bool b))
 split at hh
 ·rename_i j u hf
  cases hh
  obtain ⟨rfl,c1,r',c2,c3⟩:=opFind_run (es':=es') hf hk h2 h3 w
  rw [← hemp] at c1
  rcases c3 with ⟨e,_⟩ | ⟨j',v,v',e1,rfl,hv⟩
  ·cases e
  ·cases e1
   exact ⟨_,(run (pure ()) (pure none) (.bool true) c1).1 _ c2,two hv⟩
 ·rename_i hf
  obtain ⟨rfl,c1,r',c2,c3⟩:=opFind_run (es':=es') hf hk h2 h3 w
  rw [← hemp] at c1
  split at hh
  ·rename_i i hi
   split at hh
   ·rename_i z hz
    split at hh
    ·rename_i hp
     cases hh
     rcases c3 with ⟨_,rfl⟩ | ⟨j',v,v',e1,_⟩
     ·exact ⟨_,(run (pure ()) (pure none) (.bool true) c1).2 z c2 (zero_run hi hz w),two (RV.of_plain hp)⟩
     ·cases e1
    ·cases hh
   ·cases hh
  ·cases hh
 ·cases hh
end Go.Ab
end
section
namespace Go.Ab
theorem setObj_run {P:Program} {w:World} {r:Nat} {o n:Obj} (h:w.heap[r]?=some o) (hc:∀ c e f,o ≠ .cells c e f):(setObj r n).run P w=.ok () { w with heap:=w.heap.setIfInBounds r n }:=by
 cases o <;> first | (exact absurd rfl (hc _ _ _)) | simp [setObj,Sem.run,h]
def opMapUpdate (P:Program) (h:AH) (t:TypeId) (x k v:Value):Option AH :=
 match P.underlying t,x with
 | some (.map kt _),.map (some b)=>match h.get b with
  | some (.map es clock,s)=>match opFind P kt k es false with
   | some (some (i,_))=>match es[i]? with
    | some e=>if plain e.key && Instr.sameBits 10000 e.key k then some (h.put b (some (.map (es.modify i fun e=>{ e with key:=k,val:=v }) clock,s))) else none
    | none=>none
   | some none=>some (h.put b (some (.map (es.push { key:=k,val:=v,born:=clock }) (clock + 1),s)))
   | none=>none
  | _=>none
 | _,_=>none
theorem opMapUpdate_run {P:Program} {E:Ren} {h h':AH} {w:World} (r:RW P E h w) {t:TypeId} {x x' k k' v v':Value} (hh:opMapUpdate P h t x k v=some h') (hx:RV E x x') (hk:RV E k k') (hv:RV E v v') :
  ∃ w',(Instr.mapUpdate t x' k' v').run P w=.ok () w'∧RW P E h' w'∧Ext E w E w':=by
 unfold opMapUpdate at hh
 split at hh
 case h_2=>cases hh
 rename_i kt elem b hu
 split at hh
 case h_2=>cases hh
 rename_i es clock s hg
 cases hx with
 | map hat =>
  obtain ⟨es',g1,g2,g3⟩:=r.map hg hat
  have hobj:=getObj_run (P:=P) g1 (by intro _ _ _ hc;cases hc)
  have hset:=fun n=>setObj_run (P:=P) (n:=n) g1 (by intro _ _ _ hc;cases hc)
  split at hh
  ·rename_i i u hf
   obtain ⟨rfl,c1,r',c2,c3⟩:=opFind_run (es':=es') hf hk g2 g3 w
   rcases c3 with ⟨e,_⟩ | ⟨j',u0,u',e1,rfl,_⟩
   ·cases e
   ·cases e1
    split at hh
    ·rename_i e he
     split at hh
     ·rename_i hp
      simp only [Bool.and_eq_true] at hp
      cases hh
      have hlt:i < es'.size:=by rw [← g2];exact (Array.getElem?_eq_some_iff.1 he).1
      have he':es'[i]?=some es'[i]:=Array.getElem?_eq_getElem hlt
      obtain ⟨k1,_,_⟩:=g3 i e es'[i] he he'
      have hkey:=RV.eq_of_plain hp.1 k1
      have hstay:(Instr.keyThatStays es'[i].key k').run P w=.ok k' w:=by
       rw [hkey];simp [Instr.keyThatStays,hp.2]
      refine ⟨_,?_,r.put hg rfl hat (o':=.map (es'.modify i fun e=>{ e with key:=k',val:=v' }) clock) (.map clock (by simp [g2]) fun j a c ha hc=>?_)⟩
      ·simp only [Instr.mapUpdate,Sem.run_bind,und_run hu,Result.andThen_ok,hobj,c1,c2,he',Option.map_some,Option.getD_some,hstay,hset]
      ·rw [Array.getElem?_modify] at ha hc
       split at ha
       ·rename_i e
        rw [if_pos e] at hc
        rw [Option.map_eq_some_iff] at ha hc
        obtain ⟨a0,a1,rfl⟩:=ha
        obtain ⟨c0,c1,rfl⟩:=hc
        exact ⟨hk,hv,(g3 j a0 c0 a1 c1).2.2⟩
       ·rename_i e
        rw [if_neg e] at hc
        exact g3 j a c ha hc
     ·cases hh
    ·cases hh
  ·rename_i hf
   obtain ⟨rfl,c1,r',c2,c3⟩:=opFind_run (es':=es') hf hk g2 g3 w
   rcases c3 with ⟨_,rfl⟩ | ⟨j',u0,u',e1,_⟩
   ·cases hh
    refine ⟨_,?_,r.put hg rfl hat (o':=.map (es'.push { key:=k',val:=v',born:=clock }) (clock + 1)) (.map (clock + 1) (by simp [g2]) fun j a c ha hc=>?_)⟩
    ·simp only [Instr.mapUpdate,Sem.run_bind,und_run hu,Result.andThen_ok,hobj,c1,c2,hset]
    ·rw [Array.getElem?_push] at ha hc
     rw [← g2] at hc
     split at ha
     ·rename_i e
      rw [if_pos e] at hc
      cases ha;cases hc
      exact ⟨hk,hv,rfl⟩
     ·rename_i e
      rw [if_neg e] at hc
      exact g3 j a c ha hc
   ·cases e1
  ·cases hh
def opDelete (P:Program) (h:AH) (t:TypeId) (x k:Value):Option AH :=
 match P.underlying t,x with
 | some (.map kt _),.map none=>if plain k then match flat P (Instr.checkKey true 10000 kt k) with
  | some ()=>some h
  | none=>none
  else none
 | some (.map kt _),.map (some b)=>match h.get b with
  | some (.map es clock,s)=>match opFind P kt k es es.isEmpty with
   | some (some (i,_))=>some (h.put b (some (.map (es.eraseIdxIfInBounds i) clock,s)))
   | some none=>some (h.put b (some (.map es clock,s)))
   | none=>none
  | _=>none
 | _,_=>none
end Go.Ab
end
