import Derived.Test.YtnaenhkldanjbaaDoorZ18
set_option linter.unusedVariables false
set_option linter.unusedSimpArgs false
section
namespace Go.Lang
def eqT (a b:ByteArray):Bool:=a.toList == b.toList
structure Tok where
 cls:Nat
 at_:Nat
 text:ByteArray
inductive Expr where
 | mk (op:ByteArray) (at_ num:Nat) (text:ByteArray) (args:List Expr)
inductive Stmt where
 | mk (op name:ByteArray) (a b:Expr) (body els:List Stmt)
structure Prog where
 map:List Stmt
 combine:List Stmt
 reduce:List Stmt
 combines:Bool
 parts:Bool
 part:Expr
def empty:ByteArray:=⟨#[]⟩
def Expr.zero:Expr:=.mk empty 0 0 empty []
def Expr.at_:Expr→Nat | .mk _ a _ _ _=>a
def blank (c:UInt8):Bool:=c == 32 || c == 9 || c == 10 || c == 13
def letter (c:UInt8):Bool:=(97 ≤ c && c ≤ 122) || (65 ≤ c && c ≤ 90)
def digit (c:UInt8):Bool:=48 ≤ c && c ≤ 57
def alnum (c:UInt8):Bool:=letter c || digit c
def isMark (c:UInt8):Bool:=c == 123 || c == 125 || c == 40 || c == 41 || c == 44 || c == 59 || c == 61
def span (p:UInt8→Bool) (s:ByteArray):Nat→Nat→Nat
 | 0,i=>i
 | n + 1,i=>if i < s.size then (if p s[i]! then span p s n (i + 1) else i) else i
def esc (c:UInt8):Option UInt8:=if c == 34 then some 34 else if c == 92 then some 92 else if c == 110 then some 10 else if c == 116 then some 9 else none
def quotedF (s:ByteArray):Nat→Nat→List UInt8→Option (List UInt8 × Nat)
 | 0,_,_=>none
 | n + 1,i,acc =>
  if i < s.size then
   let c:=s[i]!
   if c == 34 then some (acc,i + 1)
   else if c < 32 || 126 < c then none
   else if c == 92 then
    if i + 1 < s.size then match esc s[i + 1]! with
     | some d=>quotedF s n (i + 2) (acc++[d])
     | none=>none
    else none
   else quotedF s n (i + 1) (acc++[c])
  else none
def tokF (s:ByteArray) (i:Nat):Option (Tok × Nat) :=
 let c:=s[i]!
 if letter c then let k:=span alnum s s.size (i + 1);some (⟨1,i,s.extract i k⟩,k)
 else if digit c then
  let k:=span digit s s.size (i + 1)
  if 9 < k - i || (1 < k - i && c == 48) then none else some (⟨2,i,s.extract i k⟩,k)
 else if c == 34 then match quotedF s s.size (i + 1) [] with
  | some (l,k)=>some (⟨3,i,⟨l.toArray⟩⟩,k)
  | none=>none
 else if isMark c then some (⟨4,i,s.extract i (i + 1)⟩,i + 1)
 else none
def scanF (s:ByteArray):Nat→Nat→Except Nat (List Tok)
 | 0,i=>.error i
 | n + 1,i =>
  if i < s.size then
   if blank s[i]! then scanF s n (i + 1)
   else match tokF s i with
    | none=>.error i
    | some (t,k)=>match scanF s n k with
     | .ok l=>.ok (t::l)
     | .error e=>.error e
  else .ok [⟨0,s.size,empty⟩]
abbrev R:=Except (Nat × Nat)
abbrev Var:=ByteArray × Nat
abbrev wMap:ByteArray:=⟨#[109,97,112]⟩
abbrev wCombine:ByteArray:=⟨#[99,111,109,98,105,110,101]⟩
abbrev wReduce:ByteArray:=⟨#[114,101,100,117,99,101]⟩
abbrev wPart:ByteArray:=⟨#[112,97,114,116]⟩
abbrev wEmit:ByteArray:=⟨#[101,109,105,116]⟩
abbrev wLet:ByteArray:=⟨#[108,101,116]⟩
abbrev wIf:ByteArray:=⟨#[105,102]⟩
abbrev wElse:ByteArray:=⟨#[101,108,115,101]⟩
abbrev wEach:ByteArray:=⟨#[101,97,99,104]⟩
abbrev wIn:ByteArray:=⟨#[105,110]⟩
abbrev wBy:ByteArray:=⟨#[98,121]⟩
abbrev wFor:ByteArray:=⟨#[102,111,114]⟩
abbrev wKey:ByteArray:=⟨#[107,101,121]⟩
abbrev wValue:ByteArray:=⟨#[118,97,108,117,101]⟩
abbrev wValues:ByteArray:=⟨#[118,97,108,117,101,115]⟩
abbrev wParts:ByteArray:=⟨#[112,97,114,116,115]⟩
abbrev wNumber:ByteArray:=⟨#[110,117,109,98,101,114]⟩
abbrev wString:ByteArray:=⟨#[115,116,114,105,110,103]⟩
abbrev wVar:ByteArray:=⟨#[118,97,114]⟩
def words:List ByteArray:=[wMap,wCombine,wReduce,wPart,wEmit,wLet,wIf,wElse,wEach,wIn,wBy,wFor]
structure Sig where
 name:ByteArray
 args:ByteArray
 ans:ByteArray
abbrev kN:Nat:=110
abbrev kT:Nat:=116
abbrev kL:Nat:=108
def sigs:List Sig:=[
 ⟨⟨#[97,100,100]⟩,⟨#[110,110]⟩,⟨#[110]⟩⟩,
 ⟨⟨#[115,117,98]⟩,⟨#[110,110]⟩,⟨#[110]⟩⟩,
 ⟨⟨#[109,117,108]⟩,⟨#[110,110]⟩,⟨#[110]⟩⟩,
 ⟨⟨#[100,105,118]⟩,⟨#[110,110]⟩,⟨#[110]⟩⟩,
 ⟨⟨#[108,101,110]⟩,⟨#[116]⟩,⟨#[110]⟩⟩,
 ⟨⟨#[110,117,109]⟩,⟨#[116]⟩,⟨#[110]⟩⟩,
 ⟨⟨#[116,101,120,116]⟩,⟨#[110]⟩,⟨#[116]⟩⟩,
 ⟨⟨#[99,97,116]⟩,⟨#[116,116]⟩,⟨#[116]⟩⟩,
 ⟨⟨#[99,117,116]⟩,⟨#[116,110,110]⟩,⟨#[116]⟩⟩,
 ⟨⟨#[117,112,112,101,114]⟩,⟨#[116]⟩,⟨#[116]⟩⟩,
 ⟨⟨#[108,111,119,101,114]⟩,⟨#[116]⟩,⟨#[116]⟩⟩,
 ⟨⟨#[101,113]⟩,⟨#[116,116]⟩,⟨#[110]⟩⟩,
 ⟨⟨#[108,101,115,115]⟩,⟨#[116,116]⟩,⟨#[110]⟩⟩,
 ⟨⟨#[108,116]⟩,⟨#[110,110]⟩,⟨#[110]⟩⟩,
 ⟨⟨#[110,111,116]⟩,⟨#[110]⟩,⟨#[110]⟩⟩,
 ⟨⟨#[97,110,100]⟩,⟨#[110,110]⟩,⟨#[110]⟩⟩,
 ⟨⟨#[111,114]⟩,⟨#[110,110]⟩,⟨#[110]⟩⟩,
 ⟨⟨#[115,117,109]⟩,⟨#[108]⟩,⟨#[110]⟩⟩,
 ⟨⟨#[99,111,117,110,116]⟩,⟨#[108]⟩,⟨#[110]⟩⟩,
 ⟨⟨#[102,105,114,115,116]⟩,⟨#[108]⟩,⟨#[116]⟩⟩,
 ⟨⟨#[108,97,115,116]⟩,⟨#[108]⟩,⟨#[116]⟩⟩,
 ⟨⟨#[106,111,105,110]⟩,⟨#[108,116]⟩,⟨#[116]⟩⟩,
 ⟨⟨#[109,97,120]⟩,⟨#[108]⟩,⟨#[110]⟩⟩,
 ⟨⟨#[109,105,110]⟩,⟨#[108]⟩,⟨#[110]⟩⟩]
def findS (f:ByteArray) (l:List Sig):Option Sig:=l.find? fun s=>eqT s.name f
def isT (ts:List Tok) (c:Nat) (x:ByteArray):Bool:=match ts with
 | t::_=>t.cls == c && eqT t.text x
 | []=>false
def headAt:List Tok→Nat
 | t::_=>t.at_
 | []=>0
def want (c:Nat) (x:ByteArray) (ts:List Tok):R (List Tok):=if isT ts c x then .ok ts.tail else .error (161,headAt ts)
def isWord (t:ByteArray):Bool:=words.any fun w=>eqT w t
def fresh (ts:List Tok):R (Tok × List Tok):=match ts with
 | t::r=>if t.cls != 1 || isWord t.text then .error (161,t.at_) else .ok (t,r)
 | []=>.error (0,0)
def kindOf (vs:List Var) (x:ByteArray):Option Nat:=(vs.find? fun v=>eqT v.1 x).map (·.2)
def num (t:ByteArray):Nat:=t.data.toList.foldl (fun n c=>10 * n + (c.toNat - 48)) 0
abbrev mLp:ByteArray:=⟨#[40]⟩
abbrev mRp:ByteArray:=⟨#[41]⟩
abbrev mLb:ByteArray:=⟨#[123]⟩
abbrev mRb:ByteArray:=⟨#[125]⟩
abbrev mComma:ByteArray:=⟨#[44]⟩
abbrev mSemi:ByteArray:=⟨#[59]⟩
abbrev mEq:ByteArray:=⟨#[61]⟩
def ofK (rd:List Tok→R ((Expr × Nat) × List Tok)) (k:Nat) (ts:List Tok):R (Expr × List Tok) :=
 match rd ts with
 | .ok ((e,k'),r)=>if k' == k then .ok (e,r) else .error (163,headAt ts)
 | .error f=>.error f
def argsF (rd:List Tok→R ((Expr × Nat) × List Tok)):List UInt8→Bool→List Tok→R (List Expr × List Tok)
 | [],_,ts=>.ok ([],ts)
 | k::ks,first,ts =>
  match (if first then Except.ok ts else want 4 mComma ts) with
  | .error f=>.error f
  | .ok ts=>match ofK rd k.toNat ts with
   | .error f=>.error f
   | .ok (e,ts)=>match argsF rd ks false ts with
    | .error f=>.error f
    | .ok (es,ts)=>.ok (e::es,ts)
def callF (rd:List Tok→R ((Expr × Nat) × List Tok)) (calls:Nat) (t:Tok) (ts:List Tok):R ((Expr × Nat) × List Tok) :=
 if 8 ≤ calls then .error (164,headAt ts)
 else match findS t.text sigs with
  | none=>.error (162,t.at_)
  | some s=>match argsF rd s.args.data.toList true ts.tail with
   | .error f=>.error f
   | .ok (es,ts)=>match want 4 mRp ts with
    | .error f=>.error f
    | .ok ts=>.ok ((.mk t.text t.at_ 0 empty es,(s.ans[0]!).toNat),ts)
def exprF:Nat→Nat→List Var→List Tok→R ((Expr × Nat) × List Tok)
 | 0,_,_,_=>.error (0,0)
 | n + 1,calls,vs,ts=>match ts with
  | []=>.error (0,0)
  | t::r =>
   if t.cls == 2 then .ok ((.mk wNumber t.at_ (num t.text) empty [],kN),r)
   else if t.cls == 3 then .ok ((.mk wString t.at_ 0 t.text [],kT),r)
   else match fresh (t::r) with
    | .error f=>.error f
    | .ok (t,r) =>
     if isT r 4 mLp then callF (exprF n (calls + 1) vs) calls t r
     else match kindOf vs t.text with
      | some k=>.ok ((.mk wVar t.at_ 0 t.text [],k),r)
      | none=>.error (162,t.at_)
def expr0 (vs:List Var) (ts:List Tok):R ((Expr × Nat) × List Tok):=exprF ts.length 0 vs ts
def unboundF (vs:List Var) (ts:List Tok):R (ByteArray × List Tok):=match fresh ts with
 | .error f=>.error f
 | .ok (t,r)=>if (kindOf vs t.text).isSome then .error (162,t.at_) else .ok (t.text,r)
def blockG (rd:Nat→Nat→List Var→List Tok→R (List Stmt × List Tok)) (b l:Nat) (loop:Bool) (vs:List Var) (ts:List Tok):R (List Stmt × List Tok) :=
 if isT ts 4 mLb && (8 ≤ b || (loop && 2 ≤ l)) then .error (164,headAt ts)
 else match want 4 mLb ts with
  | .error f=>.error f
  | .ok ts=>rd (b + 1) (if loop then l + 1 else l) vs ts
def emitF (vs:List Var) (ts:List Tok):R (Stmt × List Tok) :=
 match ofK (expr0 vs) kT ts with
 | .error f=>.error f
 | .ok (a,ts)=>match want 4 mComma ts with
  | .error f=>.error f
  | .ok ts=>match ofK (expr0 vs) kT ts with
   | .error f=>.error f
   | .ok (b,ts)=>match want 4 mSemi ts with
    | .error f=>.error f
    | .ok ts=>.ok (.mk wEmit empty a b [] [],ts)
def letF (vs:List Var) (ts:List Tok):R ((Stmt × Var) × List Tok) :=
 match unboundF vs ts with
 | .error f=>.error f
 | .ok (x,ts)=>match want 4 mEq ts with
  | .error f=>.error f
  | .ok ts=>match expr0 vs ts with
   | .error f=>.error f
   | .ok ((e,k),ts)=>match want 4 mSemi ts with
    | .error f=>.error f
    | .ok ts=>.ok ((.mk wLet x e .zero [] [],(x,k)),ts)
abbrev BlockRd:=Bool→List Var→List Tok→R (List Stmt × List Tok)
def ifF (blk:BlockRd) (vs:List Var) (ts:List Tok):R (Stmt × List Tok) :=
 match ofK (expr0 vs) kN ts with
 | .error f=>.error f
 | .ok (a,ts)=>match blk false vs ts with
  | .error f=>.error f
  | .ok (b,ts) =>
   if isT ts 1 wElse then match blk false vs ts.tail with
    | .error f=>.error f
    | .ok (c,ts)=>.ok (.mk wIf empty a .zero b c,ts)
   else .ok (.mk wIf empty a .zero b [],ts)
def forF (blk:BlockRd) (vs:List Var) (ts:List Tok):R (Stmt × List Tok) :=
 match unboundF vs ts with
 | .error f=>.error f
 | .ok (x,ts)=>match want 1 wIn ts with
  | .error f=>.error f
  | .ok ts=>match ofK (expr0 vs) kL ts with
   | .error f=>.error f
   | .ok (a,ts)=>match blk true (vs++[(x,kT)]) ts with
    | .error f=>.error f
    | .ok (b,ts)=>.ok (.mk wFor x a .zero b [],ts)
def eachF (blk:BlockRd) (vs:List Var) (ts:List Tok):R (Stmt × List Tok) :=
 match unboundF vs ts with
 | .error f=>.error f
 | .ok (x,ts)=>match want 1 wIn ts with
  | .error f=>.error f
  | .ok ts=>match ofK (expr0 vs) kT ts with
   | .error f=>.error f
   | .ok (a,ts)=>match want 1 wBy ts with
    | .error f=>.error f
    | .ok ts=>match ofK (expr0 vs) kT ts with
     | .error f=>.error f
     | .ok (b,ts)=>match blk true (vs++[(x,kT)]) ts with
      | .error f=>.error f
      | .ok (c,ts)=>.ok (.mk wEach x a b c [],ts)
def stmtF (blk:BlockRd) (vs:List Var) (ts:List Tok):R ((Stmt × List Var) × List Tok):=match ts with
 | []=>.error (0,0)
 | t::r =>
  if t.cls != 1 then .error (161,t.at_)
  else if eqT t.text wEmit then (emitF vs r).map fun p=>((p.1,vs),p.2)
  else if eqT t.text wLet then (letF vs r).map fun p=>((p.1.1,vs++[p.1.2]),p.2)
  else if eqT t.text wIf then (ifF blk vs r).map fun p=>((p.1,vs),p.2)
  else if eqT t.text wEach then (eachF blk vs r).map fun p=>((p.1,vs),p.2)
  else if eqT t.text wFor then (forF blk vs r).map fun p=>((p.1,vs),p.2)
  else .error (161,t.at_)
def stmtsF:Nat→Nat→Nat→List Var→List Tok→R (List Stmt × List Tok)
 | 0,_,_,_,_=>.error (0,0)
 | n + 1,b,l,vs,ts =>
  if isT ts 4 mRb then .ok ([],ts.tail)
  else match stmtF (blockG (stmtsF n) b l) vs ts with
   | .error f=>.error f
   | .ok ((s,vs),ts)=>match stmtsF n b l vs ts with
    | .error f=>.error f
    | .ok (ss,ts)=>.ok (s::ss,ts)
def block0 (vs:List Var) (ts:List Tok):R (List Stmt × List Tok):=blockG (stmtsF ts.length) 0 0 false vs ts
def manyV:List Var:=[(wKey,kT),(wValues,kL)]
def partE (p:Prog) (ts:List Tok):R (Prog × List Tok) :=
 if isT ts 1 wPart then match ofK (expr0 [(wKey,kT),(wParts,kN)]) kN ts.tail with
  | .error f=>.error f
  | .ok (e,ts)=>match want 4 mSemi ts with
   | .error f=>.error f
   | .ok ts=>.ok ({ p with parts:=true,part:=e },ts)
 else .ok (p,ts)
def partF (p:Prog) (ts:List Tok):R Prog :=
 match partE p ts with
 | .error f=>.error f
 | .ok (p,ts)=>match want 0 empty ts with
  | .error f=>.error f
  | .ok _=>.ok p
def reduceF (p:Prog) (ts:List Tok):R Prog :=
 match want 1 wReduce ts with
 | .error f=>.error f
 | .ok ts=>match block0 manyV ts with
  | .error f=>.error f
  | .ok (l,ts)=>partF { p with reduce:=l } ts
def programF (ts:List Tok):R Prog :=
 match want 1 wMap ts with
 | .error f=>.error f
 | .ok ts=>match block0 [(wKey,kT),(wValue,kT)] ts with
  | .error f=>.error f
  | .ok (m,ts) =>
   if isT ts 1 wCombine then match block0 manyV ts.tail with
    | .error f=>.error f
    | .ok (c,ts)=>reduceF ⟨m,c,[],true,false,.zero⟩ ts
   else reduceF ⟨m,[],[],false,false,.zero⟩ ts
def parseF (s:ByteArray):R Prog :=
 if 4096 < s.size then .error (1,0)
 else match scanF s (s.size + 1) 0 with
  | .error i=>.error (160,i)
  | .ok ts=>programF ts
end Go.Lang
end
section
namespace Go.Lang
def isDigits (t:ByteArray):Prop:=0 < t.size∧t.size ≤ 9∧∀ c ∈ t.data.toList,digit c=true
def isName (t:ByteArray):Prop:=∀ c ∈ t.data.toList,alnum c=true
structure TokGood (t:Tok):Prop where
 cls:t.cls ≠ 0
 le:t.cls ≤ 4
 at_:t.at_ ≤ 4096
 name:t.cls=1→isName t.text
 num:t.cls=2→isDigits t.text
 size:t.text.size ≤ 4096
inductive TokOK:List Tok→Prop
 | one (e:Tok) (h:e.cls=0) (ht:e.text=empty) (ha:e.at_ ≤ 4096):TokOK [e]
 | cons {t:Tok} {ts:List Tok} (h:TokGood t) (hs:TokOK ts):TokOK (t::ts)
theorem TokOK.ne {ts:List Tok} (h:TokOK ts):ts ≠ []:=by cases h <;> simp
theorem TokOK.pos {ts:List Tok} (h:TokOK ts):0 < ts.length:=List.length_pos_iff.2 h.ne
theorem TokOK.tail {t:Tok} {ts:List Tok} (h:TokOK (t::ts)) (hc:t.cls ≠ 0):TokOK ts:=by
 cases h with
 | one _ h=>exact absurd h hc
 | cons _ hs=>exact hs
theorem TokOK.good {t:Tok} {ts:List Tok} (h:TokOK (t::ts)) (hc:t.cls ≠ 0):TokGood t:=by
 cases h with
 | one _ h=>exact absurd h hc
 | cons h hs=>exact h
theorem TokOK.head {ts:List Tok} (h:TokOK ts):∃ t r,ts=t::r∧t.at_ ≤ 4096∧t.cls ≤ 4:=by
 cases h with
 | one e h ht ha=>exact ⟨e,[],rfl,ha,by omega⟩
 | cons h hs=>exact ⟨_,_,rfl,h.at_,h.le⟩
def Shr (ts r:List Tok):Prop:=TokOK r∧r.length < ts.length
theorem Shr.trans {a b c:List Tok} (x:Shr a b) (y:Shr b c):Shr a c:=⟨y.1,Nat.lt_trans y.2 x.2⟩
theorem Shr.of_tail {t:Tok} {ts:List Tok} (h:TokOK (t::ts)) (hc:t.cls ≠ 0):Shr (t::ts) ts:=⟨h.tail hc,by simp⟩
theorem isT_cls {ts:List Tok} {c:Nat} {x:ByteArray} (h:isT ts c x=true):∃ t r,ts=t::r∧t.cls=c:=by
 cases ts with
 | nil=>cases h
 | cons t r=>simp only [isT,Bool.and_eq_true,beq_iff_eq] at h;exact ⟨t,r,rfl,h.1⟩
theorem isT_shr {ts:List Tok} {c:Nat} {x:ByteArray} (h:isT ts c x=true) (hc:c ≠ 0) (ok:TokOK ts):Shr ts ts.tail:=by
 obtain ⟨t,r,rfl,h1⟩:=isT_cls h
 exact Shr.of_tail ok (by rw [h1];exact hc)
theorem want_shr {ts r:List Tok} {c:Nat} {x:ByteArray} (h:want c x ts=.ok r) (hc:c ≠ 0) (ok:TokOK ts):Shr ts r:=by
 unfold want at h
 split at h
 ·cases h;rename_i h1;exact isT_shr h1 hc ok
 ·cases h
theorem fresh_shr {ts r:List Tok} {t:Tok} (h:fresh ts=.ok (t,r)) (ok:TokOK ts):ts=t::r∧t.cls=1∧isWord t.text=false∧Shr ts r:=by
 cases ts with
 | nil=>cases h
 | cons u r' =>
  simp only [fresh] at h
  split at h
  ·cases h
  ·rename_i h1
   cases h
   simp only [bne_iff_ne,ne_eq,Bool.or_eq_true,not_or,Decidable.not_not,Bool.not_eq_true] at h1
   exact ⟨rfl,h1.1,h1.2,Shr.of_tail ok (by omega)⟩
theorem unbound_shr {vs:List Var} {ts r:List Tok} {x:ByteArray} (h:unboundF vs ts=.ok (x,r)) (ok:TokOK ts):Shr ts r:=by
 unfold unboundF at h
 split at h
 ·cases h
 ·rename_i t r' h1
  split at h
  ·cases h
  ·cases h;exact (fresh_shr h1 ok).2.2.2
abbrev ExprRd:=List Tok→R ((Expr × Nat) × List Tok)
def RdOK (rd:ExprRd):Prop:=∀ ts e k r,TokOK ts→rd ts=.ok ((e,k),r)→Shr ts r∧e.at_=headAt ts∧k < 256
theorem ofK_shr {rd:ExprRd} (hr:RdOK rd) {k:Nat} {ts r:List Tok} {e:Expr} (ok:TokOK ts) (h:ofK rd k ts=.ok (e,r)):Shr ts r:=by
 unfold ofK at h
 split at h
 ·rename_i e' k' r' h1
  split at h
  ·cases h;exact (hr _ _ _ _ ok h1).1
  ·cases h
 ·cases h
theorem argsF_shr {rd:ExprRd} (hr:RdOK rd):∀ {ks:List UInt8} {first:Bool} {ts r:List Tok} {es:List Expr},TokOK ts→argsF rd ks first ts=.ok (es,r)→TokOK r∧r.length ≤ ts.length:=by
 intro ks
 induction ks with
 | nil=>intro first ts r es ok h;cases h;exact ⟨ok,Nat.le_refl _⟩
 | cons k ks ih =>
  intro first ts r es ok h
  simp only [argsF] at h
  split at h
  ·cases h
  ·rename_i ts1 h1
   have ok1:TokOK ts1∧ts1.length ≤ ts.length:=by
    cases first with
    | true=>cases h1;exact ⟨ok,Nat.le_refl _⟩
    | false =>
     have:=want_shr h1 (by omega) ok
     exact ⟨this.1,Nat.le_of_lt this.2⟩
   split at h
   ·cases h
   ·rename_i e ts2 h2
    have s2:=ofK_shr hr ok1.1 h2
    split at h
    ·cases h
    ·rename_i es' ts3 h3
     cases h
     have s3:=ih s2.1 h3
     exact ⟨s3.1,by have:=s2.2;omega⟩
theorem sigs_ans {f:ByteArray} {s:Sig} (h:findS f sigs=some s):(s.ans[0]!).toNat < 256:=UInt8.toNat_lt _
theorem callF_shr {rd:ExprRd} (hr:RdOK rd) {c:Nat} {t:Tok} {ts r:List Tok} {e:Expr} {k:Nat} (ok:TokOK ts.tail) (hp:0 < ts.length) (h:callF rd c t ts=.ok ((e,k),r)):Shr ts r∧e.at_=t.at_∧k < 256:=by
 unfold callF at h
 split at h
 ·cases h
 ·split at h
  ·cases h
  ·rename_i s hs
   split at h
   ·cases h
   ·rename_i es ts1 h1
    have s1:=argsF_shr hr ok h1
    split at h
    ·cases h
    ·rename_i ts2 h2
     have s2:=want_shr h2 (by omega) s1.1
     cases h
     refine ⟨⟨s2.1,?_⟩,rfl,UInt8.toNat_lt _⟩
     have:=s2.2
     have:=s1.2
     simp at this
     omega
theorem exprF_ok:∀ (n c:Nat) {vs:List Var},(∀ v ∈ vs,v.2 < 256)→RdOK (exprF n c vs):=by
 intro n
 induction n with
 | zero=>intro c vs hv ts e k r ok h;cases h
 | succ n ih =>
  intro c vs hv ts e k r ok h
  cases ts with
  | nil=>cases h
  | cons t r0 =>
   simp only [exprF] at h
   split at h
   ·rename_i h2
    cases h
    exact ⟨Shr.of_tail ok (by simp at h2;omega),rfl,by decide⟩
   ·split at h
    ·rename_i h2
     cases h
     exact ⟨Shr.of_tail ok (by simp at h2;omega),rfl,by decide⟩
    ·split at h
     ·cases h
     ·rename_i t' r' h1
      obtain ⟨e1,e2,_,s1⟩:=fresh_shr h1 ok
      cases e1
      split at h
      ·rename_i h3
       have s3:=isT_shr h3 (by omega) s1.1
       have:=callF_shr (ih (c + 1) hv) s3.1 s1.1.pos h
       exact ⟨s1.trans this.1,this.2.1,this.2.2⟩
      ·split at h
       ·rename_i k' hk
        cases h
        refine ⟨s1,rfl,?_⟩
        unfold kindOf at hk
        obtain ⟨v,hv1,rfl⟩:=Option.map_eq_some_iff.1 hk
        exact hv v (List.mem_of_find?_eq_some hv1)
       ·cases h
def VsOK (vs:List Var):Prop:=∀ v ∈ vs,v.2 < 256
theorem VsOK.append {a b:List Var} (x:VsOK a) (y:VsOK b):VsOK (a++b):=fun v hv=>(List.mem_append.1 hv).elim (x v) (y v)
theorem VsOK.one {x:ByteArray} {k:Nat} (h:k < 256):VsOK [(x,k)]:=fun v hv=>by rw [List.mem_singleton.1 hv];exact h
theorem expr0_ok {vs:List Var} (hv:VsOK vs):RdOK (expr0 vs):=fun ts e k r ok h=>exprF_ok _ _ hv ts e k r ok h
def BlkOK (blk:BlockRd):Prop:=∀ l vs ts b r,VsOK vs→TokOK ts→blk l vs ts=.ok (b,r)→Shr ts r
theorem emitF_shr {vs:List Var} {ts r:List Tok} {s:Stmt} (hv:VsOK vs) (ok:TokOK ts) (h:emitF vs ts=.ok (s,r)):Shr ts r:=by
 unfold emitF at h
 split at h
 ·cases h
 ·rename_i a t1 h1
  have s1:=ofK_shr (expr0_ok hv) ok h1
  split at h
  ·cases h
  ·rename_i t2 h2
   have s2:=want_shr h2 (by omega) s1.1
   split at h
   ·cases h
   ·rename_i b t3 h3
    have s3:=ofK_shr (expr0_ok hv) s2.1 h3
    split at h
    ·cases h
    ·rename_i t4 h4
     have s4:=want_shr h4 (by omega) s3.1
     cases h
     exact s1.trans (s2.trans (s3.trans s4))
theorem letF_shr {vs:List Var} {ts r:List Tok} {s:Stmt} {v:Var} (hv:VsOK vs) (ok:TokOK ts) (h:letF vs ts=.ok ((s,v),r)):Shr ts r∧v.2 < 256:=by
 unfold letF at h
 split at h
 ·cases h
 ·rename_i x t1 h1
  have s1:=unbound_shr h1 ok
  split at h
  ·cases h
  ·rename_i t2 h2
   have s2:=want_shr h2 (by omega) s1.1
   split at h
   ·cases h
   ·rename_i e k t3 h3
    have s3:=expr0_ok hv _ _ _ _ s2.1 h3
    split at h
    ·cases h
    ·rename_i t4 h4
     have s4:=want_shr h4 (by omega) s3.1.1
     cases h
     exact ⟨s1.trans (s2.trans (s3.1.trans s4)),s3.2.2⟩
theorem ifF_shr {blk:BlockRd} (hb:BlkOK blk) {vs:List Var} {ts r:List Tok} {s:Stmt} (hv:VsOK vs) (ok:TokOK ts) (h:ifF blk vs ts=.ok (s,r)):Shr ts r:=by
 unfold ifF at h
 split at h
 ·cases h
 ·rename_i a t1 h1
  have s1:=ofK_shr (expr0_ok hv) ok h1
  split at h
  ·cases h
  ·rename_i b t2 h2
   have s2:=hb _ _ _ _ _ hv s1.1 h2
   split at h
   ·rename_i he
    have s3:=isT_shr he (by omega) s2.1
    split at h
    ·cases h
    ·rename_i c t4 h4
     have s4:=hb _ _ _ _ _ hv s3.1 h4
     cases h
     exact s1.trans (s2.trans (s3.trans s4))
   ·cases h
    exact s1.trans s2
theorem forF_shr {blk:BlockRd} (hb:BlkOK blk) {vs:List Var} {ts r:List Tok} {s:Stmt} (hv:VsOK vs) (ok:TokOK ts) (h:forF blk vs ts=.ok (s,r)):Shr ts r:=by
 unfold forF at h
 split at h
 ·cases h
 ·rename_i x t1 h1
  have s1:=unbound_shr h1 ok
  split at h
  ·cases h
  ·rename_i t2 h2
   have s2:=want_shr h2 (by omega) s1.1
   split at h
   ·cases h
   ·rename_i a t3 h3
    have s3:=ofK_shr (expr0_ok hv) s2.1 h3
    split at h
    ·cases h
    ·rename_i b t4 h4
     have s4:=hb _ _ _ _ _ (hv.append (.one (by decide))) s3.1 h4
     cases h
     exact s1.trans (s2.trans (s3.trans s4))
theorem eachF_shr {blk:BlockRd} (hb:BlkOK blk) {vs:List Var} {ts r:List Tok} {s:Stmt} (hv:VsOK vs) (ok:TokOK ts) (h:eachF blk vs ts=.ok (s,r)):Shr ts r:=by
 unfold eachF at h
 split at h
 ·cases h
 ·rename_i x t1 h1
  have s1:=unbound_shr h1 ok
  split at h
  ·cases h
  ·rename_i t2 h2
   have s2:=want_shr h2 (by omega) s1.1
   split at h
   ·cases h
   ·rename_i a t3 h3
    have s3:=ofK_shr (expr0_ok hv) s2.1 h3
    split at h
    ·cases h
    ·rename_i t4 h4
     have s4:=want_shr h4 (by omega) s3.1
     split at h
     ·cases h
     ·rename_i b t5 h5
      have s5:=ofK_shr (expr0_ok hv) s4.1 h5
      split at h
      ·cases h
      ·rename_i c t6 h6
       have s6:=hb _ _ _ _ _ (hv.append (.one (by decide))) s5.1 h6
       cases h
       exact s1.trans (s2.trans (s3.trans (s4.trans (s5.trans s6))))
theorem map_ok {α β:Type} {x:R α} {f:α→β} {y:β} (h:x.map f=.ok y):∃ z,x=.ok z∧y=f z:=by
 cases x with
 | error e=>cases h
 | ok z=>cases h;exact ⟨z,rfl,rfl⟩
theorem stmtF_shr {blk:BlockRd} (hb:BlkOK blk) {vs vs':List Var} {ts r:List Tok} {s:Stmt} (hv:VsOK vs) (ok:TokOK ts) (h:stmtF blk vs ts=.ok ((s,vs'),r)):Shr ts r∧VsOK vs'∧∃ m,vs' = vs++m∧m.length ≤ 1:=by
 cases ts with
 | nil=>cases h
 | cons t r0 =>
  simp only [stmtF] at h
  split at h
  ·cases h
  ·rename_i h1
   have s1:Shr (t::r0) r0:=Shr.of_tail ok (by simp at h1;omega)
   have fin:∀ {f:R (Stmt × List Tok)},(∀ x,f=.ok x→Shr r0 x.2)→f.map (fun p=>((p.1,vs),p.2))=.ok ((s,vs'),r)→Shr (t::r0) r∧VsOK vs'∧∃ m,vs' = vs++m∧m.length ≤ 1:=fun hf hm=>by
    obtain ⟨z,hz,e⟩:=map_ok hm
    cases e
    exact ⟨s1.trans (hf _ hz),hv,[],by simp,by simp⟩
   split at h
   ·exact fin (fun x hx=>emitF_shr hv s1.1 hx) h
   ·split at h
    ·obtain ⟨z,hz,e⟩:=map_ok h
     cases e
     have:=letF_shr hv s1.1 hz
     exact ⟨s1.trans this.1,hv.append (.one this.2),_,rfl,by simp⟩
    ·split at h
     ·exact fin (fun x hx=>ifF_shr hb hv s1.1 hx) h
     ·split at h
      ·exact fin (fun x hx=>eachF_shr hb hv s1.1 hx) h
      ·split at h
       ·exact fin (fun x hx=>forF_shr hb hv s1.1 hx) h
       ·cases h
theorem stmtsF_shr:∀ (n b l:Nat) {vs:List Var} {ts r:List Tok} {ss:List Stmt},VsOK vs→TokOK ts→stmtsF n b l vs ts=.ok (ss,r)→Shr ts r:=by
 intro n
 induction n with
 | zero=>intro b l vs ts r ss _ _ h;cases h
 | succ n ih =>
  intro b l vs ts r ss hv ok h
  simp only [stmtsF] at h
  split at h
  ·rename_i h1
   cases h
   exact isT_shr h1 (by omega) ok
  ·split at h
   ·cases h
   ·rename_i s vs' t1 h1
    have hb:BlkOK (blockG (stmtsF n) b l):=fun lp v t x y hv ok hh=>by
     unfold blockG at hh
     split at hh
     ·cases hh
     ·split at hh
      ·cases hh
      ·rename_i t2 h2
       exact (want_shr h2 (by omega) ok).trans (ih _ _ hv (want_shr h2 (by omega) ok).1 hh)
    obtain ⟨s1,hv',_⟩:=stmtF_shr hb hv ok h1
    split at h
    ·cases h
    ·rename_i ss' t2 h2
     cases h
     exact s1.trans (ih _ _ hv' s1.1 h2)
theorem blockG_ok (n b l:Nat):BlkOK (blockG (stmtsF n) b l):=fun lp v t x y hv ok hh=>by
 unfold blockG at hh
 split at hh
 ·cases hh
 ·split at hh
  ·cases hh
  ·rename_i t2 h2
   exact (want_shr h2 (by omega) ok).trans (stmtsF_shr _ _ _ hv (want_shr h2 (by omega) ok).1 hh)
end Go.Lang
end
section
namespace Go.Ab
structure Gr (e z:Nat) (h0 h:AH) (s:Value) (l:List Value):Prop where
 kp:Kp h0.size h0 h
 hld:Hld e z h h0.size s l
 lt:∀ k,blkOf s=some k→k < h.size
theorem Gr.nil {e z:Nat} {h:AH}:Gr e z h h (.slice none 0 0) []:=⟨Kp.refl _ _,.nil,fun k hk=>by cases hk⟩
theorem Gr.append1 {e z bytes:Nat} {zero v:Value} {h0 h:AH} {s:Value} {l:List Value} {c:Array Value} (g:Gr e z h0 h s l) (hc:v.cells=c) (hl:∀ v ∈ l,v.cells.size=z)
  (hv:c.size=z) (hone:∀ x ∈ c.toList,x.oneCell' = true) (hz:0 < z) (hb:0 < bytes) (hb':bytes < 1073741824) (hzero:zero.cells.size=z) (hs:(l.length + 1) * bytes < 1099511627776) :
  ∃ s' h',apT e z bytes (some zero) (h.push (.cells c e (0,0)) none) s (.slice (some ⟨h.size,0,none⟩) 1 1)=some (s',h')∧Gr e z h0 h' s' (l++[v]):=by
 obtain ⟨s',h',a1,a2,a3,a4,a5⟩:=g.hld.append1 hc g.lt g.kp.size hl hv hone hz hb hb' hzero hs
 have hk:=g.hld.key
 have hsz:=g.kp.size
 refine ⟨s',h',a1,⟨g.kp.trans ⟨a3,fun k hk2=>a4 k (by omega) fun e=>?_⟩,a2,fun k hk2=>?_⟩⟩
 ·have:=hk k e
  omega
 ·rcases a5 with e | ⟨j,e,e1,e2⟩
  ·rw [e] at hk2
   have:=g.lt k hk2
   omega
  ·rw [e] at hk2
   injection hk2 with hk2
   omega
theorem Ex.gr {P:Program} {f:FuncId} {args:Array Value} {h:AH} {e z:Nat} {l:List Value} (hz:0 < z) (hl:∀ v ∈ l,v.cells.size=z) (hb:∀ v ∈ flatC l,Below h.size v)
  (hh:HC P f args h fun r h₁=>∃ s,r=.ret s∧Gr e z h h₁ s l):Ex P f args h (slV l) h :=
 Ex.own hz hl hb (hh.mono fun r h₁ ⟨s,e1,g⟩=>⟨s,e1,g.hld,g.kp⟩)
end Go.Ab
end
section
namespace Go.Ab
inductive Pt (h:AH):Value→Array Value→Prop
 | fp (c:Array Value):Pt h (FPv c) c
 | ptr {k o n:Nat} {c:Array Value} {e:TypeId} {fz:Nat × Nat} {s:Option Nat} (hk:k < h.size) (hg:h.get k=some (.cells c e fz,s)) (hc:o + n ≤ c.size):Pt h (.pointer (some ⟨k,o,none⟩)) (c.extract o (o + n))
theorem Pt.ld1 {h:AH} {p:Value} {c:Array Value} (x:Pt h p c) (hc:0 < c.size):Ab.ld1 h p=c[0]?:=by
 cases x with
 | fp c=>rfl
 | ptr hk hg hc' =>
  rw [ld1_ptr,hg,rowC_cells,Option.bind_some,Array.getElem?_extract]
  simp at hc
  rw [if_pos (by omega),Nat.add_zero]
theorem Pt.ldN {h:AH} {p:Value} {c:Array Value} {n:Nat} (x:Pt h p c) (hc:c.size=n):Ab.ldN n h p=some (.agg c):=by
 cases x with
 | fp c =>
  rw [ldN_fp,if_pos (by omega)]
  congr 2
  rw [← hc];simp
 | ptr hk hg hc' =>
  rw [ldN_ptr,hg,rowC_cells,Option.bind_some]
  simp at hc
  rw [if_pos (by omega)]
  congr 3
  omega
structure Rd (h:AH) (z:Nat) (v:Value) (l:List Value):Prop where
 len:lenL v=some (.int .i64 l.length)
 el:∀ (i:Nat) (x:Value),l[i]?=some x→∃ p,ia z v (.int .i64 i)=some p∧Pt h p x.cells∧x.cells.size=z
theorem Rd.of_hld {e lo:Nat} {h:AH} {z:Nat} {v:Value} {l:List Value} (o:Hld e z h lo v l) (hz:∀ v ∈ l,v.cells.size=z) (hb:∀ k,blkOf v=some k→k < h.size):Rd h z v l:=by
 refine ⟨o.len,fun i x hx=>?_⟩
 have hxz:=hz x (List.mem_of_getElem? hx)
 have hi:=(List.getElem?_eq_some_iff.1 hx).1
 cases o with
 | nil=>cases hx
 | row hk hg hc hp =>
  rename_i k c
  have hsz:c.size=l.length * z:=by rw [hc];simp [flatC_length hz]
  have hle:i * z + z ≤ l.length * z:=by rw [← Nat.succ_mul];exact Nat.mul_le_mul_right _ hi
  refine ⟨.pointer (some ⟨k,i * z,none⟩),?_,?_,hxz⟩
  ·rw [ia_sl,if_pos ⟨by omega,by omega⟩]
   simp
  ·have e:x.cells=c.extract (i * z) (i * z + z):=by
    apply Array.ext
    ·simp;omega
    ·intro j h1 h2
     rw [Array.getElem_extract]
     have:=flatC_at hz j hx (by omega)
     apply Option.some.inj
     rw [← Array.getElem?_eq_getElem,← this,← Array.getElem?_eq_getElem,hc]
     simp
   rw [e]
   exact .ptr (hb _ rfl) hg (by omega)
theorem Pt.mono {h h':AH} {p:Value} {c:Array Value} (x:Pt h p c) (K:Kp h.size h h'):Pt h' p c:=by
 cases x with
 | fp c=>exact .fp c
 | ptr hk hg hc=>exact .ptr (Nat.lt_of_lt_of_le hk K.size) ((K.get _ hk).trans hg) hc
theorem Rd.mono {h h':AH} {z:Nat} {v:Value} {l:List Value} (x:Rd h z v l) (K:Kp h.size h h'):Rd h' z v l :=
 ⟨x.len,fun i y hy=>by
  obtain ⟨p,h1,h2,h3⟩:=x.el i y hy
  exact ⟨p,h1,h2.mono K,h3⟩⟩
theorem Gr.rd {e z:Nat} {h0 h:AH} {s:Value} {l:List Value} (g:Gr e z h0 h s l) (hz:∀ v ∈ l,v.cells.size=z):Rd h z s l:=Rd.of_hld g.hld hz g.lt
end Go.Ab
end
section
namespace Go.Ab
theorem bounds_high {len cap k:Nat} (hk:k ≤ cap):bounds? len cap none (some (.int .i64 (k:Int)))=some (0,k):=by
 unfold bounds? bound?
 have:(0:Int) ≤ (k:Int)∧(k:Int) ≤ cap:=by omega
 simp [this]
theorem bounds_low {len cap k:Nat} (hk:k ≤ len):bounds? len cap (some (.int .i64 (k:Int))) none=some (k,len):=by
 unfold bounds? bound?
 have:(0:Int) ≤ (k:Int)∧(k:Int) ≤ len:=by omega
 simp [this]
theorem flatC_part {z i n:Nat} {l:List Value} (hz:∀ v ∈ l,v.cells.size=z) (hi:i + n ≤ l.length):(flatC l).toArray.extract (i * z) (i * z + n * z)=(flatC ((l.drop i).take n)).toArray:=by
 have e1:flatC l=flatC (l.take i)++(flatC ((l.drop i).take n)++flatC ((l.drop i).drop n)):=by
  unfold flatC
  rw [← List.flatMap_append,List.take_append_drop,← List.flatMap_append,List.take_append_drop]
 have h1:(flatC (l.take i)).length=i * z:=by
  rw [flatC_length fun v hv=>hz v (List.mem_of_mem_take hv),List.length_take,Nat.min_eq_left (by omega)]
 have h2:(flatC ((l.drop i).take n)).length=n * z:=by
  rw [flatC_length fun v hv=>hz v (List.mem_of_mem_drop (List.mem_of_mem_take hv)),List.length_take,List.length_drop,Nat.min_eq_left (by omega)]
 rw [e1,List.extract_toArray]
 congr 1
 rw [List.extract_eq_take_drop,← h1,List.drop_left,Nat.add_sub_cancel_left,← h2,List.take_left]
theorem Hld.take {P:Program} {e lo z t el k:Nat} {d:TypeInfo} {h:AH} {v:Value} {l:List Value} (o:Hld e z h lo v l) (hu:P.underlying t=some (.slice el)) (hd:P.info? el=some d) (hds:d.size=z)
  (hz:∀ v ∈ l,v.cells.size=z) (hk:k ≤ l.length):∃ v',sliceV P h t v none (some (.int .i64 (k:Int)))=some v'∧Src h z v' (l.take k):=by
 cases o with
 | nil =>
  obtain rfl:k=0:=by simpa using hk
  refine ⟨.slice none 0 0,?_,Src.nil (n:=0)⟩
  show opSlice P h t (.slice none 0 0) none (some (.int .i64 ((0:Nat):Int)))=_
  unfold opSlice
  rw [hu]
  simp only [hd,bounds_high (Nat.le_refl 0)]
 | row hk' hg hc hp =>
  rename_i b c
  refine ⟨.slice (some (if l.length=0 then ⟨b,0,none⟩ else ⟨b,0 * z,none⟩)) k l.length,?_,?_⟩
  ·show opSlice P h t (.slice (some ⟨b,0,none⟩) l.length l.length) none (some (.int .i64 (k:Int)))=_
   unfold opSlice
   rw [hu]
   simp only [hd,bounds_high hk,hg,add_off]
   simp [hds]
  ·rw [if_neg (by omega),Nat.zero_mul]
   have hlen:(l.take k).length=k:=by rw [List.length_take,Nat.min_eq_left hk]
   have:=Src.row (z:=z) (m:=l.take k) (cap:=l.length) (off:=0) hg (fun v hv=>hz v (List.mem_of_mem_take hv)) (by rw [hc,hlen];simp [flatC_length hz];exact Nat.mul_le_mul_right _ hk) (by
    have q:=flatC_part (i:=0) (n:=k) hz (by omega)
    rw [Nat.zero_mul,List.drop_zero] at q
    rw [hlen,hc,q])
   rw [hlen] at this
   exact this
theorem Hld.drop {P:Program} {e lo z t el k:Nat} {d:TypeInfo} {h:AH} {v:Value} {l:List Value} (o:Hld e z h lo v l) (hu:P.underlying t=some (.slice el)) (hd:P.info? el=some d) (hds:d.size=z)
  (hz:∀ v ∈ l,v.cells.size=z) (hk:k ≤ l.length):∃ v',sliceV P h t v (some (.int .i64 (k:Int))) none=some v'∧Src h z v' (l.drop k):=by
 cases o with
 | nil =>
  obtain rfl:k=0:=by simpa using hk
  refine ⟨.slice none 0 0,?_,Src.nil (n:=0)⟩
  show opSlice P h t (.slice none 0 0) (some (.int .i64 ((0:Nat):Int))) none=_
  unfold opSlice
  rw [hu]
  simp only [hd,bounds_low (Nat.le_refl 0)]
 | row hk' hg hc hp =>
  rename_i b c
  have hlen:(l.drop k).length=l.length - k:=by rw [List.length_drop]
  by_cases hkl:l.length=k
  ·have hnil:l.drop k=[]:=List.drop_of_length_le (by omega)
   refine ⟨.slice (some ⟨b,0,none⟩) 0 0,?_,?_⟩
   ·show opSlice P h t (.slice (some ⟨b,0,none⟩) l.length l.length) (some (.int .i64 (k:Int))) none=_
    unfold opSlice
    rw [hu]
    simp only [hd,bounds_low hk,hg,add_off]
    simp [hds,hkl]
   ·rw [hnil]
    exact Src.row (m:=[]) hg (by simp) (by simp) (by simp [flatC])
  ·refine ⟨.slice (some ⟨b,k * z,none⟩) (l.length - k) (l.length - k),?_,?_⟩
   ·show opSlice P h t (.slice (some ⟨b,0,none⟩) l.length l.length) (some (.int .i64 (k:Int))) none=_
    unfold opSlice
    rw [hu]
    simp only [hd,bounds_low hk,hg,add_off]
    simp [hds,hkl]
   ·have hm:k * z + (l.length - k) * z=l.length * z:=by rw [← Nat.add_mul];congr 1;omega
    have:=Src.row (z:=z) (m:=l.drop k) (cap:=l.length - k) (off:=k * z) hg (fun v hv=>hz v (List.mem_of_mem_drop hv)) (by rw [hc,hlen,hm];simp [flatC_length hz]) (by
     have q:=flatC_part (i:=k) (n:=l.length - k) hz (by omega)
     rw [List.take_of_length_le (by rw [hlen];exact Nat.le_refl _)] at q
     rw [hlen,hc,q])
    rw [hlen] at this
    exact this
theorem Gr.append {e z bytes:Nat} {zero:Value} {h0 h:AH} {s x:Value} {l m:List Value} (g:Gr e z h0 h s l) (hx:Src h z x m) (hl:∀ v ∈ l,v.cells.size=z) (hm:∀ v ∈ m,v.cells.size=z) (hone:∀ v ∈ flatC m,v.oneCell' = true)
  (hz:0 < z) (hb:0 < bytes) (hb':bytes < 1073741824) (hzero:zero.cells.size=z) (hs:(l.length + m.length) * bytes < 1099511627776) :
  ∃ s' h',apT e z bytes (some zero) h s x=some (s',h')∧Gr e z h0 h' s' (l++m)∧(∀ k,k < h.size→blkOf s ≠ some k→h'.get k=h.get k)∧h.size ≤ h'.size:=by
 obtain ⟨s',h',a1,a2,a3,a4,a5⟩:=g.hld.append hx g.kp.size hl hm hone hz hb hb' hzero hs
 have hk:=g.hld.key
 have hsz:=g.kp.size
 refine ⟨s',h',a1,⟨g.kp.trans ⟨a3,fun k hk2=>a4 k (by omega) fun e=>?_⟩,a2,fun k hk2=>?_⟩,a4,a3⟩
 ·have:=hk k e
  omega
 ·rcases a5 with e | ⟨j,e,e1,e2⟩
  ·rw [e] at hk2
   have:=g.lt k hk2
   omega
  ·rw [e] at hk2
   injection hk2 with hk2
   omega
end Go.Ab
end
