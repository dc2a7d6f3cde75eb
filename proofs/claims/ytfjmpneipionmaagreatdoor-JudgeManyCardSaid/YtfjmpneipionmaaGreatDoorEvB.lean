/- The evaluator: appends, conversions, calls, code; one operation is the model's. -/
import Derived.Test.YtfjmpneipionmaaGreatDoorEvA
import Derived.Laws.BytesString
import Derived.Laws.AppendOwn
/- Append, conversions of bytes, calls, code: the evaluator. -/
namespace Go.Ev

/-- A source's number of elements and its cells. -/
def srcCells (G : Nat) (g : Glob) (st : St) (size : Nat) (x : Value) : Option (Nat × List Value) :=
  match x with
  | .slice none n _ => if n = 0 then some (0, []) else none
  | .slice (some ⟨b, o, none⟩) n _ => match ldN G g st (n * size) b o with
    | some l => some (n, l)
    | none => none
  | .string s => if size = 1 then some (s.size, s.data.toList.map fun b => .int .u8 b.toNat) else none
  | _ => none

def St.newGrown (st : St) (l : List Value) (e : TypeId) : St :=
  ⟨st.heap.set st.next (.grown (T.lay .nil 0 l) l.length e st.next), st.fams.set st.next ⟨st.next, st.next⟩, st.next + 1⟩

def St.moreGrown (st : St) (l : List Value) (e : TypeId) (r low : Nat) : St :=
  ⟨st.heap.set st.next (.grown (T.lay .nil 0 l) l.length e r), st.fams.set r ⟨st.next, low⟩, st.next + 1⟩

def oneL : List Value → Bool
  | [] => true
  | v :: l => oneB v && oneL l

/-- The element's zero value has the cells that the type says. -/
def zeroFits (i : TypeInfo) : Bool :=
  match i.zero with
  | some z => Nat.beq z.cells.size i.size
  | none => false

def evalAppend (P : Program) (G : Nat) (g : Glob) (st : St) (sT xT : TypeId) (s x : Value) : Option (Value × St) :=
  match P.underlying sT with
  | some (.slice elem) => match P.info? elem with
    | some i => match (match P.underlying xT with | some .string => some () | some (.slice _) => some () | _ => none) with
      | some _ => if i.size = 0 ∨ i.bytes = 0 ∨ zeroFits i = false then none else match srcCells G g st i.size x with
        | some (n, new) => if ¬ oneL new then none else match s with
          | .slice none len cap =>
            if len = 0 ∧ cap = 0 then
              if n = 0 then some (.slice none 0 0, st)
              else if nextcap n 0 * i.bytes ≤ 281474976710656 then some (.slice (some ⟨st.next, 0, none⟩) n (openCap + i.size), st.newGrown new elem)
              else none
            else none
          | .slice (some ⟨b, o, none⟩) len cap =>
            if cap < openCap then
              if len + n ≤ cap then match stN G st b (o + len * i.size) new with
                | some st' => some (.slice (some ⟨b, o, none⟩) (len + n) cap, st')
                | none => none
              else if nextcap (len + n) cap * i.bytes ≤ 281474976710656 then match ldN G g st (len * i.size) b o with
                | some old => if oneL old then some (.slice (some ⟨st.next, 0, none⟩) (len + n) (openCap + i.size), st.newGrown (old ++ new) elem) else none
                | none => none
              else none
            else if cap = openCap + i.size then
              if n = 0 then some (s, st)
              else if (2 * (len + n) + 1000) * i.bytes ≤ 281474976710656 then match st.heap.get b with
                | some (.grown _ k e r) => match st.fams.get r with
                  | some f => if f.tip = b ∧ o + len * i.size = k ∧ e = elem then match ldN G g st (len * i.size) b o with
                      | some old => some (.slice (some ⟨st.next, 0, none⟩) (len + n) (openCap + i.size), st.moreGrown (old ++ new) elem r f.low)
                      | none => none
                    else none
                  | none => none
                | _ => none
              else none
            else none
          | _ => none
        | none => none
      | none => none
    | none => none
  | _ => none
where nextcap (need cap : Nat) : Nat := Builtin.nextslicecap need cap

def bytesOf : List Value → Option (List UInt8)
  | [] => some []
  | .int .u8 n :: l => match bytesOf l with
    | some bs => some (UInt8.ofNat n.toNat :: bs)
    | none => none
  | _ => none

/-- A string out of a slice of bytes. -/
def evalToString (P : Program) (G : Nat) (g : Glob) (st : St) (src dst : TypeId) (x : Value) : Option Value :=
  match P.underlying src, P.underlying dst, x with
  | some (.slice e), some .string, .slice (some ⟨b, o, none⟩) len _ => match P.underlying e with
    | some (.int .u8) => match ldN G g st len b o with
      | some l => match bytesOf l with
        | some bs => some (.string ⟨⟨bs⟩⟩)
        | none => none
      | none => none
    | _ => none
  | _, _, _ => none

/-- A slice of bytes out of a string. -/
def evalToBytes (P : Program) (st : St) (src dst : TypeId) (x : Value) : Option (Value × St) :=
  match P.underlying src, P.underlying dst, x with
  | some .string, some (.slice e), .string s => match P.underlying e with
    | some (.int .u8) => some (.slice (some ⟨st.next, 0, none⟩) s.size (openCap + 1), st.newGrown (s.data.toList.map fun b => .int .u8 b.toNat) e)
    | _ => none
  | _, _, _ => none

def opnd (_G : Nat) (tm : T Value) : Operand → Value
  | .tmp t => (tm.get t).getD undef
  | .const v => v
  | .global b => .pointer (some ⟨b, 0, none⟩)
  | .func f => .func (.func f) #[] #[]

/-- Constants hold no address, package-level variables are known ones. -/
def opndOk (G : Nat) : Operand → Bool
  | .tmp _ => true
  | .const v => flat v
  | .global b => Nat.blt b G
  | .func _ => true

abbrev Caller := FuncId → List Value → St → Option (Value × St)

/-- Functions without a body: what they answer, where that is known. -/
abbrev Ext := FuncId → Option (List Value → Option Value)

def evalCallee (P : Program) (ext : Ext) (call : Caller) (f : FuncId) (args : List Value) (st : St) : Option (Value × St) :=
  match P.funcs[f]? with
  | some fn => match fn.body with
    | some _ => if fn.name == "runtime.NumGoroutine" then none else call f args st
    | none => match ext f with
      | some h => if flatL args then match h args with
          | some v => some (v, st)
          | none => none
        else none
      | none => none
  | none => none

/-- Operations that read memory and leave it. -/
def evalRead (P : Program) (G : Nat) (g : Glob) (st : St) (ρ : Operand → Value) (o : Oper) : Option Value :=
  match o.op with
  | .load t x => evalLoad P G g st t (ρ x)
  | .convert s d x => evalToString P G g st s d (ρ x)
  | .lookup t x ix ok => match (match P.underlying t with | some (.map _ _) => ρ x | _ => undef) with
    | .map (some r) => match st.heap.get r with
      | some (.map [] _) => if flat (ρ ix) then match peek P (Instr.lookup t (.map none) (ρ ix) ok) with
          | some v => if flat v then some v else none
          | none => none
        else none
      | _ => none
    | _ => none
  | _ => none

/-- Operations that change memory. -/
def evalLoud (P : Program) (G : Nat) (g : Glob) (ext : Ext) (call : Caller) (st : St) (ρ : Operand → Value) (o : Oper) : Option (Value × St) :=
  match o.op with
  | .store t a v => match evalStore P G st t (ρ a) (ρ v) with
    | some st' => some (undef, st')
    | none => none
  | .call ⟨.value f, args, _⟩ => match ρ f with
    | .func (.func fid) first cap => evalCallee P ext call fid (first.toList ++ args.toList.map ρ ++ cap.toList) st
    | _ => none
  | .call ⟨.builtin .append, ⟨[s, x]⟩, ⟨[sT, xT]⟩⟩ => evalAppend P G g st sT xT (ρ s) (ρ x)
  | .convert s d x => evalToBytes P st s d (ρ x)
  | .makeMap _ none => some (.map (some st.next), ⟨st.heap.set st.next (.map [] 0), st.fams, st.next + 1⟩)
  | op => match evalAlloc P ρ op with
    | some (l, e, k) => if k.ok then some (k.value ⟨st.next, 0, none⟩, st.newCells l e) else none
    | none => none

/-- Operations that touch no memory. -/
def evalQuiet (P : Program) (G : Nat) (ρ : Operand → Value) (o : Oper) : Option Value :=
  match evalFast P ρ o.op with
  | some v => some v
  | none => match evalPure P G ρ o with
    | some v => some v
    | none => evalFlat P ρ o

inductive OpR where
  | quiet (v : Value)
  | read (v : Value)
  | loud (v : Value) (st : St)

def evalOp (P : Program) (G : Nat) (g : Glob) (ext : Ext) (call : Caller) (st : St) (ρ : Operand → Value) (o : Oper) : Option OpR :=
  match evalQuiet P G ρ o with
  | some v => some (.quiet v)
  | none => match evalRead P G g st ρ o with
    | some v => some (.read v)
    | none => match evalLoud P G g ext call st ρ o with
      | some (v, st') => some (.loud v st')
      | none => none

def putT (nt : Nat) (tm : T Value) (dst : Option Tmp) (v : Value) : Option (T Value) :=
  match dst with
  | some d => bif Nat.blt d nt then some (tm.set d v) else none
  | none => some tm

def wantedA (ops : Array Oper) (tm : T Value) (o : Oper) : Bool :=
  match o.guard with
  | none => true
  | some (j, want) => match (ops[j]?).bind (·.dst) with
    | some d => match tm.get d with
      | some (.bool b) => b == want
      | _ => false
    | none => false

inductive Ex where
  | normal
  | exit (id : Nat)
  | ret

/-- The operations in the order of the text. -/
def evalOps (P : Program) (G : Nat) (g : Glob) (ext : Ext) (call : Caller) (ops : Array Oper) (nt : Nat) : List Oper → T Value → St → Option (T Value × St)
  | [], tm, st => some (tm, st)
  | o :: l, tm, st =>
    bif wantedA ops tm o then
      match evalOp P G g ext call st (opnd G tm) o with
      | some (.quiet v) => match putT nt tm o.dst v with
        | some tm' => evalOps P G g ext call ops nt l tm' st
        | none => none
      | some (.read v) => match putT nt tm o.dst v with
        | some tm' => evalOps P G g ext call ops nt l tm' st
        | none => none
      | some (.loud v st') => match putT nt tm o.dst v with
        | some tm' => evalOps P G g ext call ops nt l tm' st'
        | none => none
      | none => none
    else match putT nt tm o.dst undef with
      | some tm' => evalOps P G g ext call ops nt l tm' st
      | none => none

/-- What was seen of one operation: the slots ahead of it, its value, its kind (0 passed over, 1 quiet, 2 a read, 3 loud). -/
structure Rc where
  tm : T Value
  v : Value
  kind : Nat

/-- The same, with a record of each operation, and the memory behind each loud one. -/
def drawOps (P : Program) (G : Nat) (g : Glob) (ext : Ext) (call : Caller) (ops : Array Oper) (nt : Nat) : List Oper → T Value → St → Option (List Rc × T Value × List St)
  | [], tm, _ => some ([], tm, [])
  | o :: l, tm, st =>
    bif wantedA ops tm o then
      match evalOp P G g ext call st (opnd G tm) o with
      | some (.quiet v) => match putT nt tm o.dst v with
        | some tm' => match drawOps P G g ext call ops nt l tm' st with
          | some (rs, e, sts) => some (⟨tm, v, 1⟩ :: rs, e, sts)
          | none => none
        | none => none
      | some (.read v) => match putT nt tm o.dst v with
        | some tm' => match drawOps P G g ext call ops nt l tm' st with
          | some (rs, e, sts) => some (⟨tm, v, 2⟩ :: rs, e, sts)
          | none => none
        | none => none
      | some (.loud v st') => match putT nt tm o.dst v with
        | some tm' => match drawOps P G g ext call ops nt l tm' st' with
          | some (rs, e, sts) => some (⟨tm, v, 3⟩ :: rs, e, st' :: sts)
          | none => none
        | none => none
      | none => none
    else match putT nt tm o.dst undef with
      | some tm' => match drawOps P G g ext call ops nt l tm' st with
        | some (rs, e, sts) => some (⟨tm, undef, 0⟩ :: rs, e, sts)
        | none => none
      | none => none

/-- What must lie ahead of an operation with these edges, as a mask. -/
def maskOf (acc : List Nat) : List Edge → Nat
  | [] => 0
  | e :: es => if Region.binds .any e then Nat.lor (Nat.lor (Nat.pow 2 e.on) (acc.getD e.on 0)) (maskOf acc es) else maskOf acc es

/-- What lies ahead of each operation. -/
def masks : List Oper → List Nat → List Nat
  | [], acc => acc
  | o :: l, acc => masks l (acc ++ [maskOf acc o.after.toList])

/-- Which slots an operation names. -/
def namesOf (ops : List Oper) (o : Oper) : List Tmp :=
  o.dst.toList ++ (o.op.operands.toList.filterMap fun | .tmp t => some t | _ => none) ++
    (match o.guard with | some (j, _) => ((ops[j]?).bind (·.dst)).toList | none => [])

def edgesOk (i : Nat) (o : Oper) : Bool := o.after.toList.all fun e => !Region.binds .any e || Nat.blt e.on i

/-- Two operations of which one writes what the other names are in order. -/
def pairOk (ops : List Oper) (B : List Nat) (i : Nat) (oi : Oper) (j : Nat) (oj : Oper) : Bool :=
  match oj.dst with
  | some d => Nat.beq i j || !(namesOf ops oi).contains d || ((B.getD i 0).testBit j || (B.getD j 0).testBit i) && oi.dst != some d
  | none => true

def allIdx (f : Nat → Oper → Bool) : Nat → List Oper → Bool
  | _, [] => true
  | i, o :: l => f i o && allIdx f (i + 1) l

/-- All of a region's operations are in an order wherever one names a slot that another one writes. -/
def orderOk (ops : List Oper) (B : List Nat) : Bool :=
  allIdx (fun i oi => edgesOk i oi && allIdx (fun j oj => pairOk ops B i oi j oj) 0 ops) 0 ops

def operandsOk (G : Nat) (ops : List Oper) : Bool := ops.all fun o => o.op.operands.toList.all (opndOk G)

def loudsOf : Nat → List Rc → List Nat
  | _, [] => []
  | i, r :: l => if r.kind = 3 then i :: loudsOf (i + 1) l else loudsOf (i + 1) l

/-- Loud operations come one behind the other. -/
def chainOk (B : List Nat) : List Nat → List Nat → Bool
  | _, [] => true
  | past, l :: ls => past.all (fun p => (B.getD l 0).testBit p) && chainOk B (past ++ [l]) ls

def valEq1 : Value → Value → Bool
  | .bool a, .bool b => a == b
  | .int j (.ofNat a), .int k (.ofNat b) => kindEq j k && Nat.beq a b
  | .int j (.negSucc a), .int k (.negSucc b) => kindEq j k && Nat.beq a b
  | .float .f64 a, .float .f64 b => Nat.beq a b
  | .string a, .string b => a.data.toList == b.data.toList
  | .pointer none, .pointer none => true
  | .pointer (some ⟨b, o, none⟩), .pointer (some ⟨b', o', none⟩) => Nat.beq b b' && Nat.beq o o'
  | .slice none l c, .slice none l' c' => Nat.beq l l' && Nat.beq c c'
  | .slice (some ⟨b, o, none⟩) l c, .slice (some ⟨b', o', none⟩) l' c' => (Nat.beq b b' && Nat.beq o o') && (Nat.beq l l' && Nat.beq c c')
  | .map none, .map none => true
  | .map (some a), .map (some b) => Nat.beq a b
  | .nilFunc, .nilFunc => true
  | .nilIface, .nilIface => true
  | _, _ => false

def valEqL : List Value → List Value → Bool
  | [], [] => true
  | a :: l, b :: m => valEq1 a b && valEqL l m
  | _, _ => false

def valEq (a b : Value) : Bool :=
  match a, b with
  | .agg ⟨x⟩, .agg ⟨y⟩ => valEqL x y
  | a, b => valEq1 a b

/-- A read's value is the same wherever it may be made: at the memory number k (k loud operations done). -/
def readAt (P : Program) (G : Nat) (g : Glob) (B louds : List Nat) (q : Nat) (o : Oper) (r : Rc) (k : Nat) (st : St) : Bool :=
  (louds.drop k).any (fun l => (B.getD q 0).testBit l) || (louds.take k).any (fun l => (B.getD l 0).testBit q) ||
    (match evalRead P G g st (opnd G r.tm) o with
     | some v => valEq v r.v
     | none => false)

def readAll (P : Program) (G : Nat) (g : Glob) (B louds : List Nat) (q : Nat) (o : Oper) (r : Rc) : Nat → List St → Bool
  | _, [] => true
  | k, st :: l => readAt P G g B louds q o r k st && readAll P G g B louds q o r (k + 1) l

def readsOk (P : Program) (G : Nat) (g : Glob) (B louds : List Nat) (sts : List St) : Nat → List Oper → List Rc → Bool
  | q, o :: ops, r :: rs => (if r.kind = 2 then readAll P G g B louds q o r 0 sts else true) && readsOk P G g B louds sts (q + 1) ops rs
  | _, _, _ => true

def lastSt : St → List St → St
  | st, [] => st
  | _, s :: l => lastSt s l

/-- A region whose order is drawn. -/
def evalDraw (P : Program) (G : Nat) (g : Glob) (ext : Ext) (call : Caller) (ops : Array Oper) (nt : Nat) (tm : T Value) (st : St) : Option (T Value × St) :=
  match drawOps P G g ext call ops nt ops.toList tm st with
  | some (rs, e, sts) =>
    bif orderOk ops.toList (masks ops.toList []) && (match sts with
      | [] => true
      | _ => chainOk (masks ops.toList []) [] (loudsOf 0 rs) && readsOk P G g (masks ops.toList []) (loudsOf 0 rs) (st :: sts) 0 ops.toList rs)
    then some (e, lastSt st sts) else none
  | none => none

def evalCode (P : Program) (G : Nat) (g : Glob) (ext : Ext) (call : Caller) (nt : Nat) : Nat → Code → T Value → St → Option (Ex × T Value × St)
  | 0, _, _, _ => none
  | n + 1, c, tm, st =>
    match c with
    | .skip | .label _ => some (.normal, tm, st)
    | .region _ ops draw => bif operandsOk G ops.toList then
        match (bif draw then evalDraw P G g ext call ops nt tm st else evalOps P G g ext call ops nt ops.toList tm st) with
        | some (tm', st') => some (.normal, tm', st')
        | none => none
      else none
    | .seq x y => match evalCode P G g ext call nt n x tm st with
      | some (.normal, tm', st') => evalCode P G g ext call nt n y tm' st'
      | r => r
    | .cond c x y => match opnd G tm c with
      | .bool b => evalCode P G g ext call nt n (bif b then x else y) tm st
      | _ => none
    | .block id c => match evalCode P G g ext call nt n c tm st with
      | some (.exit id', tm', st') => if id' = id then some (.normal, tm', st') else some (.exit id', tm', st')
      | r => r
    | .loop c => match evalCode P G g ext call nt n c tm st with
      | some (.normal, tm', st') => evalCode P G g ext call nt n (.loop c) tm' st'
      | r => r
    | .exit id => some (.exit id, tm, st)
    | .ret => some (.ret, tm, st)
    | _ => none

def resultOf (P : Program) (G : Nat) (g : Glob) (st : St) (tm : T Value) : List ResultVar → Option (List Value)
  | [] => some []
  | .tmp t :: l => match resultOf P G g st tm l with
    | some vs => some ((tm.get t).getD undef :: vs)
    | none => none
  | .cell a t :: l => match evalLoad P G g st t ((tm.get a).getD undef) with
    | some v => match resultOf P G g st tm l with
      | some vs => some (v :: vs)
      | none => none
    | none => none

def results (P : Program) (G : Nat) (g : Glob) (st : St) (tm : T Value) (rs : Array ResultVar) : Option Value :=
  match resultOf P G g st tm rs.toList with
  | some [v] => some v
  | some vs => some (.tuple ⟨vs⟩)
  | none => none

def evalCall (P : Program) (G : Nat) (g : Glob) (ext : Ext) (fuel : Nat) : Nat → Caller
  | 0, _, _, _ => none
  | n + 1, f, args, st => match P.funcs[f]? with
    | some fn => match fn.body with
      | some c => bif Nat.ble args.length fn.ntmps then match evalCode P G g ext (evalCall P G g ext fuel n) fn.ntmps fuel c (T.lay .nil 0 args) st with
        | some (.exit _, _, _) => none
        | some (_, tm, st') => match results P G g st' tm fn.results with
          | some v => some (v, st')
          | none => none
        | none => none
        else none
      | none => none
    | none => none

end Go.Ev


/- The quick integers are the model's. -/
namespace Go.Ev
variable {P : Program} {G N0 N : Nat} {g : Glob} {φ : Phi} {st st' : St} {w : World}

theorem kindEq_spec {k k' : IntKind} (h : kindEq k k' = true) : k = k' := by cases k <;> cases k' <;> simp [kindEq] at h <;> rfl

theorem wrap_small {k : IntKind} {z : Nat} (h : z < lim k) : k.wrap (z : Int) = (z : Int) := by
  cases k <;> simp only [lim] at h <;> simp [IntKind.wrap, IntKind.bits, IntKind.signed] <;> omega

theorem wrap_uns {k : IntKind} (z : Nat) (hu : uns k = true) : k.wrap (z : Int) = ((z % lim k : Nat) : Int) := by
  cases k <;> simp [uns] at hu <;> simp [IntKind.wrap, IntKind.bits, IntKind.signed, lim]

theorem wrapNat_spec {k : IntKind} {z : Nat} {v : Value} (h : wrapNat k z = some v) : v = .int k (k.wrap (z : Int)) := by
  unfold wrapNat at h
  cases h1 : Nat.blt z (lim k) with
  | true => rw [h1] at h; cases h; rw [wrap_small (blt_true h1)]; rfl
  | false =>
    rw [h1] at h
    cases h2 : uns k with
    | true => rw [h2] at h; cases h; rw [wrap_uns z h2]; rfl
    | false => rw [h2] at h; cases h

theorem wrap_mod {k : IntKind} {x y : Nat} (hu : uns k = true) : k.wrap (((x + lim k - y : Nat) : Int)) = k.wrap ((x : Int) - (y : Int)) ∨ x + lim k < y := by
  by_cases h : x + lim k < y
  · exact .inr h
  · refine .inl ?_
    cases k <;> simp [uns] at hu <;> simp only [lim] at h ⊢ <;> simp [IntKind.wrap, IntKind.bits, IntKind.signed] <;> omega

theorem subNat_spec {k : IntKind} {x y : Nat} {v : Value} (h : subNat k x y = some v) (hx : x < lim k) (hy : y < lim k) : v = .int k (k.wrap ((x : Int) - (y : Int))) := by
  unfold subNat at h
  cases h1 : Nat.ble y x with
  | true =>
    rw [h1] at h; cases h
    have hle := Nat.le_of_ble_eq_true h1
    have e : (x : Int) - (y : Int) = ((x - y : Nat) : Int) := by omega
    rw [e, wrap_small (by omega)]; rfl
  | false =>
    rw [h1] at h
    have hlt : x < y := by
      rcases Nat.lt_or_ge x y with h | h
      · exact h
      · rw [Nat.ble_eq_true_of_le h] at h1; cases h1
    cases h2 : uns k with
    | true =>
      rw [h2] at h
      rw [wrapNat_spec h]
      rcases wrap_mod (x := x) (y := y) h2 with h3 | h3
      · congr 1
      · omega
    | false =>
      rw [h2] at h
      simp only [cond_false] at h
      cases h3 : Nat.ble (Nat.sub y x) (lim k) with
      | false => rw [h3] at h; cases h
      | true =>
        rw [h3] at h; cases h
        congr 1
        have e : Int.negSucc ((y.sub x).sub 1) = (x : Int) - (y : Int) := by
          show Int.negSucc (y - x - 1) = _
          omega
        rw [e]
        cases k <;> simp [uns] at h2 <;> simp only [lim] at hx hy <;> simp [IntKind.wrap, IntKind.bits, IntKind.signed] <;> omega

theorem land_lim {k : IntKind} {x y : Nat} (hx : x < lim k) : x &&& y < lim k := Nat.lt_of_le_of_lt Nat.and_le_left hx
theorem lor_lim {k : IntKind} {x y : Nat} (hx : x < lim k) (hy : y < lim k) : x ||| y < lim k := by
  have e : ∃ n, lim k = 2 ^ n := by cases k <;> first | exact ⟨7, rfl⟩ | exact ⟨15, rfl⟩ | exact ⟨31, rfl⟩ | exact ⟨63, rfl⟩ | exact ⟨8, rfl⟩ | exact ⟨16, rfl⟩ | exact ⟨32, rfl⟩ | exact ⟨64, rfl⟩
  obtain ⟨n, e⟩ := e
  rw [e] at hx hy ⊢
  exact Nat.or_lt_two_pow hx hy
theorem xor_lim {k : IntKind} {x y : Nat} (hx : x < lim k) (hy : y < lim k) : x ^^^ y < lim k := by
  have e : ∃ n, lim k = 2 ^ n := by cases k <;> first | exact ⟨7, rfl⟩ | exact ⟨15, rfl⟩ | exact ⟨31, rfl⟩ | exact ⟨63, rfl⟩ | exact ⟨8, rfl⟩ | exact ⟨16, rfl⟩ | exact ⟨32, rfl⟩ | exact ⟨64, rfl⟩
  obtain ⟨n, e⟩ := e
  rw [e] at hx hy ⊢
  exact Nat.xor_lt_two_pow hx hy

theorem lim_le {k : IntKind} : lim k ≤ 2 ^ k.bits := by cases k <;> decide

theorem run_bits {op : BinOp} {k : IntKind} {x y z : Nat} (hx : x < lim k) (hy : y < lim k) (hz : z < lim k)
    (h : (op = .and ∧ z = x &&& y) ∨ (op = .or ∧ z = x ||| y) ∨ (op = .xor ∧ z = x ^^^ y)) (w : World) :
    (Op.intBits op k (x : Int) (y : Int)).run P w = .ok (.int k (z : Int)) w := by
  have hx' : x < 2 ^ k.bits := Nat.lt_of_lt_of_le hx lim_le
  have hy' : y < 2 ^ k.bits := Nat.lt_of_lt_of_le hy lim_le
  have e1 : BitVec.ofInt k.bits (x : Int) = BitVec.ofNat k.bits x := BitVec.ofInt_natCast _ _
  have e2 : BitVec.ofInt k.bits (y : Int) = BitVec.ofNat k.bits y := BitVec.ofInt_natCast _ _
  rcases h with ⟨rfl, rfl⟩ | ⟨rfl, rfl⟩ | ⟨rfl, rfl⟩
  · simp only [Op.intBits, e1, e2, Sem.run_pure, BitVec.toNat_and, BitVec.toNat_ofNat, Nat.mod_eq_of_lt hx', Nat.mod_eq_of_lt hy', wrap_small hz]
  · simp only [Op.intBits, e1, e2, Sem.run_pure, BitVec.toNat_or, BitVec.toNat_ofNat, Nat.mod_eq_of_lt hx', Nat.mod_eq_of_lt hy', wrap_small hz]
  · simp only [Op.intBits, e1, e2, Sem.run_pure, BitVec.toNat_xor, BitVec.toNat_ofNat, Nat.mod_eq_of_lt hx', Nat.mod_eq_of_lt hy', wrap_small hz]

theorem beq_cast (x y : Nat) : ((x : Int) == (y : Int)) = Nat.beq x y := by
  by_cases h : x = y
  · subst h; simp
  · have h1 : ((x : Int) == (y : Int)) = false := by simp; omega
    have h2 : Nat.beq x y = false := by
      cases hb : Nat.beq x y with
      | false => rfl
      | true => exact absurd (Nat.eq_of_beq_eq_true hb) h
    rw [h1, h2]

theorem blt_cast (x y : Nat) : decide ((x : Int) < (y : Int)) = Nat.blt x y := by
  by_cases h : x < y
  · have h2 : Nat.blt x y = true := by simpa [Nat.blt_eq] using h
    rw [h2]; simp; exact h
  · cases hb : Nat.blt x y with
    | true => exact absurd (blt_true hb) h
    | false => simp; omega

theorem ble_cast (x y : Nat) : decide ((x : Int) ≤ (y : Int)) = Nat.ble x y := by
  by_cases h : x ≤ y
  · rw [Nat.ble_eq_true_of_le h]; simp; exact h
  · cases hb : Nat.ble x y with
    | true => exact absurd (Nat.le_of_ble_eq_true hb) h
    | false => simp; omega

theorem dec_blt (x y : Nat) : decide (x < y) = Nat.blt x y := by rw [← blt_cast]; simp
theorem dec_ble (x y : Nat) : decide (x ≤ y) = Nat.ble x y := by rw [← ble_cast]; simp

theorem fastNat_sound {op : BinOp} {k : IntKind} {x y : Nat} {v : Value} {t : TypeId} (h : fastNat op k x y = some v) (hx : x < lim k) (hy : y < lim k) (w : World) :
    (binOp op t (.int k (x : Int)) (.int k (y : Int))).run P w = .ok v w := by
  unfold fastNat at h
  split at h
  · rw [wrapNat_spec h]; simp [binOp, Op.intArith]
  · rw [subNat_spec h hx hy]; simp [binOp, Op.intArith]
  · rw [wrapNat_spec h]; simp [binOp, Op.intArith]
  · cases h; simp [binOp, Op.intCmp, beq_cast]
  · cases h
    have : ((x : Int) != (y : Int)) = !Nat.beq x y := by rw [bne, beq_cast]
    simp [binOp, Op.intCmp, this]
  · cases h; simp [binOp, Op.intCmp, dec_blt]
  · cases h; simp [binOp, Op.intCmp, dec_ble]
  · cases h; simp [binOp, Op.intCmp, dec_blt]
  · cases h; simp [binOp, Op.intCmp, dec_ble]
  · cases h0 : Nat.beq y 0 with
    | true => rw [h0] at h; cases h
    | false =>
      rw [h0] at h
      have hy0 : y ≠ 0 := fun he => by subst he; cases h0
      rw [wrapNat_spec h]
      have e : (x : Int).tdiv (y : Int) = ((x.div y : Nat) : Int) := rfl
      simp [binOp, Op.intDiv, hy0, e]
  · cases h0 : Nat.beq y 0 with
    | true => rw [h0] at h; cases h
    | false =>
      rw [h0] at h
      have hy0 : y ≠ 0 := fun he => by subst he; cases h0
      cases h
      have e : (x : Int).tmod (y : Int) = ((x.mod y : Nat) : Int) := rfl
      simp [binOp, Op.intDiv, hy0, e]
  · cases h; simpa [binOp] using run_bits hx hy (land_lim hx) (.inl ⟨rfl, rfl⟩) w
  · cases h; simpa [binOp] using run_bits hx hy (lor_lim hx hy) (.inr (.inl ⟨rfl, rfl⟩)) w
  · cases h; simpa [binOp] using run_bits hx hy (xor_lim hx hy) (.inr (.inr ⟨rfl, rfl⟩)) w
  · cases h


theorem fdiv_nat (x n : Nat) : (x : Int).fdiv (2 ^ n) = ((x / 2 ^ n : Nat) : Int) := by
  rw [Int.fdiv_eq_ediv_of_nonneg _ (by have := Int.pow_pos (n := 2) (m := n) (by decide); omega)]
  simp

theorem min_bits {k : IntKind} {x y : Nat} (hx : x < lim k) : x / 2 ^ (min y k.bits) = x / 2 ^ y := by
  by_cases h : y ≤ k.bits
  · rw [Nat.min_eq_left h]
  · have hx' : x < 2 ^ k.bits := Nat.lt_of_lt_of_le hx lim_le
    rw [Nat.min_eq_right (by omega), Nat.div_eq_of_lt hx', Nat.div_eq_of_lt (Nat.lt_of_lt_of_le hx' (Nat.pow_le_pow_right (by omega) (by omega)))]

theorem wrap_shift {k : IntKind} {x y : Nat} (h : k.bits ≤ y) : k.wrap (((x * 2 ^ y : Nat)) : Int) = k.wrap (((x * 2 ^ k.bits : Nat)) : Int) := by
  have e : x * 2 ^ y = (x * 2 ^ (y - k.bits)) * 2 ^ k.bits := by
    rw [Nat.mul_assoc, ← Nat.pow_add]; congr 2; omega
  have m : ∀ z : Nat, k.wrap (((z * 2 ^ k.bits : Nat)) : Int) = k.wrap 0 := by
    intro z
    unfold IntKind.wrap
    simp
  rw [e, m, m]

theorem fastShift_sound {op : BinOp} {k k' : IntKind} {x y : Nat} {v : Value} {t : TypeId} (h : fastShift op k x y = some v) (hx : x < lim k) (w : World) :
    (binOp op t (.int k (x : Int)) (.int k' (y : Int))).run P w = .ok v w := by
  have hy : ¬ ((y : Int) < 0) := by omega
  unfold fastShift at h
  split at h
  · cases hb : Nat.blt y 64 with
    | false => rw [hb] at h; cases h
    | true =>
      rw [hb] at h
      rw [wrapNat_spec h]
      simp only [binOp, Op.shift, hy, if_false, Int.toNat_natCast, Sem.run_pure]
      congr 2
      have e : ((Nat.mul x (Nat.pow 2 y) : Nat) : Int) = ((x * 2 ^ y : Nat) : Int) := rfl
      rw [e]
      by_cases hle : y ≤ k.bits
      · rw [Nat.min_eq_left hle]; simp
      · rw [Nat.min_eq_right (by omega), wrap_shift (by omega)]; simp
  · cases hb : Nat.blt y 64 with
    | false => rw [hb] at h; cases h
    | true =>
      rw [hb] at h
      cases h
      simp only [binOp, Op.shift, hy, if_false, Int.toNat_natCast, Sem.run_pure, fdiv_nat, min_bits hx]
      rfl
  · cases h

theorem run_eqGuard_int {op : BinOp} {t : TypeId} {a b : Operand} {k k' : IntKind} {x y : Int} (w : World) : (eqGuard op t a b (.int k x) (.int k' y)).run P w = .ok () w := by
  unfold eqGuard; cases op <;> simp

theorem evalFast_sound {ρ ρ' : Operand → Value} {o : Oper} {v : Value} (h : evalFast P ρ o.op = some v) (hr : OpRel G N φ o ρ ρ') :
    ∃ v', VRel G N φ v v' ∧ ∀ w, (execOp ρ' o).run P w = .ok (.value v') w := by
  obtain ⟨dst, op, type, pos, after, guard⟩ := o
  unfold OpRel at hr
  simp only at h hr
  unfold evalFast at h
  have flatN : ∀ {op : BinOp} {k : IntKind} {x y : Nat} {v : Value}, fastNat op k x y = some v → flat v = true := by
    intro op k x y v h
    unfold fastNat at h
    split at h <;> first
      | (cases h; done)
      | (rw [wrapNat_spec h]; rfl)
      | (cases h; rfl)
      | (unfold subNat at h; cases h1 : Nat.ble y x <;> rw [h1] at h <;> cases h2 : uns k <;> simp only [h2, cond_true, cond_false] at h <;>
          first | (cases h; rfl) | (rw [wrapNat_spec h]; rfl) | (cases h3 : Nat.ble (Nat.sub y x) (lim k) <;> rw [h3] at h <;> cases h; rfl))
      | (cases h0 : Nat.beq y 0 <;> rw [h0] at h <;> first | (cases h; done) | (rw [wrapNat_spec h]; rfl) | (cases h; rfl))
  split at h
  · rename_i bop t a b yt
    split at h
    · rename_i k x k' y ha hb
      have ea : ρ' a = .int k (Int.ofNat x) := by have := hr a (by simp [Op.operands]); rw [ha] at this; exact this.int_inv
      have eb : ρ' b = .int k' (Int.ofNat y) := by have := hr b (by simp [Op.operands]); rw [hb] at this; exact this.int_inv
      have hg := fun w => run_eqGuard_int (P := P) (op := bop) (t := t) (a := a) (b := b) (k := k) (k' := k') (x := Int.ofNat x) (y := Int.ofNat y) w
      have fin : flat v = true → (∀ w, (binOp bop t (.int k (Int.ofNat x)) (.int k' (Int.ofNat y))).run P w = .ok v w) →
          ∃ v', VRel G N φ v v' ∧ ∀ w, (execOp ρ' ⟨dst, .binOp bop t a b yt, type, pos, after, guard⟩).run P w = .ok (.value v') w := fun hf hrun =>
        ⟨v, .flat hf, fun w => by simp only [execOp, ea, eb, Sem.run_bind, hg, Result.andThen_ok, hrun, Sem.run_pure]⟩
      have shiftCase : ∀ (hs : fastShift bop k x y = some v), x < lim k → ∃ v', VRel G N φ v v' ∧ ∀ w, (execOp ρ' ⟨dst, .binOp bop t a b yt, type, pos, after, guard⟩).run P w = .ok (.value v') w := by
        intro hs hx
        refine fin ?_ (fun w => fastShift_sound hs hx w)
        unfold fastShift at hs
        split at hs
        · cases hb : Nat.blt y 64 <;> rw [hb] at hs
          · cases hs
          · rw [wrapNat_spec hs]; rfl
        · cases hb : Nat.blt y 64 <;> rw [hb] at hs <;> cases hs
          rfl
        · cases hs
      split at h
      · cases hx : Nat.blt x (lim k) with
        | false => rw [hx] at h; cases h
        | true => rw [hx] at h; exact shiftCase h (blt_true hx)
      · cases hx : Nat.blt x (lim k) with
        | false => rw [hx] at h; cases h
        | true => rw [hx] at h; exact shiftCase h (blt_true hx)
      · cases hc : (kindEq k k' && (Nat.blt x (lim k) && Nat.blt y (lim k))) with
        | false => rw [hc] at h; cases h
        | true =>
          rw [hc] at h
          simp only [Bool.and_eq_true] at hc
          obtain ⟨hk, hx, hy⟩ := hc
          cases kindEq_spec hk
          exact fin (flatN h) (fun w => fastNat_sound h (blt_true hx) (blt_true hy) w)
    · cases h
  · rename_i s d a
    split at h
    · rename_i k0 x ha
      have ea : ρ' a = .int k0 (Int.ofNat x) := by have := hr a (by simp [Op.operands]); rw [ha] at this; exact this.int_inv
      split at h
      · rename_i k hud
        split at h
        · rename_i ds hus
          rw [wrapNat_spec h]
          refine ⟨_, .flat rfl, fun w => ?_⟩
          simp only [execOp, ea, convert, Sem.run_bind, run_underlying hus, run_underlying hud, Result.andThen_ok, Sem.run_pure]
          simp [Conv.intToInt]
        · cases h
      · cases h
    · cases h
  · cases h

end Go.Ev


/- Strings and bytes. -/
namespace Go.Ev
variable {P : Program} {G N0 N : Nat} {g : Glob} {φ : Phi} {st st' : St} {w : World}

def bytesArr (bs : List UInt8) : ByteArray := ⟨⟨bs⟩⟩

theorem bytesOf_spec : ∀ {l : List Value} {bs : List UInt8}, bytesOf l = some bs → ∃ ns : List Int, l = ns.map (Value.int .u8) ∧ bs = ns.map fun n => UInt8.ofNat n.toNat
  | [], bs, h => by simp [bytesOf] at h; exact ⟨[], rfl, by simp [h]⟩
  | v :: l, bs, h => by
    unfold bytesOf at h
    split at h
    · rename_i heq; cases heq
    · rename_i n l' heq
      cases heq
      split at h
      · rename_i bs' hbs
        cases h
        obtain ⟨ns, h1, h2⟩ := bytesOf_spec hbs
        exact ⟨n :: ns, by simp [h1], by simp [h2]⟩
      · cases h
    · cases h

theorem fold_push (ns : List Int) : ∀ (s : ByteArray), ns.foldl (fun r n => r.push (UInt8.ofNat n.toNat)) s = ⟨⟨s.data.toList ++ ns.map fun n => UInt8.ofNat n.toNat⟩⟩ := by
  induction ns with
  | nil => intro s; simp
  | cons n ns ih =>
    intro s
    rw [List.foldl_cons, ih]
    simp [ByteArray.push]

theorem LRel.ints {ns : List Int} {k : IntKind} : ∀ {m : List Value}, LRel G N φ (ns.map (Value.int k)) m → m = ns.map (Value.int k) := by
  induction ns with
  | nil => intro m h; cases m with | nil => rfl | cons => exact h.elim
  | cons n ns ih =>
    intro m h
    cases m with
    | nil => exact h.elim
    | cons u m => obtain ⟨h1, h2⟩ := h; rw [h1.int_inv, ih h2]; rfl

theorem evalToString_sound (hR : R G N0 g φ st w) {src dst : TypeId} {x x' v : Value} (h : evalToString P G g st src dst x = some v) (hx : VRel G st.next φ x x') :
    VRel G st.next φ v v ∧ (convert src dst x').run P w = .ok v w := by
  unfold evalToString at h
  split at h
  · rename_i e b o len cap hus hud
    split at h
    · rename_i hue
      split at h
      · rename_i l hl
        split at h
        · rename_i bs hbs
          cases h
          obtain ⟨hg, hb, a', cap', rfl, hcase⟩ := hx.slice_inv
          obtain ⟨m, h1, h2, h3⟩ := ldN_sound hR _ _ _ hl
          obtain ⟨ns, rfl, rfl⟩ := bytesOf_spec hbs
          obtain rfl := h1.ints
          refine ⟨.flat rfl, ?_⟩
          have hcells : (loadCells a' len).run P w = .ok (ns.map (Value.int .u8)).toArray w := by
            rcases hcase with ⟨_, _, rfl⟩ | ⟨_, _, _, _, rfl⟩ | ⟨_, _, rfl, _⟩
            · rw [Phi.at_conc hg, ← h2]; exact run_loadCells_list w _ _ h3
            · rw [Phi.at_conc hg, ← h2]; exact run_loadCells_list w _ _ h3
            · have : ns = [] := by
                have := h2; simp at this; exact this
              subst this; rfl
          have := run_bytesToString (P := P) w a' len cap' ns hcells
          rw [fold_push] at this
          simp only [convert, Sem.run_bind, run_underlying hus, run_underlying hud, run_underlying hue, Result.andThen_ok]
          rw [this]
          congr 1
        · cases h
      · cases h
    · cases h
  · cases h

/-- A new grown row: its cells lie at the head of a new block. -/
theorem R.newGrown (hR : R G N0 g φ st w) {l m : List Value} {e : TypeId} {a : Array Value} {fz : Nat × Nat} (hl : LRel G st.next φ l m) (ha : ∀ (i : Nat) (v : Value), m[i]? = some v → a[i]? = some v)
    (hfz : fz.1 = 0 ∧ fz.2 = 0 ∨ a.size ≤ fz.1) :
    ∃ φ', R G N0 g φ' (st.newGrown l e) (w.alloc (.cells a e fz)) ∧ Tr φ st w φ' (st.newGrown l e) (w.alloc (.cells a e fz)) ∧ φ' st.next = ⟨w.heap.size, 0, a.size⟩ := by
  have hlen : l.length ≤ a.size := by
    rcases Nat.lt_or_ge a.size l.length with h | h
    · exfalso
      have hm : a.size < m.length := by rw [← hl.get.1]; exact h
      have := ha a.size m[a.size] (by simp)
      simp at this
    · exact h
  have := hR.new (o := .grown (T.lay .nil 0 l) l.length e st.next) (ob := .cells a e fz) (l := ⟨w.heap.size, 0, a.size⟩) (fams' := st.fams.set st.next ⟨st.next, st.next⟩) rfl
    (fun r f hr hf => ⟨f, by rw [T.get_set, if_neg (by omega)]; exact hf, rfl, Nat.le_refl _⟩)
    (fun r f' hf ht => by
      rw [T.get_set] at hf
      by_cases hrn : r = st.next
      · rw [if_pos hrn] at hf; cases hf; simp at ht
      · rw [if_neg hrn] at hf; exact hf)
    (fun φ' h1 h2 => by
      refine ⟨a, fz, ⟨st.next, st.next⟩, by rw [h1, heap_alloc, if_pos rfl], hfz, by rw [h1], by rw [h1]; simpa using hlen, by simp [T.get_set], Nat.le_refl _, Nat.le_refl _, fun _ => ?_⟩
      rw [h1]
      intro i hi
      obtain ⟨v, v', k1, k2, k3⟩ := LRel.cells (hl.mono (Nat.le_succ st.next) h2) i hi
      exact ⟨v, v', k1, ha _ _ (by simpa using k2), k3⟩)
  exact ⟨_, this.1, this.2, Phi.upd_at _ _ _⟩

end Go.Ev


/- Append. -/
namespace Go.Ev
variable {P : Program} {G N0 N : Nat} {g : Glob} {φ : Phi} {st st' : St} {w : World}

/-- Cells are stored into one row: what becomes of it, and of the rest. -/
theorem run_store_row (P : Program) {B off : Nat} {e : TypeId} {fz : Nat × Nat} : ∀ (m : List Value) (i : Nat) (w : World) (a : Array Value), w.heap[B]? = some (.cells a e fz) →
    (fz.1 = 0 ∧ fz.2 = 0 ∨ a.size ≤ fz.1) → off + i + m.length ≤ a.size → (∀ v ∈ m, v.oneCell' = true) →
    ∃ w' a', (storeCells ⟨B, off, none⟩ m i).run P w = .ok () w' ∧ w'.heap[B]? = some (.cells a' e fz) ∧ a'.size = a.size ∧
      (∀ (j : Nat) (u : Value), m[j]? = some u → a'[off + i + j]? = some u) ∧ (∀ k, k < off + i → a'[k]? = a[k]?) ∧
      (∀ k, k ≠ B → w'.heap[k]? = w.heap[k]?) ∧ w'.heap.size = w.heap.size ∧ w'.os = w.os ∧ w'.tape = w.tape ∧ w'.output = w.output
  | [], i, w, a, hB, _, _, _ => ⟨w, a, rfl, hB, rfl, fun j u h => by simp at h, fun _ _ => rfl, fun _ _ => rfl, rfl, rfl, rfl, rfl⟩
  | v :: m, i, w, a, hB, hfz, hle, h1 => by
    simp only [List.length_cons] at hle
    have hset := heap_setCell (o := off + i) (v := v) hB
    obtain ⟨w', a', k1, k2, k3, k4, k5, k6, k7, k8, k9, k10⟩ := run_store_row P (off := off) m (i + 1) (w.setCell ⟨B, off + i, none⟩ v) (a.setIfInBounds (off + i) v) (by rw [hset, if_pos rfl]) (by simpa using hfz)
      (by simp; omega) (fun u hu => h1 u (by simp [hu]))
    have hcell : w.cell? ⟨B, off + i, none⟩ = some (a[off + i]'(by omega)) := by rw [cell_of_block hB]; simp
    have hfro : w.frozen? ⟨B, off + i, none⟩ = false := by
      simp only [World.frozen?, hB]
      rcases hfz with ⟨h1, h2⟩ | h1
      · simp [h2]
      · simp; omega
    have hadd : (⟨B, off, none⟩ : Addr).add i = ⟨B, off + i, none⟩ := by unfold Addr.add; split <;> simp_all
    refine ⟨w', a', ?_, k2, by simpa using k3, fun j u hj => ?_, fun k hk => ?_, fun k hk => ?_, by simpa [World.setCell] using k7, k8, k9, k10⟩
    · simp only [storeCells, Sem.run_bind, hadd, run_store P w _ v _ (h1 v (by simp)), hcell, hfro, Bool.false_eq_true, if_false, Result.andThen_ok, k1]
    · cases j with
      | zero =>
        have : u = v := by simpa using hj.symm
        subst this
        rw [Nat.add_zero, k5 (off + i) (by omega), Array.getElem?_setIfInBounds, if_pos rfl, if_pos (by omega)]
      | succ j =>
        have := k4 j u (by simpa using hj)
        rwa [show off + (i + 1) + j = off + i + (j + 1) by omega] at this
    · rw [k5 k (by omega), Array.getElem?_setIfInBounds, if_neg (by omega)]
    · rw [k6 k hk, hset, if_neg hk]

/-- The tip of a family grows in its own row. -/
theorem R.extend (hR : R G N0 g φ st w) {b k r o : Nat} {c : T Value} {e : TypeId} {f : Fam} {w' : World} {a a' : Array Value} {fz : Nat × Nat} {l m : List Value}
    (hget : st.heap.get b = some (.grown c k e r)) (hfam : st.fams.get r = some f) (htip : f.tip = b)
    (ha : w.heap[(φ b).block]? = some (.cells a e fz)) (ha' : w'.heap[(φ b).block]? = some (.cells a' e fz)) (hsz : a'.size = a.size)
    (hold : ∀ i, i < (φ b).shift + k → a'[i]? = a[i]?) (hoth : ∀ i, i ≠ (φ b).block → w'.heap[i]? = w.heap[i]?)
    (hhs : w'.heap.size = w.heap.size) (hos : w'.os = w.os) (htape : w'.tape = w.tape) (hout : w'.output = w.output)
    (hl : LRel G st.next φ l m) (hm : ∀ (i : Nat) (u : Value), m[i]? = some u → a'[(φ b).shift + o + i]? = some u) (hlk : k ≤ o + l.length) (hfit : (φ b).shift + o + l.length ≤ a.size) :
    R G N0 g (φ.upd st.next ⟨(φ b).block, (φ b).shift + o, (φ b).total⟩) (st.moreGrown l e r f.low) w' ∧
      Tr φ st w (φ.upd st.next ⟨(φ b).block, (φ b).shift + o, (φ b).total⟩) (st.moreGrown l e r f.low) w' := by
  obtain ⟨j1, j2, j3, j4, a0, fz0, f0, ha0, hfz0, hsz0, hle0, hfam0, htip0, hro0, hcs0⟩ := hR.obj b _ hget
  rw [ha] at ha0; cases ha0
  rw [hfam] at hfam0; cases hfam0
  have hext : ∀ i, i < st.next → φ.upd st.next ⟨(φ b).block, (φ b).shift + o, (φ b).total⟩ i = φ i := fun i hi => Phi.upd_ne _ _ (by omega)
  have hat := Phi.upd_at φ st.next ⟨(φ b).block, (φ b).shift + o, (φ b).total⟩
  have hrn : r < st.next := hR.root_lt hget rfl
  have hfs : ∀ r', (st.fams.set r ⟨st.next, f.low⟩).get r' = if r' = r then some ⟨st.next, f.low⟩ else st.fams.get r' := fun r' => T.get_set _ _ _ _
  have look : ∀ id oi, (st.heap.set st.next (.grown (T.lay .nil 0 l) l.length e r)).get id = some oi → (id = st.next ∧ oi = .grown (T.lay .nil 0 l) l.length e r) ∨ (id < st.next ∧ st.heap.get id = some oi) := by
    intro id oi h
    rw [T.get_set] at h
    by_cases hid : id = st.next
    · rw [if_pos hid] at h; cases h; exact .inl ⟨hid, rfl⟩
    · rw [if_neg hid] at h; exact .inr ⟨(hR.obj id oi h).2.1, h⟩
  unfold St.moreGrown
  refine ⟨⟨Nat.le_succ_of_le hR.base, by rw [hhs]; exact hR.room, fun id oi h => ?_, fun i j oi oj hi hj hbl => ?_, fun i j oi oj r' f' hi hri hj hrj hf hjt hbl => ?_, fun b' o' v hv => ?_⟩, ?_⟩
  · rcases look id oi h with ⟨rfl, rfl⟩ | ⟨hlt, h1⟩
    · refine ⟨hR.base, Nat.lt_succ_self _, by rw [hat]; exact j3, by rw [hat, hhs]; exact j4, ?_⟩
      refine ⟨a', fz, ⟨st.next, f.low⟩, by rw [hat]; exact ha', by rw [hsz]; exact hfz0, by rw [hat, hsz]; exact hsz0, by rw [hat, hsz]; exact hfit, by rw [hfs, if_pos rfl], Nat.le_refl _, by omega, fun _ => ?_⟩
      rw [hat]
      intro i hi
      obtain ⟨v, v', k1, k2, k3⟩ := LRel.cells (hl.mono (φ' := φ.upd st.next ⟨(φ b).block, (φ b).shift + o, (φ b).total⟩) (Nat.le_succ st.next) hext) i hi
      exact ⟨v, v', k1, hm _ _ (by simpa using k2), k3⟩
    · obtain ⟨k1, k2, k3, k4, k5⟩ := hR.obj id oi h1
      refine ⟨k1, by simp only; omega, by rw [hext id hlt]; exact k3, by rw [hext id hlt, hhs]; exact k4, ?_⟩
      by_cases hbl : (φ id).block = (φ b).block
      · have hshare : oi.root? = some r := by
          rcases hR.sep id b oi _ h1 hget hbl with h | ⟨r', hr1, hr2⟩
          · subst h; rw [hget] at h1; cases h1; rfl
          · cases hr2; exact hr1
        have hmost := hR.tip id b oi _ r f h1 hshare hget rfl hfam htip.symm hbl
        cases oi with
        | grown ci ni ei ri =>
          cases hshare
          obtain ⟨a2, fz2, f2, ha2, hfz2, hsz2, hle2, hfam2, htip2, hro2, hcs2⟩ := k5
          rw [hbl, ha] at ha2; cases ha2
          rw [hfam] at hfam2; cases hfam2
          refine ⟨a', fz, ⟨st.next, f.low⟩, by rw [hext id hlt, hbl]; exact ha', by rw [hsz]; exact hfz2, by rw [hext id hlt, hsz]; exact hsz2, by rw [hext id hlt, hsz]; exact hle2, by rw [hfs, if_pos rfl], by simp only; omega, hro2, fun hlow => ?_⟩
          rw [hext id hlt]
          intro i hi
          obtain ⟨v, v', q1, q2, q3⟩ := hcs2 hlow i hi
          refine ⟨v, v', q1, ?_, q3.mono (Nat.le_succ _) hext⟩
          simp only [AObj.known] at hmost
          rw [hold _ (by omega)]; exact q2
        | cells => simp [AObj.root?] at hshare
        | map => simp [AObj.root?] at hshare
        | iter => simp [AObj.root?] at hshare
      · refine ObjRel.congr (st := st) (w := w) (hext id hlt) hext (Nat.le_succ _) (hoth _ hbl) (fun r' hr' f' hf' => ?_) k5
        by_cases hrr : r' = r
        · subst hrr
          rw [hfam] at hf'; cases hf'
          exact ⟨⟨st.next, f.low⟩, by rw [hfs, if_pos rfl], rfl, by simp only; omega⟩
        · exact ⟨f', by rw [hfs, if_neg hrr]; exact hf', rfl, Nat.le_refl _⟩
  · have side : ∀ j oj, st.heap.get j = some oj → (φ b).block = (φ j).block → oj.root? = some r := by
      intro j oj hj hbl
      rcases hR.sep j b oj _ hj hget hbl.symm with h | ⟨r', hr1, hr2⟩
      · subst h; rw [hget] at hj; cases hj; rfl
      · cases hr2; exact hr1
    rcases look i oi hi with ⟨rfl, rfl⟩ | ⟨hi1, hi2⟩ <;> rcases look j oj hj with ⟨rfl, rfl⟩ | ⟨hj1, hj2⟩
    · exact .inl rfl
    · rw [hat, hext j hj1] at hbl
      exact .inr ⟨r, rfl, side j oj hj2 hbl⟩
    · rw [hat, hext i hi1] at hbl
      exact .inr ⟨r, side i oi hi2 hbl.symm, rfl⟩
    · rw [hext i hi1, hext j hj1] at hbl
      exact hR.sep i j oi oj hi2 hj2 hbl
  · rw [hfs] at hf
    by_cases hrr : r' = r
    · subst hrr
      rw [if_pos rfl] at hf; cases hf
      have hjn : j = st.next := hjt
      subst hjn
      rcases look _ oj hj with ⟨_, rfl⟩ | ⟨hlt, _⟩
      · rcases look i oi hi with ⟨rfl, rfl⟩ | ⟨hi1, hi2⟩
        · exact Nat.le_refl _
        · rw [hat, hext i hi1] at hbl ⊢
          have := hR.tip i b oi _ r' f hi2 hri hget rfl hfam htip.symm hbl
          simp only [AObj.known] at this ⊢
          omega
      · omega
    · rw [if_neg hrr] at hf
      rcases look i oi hi with ⟨rfl, rfl⟩ | ⟨hi1, hi2⟩
      · cases hri; exact absurd rfl hrr
      · rcases look j oj hj with ⟨rfl, rfl⟩ | ⟨hj1, hj2⟩
        · cases hrj; exact absurd rfl hrr
        · rw [hext i hi1, hext j hj1] at hbl ⊢
          exact hR.tip i j oi oj r' f' hi2 hri hj2 hrj hf hjt hbl
  · obtain ⟨h1, h2, h3, h4⟩ := hR.glob b' o' v hv
    exact ⟨h1, h2, by rw [cell_congr (hoth b' (by omega))]; exact h3, h4⟩
  · refine ⟨Nat.le_succ _, hext, fun id oi hid h => ?_, fun id oi hid h => ?_, fun q _ hq => hoth q fun he => hq b _ hget he.symm, by rw [hhs]; exact Nat.le_refl _, hos, htape, hout⟩
    · rcases look id oi h with ⟨rfl, rfl⟩ | ⟨_, h1⟩
      · omega
      · exact ⟨oi, h1⟩
    · rcases look id oi h with ⟨rfl, rfl⟩ | ⟨h1, _⟩
      · exact .inr ⟨b, _, hget, by rw [hat]⟩
      · omega

end Go.Ev


/- Append, where a new row is made; all of it. -/
namespace Go.Ev
variable {P : Program} {G N0 N : Nat} {g : Glob} {φ : Phi} {st st' : St} {w : World}

/-- The tip of a family grows into a new row. -/
theorem R.regrow (hR : R G N0 g φ st w) {b k r : Nat} {c : T Value} {e : TypeId} {f : Fam} {l m : List Value} {a : Array Value}
    (hget : st.heap.get b = some (.grown c k e r)) (hfam : st.fams.get r = some f) (htip : f.tip = b) (hl : LRel G st.next φ l m) (ha : ∀ (i : Nat) (v : Value), m[i]? = some v → a[i]? = some v) :
    ∃ φ', R G N0 g φ' (st.moreGrown l e r f.low) (w.alloc (.cells a e (0, 0))) ∧ Tr φ st w φ' (st.moreGrown l e r f.low) (w.alloc (.cells a e (0, 0))) ∧ φ' st.next = ⟨w.heap.size, 0, a.size⟩ := by
  have hlen : l.length ≤ a.size := by
    rcases Nat.lt_or_ge a.size l.length with h | h
    · exfalso
      have hm : a.size < m.length := by rw [← hl.get.1]; exact h
      have := ha a.size m[a.size] (by simp)
      simp at this
    · exact h
  have hrn : r < st.next := hR.root_lt hget rfl
  obtain ⟨_, j2, _, _, _, _, f0, _, _, _, _, hfam0, htip0, hro0, _⟩ := hR.obj b _ hget
  rw [hfam] at hfam0; cases hfam0
  -- the tip of a family is one of its members
  have := hR.new (o := .grown (T.lay .nil 0 l) l.length e r) (ob := .cells a e (0, 0)) (l := ⟨w.heap.size, 0, a.size⟩) (fams' := st.fams.set r ⟨st.next, f.low⟩) rfl
    (fun r' f' hr' hf' => by
      by_cases hrr : r' = r
      · subst hrr
        rw [hfam] at hf'; cases hf'
        exact ⟨⟨st.next, f.low⟩, by rw [T.get_set, if_pos rfl], rfl, by
          show f.tip ≤ st.next
          omega⟩
      · exact ⟨f', by rw [T.get_set, if_neg hrr]; exact hf', rfl, Nat.le_refl _⟩)
    (fun r' f' hf' ht => by
      rw [T.get_set] at hf'
      by_cases hrr : r' = r
      · rw [if_pos hrr] at hf'; cases hf'; simp at ht
      · rw [if_neg hrr] at hf'; exact hf')
    (fun φ' h1 h2 => by
      refine ⟨a, (0, 0), ⟨st.next, f.low⟩, by rw [h1, heap_alloc, if_pos rfl], .inl ⟨rfl, rfl⟩, by rw [h1], by rw [h1]; simpa using hlen, by simp [T.get_set], Nat.le_refl _, by omega, fun _ => ?_⟩
      rw [h1]
      intro i hi
      obtain ⟨v, v', k1, k2, k3⟩ := LRel.cells (hl.mono (Nat.le_succ st.next) h2) i hi
      exact ⟨v, v', k1, ha _ _ (by simpa using k2), k3⟩)
  exact ⟨_, this.1, this.2, Phi.upd_at _ _ _⟩

theorem srcCells_sound (hR : R G N0 g φ st w) {size n : Nat} {x x' : Value} {l : List Value} (h : srcCells G g st size x = some (n, l)) (hx : VRel G st.next φ x x') :
    ∃ m, LRel G st.next φ l m ∧ m.length = n * size ∧ (∀ w, (Builtin.lenOf x').run P w = .ok n w) ∧ (∀ w' : World, w'.heap = w.heap → (Builtin.firstCells size n x').run P w' = .ok m.toArray w') := by
  unfold srcCells at h
  split at h
  · rename_i n' c
    split at h
    · rename_i h0
      cases h
      obtain rfl : x' = .slice none n' c := hx.flat_eq rfl
      subst h0
      exact ⟨[], trivial, by simp, fun w => rfl, fun w' _ => rfl⟩
    · cases h
  · rename_i b o n' c
    obtain ⟨hg, hb, a', cap', rfl, hcase⟩ := hx.slice_inv
    split at h
    · rename_i l' hl
      cases h
      obtain ⟨m, h1, h2, h3⟩ := ldN_sound hR _ _ _ hl
      refine ⟨m, h1, h2, fun w => rfl, fun w' hw' => ?_⟩
      have h3' : ∀ (j : Nat) (v : Value), m[j]? = some v → w'.cell? ((φ.conc G b o).add j) = some v := fun j v hj => by
        have := h3 j v hj; simpa [World.cell?, hw'] using this
      show (loadCells a' (n * size)).run P w' = _
      rcases hcase with ⟨_, _, rfl⟩ | ⟨_, _, _, _, rfl⟩ | ⟨_, _, rfl, _⟩
      · rw [Phi.at_conc hg, ← h2]; exact run_loadCells_list w' _ _ h3'
      · rw [Phi.at_conc hg, ← h2]; exact run_loadCells_list w' _ _ h3'
      · have : m = [] := List.eq_nil_of_length_eq_zero (by simpa using h2)
        subst this
        simp [loadCells, loadCellsFrom]
    · cases h
  · rename_i s
    split at h
    · rename_i h1
      cases h
      obtain rfl : x' = .string s := hx.string_inv
      have hfl : flatL (s.data.toList.map fun b => Value.int .u8 b.toNat) = true := by
        generalize s.data.toList = l
        induction l with
        | nil => rfl
        | cons b l ih => simp only [List.map_cons, flatL, ih]; rfl
      refine ⟨_, LRel.refl_flat hfl, by subst h1; rw [List.length_map, Nat.mul_one, Array.length_toList]; rfl, fun w => rfl, fun w' _ => ?_⟩
      have he : s.extract 0 s.size = s := ByteArray.extract_zero_size
      have he2 : (s.data.map fun b => Value.int .u8 b.toNat) = (s.data.toList.map fun b => Value.int .u8 b.toNat).toArray := by
        apply Array.ext'; simp
      simp only [Builtin.firstCells, he, he2]
      rfl
    · cases h
  · cases h


section
variable {sT xT ty elem : TypeId} {i : TypeInfo} {n : Nat} {m : List Value} {x' : Value} {d : TypeDesc}

def SrcT (d : TypeDesc) : Prop := d = .string ∨ ∃ e, d = .slice e

theorem run_append_in (ht : P.underlying sT = some (.slice elem)) (hi : P.info? elem = some i) (hx : P.underlying xT = some d) (hd : SrcT d)
    (hlen : ∀ w, (Builtin.lenOf x').run P w = .ok n w) (hf : (Builtin.firstCells i.size n x').run P w = .ok m.toArray w) {a : Addr} {len cap : Nat} {w' : World} (hfit : len + n ≤ cap)
    (hst : (storeCells (a.add (len * i.size)) m 0).run P w = .ok () w') :
    (Builtin.append_ #[sT, xT] ty #[.slice (some a) len cap, x']).run P w = .ok (.slice (some a) (len + n) cap) w' := by
  rcases hd with rfl | ⟨e, rfl⟩
  · simp [Builtin.append_, run_underlying ht, run_underlying hx, sizeOf, typeInfo, hi, hlen, hfit, hf, hst]
  · simp [Builtin.append_, run_underlying ht, run_underlying hx, sizeOf, typeInfo, hi, hlen, hfit, hf, hst]

theorem run_append_nothing (ht : P.underlying sT = some (.slice elem)) (hi : P.info? elem = some i) (hx : P.underlying xT = some d) (hd : SrcT d)
    (hlen : ∀ w, (Builtin.lenOf x').run P w = .ok 0 w) (hf : (Builtin.firstCells i.size 0 x').run P w = .ok #[] w) {a : Option Addr} {len cap : Nat} (hfit : len ≤ cap) :
    (Builtin.append_ #[sT, xT] ty #[.slice a len cap, x']).run P w = .ok (.slice a len cap) w := by
  rcases hd with rfl | ⟨e, rfl⟩ <;> cases a <;>
    simp [Builtin.append_, run_underlying ht, run_underlying hx, sizeOf, typeInfo, hi, hlen, hfit, hf, storeCells]

theorem run_append_out (ht : P.underlying sT = some (.slice elem)) (hi : P.info? elem = some i) (hx : P.underlying xT = some d) (hd : SrcT d) {z : Value} (hz : i.zero = some z) (hbytes : i.bytes ≠ 0)
    (hlen : ∀ w, (Builtin.lenOf x').run P w = .ok n w) (hf : ∀ w' : World, w'.heap = w.heap → (Builtin.firstCells i.size n x').run P w' = .ok m.toArray w') {a : Option Addr} {len cap : Nat} {old : List Value}
    (hold : ∀ w' : World, w'.heap = w.heap → (Builtin.firstCells i.size len (.slice a len cap)).run P w' = .ok old.toArray w') (hno : cap < len + n)
    (hcap : Builtin.nextslicecap (len + n) cap * i.bytes ≤ 281474976710656) :
    (Builtin.append_ #[sT, xT] ty #[.slice a len cap, x']).run P w = .ok (.slice (some ⟨w.heap.size, 0, none⟩) (len + n) (grownCap w (len + n) cap elem))
      (w.drew.alloc (.cells (old.toArray ++ m.toArray ++ Builtin.zeroCells z.cells (grownCap w (len + n) cap elem - (len + n))) elem (0, 0))) := by
  have h1 : ¬ len + n ≤ cap := by omega
  have h2 : len + n ≤ 281474976710656 := by
    have k1 := le_nextslicecap hno
    have k2 : Builtin.nextslicecap (len + n) cap * 1 ≤ Builtin.nextslicecap (len + n) cap * i.bytes := Nat.mul_le_mul_left _ (by omega)
    omega
  have h63 : ¬ (9223372036854775807 < ((len : Int) + (n : Int))) := by omega
  have h48 : ¬ (281474976710656 < Builtin.nextslicecap (len + n) cap * i.bytes) := by omega
  have hf' := hf w.drew rfl
  have hold' := hold w.drew rfl
  have hroom : ∀ n w, (askRoom n).run P w = .ok () w := fun n w => by unfold askRoom; split <;> rfl
  rcases hd with rfl | ⟨e, rfl⟩ <;>
    (simp [Builtin.append_, run_underlying ht, run_underlying hx, sizeOf, typeInfo, zeroValue, hi, hz, hlen, h1, h63, h48, Question.forced, hf', hold', newRow, grownCap, hroom]
     try (congr 2; apply Array.ext'; simp [List.append_assoc]))
end


theorem zeroFits_spec {i : TypeInfo} (h : ¬ zeroFits i = false) : ∃ z, i.zero = some z ∧ z.cells.size = i.size := by
  unfold zeroFits at h
  cases hz : i.zero with
  | none => simp [hz] at h
  | some z =>
    simp only [hz] at h
    refine ⟨z, rfl, ?_⟩
    cases hb : Nat.beq z.cells.size i.size with
    | true => exact Nat.eq_of_beq_eq_true hb
    | false => simp [hb] at h

theorem LRel.append {a b c d : List Value} : LRel G N φ a b → LRel G N φ c d → LRel G N φ (a ++ c) (b ++ d) := by
  induction a generalizing b with
  | nil => cases b with
    | nil => exact fun _ h => h
    | cons => exact fun h => h.elim
  | cons x a ih => cases b with
    | nil => exact fun h => h.elim
    | cons y b => exact fun h k => ⟨h.1, ih h.2 k⟩

theorem LRel.one : ∀ {l m : List Value}, LRel G N φ l m → oneL l = true → ∀ v ∈ m, v.oneCell' = true
  | [], [], _, _ => fun v h => by simp at h
  | v :: l, u :: m, h, h1 => by
    simp only [oneL, Bool.and_eq_true] at h1
    intro x hx
    rcases List.mem_cons.1 hx with rfl | hx
    · exact h.1.one h1.1
    · exact LRel.one h.2 h1.2 x hx
  | [], _ :: _, h, _ => h.elim
  | _ :: _, [], h, _ => h.elim

/-- What a step of the evaluator's promises: the run goes on, in a world that the evaluator's memory stands for. -/
def Goes (P : Program) (G N0 : Nat) (g : Glob) (φ : Phi) (st : St) (w : World) (v : Value) (st' : St) (s : Sem Value) : Prop :=
  ∃ v' w' φ', s.run P w = .ok v' w' ∧ R G N0 g φ' st' w' ∧ Tr φ st w φ' st' w' ∧ VRel G st'.next φ' v v'

theorem alloc_drew_heap (w : World) : w.drew.heap = w.heap := rfl

theorem evalAppend_sound (hR : R G N0 g φ st w) {sT xT ty : TypeId} {s s' x x' v : Value} (h : evalAppend P G g st sT xT s x = some (v, st')) (hs : VRel G st.next φ s s') (hx : VRel G st.next φ x x') :
    Goes P G N0 g φ st w v st' (Builtin.append_ #[sT, xT] ty #[s', x']) := by
  unfold evalAppend at h
  split at h
  case h_2 => cases h
  rename_i elem hu
  split at h
  case h_2 => cases h
  rename_i i hi
  split at h
  case h_2 => cases h
  rename_i hxT
  have hsrc : ∃ d, P.underlying xT = some d ∧ SrcT d := by
    split at hxT
    · rename_i hd; exact ⟨_, hd, .inl rfl⟩
    · rename_i e hd; exact ⟨_, hd, .inr ⟨e, rfl⟩⟩
    · cases hxT
  obtain ⟨d, hxd, hd⟩ := hsrc
  split at h
  · cases h
  rename_i hok
  have hs0 : i.size ≠ 0 := fun h => hok (.inl h)
  have hb0 : i.bytes ≠ 0 := fun h => hok (.inr (.inl h))
  obtain ⟨z, hz, hzs⟩ := zeroFits_spec (fun h => hok (.inr (.inr h)))
  split at h
  case h_2 => cases h
  rename_i n new hnew
  obtain ⟨m, hm, hml, hlen, hcells⟩ := srcCells_sound (P := P) hR hnew hx
  split at h
  · cases h
  rename_i hone
  have hone' : oneL new = true := by simpa using hone
  have hsizes : ∀ (old : List Value) (len cap : Nat), old.length = len * i.size → (old.toArray ++ m.toArray ++ Builtin.zeroCells z.cells (grownCap w (len + n) cap elem - (len + n)) : Array Value).size = grownCap w (len + n) cap elem * i.size := by
    intro old len cap ho
    have hge := grownCap_ge w (len + n) cap elem
    simp only [Array.size_append, List.size_toArray, size_zeroCells, hzs, ho, hml]
    rw [← Nat.add_mul, ← Nat.add_mul]
    congr 1; omega
  have hpre : ∀ (old : List Value) (cap len : Nat) (j : Nat) (u : Value), (old ++ m)[j]? = some u → (old.toArray ++ m.toArray ++ Builtin.zeroCells z.cells (grownCap w (len + n) cap elem - (len + n)) : Array Value)[j]? = some u := by
    intro old cap len j u hj
    have hlt : j < (old ++ m).length := by
      rcases Nat.lt_or_ge j (old ++ m).length with h | h
      · exact h
      · rw [List.getElem?_eq_none h] at hj; cases hj
    rw [Array.getElem?_append_left (by simpa using hlt)]
    simpa using hj
  split at h
  · -- nil
    rename_i len cap
    obtain rfl : s' = .slice none len cap := hs.flat_eq rfl
    split at h
    case isFalse => cases h
    rename_i h0
    obtain ⟨rfl, rfl⟩ := h0
    split at h
    · rename_i hn
      cases h
      subst hn
      have hm0 : m = [] := List.eq_nil_of_length_eq_zero (by simpa using hml)
      subst hm0
      exact ⟨_, w, φ, run_append_nothing hu hi hxd hd hlen (hcells w rfl) (Nat.le_refl 0), hR, Tr.refl _ _ _, .flat rfl⟩
    · rename_i hn
      split at h
      case isFalse => cases h
      rename_i hcap
      cases h
      have hrun := run_append_out (ty := ty) (m := m) (a := none) (len := 0) (cap := 0) (old := []) hu hi hxd hd hz hb0 hlen hcells (fun w' _ => rfl) (by omega) (by simpa [evalAppend.nextcap] using hcap)
      have hR' := hR.drew (w.drawn + 1)
      obtain ⟨φ', k1, k2, k3⟩ := R.newGrown (e := elem) (a := ([] : List Value).toArray ++ m.toArray ++ Builtin.zeroCells z.cells (grownCap w (0 + n) 0 elem - (0 + n))) (fz := (0, 0)) hR' hm
        (fun j u hj => hpre [] 0 0 j u (by simpa using hj)) (.inl ⟨rfl, rfl⟩)
      refine ⟨_, _, φ', hrun, k1, (Tr.drew φ st w _).trans k2, ?_⟩
      rw [Nat.zero_add]
      have hconc : (⟨w.heap.size, 0, none⟩ : Addr) = φ'.at st.next 0 := by rw [Phi.at, k3]
      rw [hconc]
      refine .grown hR.base (Nat.lt_succ_self _) (by simpa using grownCap_ge w (0 + n) 0 elem) ?_
      rw [k3, hsizes [] 0 0 (by simp)]
      simp
  · rename_i b o len cap
    obtain ⟨hg, hbN, a', cap', rfl, hcase⟩ := hs.slice_inv
    split at h
    · -- a known cap
      rename_i hc
      have hcase' : cap' = cap ∧ a' = φ.at b o := by
        rcases hcase with ⟨_, h1, h2⟩ | ⟨e, h1, _⟩ | ⟨e, h1, _⟩
        · exact ⟨h1, h2⟩
        · omega
        · omega
      obtain ⟨rfl, rfl⟩ := hcase'
      split at h
      · rename_i hfit
        split at h
        case h_2 => cases h
        rename_i st₁ hst
        cases h
        obtain ⟨w', k1, k2, k3, k4⟩ := stN_sound P new m (o + len * i.size) 0 st st' w hR hst hm
        have hrun := run_append_in (ty := ty) (a := φ.at b o) (len := len) (cap := cap') hu hi hxd hd hlen (hcells w rfl) hfit (w' := w') (by rw [Phi.at_conc hg, Phi.conc_add]; exact k1)
        exact ⟨_, w', φ, hrun, k2, k3, by rw [k4]; exact .slice hg hbN hc⟩
      · rename_i hfit
        split at h
        case isFalse => cases h
        rename_i hcap
        split at h
        case h_2 => cases h
        rename_i old hold
        split at h
        case isFalse => cases h
        cases h
        obtain ⟨mo, q1, q2, q3⟩ := ldN_sound hR _ _ _ hold
        have hold' : ∀ w' : World, w'.heap = w.heap → (Builtin.firstCells i.size len (.slice (some (φ.at b o)) len cap')).run P w' = .ok mo.toArray w' := fun w' hw' => by
          show (loadCells (φ.at b o) (len * i.size)).run P w' = _
          rw [← q2, Phi.at_conc hg]
          exact run_loadCells_list w' _ _ fun j u hj => by have := q3 j u hj; simpa [World.cell?, hw'] using this
        have hrun := run_append_out (ty := ty) (m := m) (a := some (φ.at b o)) (len := len) (cap := cap') (old := mo) hu hi hxd hd hz hb0 hlen hcells hold' (by omega) (by simpa [evalAppend.nextcap] using hcap)
        have hR' := hR.drew (w.drawn + 1)
        obtain ⟨φ', k1, k2, k3⟩ := R.newGrown (e := elem) (a := mo.toArray ++ m.toArray ++ Builtin.zeroCells z.cells (grownCap w (len + n) cap' elem - (len + n))) (fz := (0, 0)) hR' (q1.append hm)
          (fun j u hj => hpre mo cap' len j u hj) (.inl ⟨rfl, rfl⟩)
        refine ⟨_, _, φ', hrun, k1, (Tr.drew φ st w _).trans k2, ?_⟩
        have hconc : (⟨w.heap.size, 0, none⟩ : Addr) = φ'.at st.next 0 := by rw [Phi.at, k3]
        rw [hconc]
        refine .grown hR.base (Nat.lt_succ_self _) (grownCap_ge w (len + n) cap' elem) ?_
        rw [k3, hsizes mo len cap' q2]
        simp
    · split at h
      case isFalse => cases h
      rename_i hnc hc
      subst hc
      have hlc : len ≤ cap' := by
        rcases hcase with ⟨h1, _, _⟩ | ⟨e, _, h2, _⟩ | ⟨e, _, h2, h3⟩
        · omega
        · exact h2
        · omega
      split at h
      · rename_i hn
        cases h
        subst hn
        have hm0 : m = [] := List.eq_nil_of_length_eq_zero (by simpa using hml)
        subst hm0
        exact ⟨_, w, φ, run_append_nothing hu hi hxd hd hlen (hcells w rfl) hlc, hR, Tr.refl _ _ _, hs⟩
      · rename_i hn
        split at h
        case isFalse => cases h
        rename_i hcap
        split at h
        case h_2 => cases h
        rename_i cb k e r hget
        split at h
        case h_2 => cases h
        rename_i f hfam
        split at h
        case isFalse => cases h
        rename_i hcond
        obtain ⟨htip, hend, rfl⟩ := hcond
        split at h
        case h_2 => cases h
        rename_i old hold
        cases h
        obtain ⟨mo, q1, q2, q3⟩ := ldN_sound hR _ _ _ hold
        obtain ⟨j1, j2, j3, j4, arr, fz, f0, ha0, hfz0, hsz0, hle0, hfam0, htip0, hro0, hcs0⟩ := hR.obj b _ hget
        by_cases hfit : len + n ≤ cap'
        · -- in place
          have hcase' : a' = φ.at b o ∧ (φ b).shift + o + cap' * i.size ≤ (φ b).total := by
            rcases hcase with ⟨h1, _, _⟩ | ⟨e', he, _, h3, h4⟩ | ⟨e', _, h2, h3⟩
            · omega
            · obtain rfl : i.size = e' := by omega
              exact ⟨h4, h3⟩
            · omega
          obtain ⟨rfl, hroom⟩ := hcase'
          have hneed : (len + n) * i.size ≤ cap' * i.size := Nat.mul_le_mul_right _ hfit
          rw [Nat.add_mul] at hneed
          obtain ⟨w', a'', k1, k2, k3, k4, k5, k6, k7, k8, k9, k10⟩ := run_store_row P (B := (φ b).block) (off := (φ b).shift + k) m 0 w arr ha0 hfz0 (by rw [hml]; omega) (hm.one hone')
          have hrun := run_append_in (ty := ty) (a := φ.at b o) (len := len) (cap := cap') hu hi hxd hd hlen (hcells w rfl) hfit (w' := w') (by
            have e1 : (φ.at b o).add (len * i.size) = ⟨(φ b).block, (φ b).shift + k, none⟩ := by
              rw [Phi.at_conc hg, Phi.conc_add, ← Phi.at_conc hg, Phi.at, hend]
            rw [e1]; exact k1)
          have hlm : (mo ++ m).length = len * i.size + n * i.size := by simp [q2, hml]
          have hext := hR.extend (l := old ++ new) (m := mo ++ m) (o := o) hget hfam htip ha0 k2 k3 (fun q hq => k5 q (by omega)) k6 k7 k8 k9 k10 (q1.append hm) (fun j u hj => by
              rw [List.getElem?_append] at hj
              split at hj
              · rename_i hjl
                have := q3 j u hj
                rw [Phi.conc_add, ← Phi.at_conc hg, Phi.at, cell_of_block ha0] at this
                rw [k5 _ (by omega)]
                rw [← this]; congr 1; omega
              · rename_i hjl
                have := k4 (j - mo.length) u hj
                rw [← this]; congr 1; omega)
            (by rw [(q1.append hm).get.1, hlm]; omega) (by rw [(q1.append hm).get.1, hlm]; omega)
          refine ⟨_, w', _, hrun, hext.1, hext.2, ?_⟩
          have hat : φ.at b o = (φ.upd st.next ⟨(φ b).block, (φ b).shift + o, (φ b).total⟩).at st.next 0 := by
            rw [Phi.at, Phi.at, Phi.upd_at]; rfl
          rw [hat]
          refine .grown hR.base (Nat.lt_succ_self _) hfit ?_
          rw [Phi.upd_at]
          simp only [Nat.add_zero]
          exact hroom
        · -- a new row
          have hcap2 : Builtin.nextslicecap (len + n) cap' * i.bytes ≤ 281474976710656 := by
            have h1 := nextslicecap_le (need := len + n) (old := cap') (by omega)
            have h2 : Builtin.nextslicecap (len + n) cap' * i.bytes ≤ (2 * (len + n) + 1000) * i.bytes := Nat.mul_le_mul_right _ (by omega)
            omega
          have hold' : ∀ w' : World, w'.heap = w.heap → (Builtin.firstCells i.size len (.slice (some a') len cap')).run P w' = .ok mo.toArray w' := fun w' hw' => by
            show (loadCells a' (len * i.size)).run P w' = _
            have hcl : ∀ (j : Nat) (u : Value), mo[j]? = some u → w'.cell? ((φ.conc G b o).add j) = some u := fun j u hj => by have := q3 j u hj; simpa [World.cell?, hw'] using this
            rcases hcase with ⟨h1, _, _⟩ | ⟨_, _, _, _, rfl⟩ | ⟨_, _, h2, _⟩
            · omega
            · rw [← q2, Phi.at_conc hg]; exact run_loadCells_list w' _ _ hcl
            · have : mo = [] := List.eq_nil_of_length_eq_zero (by rw [q2, h2]; simp)
              subst this; subst h2
              simp [loadCells, loadCellsFrom]
          have hrun := run_append_out (ty := ty) (m := m) (a := some a') (len := len) (cap := cap') (old := mo) hu hi hxd hd hz hb0 hlen hcells hold' (by omega) hcap2
          have hR' := hR.drew (w.drawn + 1)
          obtain ⟨φ', k1, k2, k3⟩ := R.regrow (l := old ++ new) (a := mo.toArray ++ m.toArray ++ Builtin.zeroCells z.cells (grownCap w (len + n) cap' e - (len + n))) hR' hget hfam htip (q1.append hm)
            (fun j u hj => hpre mo cap' len j u hj)
          refine ⟨_, _, φ', hrun, k1, (Tr.drew φ st w _).trans k2, ?_⟩
          have hconc : (⟨w.heap.size, 0, none⟩ : Addr) = φ'.at st.next 0 := by rw [Phi.at, k3]
          rw [hconc]
          refine .grown hR.base (Nat.lt_succ_self _) (grownCap_ge w (len + n) cap' e) ?_
          rw [k3, hsizes mo len cap' q2]
          simp
  · cases h

end Go.Ev


/- Bytes of a string; one operation. -/
namespace Go.Ev
variable {P : Program} {G N0 N : Nat} {g : Glob} {φ : Phi} {st st' : St} {w : World}

theorem shape_alloc (w : World) (C : Array Value) (e : TypeId) : (w.alloc (.cells C e)).shape? w.heap.size = some (e, C.size) := by
  have : (w.alloc (.cells C e)).heap[w.heap.size]? = some (.cells C e) := by rw [heap_alloc, if_pos rfl]
  unfold World.shape?
  rw [this]

theorem freeze_alloc (w : World) (C : Array Value) (e : TypeId) (k : Nat) : (w.alloc (.cells C e)).freeze ⟨w.heap.size, k, none⟩ 1 = w.alloc (.cells C e (k, k + 1)) := by
  have hm : ∀ (a : Array Obj) (x : Obj) (f : Obj → Obj), (a.push x).modify a.size f = a.push (f x) := by
    intro a x f
    apply Array.ext
    · simp
    · intro i h1 h2
      simp only [Array.getElem_modify, Array.getElem_push]
      by_cases hi : a.size = i
      · subst hi; simp
      · rw [if_neg hi]
        have : i < a.size := by simp at h2; omega
        simp [this]
  show (if 1 = 0 then _ else ({ (w.alloc (.cells C e)) with heap := (w.heap.push (.cells C e)).modify w.heap.size _ } : World)) = _
  rw [if_neg (by decide), hm]
  rfl

/-- The cells of a slice of bytes made out of a string. -/
def strCells (s : ByteArray) (cap : Nat) : Array Value := s.data.map (fun b : UInt8 => Value.int .u8 b.toNat) ++ Array.replicate (cap - s.size) (Value.int .u8 0)

theorem run_toBytes {src dst e : TypeId} {s : ByteArray} (hs : P.underlying src = some .string) (hd : P.underlying dst = some (.slice e)) (he : P.underlying e = some (.int .u8)) (w : World) :
    (convert src dst (.string s)).run P w = .ok (.slice (some ⟨w.heap.size, 0, none⟩) s.size (grownCap w s.size 0 e))
      (w.drew.alloc (.cells (strCells s (grownCap w s.size 0 e)) e ((strCells s (grownCap w s.size 0 e)).size, (strCells s (grownCap w s.size 0 e)).size + 1))) := by
  have h1 : (choose (.appendCap s.size 0 e)).run P w = .ok (grownCap w s.size 0 e) w.drew := by
    simp [Question.forced, grownCap]
  generalize grownCap w s.size 0 e = cap at *
  have h2 : ∀ (C : Array Value), (shape w.drew.heap.size).run P (w.drew.alloc (.cells C e)) = .ok (some (e, C.size)) (w.drew.alloc (.cells C e)) := fun C => by
    show Result.ok ((w.drew.alloc (.cells C e)).shape? w.drew.heap.size) _ = _
    rw [shape_alloc]
  have h3 : ∀ (C : Array Value) (k : Nat), (freeze ⟨w.drew.heap.size, k, none⟩ 1).run P (w.drew.alloc (.cells C e)) = .ok () (w.drew.alloc (.cells C e (k, k + 1))) := fun C k => by
    show Result.ok () ((w.drew.alloc (.cells C e)).freeze ⟨w.drew.heap.size, k, none⟩ 1) = _
    rw [freeze_alloc]
  have h4 : ∀ (C : Array Value), (newRow e C).run P w.drew = .ok ⟨w.drew.heap.size, 0, none⟩ (w.drew.alloc (.cells C e)) := fun C => rfl
  simp only [convert, Sem.run_bind, run_underlying hs, run_underlying hd, run_underlying he, Result.andThen_ok, Conv.stringToBytes, h1, h4, Sem.run_pure, markStringish, h2, h3]
  rfl

theorem evalToBytes_sound (hR : R G N0 g φ st w) {src dst : TypeId} {x x' v : Value} (h : evalToBytes P st src dst x = some (v, st')) (hx : VRel G st.next φ x x') :
    Goes P G N0 g φ st w v st' (convert src dst x') := by
  unfold evalToBytes at h
  split at h
  · rename_i e s hs hd
    split at h
    · rename_i he
      cases h
      obtain rfl : x' = .string s := hx.string_inv
      have hfl : flatL (s.data.toList.map fun b => Value.int .u8 b.toNat) = true := by
        generalize s.data.toList = l
        induction l with
        | nil => rfl
        | cons b l ih => simp only [List.map_cons, flatL, ih]; rfl
      have hge := grownCap_ge w s.size 0 e
      have hsz : (strCells s (grownCap w s.size 0 e)).size = grownCap w s.size 0 e := by
        unfold strCells
        simp only [Array.size_append, Array.size_map, Array.size_replicate]
        have : s.data.size = s.size := rfl
        omega
      have hR' := hR.drew (w.drawn + 1)
      obtain ⟨φ', k1, k2, k3⟩ := R.newGrown (e := e) (a := strCells s (grownCap w s.size 0 e))
        (fz := ((strCells s (grownCap w s.size 0 e)).size, (strCells s (grownCap w s.size 0 e)).size + 1)) hR' (LRel.refl_flat hfl)
        (fun j u hj => by
          have hlt : j < s.data.size := by
            rcases Nat.lt_or_ge j s.data.size with h | h
            · exact h
            · rw [List.getElem?_eq_none (by simpa using h)] at hj; cases hj
          unfold strCells
          rw [Array.getElem?_append_left (by simpa using hlt)]
          simpa using hj)
        (.inr (Nat.le_refl _))
      refine ⟨_, _, φ', run_toBytes hs hd he w, k1, (Tr.drew φ st w _).trans k2, ?_⟩
      have hconc : (⟨w.heap.size, 0, none⟩ : Addr) = φ'.at st.next 0 := by rw [Phi.at, k3]
      rw [hconc]
      refine .grown hR.base (Nat.lt_succ_self _) hge ?_
      rw [k3, hsz]
      simp
    · cases h
  · cases h

/-- What the evaluator's caller promises. -/
def CallOk (P : Program) (G N0 : Nat) (g : Glob) (call : Caller) : Prop :=
  ∀ f args st v st', call f args st = some (v, st') → ∀ φ w args', R G N0 g φ st w → ARel G st.next φ ⟨args⟩ args' →
    Calls P f args' w fun e w' => ∃ v' φ', e = .returned v' ∧ R G N0 g φ' st' w' ∧ Tr φ st w φ' st' w' ∧ VRel G st'.next φ' v v'

/-- What is known of functions without a body is so. -/
def ExtOk (P : Program) (ext : Ext) : Prop :=
  ∀ f h args v, ext f = some h → h args = some v → flat v = true ∧ ∀ w, (callFunc f ⟨args⟩).run P w = .ok (.value v) w

/-- What one operation of the evaluator's promises, of a way on that is wished for. -/
theorem Goes.wp {v : Value} {o : Oper} {a : Act} {s : Sem Value} (h : Goes P G N0 g φ st w v st' s) (he : execOp a.eval o = (do pure (.value (← s))))
    {K : Act → World → Prop} {Q : Exit → Act → World → Prop} (hK : ∀ v' w' φ', R G N0 g φ' st' w' → Tr φ st w φ' st' w' → VRel G st'.next φ' v v' → K (a.put o.dst v') w') : o.wp P a w K Q := by
  obtain ⟨v', w', φ', h1, h2, h3, h4⟩ := h
  unfold Oper.wp
  rw [he]
  simp only [Sem.run_bind, h1, Result.andThen_ok, Sem.run_pure]
  exact hK v' w' φ' h2 h3 h4

theorem evalQuiet_sound {ρ ρ' : Operand → Value} {o : Oper} {v : Value} (h : evalQuiet P G ρ o = some v) (hr : OpRel G N φ o ρ ρ') :
    ∃ v', VRel G N φ v v' ∧ ∀ w, (execOp ρ' o).run P w = .ok (.value v') w := by
  unfold evalQuiet at h
  split at h
  · rename_i u hu; cases h; exact evalFast_sound hu hr
  · split at h
    · rename_i u hu; cases h; exact evalPure_sound hu hr
    · exact ⟨v, evalFlat_sound h hr⟩

theorem run_getMap {w : World} {r : Nat} {es : Array MapEntry} {clock : Nat} (hb : w.heap[r]? = some (.map es clock)) : (getObj r).run P w = .ok (.map es clock) w := by
  simp [getObj, Sem.run, hb]

theorem run_lookup_empty {w : World} {b c : Nat} {t k e : TypeId} {i : Value} {ok : Bool} (ht : P.underlying t = some (.map k e)) (h : w.heap[b]? = some (.map #[] c)) :
    (Instr.lookup t (.map (some b)) i ok).run P w = (Instr.lookup t (.map none) i ok).run P w := by
  have hg := run_getMap (P := P) h
  unfold Instr.lookup
  simp only [Sem.run_bind, run_underlying ht, hg, Result.andThen_ok, Sem.run_pure]

theorem VRel.map_inv {r : Nat} {v' : Value} (h : VRel G N φ (.map (some r)) v') : v' = .map (some (φ r).block) := by
  cases h with
  | flat hf => simp [Go.Ev.flat] at hf
  | map _ _ => rfl

theorem evalRead_sound (hR : R G N0 g φ st w) {ρ ρ' : Operand → Value} {o : Oper} {v : Value} (h : evalRead P G g st ρ o = some v) (hr : OpRel G st.next φ o ρ ρ') :
    ∃ v', VRel G st.next φ v v' ∧ (execOp ρ' o).run P w = .ok (.value v') w := by
  obtain ⟨dst, op, type, pos, after, guard⟩ := o
  unfold OpRel at hr
  simp only at hr
  unfold evalRead at h
  simp only at h
  split at h
  · rename_i t x
    obtain ⟨v', h1, h2⟩ := evalLoad_sound (P := P) hR h (hr x (by simp [Op.operands]))
    exact ⟨v', h2, by simp [execOp, h1]⟩
  · rename_i s d x
    obtain ⟨h1, h2⟩ := evalToString_sound hR h (hr x (by simp [Op.operands]))
    exact ⟨v, h1, by simp [execOp, h2]⟩
  · rename_i t x ix ok
    split at h
    · rename_i r hx0
      have hxt : ∃ k e, P.underlying t = some (.map k e) ∧ ρ x = .map (some r) := by
        split at hx0
        · rename_i k e ht
          exact ⟨k, e, ht, hx0⟩
        · cases hx0
      obtain ⟨k, e, ht, hx⟩ := hxt
      split at h
      · rename_i clock hobj
        split at h
        · rename_i hfl
          split at h
          · rename_i u hp
            split at h
            · rename_i hfv
              cases h
              have hxr := hr x (by simp [Op.operands])
              have hir := hr ix (by simp [Op.operands])
              rw [hx] at hxr
              obtain ⟨_, _, _, _, hrel⟩ := hR.obj r _ hobj
              obtain ⟨a, ha, hsz, _⟩ := hrel
              have ha0 : a = #[] := by apply Array.ext'; exact List.eq_nil_of_length_eq_zero (by simpa using hsz)
              subst ha0
              have hxe : ρ' x = .map (some (φ r).block) := hxr.map_inv
              refine ⟨v, .flat hfv, ?_⟩
              simp only [execOp, hxe, hir.flat_eq hfl, Sem.run_bind]
              rw [run_lookup_empty ht ha, peek_run hp w]
              rfl
            · cases h
          · cases h
        · cases h
      · cases h
    · cases h
  · cases h

theorem ARel.append {a b c d : Array Value} (h : ARel G N φ a b) (k : ARel G N φ c d) : ARel G N φ (a ++ c) (b ++ d) := by
  refine ⟨by simp [h.1, k.1], fun i v v' h1 h2 => ?_⟩
  rw [Array.getElem?_append] at h1 h2
  split at h1
  · rename_i hi
    rw [if_pos (h.1 ▸ hi)] at h2
    exact h.2 _ _ _ h1 h2
  · rename_i hi
    rw [if_neg (h.1 ▸ hi), ← h.1] at h2
    exact k.2 _ _ _ h1 h2

theorem VRel.func_inv {fn : Fn} {f c : Array Value} {v' : Value} (h : VRel G N φ (.func fn f c) v') : ∃ f' c', v' = .func fn f' c' ∧ ARel G N φ f f' ∧ ARel G N φ c c' := by
  cases h with
  | flat hf =>
    simp only [Go.Ev.flat, Bool.and_eq_true] at hf
    exact ⟨f, c, rfl, ARel.refl_flat hf.1, ARel.refl_flat hf.2⟩
  | func a b d e => exact ⟨_, _, rfl, ⟨a, d⟩, ⟨b, e⟩⟩

theorem ARel.flat_eq {a b : Array Value} (h : ARel G N φ a b) (hf : flatA a = true) : b = a := by
  apply Array.ext_getElem?
  intro i
  by_cases hi : i < a.size
  · have h1 := Array.getElem?_eq_getElem hi
    have h2 := Array.getElem?_eq_getElem (h.1 ▸ hi : i < b.size)
    rw [h1, h2, (h.2 i _ _ h1 h2).flat_eq (flatA_all hf h1)]
  · have := h.1
    rw [Array.getElem?_eq_none (by omega), Array.getElem?_eq_none (by omega)]

theorem Handle.rel {N b : Nat} {k : Handle} (hk : k.ok = true) (hG : G ≤ b) (hb : b < N) : VRel G N φ (k.value ⟨b, 0, none⟩) (k.value (φ.conc G b 0)) := by
  cases k with
  | ptr => exact VRel.mk_ptr (.inr hb)
  | slice l c => rw [← Phi.at_conc hG]; exact .slice hG hb (blt_true hk)

theorem evalLoud_sound {ext : Ext} {call : Caller} (hc : CallOk P G N0 g call) (hext : ExtOk P ext) (hR : R G N0 g φ st w) {o : Oper} {a : Act} {ρ : Operand → Value} {v : Value}
    (h : evalLoud P G g ext call st ρ o = some (v, st')) (hr : OpRel G st.next φ o ρ a.eval) {K : Act → World → Prop} {Q : Exit → Act → World → Prop}
    (hK : ∀ v' w' φ', R G N0 g φ' st' w' → Tr φ st w φ' st' w' → VRel G st'.next φ' v v' → K (a.put o.dst v') w') : o.wp P a w K Q := by
  obtain ⟨dst, op, type, pos, after, guard⟩ := o
  unfold OpRel at hr
  simp only at hr
  have allocCase : (match evalAlloc P ρ op with
      | some (l, e, k) => if k.ok then some (k.value ⟨st.next, 0, none⟩, st.newCells l e) else none
      | none => none) = some (v, st') → Oper.wp P ⟨dst, op, type, pos, after, guard⟩ a w K Q := by
    intro h
    split at h
    · rename_i l e k hal
      split at h
      · rename_i hk
        cases h
        obtain ⟨m, h1, h2⟩ := evalAlloc_sound (o := ⟨dst, op, type, pos, after, guard⟩) (ρ' := a.eval) hal hr
        obtain ⟨φ', k1, k2, k3⟩ := R.newCells (e := e) hR h1
        unfold Oper.wp
        rw [h2 w]
        refine hK _ _ φ' k1 k2 ?_
        rw [← k3 0]
        exact Handle.rel hk hR.base (Nat.lt_succ_self _)
      · cases h
    · cases h
  unfold evalLoud at h
  simp only at h
  split at h
  · rename_i t x y
    split at h
    · rename_i st₁ hst
      cases h
      obtain ⟨w', h1, h2, h3, h4⟩ := evalStore_sound (P := P) hR hst (hr x (by simp [Op.operands])) (hr y (by simp [Op.operands]))
      unfold Oper.wp
      simp only [execOp, Sem.run_bind, h1, Result.andThen_ok, Sem.run_pure]
      exact hK undef w' φ h2 h3 (.flat rfl)
    · cases h
  · rename_i f args ats
    split at h
    · rename_i fid first cap hf
      have hfr := hr f (by simp [Op.operands, Call.operands])
      rw [hf] at hfr
      obtain ⟨first', cap', he, hfirst, hcap⟩ := hfr.func_inv
      have hargs : ARel G st.next φ (args.map ρ) (args.map a.eval) := ARel.map fun x hx => hr x (by simp [Op.operands, Call.operands, hx])
      have hall : ARel G st.next φ ⟨first.toList ++ args.toList.map ρ ++ cap.toList⟩ (first' ++ args.map a.eval ++ cap') := by
        have := (hfirst.append hargs).append hcap
        have e : (⟨first.toList ++ args.toList.map ρ ++ cap.toList⟩ : Array Value) = first ++ args.map ρ ++ cap := by apply Array.ext'; simp
        rw [e]; exact this
      have hexec : ∀ r, (callFunc fid (first' ++ args.map a.eval ++ cap')).run P w = r → (execOp a.eval ⟨dst, .call ⟨.value f, args, ats⟩, type, pos, after, guard⟩).run P w = r := fun r hr' => by
        rw [← hr']
        simp [execOp, resolve, he, Deferred.ofValue, invoke]
      unfold evalCallee at h
      split at h
      · rename_i fn hfn
        split at h
        · rename_i body hbody
          split at h
          · cases h
          · rename_i hname
            have hrun : (callFunc fid (first' ++ args.map a.eval ++ cap')).run P w = .ok (.enter fid (first' ++ args.map a.eval ++ cap')) w := by
              unfold callFunc
              simp only [Sem.run_bind]
              show Result.andThen (.ok P w) _ = _
              simp only [Result.andThen_ok, hfn, hbody]
              rw [if_neg hname]
              simp
            unfold Oper.wp
            rw [hexec _ hrun]
            show Calls P fid (first' ++ args.map a.eval ++ cap') w _
            refine Calls.mono (hc _ _ _ _ _ h φ w _ hR hall) fun e w' hpost => ?_
            obtain ⟨v', φ', rfl, p1, p2, p3⟩ := hpost
            exact hK v' w' φ' p1 p2 p3
        · rename_i hbody
          split at h
          · rename_i hx hext'
            split at h
            · rename_i hflat
              split at h
              · rename_i u hu
                cases h
                obtain ⟨q1, q2⟩ := hext _ _ _ _ hext' hu
                have : first' ++ args.map a.eval ++ cap' = ⟨first.toList ++ args.toList.map ρ ++ cap.toList⟩ := hall.flat_eq (by simpa [flatA] using hflat)
                unfold Oper.wp
                rw [hexec (.ok (.value v) w) (by rw [this]; exact q2 w)]
                exact hK v w φ hR (Tr.refl _ _ _) (.flat q1)
              · cases h
            · cases h
          · cases h
      · cases h
    · cases h
  · rename_i s x sT xT
    have := evalAppend_sound (ty := type) hR h (hr s (by simp [Op.operands, Call.operands])) (hr x (by simp [Op.operands, Call.operands]))
    exact Goes.wp this (by simp [execOp, resolve, invoke, builtin]) hK
  · rename_i s d x
    exact Goes.wp (evalToBytes_sound hR h (hr x (by simp [Op.operands]))) rfl hK
  · rename_i t
    cases h
    have := hR.new (o := .map [] 0) (ob := .map #[] 0) (l := ⟨w.heap.size, 0, 0⟩) (fams' := st.fams) rfl (fun _ f _ hf => ⟨f, hf, rfl, Nat.le_refl _⟩) (fun _ _ hf _ => hf)
      (fun φ' h1 h2 => ⟨#[], by rw [h1, heap_alloc, if_pos rfl], rfl, fun i e e' he => by simp at he⟩)
    unfold Oper.wp
    have hrun : (execOp a.eval ⟨dst, .makeMap t none, type, pos, after, guard⟩).run P w = .ok (.value (.map (some w.heap.size))) (w.alloc (.map #[] 0)) := rfl
    rw [hrun]
    refine hK _ _ _ this.1 this.2 ?_
    have hv : VRel G (st.next + 1) (φ.upd st.next ⟨w.heap.size, 0, 0⟩) (.map (some st.next)) (.map (some ((φ.upd st.next ⟨w.heap.size, 0, 0⟩) st.next).block)) := .map hR.base (Nat.lt_succ_self _)
    rw [Phi.upd_at] at hv
    exact hv
  · exact allocCase h

end Go.Ev

