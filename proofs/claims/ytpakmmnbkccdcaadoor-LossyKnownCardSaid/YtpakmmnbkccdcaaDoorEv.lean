/-
  A plain machine: what a function of the program does to what it reaches, block by block, as one plain function that the kernel can run. No condition.
-/
import Derived.Calls
noncomputable section
namespace Go.Proofs.YtpakmmnbkccdcaaDoor.Ev
open Go
set_option linter.unusedVariables false
/-! Tries. -/
inductive D where | d0 | d1 | d2 | d3 | d4 | d5 | d6 | d7
instance : DecidableEq D := fun a b => Classical.propDecidable (a = b)
def dig (k : Nat) : D := Bool.rec (Bool.rec (Bool.rec .d0 .d4 (Nat.beq (k / 4 % 2) 1)) (Bool.rec .d2 .d6 (Nat.beq (k / 4 % 2) 1)) (Nat.beq (k / 2 % 2) 1)) (Bool.rec (Bool.rec .d1 .d5 (Nat.beq (k / 4 % 2) 1)) (Bool.rec .d3 .d7 (Nat.beq (k / 4 % 2) 1)) (Nat.beq (k / 2 % 2) 1)) (Nat.beq (k % 2) 1)
def path : Nat → Nat → List D
  | 0, _ => []
  | f + 1, k => match k with
    | 0 => []
    | j + 1 => dig j :: path f (j / 8)
abbrev pa (k : Nat) : List D := path k k
inductive Tr (α : Type) where
  | e
  | nd (v : Option α) (c0 c1 c2 c3 c4 c5 c6 c7 : Tr α)
def Tr.val {α : Type} (t : Tr α) : Option α := Tr.rec (motive := fun _ => Option α) none (fun v _ _ _ _ _ _ _ _ _ _ _ _ _ _ _ _ => v) t
def Tr.down {α : Type} (t : Tr α) : D → (Tr α → Option α) → Option α :=
  Tr.rec (motive := fun _ => D → (Tr α → Option α) → Option α) (fun _ _ => none) (fun _ c0 c1 c2 c3 c4 c5 c6 c7 _ _ _ _ _ _ _ _ d ih => ih (D.rec (motive := fun _ => Tr α) c0 c1 c2 c3 c4 c5 c6 c7 d)) t
def Tr.get {α : Type} (p : List D) : Tr α → Option α := List.rec (motive := fun _ => Tr α → Option α) Tr.val (fun d _ ih t => Tr.down t d ih) p
def Tr.lay {α : Type} (t : Tr α) : Option α → Tr α := Tr.rec (motive := fun _ => Option α → Tr α) (fun x => .nd x .e .e .e .e .e .e .e .e) (fun _ c0 c1 c2 c3 c4 c5 c6 c7 _ _ _ _ _ _ _ _ x => .nd x c0 c1 c2 c3 c4 c5 c6 c7) t
def Tr.s0 {α : Type} (ih : Tr α → Tr α) (v : Option α) (c0 c1 c2 c3 c4 c5 c6 c7 : Tr α) : Tr α := .nd v (ih c0) c1 c2 c3 c4 c5 c6 c7
def Tr.s1 {α : Type} (ih : Tr α → Tr α) (v : Option α) (c0 c1 c2 c3 c4 c5 c6 c7 : Tr α) : Tr α := .nd v c0 (ih c1) c2 c3 c4 c5 c6 c7
def Tr.s2 {α : Type} (ih : Tr α → Tr α) (v : Option α) (c0 c1 c2 c3 c4 c5 c6 c7 : Tr α) : Tr α := .nd v c0 c1 (ih c2) c3 c4 c5 c6 c7
def Tr.s3 {α : Type} (ih : Tr α → Tr α) (v : Option α) (c0 c1 c2 c3 c4 c5 c6 c7 : Tr α) : Tr α := .nd v c0 c1 c2 (ih c3) c4 c5 c6 c7
def Tr.s4 {α : Type} (ih : Tr α → Tr α) (v : Option α) (c0 c1 c2 c3 c4 c5 c6 c7 : Tr α) : Tr α := .nd v c0 c1 c2 c3 (ih c4) c5 c6 c7
def Tr.s5 {α : Type} (ih : Tr α → Tr α) (v : Option α) (c0 c1 c2 c3 c4 c5 c6 c7 : Tr α) : Tr α := .nd v c0 c1 c2 c3 c4 (ih c5) c6 c7
def Tr.s6 {α : Type} (ih : Tr α → Tr α) (v : Option α) (c0 c1 c2 c3 c4 c5 c6 c7 : Tr α) : Tr α := .nd v c0 c1 c2 c3 c4 c5 (ih c6) c7
def Tr.s7 {α : Type} (ih : Tr α → Tr α) (v : Option α) (c0 c1 c2 c3 c4 c5 c6 c7 : Tr α) : Tr α := .nd v c0 c1 c2 c3 c4 c5 c6 (ih c7)
def Tr.ss {α : Type} (d : D) : (Tr α → Tr α) → Option α → Tr α → Tr α → Tr α → Tr α → Tr α → Tr α → Tr α → Tr α → Tr α :=
  D.rec (motive := fun _ => (Tr α → Tr α) → Option α → Tr α → Tr α → Tr α → Tr α → Tr α → Tr α → Tr α → Tr α → Tr α) Tr.s0 Tr.s1 Tr.s2 Tr.s3 Tr.s4 Tr.s5 Tr.s6 Tr.s7 d
def Tr.in {α : Type} (t : Tr α) : D → (Tr α → Tr α) → Tr α := Tr.rec (motive := fun _ => D → (Tr α → Tr α) → Tr α)
  (fun d ih => Tr.ss d ih none .e .e .e .e .e .e .e .e)
  (fun v c0 c1 c2 c3 c4 c5 c6 c7 _ _ _ _ _ _ _ _ d ih => Tr.ss d ih v c0 c1 c2 c3 c4 c5 c6 c7) t
def Tr.set {α : Type} (x : Option α) (p : List D) : Tr α → Tr α := List.rec (motive := fun _ => Tr α → Tr α) (fun t => Tr.lay t x) (fun d _ ih t => Tr.in t d ih) p
abbrev Tr.at {α : Type} (t : Tr α) (k : Nat) : Option α := Tr.get (pa k) t
abbrev Tr.put {α : Type} (t : Tr α) (k : Nat) (x : α) : Tr α := Tr.set (some x) (pa k) t
def Tr.ofFrom {α : Type} : List α → Nat → Tr α → Tr α
  | [], _, t => t
  | x :: l, i, t => Tr.ofFrom l (i + 1) (t.put i x)
def Tr.of {α : Type} (l : List α) : Tr α := Tr.ofFrom l 0 .e
/-- n cells from i on. -/
def Tr.row {α : Type} (t : Tr α) : Nat → Nat → Option (List α)
  | _, 0 => some []
  | i, n + 1 => match t.at i with
    | none => none
    | some x => match Tr.row t (i + 1) n with
      | none => none
      | some l => some (x :: l)
def Tr.puts {α : Type} : List α → Nat → Tr α → Tr α
  | [], _, t => t
  | x :: l, i, t => Tr.puts l (i + 1) (t.put i x)
/-! What the machine holds. -/
structure Ent where
  key : Value
  val : Value
  born : Nat
inductive AO where
  | cells (elem : TypeId) (n : Nat) (c : Tr Value) (exact : Bool)
  | map (es : List Ent) (clock : Nat)
  | iter (s : ByteArray) (pos : Nat)
  | miter (m : Option Nat) (since : Nat) (seen : List Nat) (last : Nat)
  | dead
structure St where
  h : Tr AO
  nx : Nat
/-- What the machine knows of the program. -/
structure Cx where
  ty : Tr TypeInfo
  fn : Tr Func
  eqs : List Nat := []   -- structs that may be compared
def Cx.of (P : Program) : Cx := { ty := Tr.of P.types.toList, fn := Tr.of P.funcs.toList }
variable (C : Cx)
def inf (t : TypeId) : Option TypeInfo := C.ty.at t
def und (t : TypeId) : Option TypeDesc :=
  match C.ty.at t with
  | some i => (match i.desc with
    | .named _ u => (match C.ty.at u with | some j => some j.desc | none => none)
    | d => some d)
  | none => none
def siz (t : TypeId) : Option Nat := match C.ty.at t with | some i => some i.size | none => none
def agg (t : TypeId) : Option Bool := match und C t with
  | some (.struct _) => some true
  | some (.array _ _) => some true
  | some _ => some false
  | none => none
/-! Bytes. -/
def eqL : List UInt8 → List UInt8 → Bool
  | [], [] => true
  | a :: l, b :: m => bif Nat.beq a.toNat b.toNat then eqL l m else false
  | _, _ => false
def eqB (a b : ByteArray) : Bool := eqL a.data.toList b.data.toList
def ltL : List UInt8 → List UInt8 → Bool
  | _, [] => false
  | [], _ :: _ => true
  | a :: l, b :: m => bif Nat.blt a.toNat b.toNat then true else bif Nat.beq a.toNat b.toNat then ltL l m else false
def catB (a b : ByteArray) : ByteArray := ⟨(a.data.toList ++ b.data.toList).toArray⟩
def cutB (a : ByteArray) (l h : Nat) : ByteArray := ⟨((a.data.toList.take h).drop l).toArray⟩
def lenB (a : ByteArray) : Nat := a.data.toList.length
def atB (a : ByteArray) (i : Nat) : Option UInt8 := a.data.toList[i]?
/-! Whole numbers. -/
def eqI : Int → Int → Bool
  | .ofNat a, .ofNat b => Nat.beq a b
  | .negSucc a, .negSucc b => Nat.beq a b
  | _, _ => false
def leI : Int → Int → Bool
  | .ofNat a, .ofNat b => Nat.ble a b
  | .ofNat _, .negSucc _ => false
  | .negSucc _, .ofNat _ => true
  | .negSucc a, .negSucc b => Nat.ble b a
def ltI (a b : Int) : Bool := !leI b a
def topN : IntKind → Nat   -- what a kind's numbers are below
  | .i8 => 128 | .i16 => 32768 | .i32 => 2147483648 | .i64 => 9223372036854775808
  | .u8 => 256 | .u16 => 65536 | .u32 => 4294967296 | .u64 => 18446744073709551616
def wr (k : IntKind) (n : Int) : Int :=
  match n with
  | .ofNat m => bif Nat.blt m (topN k) then .ofNat m else k.wrap (.ofNat m)
  | .negSucc m => k.wrap (.negSucc m)
def eqK : IntKind → IntKind → Bool
  | .i8, .i8 | .i16, .i16 | .i32, .i32 | .i64, .i64 | .u8, .u8 | .u16, .u16 | .u32, .u32 | .u64, .u64 => true
  | _, _ => false
/-- A number's bits, as a whole number that is not negative. -/
def bitsN (k : IntKind) (n : Int) : Nat := match n with
  | .ofNat m => m % 2 ^ k.bits
  | .negSucc m => 2 ^ k.bits - 1 - m % 2 ^ k.bits
def intOp (op : BinOp) (k : IntKind) (a b : Int) : Option Value :=
  match op with
  | .add => some (.int k (wr k (a + b)))
  | .sub => some (.int k (wr k (a - b)))
  | .mul => some (.int k (wr k (a * b)))
  | .quo => bif eqI b 0 then none else some (.int k (wr k (a.tdiv b)))
  | .rem => bif eqI b 0 then none else some (.int k (a.tmod b))
  | .and => some (.int k (wr k (.ofNat (bitsN k a &&& bitsN k b))))
  | .or => some (.int k (wr k (.ofNat (bitsN k a ||| bitsN k b))))
  | .xor => some (.int k (wr k (.ofNat (bitsN k a ^^^ bitsN k b))))
  | .andNot => some (.int k (wr k (.ofNat (bitsN k a &&& (2 ^ k.bits - 1 - bitsN k b)))))
  | .eql => some (.bool (eqI a b))
  | .neq => some (.bool (!eqI a b))
  | .lss => some (.bool (ltI a b))
  | .leq => some (.bool (leI a b))
  | .gtr => some (.bool (ltI b a))
  | .geq => some (.bool (leI b a))
  | _ => none
def strOp (op : BinOp) (a b : ByteArray) : Option Value :=
  match op with
  | .add => bif Nat.blt (lenB a + lenB b) 9223372036854775808 then some (.string (catB a b)) else none
  | .eql => some (.bool (eqB a b))
  | .neq => some (.bool (!eqB a b))
  | .lss => some (.bool (ltL a.data.toList b.data.toList))
  | .geq => some (.bool (!ltL a.data.toList b.data.toList))
  | .leq => some (.bool (ltL a.data.toList b.data.toList || eqB a b))
  | .gtr => some (.bool (!(ltL a.data.toList b.data.toList || eqB a b)))
  | _ => none
/-- A part of a struct's or an array's cells. -/
def partC (t : TypeId) (cs : List Value) (off : Nat) : Option Value :=
  match agg C t, siz C t with
  | some true, some n => some (.agg ((cs.drop off).take n).toArray)
  | some false, some _ => cs[off]?
  | _, _ => none
/-- Fields one by one, up to the first that differs. -/
def eqFs (f : Field → Option Bool) : List Field → Option Bool
  | [] => some true
  | g :: r => match f g with
    | some true => eqFs f r
    | some false => some false
    | none => none
/-- Are two values alike? (A struct's parts one by one; pointers, slices and maps beside nil alone.) -/
def eqV : Nat → TypeId → Value → Value → Option Bool
  | 0, _, _, _ => none
  | d + 1, t, x, y =>
    match und C t with
    | none => none
    | some u => match u, x, y with
      | .bool, .bool a, .bool b => some (bif a then b else !b)
      | .int _, .int k a, .int k' b => bif eqK k k' then some (eqI a b) else none
      | .string, .string a, .string b => some (eqB a b)
      | .pointer _, .pointer none, .pointer b => some b.isNone
      | .pointer _, .pointer (some _), .pointer none => some false
      | .interface _, .nilIface, .nilIface => some true
      | .interface _, .nilIface, .iface _ _ => some false
      | .interface _, .iface _ _, .nilIface => some false
      | .slice _, .slice none _ _, .slice b _ _ => some b.isNone
      | .slice _, .slice (some _) _ _, .slice none _ _ => some false
      | .map _ _, .map none, .map b => some b.isNone
      | .map _ _, .map (some _), .map none => some false
      | .func _ _ _, .nilFunc, .nilFunc => some true
      | .func _ _ _, .nilFunc, .func _ _ _ => some false
      | .func _ _ _, .func _ _ _, .nilFunc => some false
      | .struct fs, .agg xs, .agg ys => bif C.eqs.any (Nat.beq t) then eqFs (fun f => match partC C f.type xs.toList f.offset, partC C f.type ys.toList f.offset with
          | some a, some b => eqV d f.type a b
          | _, _ => none) fs.toList else none
      | _, _, _ => none
/-! Operands. -/
/-- What has no block in it. -/
def plainV : Value → Bool
  | .bool _ | .int _ _ | .float _ _ | .complex _ _ _ | .string _ | .nilFunc | .nilIface | .pointer none | .map none | .slice none _ _ => true
  | _ => false
def allP : List Value → Bool
  | [] => true
  | v :: l => bif plainV v then allP l else false
def getT (T : Tr Value) (t : Nat) : Value := Option.rec (motive := fun _ => Value) undef (fun v => v) (T.at t)
def ρ (T : Tr Value) (x : Operand) : Value := Operand.rec (motive := fun _ => Value) (fun t => getT T t) (fun v => v) (fun g => .pointer (some ⟨g, 0, none⟩)) (fun f => .func (.func f) #[] #[]) x
def okX (x : Operand) : Bool := match x with | .tmp _ => true | .const v => plainV v | .global _ => false | .func _ => true
def cellsL (v : Value) : List Value := match v with | .agg cs => cs.toList | v => [v]
def lenL {α : Type} (l : List α) : Nat := l.length
def okZ (v : Value) : Bool := match v with | .agg cs => allP cs.toList | v => plainV v
def zer (t : TypeId) : Option Value := match inf C t with
  | some i => (match i.zero with
    | some z => bif okZ z then some z else none
    | none => none)
  | none => none
def repL (z : List Value) : Nat → List Value
  | 0 => []
  | n + 1 => z ++ repL z n
/-- Parts are put into a row of cells: vs in the place of what stands from off on. -/
def overL (cs vs : List Value) (off : Nat) : List Value := cs.take off ++ (vs ++ cs.drop (off + lenL vs))
def fillC (place : Nat → Option (Nat × Nat)) : List Value → List (Nat × Value) → Option (List Value)
  | cs, [] => some cs
  | cs, p :: r => match place p.1 with
    | none => none
    | some q => bif Nat.beq (lenL (cellsL p.2)) q.2 && Nat.ble (q.1 + q.2) (lenL cs) then fillC place (overL cs (cellsL p.2) q.1) r else none
/-- What an operation comes to. -/
inductive R where
  | v (x : Value)
  | n (x : Value) (o : AO)
  | h (x : Value) (h : Tr AO)
  | c (k : Nat) (args : List Value)
  | bad
def rV (o : Option Value) : R := Option.rec (motive := fun _ => R) .bad (fun x => .v x) o
def rN (k : Nat) (o : Option (Value × AO)) : R := Option.rec (motive := fun _ => R) .bad (fun p => .n p.1 p.2) o
def rH (o : Option (Value × Tr AO)) : R := Option.rec (motive := fun _ => R) .bad (fun p => .h p.1 p.2) o
/-! Whole numbers, strings. -/
def shlV (k : IntKind) (a b : Int) : Option Value := bif ltI b 0 then none else some (.int k (wr k (a * 2 ^ (min b.toNat k.bits))))
def shrV (k : IntKind) (a b : Int) : Option Value := bif ltI b 0 then none else some (.int k (a.fdiv (2 ^ (min b.toNat k.bits))))
def binI (op : BinOp) (k k' : IntKind) (a b : Int) : Option Value :=
  match op with
  | .shl => shlV k a b
  | .shr => shrV k a b
  | op => bif eqK k k' then intOp op k a b else none
/-- Two nil interfaces are told apart from nothing only beside a constant. -/
def nilsOk (k : Bool) (x y : Value) : Bool := match x, y with | .nilIface, .nilIface => k | _, _ => true
def binE (op : BinOp) (t : TypeId) (k : Bool) (x y : Value) : Option Value :=
  bif nilsOk k x y then
  match op with
  | .eql => (match eqV C 100 t x y with | some b => some (.bool b) | none => none)
  | .neq => (match eqV C 100 t x y with | some b => some (.bool (!b)) | none => none)
  | _ => none
  else none
def binX (op : BinOp) (t : TypeId) (k : IntKind) (a : Int) (x y : Value) : Option Value := match y with
  | .int k' b => binI op k k' a b
  | _ => none
def binY (op : BinOp) (t : TypeId) (a : ByteArray) (y : Value) : Option Value := match y with
  | .string b => strOp op a b
  | _ => none
def binV (op : BinOp) (t : TypeId) (k : Bool) (x y : Value) : Option Value :=
  match x with
  | .int k a => binX op t k a x y
  | .string a => binY op t a y
  | _ => binE C op t k x y
def isC (x : Operand) : Bool := Operand.rec (motive := fun _ => Bool) (fun _ => false) (fun _ => true) (fun _ => false) (fun _ => false) x
def unV (op : UnOp) (x : Value) : Option Value :=
  match op, x with
  | .neg, .int k n => some (.int k (wr k (0 - n)))
  | .xor, .int k n => some (.int k (wr k (.ofNat (bitsN k (bif k.signed then -1 else k.max) ^^^ bitsN k n))))
  | .not, .bool b => some (.bool (!b))
  | _, _ => none
def pickV (c a b : Value) : Option Value := match c with | .bool t => some (bif t then a else b) | _ => none
def placeS (fs : List Field) (i : Nat) : Option (Nat × Nat) := match fs[i]? with
  | some f => (match siz C f.type with | some s => some (f.offset, s) | none => none)
  | none => none
def aggV : Option (List Value) → Option Value | some l => some (.agg l.toArray) | none => none
def sizAll : List Field → Bool
  | [] => true
  | f :: r => match siz C f.type with | some _ => sizAll r | none => false
def buildV (t : TypeId) (ps : List (Nat × Value)) : Option Value :=
  match und C t, zer C t with
  | some (.struct fs), some z => bif sizAll C fs.toList then aggV (fillC (placeS C fs.toList) (cellsL z) ps) else none
  | some (.array _ e), some z => (match siz C e with
    | some s => aggV (fillC (fun i => some (i * s, s)) (cellsL z) ps)
    | none => none)
  | _, _ => none
def nilV (x : Value) : Option Value := match x with
  | .pointer (some a) => some (.pointer (some a))
  | .func (.func f) p c => some (.func (.func f) p c)
  | .iface t w => some (.iface t w)
  | _ => none
def ifaceV (t : TypeId) (x : Value) : Option Value := match und C t with
  | some (.interface _) => none
  | some _ => some (.iface t x)
  | none => none
def ptrV (a : Addr) (off : Nat) : Value := .pointer (some ⟨a.block, a.off + off, none⟩)
def fieldAddrV (t : TypeId) (x : Value) (f : Nat) : Option Value :=
  match x with
  | .pointer (some a) => (match und C t with
    | some (.struct fs) => (match fs.toList[f]? with
      | some g => (match siz C g.type with
        | some s => bif Nat.beq s 0 then none else some (ptrV a g.offset)
        | none => none)
      | none => none)
    | _ => none)
  | _ => none
def fieldV (t : TypeId) (x : Value) (f : Nat) : Option Value :=
  match x with
  | .agg cs => (match und C t with
    | some (.struct fs) => (match fs.toList[f]? with | some g => partC C g.type cs.toList g.offset | none => none)
    | _ => none)
  | _ => none
def natV (i : Value) : Option Nat := match i with | .int _ (.ofNat k) => some k | _ => none
def ixA (e : TypeId) (a : Addr) (len : Nat) (i : Value) : Option Value := match natV i with
  | some k => (match siz C e with
    | some s => bif Nat.blt k len then some (ptrV a (k * s)) else none
    | none => none)
  | none => none
def indexAddrV (t : TypeId) (x i : Value) : Option Value :=
  match und C t with
  | some (.slice e) => (match x with | .slice (some a) len _ => ixA C e a len i | _ => none)
  | some (.array n e) => (match x with | .pointer (some a) => ixA C e a n i | _ => none)
  | _ => none
def indexV (t : TypeId) (x i : Value) : Option Value :=
  match und C t, natV i with
  | some .string, some k => (match x with
    | .string b => (match atB b k with | some u => some (.int .u8 (.ofNat u.toNat)) | none => none)
    | _ => none)
  | some (.array n e), some k => (match x with
    | .agg cs => (match siz C e with
      | some s => bif Nat.blt k n then partC C e cs.toList (k * s) else none
      | none => none)
    | _ => none)
  | _, _ => none
/-- A bound of a slice. -/
def boundN (v : Option Value) (dflt top : Nat) : Option Nat := match v with
  | none => some dflt
  | some x => (match natV x with
    | some n => bif Nat.ble n top then some n else none
    | none => none)
/-- Bounds: from, to, the room's end. -/
def boundsN (len cap : Nat) (lo hi mx : Option Value) : Option (Nat × Nat × Nat) :=
  bif mx.isSome && !hi.isSome then none else
  match boundN mx cap cap with
  | none => none
  | some m => (match boundN hi len m with
    | none => none
    | some h => (match boundN lo 0 h with
      | none => none
      | some l => bif Nat.ble h m then some (l, h, m) else none))
def cutS (b : ByteArray) (lo hi : Option Value) : Option Value := match boundsN (lenB b) (lenB b) lo hi none with
  | some q => some (.string (cutB b q.1 q.2.1))
  | none => none
def cutA (e : TypeId) (a : Option Addr) (len cap : Nat) (lo hi mx : Option Value) : Option Value := match siz C e, boundsN len cap lo hi mx with
  | some s, some q => (match a with
    | none => some (.slice none (q.2.1 - q.1) (q.2.2 - q.1))
    | some a => some (.slice (some ⟨a.block, a.off + q.1 * s, none⟩) (q.2.1 - q.1) (q.2.2 - q.1)))
  | _, _ => none
/-- May a slice of such elements be cut here? -/
def zOk (h : Tr AO) (e : TypeId) (a : Option Addr) : Bool := match a with
  | none => true
  | some a => (match h.at a.block with
    | some (.cells e' _ _ ex) => bif ex then true else Nat.beq e e'
    | _ => false)
def sliceV (h : Tr AO) (t : TypeId) (x : Value) (lo hi mx : Option Value) : Option Value :=
  match und C t with
  | some .string => (match x, mx with | .string b, none => cutS b lo hi | _, _ => none)
  | some (.slice e) => (match x with | .slice a len cap => bif zOk h e a then cutA C e a len cap lo hi mx else none | _ => none)
  | some (.array n e) => (match x with | .pointer (some a) => cutA C e (some a) n n lo hi mx | _ => none)
  | _ => none
def okV (ok : Bool) (w : Value) (b : Bool) : Value := bif ok then .tuple #[w, .bool b] else w
def failV (t : TypeId) (ok : Bool) : Option Value := bif ok then (match zer C t with | some z => some (okV true z false) | none => none) else none
def assertC (t : TypeId) (ok : Bool) (x : Value) : Option Value := match x with
  | .iface t' w => bif Nat.beq t' t then some (okV ok w true) else failV C t ok
  | .nilIface => failV C t ok
  | _ => none
def assertV (t : TypeId) (ok : Bool) (x : Value) : Option Value :=
  match und C t with
  | some (.interface _) => none
  | some _ => assertC C t ok x
  | none => none
def extractV (x : Value) (i : Nat) : Option Value := match x with | .tuple vs => vs.toList[i]? | _ => none
/-! What is read. -/
def cellsAt (h : Tr AO) (a : Addr) (n : Nat) : Option (List Value) :=
  match h.at a.block with
  | some (.cells _ m c _) => bif Nat.ble (a.off + n) m then Tr.row c a.off n else none
  | _ => none
def cellAt (h : Tr AO) (a : Addr) : Option Value :=
  match h.at a.block with
  | some (.cells _ m c _) => bif Nat.blt a.off m then c.at a.off else none
  | _ => none
def loadV (h : Tr AO) (t : TypeId) (a : Addr) : Option Value :=
  match agg C t, siz C t with
  | some true, some n => aggV (cellsAt h a n)
  | some false, some _ => cellAt h a
  | _, _ => none
def loadX (h : Tr AO) (t : TypeId) (x : Value) : Option Value := match x with | .pointer (some a) => loadV C h t a | _ => none
def keyI (x y : Value) : Option Bool := match x, y with | .int k a, .int k' b => bif eqK k k' then some (eqI a b) else none | _, _ => none
def keyS (x y : Value) : Option Bool := match x, y with | .string a, .string b => some (eqB a b) | _, _ => none
def keyB (x y : Value) : Option Bool := match x, y with | .bool a, .bool b => some (bif a then b else !b) | _, _ => none
def keyEq (d : TypeDesc) (x y : Value) : Option Bool := match d with
  | .int _ => keyI x y
  | .string => keyS x y
  | .bool => keyB x y
  | _ => none
def findK (d : TypeDesc) (k : Value) : List Ent → Nat → Option (Option (Nat × Value))
  | [], _ => some none
  | e :: es, i => match keyEq d k e.key with
    | some true => some (some (i, e.val))
    | some false => findK d k es (i + 1)
    | none => none
def flatD (d : TypeDesc) : Bool := match d with | .int _ => true | .string => true | .bool => true | _ => false
/-- Where a key stands in a map. -/
def spot (t : TypeId) (k : Value) (es : List Ent) : Option (Option (Nat × Value)) := match und C t with
  | some d => bif flatD d then findK d k es 0 else none
  | none => none
def bytesOf : List Value → Option (List UInt8)
  | [] => some []
  | .int .u8 (.ofNat b) :: l => (match bytesOf l with | some r => some (UInt8.ofNat b :: r) | none => none)
  | _ => none
def entriesAt (h : Tr AO) (x : Value) : Option (List Ent) := match x with
  | .map none => some []
  | .map (some r) => (match h.at r with | some (.map es _) => some es | _ => none)
  | _ => none
def lookE (e : TypeId) (ok : Bool) (r : Option (Option (Nat × Value))) : Option Value := match r with
  | some (some p) => some (okV ok p.2 true)
  | some none => (match zer C e with | some z => some (okV ok z false) | none => none)
  | none => none
def lookupV (h : Tr AO) (t : TypeId) (x k : Value) (ok : Bool) : Option Value :=
  match und C t, entriesAt h x with
  | some (.map kt e), some es => lookE C e ok (spot C kt k es)
  | _, _ => none
def bytesV (h : Tr AO) (x : Value) : Option Value := match x with
  | .slice none _ _ => some (.string ⟨#[]⟩)
  | .slice (some a) n _ => (match cellsAt h a n with
    | some l => (match bytesOf l with | some b => some (.string ⟨b.toArray⟩) | none => none)
    | none => none)
  | _ => none
def lenM (h : Tr AO) (x : Value) : Option Value := match entriesAt h x with | some es => some (.int .i64 (.ofNat es.length)) | none => none
def lenV (h : Tr AO) (t : TypeId) (x : Value) : Option Value := match und C t with
  | some .string => (match x with | .string b => some (.int .i64 (.ofNat (lenB b))) | _ => none)
  | some (.slice _) => (match x with | .slice _ n _ => some (.int .i64 (.ofNat n)) | _ => none)
  | some (.map _ _) => lenM h x
  | _ => none
def minV (x y : Value) : Option Value := match x, y with | .int k a, .int k' b => bif eqK k k' then some (.int k (bif ltI b a then b else a)) else none | _, _ => none
def maxV (x y : Value) : Option Value := match x, y with | .int k a, .int k' b => bif eqK k k' then some (.int k (bif ltI a b then b else a)) else none | _, _ => none
/-! What makes memory: at block k. -/
def rowO (e : TypeId) (l : List Value) (exact : Bool) : AO := .cells e (lenL l) (Tr.of l) exact
def atK (k : Nat) : Option Addr := some ⟨k, 0, none⟩
def allocV (t : TypeId) (k : Nat) : Option (Value × AO) := match zer C t with | some z => some (.pointer (atK k), rowO t (cellsL z) true) | none => none
def buildSliceV (t : TypeId) (len : Nat) (ps : List (Nat × Value)) (k : Nat) : Option (Value × AO) := match und C t with
  | some (.slice e) => (match siz C e, zer C e with
    | some s, some z => bif Nat.ble (len * s) 16777216 && Nat.beq (lenL (cellsL z)) s then (match fillC (fun i => some (i * s, s)) (repL (cellsL z) len) ps with
      | some l => some (.slice (atK k) len len, rowO e l true)
      | none => none) else none
    | _, _ => none)
  | _ => none
def makeSliceV (t : TypeId) (x y : Value) (k : Nat) : Option (Value × AO) := match und C t, natV x, natV y with
  | some (.slice e), some l, some c => (match inf C e with
    | some i => (match i.zero with
      | some z => bif okZ z && Nat.beq (lenL (cellsL z)) i.size && (Nat.ble l c && (Nat.ble (i.bytes * c) 140737488355328 && Nat.blt c 9223372036854775808)) then some (.slice (atK k) l c, rowO e (repL (cellsL z) c) true) else none
      | none => none)
    | none => none)
  | _, _, _ => none
def makeMapV (t : TypeId) (r : Option Value) (k : Nat) : Option (Value × AO) := match r with
  | none => some (.map (some k), .map [] 0)
  | some x => (match und C t, x with
    | some (.map _ _), .int _ _ => some (.map (some k), .map [] 0)
    | _, _ => none)
def rangeV (h : Tr AO) (t : TypeId) (x : Value) (k : Nat) : Option (Value × AO) := match und C t, x with
  | some .string, .string b => some (.pointer (atK k), .iter b 0)
  | some (.map _ _), .map none => some (.pointer (atK k), .miter none 0 [] 0)
  | some (.map _ _), .map (some m) => (match h.at m with
    | some (.map _ clock) => some (.pointer (atK k), .miter (some m) clock [] clock)
    | _ => none)
  | _, _ => none
def strBytesV (e : TypeId) (b : ByteArray) (k : Nat) : Option (Value × AO) := match und C e with
  | some (.int .u8) => some (.slice (atK k) (lenB b) (lenB b), .cells e (lenB b) (Tr.of (b.data.toList.map fun u => .int .u8 (.ofNat u.toNat))) false)
  | _ => none
def convS (h : Tr AO) (us : TypeDesc) (x : Value) : R := match us with
  | .slice e => (match und C e with
    | some (.int .u8) => rV (bytesV h x)
    | _ => .bad)
  | _ => .bad
def convD (h : Tr AO) (us ud : TypeDesc) (x : Value) (k : Nat) : R := match ud with
  | .int j => (match x with | .int _ n => .v (.int j (wr j n)) | _ => .bad)
  | .string => (match x with
    | .string b => .v (.string b)
    | .slice a n c => convS C h us (.slice a n c)
    | _ => .bad)
  | .slice e => (match x with
    | .string b => .bad   -- (rN k (strBytesV C e b k): not yet)
    | _ => .bad)
  | _ => .bad
def convR (h : Tr AO) (s d : TypeId) (x : Value) (k : Nat) : R := match und C s, und C d with
  | some us, some ud => convD C h us ud x k
  | _, _ => .bad
/-! What changes memory. -/
def flatV (v : Value) : Bool := match v with | .agg _ => false | .tuple _ => false | _ => true
def allF : List Value → Bool
  | [] => true
  | v :: l => bif flatV v then allF l else false
def putCells (h : Tr AO) (a : Addr) (l : List Value) : Option (Tr AO) :=
  match h.at a.block with
  | some (.cells e n c x) => bif Nat.ble (a.off + lenL l) n && allF l then some (h.put a.block (.cells e n (Tr.puts l a.off c) x)) else none
  | _ => none
def srcCells (h : Tr AO) (s : Nat) (x : Value) : Option (List Value) := match x with
  | .slice none n _ => bif Nat.beq n 0 then some [] else none
  | .slice (some a) n _ => cellsAt h a (n * s)
  | .string b => bif Nat.beq s 1 then some (b.data.toList.map fun u => .int .u8 (.ofNat u.toNat)) else none
  | _ => none
def srcLen (x : Value) : Option Nat := match x with
  | .slice _ n _ => some n
  | .string b => some (lenB b)
  | _ => none
/-- append where there is room. -/
def appIn (h : Tr AO) (s : Nat) (b : Option Addr) (len cap m : Nat) (y : Value) : Option (Value × Tr AO) := match b with
  | none => bif Nat.beq m 0 then some (.slice none len cap, h) else none
  | some a => bif Nat.beq m 0 then some (.slice (some a) len cap, h) else (match srcCells h s y with
    | none => none
    | some l => (match putCells h ⟨a.block, a.off + len * s, none⟩ l with
      | none => none
      | some h => some (.slice (some a) (len + m) cap, h)))
/-- append where there is none: what was there must not be looked at again, if its row may have room behind. -/
def appKill (h : Tr AO) (e : TypeId) (b : Option Addr) (c : Nat) : Option (Tr AO) := match b with
  | none => some h
  | some a => (match h.at a.block with
    | some (.cells e' n _ ex) => bif ex then some h else bif Nat.beq e e' then some (bif Nat.beq (a.off + c) n then h.put a.block .dead else h) else none
    | _ => none)
def appNew (h : Tr AO) (e : TypeId) (s : Nat) (b : Option Addr) (len cap m : Nat) (y : Value) (k : Nat) : Option (Value × Tr AO) :=
  match srcCells h s (.slice b len cap), srcCells h s y, appKill h e b (cap * s) with
  | some l, some l', some h' => bif allF l' then some (.slice (atK k) (len + m) (len + m), h'.put k (.cells e ((len + m) * s) (Tr.of (l ++ l')) false)) else none
  | _, _, _ => none
def appOk (e : TypeId) (i : TypeInfo) (n : Nat) : Bool := Nat.ble ((4 * n + 2000) * i.bytes) 140737488355328 && (Nat.blt 0 i.bytes && (Nat.blt 0 i.size && (match i.zero with | some z => okZ z && Nat.beq (lenL (cellsL z)) i.size | none => false)))
def isInt (d : TypeDesc) : Bool := match d with | .int _ => true | _ => false
def appendE (h : Tr AO) (e : TypeId) (i : TypeInfo) (b : Option Addr) (len cap m : Nat) (y : Value) (k : Nat) : Option (Value × Tr AO) :=
  bif Nat.ble (len + m) cap then appIn h i.size b len cap m y
  else bif appOk e i (len + m) then appNew h e i.size b len cap m y k else none
def appendV (h : Tr AO) (t u : TypeId) (x y : Value) (k : Nat) : Option (Value × Tr AO) :=
  match und C t, und C u with
  | some (.slice e), some d => bif isInt d then none else (match x with
    | .slice b len cap => (match inf C e, srcLen y with
      | some i, some m => appendE h e i b len cap m y k
      | _, _ => none)
    | _ => none)
  | _, _ => none
def storeV (h : Tr AO) (t : TypeId) (x y : Value) : Option (Value × Tr AO) := match x, siz C t with
  | .pointer (some a), some s => bif Nat.beq (lenL (cellsL y)) s then (match putCells h a (cellsL y) with | some h => some (undef, h) | none => none) else none
  | _, _ => none
def setVal : List Ent → Nat → Value → Value → List Ent
  | [], _, _, _ => []
  | e :: es, 0, x, y => ⟨x, y, e.born⟩ :: es
  | e :: es, i + 1, x, y => e :: setVal es i x y
def mapPut (h : Tr AO) (r : Nat) (es : List Ent) (clock : Nat) (x y : Value) (p : Option (Option (Nat × Value))) : Option (Value × Tr AO) := match p with
  | some (some p) => some (undef, h.put r (.map (setVal es p.1 x y) clock))
  | some none => some (undef, h.put r (.map (es ++ [⟨x, y, clock⟩]) (Nat.succ clock)))
  | none => none
def mapSetV (h : Tr AO) (t : TypeId) (m x y : Value) : Option (Value × Tr AO) := match und C t, m with
  | some (.map kt _), .map (some r) => (match h.at r with
    | some (.map es clock) => mapPut h r es clock x y (spot C kt x es)
    | _ => none)
  | _, _ => none
def hasN (l : List Nat) (n : Nat) : Bool := l.any (Nat.beq n)
/-- The entries that are still to come, those that were there when the walk began ahead. -/
def leftE (es : List Ent) (since : Nat) (seen : List Nat) : List Ent × List Ent :=
  ((es.filter fun e => !hasN seen e.born && Nat.blt e.born since), es.filter fun e => !hasN seen e.born && !Nat.blt e.born since)
/-- A walk over a map goes on only where its order is sure. -/
def nextM (h : Tr AO) (a : Addr) (m since : Nat) (seen : List Nat) (last : Nat) (es : List Ent) (clock : Nat) : Option (Value × Tr AO) :=
  bif !seen.isEmpty && (!es.isEmpty && es.all fun e => !Nat.blt e.born last) then none else
  match leftE es since seen with
  | ([], []) => some (.tuple #[.bool false], h)
  | ([e], []) => some (.tuple #[.bool true, e.key, e.val], h.put a.block (.miter (some m) since (seen ++ [e.born]) clock))
  | _ => none
def nextV (h : Tr AO) (x : Value) (isS : Bool) : Option (Value × Tr AO) := match x with
  | .pointer (some a) => (match h.at a.block with
    | some (.iter b pos) => bif isS && Nat.beq a.off 0 then (bif Nat.blt pos (lenB b) then
        (match Utf8.decode b pos with
        | (c, w) => some (.tuple #[.bool true, .int .i64 (.ofNat pos), .int .i32 (.ofNat c)], h.put a.block (.iter b (pos + w))))
        else some (.tuple #[.bool false], h)) else none
    | _ => none)
  | _ => none
def entryV (h : Tr AO) (x : Value) : Option Value := match x with
  | .pointer (some a) => (match h.at a.block with
    | some (.miter (some m) _ seen stepped) => (match seen.getLast?, h.at m with
      | some stamp, some (.map es clock) => bif Nat.beq a.off 0 && Nat.beq clock stepped then (match es.find? fun e => Nat.beq e.born stamp with
        | some e => some (.tuple #[e.key, e.val])
        | none => none) else none
      | _, _ => none)
    | _ => none)
  | _ => none
def capN (h : Tr AO) (x : Value) : Option Value := match x with
  | .slice none _ n => some (.int .i64 (.ofNat n))
  | .slice (some a) _ n => (match h.at a.block with
    | some (.cells _ _ _ true) => some (.int .i64 (.ofNat n))
    | _ => none)
  | _ => none
def capV (h : Tr AO) (t : TypeId) (x : Value) : Option Value := match und C t with
  | some (.slice _) => capN h x
  | _ => none
def copyV (h : Tr AO) (t : TypeId) (x y : Value) : Option (Value × Tr AO) := match und C t, x, srcLen y with
  | some (.slice e), .slice b n _, some m => (match siz C e with
    | some s => (match srcCells h s y with
      | some l => bif Nat.beq n 0 then some (.int .i64 0, h) else (match b with
        | none => none
        | some a => (match putCells h a (l.take (Nat.min m n * s)) with
          | some h => some (.int .i64 (.ofNat (Nat.min m n)), h)
          | none => none))
      | none => none)
    | none => none)
  | _, _, _ => none
def mapDel (h : Tr AO) (r : Nat) (es : List Ent) (clock : Nat) (p : Option (Option (Nat × Value))) : Option (Value × Tr AO) := match p with
  | some (some p) => some (.tuple #[], h.put r (.map (es.eraseIdx p.1) clock))
  | some none => some (.tuple #[], h)
  | none => none
def deleteV (h : Tr AO) (t : TypeId) (x y : Value) : Option (Value × Tr AO) := match und C t, x with
  | some (.map kt _), .map none => (match spot C kt y [] with | some _ => some (.tuple #[], h) | none => none)
  | some (.map kt _), .map (some r) => (match h.at r with
    | some (.map es clock) => mapDel h r es clock (spot C kt y es)
    | _ => none)
  | _, _ => none
def clearV (h : Tr AO) (t : TypeId) (x : Value) : Option (Value × Tr AO) := match und C t, x with
  | some (.map _ _), .map none => some (.tuple #[], h)
  | some (.map _ _), .map (some r) => (match h.at r with
    | some (.map _ clock) => some (.tuple #[], h.put r (.map [] clock))
    | _ => none)
  | some (.slice _), .slice none _ _ => some (.tuple #[], h)
  | some (.slice e), .slice (some a) n _ => bif Nat.beq n 0 then some (.tuple #[], h) else (match zer C e with
    | some z => (match putCells h a (repL (cellsL z) n) with
      | some h => some (.tuple #[], h)
      | none => none)
    | none => none)
  | _, _ => none
def r1 (f : Value → R) : List Value → R | [x] => f x | _ => .bad
def r2 (f : Value → Value → R) : List Value → R | [x, y] => f x y | _ => .bad
def t1 (f : TypeId → R) : List TypeId → R | t :: _ => f t | _ => .bad
def t2 (f : TypeId → TypeId → R) : List TypeId → R | t :: u :: _ => f t u | _ => .bad
def biR (h : Tr AO) (b : Builtin) (ts : List TypeId) (as : List Value) (k : Nat) : R :=
  match b with
  | .len => t1 (fun t => r1 (fun x => rV (lenV C h t x)) as) ts
  | .cap => t1 (fun t => r1 (fun x => rV (capV C h t x)) as) ts
  | .min => r2 (fun x y => rV (minV x y)) as
  | .max => r2 (fun x y => rV (maxV x y)) as
  | .append => t2 (fun t u => r2 (fun x y => rH (appendV C h t u x y k)) as) ts
  | .copy => t1 (fun t => r2 (fun x y => rH (copyV C h t x y)) as) ts
  | .delete => t1 (fun t => r2 (fun x y => rH (deleteV C h t x y)) as) ts
  | .clear => t1 (fun t => r1 (fun x => rH (clearV C h t x)) as) ts
  | _ => .bad
def funR (f : Value) (as : List Value) : R := match f with
  | .func (.func k) first capt => .c k (first.toList ++ (as ++ capt.toList))
  | _ => .bad
def callR (h : Tr AO) (v : Operand → Value) (c : Callee) (ts : List TypeId) (as : List Value) (k : Nat) : R :=
  match c with
  | .builtin b => biR C h b ts as k
  | .value f => funR (v f) as
  | _ => .bad
def mapP (v : Operand → Value) (ps : List (Nat × Operand)) : List (Nat × Value) := ps.map fun p => (p.1, v p.2)
def optV (v : Operand → Value) : Option Operand → Option Value | some x => some (v x) | none => none
/-- One operation. -/
def opR (op : Op) : Cx → Tr AO → Nat → (Operand → Value) → R :=
  Op.rec (motive := fun _ => Cx → Tr AO → Nat → (Operand → Value) → R)
    (fun x _ _ _ v => .v (v x))
    (fun x _ _ _ v => .v (v x))
    (fun c a b _ _ _ v => rV (pickV (v c) (v a) (v b)))
    (fun t C _ k _ => rN k (allocV C t k))
    (fun t x _ _ k v => .n (.pointer (atK k)) (rowO t (cellsL (v x)) true))
    (fun t ps C _ _ v => rV (buildV C t (mapP v ps.toList)))
    (fun t n ps C _ k v => rN k (buildSliceV C t n (mapP v ps.toList) k))
    (fun t m x y C h _ v => rH (mapSetV C h t (v m) (v x) (v y)))
    (fun t x C h _ v => rV (loadX C h t (v x)))
    (fun t x y C h _ v => rH (storeV C h t (v x) (v y)))
    (fun _ _ _ _ _ => .bad)
    (fun _ _ _ _ _ => .bad)
    (fun x _ _ _ v => rV (nilV (v x)))
    (fun o t x y _ C _ _ v => rV (binV C o t (isC x || isC y) (v x) (v y)))
    (fun o _ x _ _ _ v => rV (unV o (v x)))
    (fun s d x C h k v => convR C h s d (v x) k)
    (fun _ _ _ _ _ _ => .bad)
    (fun t x C _ _ v => rV (ifaceV C t (v x)))
    (fun f a c _ _ _ v => .v (.func f (a.toList.map v).toArray (c.toList.map v).toArray))
    (fun t r C _ k v => rN k (makeMapV C t (optV v r) k))
    (fun _ _ _ _ _ _ => .bad)
    (fun t l c C _ k v => rN k (makeSliceV C t (v l) (v c) k))
    (fun t x lo hi mx C h _ v => rV (sliceV C h t (v x) (optV v lo) (optV v hi) (optV v mx)))
    (fun t x f C _ _ v => rV (fieldAddrV C t (v x) f))
    (fun t x f C _ _ v => rV (fieldV C t (v x) f))
    (fun t x i C _ _ v => rV (indexAddrV C t (v x) (v i)))
    (fun t x i C _ _ v => rV (indexV C t (v x) (v i)))
    (fun t x y ok C h _ v => rV (lookupV C h t (v x) (v y) ok))
    (fun t m x y C h _ v => rH (mapSetV C h t (v m) (v x) (v y)))
    (fun _ _ _ _ _ _ _ => .bad)
    (fun _ _ _ _ _ _ _ _ => .bad)
    (fun t x C h k v => rN k (rangeV C h t (v x) k))
    (fun x s _ h _ v => rH (nextV h (v x) s))
    (fun _ _ _ _ _ => .bad)
    (fun x _ t ok C _ _ v => rV (assertV C t ok (v x)))
    (fun x i _ _ _ v => rV (extractV (v x) i))
    (fun c C h k v => callR C h v c.callee c.argTypes.toList (c.args.toList.map v) k)
    (fun _ _ _ _ _ => .bad)
    (fun _ _ _ _ _ => .bad)
    (fun _ _ _ _ _ => .bad)
    (fun _ _ _ _ _ _ => .bad)
    (fun _ _ _ _ _ _ _ => .bad)
    (fun _ _ _ _ _ _ => .bad)
    op
def yes (b want : Bool) : Bool := Bool.rec (motive := fun _ => Bool) (Bool.rec (motive := fun _ => Bool) true false want) want b
def yieldT (T : Tr Value) (want : Bool) : Option Tmp → Bool
  | some d => (match getT T d with | .bool b => yes b want | _ => false)
  | none => false
def wantG (ops : List Oper) (T : Tr Value) (j : Nat) (want : Bool) : Bool := match ops[j]? with
  | some p => yieldT T want p.dst
  | none => false
def wantO (ops : List Oper) (T : Tr Value) (g : Option (Nat × Bool)) : Bool := Option.rec (motive := fun _ => Bool) true (fun q => wantG ops T q.1 q.2) g
def putT (T : Tr Value) (d : Option Tmp) (v : Value) : Tr Value := Option.rec (motive := fun _ => Tr Value) T (fun d => T.put d v) d
abbrev Caller := Nat → List Value → St → Option (Value × St)
def backT (T : Tr Value) (d : Option Tmp) (next : Tr Value → St → Option (Tr Value × St)) : Option (Value × St) → Option (Tr Value × St)
  | some r => next (putT T d r.1) r.2
  | none => none
def thenR (r : R) : Caller → Tr Value → St → Option Tmp → (Tr Value → St → Option (Tr Value × St)) → Option (Tr Value × St) :=
  R.rec (motive := fun _ => Caller → Tr Value → St → Option Tmp → (Tr Value → St → Option (Tr Value × St)) → Option (Tr Value × St))
    (fun x _ T S d next => next (putT T d x) S)
    (fun x o _ T S d next => next (putT T d x) ⟨S.h.put S.nx o, Nat.succ S.nx⟩)
    (fun x h _ T S d next => next (putT T d x) ⟨h, Nat.succ S.nx⟩)
    (fun k as call T S d next => backT T d next (call k as S))
    (fun _ _ _ _ _ => none) r
def stepO (call : Caller) (ops : List Oper) (o : Oper) (next : Tr Value → St → Option (Tr Value × St)) (T : Tr Value) (S : St) : Option (Tr Value × St) :=
  Bool.rec (motive := fun _ => Option (Tr Value × St)) (next (putT T o.dst undef) S) (thenR (opR o.op C S.h S.nx (ρ T)) call T S o.dst next) (wantO ops T o.guard)
def stepsO (call : Caller) (ops l : List Oper) : Tr Value → St → Option (Tr Value × St) :=
  List.rec (motive := fun _ => Tr Value → St → Option (Tr Value × St)) (fun T S => some (T, S)) (fun o _ ih => stepO C call ops o ih) l
/-! A region that draws its order: what acts on memory goes in its one order; what only looks is looked at again behind each act that it may be behind; what makes memory is made last. -/
def tb (m i : Nat) : Bool := Nat.beq (Nat.land (Nat.shiftRight m i) 1) 1
def bindsA (e : Edge) : Bool := match e.ground with
  | .textOnly _ => false
  | .gcOnly _ => false
  | _ => true
def nth (l : List Nat) (i : Nat) : Nat := match l[i]? with | some m => m | none => 0
def maskOf (acc : List Nat) : List Edge → Nat
  | [] => 0
  | e :: r => bif bindsA e then Nat.lor (Nat.lor (2 ^ e.on) (nth acc e.on)) (maskOf acc r) else maskOf acc r
def masksFrom : List Oper → List Nat → List Nat
  | [], acc => acc
  | o :: r, acc => masksFrom r (acc ++ [maskOf acc o.after.toList])
def masks (ops : List Oper) : List Nat := masksFrom ops []
inductive Cl where | look | make | act
def biCl : Builtin → Cl
  | .len => .look
  | .cap => .look
  | .min => .look
  | .max => .look
  | _ => .act
def caCl : Callee → Cl
  | .builtin b => biCl b
  | _ => .act
def clOf (op : Op) : Cl := match op with
  | .alloc _ => .make
  | .box _ _ => .make
  | .buildSlice _ _ _ => .make
  | .makeSlice _ _ _ => .make
  | .makeMap _ _ => .make
  | .range _ _ => .act
  | .convert s d _ => (match und C s, und C d with
    | some .string, some (.slice _) => .make
    | _, _ => .look)
  | .store _ _ _ => .act
  | .mapUpdate _ _ _ _ => .act
  | .insert _ _ _ _ => .act
  | .next _ _ => .act
  | .call c => caCl c.callee
  | _ => .look
def isAct : Cl → Bool | .act => true | _ => false
def isMake : Cl → Bool | .make => true | _ => false
def isLook : Cl → Bool | .look => true | _ => false
def clAt (cs : List Cl) (i : Nat) : Cl := match cs[i]? with | some c => c | none => .act
def countB (m : Nat) (l : List Nat) : Nat := (l.filter (tb m)).length
/-- The plan: which operation next; behind an act, what is looked at again. -/
def planFrom (ms : List Nat) (cs : List Cl) (all acts : List Nat) (lazy : Nat → Bool) : List Nat → Nat → List Nat → List (Nat × List Nat)
  | [], q, done =>
    let a := all.filter fun i => !isAct (clAt cs i) && (!lazy i && Nat.beq (countB (nth ms i) acts) q)
    let l := all.filter fun i => lazy i && !done.any (Nat.beq i)
    (a ++ l).map fun i => (i, [])
  | e :: r, q, done =>
    let a := all.filter fun i => !isAct (clAt cs i) && (!lazy i && Nat.beq (countB (nth ms i) acts) q)
    let l := all.filter fun i => lazy i && (tb (nth ms e) i && !done.any (Nat.beq i))
    let done' := done ++ (a ++ l)
    (a ++ l).map (fun i => (i, [])) ++ (e, done'.filter fun i => isLook (clAt cs i) && !tb (nth ms e) i) :: planFrom ms cs all acts lazy r (Nat.succ q) done'
def planOf (ops : List Oper) : List (Nat × List Nat) :=
  let ms := masks ops
  let cs := ops.map fun o => clOf C o.op
  let all := List.range ops.length
  let acts := all.filter fun i => isAct (clAt cs i)
  let lazy := fun i => !isAct (clAt cs i) && (isMake (clAt cs i) || all.any fun j => tb (nth ms i) j && isMake (clAt cs j))
  planFrom ms cs all acts lazy acts 0 []
def tmpsOf (l : List Operand) : List Tmp := l.filterMap fun x => match x with | .tmp t => some t | _ => none
def dstIs (o : Oper) (t : Tmp) : Bool := match o.dst with | some d => Nat.beq d t | none => false
def allB {α : Type} (l : List α) (f : α → Bool) : Bool := match l with | [] => true | x :: r => bif f x then allB r f else false
def upTo : List Nat → Nat → Bool   -- 0, 1, .. n-1 each stand there
  | l, 0 => true
  | l, n + 1 => bif l.any (Nat.beq n) then upTo l n else false
def sameD (o p : Oper) : Bool := match o.dst, p.dst with | some a, some b => Nat.beq a b | _, _ => false
/-- p writes nothing that o reads. -/
def freeOf (o p : Oper) : Bool := match p.dst with | none => true | some d => !(tmpsOf o.op.operands.toList).any (Nat.beq d)
def readOk (ops : List Oper) (ms : List Nat) (i : Nat) : Bool := match ops[i]? with
  | none => false
  | some o => allB (List.range ops.length) fun j => match ops[j]? with
    | none => false
    | some r => freeOf o r || tb (nth ms i) j
def pairOk (ms : List Nat) (i : Nat) (o : Oper) (j : Nat) (r : Option Oper) : Bool := match r with
  | none => false
  | some r => Nat.beq j i || (!sameD o r && (freeOf o r || (tb (nth ms i) j || tb (nth ms j) i)))
def guardOk (m : Nat) (g : Option (Nat × Bool)) : Bool := match g with | none => true | some g => tb m g.1
def clsOk (ops : List Oper) (ms : List Nat) (cs : List Cl) (bef aft : List (Nat × List Nat)) (p : Nat × List Nat) : Cl → Bool
  | .look => allB bef fun q => !isAct (clAt cs q.1) || tb (nth ms p.1) q.1
  | .make => allB aft fun q => !isAct (clAt cs q.1) || tb (nth ms q.1) p.1
  | .act => (allB bef fun q => !isAct (clAt cs q.1) || tb (nth ms p.1) q.1) && ((allB bef fun q => !isLook (clAt cs q.1) || (tb (nth ms p.1) q.1 || p.2.any (Nat.beq q.1))) && allB p.2 (readOk ops ms))
/-- What a step of the plan must be. -/
def stepOk (ops : List Oper) (ms : List Nat) (cs : List Cl) (bef aft : List (Nat × List Nat)) (p : Nat × List Nat) : Bool := match ops[p.1]? with
  | none => false
  | some o => (allB bef fun q => !Nat.beq q.1 p.1) && ((allB (List.range ops.length) fun j => !tb (nth ms p.1) j || bef.any fun q => Nat.beq q.1 j) && (guardOk (nth ms p.1) o.guard &&
      ((allB (List.range ops.length) fun j => pairOk ms p.1 o j ops[j]?) && ((allB o.after.toList fun e => !bindsA e || Nat.blt e.on p.1) && clsOk ops ms cs bef aft p (clAt cs p.1)))))
def placeOk (ops : List Oper) (ms : List Nat) (cs : List Cl) (pl : List (Nat × List Nat)) (q : Nat) : Bool := match pl[q]? with
  | some p => stepOk ops ms cs (pl.take q) (pl.drop (q + 1)) p
  | none => false
def drawOk (ops : List Oper) (pl : List (Nat × List Nat)) : Bool :=
  upTo (pl.map (·.1)) ops.length && allB (List.range pl.length) (placeOk ops (masks ops) (ops.map fun o => clOf C o.op) pl)
/-- Are two values the same? -/
def sameV : Nat → Value → Value → Bool
  | 0, _, _ => false
  | n + 1, x, y => match x, y with
    | .bool a, .bool b => yes a b
    | .int k a, .int j b => eqK k j && eqI a b
    | .string a, .string b => eqB a b
    | .pointer none, .pointer none => true
    | .pointer (some a), .pointer (some b) => Nat.beq a.block b.block && (Nat.beq a.off b.off && (a.spot.isNone && b.spot.isNone))
    | .slice none l c, .slice none m d => Nat.beq l m && Nat.beq c d
    | .slice (some a) l c, .slice (some b) m d => Nat.beq a.block b.block && (Nat.beq a.off b.off && (a.spot.isNone && b.spot.isNone)) && (Nat.beq l m && Nat.beq c d)
    | .map none, .map none => true
    | .map (some a), .map (some b) => Nat.beq a b
    | .nilFunc, .nilFunc => true
    | .nilIface, .nilIface => true
    | .iface t a, .iface u b => Nat.beq t u && sameV n a b
    | .agg a, .agg b => a.toList.length == b.toList.length && (a.toList.zip b.toList).all fun p => sameV n p.1 p.2
    | .tuple a, .tuple b => a.toList.length == b.toList.length && (a.toList.zip b.toList).all fun p => sameV n p.1 p.2
    | _, _ => false
def sameR (r : R) (v : Value) : Bool := match r with | .v x => sameV 20 x v | _ => false
def againO (ops : List Oper) (T : Tr Value) (S : St) (i : Nat) : Bool := match ops[i]? with
  | some o => bif wantO ops T o.guard then (match o.dst with | some d => sameR (opR o.op C S.h S.nx (ρ T)) (getT T d) | none => false) else true
  | none => false
def againS (ops : List Oper) (next : Tr Value → St → Option (Tr Value × St)) (rc : List Nat) (T : Tr Value) (S : St) : Option (Tr Value × St) :=
  Bool.rec (motive := fun _ => Option (Tr Value × St)) none (next T S) (allB rc (againO C ops T S))
def fitsR (c : Cl) (r : R) : Bool := match c, r with
  | .look, .v _ => true
  | .make, .n _ _ => true
  | .act, .h _ _ => true
  | .act, .c _ _ => true
  | _, _ => false
def stepK (call : Caller) (ops : List Oper) (o : Oper) (next : Tr Value → St → Option (Tr Value × St)) (T : Tr Value) (S : St) (r : R) : Option (Tr Value × St) :=
  Bool.rec (motive := fun _ => Option (Tr Value × St)) none (thenR r call T S o.dst next) (fitsR (clOf C o.op) r)
def stepP (call : Caller) (ops : List Oper) (p : Nat × List Nat) (next : Tr Value → St → Option (Tr Value × St)) (T : Tr Value) (S : St) : Option (Tr Value × St) :=
  match ops[p.1]? with
  | some o => Bool.rec (motive := fun _ => Option (Tr Value × St)) (againS C ops next p.2 (putT T o.dst undef) S) (stepK C call ops o (againS C ops next p.2) T S (opR o.op C S.h S.nx (ρ T))) (wantO ops T o.guard)
  | none => none
def stepsP (call : Caller) (ops : List Oper) (l : List (Nat × List Nat)) : Tr Value → St → Option (Tr Value × St) :=
  List.rec (motive := fun _ => Tr Value → St → Option (Tr Value × St)) (fun T S => some (T, S)) (fun p _ ih => stepP C call ops p ih) l
def drawn (call : Caller) (ops : List Oper) (T : Tr Value) (S : St) : Option (Tr Value × St) :=
  bif drawOk C ops (planOf C ops) then stepsP C call ops (planOf C ops) T S else none
def allX : List Operand → Bool
  | [] => true
  | x :: l => bif okX x then allX l else false
def opsX : List Oper → Bool
  | [] => true
  | o :: l => bif allX o.op.operands.toList then opsX l else false
def region (call : Caller) (ops : List Oper) (draw : Bool) (T : Tr Value) (S : St) : Option (Tr Value × St) :=
  Bool.rec (motive := fun _ => Option (Tr Value × St)) none (Bool.rec (motive := fun _ => Option (Tr Value × St)) (stepsO C call ops ops T S) (drawn C call ops T S) draw) (opsX ops)
inductive Ex where | go | exit (id : Nat) | ret
abbrev Res := Option (Ex × Tr Value × St)
def andThen (f : Tr Value → St → Res) : Res → Res
  | some (.go, T, S) => f T S
  | r => r
def loopN (body : Tr Value → St → Res) (n : Nat) : Tr Value → St → Res :=
  Nat.rec (motive := fun _ => Tr Value → St → Res) (fun _ _ => none) (fun _ ih T S => andThen ih (body T S)) n
def goes : Option (Tr Value × St) → Res | some p => some (.go, p.1, p.2) | none => none
def leave (i : Nat) : Res → Res
  | some (.exit j, T, S) => bif Nat.beq j i then some (.go, T, S) else some (.exit j, T, S)
  | r => r
def test (v : Value) (a b : Tr Value → St → Res) (T : Tr Value) (S : St) : Res := match v with
  | .bool t => bif t then a T S else b T S
  | _ => none
def code (call : Caller) (rounds : Nat) (c : Code) : Tr Value → St → Res :=
  Code.rec (motive := fun _ => Tr Value → St → Res)
    (fun T S => some (.go, T, S))   -- skip
    (fun _ ops d T S => goes (region C call ops.toList d T S))   -- region
    (fun _ _ a b T S => andThen b (a T S))   -- seq
    (fun c _ _ a b T S => bif okX c then test (ρ T c) a b T S else none)   -- cond
    (fun i _ a T S => leave i (a T S))   -- block
    (fun _ a T S => loopN a rounds T S)   -- loop
    (fun _ _ _ _ _ _ _ _ => none)   -- rangeFunc
    (fun i T S => some (.exit i, T, S))
    (fun _ _ _ _ => none)   -- scope
    (fun _ T S => some (.go, T, S))   -- label
    (fun _ _ _ => none)   -- goto
    (fun T S => some (.ret, T, S))
    (fun _ _ _ => none)   -- refuse
    c
def resV (h : Tr AO) (T : Tr Value) : ResultVar → Option Value
  | .tmp t => some (getT T t)
  | .cell a t => loadX C h t (getT T a)
def resL (h : Tr AO) (T : Tr Value) : List ResultVar → Option (List Value)
  | [] => some []
  | r :: l => match resV C h T r, resL h T l with
    | some v, some vs => some (v :: vs)
    | _, _ => none
def tup (l : List Value) : Value := match l with | [v] => v | _ => .tuple l.toArray
def tupS (S : St) : Option (List Value) → Option (Value × St) | some l => some (tup l, S) | none => none
def ends (rs : List ResultVar) : Res → Option (Value × St)
  | some (.go, T, S) => tupS S (resL C S.h T rs)
  | some (.ret, T, S) => tupS S (resL C S.h T rs)
  | _ => none
/-- Every slot that is written is one of so many. -/
def dstB (N : Nat) (d : Option Tmp) : Bool := match d with | some d => Nat.blt d N | none => true
def dstX (N : Nat) : List Oper → Bool
  | [] => true
  | o :: l => bif dstB N o.dst then dstX N l else false
def codeX (N : Nat) : Code → Bool
  | .region _ ops _ => dstX N ops.toList
  | .seq a b => codeX N a && codeX N b
  | .cond _ a b => codeX N a && codeX N b
  | .block _ c => codeX N c
  | .loop c => codeX N c
  | _ => true
def enter (call : Caller) (rounds : Nat) (rs : List ResultVar) (N : Nat) (b : Option Code) (args : List Value) (S : St) : Option (Value × St) :=
  match b with
  | none => none
  | some c => bif codeX N c && Nat.ble (lenL args) N then ends C rs (code C call rounds c (Tr.of args) S) else none
def enterF (call : Caller) (rounds : Nat) (args : List Value) (S : St) : Option Func → Option (Value × St)
  | some f => enter C call rounds f.results.toList f.ntmps f.body args S
  | none => none
def run (rounds : Nat) (d : Nat) : Caller :=
  Nat.rec (motive := fun _ => Caller) (fun _ _ _ => none) (fun _ ih k args S => enterF C ih rounds args S (C.fn.at k)) d
end Go.Proofs.YtpakmmnbkccdcaaDoor.Ev
end
