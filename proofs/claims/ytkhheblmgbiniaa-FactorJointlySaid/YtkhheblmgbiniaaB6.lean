/- The rules by which a walk over abstract values is reckoned. -/
import Derived.Test.YtkhheblmgbiniaaB5
namespace Go.Sy
open Go Go.RowKit

variable {P : Program} {X : Hints} {ops : Array Oper} {r : List Oper} {s : St} {K : St → Prop} {KE : Eff → Prop} {Q : Exit → St → Prop}

/-- A mark that keeps what it names from being looked into. -/
inductive Tag {α : Type} : α → Type
  | mk (x : α) : Tag x
/-- What follows a value that may lack. -/
def oK {α : Type} (x : Option α) (K : α → Prop) (_ : Tag K) : Prop := match x with | some v => K v | none => False
theorem oK_some {α : Type} (v : α) (K : α → Prop) : oK (some v) K (.mk _) = K v := rfl
theorem oK_none {α : Type} (K : α → Prop) : oK none K (.mk _) = False := rfl
theorem oK_ite {α : Type} (c : Prop) [Decidable c] (x y : Option α) (K : α → Prop) : oK (if c then x else y) K (.mk _) = ((c → oK x K (.mk _)) ∧ (¬ c → oK y K (.mk _))) := by
  by_cases h : c <;> simp [h]
attribute [go_sem] oK_some oK_none

/-! ### The state's parts -/
def St.nbox (s : St) (d : Nat) (x : AV) (l : List AV) : St := { s with t := upd s.t d x, b := upd s.b (d, s.g d, 0) (some ⟨l, false⟩), g := upd s.g d (s.g d + 1) }
def St.ntok (s : St) (d n : Nat) (x : AV) (kl : Option Key) : St := { s with t := upd s.t d x, d := crt d (s.g d) n (killO s.d kl), g := upd s.g d (s.g d + 1) }
def St.sbox (s : St) (k : Key) (l : List AV) : St := { s with b := upd s.b k (some ⟨l, false⟩) }

theorem app_v (d : Nat) (x : AV) : s.app (some d) { v := x } = s.set d x := by rw [app_val]
theorem app_v_none (x : AV) : s.app none { v := x } = s := by rw [app_val]
theorem app_n (d : Nat) (x : AV) (l : List AV) : s.app (some d) { v := x, nb := some l } = s.nbox d x l := by rw [app_nb]; rfl
theorem app_t (d n : Nat) (x : AV) (kl : Option Key) : s.app (some d) { v := x, nt := n + 1, kl := kl } = s.ntok d (n + 1) x kl := by
  cases kl <;> simp [St.app, St.ntok, sto, killO]
theorem app_t0 (d : Nat) (x : AV) : s.app (some d) { v := x, nt := 0 } = s.set d x := app_v d x
theorem app_s (x : AV) (k : Key) (l : List AV) : s.app none { v := x, st := [(k, l)] } = s.sbox k l := rfl

theorem set_t (d u : Nat) (x : AV) : (s.set d x).t u = if u = d then x else s.t u := rfl
theorem set_b (d : Nat) (x : AV) : (s.set d x).b = s.b := rfl
theorem set_d (d : Nat) (x : AV) : (s.set d x).d = s.d := rfl
theorem set_g (d : Nat) (x : AV) : (s.set d x).g = s.g := rfl
theorem nbox_t (d u : Nat) (x : AV) (l : List AV) : (s.nbox d x l).t u = if u = d then x else s.t u := rfl
theorem nbox_b (d : Nat) (k : Key) (x : AV) (l : List AV) : (s.nbox d x l).b k = if k = (d, s.g d, 0) then some ⟨l, false⟩ else s.b k := rfl
theorem nbox_d (d : Nat) (x : AV) (l : List AV) : (s.nbox d x l).d = s.d := rfl
theorem nbox_g (d u : Nat) (x : AV) (l : List AV) : (s.nbox d x l).g u = if u = d then s.g d + 1 else s.g u := rfl
theorem ntok_t (d n u : Nat) (x : AV) (kl : Option Key) : (s.ntok d n x kl).t u = if u = d then x else s.t u := rfl
theorem ntok_b (d n : Nat) (x : AV) (kl : Option Key) : (s.ntok d n x kl).b = s.b := rfl
theorem ntok_d (d n : Nat) (x : AV) (kl : Option Key) : (s.ntok d n x kl).d = crt d (s.g d) n (killO s.d kl) := rfl
theorem ntok_g (d n u : Nat) (x : AV) (kl : Option Key) : (s.ntok d n x kl).g u = if u = d then s.g d + 1 else s.g u := rfl
theorem sbox_t (k : Key) (l : List AV) : (s.sbox k l).t = s.t := rfl
theorem sbox_b (k k' : Key) (l : List AV) : (s.sbox k l).b k' = if k' = k then some ⟨l, false⟩ else s.b k' := rfl
theorem sbox_d (k : Key) (l : List AV) : (s.sbox k l).d = s.d := rfl
theorem sbox_g (k : Key) (l : List AV) : (s.sbox k l).g = s.g := rfl
theorem s0_t (args : List AV) (u : Nat) : (s0 args).t u = args.getD u .any := rfl
theorem s0_b (args : List AV) (k : Key) : (s0 args).b k = none := rfl
theorem s0_d (args : List AV) (k : Key) : (s0 args).d k = false := rfl
theorem s0_g (args : List AV) (k : Nat) : (s0 args).g k = 0 := rfl
attribute [go_sem] app_v app_v_none app_n app_t app_t0 app_s set_t set_b set_d set_g nbox_t nbox_b nbox_d nbox_g ntok_t ntok_b ntok_d ntok_g sbox_t sbox_b sbox_d sbox_g s0_t s0_b s0_d s0_g

/-! ### Code -/
theorem acode_skip : acode P X .skip Q s = Q .normal s := rfl
theorem acode_region0 (id : Nat) (l : List Oper) (dr : Bool) : acode P [] (.region id l.toArray dr) Q s = aops P l.toArray l s (Q .normal) := by simp [acode, hFz, hAp]
theorem acode_regionX (x : Nat × List Nat × List Ap) (id : Nat) (l : List Oper) (dr : Bool) : acode P (x :: X) (.region id l.toArray dr) Q s = aops P l.toArray l ((hFz (x :: X) id).foldl St.frz s) (fun s' => (hAp (x :: X) id).all (ap1 s') = true ∧ Q .normal s') := rfl
theorem hFz_nil (id : Nat) : hFz [] id = [] := rfl
theorem hFz_cons (i id : Nat) (f : List Nat) (a : List Ap) : hFz ((i, f, a) :: X) id = if id = i then f else hFz X id := rfl
theorem hAp_nil (id : Nat) : hAp [] id = [] := rfl
theorem hAp_cons (i id : Nat) (f : List Nat) (a : List Ap) : hAp ((i, f, a) :: X) id = if id = i then a else hAp X id := rfl
def St.fbox (s : St) (k : Key) (l : List AV) : St := { s with b := upd s.b k (some ⟨l, true⟩) }
def frzK (s : St) : AV → St
  | .box k _ => match s.b k with
    | some B => if B.c.all clean = true then s.fbox k B.c else s
    | none => s
  | _ => s
theorem frz_frzK (u : Nat) : s.frz u = frzK s (s.t u) := rfl
def frzB (s : St) (k : Key) : Option Box → St
  | some B => if B.c.all clean = true then s.fbox k B.c else s
  | none => s
theorem frzK_box (k : Key) (o : Nat) : frzK s (.box k o) = frzB s k (s.b k) := rfl
theorem frzB_some (k : Key) (l : List AV) (z : Bool) : frzB s k (some ⟨l, z⟩) = if l.all clean = true then s.fbox k l else s := rfl
theorem fbox_t (k : Key) (l : List AV) : (s.fbox k l).t = s.t := rfl
theorem fbox_b (k k' : Key) (l : List AV) : (s.fbox k l).b k' = if k' = k then some ⟨l, true⟩ else s.b k' := rfl
theorem fbox_d (k : Key) (l : List AV) : (s.fbox k l).d = s.d := rfl
theorem fbox_g (k : Key) (l : List AV) : (s.fbox k l).g = s.g := rfl
theorem ap1_eq (x : Nat) (ys ds : List Nat) : ap1 s (x, ys, ds) = ap2 s ys ds (s.t x) := rfl
theorem ap2_box (k : Key) (o : Nat) (ys ds : List Nat) : ap2 s ys ds (.box k o) = ((ys.all fun y => ap0 k (s.t y)) && ds.all (fun d => decide (k.1 ≠ d))) := rfl
theorem ap0_box (k k' : Key) (o : Nat) : ap0 k (.box k' o) = decide (k' ≠ k) := rfl
theorem ap0_ptr (k : Key) (l : List AV) : ap0 k (.ptr l) = true := rfl
theorem ap0_any (k : Key) : ap0 k .any = true := rfl
attribute [go_sem] ap1_eq ap2_box ap0_box ap0_ptr ap0_any
attribute [go_sem] hFz_nil hFz_cons hAp_nil hAp_cons frz_frzK frzK_box frzB_some fbox_t fbox_b fbox_d fbox_g
theorem ecall_t (d u : Nat) (k : Key) (v : AV) (c : List AV) (kl : Option Key) : (s.ecall (some d) k v c kl).t u = if u = d then v else s.t u := rfl
theorem ecall_t0 (k : Key) (v : AV) (c : List AV) (kl : Option Key) : (s.ecall none k v c kl).t = s.t := rfl
theorem ecall_b (d : Option Nat) (k k' : Key) (v : AV) (c : List AV) (kl : Option Key) : (s.ecall d k v c kl).b k' = if k' = k then some ⟨c, false⟩ else s.b k' := rfl
theorem ecall_d (d : Option Nat) (k k' : Key) (v : AV) (c : List AV) (kl : Option Key) : (s.ecall d k v c kl).d k' = if k' = (k.1, s.g k.1, 0) then false else killO s.d kl k' := rfl
theorem ecall_g (d : Option Nat) (k : Key) (u : Nat) (v : AV) (c : List AV) (kl : Option Key) : (s.ecall d k v c kl).g u = if u = k.1 then s.g k.1 + 1 else s.g u := rfl
theorem s1_t (args pre : List AV) (x : AV) (u : Nat) : (s1 args pre x).t u = if u = 0 then .box (0, 0, 0) 0 else args.getD (u - 1) .any := rfl
theorem s1_b (args pre : List AV) (x : AV) (k : Key) : (s1 args pre x).b k = if k = (0, 0, 0) then some ⟨pre ++ [x], false⟩ else none := rfl
theorem s1_d (args pre : List AV) (x : AV) (k : Key) : (s1 args pre x).d k = false := rfl
theorem s1_g (args pre : List AV) (x : AV) (u : Nat) : (s1 args pre x).g u = if u = 0 then 1 else 0 := rfl
theorem crt_at (d g n : Nat) (f : Key → Bool) (k : Key) : crt d g n f k = if k.1 = d ∧ k.2.1 = g ∧ k.2.2 < n then false else f k := rfl
theorem killO_none (f : Key → Bool) : killO f none = f := rfl
theorem killO_some (f : Key → Bool) (k k' : Key) : killO f (some k) k' = if k' = k then true else f k' := rfl
attribute [go_sem] ecall_t ecall_t0 ecall_b ecall_d ecall_g s1_t s1_b s1_d s1_g crt_at killO_none killO_some
theorem acode_seq (x y : Code) : acode P X (.seq x y) Q s = acode P X x (fun e s' => match e with | .normal => acode P X y Q s' | e => Q e s') s := rfl
theorem acode_block (id : Nat) (c : Code) : acode P X (.block id c) Q s = acode P X c (fun e s' => match e with | .exit id' => if id' = id then Q .normal s' else Q (.exit id') s' | e => Q e s') s := rfl
theorem acode_scope (c : Code) : acode P X (.scope c) Q s = acode P X c (fun e s' => match e with | .goto _ => False | e => Q e s') s := rfl
theorem acode_exit (id : Nat) : acode P X (.exit id) Q s = Q (.exit id) s := rfl
theorem acode_ret : acode P X .ret Q s = Q .ret s := rfl
def condK (b : Bool) (X Y : Prop) (_ : Tag (X, Y)) : Prop := (b = true → X) ∧ (b = false → Y)
theorem condK_true (X Y : Prop) : condK true X Y (.mk _) = X := by simp [condK]
theorem condK_false (X Y : Prop) : condK false X Y (.mk _) = Y := by simp [condK]
/-- A loop. -/
def loopK (P : Program) (X : Hints) (c : Code) (Q : Exit → St → Prop) (s : St) (_ : Tag (X, c, Q)) : Prop := acode P X (.loop c) Q s
theorem acode_loop (c : Code) : acode P X (.loop c) Q s = loopK P X c Q s (.mk _) := rfl
def testK (x : AV) (X Y : Prop) (_ : Tag (X, Y)) : Prop := match x with | .v (.bool b) => condK b X Y (.mk _) | _ => False
theorem testK_bool (b : Bool) (X Y : Prop) : testK (.v (.bool b)) X Y (.mk _) = condK b X Y (.mk _) := rfl
theorem acode_cond (c : Operand) (x y : Code) : acode P X (.cond c x y) Q s = testK (s.o P 0 c) (acode P X x Q s) (acode P X y Q s) (.mk _) := rfl
attribute [go_sem]         condK_true condK_false testK_bool 

/-! ### Operations -/
theorem aops_nil : aops P ops [] s K = K s := rfl
def gK (x : Option Key) (A : Prop) (B : Key → Prop) (_ : Tag (A, B)) : Prop := match x with | none => A | some k => B k
theorem gK_none (A : Prop) (B : Key → Prop) : gK none A B (.mk _) = A := rfl
theorem gK_some (k : Key) (A : Prop) (B : Key → Prop) : gK (some k) A B (.mk _) = B k := rfl
theorem stepG_gK (o : Oper) : stepG P s o K = gK (boxArg P s o) (stepF P s o fun e => K (s.app o.dst e)) (fun k => estepF P s o k K) (.mk _) := by
  unfold stepG gK
  cases boxArg P s o <;> rfl
theorem aops_cons (dst : Option Nat) (op : Op) (ty : TypeId) (p : String) (af : Array Edge) :
    aops P ops (⟨dst, op, ty, p, af, none⟩ :: r) s K = gK (boxArg P s ⟨dst, op, ty, p, af, none⟩) (stepF P s ⟨dst, op, ty, p, af, none⟩ (fun e => aops P ops r (s.app dst e) K)) (fun k => estepF P s ⟨dst, op, ty, p, af, none⟩ k (fun s' => aops P ops r s' K)) (.mk _) := by
  rw [← stepG_gK (K := fun s' => aops P ops r s' K)]
  simp [aops, wantA]
def gdst (ops : Array Oper) (j : Nat) : Option Nat := (ops[j]?).bind (·.dst)
theorem gdst_zero (o : Oper) (l : List Oper) : gdst (o :: l).toArray 0 = o.dst := by simp [gdst]
theorem gdst_succ (o : Oper) (l : List Oper) (j : Nat) : gdst (o :: l).toArray (j + 1) = gdst l.toArray j := by simp [gdst]
def testG (x : AV) (want : Bool) (X Y : Prop) (_ : Tag (X, Y)) : Prop := match x with | .v (.bool b) => condK (b == want) X Y (.mk _) | .tup [] => Y | _ => False
theorem testG_bool (b : Bool) (X Y : Prop) : testG (.v (.bool b)) true X Y (.mk _) = condK b X Y (.mk _) := by simp [testG]
theorem testG_bool0 (b : Bool) (X Y : Prop) : testG (.v (.bool b)) false X Y (.mk _) = condK b Y X (.mk _) := by cases b <;> simp [testG, condK]
theorem testG_none (want : Bool) (X Y : Prop) : testG (.tup []) want X Y (.mk _) = Y := rfl
attribute [go_sem] testG_bool0 testG_none
def guardK (s : St) (d : Option Nat) (want : Bool) (X Y : Prop) (_ : Tag (X, Y)) : Prop := match d with
  | some d => testG (s.t d) want X Y (.mk _)
  | none => False
theorem guardK_some (d : Nat) (want : Bool) (X Y : Prop) : guardK s (some d) want X Y (.mk _) = testG (s.t d) want X Y (.mk _) := rfl
theorem aops_guard (dst : Option Nat) (op : Op) (ty : TypeId) (p : String) (af : Array Edge) (j : Nat) (want : Bool) :
    aops P ops (⟨dst, op, ty, p, af, some (j, want)⟩ :: r) s K = guardK s (gdst ops j) want
      (gK (boxArg P s ⟨dst, op, ty, p, af, none⟩) (stepF P s ⟨dst, op, ty, p, af, none⟩ (fun e => aops P ops r (s.app dst e) K)) (fun k => estepF P s ⟨dst, op, ty, p, af, none⟩ k (fun s' => aops P ops r s' K)) (.mk _)) (aops P ops r (s.skip dst) K) (.mk _) := by
  have e : aops P ops (⟨dst, op, ty, p, af, some (j, want)⟩ :: r) s K = (match wantA ops s ⟨dst, op, ty, p, af, some (j, want)⟩ with
    | none => False
    | some c => (c = true → stepG P s ⟨dst, op, ty, p, af, none⟩ fun s' => aops P ops r s' K) ∧ (c = false → aops P ops r (s.skip dst) K)) := rfl
  rw [e]
  rw [stepG_gK (K := fun s' => aops P ops r s' K)]
  unfold wantA gdst guardK testG
  simp only
  cases (ops[j]?).bind (·.dst) with
  | none => rfl
  | some d =>
    simp only
    cases s.t d with
    | v v => cases v <;> rfl
    | tup l => cases l <;> simp
    | _ => rfl
theorem skip_some (d : Nat) : s.skip (some d) = s.set d (.tup []) := rfl
theorem skip_none : s.skip none = s := rfl
theorem o_tmp (t : TypeId) (x : Nat) : s.o P t (.tmp x) = s.t x := rfl
theorem o_const (t : TypeId) (v : Value) : s.o P t (.const v) = cst P t v := rfl
theorem o_func (t : TypeId) (f : FuncId) : s.o P t (.func f) = .clo f [] := rfl
theorem cst_int (t : TypeId) (k : IntKind) (n : Int) : cst P t (.int k n) = .v (.int k n) := rfl
theorem cst_bool (t : TypeId) (b : Bool) : cst P t (.bool b) = .v (.bool b) := rfl
theorem cells_v (v : Value) : cells? (.v v) = some [.v v] := rfl
theorem cells_agg (l : List AV) : cells? (.agg l) = some l := rfl
theorem cells_list (sz : Nat) (xs : List (List AV)) (tk : Tok) : cells? (.list sz xs tk) = some [.list sz xs tk] := rfl
theorem cells_box (k : Key) (o : Nat) : cells? (.box k o) = some [.box k o] := rfl
theorem cells_sl (k : Key) (o n : Nat) : cells? (.sl k o n) = some [.sl k o n] := rfl
theorem cells_ptr (l : List AV) : cells? (.ptr l) = some [.ptr l] := rfl
theorem cells_clo (f : FuncId) (l : List AV) : cells? (.clo f l) = some [.clo f l] := rfl
theorem fgt_v (v : Value) : fgt (.v v) = .v v := rfl
theorem fgt_list (sz : Nat) (xs : List (List AV)) (tk : Tok) : fgt (.list sz xs tk) = .list sz xs .no := rfl
theorem fgt_ptr (l : List AV) : fgt (.ptr l) = .ptr l := rfl
theorem fgt_sl (k : Key) (n z : Nat) : fgt (.sl k n z) = .sl k n z := rfl
theorem fgt_clo (f : FuncId) (l : List AV) : fgt (.clo f l) = .clo f l := rfl
theorem fgtV_agg (l : List AV) : fgtV (.agg l) = .agg (l.map fgt) := rfl
theorem fgtV_v (v : Value) : fgtV (.v v) = .v v := rfl
theorem fgtV_list (sz : Nat) (xs : List (List AV)) (tk : Tok) : fgtV (.list sz xs tk) = .list sz xs .no := rfl
theorem fgtV_clo (f : FuncId) (l : List AV) : fgtV (.clo f l) = .clo f l := rfl
theorem fgtV_ptr (l : List AV) : fgtV (.ptr l) = .ptr l := rfl
theorem clean_v (v : Value) : clean (.v v) = true := rfl
theorem clean_list (sz : Nat) (xs : List (List AV)) : clean (.list sz xs .no) = true := rfl
theorem clean_ptr (l : List AV) : clean (.ptr l) = true := rfl
theorem clean_clo (f : FuncId) (l : List AV) : clean (.clo f l) = true := rfl
theorem cleanV_agg (l : List AV) : cleanV (.agg l) = l.all clean := rfl
theorem cleanV_v (v : Value) : cleanV (.v v) = true := rfl
theorem cleanV_list (sz : Nat) (xs : List (List AV)) : cleanV (.list sz xs .no) = true := rfl
theorem cleanV_clo (f : FuncId) (l : List AV) : cleanV (.clo f l) = true := rfl
theorem cleanV_ptr (l : List AV) : cleanV (.ptr l) = true := rfl
theorem ren_v (d g : Nat) (v : Value) : ren d g (.v v) = .v v := rfl
theorem ren_list (d g sz : Nat) (xs : List (List AV)) (tk : Tok) : ren d g (.list sz xs tk) = .list sz xs (renT d g tk) := rfl
theorem ren_agg (d g : Nat) (l : List AV) : ren d g (.agg l) = .agg (l.map (ren0 d g)) := rfl
theorem ren_tup (d g : Nat) (l : List AV) : ren d g (.tup l) = .tup (l.map (ren1 d g)) := rfl
theorem ren1_v (d g : Nat) (v : Value) : ren1 d g (.v v) = .v v := rfl
theorem ren1_list (d g sz : Nat) (xs : List (List AV)) (tk : Tok) : ren1 d g (.list sz xs tk) = .list sz xs (renT d g tk) := rfl
theorem ren1_agg (d g : Nat) (l : List AV) : ren1 d g (.agg l) = .agg (l.map (ren0 d g)) := rfl
theorem ren0_v (d g : Nat) (v : Value) : ren0 d g (.v v) = .v v := rfl
theorem ren0_list (d g sz : Nat) (xs : List (List AV)) (tk : Tok) : ren0 d g (.list sz xs tk) = .list sz xs (renT d g tk) := rfl
theorem ren0_clo (d g : Nat) (f : FuncId) (l : List AV) : ren0 d g (.clo f l) = .clo f l := rfl
theorem renT_no (d g : Nat) : renT d g .no = .no := rfl
theorem renT_nil (d g : Nat) : renT d g .nil = .nil := rfl
theorem renT_own (d g : Nat) (k : Key) : renT d g (.own k) = .own (d, g, k.2.2) := rfl
theorem argsAV_nil (ts : List TypeId) : argsAV P s [] ts = [] := rfl
theorem argsAV_cons (x : Operand) (xs : List Operand) (t : TypeId) (ts : List TypeId) : argsAV P s (x :: xs) (t :: ts) = fgtV (s.o P t x) :: argsAV P s xs ts := rfl
theorem tokOK_nil : tokOK s .nil = true := rfl
theorem tokOK_own (k : Key) : tokOK s (.own k) = !s.d k := rfl
theorem tokKey_nil : tokKey .nil = none := rfl
theorem tokKey_own (k : Key) : tokKey (.own k) = some k := rfl
attribute [go_sem] gdst_zero gdst_succ guardK_some testG_bool  gK_none gK_some skip_some skip_none o_tmp o_const o_func cst_int cst_bool cells_v cells_agg cells_list cells_box cells_sl cells_ptr cells_clo fgt_v fgt_list fgt_ptr fgt_sl fgt_clo fgtV_agg fgtV_v fgtV_list fgtV_clo fgtV_ptr
  clean_v clean_list clean_ptr clean_clo cleanV_agg cleanV_v cleanV_list cleanV_clo cleanV_ptr ren_v ren_list ren_agg ren_tup ren1_v ren1_list ren1_agg ren0_v ren0_list ren0_clo renT_no renT_nil renT_own argsAV_nil argsAV_cons tokOK_nil tokOK_own tokKey_nil tokKey_own

/-! ### Numbers -/
theorem bin_add (t : TypeId) (k : IntKind) (a b : Int) : binAV P .add t (.v (.int k a)) (.v (.int k b)) = some (.v (.int k (k.wrap (a + b)))) := if_pos rfl
theorem bin_sub (t : TypeId) (k : IntKind) (a b : Int) : binAV P .sub t (.v (.int k a)) (.v (.int k b)) = some (.v (.int k (k.wrap (a - b)))) := if_pos rfl
theorem bin_mul (t : TypeId) (k : IntKind) (a b : Int) : binAV P .mul t (.v (.int k a)) (.v (.int k b)) = some (.v (.int k (k.wrap (a * b)))) := if_pos rfl
theorem bin_quo (t : TypeId) (k : IntKind) (a b : Int) : binAV P .quo t (.v (.int k a)) (.v (.int k b)) = if b = 0 then none else some (.v (.int k (k.wrap (a.tdiv b)))) := if_pos rfl
theorem bin_rem (t : TypeId) (k : IntKind) (a b : Int) : binAV P .rem t (.v (.int k a)) (.v (.int k b)) = if b = 0 then none else some (.v (.int k (a.tmod b))) := if_pos rfl
theorem bin_eql (t : TypeId) (k : IntKind) (a b : Int) : binAV P .eql t (.v (.int k a)) (.v (.int k b)) = some (.v (.bool (a == b))) := if_pos rfl
theorem bin_neq (t : TypeId) (k : IntKind) (a b : Int) : binAV P .neq t (.v (.int k a)) (.v (.int k b)) = some (.v (.bool (a != b))) := if_pos rfl
theorem bin_lss (t : TypeId) (k : IntKind) (a b : Int) : binAV P .lss t (.v (.int k a)) (.v (.int k b)) = some (.v (.bool (decide (a < b)))) := if_pos rfl
theorem bin_leq (t : TypeId) (k : IntKind) (a b : Int) : binAV P .leq t (.v (.int k a)) (.v (.int k b)) = some (.v (.bool (decide (a ≤ b)))) := if_pos rfl
theorem bin_gtr (t : TypeId) (k : IntKind) (a b : Int) : binAV P .gtr t (.v (.int k a)) (.v (.int k b)) = some (.v (.bool (decide (b < a)))) := if_pos rfl
theorem bin_geq (t : TypeId) (k : IntKind) (a b : Int) : binAV P .geq t (.v (.int k a)) (.v (.int k b)) = some (.v (.bool (decide (b ≤ a)))) := if_pos rfl
theorem bin_agg_eql (t : TypeId) (x y : List AV) : binAV P .eql t (.agg x) (.agg y) = if intStruct P t && decide (x.length = P.cellsOf t) && decide (y.length = P.cellsOf t) then (eqInts x y).map fun b => .v (.bool b) else none := rfl
theorem bin_agg_neq (t : TypeId) (x y : List AV) : binAV P .neq t (.agg x) (.agg y) = if intStruct P t && decide (x.length = P.cellsOf t) && decide (y.length = P.cellsOf t) then (eqInts x y).map fun b => .v (.bool (!b)) else none := rfl
theorem eqInts_nil : eqInts [] [] = some true := rfl
theorem eqInts_cons (a b : Int) (x y : List AV) : eqInts (.v (.int .i64 a) :: x) (.v (.int .i64 b) :: y) = (eqInts x y).map fun r => a == b && r := rfl
theorem map_some' {α β : Type} (f : α → β) (x : α) : (some x).map f = some (f x) := rfl
attribute [go_sem] bin_add bin_sub bin_mul bin_quo bin_rem bin_eql bin_neq bin_lss bin_leq bin_gtr bin_geq bin_agg_eql bin_agg_neq eqInts_nil eqInts_cons map_some'

/-- What follows an operation that is no call: 'o' its value. -/
def onO (x : Option AV) (K : AV → Prop) (_ : Tag K) : Prop := match x with | some v => K v | none => False
theorem onO_some (v : AV) (K : AV → Prop) : onO (some v) K (.mk _) = K v := rfl
theorem onO_ite (c : Prop) [Decidable c] (x y : Option AV) (K : AV → Prop) : onO (if c then x else y) K (.mk _) = ((c → onO x K (.mk _)) ∧ (¬ c → onO y K (.mk _))) := by
  by_cases h : c <;> simp [h]
theorem onO_none (K : AV → Prop) : onO none K (.mk _) = False := rfl

def effK (x : Option Eff) (KE : Eff → Prop) : Prop := match x with | some e => KE e | none => False
theorem effK_ite (c : Prop) [Decidable c] (x : Option Eff) : effK (if c then x else none) KE = (c ∧ effK x KE) := by
  by_cases h : c <;> simp [h, effK]
theorem effK_map {α : Type} (x : Option α) (f : α → Eff) : effK (x.map f) KE = (match x with | some v => KE (f v) | none => False) := by cases x <;> rfl
theorem stepF_eff (o : Oper) (h : (match o.op with | .call { callee := .value _, .. } => false | _ => true) = true) : stepF P s o KE = effK (ev P s o) KE := by
  unfold stepF
  split
  · rename_i ho; simp [ho] at h
  · rfl

theorem stepF_ev (o : Oper) (h : (match o.op with | .call { callee := .value _, .. } => false | _ => true) = true) : stepF P s o KE = (match ev P s o with | some e => KE e | none => False) := by
  unfold stepF
  split
  · rename_i ho; simp [ho] at h
  · rfl

variable (dst : Option Nat) (ty : TypeId) (p : String) (af : Array Edge) (gd : Option (Nat × Bool))
theorem stepF_move (x : Operand) : stepF P s ⟨dst, .move x, ty, p, af, gd⟩ KE = KE { v := s.o P ty x } := rfl
theorem stepF_assign (x : Operand) : stepF P s ⟨dst, .assign x, ty, p, af, gd⟩ KE = KE { v := s.o P ty x } := rfl
def pickK (c : AV) (x y : AV) (K : AV → Prop) (_ : Tag K) : Prop := match c with | .v (.bool b) => K (if b = true then x else y) | _ => False
theorem pickK_bool (b : Bool) (x y : AV) (K : AV → Prop) : pickK (.v (.bool b)) x y K (.mk _) = K (if b = true then x else y) := rfl
theorem stepF_pick (c x y : Operand) : stepF P s ⟨dst, .pick c x y, ty, p, af, gd⟩ KE = pickK (s.o P 0 c) (s.o P ty x) (s.o P ty y) (fun v => KE { v }) (.mk _) := by
  unfold stepF ev pickK
  simp only
  cases h : s.o P 0 c with
  | v v => cases v <;> rfl
  | _ => rfl
/-- The cells that an address leads to. -/
def atK (s : St) (x : AV) (K : List AV → Prop) (_ : Tag K) : Prop := match x with
  | .box k off => oK (s.b k) (fun B => off < B.c.length ∧ K (B.c.drop off)) (.mk _)
  | .ptr l => K l
  | _ => False
theorem atK_box (k : Key) (off : Nat) (K : List AV → Prop) : atK s (.box k off) K (.mk _) = oK (s.b k) (fun B => off < B.c.length ∧ K (B.c.drop off)) (.mk _) := rfl
theorem atK_ptr (l : List AV) (K : List AV → Prop) : atK s (.ptr l) K (.mk _) = K l := rfl
theorem stepF_load (t : TypeId) (x : Operand) : stepF P s ⟨dst, .load t x, ty, p, af, gd⟩ KE = atK s (s.o P 0 x) (fun l => onO (rdAV P t l) (fun v => KE { v }) (.mk _)) (.mk _) := by
  unfold stepF ev atK oK
  simp only
  cases h : s.o P 0 x with
  | box k off =>
    simp only
    cases hb : s.b k with
    | none => rfl
    | some B =>
      simp only
      by_cases ho : off < B.c.length
      · simp only [ho, if_true, true_and]
        cases rdAV P t (B.c.drop off) <;> rfl
      · simp [ho]
  | ptr l => simp only; cases rdAV P t l <;> rfl
  | _ => rfl
theorem stepF_alloc (t : TypeId) (d : Nat) : stepF P s ⟨some d, .alloc t, ty, p, af, gd⟩ KE = oK (zav P t) (fun l => KE { v := .box (d, s.g d, 0) 0, nb := some l }) (.mk _) := by
  unfold stepF ev oK
  simp only [Option.getD_some]
  cases zav P t <;> rfl
theorem stepF_box (t : TypeId) (x : Operand) (d : Nat) : stepF P s ⟨some d, .box t x, ty, p, af, gd⟩ KE = oK (cells? (s.o P t x)) (fun l => KE { v := .box (d, s.g d, 0) 0, nb := some l }) (.mk _) := by
  unfold stepF ev oK
  simp only [Option.getD_some]
  cases cells? (s.o P t x) <;> rfl
theorem stepF_build (t : TypeId) (ps : List (Nat × Operand)) : stepF P s ⟨dst, .build t ps.toArray, ty, p, af, gd⟩ KE =
    oK (places P t) (fun pl => oK (zav P t) (fun z => onO ((fillAV (pl.toArray[·]?) z (ps.map fun p => (p.1, s.o P (ptype P t p.1) p.2))).map AV.agg) (fun v => KE { v }) (.mk _)) (.mk _)) (.mk _) := by
  unfold stepF ev oK
  simp only
  cases places P t with
  | none => rfl
  | some pl =>
    cases zav P t with
    | none => rfl
    | some z =>
      simp only
      cases fillAV (pl.toArray[·]?) z (ps.map fun p => (p.1, s.o P (ptype P t p.1) p.2)) <;> rfl
theorem stepF_buildSlice (t : TypeId) (n : Nat) (ps : List (Nat × Operand)) (d : Nat) : stepF P s ⟨some d, .buildSlice t n ps.toArray, ty, p, af, gd⟩ KE =
    ((slT P t = true ∧ n = ps.length ∧ n * esz P t ≤ 2 ^ 24 ∧ (zvals P (elT P t)).map (·.length) = some (esz P t)) ∧
      oK (partsAV (esz P t) 0 (ps.map fun p => (p.1, s.o P (ptype P t p.1) p.2))) (fun l => KE { v := .list (esz P t) l (.own (d, s.g d, 0)), nt := 1 }) (.mk _)) := by
  unfold oK
  rw [stepF_eff _ rfl]
  unfold ev
  simp only [Option.getD_some, List.size_toArray]
  rw [effK_ite, effK_map]
def wrK (P : Program) (t : TypeId) (B : Option Box) (off : Nat) (c : List AV) (K : List AV → Prop) (_ : Tag K) : Prop := match B with
    | some ⟨l, false⟩ => (okT P t = true ∧ c.length = P.cellsOf t ∧ off + c.length ≤ l.length) ∧ K (l.take off ++ c ++ l.drop (off + c.length))
    | _ => False
theorem wrK_some (t : TypeId) (l : List AV) (off : Nat) (c : List AV) (K : List AV → Prop) : wrK P t (some ⟨l, false⟩) off c K (.mk _) = ((okT P t = true ∧ c.length = P.cellsOf t ∧ off + c.length ≤ l.length) ∧ K (l.take off ++ c ++ l.drop (off + c.length))) := rfl
def storeK (P : Program) (s : St) (t : TypeId) (x : AV) (c : Option (List AV)) (K : Key → List AV → Prop) (_ : Tag K) : Prop := match x, c with
  | .box k off, some c => wrK P t (s.b k) off c (K k) (.mk _)
  | _, _ => False
theorem storeK_box (t : TypeId) (k : Key) (off : Nat) (c : List AV) (K : Key → List AV → Prop) : storeK P s t (.box k off) (some c) K (.mk _) = wrK P t (s.b k) off c (K k) (.mk _) := rfl
theorem stepF_store (t : TypeId) (x y : Operand) : stepF P s ⟨none, .store t x y, ty, p, af, gd⟩ KE = storeK P s t (s.o P 0 x) (cells? (s.o P t y)) (fun k l => KE { v := .any, st := [(k, l)] }) (.mk _) := by
  unfold stepF ev storeK wrK
  simp only
  cases s.o P 0 x with
  | box k off =>
    cases cells? (s.o P t y) with
    | none => rfl
    | some c =>
      simp only
      cases s.b k with
      | none => rfl
      | some B =>
        obtain ⟨l, fz⟩ := B
        cases fz with
        | true => rfl
        | false =>
          exact effK_ite _ _
  | _ => rfl
def refK (x : AV) (K : AV → Prop) (_ : Tag K) : Prop := match x with | .box k o => K (.box k o) | .ptr l => K (.ptr l) | .clo f l => K (.clo f l) | _ => False
theorem refK_box (k : Key) (o : Nat) (K : AV → Prop) : refK (.box k o) K (.mk _) = K (.box k o) := rfl
theorem refK_ptr (l : List AV) (K : AV → Prop) : refK (.ptr l) K (.mk _) = K (.ptr l) := rfl
theorem refK_clo (f : FuncId) (l : List AV) (K : AV → Prop) : refK (.clo f l) K (.mk _) = K (.clo f l) := rfl
theorem stepF_nilCheck (x : Operand) : stepF P s ⟨dst, .nilCheck x, ty, p, af, gd⟩ KE = refK (s.o P 0 x) (fun v => KE { v }) (.mk _) := by
  unfold stepF ev refK
  simp only
  cases s.o P 0 x <;> rfl
theorem stepF_binOp (op : BinOp) (t u : TypeId) (x y : Operand) : stepF P s ⟨dst, .binOp op t x y u, ty, p, af, gd⟩ KE = onO (binAV P op t (s.o P t x) (s.o P t y)) (fun v => KE { v }) (.mk _) := by
  unfold stepF ev onO
  simp only
  cases binAV P op t (s.o P t x) (s.o P t y) <;> rfl
def unK (op : UnOp) (x : AV) (K : AV → Prop) (_ : Tag K) : Prop := match op, x with
  | .not, .v (.bool b) => K (.v (.bool (!b)))
  | .neg, .v (.int k n) => K (.v (.int k (k.wrap (0 - n))))
  | _, _ => False
theorem unK_not (b : Bool) (K : AV → Prop) : unK .not (.v (.bool b)) K (.mk _) = K (.v (.bool (!b))) := rfl
theorem unK_neg (k : IntKind) (n : Int) (K : AV → Prop) : unK .neg (.v (.int k n)) K (.mk _) = K (.v (.int k (k.wrap (0 - n)))) := rfl
theorem stepF_unOp (op : UnOp) (t : TypeId) (x : Operand) : stepF P s ⟨dst, .unOp op t x, ty, p, af, gd⟩ KE = unK op (s.o P 0 x) (fun v => KE { v }) (.mk _) := by
  unfold stepF ev unK
  simp only
  cases s.o P 0 x with
  | v v => cases v <;> cases op <;> rfl
  | _ => cases op <;> rfl
def cvK (x y : Option TypeDesc) (v : AV) (K : AV → Prop) (_ : Tag K) : Prop := match x, y, v with
    | some _, some (.int k), .v (.int _ n) => K (.v (.int k (k.wrap n)))
    | _, _, _ => False
theorem cvK_int (x : TypeDesc) (k k' : IntKind) (n : Int) (K : AV → Prop) : cvK (some x) (some (.int k)) (.v (.int k' n)) K (.mk _) = K (.v (.int k (k.wrap n))) := rfl
theorem stepF_convert (t u : TypeId) (x : Operand) : stepF P s ⟨dst, .convert t u x, ty, p, af, gd⟩ KE = cvK (P.underlying t) (P.underlying u) (s.o P t x) (fun v => KE { v }) (.mk _) := by
  unfold stepF ev cvK
  simp only
  cases P.underlying t with
  | none => rfl
  | some _ =>
    cases P.underlying u with
    | none => rfl
    | some du =>
      cases du <;> (cases s.o P t x with
        | v v => cases v <;> rfl
        | _ => rfl)
def fldK (x : AV) (o : Option Nat) (K : AV → Prop) (_ : Tag K) : Prop := match x, o with
  | .box k off, some o => K (.box k (off + o))
  | .ptr l, some o => K (.ptr (l.drop o))
  | _, _ => False
theorem fldK_box (k : Key) (off o : Nat) (K : AV → Prop) : fldK (.box k off) (some o) K (.mk _) = K (.box k (off + o)) := rfl
theorem fldK_ptr (l : List AV) (o : Nat) (K : AV → Prop) : fldK (.ptr l) (some o) K (.mk _) = K (.ptr (l.drop o)) := rfl
theorem stepF_fieldAddr (t : TypeId) (x : Operand) (f : Nat) : stepF P s ⟨dst, .fieldAddr t x f, ty, p, af, gd⟩ KE = fldK (s.o P 0 x) (foff P t f) (fun v => KE { v }) (.mk _) := by
  unfold stepF ev fldK
  simp only
  cases s.o P 0 x <;> cases foff P t f <;> rfl
theorem stepF_indexAddr (t : TypeId) (x i : Operand) : stepF P s ⟨dst, .indexAddr t x i, ty, p, af, gd⟩ KE = onO (idxAV P t (s.o P t x) (s.o P 0 i)) (fun v => KE { v }) (.mk _) := by
  unfold stepF ev onO
  simp only
  cases idxAV P t (s.o P t x) (s.o P 0 i) <;> rfl
def tupK (x : AV) (i : Nat) (K : AV → Prop) (_ : Tag K) : Prop := match x with | .tup l => onO l[i]? K (.mk _) | _ => False
theorem tupK_tup (l : List AV) (i : Nat) (K : AV → Prop) : tupK (.tup l) i K (.mk _) = onO l[i]? K (.mk _) := rfl
theorem stepF_extract (x : Operand) (i : Nat) : stepF P s ⟨dst, .extract x i, ty, p, af, gd⟩ KE = tupK (s.o P 0 x) i (fun v => KE { v }) (.mk _) := by
  unfold stepF ev tupK onO
  simp only
  cases s.o P 0 x with
  | tup l => simp only; cases l[i]? <;> rfl
  | _ => rfl
theorem stepF_makeFunc (f : FuncId) (caps : List Operand) : stepF P s ⟨dst, .makeFunc (.func f) #[] caps.toArray, ty, p, af, gd⟩ KE = onO ((capAV s (caps.map (s.o P 0))).map (AV.clo f)) (fun v => KE { v }) (.mk _) := by
  unfold stepF ev onO
  simp only [Array.isEmpty_empty, if_true]
  cases capAV s (caps.map (s.o P 0)) <;> rfl
def mkK (P : Program) (t : TypeId) (x y : AV) (K : Int → List AV → Prop) (_ : Tag K) : Prop := match x, y with
  | .v (.int .i64 n), .v (.int .i64 m) => (slT P t = true ∧ n = m ∧ 0 ≤ n ∧ n * ebytes P t ≤ 140737488355328 ∧ n ≤ 9223372036854775807) ∧ oK (zav P (elT P t)) (fun z => z.length = esz P t ∧ K n z) (.mk _)
  | _, _ => False
theorem mkK_int (t : TypeId) (n m : Int) (K : Int → List AV → Prop) : mkK P t (.v (.int .i64 n)) (.v (.int .i64 m)) K (.mk _) =
    ((slT P t = true ∧ n = m ∧ 0 ≤ n ∧ n * ebytes P t ≤ 140737488355328 ∧ n ≤ 9223372036854775807) ∧ oK (zav P (elT P t)) (fun z => z.length = esz P t ∧ K n z) (.mk _)) := rfl
theorem stepF_makeSlice (t : TypeId) (x y : Operand) (d : Nat) : stepF P s ⟨some d, .makeSlice t x y, ty, p, af, gd⟩ KE = mkK P t (s.o P 0 x) (s.o P 0 y) (fun n z => KE { v := .sl (d, s.g d, 0) n.toNat (esz P t), nb := some (List.replicate n.toNat z).flatten }) (.mk _) := by
  unfold stepF ev mkK oK
  simp only [Option.getD_some]
  generalize s.o P 0 x = X
  generalize s.o P 0 y = Y
  cases X with
  | v v =>
    cases v with
    | int k n =>
      cases k with
      | i64 =>
        cases Y with
        | v u =>
          cases u with
          | int k' m =>
            cases k' with
            | i64 =>
              refine (effK_ite _ _).trans ?_
              congr 1
              cases zav P (elT P t) with
              | none => rfl
              | some z => exact effK_ite _ _
            | _ => rfl
          | _ => rfl
        | _ => rfl
      | _ => rfl
    | _ => rfl
  | _ => rfl
def slK (P : Program) (t : TypeId) (x y : AV) (K : AV → Prop) (_ : Tag K) : Prop := match x, y with
  | .list sz xs _, .v (.int _ n) => (slT P t = true ∧ sz = esz P t ∧ 0 ≤ n ∧ n ≤ xs.length) ∧ K (.list sz (xs.take n.toNat) .no)
  | _, _ => False
theorem slK_list (t : TypeId) (sz : Nat) (xs : List (List AV)) (tk : Tok) (k : IntKind) (n : Int) (K : AV → Prop) : slK P t (.list sz xs tk) (.v (.int k n)) K (.mk _) = ((slT P t = true ∧ sz = esz P t ∧ 0 ≤ n ∧ n ≤ xs.length) ∧ K (.list sz (xs.take n.toNat) .no)) := rfl
theorem stepF_slice (t : TypeId) (x h : Operand) : stepF P s ⟨dst, .slice t x none (some h) none, ty, p, af, gd⟩ KE = slK P t (s.o P t x) (s.o P 0 h) (fun v => KE { v }) (.mk _) := by
  unfold stepF ev slK
  simp only
  generalize s.o P t x = X
  generalize s.o P 0 h = Y
  cases X with
  | list sz xs tk =>
    cases Y with
    | v u =>
      cases u with
      | int k n => exact effK_ite _ _
      | _ => rfl
    | _ => rfl
  | _ => rfl
def lenK (x : AV) (K : Int → Prop) (_ : Tag K) : Prop := match x with
  | .list _ xs _ => K xs.length
  | .sl _ n _ => K n
  | _ => False
theorem lenK_list (sz : Nat) (xs : List (List AV)) (tk : Tok) (K : Int → Prop) : lenK (.list sz xs tk) K (.mk _) = K xs.length := rfl
theorem lenK_sl (k : Key) (n sz : Nat) (K : Int → Prop) : lenK (.sl k n sz) K (.mk _) = K n := rfl
theorem stepF_len (x : Operand) (t : TypeId) : stepF P s ⟨dst, .call { callee := .builtin .len, args := #[x], argTypes := #[t] }, ty, p, af, gd⟩ KE = (slT P t = true ∧ lenK (s.o P t x) (fun n => KE { v := .v (.int .i64 n) }) (.mk _)) := by
  unfold stepF ev lenK
  simp only
  by_cases h : slT P t = true
  · simp only [h, if_true, true_and]
    cases s.o P t x <;> rfl
  · simp [h]
def appK (P : Program) (s : St) (t : TypeId) (x y : AV) (K : Nat → List (List AV) → Option Key → Prop) (_ : Tag K) : Prop := match x, y with
  | .list sz xs tk, .list sz' ys _ => (slT P t = true ∧ sz = esz P t ∧ sz' = sz ∧ tokOK s tk = true ∧ (xs.length + ys.length) * ebytes P t ≤ 140737488355328
      ∧ (zvals P (elT P t)).map (·.length) = some (esz P t) ∧ xs.length + ys.length ≤ 9223372036854775807) ∧ K sz (xs ++ ys) (tokKey tk)
  | _, _ => False
theorem appK_list (t : TypeId) (sz sz' : Nat) (xs ys : List (List AV)) (tk tk' : Tok) (K : Nat → List (List AV) → Option Key → Prop) : appK P s t (.list sz xs tk) (.list sz' ys tk') K (.mk _) = ((slT P t = true ∧ sz = esz P t ∧ sz' = sz ∧ tokOK s tk = true ∧ (xs.length + ys.length) * ebytes P t ≤ 140737488355328
      ∧ (zvals P (elT P t)).map (·.length) = some (esz P t) ∧ xs.length + ys.length ≤ 9223372036854775807) ∧ K sz (xs ++ ys) (tokKey tk)) := rfl
theorem stepF_append (x y : Operand) (t : TypeId) (d : Nat) : stepF P s ⟨some d, .call { callee := .builtin .append, args := #[x, y], argTypes := #[t, t] }, ty, p, af, gd⟩ KE =
    appK P s t (s.o P t x) (s.o P t y) (fun sz l kl => KE { v := .list sz l (.own (d, s.g d, 0)), nt := 1, kl := kl }) (.mk _) := by
  unfold stepF ev appK
  simp only [Option.isSome_some, Option.getD_some, true_and]
  cases s.o P t x with
  | list sz xs tk =>
    cases s.o P t y with
    | list sz' ys tk' =>
      exact effK_ite _ _
    | _ => rfl
  | _ => rfl
def twoK (x y : AV) (K : IntKind → Int → Int → Prop) (_ : Tag K) : Prop := match x, y with
  | .v (.int k a), .v (.int _ b) => K k a b
  | _, _ => False
theorem twoK_int (k k' : IntKind) (a b : Int) (K : IntKind → Int → Int → Prop) : twoK (.v (.int k a)) (.v (.int k' b)) K (.mk _) = K k a b := rfl
theorem stepF_max (x y : Operand) (ts : Array TypeId) : stepF P s ⟨dst, .call { callee := .builtin .max, args := #[x, y], argTypes := ts }, ty, p, af, gd⟩ KE = twoK (s.o P 0 x) (s.o P 0 y) (fun k a b => KE { v := .v (.int k (if b > a then b else a)) }) (.mk _) := by
  unfold stepF ev twoK
  simp only
  cases s.o P 0 x with
  | v v =>
    cases v <;> (cases s.o P 0 y with
      | v u => cases u <;> rfl
      | _ => rfl)
  | _ => rfl
theorem stepF_min (x y : Operand) (ts : Array TypeId) : stepF P s ⟨dst, .call { callee := .builtin .min, args := #[x, y], argTypes := ts }, ty, p, af, gd⟩ KE = twoK (s.o P 0 x) (s.o P 0 y) (fun k a b => KE { v := .v (.int k (if b < a then b else a)) }) (.mk _) := by
  unfold stepF ev twoK
  simp only
  cases s.o P 0 x with
  | v v =>
    cases v <;> (cases s.o P 0 y with
      | v u => cases u <;> rfl
      | _ => rfl)
  | _ => rfl

/-- A call. -/
def callK (P : Program) (f : FuncId) (xs : List AV) (d g : Nat) (K : Eff → Prop) (_ : Tag K) : Prop := ∃ n r, Con P f xs n r ∧ K { v := ren d g r, nt := n }
theorem stepF_call (f : FuncId) (args : List Operand) (ts : List TypeId) : stepF P s ⟨dst, .call { callee := .value (.func f), args := args.toArray, argTypes := ts.toArray }, ty, p, af, gd⟩ KE =
    ((args.length ≤ ts.length ∧ (argsAV P s args ts).all cleanV = true) ∧ callK P f (argsAV P s args ts) (dst.getD 0) (s.g (dst.getD 0)) KE (.mk _)) := by
  unfold stepF callK
  simp [St.o, and_assoc]

theorem boxArg_move (x : Operand) : boxArg P s ⟨dst, .move x, ty, p, af, gd⟩ = none := rfl
theorem boxArg_assign (x : Operand) : boxArg P s ⟨dst, .assign x, ty, p, af, gd⟩ = none := rfl
theorem boxArg_pick (x y z : Operand) : boxArg P s ⟨dst, .pick x y z, ty, p, af, gd⟩ = none := rfl
theorem boxArg_alloc (t : TypeId) : boxArg P s ⟨dst, .alloc t, ty, p, af, gd⟩ = none := rfl
theorem boxArg_box (t : TypeId) (x : Operand) : boxArg P s ⟨dst, .box t x, ty, p, af, gd⟩ = none := rfl
theorem boxArg_build (t : TypeId) (ps : Array (Nat × Operand)) : boxArg P s ⟨dst, .build t ps, ty, p, af, gd⟩ = none := rfl
theorem boxArg_buildSlice (t : TypeId) (n : Nat) (ps : Array (Nat × Operand)) : boxArg P s ⟨dst, .buildSlice t n ps, ty, p, af, gd⟩ = none := rfl
theorem boxArg_load (t : TypeId) (x : Operand) : boxArg P s ⟨dst, .load t x, ty, p, af, gd⟩ = none := rfl
theorem boxArg_store (t : TypeId) (x y : Operand) : boxArg P s ⟨dst, .store t x y, ty, p, af, gd⟩ = none := rfl
theorem boxArg_nilCheck (x : Operand) : boxArg P s ⟨dst, .nilCheck x, ty, p, af, gd⟩ = none := rfl
theorem boxArg_binOp (b : BinOp) (t : TypeId) (x y : Operand) (u : TypeId) : boxArg P s ⟨dst, .binOp b t x y u, ty, p, af, gd⟩ = none := rfl
theorem boxArg_unOp (b : UnOp) (t : TypeId) (x : Operand) : boxArg P s ⟨dst, .unOp b t x, ty, p, af, gd⟩ = none := rfl
theorem boxArg_convert (t u : TypeId) (x : Operand) : boxArg P s ⟨dst, .convert t u x, ty, p, af, gd⟩ = none := rfl
theorem boxArg_fieldAddr (t : TypeId) (x : Operand) (f : Nat) : boxArg P s ⟨dst, .fieldAddr t x f, ty, p, af, gd⟩ = none := rfl
theorem boxArg_indexAddr (t : TypeId) (x i : Operand) : boxArg P s ⟨dst, .indexAddr t x i, ty, p, af, gd⟩ = none := rfl
theorem boxArg_extract (x : Operand) (i : Nat) : boxArg P s ⟨dst, .extract x i, ty, p, af, gd⟩ = none := rfl
theorem boxArg_makeFunc (f : Fn) (xs ys : Array Operand) : boxArg P s ⟨dst, .makeFunc f xs ys, ty, p, af, gd⟩ = none := rfl
theorem boxArg_makeSlice (t : TypeId) (x y : Operand) : boxArg P s ⟨dst, .makeSlice t x y, ty, p, af, gd⟩ = none := rfl
theorem boxArg_slice (t : TypeId) (x : Operand) (a b c : Option Operand) : boxArg P s ⟨dst, .slice t x a b c, ty, p, af, gd⟩ = none := rfl
theorem boxArg_builtin (b : Builtin) (xs : Array Operand) (ts : Array TypeId) : boxArg P s ⟨dst, .call { callee := .builtin b, args := xs, argTypes := ts }, ty, p, af, gd⟩ = none := rfl
def pbox (b : Bool) (x : AV) : Option Key := if b = true then box0 x else none
theorem pbox_false (x : AV) : pbox false x = none := rfl
theorem pbox_true (x : AV) : pbox true x = box0 x := rfl
theorem boxArg_call (f : FuncId) (x0 : Operand) (xs : List Operand) (t0 : TypeId) (ts : List TypeId) : boxArg P s ⟨dst, .call { callee := .value (.func f), args := (x0 :: xs).toArray, argTypes := (t0 :: ts).toArray }, ty, p, af, gd⟩ = pbox (isPtrT P t0) (s.o P t0 x0) := rfl
theorem boxArg_call0 (f : FuncId) : boxArg P s ⟨dst, .call { callee := .value (.func f), args := #[], argTypes := #[] }, ty, p, af, gd⟩ = none := rfl
theorem box0_box (k : Key) : box0 (.box k 0) = some k := rfl
theorem box0_ptr (l : List AV) : box0 (.ptr l) = none := rfl
def ecallK (P : Program) (s : St) (f : FuncId) (xs : List AV) (k : Key) (B : Option Box) (dst : Option Nat) (K : St → Prop) (_ : Tag K) : Prop :=
  ∃ pre x v pre' x', B = some ⟨pre ++ [x], false⟩ ∧ pre.all clean = true ∧ lastOK s x = true ∧ ECon P f xs pre (canonX x) v pre' x' ∧ K (s.ecall dst k v (pre' ++ [ren0 k.1 (s.g k.1) x']) (lastKey x))
theorem estep_call (f : FuncId) (x0 : Operand) (xs : List Operand) (t0 : TypeId) (ts : List TypeId) (k : Key) : estepF P s ⟨dst, .call { callee := .value (.func f), args := (x0 :: xs).toArray, argTypes := (t0 :: ts).toArray }, ty, p, af, gd⟩ k K =
    ((xs.length ≤ ts.length ∧ isPtrT P t0 = true ∧ s.o P t0 x0 = .box k 0 ∧ (argsAV P s xs ts).all cleanV = true) ∧ ecallK P s f (argsAV P s xs ts) k (s.b k) dst K (.mk _)) := by
  apply propext
  unfold estepF ecallK EEvK
  constructor
  · rintro ⟨v, c, kl, ⟨f', x0', xs', t0', ts', pre, x, pre', x', h1, h2, h3, h4, h5, h6, h7, h8, h9, h10, h11, rfl, rfl⟩, hK⟩
    simp only [St.o] at h1
    cases h1
    cases h2
    cases h3
    exact ⟨⟨h4, h5, h6, h10⟩, pre, x, v, pre', x', h7, h8, h9, h11, hK⟩
  · rintro ⟨⟨h4, h5, h6, h10⟩, pre, x, v, pre', x', h7, h8, h9, h11, hK⟩
    exact ⟨v, _, _, ⟨f, x0, xs, t0, ts, pre, x, pre', x', rfl, rfl, rfl, h4, h5, h6, h7, h8, h9, h10, h11, rfl, rfl⟩, hK⟩

attribute [go_sem] boxArg_move boxArg_assign boxArg_pick boxArg_alloc boxArg_box boxArg_build boxArg_buildSlice boxArg_load boxArg_store boxArg_nilCheck boxArg_binOp boxArg_unOp boxArg_convert boxArg_fieldAddr boxArg_indexAddr boxArg_extract boxArg_makeFunc boxArg_makeSlice boxArg_slice boxArg_builtin boxArg_call boxArg_call0 box0_box box0_ptr pbox_false pbox_true 
attribute [go_sem]   onO_some onO_none   pickK_bool  atK_box atK_ptr      storeK_box wrK_some  refK_box refK_ptr refK_clo 
   unK_not unK_neg  cvK_int  fldK_box fldK_ptr   tupK_tup   mkK_int  slK_list  lenK_list lenK_sl  appK_list  twoK_int   

/-! ### Results -/
variable {rs : List ResultVar}
theorem retQ_ret (x : AV) : retQ P rs x .ret s = oK (resAV P s rs) (fun xs => fin s (one xs) x) (.mk _) := by
  simp only [retQ]
  generalize resAV P s rs = z
  cases z <;> simp [oK]
theorem retQ_normal (x : AV) : retQ P rs x .normal s = oK (resAV P s rs) (fun xs => fin s (one xs) x) (.mk _) := retQ_ret x
theorem retE_ret (x y : AV) (pre : List AV) : retE P rs x pre y .ret s = (oK (resAV P s rs) (fun xs => x = .any ∨ (cleanV (fgtV (one xs)) = true ∧ x = fgtV (one xs))) (.mk _) ∧ oK (s.b (0, 0, 0)) (fun B => ∃ z, B = ⟨pre ++ [z], false⟩ ∧ pre.all clean = true ∧ lastOK s z = true ∧ y = canonX z) (.mk _)) := by
  simp only [retE]
  generalize resAV P s rs = z
  generalize s.b (0, 0, 0) = u
  cases z <;> cases u <;> simp [oK]
theorem retE_normal (x y : AV) (pre : List AV) : retE P rs x pre y .normal s = (oK (resAV P s rs) (fun xs => x = .any ∨ (cleanV (fgtV (one xs)) = true ∧ x = fgtV (one xs))) (.mk _) ∧ oK (s.b (0, 0, 0)) (fun B => ∃ z, B = ⟨pre ++ [z], false⟩ ∧ pre.all clean = true ∧ lastOK s z = true ∧ y = canonX z) (.mk _)) := retE_ret x y pre
theorem resAV_nil : resAV P s [] = some [] := rfl
theorem resAV_tmp (t : Nat) : resAV P s (.tmp t :: rs) = (resAV P s rs).map (s.t t :: ·) := by
  simp only [resAV, resAV1]
  cases resAV P s rs <;> rfl
def rdO (P : Program) (s : St) (t : TypeId) : AV → Option AV
  | .box k off => (s.b k).bind fun B => if off < B.c.length then rdAV P t (B.c.drop off) else none
  | _ => none
theorem rdO_box (t : TypeId) (k : Key) (off : Nat) : rdO P s t (.box k off) = (s.b k).bind fun B => if off < B.c.length then rdAV P t (B.c.drop off) else none := rfl
theorem resAV_cell (a : Nat) (t : TypeId) : resAV P s (.cell a t :: rs) = (rdO P s t (s.t a)).bind fun x => (resAV P s rs).map (x :: ·) := by
  simp only [resAV, resAV1, rdO]
  cases s.t a with
  | box k off =>
    simp only
    cases s.b k with
    | none => rfl
    | some B =>
      simp only [Option.bind_some]
      by_cases h : off < B.c.length
      · simp only [h, if_true]
        cases rdAV P t (B.c.drop off) with
        | none => rfl
        | some x => simp only [Option.bind_some]; cases resAV P s rs <;> rfl
      · simp only [h, if_false]; rfl
  | _ => rfl
theorem one_one (x : AV) : one [x] = x := rfl
theorem one_nil : one [] = .tup [] := rfl
theorem one_two (x y : AV) (l : List AV) : one (x :: y :: l) = .tup (x :: y :: l) := rfl
attribute [go_sem] retQ_ret retQ_normal retE_ret retE_normal resAV_nil resAV_tmp rdO_box resAV_cell one_one one_nil one_two Option.bind_some

/-- Cleared of what only the call could use. -/
def fin1F : AV → AV
  | .agg l => .agg (l.map fgt)
  | a => fgt a
def finF : AV → AV
  | .tup l => .tup (l.map fin1F)
  | a => fin1F a
def fin1C : AV → Bool
  | .agg l => l.all fun x => clean (fgt x)
  | a => clean (fgt a)
def finC : AV → Bool
  | .tup l => l.all fin1C
  | a => fin1C a
theorem fin1_of {x : AV} (h : fin1C x = true) : fin1 s x (fin1F x) := by
  cases hx : x with
  | agg l =>
    subst hx
    refine .agg _ _ (by simp) fun i y r hy hr => .inl ?_
    simp only [List.getElem?_map, hy, Option.map_some, Option.some.injEq] at hr
    exact ⟨List.all_eq_true.1 h y (List.mem_of_getElem? hy), hr.symm⟩
  | _ => subst hx; exact .one _ _ (.inl ⟨h, rfl⟩)
theorem fin_of {x r : AV} (h : finC x = true) (hr : r = finF x) : fin s x r := by
  subst hr
  cases hx : x with
  | tup l =>
    subst hx
    refine .tup _ _ (by simp) fun i y r hy hr => ?_
    simp only [List.getElem?_map, hy, Option.map_some, Option.some.injEq] at hr
    subst hr
    exact fin1_of (List.all_eq_true.1 h y (List.mem_of_getElem? hy))
  | _ => subst hx; exact .one _ _ (fin1_of h)

/-! ### Only what stands first is looked at -/
theorem aops_congr {l : List Oper} {s s' : St} {K : St → Prop} (h : s = s') : aops P ops l s K = aops P ops l s' K := by rw [h]
theorem acode_congr {c : Code} {s s' : St} {Q : Exit → St → Prop} (h : s = s') : acode P X c Q s = acode P X c Q s' := by rw [h]
theorem fin_congr {x y r : AV} (h : x = y) : fin s x r = fin s y r := by rw [h]
attribute [congr] aops_congr acode_congr fin_congr

theorem condK_intro {b : Bool} {X Y : Prop} {t : Tag (X, Y)} (h1 : b = true → X) (h2 : b = false → Y) : condK b X Y t := ⟨h1, h2⟩
theorem condK_dec {p : Prop} [Decidable p] {X Y : Prop} {t : Tag (X, Y)} (h1 : p → X) (h2 : ¬ p → Y) : condK (decide p) X Y t := ⟨fun h => h1 (by simpa using h), fun h => h2 (by simpa using h)⟩
theorem callK_intro {f : FuncId} {xs : List AV} {d g n : Nat} {r : AV} {K : Eff → Prop} {t : Tag K} (h : Con P f xs n r) (hK : K { v := ren d g r, nt := n }) : callK P f xs d g K t := ⟨n, r, h, hK⟩
theorem ecallK_intro {f : FuncId} {xs pre pre' : List AV} {x x' v : AV} {k : Key} {dst : Option Nat} {K : St → Prop} {t : Tag K} (h0 : pre.all clean = true) (h1 : lastOK s x = true) (h : ECon P f xs pre (canonX x) v pre' x')
    (hK : K (s.ecall dst k v (pre' ++ [ren0 k.1 (s.g k.1) x']) (lastKey x))) : ecallK P s f xs k (some ⟨pre ++ [x], false⟩) dst K t := ⟨pre, x, v, pre', x', rfl, h0, h1, h, hK⟩
theorem loopK_intro {α : Type} {c : Code} {t : Tag (X, c, Q)} (I : α → St → Prop) (μ : α → Nat) (h0 : ∃ x, I x s) (h : ∀ x s', I x s' → acode P X c (fun e s2 => match e with | .normal => ∃ y, μ y < μ x ∧ I y s2 | e => Q e s2) s') :
    loopK P X c Q s t := by
  obtain ⟨x0, h0⟩ := h0
  refine ⟨fun n s' => ∃ x, μ x = n ∧ I x s', ⟨μ x0, x0, rfl, h0⟩, ?_⟩
  rintro n s' ⟨x, rfl, hx⟩
  have := h x s' hx
  have e : (fun (e : Exit) (s2 : St) => (match e with | .normal => ∃ y, μ y < μ x ∧ I y s2 | e => Q e s2)) = (fun (e : Exit) (s2 : St) => (match e with | .normal => ∃ m, m < μ x ∧ ∃ y, μ y = m ∧ I y s2 | e => Q e s2)) := by
    funext e s2
    cases e with
    | normal => exact propext ⟨fun ⟨y, h1, h2⟩ => ⟨_, h1, y, rfl, h2⟩, fun ⟨m, h1, y, h2, h3⟩ => ⟨y, h2 ▸ h1, h3⟩⟩
    | _ => rfl
  rw [e] at this
  exact this

attribute [go_sem ↓] acode_skip acode_region0 acode_regionX acode_seq acode_block acode_scope acode_exit acode_ret acode_cond acode_loop aops_nil aops_cons aops_guard estep_call stepF_alloc stepF_append stepF_assign stepF_binOp stepF_box stepF_build stepF_buildSlice stepF_call stepF_convert stepF_extract stepF_fieldAddr stepF_indexAddr stepF_len stepF_load stepF_makeFunc stepF_makeSlice stepF_max stepF_min stepF_move stepF_nilCheck stepF_pick stepF_slice stepF_store stepF_unOp

end Go.Sy
