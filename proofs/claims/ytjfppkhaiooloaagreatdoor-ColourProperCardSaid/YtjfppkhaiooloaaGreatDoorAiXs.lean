/- The abstract interpreter: how operations reckon, for walks. -/
import Derived.Test.YtjfppkhaiooloaaGreatDoorAiWp
namespace Go.AI

@[go_sem] theorem wanted_none (tm : Trie Value) : wanted tm none = some true := (rfl)
@[go_sem] theorem wanted_some (tm : Trie Value) (t : Nat) (b : Bool) : wanted tm (some (t, b)) = optE (tm.get t) none fun v => wantedV b v := (rfl)
@[go_sem] theorem wantedV_bool (b c : Bool) : wantedV b (.bool c) = some (c == b) := (rfl)
@[go_sem] theorem wantedV_undef (b : Bool) : wantedV b Go.undef = some false := (rfl)
@[go_sem] theorem put_some (tm : Trie Value) (d : List Deferred) (t : Nat) (v : Value) : put ⟨tm, d⟩ (some t) v = ⟨tm.set t v, d⟩ := (rfl)
@[go_sem] theorem put_none (fr : Fr) (v : Value) : put fr none v = fr := (rfl)
@[go_sem] theorem put_tm (tm : Trie Value) (d : List Deferred) : (Fr.mk tm d).tm = tm := (rfl)
attribute [go_sem] Trie.get_set
@[go_sem] theorem xOptE_some {α β : Type} (x : α) (n : β) (k : α → β) : optE (some x) n k = k x := (rfl)
@[go_sem] theorem xOptE_none {α β : Type} (n : β) (k : α → β) : optE none n k = n := (rfl)
@[go_sem] theorem xIfB_true {α : Type} (x y : α) : ifB true x y = x := (rfl)
@[go_sem] theorem xIfB_false {α : Type} (x y : α) : ifB false x y = y := (rfl)
@[go_sem] theorem xEv_tmp (tm : Trie Value) (t : Nat) : ev tm (.tmp t) = tm.get t := (rfl)
@[go_sem] theorem xEv_val (tm : Trie Value) (v : Value) : ev tm (.val v) = some v := (rfl)
@[go_sem] theorem xEvs_nil (tm : Trie Value) : evs tm [] = some [] := (rfl)
@[go_sem] theorem xEvs_cons (tm : Trie Value) (x : AX) (xs : List AX) : evs tm (x :: xs) = optE (ev tm x) none fun v => optE (evs tm xs) none fun vs => some (v :: vs) := (rfl)
@[go_sem] theorem xArgs_nil (i : Nat) (tm : Trie Value) : argsAt i [] tm = tm := (rfl)
@[go_sem] theorem xArgs_cons (i : Nat) (v : Value) (vs : List Value) (tm : Trie Value) : argsAt i (v :: vs) tm = argsAt (i + 1) vs (tm.set i v) := (rfl)
section
variable {E : Env} {rd : Option Nat} {Q : Post} {fr : Fr} {s : St} {K : Fr → St → Prop}

/-- Behind an operation. -/
noncomputable def wV (dst : Option Nat) (fr : Fr) (K : Fr → St → Prop) (r : VS) : Prop := optE r False fun p => K (put fr dst p.1) p.2
/-- Behind a guard. -/
noncomputable def wG (E : Env) (Q : Post) (o : AO) (os : List AO) (fr : Fr) (s : St) (r : Option Bool) : Prop := optE r False fun w => ifB w (wOp E o.dst fr s (wOps E Q os) Q o.op) (wOps E Q os (put fr o.dst undef) s)
/-- Behind a condition. -/
noncomputable def wC (E : Env) (rd : Option Nat) (a b : AC) (Q : Post) (fr : Fr) (s : St) (r : Option Value) : Prop := optE r False fun v => match v with
  | .bool t => ifB t (w E rd a Q fr s) (w E rd b Q fr s)
  | _ => False
/-- What is handed back by a function whose frame has no deferred calls. -/
noncomputable def wEndR (rs : List AR) (R : CRes → St → Prop) : Post := wEnd ⟨rs, .skip⟩ R
/-- At a function's end. -/
noncomputable def wF (R : CRes → St → Prop) (d : List Deferred) (s : St) (r : Option (List Value)) : Prop := d = [] ∧ optE r False fun vs => R (.ret (oneOf vs)) s

@[go_sem] theorem wV_some (dst : Option Nat) (v : Value) : wV dst fr K (some (v, s)) = K (put fr dst v) s := (rfl)
@[go_sem] theorem wOps_nil : wOps E Q [] fr s = Q .normal fr s := (rfl)
@[go_sem] theorem wOps_cons (o : AO) (os : List AO) : wOps E Q (o :: os) fr s = wG E Q o os fr s (wanted fr.tm o.guard) := (rfl)
@[go_sem] theorem wG_true (o : AO) (os : List AO) : wG E Q o os fr s (some true) = wOp E o.dst fr s (wOps E Q os) Q o.op := (rfl)
@[go_sem] theorem wG_false (o : AO) (os : List AO) : wG E Q o os fr s (some false) = wOps E Q os (put fr o.dst undef) s := (rfl)
@[go_sem] theorem wOp_op (dst : Option Nat) (k : Kind) (f : OpF) : wOp E dst fr s K Q (.op k f) = wV dst fr K (f fr.tm s) := (rfl)
@[go_sem] theorem wOp_callF (dst : Option Nat) (f : FuncId) (xs : List AX) : wOp E dst fr s K Q (.callF f xs) = optE (evs fr.tm xs) False fun vs => EvCall E f vs s (wRes dst fr K Q) := (rfl)
@[go_sem] theorem wOp_call (dst : Option Nat) (x : AX) (xs : List AX) : wOp E dst fr s K Q (.call x xs) = optE (ev fr.tm x) False fun f => optE (evs fr.tm xs) False fun vs => EvVal E f vs s (wRes dst fr K Q) := (rfl)
@[go_sem] theorem wOp_inv (dst : Option Nat) (n : String) (x : AX) (xs : List AX) : wOp E dst fr s K Q (.invoke n x xs) = optE (ev fr.tm x) False fun f => optE (evs fr.tm xs) False fun vs => EvInv E n f vs s (wRes dst fr K Q) := (rfl)
@[go_sem] theorem w_skip : w E rd .skip Q fr s = Q .normal fr s := (rfl)
@[go_sem] theorem w_ops (l : List AO) : w E rd (.ops l) Q fr s = wOps E Q l fr s := (rfl)
@[go_sem] theorem w_seq (a b : AC) : w E rd (.seq a b) Q fr s = w E rd a (wThen (w E rd b Q) Q) fr s := (rfl)
@[go_sem] theorem w_cond (x : AX) (a b : AC) : w E rd (.cond x a b) Q fr s = wC E rd a b Q fr s (ev fr.tm x) := (rfl)
@[go_sem] theorem w_block (id : Nat) (b : AC) : w E rd (.block id b) Q fr s = w E rd b (wBlock id Q) fr s := (rfl)
@[go_sem] theorem w_exit (id : Nat) : w E rd (.exit id) Q fr s = Q (.exit id) fr s := (rfl)
@[go_sem] theorem w_ret : w E rd .ret Q fr s = Q .ret fr s := (rfl)
@[go_sem] theorem w_loop (b : AC) : w E rd (.loop b) Q fr s = Ev E rd (.loop b) fr s Q := (rfl)
@[go_sem] theorem w_range (g : AX) (k : Nat) : w E rd (.range g k) Q fr s = Ev E rd (.range g k) fr s Q := (rfl)
@[go_sem] theorem w_drawn (l : List AO) : w E rd (.drawn l) Q fr s = Ev E rd (.drawn l) fr s Q := (rfl)
@[go_sem] theorem wC_true (a b : AC) : wC E rd a b Q fr s (some (.bool true)) = w E rd a Q fr s := (rfl)
@[go_sem] theorem wC_false (a b : AC) : wC E rd a b Q fr s (some (.bool false)) = w E rd b Q fr s := (rfl)
@[go_sem] theorem wThen_normal : wThen K Q .normal fr s = K fr s := (rfl)
@[go_sem] theorem wThen_ret : wThen K Q .ret fr s = Q .ret fr s := (rfl)
@[go_sem] theorem wThen_exit (id : Nat) : wThen K Q (.exit id) fr s = Q (.exit id) fr s := (rfl)
@[go_sem] theorem wThen_panic (v : Value) : wThen K Q (.panic v) fr s = Q (.panic v) fr s := (rfl)
@[go_sem] theorem wBlock_normal (id : Nat) : wBlock id Q .normal fr s = Q .normal fr s := (rfl)
@[go_sem] theorem wBlock_ret (id : Nat) : wBlock id Q .ret fr s = Q .ret fr s := (rfl)
@[go_sem] theorem wBlock_panic (id : Nat) (v : Value) : wBlock id Q (.panic v) fr s = Q (.panic v) fr s := (rfl)
@[go_sem] theorem wBlock_same (id : Nat) : wBlock id Q (.exit id) fr s = Q .normal fr s := by
  show ifB (Nat.beq id id) _ _ = _
  rw [Nat.beq_refl]; rfl
@[go_sem] theorem wBlock_exit (id j : Nat) (h : j ≠ id) : wBlock id Q (.exit j) fr s = Q (.exit j) fr s := by
  show ifB (Nat.beq j id) _ _ = _
  rw [nbeq_false h]; rfl
@[go_sem] theorem wRes_ret (dst : Option Nat) (v : Value) : wRes dst fr K Q (.ret v) s = K (put fr dst v) s := (rfl)
@[go_sem] theorem wRes_panic (dst : Option Nat) (v : Value) : wRes dst fr K Q (.panic v) s = Q (.panic v) fr s := (rfl)
@[go_sem] theorem wEnd_normal (F : AF) (R : CRes → St → Prop) : wEnd F R .normal fr s = wF R fr.defers s (resultsV fr.tm s F.results) := (rfl)
@[go_sem] theorem wEnd_ret (F : AF) (R : CRes → St → Prop) : wEnd F R .ret fr s = wF R fr.defers s (resultsV fr.tm s F.results) := (rfl)
@[go_sem] theorem wEnd_panic (F : AF) (R : CRes → St → Prop) (v : Value) : wEnd F R (.panic v) fr s = (fr.defers = [] ∧ R (.panic v) s) := (rfl)
@[go_sem] theorem wEndR_normal (rs : List AR) (R : CRes → St → Prop) : wEndR rs R .normal fr s = wF R fr.defers s (resultsV fr.tm s rs) := (rfl)
@[go_sem] theorem wEndR_ret (rs : List AR) (R : CRes → St → Prop) : wEndR rs R .ret fr s = wF R fr.defers s (resultsV fr.tm s rs) := (rfl)
@[go_sem] theorem wEndR_panic (rs : List AR) (R : CRes → St → Prop) (v : Value) : wEndR rs R (.panic v) fr s = (fr.defers = [] ∧ R (.panic v) s) := (rfl)
theorem wEndR_eq (F : AF) (R : CRes → St → Prop) : wEnd F R = wEndR F.results R := by
  funext e fr s
  cases e <;> rfl
/-- A call, by what must be shown of the function's code. -/
theorem evCall_w {f : FuncId} {args : List Value} {rs : List AR} {b : AC} {R : CRes → St → Prop} (hs : E.spec f args s = none) (hF : E.fn f = some ⟨rs, b⟩) (h : w E none b (wEndR rs R) (enter args) s) : EvCall E f args s R :=
  evCall_of hs hF (by rw [wEndR_eq]; exact w_sound _ _ _ _ h)
@[go_sem] theorem wF_some (R : CRes → St → Prop) (vs : List Value) : wF R [] s (some vs) = R (.ret (oneOf vs)) s := by
  unfold wF; simp
end
@[go_sem] theorem enter_eq (args : List Value) : enter args = ⟨argsAt 0 args .leaf, []⟩ := (rfl)
@[go_sem] theorem resultsV_nil (tm : Trie Value) (s : St) : resultsV tm s [] = some [] := (rfl)
@[go_sem] theorem resultsV_tmp (tm : Trie Value) (s : St) (t : Nat) (rs : List AR) : resultsV tm s (.tmp t :: rs) = optE (tm.get t) none fun v => optE (resultsV tm s rs) none fun vs => some (v :: vs) := by
  show (match tm.get t with | some v => (match resultsV tm s rs with | some vs => some (v :: vs) | none => none) | none => none) = _
  cases tm.get t with
  | none => rfl
  | some v =>
    show (match resultsV tm s rs with | some vs => some (v :: vs) | none => none) = optE (resultsV tm s rs) none fun vs => some (v :: vs)
    cases resultsV tm s rs <;> rfl
@[go_sem] theorem resultsV_cell (tm : Trie Value) (s : St) (a : Nat) (rs : List AR) : resultsV tm s (.cell a :: rs) = optE (tm.get a) none fun p => optE (loadV s p) none fun q => optE (resultsV tm s rs) none fun vs => some (q.1 :: vs) := by
  show (match (match tm.get a with | some p => (match loadV s p with | some q => some q.1 | none => none) | none => none) with | some v => (match resultsV tm s rs with | some vs => some (v :: vs) | none => none) | none => none) = _
  cases tm.get a with
  | none => rfl
  | some p =>
    simp only [optE_some]
    cases loadV s p with
    | none => rfl
    | some q => simp only [optE_some]; cases resultsV tm s rs <;> rfl
@[go_sem] theorem resultsV_cellN (tm : Trie Value) (s : St) (a n : Nat) (rs : List AR) : resultsV tm s (.cellN a n :: rs) = optE (tm.get a) none fun p => optE (loadNV s n p) none fun q => optE (resultsV tm s rs) none fun vs => some (q.1 :: vs) := by
  show (match (match tm.get a with | some p => (match loadNV s n p with | some q => some q.1 | none => none) | none => none) with | some v => (match resultsV tm s rs with | some vs => some (v :: vs) | none => none) | none => none) = _
  cases tm.get a with
  | none => rfl
  | some p =>
    simp only [optE_some]
    cases loadNV s n p with
    | none => rfl
    | some q => simp only [optE_some]; cases resultsV tm s rs <;> rfl
@[go_sem] theorem oneOf_one (v : Value) : oneOf [v] = v := (rfl)
@[go_sem] theorem oneOf_nil : oneOf [] = .tuple #[] := (rfl)
@[go_sem] theorem oneOf_two (v u : Value) (vs : List Value) : oneOf (v :: u :: vs) = .tuple (v :: u :: vs).toArray := (rfl)

attribute [go_sem] C.t C.i C.b C.q C.qg C.r C.rg C.h C.h0 C.c C.c0
/-! ## Values' cells -/
@[go_sem] theorem cells_agg (cs : Array Value) : (Value.agg cs).cells = cs := (rfl)
@[go_sem] theorem cells_int (k : IntKind) (n : Int) : (Value.int k n).cells = #[.int k n] := (rfl)
@[go_sem] theorem cells_bool (b : Bool) : (Value.bool b).cells = #[.bool b] := (rfl)
@[go_sem] theorem cells_slice (a : Option Addr) (n c : Nat) : (Value.slice a n c).cells = #[.slice a n c] := (rfl)
@[go_sem] theorem cells_pointer (a : Option Addr) : (Value.pointer a).cells = #[.pointer a] := (rfl)
@[go_sem] theorem cells_map (a : Option Nat) : (Value.map a).cells = #[.map a] := (rfl)
@[go_sem] theorem cells_string (a : ByteArray) : (Value.string a).cells = #[.string a] := (rfl)
@[go_sem] theorem cells_func (f : Fn) (a b : Array Value) : (Value.func f a b).cells = #[.func f a b] := (rfl)
@[go_sem] theorem cells_iface (t : TypeId) (v : Value) : (Value.iface t v).cells = #[.iface t v] := (rfl)
attribute [go_sem] List.toList_toArray
@[go_sem] theorem xCellsOk_nil : cellsOk [] = true := (rfl)
@[go_sem] theorem xCellsOk_cons (v : Value) (vs : List Value) : cellsOk (v :: vs) = ifB (oneCell v) (cellsOk vs) false := (rfl)
@[go_sem] theorem oneCell_int (k : IntKind) (n : Int) : oneCell (.int k n) = true := (rfl)
@[go_sem] theorem oneCell_bool (b : Bool) : oneCell (.bool b) = true := (rfl)
@[go_sem] theorem oneCell_slice (a : Option Addr) (n c : Nat) : oneCell (.slice a n c) = true := (rfl)
@[go_sem] theorem oneCell_pointer (a : Option Addr) : oneCell (.pointer a) = true := (rfl)
@[go_sem] theorem oneCell_map (a : Option Nat) : oneCell (.map a) = true := (rfl)
@[go_sem] theorem oneCell_string (a : ByteArray) : oneCell (.string a) = true := (rfl)
@[go_sem] theorem oneCell_func (f : Fn) (a b : Array Value) : oneCell (.func f a b) = true := (rfl)
@[go_sem] theorem oneCell_iface (t : TypeId) (v : Value) : oneCell (.iface t v) = true := (rfl)
@[go_sem] theorem ptrTo_eq (i : Nat) : ptrTo i = .pointer (some ⟨i, 0, none⟩) := (rfl)
@[go_sem] theorem mapTo_eq (i : Nat) : mapTo i = .map (some i) := (rfl)
@[go_sem] theorem sliceTo_eq (size n c i : Nat) : sliceTo size n c i = .slice (some ⟨i, 0, mkSpot size true⟩) n c := (rfl)
@[go_sem] theorem xNew_next (s : St) (o : AObj) : (s.new o).next = s.next + 1 := (rfl)
@[go_sem] theorem oAppend_eq (size bytes : Nat) (x y : AX) (tm : Trie Value) (s : St) : oAppend size bytes x y tm s = optE (ev tm x) none fun x => optE (ev tm y) none fun y => appendV s size bytes x y := (rfl)
@[go_sem] theorem oBuild_eq (z : List Value) (ps : List (Nat × Nat)) (xs : List AX) (tm : Trie Value) (s : St) : oBuild z ps xs tm s = optE (evs tm xs) none fun vs => buildV z ps vs fun c => some (aggV c, s) := (rfl)
@[go_sem] theorem oBuildSlice_eq (size n : Nat) (z : List Value) (ps : List (Nat × Nat)) (xs : List AX) (tm : Trie Value) (s : St) : oBuildSlice size n z ps xs tm s = optE (evs tm xs) none fun vs => buildV (repeatN z n) ps vs fun c => ifB (cellsOk c) (opNew s (.cells c) (sliceTo size n n)) none := (rfl)
@[go_sem] theorem aggV_eq (l : List Value) : aggV l = .agg l.toArray := (rfl)
@[go_sem] theorem oEq_eq (neg : Bool) (k : EqK) (x y : AX) (tm : Trie Value) (s : St) : oEq neg k x y tm s = optE (ev tm x) none fun x => optE (ev tm y) none fun y => eqV s neg k x y := (rfl)
@[go_sem] theorem eqV_bool (s : St) (neg : Bool) (a b : Bool) : eqV s neg .bool (.bool a) (.bool b) = some (.bool (neg != (a == b)), s) := (rfl)
/-! ## Operations -/
@[go_sem] theorem oMv_eq (x : AX) (tm : Trie Value) (s : St) : oMv x tm s = optE (ev tm x) none fun v => some (v, s) := (rfl)
@[go_sem] theorem oPick_eq (c a b : AX) (tm : Trie Value) (s : St) : oPick c a b tm s = optE (ev tm c) none fun c => optE (ev tm a) none fun a => optE (ev tm b) none fun b => pickV s c a b := (rfl)
@[go_sem] theorem pickV_eq (s : St) (t : Bool) (a b : Value) : pickV s (.bool t) a b = some (cond t a b, s) := (rfl)
@[go_sem] theorem optV_some (s : St) (v : Value) : optV s (some v) = some (v, s) := (rfl)
@[go_sem] theorem optS_some (s : St) : optS (some s) = some (Go.undef, s) := (rfl)
@[go_sem] theorem intV_int (k : IntKind) (n : Int) (K : IntKind → Int → VS) : intV (.int k n) K = K k n := (rfl)
@[go_sem] theorem int64_int (n : Int) (K : Int → VS) : int64 (.int .i64 n) K = K n := (rfl)
@[go_sem] theorem oArith_eq (op : BinOp) (x y : AX) (tm : Trie Value) (s : St) : oArith op x y tm s = optE (ev tm x) none fun x => optE (ev tm y) none fun y => arithV s op x y := (rfl)
@[go_sem] theorem arithV_int (s : St) (op : BinOp) (k : IntKind) (a b : Int) : arithV s op (.int k a) (.int k b) = optV s (intOp op k a b) := by
  unfold arithV intV; cases k <;> rfl
@[go_sem] theorem intOp_eql (k : IntKind) (a b : Int) : intOp .eql k a b = some (.bool (a == b)) := by show some (Value.bool (iEq a b)) = _; rw [iEq_eq]
@[go_sem] theorem intOp_neq (k : IntKind) (a b : Int) : intOp .neq k a b = some (.bool (!(a == b))) := by show some (Value.bool (!iEq a b)) = _; rw [iEq_eq]
@[go_sem] theorem intOp_lss (k : IntKind) (a b : Int) : intOp .lss k a b = some (.bool (decide (a < b))) := by show some (Value.bool (iLt a b)) = _; rw [iLt_eq]
@[go_sem] theorem intOp_leq (k : IntKind) (a b : Int) : intOp .leq k a b = some (.bool (decide (a ≤ b))) := by show some (Value.bool (iLe a b)) = _; rw [iLe_eq]
@[go_sem] theorem intOp_gtr (k : IntKind) (a b : Int) : intOp .gtr k a b = some (.bool (decide (b < a))) := by show some (Value.bool (iLt b a)) = _; rw [iLt_eq]
@[go_sem] theorem intOp_geq (k : IntKind) (a b : Int) : intOp .geq k a b = some (.bool (decide (b ≤ a))) := by show some (Value.bool (iLe b a)) = _; rw [iLe_eq]
@[go_sem] theorem intOp_add (k : IntKind) (a b : Int) : intOp .add k a b = some (.int k (k.wrap (a + b))) := by show some (Value.int k (wrapK k (a + b))) = _; rw [wrapK_eq]
@[go_sem] theorem intOp_sub (k : IntKind) (a b : Int) : intOp .sub k a b = some (.int k (k.wrap (a - b))) := by show some (Value.int k (wrapK k (a - b))) = _; rw [wrapK_eq]
@[go_sem] theorem intOp_mul (k : IntKind) (a b : Int) : intOp .mul k a b = some (.int k (k.wrap (a * b))) := by show some (Value.int k (wrapK k (a * b))) = _; rw [wrapK_eq]
theorem intOp_quo (k : IntKind) {a b : Int} (h : b ≠ 0) : intOp .quo k a b = some (.int k (k.wrap (a.tdiv b))) := by
  show (bif iEq b 0 then none else some (Value.int k (wrapK k (a.tdiv b)))) = _
  rw [wrapK_eq, iEq_eq, show (b == 0) = false by simpa using h]; rfl
theorem intOp_rem (k : IntKind) {a b : Int} (h : b ≠ 0) : intOp .rem k a b = some (.int k (a.tmod b)) := by
  show (bif iEq b 0 then none else some (Value.int k (a.tmod b))) = _
  rw [iEq_eq, show (b == 0) = false by simpa using h]; rfl
@[go_sem] theorem oNot_eq (x : AX) (tm : Trie Value) (s : St) : oNot x tm s = optE (ev tm x) none fun x => notV s x := (rfl)
@[go_sem] theorem notV_bool (s : St) (b : Bool) : notV s (.bool b) = some (.bool !b, s) := (rfl)
@[go_sem] theorem oNeg_eq (x : AX) (tm : Trie Value) (s : St) : oNeg x tm s = optE (ev tm x) none fun x => negV s x := (rfl)
@[go_sem] theorem negV_int (s : St) (k : IntKind) (n : Int) : negV s (.int k n) = some (.int k (k.wrap (0 - n)), s) := by show some (Value.int k (wrapK k (0 - n)), s) = _; rw [wrapK_eq]
@[go_sem] theorem oConv_eq (k : IntKind) (x : AX) (tm : Trie Value) (s : St) : oConv k x tm s = optE (ev tm x) none fun x => convV s k x := (rfl)
@[go_sem] theorem convV_int (s : St) (k k' : IntKind) (n : Int) : convV s k (.int k' n) = some (.int k (k.wrap n), s) := by show some (Value.int k (wrapK k n), s) = _; rw [wrapK_eq]
@[go_sem] theorem oExtract_eq (i : Nat) (x : AX) (tm : Trie Value) (s : St) : oExtract i x tm s = optE (ev tm x) none fun x => extractV s i x := (rfl)
@[go_sem] theorem extractV_tuple (s : St) (i : Nat) (xs : Array Value) : extractV s i (.tuple xs) = optV s xs.toList[i]? := (rfl)
@[go_sem] theorem oLen_eq (k : LenK) (x : AX) (tm : Trie Value) (s : St) : oLen k x tm s = optE (ev tm x) none fun x => lenV s k x := (rfl)
@[go_sem] theorem lenV_slice (s : St) (a : Option Addr) (n c : Nat) : lenV s .slice (.slice a n c) = some (.int .i64 n, s) := (rfl)
@[go_sem] theorem oField_eq (agg : Bool) (off size : Nat) (x : AX) (tm : Trie Value) (s : St) : oField agg off size x tm s = optE (ev tm x) none fun x => fieldV s agg off size x := (rfl)
@[go_sem] theorem fieldV_one (s : St) (off size : Nat) (cs : Array Value) : fieldV s false off size (.agg cs) = optV s cs.toList[off]? := (rfl)
@[go_sem] theorem fieldV_agg (s : St) (off size : Nat) (cs : Array Value) : fieldV s true off size (.agg cs) = optV s ((sub cs.toList off size).map aggV) := (rfl)
@[go_sem] theorem oLoad_eq (x : AX) (tm : Trie Value) (s : St) : oLoad x tm s = optE (ev tm x) none fun x => loadV s x := (rfl)
@[go_sem] theorem oLoadN_eq (n : Nat) (x : AX) (tm : Trie Value) (s : St) : oLoadN n x tm s = optE (ev tm x) none fun x => loadNV s n x := (rfl)
@[go_sem] theorem loadV_ptr (s : St) (i off : Nat) : loadV s (.pointer (some ⟨i, off, none⟩)) = optE (s.cells? i) none fun c => optV s c[off]? := (rfl)
@[go_sem] theorem loadNV_ptr (s : St) (n i off : Nat) : loadNV s n (.pointer (some ⟨i, off, none⟩)) = optE (s.cells? i) none fun c => optV s ((sub c off n).map aggV) := (rfl)
@[go_sem] theorem oIdxS_eq (n : Nat) (x y : AX) (tm : Trie Value) (s : St) : oIdxS n x y tm s = optE (ev tm x) none fun x => optE (ev tm y) none fun y => idxSV s n x y := (rfl)
theorem idxSV_in (s : St) (size : Nat) {i off len cap : Nat} {sp : Option Nat} {k : IntKind} {n : Int} (h0 : 0 ≤ n) (h1 : n < len) : idxSV s size (.slice (some ⟨i, off, sp⟩) len cap) (.int k n) = some (.pointer (some ⟨i, off + n.toNat * size, none⟩), s) := by
  show ifB (iLe 0 n && iLt n len) _ none = _
  rw [iLe_eq, iLt_eq]
  simp [h0, h1]
@[go_sem] theorem oBox_eq (x : AX) (tm : Trie Value) (s : St) : oBox x tm s = optE (ev tm x) none fun v => ifB (cellsOk v.cells.toList) (opNew s (.cells v.cells.toList) ptrTo) none := (rfl)
@[go_sem] theorem opNew_eq (s : St) (o : AObj) (k : Nat → Value) : opNew s o k = some (k s.next, s.new o) := (rfl)
@[go_sem] theorem oAlloc_eq (z : List Value) (tm : Trie Value) (s : St) : oAlloc z tm s = some (ptrTo s.next, s.new (.cells z)) := (rfl)
@[go_sem] theorem oFieldAddr_eq (o : Nat) (x : AX) (tm : Trie Value) (s : St) : oFieldAddr o x tm s = optE (ev tm x) none fun x => fieldAddrV s o x := (rfl)
@[go_sem] theorem fieldAddrV_ptr (s : St) (o i off : Nat) : fieldAddrV s o (.pointer (some ⟨i, off, none⟩)) = some (.pointer (some ⟨i, off + o, none⟩), s) := (rfl)
@[go_sem] theorem oStore_eq (n : Nat) (x y : AX) (tm : Trie Value) (s : St) : oStore n x y tm s = optE (ev tm x) none fun x => optE (ev tm y) none fun y => storeV s n x y := (rfl)

/-- What comes to true here comes to true on the machine, and leaves what was there. -/
theorem ev_calls {P : Program} (hT : TyOk P (tyOf P)) (hm : P.follows .mixedOrders = true) {E : Env} {W : World} (hE : EnvOk P (tyOf P) E W.heap.size) {f : FuncId} {args args' : List Value} {s : St} (h : EvCall E f args s fun r _ => r = .ret (.bool true)) {μ : Mu}
    (hR : Rel (LoopLR (tyOf P) E) W.heap.size μ s W) (hG : GOk μ) (hv : VRs μ args args') : Calls P f args'.toArray W fun e W' => e = .returned (.bool true) ∧ Go.RowKit.Below W.heap.size W W' := by
  obtain ⟨N, r, s', h1, rfl⟩ := h
  have hc := call_ok hT hm hE (h1 N (Nat.le_refl N)) hR hG hv
  refine (callsIn_wide.1 hc).mono fun e W' ⟨μ', _, hk, hres⟩ => ?_
  cases hres with
  | ret hv => rw [hv.bool_inv]; exact ⟨rfl, hk.below⟩

/-- A known call, where the package-level variable holds what it holds. -/
theorem known_spec {E0 : Env} {g : List Value} {l : List (Nat × Bool)} {f : Nat} {b : Bool} (hf : lookN f l = some b) {s : St} (hg : s.ent? 0 = some ⟨.cells g, 0, 0, true⟩) (hv : veqL 1000 g g = true := by rfl) : (withKnown E0 g l).spec f [] s = some (some (.ret (.bool b), s)) := by
  show optE (lookN f l) none _ = _
  have h : globIs g s = true := by
    unfold globIs
    rw [hg]
    simp [hv]
  rw [hf, xOptE_some, h]
  rfl

end Go.AI
