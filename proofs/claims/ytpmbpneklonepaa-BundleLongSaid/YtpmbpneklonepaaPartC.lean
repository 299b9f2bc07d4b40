/- Proved in the end (in the last text of this claim): the law of this seat returns true at every input that fits, and each argument reads behind the call as before. This text: part 3 of the proof: a pure interpreter of the code, shown sound once, and the walks of the functions by rewriting. -/
import Derived.Below
import Derived.Lib.Join
import Derived.IntWalk
import Derived.Test.YtpmbpneklonepaaPartB
set_option linter.unusedSimpArgs false
set_option linter.unusedVariables false
/- Functions, sixth part: bodies and calls. -/
namespace Go.Sim
open PV

section
variable {P : Program} {G : Gh} {B : List Loc} {e : Env} {st : St} {tm : List Value} {w : World} {x y z : PV} {v u : Value}

theorem obE_append_undef (b : Nat) : ∀ (xs : List PV) (vs : List Value) (n : Nat) (ws : List Value), xs.length = vs.length → obE b (xs ++ List.replicate n .undef) (vs ++ ws) = obE b xs vs
  | [], [], n, ws, _ => by
    simp only [List.nil_append]
    induction n generalizing ws with
    | zero => cases ws <;> rfl
    | succ n ih =>
      cases ws with
      | nil => rfl
      | cons w ws => simp only [List.replicate_succ, obE, ih]; exact (Nat.add_zero _).trans (ob3_dem b .undef w)
  | [], _ :: _, _, _, h => by simp at h
  | _ :: _, [], _, _, h => by simp at h
  | x :: xs, v :: vs, n, ws, h => by
    simp only [List.cons_append, obE]
    rw [obE_append_undef b xs vs n ws (by simpa using h)]

/-- The state in which a body begins. -/
theorem Sim.enter (h : Sim G B e st tm w) (n : Nat) : Sim G B (e ++ List.replicate n .undef) st (tm ++ List.replicate n undef) w := by
  have hcnt : ∀ b, obE b (e ++ List.replicate n .undef) (tm ++ List.replicate n undef) = obE b e tm := fun b => obE_append_undef b e tm n _ h.elen
  refine ⟨h.rows, h.blen, h.bdis, h.boxes, by simp [h.elen], fun t x v hx hv => ?_, fun b => by rw [hcnt]; exact h.uniq b⟩
  rw [List.getElem?_append] at hx hv
  rw [← h.elen] at hv
  split at hx
  · rename_i ht
    rw [if_pos ht] at hv
    exact h.rel t x v hx hv
  · rename_i ht
    rw [if_neg ht] at hv
    have hx' := List.mem_of_getElem? hx
    obtain ⟨_, rfl⟩ := List.mem_replicate.1 hx'
    exact ⟨trivial, O3_dem G w .undef v⟩

/-- Calls into functions that are given by what they return. -/
def XOk (P : Program) (X : FuncId → Option (List PV → Option PV)) : Prop := ∀ f g args v, X f = some g → g args = some v →
  (∃ fn, P.funcs[f]? = some fn ∧ fn.body.isNone = false ∧ (fn.name == "runtime.NumGoroutine") = false) ∧ ∀ G B tm w, Sim G B args [] tm w →
  Calls P f tm.toArray w fun r w' => ∃ cv G' B', r = .returned cv ∧ Step G B args [] tm w G' B' [v] [] [cv] w' ∧ Ble B B' ∧ outOk v = true

theorem pbody_ok {H : FuncId → Hint} {C : Oracle} (hC : CallOk P C) (n : Nat) (hn : ∀ (f : FuncId) (fn : Func), P.funcs[f]? = some fn → fn.name ≠ "runtime.NumGoroutine") : CallOk P (pbody P H C n) := by
  intro f args bx v bx' hp
  unfold pbody at hp
  obtain ⟨fn, hf, hp⟩ := Option.bind_eq_some_iff.1 hp
  obtain ⟨c, hb, hp⟩ := Option.bind_eq_some_iff.1 hp
  obtain ⟨⟨px, e1, st1⟩, h1, h2⟩ := Option.bind_eq_some_iff.1 hp
  refine ⟨⟨fn, hf, by rw [hb]; rfl, by simpa using hn f fn hf⟩, fun G B tm w hs => ?_⟩
  refine calls_of_wp hf hb ?_
  have hs0 : Sim G B (args ++ List.replicate (fn.ntmps - args.length) .undef) bx (tm ++ List.replicate (fn.ntmps - args.length) undef) w := hs.enter _
  have he : (tm.toArray ++ Array.replicate (fn.ntmps - tm.toArray.size) undef).toList = tm ++ List.replicate (fn.ntmps - args.length) undef := by
    simp [hs.elen]
  have hfin : ∀ (a' : Act) (w' : World) G' B', Step G B (args ++ List.replicate (fn.ntmps - args.length) .undef) bx (tm ++ List.replicate (fn.ntmps - args.length) undef) w G' B' e1 st1 a'.tmps.toList w' → Ble B B' →
      pfinish P fn bx.length e1 st1 = some (v, bx') → ∃ cv, (results fn a'.tmps).run P w' = .ok cv w' ∧ ∃ cv' G' B', Ending.returned cv = .returned cv' ∧ Step G B args bx tm w G' B' [v] bx' [cv'] w' ∧ Ble B B' ∧ (∀ cs ∈ bx', cs.all flat1 = true) ∧ outOk v = true := by
    intro a' w' G' B' hst hbl hfi
    rw [← hs.blen] at hfi
    obtain ⟨cv, B2, r1, r2, r3, r4, r5⟩ := finish_ok hst hbl hfi
    refine ⟨cv, r1, cv, G', B2, rfl, ?_, r3, r4, r5⟩
    have hm : ∀ b, Mof B (args ++ List.replicate (fn.ntmps - args.length) .undef) bx (tm ++ List.replicate (fn.ntmps - args.length) undef) w b → Mof B args bx tm w b := fun b hb => by
      rcases hb with hb | hb
      · left; rw [obE_append_undef b args tm _ _ hs.elen] at hb; exact hb
      · exact .inr hb
    exact { sim := r2.sim, box := r2.box, out := r2.out,
            own := fun b hb => (r2.own b hb).imp_left (hm b),
            prog := { r2.prog with
              heap := fun b hb hnm => r2.prog.heap b hb fun h => hnm (hm b h)
              rows := fun b pc hp => let ⟨m, k1, k2⟩ := r2.prog.rows b pc hp; ⟨m, k1, fun hnm => k2 fun h => hnm (hm b h)⟩ } }
  refine pcode_sound hC n c h1 (a := { tmps := tm.toArray ++ Array.replicate (fn.ntmps - tm.toArray.size) undef, defers := [] }) (by rw [he]; exact hs0) ?_
  intro a' w' G' B' hst hbl hd
  rw [he] at hst
  cases px with
  | normal =>
    obtain ⟨cv, k1, k2⟩ := hfin a' w' G' B' hst hbl h2
    exact ⟨hd, cv, k1, k2⟩
  | ret =>
    obtain ⟨cv, k1, k2⟩ := hfin a' w' G' B' hst hbl h2
    exact ⟨hd, cv, k1, k2⟩
  | exit i => cases h2

theorem pcall_ok {X : FuncId → Option (List PV → Option PV)} {H : FuncId → Hint} (hX : XOk P X) (hn : ∀ (f : FuncId) (fn : Func), P.funcs[f]? = some fn → fn.name ≠ "runtime.NumGoroutine") :
    ∀ n, CallOk P (pcall P X H n)
  | 0 => by intro f args bx v bx' hp; simp [pcall] at hp
  | n + 1 => by
    intro f args bx v bx' hp
    have ih := pcall_ok (H := H) hX hn n
    unfold pcall at hp
    split at hp
    · rename_i g hg
      split at hp
      · rename_i hbx
        obtain ⟨v', h1, h2⟩ := Option.map_eq_some_iff.1 hp
        simp only [Prod.mk.injEq] at h2
        obtain ⟨rfl, rfl⟩ := h2
        have : bx = [] := by simpa using hbx
        subst this
        obtain ⟨k1, k2⟩ := hX f g args v' hg h1
        refine ⟨k1, fun G B tm w hs => (k2 G B tm w hs).mono fun r w' ⟨cv, G', B', q1, q2, q3, q4⟩ => ⟨cv, G', B', q1, q2, q3, by simp, q4⟩⟩
      · cases hp
    · exact pbody_ok ih n hn f args bx v bx' hp
end
end Go.Sim
/- strings.Join, given by its contract. -/
namespace Go.Sim
open PV Go.RowKit

def strOf : PV → Option (List UInt8)
  | .str s => some s
  | _ => none
def strsOf : List PV → Option (List (List UInt8))
  | [] => some []
  | x :: r => (strOf x).bind fun s => (strsOf r).map (s :: ·)

/-- What strings.Join returns. -/
def joinX : List PV → Option PV
  | [.sl _ _ _ xs, .str sep] => (strsOf xs).bind fun ss => if ss.length ≤ 140737488355328 ∧ (Lib.join ss sep).length ≤ 140737488355328 then some (.str (Lib.join ss sep)) else none
  | _ => none

theorem strsOf_spec : ∀ {xs : List PV} {ss : List (List UInt8)}, strsOf xs = some ss → xs = ss.map .str
  | [], ss, h => by simp only [strsOf, Option.some.injEq] at h; subst h; rfl
  | x :: r, ss, h => by
    simp only [strsOf] at h
    obtain ⟨s, h1, h2⟩ := Option.bind_eq_some_iff.1 h
    obtain ⟨l, h3, rfl⟩ := Option.map_eq_some_iff.1 h2
    cases x <;> simp [strOf] at h1
    subst h1
    rw [strsOf_spec h3]; rfl

theorem flat_strs : ∀ ss : List (List UInt8), (ss.map PV.str).flatMap cells = ss.map PV.str
  | [] => rfl
  | s :: ss => by simp only [List.map_cons, List.flatMap_cons, flat_strs ss]; rfl

section
variable {P : Program} {G : Gh} {B : List Loc} {e : Env} {st : St} {tm : List Value} {w : World} {x y z : PV} {v u : Value}

/-- A call that only grows the world. -/
theorem Sim.below {w' : World} (h : Sim G B e st tm w) (hb : Below w.heap.size w w') : Sim G B e st tm w' ∧ Prog G w (fun _ => False) G w' := by
  have hp : Prog G w (fun _ => False) G w' := ⟨hb.size, fun b hlt _ => hb.block b hlt, fun b pc hp => ⟨[], by simpa using hp, fun _ => rfl⟩, fun _ _ h => h, hb.os, hb.tape, hb.output⟩
  exact ⟨h.grow hp (Ble.refl _) rfl fun b pc hbp hge => by have := h.rowLt hbp; omega, hp⟩

theorem step_below {args : List PV} {w' : World} (h : Sim G B args [] tm w) (hb : Below w.heap.size w w') {s : List UInt8} :
    Step G B args [] tm w G B [.str s] [] [.string ⟨s.toArray⟩] w' := by
  have hB : B = [] := List.length_eq_zero_iff.1 h.blen
  subst hB
  obtain ⟨h1, h2⟩ := h.below hb
  have hs : Sim G [] [.str s] [] [.string ⟨s.toArray⟩] w' := by
    refine ⟨h1.rows, rfl, fun i j l m hl => by simp at hl, fun i l cs hl => by simp at hl, rfl, fun t x v hx hv => ?_, fun b => ?_⟩
    · cases t with
      | zero => simp at hx hv; subst hx; subst hv; exact ⟨rfl, O3_dem G w' (.str s) _⟩
      | succ t => simp at hx
    · have : ob3 b (.str s) (.string ⟨s.toArray⟩) = 0 := ob3_dem b (.str s) _
      simp only [obE, obB, List.map_nil, this]; omega
  exact { sim := hs, prog := { h2 with
            heap := fun b hb _ => h2.heap b hb (by simp)
            rows := fun b pc hp => ⟨[], by simpa using hp, fun _ => rfl⟩ },
          own := fun b hb => by
            have : ob3 b (.str s) (.string ⟨s.toArray⟩) = 0 := ob3_dem b (.str s) _
            simp [obE, obB, this] at hb
          box := fun l hl => by simp at hl, out := fun l hl => by simp at hl }

theorem join_xok {f : FuncId} {fn : Func} (hf : P.funcs[f]? = some fn) (hb : fn.body.isNone = false) (hn : (fn.name == "runtime.NumGoroutine") = false)
    (h0 : ∀ (a : Option Addr) (c : Nat) (sep : ByteArray) (w : World), Calls P f #[.slice a 0 c, .string sep] w fun e w' => e = .returned (.string ⟨#[]⟩) ∧ w' = w)
    (h1 : ∀ (bk o c : Nat) (xs : List ByteArray) (sep : ByteArray) (w : World), (∀ (j : Nat) x, xs[j]? = some x → w.cell? ⟨bk, o + j, none⟩ = some (.string x)) → bk < w.heap.size → xs.length ≤ 140737488355328 → xs.length ≤ c → (Lib.join (xs.map (·.data.toList)) sep.data.toList).length ≤ 140737488355328 →
      Calls P f #[.slice (some ⟨bk, o, none⟩) xs.length c, .string sep] w fun e w' => e = .returned (.string ⟨(Lib.join (xs.map (·.data.toList)) sep.data.toList).toArray⟩) ∧ Below w.heap.size w w') :
    XOk P fun i => if i = f then some joinX else none := by
  intro i g args v hg hv
  simp only at hg
  split at hg
  · rename_i hi
    subst hi
    simp only [Option.some.injEq] at hg
    subst hg
    refine ⟨⟨fn, hf, hb, hn⟩, fun G B tm w hs => ?_⟩
    unfold joinX at hv
    split at hv
    · rename_i sz nl own xs sep
      obtain ⟨ss, k1, k2⟩ := Option.bind_eq_some_iff.1 hv
      split at k2
      · rename_i hle
        simp only [Option.some.injEq] at k2
        subst k2
        have hxs := strsOf_spec k1
        match tm, hs with
        | [], hs => exact absurd hs.elen (by simp)
        | [_], hs => exact absurd hs.elen (by simp)
        | _ :: _ :: _ :: _, hs => exact absurd hs.elen (by simp)
        | [v0, v1], hs =>
          obtain ⟨a, cap, e0, c1, c2, c3, c4⟩ := (hs.rel 0 _ v0 rfl rfl).1
          have e1 : v1 = .string ⟨sep.toArray⟩ := (hs.rel 1 _ v1 rfl rfl).1
          subst e0; subst e1
          have hlen : xs.length = ss.length := by rw [hxs]; simp
          cases hss : ss with
          | nil =>
            have hj : Lib.join [] sep = [] := Lib.join_nil sep
            have hx0 : xs.length = 0 := by rw [hlen, hss]; rfl
            rw [hx0, hj]
            refine (h0 a cap _ w).mono fun r w' hh => ?_
            obtain ⟨rfl, rfl⟩ := hh
            refine ⟨_, G, B, rfl, ?_, Ble.refl _, rfl⟩
            rw [hx0] at hs
            exact step_below hs (Below.refl _ _) (s := [])
          | cons s0 r0 =>
            have hne : xs ≠ [] := by rw [hxs, hss]; simp
            cases a with
            | none => exact absurd c4.2.1 hne
            | some ad =>
              obtain ⟨d1, d2, d3⟩ := c4
              obtain ⟨pc, p1, p2⟩ := d3 hne
              obtain ⟨c, el, fr, r1, r2, r3⟩ := hs.rows _ _ p1
              have hfl : xs.flatMap cells = xs := by rw [hxs]; exact flat_strs ss
              rw [hfl] at p2
              have had : ad = ⟨ad.block, ad.off, none⟩ := by cases ad; simp at d2; subst d2; rfl
              have hcells : ∀ (j : Nat) x, (ss.map fun s => (⟨s.toArray⟩ : ByteArray))[j]? = some x → w.cell? ⟨ad.block, ad.off + j, none⟩ = some (.string x) := fun j x hx => by
                rw [List.getElem?_map] at hx
                obtain ⟨s, hs', rfl⟩ := Option.map_eq_some_iff.1 hx
                have hxj : xs[j]? = some (.str s) := by rw [hxs, List.getElem?_map, hs']; rfl
                obtain ⟨_, v, q1, q2, q3⟩ := r3 _ _ (p2 j _ hxj)
                have q3 : v = .string ⟨s.toArray⟩ := q3
                subst q3
                unfold World.cell?
                simp only [r1]
                simpa using q1
              have hm : (ss.map fun s => (⟨s.toArray⟩ : ByteArray)).map (·.data.toList) = ss := by
                rw [List.map_map]; conv => rhs; rw [← List.map_id ss]
                exact List.map_congr_left fun s _ => by simp
              have hc := h1 ad.block ad.off cap (ss.map fun s => (⟨s.toArray⟩ : ByteArray)) ⟨sep.toArray⟩ w hcells (by exact (Array.getElem?_eq_some_iff.1 r1).1) (by simpa using hle.1) (by rw [List.length_map, ← hlen]; exact c1) (by rw [hm]; simpa using hle.2)
              rw [hm, List.length_map, ← hlen, ← had] at hc
              refine hc.mono fun r w' hh => ?_
              obtain ⟨rfl, hbl⟩ := hh
              refine ⟨_, G, B, rfl, ?_, Ble.refl _, rfl⟩
              simp only [List.toList_toArray, ← hss]
              exact step_below hs hbl
      · cases k2
    · cases hv
  · cases hg
end
end Go.Sim
/- Walking through code: the pure interpreter, step by step, for rewriting. -/
namespace Go.Sim
open PV

/-- Where code goes on. -/
inductive Kont where
  | done
  | seq (b : Code) (k : Kont)
  | block (id : Nat) (k : Kont)
  /-- the rounds of a loop that began with k0 boxes: m are left -/
  | loop (c : Code) (k0 m : Nat) (k : Kont)

/-- The number of rounds that a loop may take. -/
def fuel (n : Nat) : Nat := n

section
variable (P : Program) (C : Oracle) (h : Hint) (n : Nat)

def resume : Kont → PExit × Env × St → Option (PExit × Env × St)
  | .loop c k0 m k, (.normal, e, st) =>
    (ploop h.carry (fun e st => pcode P C h n c (keepE (findMask h.lm (firstId c)) e) st) k0 m (e.map (PV.scrub k0 (newBoxes k0 (h.carry.map (e.getD · .undef)) []))) (scrubSt k0 (newBoxes k0 (h.carry.map (e.getD · .undef)) []) st)).bind (resume k)
  | .loop _ _ _ k, (x, e, st) => resume k (x, e, st)
  | .done, r => some r
  | .seq b k, (.normal, e, st) => (pcode P C h n b e st).bind (resume k)
  | .seq _ k, (x, e, st) => resume k (x, e, st)
  | .block id k, (.exit i, e, st) => resume k (if i = id then (.normal, e, st) else (.exit i, e, st))
  | .block _ k, (x, e, st) => resume k (x, e, st)

/-- A piece of code, and what comes behind it. -/
def goes (c : Code) (k : Kont) (e : Env) (st : St) : Option (PExit × Env × St) := (pcode P C h n c e st).bind (resume P C h n k)

/-- The rounds of a loop; its head is reached with what is wanted there alone. -/
def goesL (c : Code) (k0 : Nat) : Nat → Kont → Env → St → Option (PExit × Env × St)
  | 0, _, _, _ => none
  | m + 1, k, e, st => goes P C h n c (.loop c k0 m k) e st

def condK (a b : Code) (k : Kont) (e : Env) (st : St) : Option PV → Option (PExit × Env × St)
  | some (.bool true) => goes P C h n a k e st
  | some (.bool false) => goes P C h n b k e st
  | _ => none

/-- The operations that are left of a region. -/
def goOps (ops : Array Oper) (draw : Bool) (k : Kont) (l : List Oper) (e : Env) (st : St) : Option (PExit × Env × St) :=
  (pops P C h (!draw) ops l e st).bind fun (e', st') => if draw && !drawOk h ops e' then none else resume P C h n k (.normal, keepE h.mask e', st')

def opK (ops : Array Oper) (draw : Bool) (k : Kont) (o : Oper) (l : List Oper) (e : Env) : Option (PV × St) → Option (PExit × Env × St)
  | some (v, st') => goOps P C h n ops draw k l (setDst (shed e (sheds h o)) o.dst v) st'
  | none => none

def wantK (ops : Array Oper) (draw : Bool) (k : Kont) (o : Oper) (l : List Oper) (e : Env) (st : St) : Option Bool → Option (PExit × Env × St)
  | some true => opK P C h n ops draw k o l e (osem P C h (!draw) o (peval e) st)
  | some false => goOps P C h n ops draw k l (setDst e o.dst (.tup [])) st
  | none => none

def endK (draw ok : Bool) (k : Kont) (e : Env) (st : St) : Option (PExit × Env × St) :=
  if draw && !ok then none else resume P C h n k (.normal, keepE h.mask e, st)
end

section
variable {P : Program} {C : Oracle} {h : Hint} {n : Nat} {k : Kont} {e : Env} {st : St} {a b c : Code} {x : Operand} {id i : Nat} {ops : Array Oper} {draw : Bool}

theorem pcode_goes : pcode P C h n c e st = goes P C h n c .done e st := by unfold goes; cases pcode P C h n c e st <;> rfl
theorem goes_skip : goes P C h n .skip k e st = resume P C h n k (.normal, e, st) := rfl
theorem goes_ret : goes P C h n .ret k e st = resume P C h n k (.ret, e, st) := rfl
theorem goes_exit : goes P C h n (.exit i) k e st = resume P C h n k (.exit i, e, st) := rfl
theorem goes_seq : goes P C h n (.seq a b) k e st = goes P C h n a (.seq b k) e st := by
  simp only [goes, pcode]
  cases pcode P C h n a e st with
  | none => rfl
  | some r =>
    obtain ⟨x, e', st'⟩ := r
    cases x <;> rfl
theorem goes_block : goes P C h n (.block id c) k e st = goes P C h n c (.block id k) e st := by
  simp only [goes, pcode]
  cases pcode P C h n c e st with
  | none => rfl
  | some r =>
    obtain ⟨x, e', st'⟩ := r
    cases x <;> simp only [Option.map_some, Option.bind_some, resume]
theorem goes_cond : goes P C h n (.cond x a b) k e st = condK P C h n a b k (keepE h.cmask e) st (peval e x) := by
  simp only [goes, pcode]
  cases hq : peval e x with
  | none => rfl
  | some v => cases v <;> first | rfl | (rename_i q; cases q <;> rfl)
theorem goes_region : goes P C h n (.region id ops draw) k e st = goOps P C h n ops draw k ops.toList e st := by
  simp only [goes, pcode, goOps]
  cases pops P C h (!draw) ops ops.toList e st with
  | none => rfl
  | some r =>
    simp only [Option.bind_some]
    split <;> rfl
theorem goOps_nil : goOps P C h n ops false k [] e st = resume P C h n k (.normal, keepE h.mask e, st) := rfl
theorem goOps_nil_draw (hd : drawOk h ops e = true) : goOps P C h n ops true k [] e st = resume P C h n k (.normal, keepE h.mask e, st) := by
  simp only [goOps, pops, Option.bind_some, hd]; rfl
theorem goOps_cons {o : Oper} {l : List Oper} : goOps P C h n ops draw k (o :: l) e st = wantK P C h n ops draw k o l e st (pwanted ops e o) := by
  simp only [goOps, pops, wantK, pop]
  cases pwanted ops e o with
  | none => rfl
  | some q =>
    cases q with
    | false => rfl
    | true =>
      simp only [opK]
      cases osem P C h (!draw) o (peval e) st with
      | none => rfl
      | some r => rfl
theorem condK_true : condK P C h n a b k e st (some (.bool true)) = goes P C h n a k e st := rfl
theorem condK_false : condK P C h n a b k e st (some (.bool false)) = goes P C h n b k e st := rfl
theorem wantK_true {o : Oper} {l : List Oper} : wantK P C h n ops draw k o l e st (some true) = opK P C h n ops draw k o l e (osem P C h (!draw) o (peval e) st) := rfl
theorem wantK_false {o : Oper} {l : List Oper} : wantK P C h n ops draw k o l e st (some false) = goOps P C h n ops draw k l (setDst e o.dst (.tup [])) st := rfl
theorem opK_some {o : Oper} {l : List Oper} {v : PV} {st' : St} : opK P C h n ops draw k o l e (some (v, st')) = goOps P C h n ops draw k l (setDst (shed e (sheds h o)) o.dst v) st' := rfl
theorem resume_seq : resume P C h n (.seq b k) (.normal, e, st) = goes P C h n b k e st := rfl
theorem resume_seq_ret : resume P C h n (.seq b k) (.ret, e, st) = resume P C h n k (.ret, e, st) := rfl
theorem resume_seq_exit : resume P C h n (.seq b k) (.exit i, e, st) = resume P C h n k (.exit i, e, st) := rfl
theorem resume_block : resume P C h n (.block id k) (.normal, e, st) = resume P C h n k (.normal, e, st) := rfl
theorem resume_block_ret : resume P C h n (.block id k) (.ret, e, st) = resume P C h n k (.ret, e, st) := rfl
theorem resume_block_exit : resume P C h n (.block id k) (.exit i, e, st) = resume P C h n k (if i = id then (.normal, e, st) else (.exit i, e, st)) := rfl
theorem goesL_eq {k0 : Nat} : ∀ (m : Nat) (e : Env) (st : St), (ploop h.carry (fun e st => pcode P C h n c (keepE (findMask h.lm (firstId c)) e) st) k0 m e st).bind (resume P C h n k) = goesL P C h n c k0 m k (keepE (findMask h.lm (firstId c)) e) st
  | 0, _, _ => rfl
  | m + 1, e, st => by
    simp only [goesL, goes, ploop]
    cases pcode P C h n c (keepE (findMask h.lm (firstId c)) e) st with
    | none => rfl
    | some r =>
      obtain ⟨x, e', st'⟩ := r
      cases x <;> rfl
theorem goes_loop : goes P C h n (.loop c) k e st = goesL P C h n c st.length (fuel n) k (keepE (findMask h.lm (firstId c)) e) st := goesL_eq n e st
theorem goesL_succ {k0 m : Nat} : goesL P C h n c k0 (m + 1) k e st = goes P C h n c (.loop c k0 m k) e st := rfl
theorem resume_loop {k0 m : Nat} : resume P C h n (.loop c k0 m k) (.normal, e, st) =
    goesL P C h n c k0 m k (keepE (findMask h.lm (firstId c)) (e.map (PV.scrub k0 (newBoxes k0 (h.carry.map (e.getD · .undef)) [])))) (scrubSt k0 (newBoxes k0 (h.carry.map (e.getD · .undef)) []) st) := goesL_eq m _ _
theorem firstId_region : firstId (.region id ops draw) = id := rfl
theorem firstId_seq : firstId (.seq a b) = firstId a := rfl
theorem firstId_cond : firstId (.cond x a b) = firstId a := rfl
theorem firstId_block : firstId (.block id c) = firstId c := rfl
theorem firstId_loop : firstId (.loop c) = firstId c := rfl
theorem findMask_cons {m : List Bool} {r : List (Nat × List Bool)} {q : Nat} : findMask ((i, m) :: r) q = if i = q then m else findMask r q := rfl
theorem findMask_nil {q : Nat} : findMask [] q = [] := rfl
theorem resume_loop_ret {k0 m : Nat} : resume P C h n (.loop c k0 m k) (.ret, e, st) = resume P C h n k (.ret, e, st) := rfl
theorem resume_loop_exit {k0 m : Nat} : resume P C h n (.loop c k0 m k) (.exit i, e, st) = resume P C h n k (.exit i, e, st) := rfl
theorem condK_dec {p : Prop} [Decidable p] : condK P C h n a b k e st (some (.bool (decide p))) = if p then goes P C h n a k e st else goes P C h n b k e st := by
  by_cases hp : p <;> simp [hp, condK]
theorem condK_bool {q : Bool} : condK P C h n a b k e st (some (.bool q)) = if q = true then goes P C h n a k e st else goes P C h n b k e st := by
  cases q <;> rfl
theorem resume_done {r : PExit × Env × St} : resume P C h n .done r = some r := rfl

/-- A loop by what each of its rounds does: a state of it, its environment and boxes, and what comes of it in the end. -/
theorem goesL_rule {α β : Type} {k0 : Nat} (I : α → Prop) (μ : α → Nat) (E : α → Env) (S : α → St) (F : α → β) (G : Option (PExit × Env × St) → β)
    (hstep : ∀ a m, I a → μ a ≤ m → (∀ a', I a' → μ a' < μ a → G (goesL P C h n c k0 m k (E a') (S a')) = F a') → G (goes P C h n c (.loop c k0 m k) (E a) (S a)) = F a) :
    ∀ a m, I a → μ a < m → G (goesL P C h n c k0 m k (E a) (S a)) = F a := by
  intro a
  generalize hq : μ a = q
  induction q using Nat.strongRecOn generalizing a with
  | ind q ih =>
    intro m hi hm
    obtain ⟨m, rfl⟩ : ∃ m', m = m' + 1 := ⟨m - 1, by omega⟩
    rw [goesL_succ]
    exact hstep a m hi (by omega) fun a' hi' ha => ih (μ a') (by omega) a' rfl m hi' (by omega)
end
end Go.Sim
/- Walking through code: what each operation gives, for rewriting. -/
namespace Go.Sim
open PV

section
variable (P : Program) (C : Oracle)

def mapV (st : St) : Option PV → Option (PV × St)
  | some v => some (v, st)
  | none => none
def demIf (b : Bool) : Option PV → Option PV
  | some v => some (if b then v else v.dem)
  | none => none
def pickV : Option PV → Option PV → Option PV → Option PV
  | some (.bool true), x, _ => demIf false x
  | some (.bool false), _, y => demIf false y
  | _, _, _ => none
def binV (op : BinOp) (t : TypeId) : Option PV → Option PV → Option PV
  | some a, some b => pbin P op t a b
  | _, _ => none
def unV (op : UnOp) : Option PV → Option PV
  | some a => pun op a
  | none => none
def nilV : Option PV → Option PV
  | some (.ptr b k) => some (.ptr b k)
  | some (.eptr cs k) => some (.eptr cs k)
  | some (.fn f) => some (.fn f)
  | _ => none
def fieldAtV (t : TypeId) (f : Nat) : Option PV → Option PV
  | some a => pfieldAt P t a f
  | none => none
def fieldV (t : TypeId) (f : Nat) : Option PV → Option PV
  | some a => demIf false (pfield P t a f)
  | none => none
def idxAtV (t : TypeId) : Option PV → Option PV → Option PV
  | some a, some (.int _ i) => pindexAt P t a i
  | _, _ => none
def idxV (t : TypeId) : Option PV → Option PV → Option PV
  | some a, some (.int _ i) => demIf false (pindex P t a i)
  | _, _ => none
def extV (i : Nat) : Option PV → Option PV
  | some (.tup vs) => vs[i]?
  | _ => none
def sliceV (t : TypeId) : Option PV → Option (Option PV) → Option (Option PV) → Option PV
  | some _, some none, _ => none
  | some _, _, some none => none
  | some a, l, h => pslice P t a l.join h.join
  | none, _, _ => none
def allocV (t : TypeId) (st : St) : Option (PV × St) :=
  match zeroCellsOf P t with
  | some cs => some (.ptr st.length 0, st ++ [cs])
  | none => none
def boxV (st : St) : Option PV → Option (PV × St)
  | some v => if v.cells.all store1 then some (.ptr st.length 0, st ++ [v.cells]) else none
  | none => none
def loadB (t : TypeId) (tk : Bool) (b k : Nat) (st : St) : Option (List PV) → Option (PV × St)
  | some cs => match takeVar P t cs k with
    | some v => if tk then some (v, st.set b (demCells cs k v.cells.length)) else some (v.dem, st)
    | none => none
  | none => none
def loadV (t : TypeId) (tk : Bool) (st : St) : Option PV → Option (PV × St)
  | some (.ptr b k) => loadB P t tk b k st st[b]?
  | some (.eptr cs k) => mapV st (demIf false (takeVar P t cs k))
  | _ => none
def storeB (b k : Nat) (v : PV) (sz : Nat) (st : St) : Option (List PV) → Option (PV × St)
  | some cs => if v.cells.length = sz ∧ k + sz ≤ cs.length ∧ v.cells.all store1 then some (.undef, st.set b (setCells cs k v.cells)) else none
  | none => none
def storeV (t : TypeId) (st : St) : Option PV → Option PV → Option TypeInfo → Option (PV × St)
  | some (.ptr b k), some v, some i => storeB b k v i.size st st[b]?
  | _, _, _ => none
def buildV (t : TypeId) (is : List Nat) (st : St) : Option (List PV) → Option (PV × St)
  | some l => mapV st (pbuild P t (is.zip l))
  | none => none
def buildU (t : TypeId) (is : List Nat) (st : St) (l : Option (List PV)) : Bool → Option (PV × St)
  | true => buildV P t is st l
  | false => none
def rowW (st : St) : Option PV → Option (PV × St)
  | some (.sl 1 _ _ xs) => if xs.all plain1 then some (.msl 1 true st.length 0 xs.length, st ++ [xs]) else none
  | _ => none
def buildSliceV (t : TypeId) (len : Nat) (wr : Bool) (is : List Nat) (st : St) : Option (List PV) → Option (PV × St)
  | some l => if wr then rowW st (pbuildSlice P t len (is.zip l)) else mapV st (pbuildSlice P t len (is.zip l))
  | none => none
def builtinV (b : Builtin) (ts : Array TypeId) (st : St) : Option (List PV) → Option (PV × St)
  | some args => mapV st (pbuiltin P b ts st args)
  | none => none
def builtinU (b : Builtin) (ts : Array TypeId) (st : St) (l : Option (List PV)) : Bool → Option (PV × St)
  | false => builtinV P b ts st l
  | true => (match l with
    | some [x, y] => (match b, ts.toList with
      | .append, [t, u] => (match P.underlying u with | some (.slice _) => pappendW P t st x y | _ => none)
      | _, _ => none)
    | _ => none)
def callU (fresh : Bool) (f : FuncId) (st : St) (l : Option (List PV)) (q : Option Func) : Bool → Option (PV × St)
  | true => (match l, q with
    | some args, some q => pcallOp P C fresh f q.params.toList args st
    | _, _ => none)
  | false => none
def callV (fresh : Bool) (f : FuncId) (st : St) : Option (List PV) → Option Func → Option (PV × St)
  | some args, some q => pcallOp P C fresh f q.params.toList args st
  | _, _ => none
def convV (s d : TypeId) (st : St) : Option PV → Option (PV × St)
  | some (.msl 1 _ b k n) => (match P.underlying d, P.underlying s with
        | some .string, some (.slice e) => match P.underlying e with
          | some (.int .u8) => (st[b]?).bind fun cs => (bytesOf ((cs.drop k).take n)).map fun v => (.str v, st)
          | _ => none
        | _, _ => none)
  | some a => mapV st (pconvert P s d a)
  | none => none
def convU (s d : TypeId) (st : St) (wr : Bool) : Option TypeDesc → Option PV → Option (PV × St)
  | none, _ => none
  | some _, none => none
  | some _, some a => if wr then (match P.underlying d, a with
      | some (.slice e), .str s => match P.underlying e with
        | some (.int .u8) => if s.length ≤ maxLen then some (.msl 1 false st.length 0 s.length, st ++ [ofBytes s]) else none
        | _ => none
      | _, _ => none) else convV P s d st (some a)
def argK (v : Option PV) (r : Option (List PV)) : Option (List PV) :=
  match v, r with
  | some v, some r => some (v :: r)
  | _, _ => none
end

section
variable {P : Program} {C : Oracle} {h : Hint} {fr : Bool} {d : Option Tmp} {ty : TypeId} {ps : String} {af : Array Edge} {g : Option (Nat × Bool)} {ρ : Operand → Option PV} {st : St} {e : Env}

theorem pargs_nil : pargs ρ [] = some [] := rfl
theorem pargs_cons {x : Operand} {r : List Operand} : pargs ρ (x :: r) = argK (ρ x) (pargs ρ r) := by
  simp only [pargs, argK]
  cases ρ x with
  | none => rfl
  | some v => cases pargs ρ r <;> rfl
theorem argK_some {v : PV} {r : List PV} : argK (some v) (some r) = some (v :: r) := rfl

theorem os_assign {x : Operand} : osem P C h fr ⟨d, .assign x, ty, ps, af, g⟩ ρ st = mapV st (ρ x) := by
  simp only [osem]; cases ρ x <;> rfl
theorem os_move {x : Operand} : osem P C h fr ⟨d, .move x, ty, ps, af, g⟩ ρ st = mapV st (demIf (takes h ⟨d, .move x, ty, ps, af, g⟩) (ρ x)) := by
  simp only [osem]; cases ρ x <;> rfl
theorem os_pick {c x y : Operand} : osem P C h fr ⟨d, .pick c x y, ty, ps, af, g⟩ ρ st = mapV st (pickV (ρ c) (ρ x) (ρ y)) := by
  simp only [osem]
  cases hc : ρ c with
  | none => rfl
  | some v =>
    cases v <;> try rfl
    rename_i t
    cases t
    · simp only [pickV, Bool.false_eq_true, if_false]; cases ρ y <;> rfl
    · simp only [pickV, if_true]; cases ρ x <;> rfl
theorem os_alloc {t : TypeId} : osem P C h fr ⟨d, .alloc t, ty, ps, af, g⟩ ρ st = allocV P t st := by
  simp only [osem, allocV]; cases zeroCellsOf P t <;> rfl
theorem os_box {t : TypeId} {x : Operand} : osem P C h fr ⟨d, .box t x, ty, ps, af, g⟩ ρ st = boxV st (ρ x) := by
  simp only [osem]; cases ρ x <;> rfl
theorem os_bin {op : BinOp} {t t' : TypeId} {x y : Operand} : osem P C h fr ⟨d, .binOp op t x y t', ty, ps, af, g⟩ ρ st = mapV st (binV P op t (ρ x) (ρ y)) := by
  simp only [osem]
  cases ρ x with
  | none => rfl
  | some a => cases ρ y with
    | none => rfl
    | some b => simp only [binV, Option.bind_some]; cases pbin P op t a b <;> rfl
theorem os_un {op : UnOp} {t : TypeId} {x : Operand} : osem P C h fr ⟨d, .unOp op t x, ty, ps, af, g⟩ ρ st = mapV st (unV op (ρ x)) := by
  simp only [osem]
  cases ρ x with
  | none => rfl
  | some a => simp only [unV, Option.bind_some]; cases pun op a <;> rfl
theorem os_nil {x : Operand} : osem P C h fr ⟨d, .nilCheck x, ty, ps, af, g⟩ ρ st = mapV st (nilV (ρ x)) := by
  simp only [osem]
  cases ρ x with
  | none => rfl
  | some a => cases a <;> rfl
theorem os_fieldAddr {t : TypeId} {x : Operand} {f : Nat} : osem P C h fr ⟨d, .fieldAddr t x f, ty, ps, af, g⟩ ρ st = mapV st (fieldAtV P t f (ρ x)) := by
  simp only [osem]
  cases ρ x with
  | none => rfl
  | some a => simp only [fieldAtV, Option.bind_some]; cases pfieldAt P t a f <;> rfl
theorem os_field {t : TypeId} {x : Operand} {f : Nat} : osem P C h fr ⟨d, .field t x f, ty, ps, af, g⟩ ρ st = mapV st (fieldV P t f (ρ x)) := by
  simp only [osem]
  cases ρ x with
  | none => rfl
  | some a => simp only [fieldV, Option.bind_some]; cases pfield P t a f <;> rfl
theorem os_indexAddr {t : TypeId} {x i : Operand} : osem P C h fr ⟨d, .indexAddr t x i, ty, ps, af, g⟩ ρ st = mapV st (idxAtV P t (ρ x) (ρ i)) := by
  simp only [osem]
  cases ρ x with
  | none => rfl
  | some a => cases ρ i with
    | none => rfl
    | some b =>
      cases b <;> simp only [idxAtV, Option.bind_some, PV.asInt, Option.bind_none] <;> try rfl
      cases pindexAt P t a _ <;> rfl
theorem os_index {t : TypeId} {x i : Operand} : osem P C h fr ⟨d, .index t x i, ty, ps, af, g⟩ ρ st = mapV st (idxV P t (ρ x) (ρ i)) := by
  simp only [osem]
  cases ρ x with
  | none => rfl
  | some a => cases ρ i with
    | none => rfl
    | some b =>
      cases b <;> simp only [idxV, Option.bind_some, PV.asInt, Option.bind_none] <;> try rfl
      cases pindex P t a _ <;> rfl
theorem os_extract {x : Operand} {i : Nat} : osem P C h fr ⟨d, .extract x i, ty, ps, af, g⟩ ρ st = mapV st (extV i (ρ x)) := by
  simp only [osem]
  cases ρ x with
  | none => rfl
  | some a =>
    cases a <;> try rfl
    rename_i vs
    simp only [extV]; cases vs[i]? <;> rfl
theorem os_slice {t : TypeId} {x : Operand} {lo hi : Option Operand} : osem P C h fr ⟨d, .slice t x lo hi none, ty, ps, af, g⟩ ρ st = mapV st (sliceV P t (ρ x) (lo.map ρ) (hi.map ρ)) := by
  simp only [osem]
  cases ρ x with
  | none => rfl
  | some a =>
    simp only [Option.bind_some]
    split
    · rename_i h1; rw [h1]; rfl
    · rename_i h2 _; rw [h2]; cases hl : lo.map ρ with
      | none => rfl
      | some q => cases q <;> rfl
    · rename_i h1 h2
      have : sliceV P t (some a) (lo.map ρ) (hi.map ρ) = pslice P t a (lo.map ρ).join (hi.map ρ).join := by
        cases hl : lo.map ρ with
        | none =>
          cases hh : hi.map ρ with
          | none => rfl
          | some q => cases q with
            | none => exact (h2 hh).elim
            | some q => rfl
        | some q =>
          cases q with
          | none => exact (h1 hl).elim
          | some q =>
            cases hh : hi.map ρ with
            | none => rfl
            | some q' => cases q' with
              | none => exact (h2 hh).elim
              | some q' => rfl
      rw [this]
      cases pslice P t a (lo.map ρ).join (hi.map ρ).join <;> rfl
theorem os_load {t : TypeId} {x : Operand} : osem P C h fr ⟨d, .load t x, ty, ps, af, g⟩ ρ st = loadV P t (takes h ⟨d, .load t x, ty, ps, af, g⟩) st (ρ x) := by
  simp only [osem]
  cases ρ x with
  | none => rfl
  | some a =>
    cases a <;> try rfl
    · rename_i b k
      simp only [loadV, loadB]
      cases st[b]? with
      | none => rfl
      | some cs =>
        simp only [Option.bind_some]
        cases takeVar P t cs k with
        | none => rfl
        | some v => simp only [Option.map_some]; split <;> rfl
    · rename_i cs k
      simp only [loadV]
      cases takeVar P t cs k <;> rfl
theorem os_store {t : TypeId} {x y : Operand} : osem P C h fr ⟨d, .store t x y, ty, ps, af, g⟩ ρ st = storeV t st (ρ x) (ρ y) (P.info? t) := by
  simp only [osem]
  cases ρ x with
  | none => rfl
  | some a =>
    cases a <;> try rfl
    rename_i b k
    cases ρ y with
    | none => rfl
    | some v =>
      cases P.info? t with
      | none => rfl
      | some i =>
        simp only [storeV]
        cases st[b]? <;> rfl
theorem os_build {t : TypeId} {xs : Array (Nat × Operand)} : osem P C h fr ⟨d, .build t xs, ty, ps, af, g⟩ ρ st = buildU P t (xs.toList.map (·.1)) st (pargs ρ (xs.toList.map (·.2))) (okTake (xs.toList.map (·.2))) := by
  simp only [osem]
  cases okTake (xs.toList.map (·.2)) with
  | false => rfl
  | true =>
    cases pargs ρ (xs.toList.map (·.2)) with
    | none => rfl
    | some l => simp only [buildU, buildV, Option.bind_some]; cases pbuild P t _ <;> rfl
theorem os_buildSlice {t : TypeId} {len : Nat} {xs : Array (Nat × Operand)} : osem P C h fr ⟨d, .buildSlice t len xs, ty, ps, af, g⟩ ρ st = buildSliceV P t len (writes h ⟨d, .buildSlice t len xs, ty, ps, af, g⟩) (xs.toList.map (·.1)) st (pargs ρ (xs.toList.map (·.2))) := by
  simp only [osem]
  cases pargs ρ (xs.toList.map (·.2)) with
  | none => rfl
  | some l =>
    simp only [buildSliceV, Option.bind_some]
    cases pbuildSlice P t len _ with
    | none => split <;> rfl
    | some v =>
      simp only [Option.bind_some]
      split
      · split
        · rfl
        · rename_i hne
          simp only [rowW]
          split
          · rename_i heq; simp only [Option.some.injEq] at heq; exact (hne _ _ _ heq).elim
          · rfl
      · rfl
theorem os_convert {s t : TypeId} {x : Operand} : osem P C h fr ⟨d, .convert s t x, ty, ps, af, g⟩ ρ st = convU P s t st (writes h ⟨d, .convert s t x, ty, ps, af, g⟩) (P.underlying s) (ρ x) := by
  simp only [osem]
  cases hs : P.underlying s with
  | none => cases ρ x <;> rfl
  | some i =>
    cases hx : ρ x with
    | none => rfl
    | some a =>
      simp only [Option.bind_some, Option.isNone_some, Bool.false_eq_true, if_false, convU]
      split
      · rfl
      · cases a with
        | msl sz fl b k n =>
          by_cases h1 : sz = 1
          · subst h1; simp only [convV, hs]; rfl
          · match sz, h1 with
            | 0, _ => simp only [convV]; cases pconvert P s t _ <;> rfl
            | q + 2, _ => simp only [convV]; cases pconvert P s t _ <;> rfl
        | _ => simp only [convV]; cases pconvert P s t _ <;> rfl
theorem os_builtin {b : Builtin} {xs : Array Operand} {ts : Array TypeId} :
    osem P C h fr ⟨d, .call ⟨.builtin b, xs, ts⟩, ty, ps, af, g⟩ ρ st = builtinU P b ts st (pargs ρ xs.toList) (writes h ⟨d, .call ⟨.builtin b, xs, ts⟩, ty, ps, af, g⟩) := by
  simp only [osem]
  cases pargs ρ xs.toList with
  | none => cases writes h _ <;> rfl
  | some l =>
    simp only [Option.bind_some]
    cases writes h _ with
    | false => simp only [builtinU, builtinV, Bool.false_eq_true, if_false]; cases pbuiltin P b ts st l <;> rfl
    | true =>
      simp only [builtinU, if_true]
      match l with
      | [] => cases b <;> simp
      | [_] => cases b <;> simp
      | [x, y] =>
        cases b <;> simp
        generalize ts.toList = L
        match L with
        | [] => rfl
        | [_] => rfl
        | [_, _] => rfl
        | _ :: _ :: _ :: _ => rfl
      | _ :: _ :: _ :: _ => cases b <;> simp
theorem os_call {f : FuncId} {xs : Array Operand} {ts : Array TypeId} :
    osem P C h fr ⟨d, .call ⟨.value (.func f), xs, ts⟩, ty, ps, af, g⟩ (peval e) st = callU P C fr f st (pargs (peval e) xs.toList) P.funcs[f]? (okTake xs.toList) := by
  simp only [osem]
  cases pargs (peval e) xs.toList with
  | none => cases okTake xs.toList <;> rfl
  | some l =>
    simp only [Option.bind_some, peval]
    cases okTake xs.toList with
    | false => rfl
    | true => cases P.funcs[f]? <;> rfl
end
end Go.Sim
/- Walking through code: values. -/
namespace Go.Sim
open PV

section
variable {P : Program} {h : Hint} {t : TypeId} {k : IntKind} {a b : Int} {st : St} {v : PV} {e : Env}

theorem mapV_some : mapV st (some v) = some (v, st) := rfl
theorem demIf_false : demIf false (some v) = some v.dem := rfl
theorem demIf_true : demIf true (some v) = some v := rfl
theorem pickV_true {x y : Option PV} : pickV (some (.bool true)) x y = demIf false x := rfl
theorem pickV_false {x y : Option PV} : pickV (some (.bool false)) x y = demIf false y := rfl
theorem binV_some {op : BinOp} {x y : PV} : binV P op t (some x) (some y) = pbin P op t x y := rfl
theorem unV_some {op : UnOp} {x : PV} : unV op (some x) = pun op x := rfl
theorem nilV_ptr {q o : Nat} : nilV (some (.ptr q o)) = some (.ptr q o) := rfl
theorem nilV_eptr {cs : List PV} {o : Nat} : nilV (some (.eptr cs o)) = some (.eptr cs o) := rfl
theorem nilV_fn {f : FuncId} : nilV (some (.fn f)) = some (.fn f) := rfl
theorem fieldAtV_some {f : Nat} {x : PV} : fieldAtV P t f (some x) = pfieldAt P t x f := rfl
theorem fieldV_some {f : Nat} {x : PV} : fieldV P t f (some x) = demIf false (pfield P t x f) := rfl
theorem idxAtV_some {x : PV} : idxAtV P t (some x) (some (.int k a)) = pindexAt P t x a := rfl
theorem idxV_some {x : PV} : idxV P t (some x) (some (.int k a)) = demIf false (pindex P t x a) := rfl
theorem extV_tup {i : Nat} {vs : List PV} : extV i (some (.tup vs)) = vs[i]? := rfl
theorem slice_00 {x : PV} : sliceV P t (some x) none none = pslice P t x none none := rfl
theorem slice_10 {x l : PV} : sliceV P t (some x) (some (some l)) none = pslice P t x (some l) none := rfl
theorem slice_01 {x h : PV} : sliceV P t (some x) none (some (some h)) = pslice P t x none (some h) := rfl
theorem slice_11 {x l h : PV} : sliceV P t (some x) (some (some l)) (some (some h)) = pslice P t x (some l) (some h) := rfl
def allocW (st : St) : Option (List PV) → Option (PV × St)
  | some cs => some (.ptr st.length 0, st ++ [cs])
  | none => none
theorem allocV_eq : allocV P t st = allocW st (zeroCellsOf P t) := by simp only [allocV, allocW] <;> (cases zeroCellsOf P t <;> rfl)
theorem allocW_some {cs : List PV} : allocW st (some cs) = some (.ptr st.length 0, st ++ [cs]) := rfl
theorem loadV_ptr {tk : Bool} {q o : Nat} : loadV P t tk st (some (.ptr q o)) = loadB P t tk q o st st[q]? := rfl
theorem loadV_eptr {tk : Bool} {cs : List PV} {o : Nat} : loadV P t tk st (some (.eptr cs o)) = mapV st (demIf false (takeVar P t cs o)) := rfl
def loadC (tk : Bool) (b k : Nat) (cs : List PV) (st : St) : Option PV → Option (PV × St)
  | some v => if tk then some (v, st.set b (demCells cs k v.cells.length)) else some (v.dem, st)
  | none => none
theorem loadB_some {tk : Bool} {q o : Nat} {cs : List PV} : loadB P t tk q o st (some cs) = loadC tk q o cs st (takeVar P t cs o) := by
  simp only [loadB, loadC] <;> (cases takeVar P t cs o <;> rfl)
theorem loadC_false {q o : Nat} {cs : List PV} : loadC false q o cs st (some v) = some (v.dem, st) := rfl
theorem loadC_true {q o : Nat} {cs : List PV} : loadC true q o cs st (some v) = some (v, st.set q (demCells cs o v.cells.length)) := rfl
theorem storeV_ptr {q o : Nat} {i : TypeInfo} : storeV t st (some (.ptr q o)) (some v) (some i) = storeB q o v i.size st st[q]? := rfl
theorem boxV_some : boxV st (some v) = if v.cells.all store1 then some (.ptr st.length 0, st ++ [v.cells]) else none := rfl
theorem storeB_some {q o sz : Nat} {cs : List PV} : storeB q o v sz st (some cs) = if v.cells.length = sz ∧ o + sz ≤ cs.length ∧ v.cells.all store1 then some (.undef, st.set q (setCells cs o v.cells)) else none := rfl
theorem buildV_some {is : List Nat} {l : List PV} : buildV P t is st (some l) = mapV st (pbuild P t (is.zip l)) := rfl
theorem buildSliceV_false {len : Nat} {is : List Nat} {l : List PV} : buildSliceV P t len false is st (some l) = mapV st (pbuildSlice P t len (is.zip l)) := rfl
theorem buildU_true {is : List Nat} {l : Option (List PV)} : buildU P t is st l true = buildV P t is st l := rfl
theorem builtinU_false {q : Builtin} {ts : Array TypeId} {l : Option (List PV)} : builtinU P q ts st l false = builtinV P q ts st l := rfl
theorem callU_true {C : Oracle} {fresh : Bool} {f : FuncId} {l : List PV} {fn : Func} : callU P C fresh f st (some l) (some fn) true = pcallOp P C fresh f fn.params.toList l st := rfl
theorem convU_false {s x : TypeId} {i : TypeDesc} : convU P s x st false (some i) (some v) = convV P s x st (some v) := rfl
/-- No temporary twice, by counting. -/
def nodupB : List Nat → Bool
  | [] => true
  | x :: l => !l.contains x && nodupB l
theorem okTake_eq (os : List Operand) : okTake os = nodupB ((os.flatMap tmpOf).map (·.1)) := by
  unfold okTake
  generalize (os.flatMap tmpOf).map (·.1) = l
  induction l with
  | nil => rfl
  | cons x l ih => rw [nodupB, ← ih]; simp [List.nodup_cons]
theorem nodupB_nil : nodupB [] = true := rfl
theorem nodupB_cons {x : Nat} {l : List Nat} : nodupB (x :: l) = (!l.contains x && nodupB l) := rfl
theorem builtinV_some {q : Builtin} {ts : Array TypeId} {l : List PV} : builtinV P q ts st (some l) = mapV st (pbuiltin P q ts st l) := rfl

theorem peval_tmp {i : Tmp} : peval e (.tmp i) = e[i]? := rfl
theorem peval_const {c : Value} : peval e (.const c) = ofVal c := rfl
theorem peval_func {f : FuncId} : peval e (.func f) = some (.fn f) := rfl
theorem ofVal_int {n : Int} : ofVal (.int k n) = some (.int k n) := rfl
theorem ofVal_bool {q : Bool} : ofVal (.bool q) = some (.bool q) := rfl
theorem ofVal_str {s : ByteArray} : ofVal (.string s) = some (.str s.data.toList) := rfl
theorem ofVal_nilp : ofVal (.pointer none) = some .nilp := rfl
theorem ofVal_nils : ofVal (.slice none 0 0) = some (.sl 0 true true []) := rfl

theorem pwanted_none {ops : Array Oper} {d : Option Tmp} {op : Op} {ty : TypeId} {ps : String} {af : Array Edge} : pwanted ops e ⟨d, op, ty, ps, af, none⟩ = some true := rfl

def wantV (w : Bool) : Option PV → Option Bool
  | some (.bool b) => some (b == w)
  | some (.tup []) => some false
  | _ => none
def wantU (e : Env) (w : Bool) : Option Tmp → Option Bool
  | some t => wantV w e[t]?
  | none => none
theorem pwanted_some {ops : Array Oper} {d : Option Tmp} {op : Op} {ty : TypeId} {ps : String} {af : Array Edge} {j : Nat} {w : Bool} : pwanted ops e ⟨d, op, ty, ps, af, some (j, w)⟩ = wantU e w ((ops[j]?).bind (·.dst)) := by
  simp only [pwanted, wantU]
  cases (ops[j]?).bind (·.dst) with
  | none => rfl
  | some t =>
    simp only [wantV]
    cases e[t]? with
    | none => rfl
    | some v => cases v <;> rfl
theorem wantU_some {w : Bool} {q : Tmp} : wantU e w (some q) = wantV w e[q]? := rfl
theorem wantV_tt : wantV true (some (.bool true)) = some true := rfl
theorem wantV_tf : wantV true (some (.bool false)) = some false := rfl
theorem wantV_ft : wantV false (some (.bool true)) = some false := rfl
theorem wantV_ff : wantV false (some (.bool false)) = some true := rfl
theorem wantV_tup {w : Bool} : wantV w (some (.tup [])) = some false := rfl

-- what an operation sheds
section
variable {d : Option Tmp} {ty : TypeId} {ps : String} {af : Array Edge} {g : Option (Nat × Bool)} {x y z : Operand}
theorem sheds_assign : sheds h ⟨d, .assign x, ty, ps, af, g⟩ = tmpOf x := rfl
theorem sheds_box : sheds h ⟨d, .box t x, ty, ps, af, g⟩ = tmpOf x := rfl
theorem sheds_store : sheds h ⟨d, .store t x y, ty, ps, af, g⟩ = tmpOf y := rfl
theorem sheds_move : sheds h ⟨d, .move x, ty, ps, af, g⟩ = if takes h ⟨d, .move x, ty, ps, af, g⟩ then tmpOf x else [] := rfl
theorem sheds_build {xs : Array (Nat × Operand)} : sheds h ⟨d, .build t xs, ty, ps, af, g⟩ = (xs.toList.map (·.2)).flatMap tmpOf := rfl
theorem sheds_extract {i : Nat} {q : Tmp} : sheds h ⟨d, .extract (.tmp q) i, ty, ps, af, g⟩ = [(q, some i)] := rfl
theorem sheds_append {xs : Array Operand} {ts : Array TypeId} : sheds h ⟨d, .call ⟨.builtin .append, xs, ts⟩, ty, ps, af, g⟩ = (xs.toList.take 1).flatMap tmpOf := rfl
theorem sheds_len {xs : Array Operand} {ts : Array TypeId} : sheds h ⟨d, .call ⟨.builtin .len, xs, ts⟩, ty, ps, af, g⟩ = [] := rfl
theorem sheds_min {xs : Array Operand} {ts : Array TypeId} : sheds h ⟨d, .call ⟨.builtin .min, xs, ts⟩, ty, ps, af, g⟩ = [] := rfl
theorem sheds_call {xs : Array Operand} {ts : Array TypeId} {f : Operand} : sheds h ⟨d, .call ⟨.value f, xs, ts⟩, ty, ps, af, g⟩ = xs.toList.flatMap tmpOf := rfl
theorem sheds_pick : sheds h ⟨d, .pick x y z, ty, ps, af, g⟩ = [] := rfl
theorem sheds_alloc : sheds h ⟨d, .alloc t, ty, ps, af, g⟩ = [] := rfl
theorem sheds_load : sheds h ⟨d, .load t x, ty, ps, af, g⟩ = [] := rfl
theorem sheds_nil : sheds h ⟨d, .nilCheck x, ty, ps, af, g⟩ = [] := rfl
theorem sheds_bin {op : BinOp} {t' : TypeId} : sheds h ⟨d, .binOp op t x y t', ty, ps, af, g⟩ = [] := rfl
theorem sheds_un {op : UnOp} : sheds h ⟨d, .unOp op t x, ty, ps, af, g⟩ = [] := rfl
theorem sheds_convert {s : TypeId} : sheds h ⟨d, .convert s t x, ty, ps, af, g⟩ = [] := rfl
theorem sheds_makeSlice : sheds h ⟨d, .makeSlice t x y, ty, ps, af, g⟩ = [] := rfl
theorem sheds_buildSlice {n : Nat} {xs : Array (Nat × Operand)} : sheds h ⟨d, .buildSlice t n xs, ty, ps, af, g⟩ = [] := rfl
theorem sheds_slice {lo hi m : Option Operand} : sheds h ⟨d, .slice t x lo hi m, ty, ps, af, g⟩ = [] := rfl
theorem sheds_fieldAddr {f : Nat} : sheds h ⟨d, .fieldAddr t x f, ty, ps, af, g⟩ = [] := rfl
theorem sheds_field {f : Nat} : sheds h ⟨d, .field t x f, ty, ps, af, g⟩ = [] := rfl
theorem sheds_indexAddr : sheds h ⟨d, .indexAddr t x y, ty, ps, af, g⟩ = [] := rfl
theorem sheds_index : sheds h ⟨d, .index t x y, ty, ps, af, g⟩ = [] := rfl
theorem tmpOf_tmp {q : Tmp} : tmpOf (.tmp q) = [(q, none)] := rfl
theorem tmpOf_const {c : Value} : tmpOf (.const c) = [] := rfl
theorem takes_some {q : Tmp} {op : Op} : takes h ⟨some q, op, ty, ps, af, g⟩ = h.take.contains q := rfl
theorem takes_none {op : Op} : takes h ⟨none, op, ty, ps, af, g⟩ = false := rfl
theorem writes_some {q : Tmp} {op : Op} : writes h ⟨some q, op, ty, ps, af, g⟩ = h.wr.contains q := rfl
end

def demT : Nat → Env → Env
  | _, [] => []
  | 0, v :: e => v.dem :: e
  | n + 1, v :: e => v :: demT n e
def modD : Nat → List PV → List PV
  | _, [] => []
  | 0, v :: r => dem2 v :: r
  | n + 1, v :: r => v :: modD n r
theorem modD_eq : ∀ (i : Nat) (vs : List PV), modD i vs = vs.modify i dem2
  | i, [] => by cases i <;> rfl
  | 0, v :: r => rfl
  | i + 1, v :: r => by
    simp only [modD, modD_eq i r]; rfl
theorem modD_zero {x : PV} : modD 0 (x :: e) = dem2 x :: e := rfl
theorem modD_succ {x : PV} {n : Nat} : modD (n + 1) (x :: e) = x :: modD n e := by cases n <;> rfl
def demTI (i : Nat) : Nat → Env → Env
  | _, [] => []
  | 0, .tup vs :: e => .tup (modD i vs) :: e
  | 0, v :: e => v :: e
  | n + 1, v :: e => v :: demTI i n e
theorem demT_eq : ∀ (q : Nat) (e : Env), demT q e = match e[q]? with | some v => e.set q v.dem | none => e
  | _, [] => by simp [demT]
  | 0, v :: e => by simp [demT]
  | q + 1, v :: e => by
    simp only [demT, demT_eq q e, List.getElem?_cons_succ]
    cases e[q]? <;> simp
theorem demTI_eq (i : Nat) : ∀ (q : Nat) (e : Env), demTI i q e = match e[q]? with | some (.tup vs) => e.set q (.tup (vs.modify i dem2)) | _ => e
  | _, [] => by simp [demTI]
  | 0, v :: e => by cases v <;> simp [demTI, modD_eq]
  | q + 1, v :: e => by
    simp only [demTI, demTI_eq i q e, List.getElem?_cons_succ]
    split <;> simp_all
theorem shed_nil : shed e [] = e := rfl
theorem shed_none {q : Tmp} {r : List (Tmp × Option Nat)} : shed e ((q, none) :: r) = shed (demT q e) r := by rw [demT_eq]; rfl
theorem shed_some {q : Tmp} {i : Nat} {r : List (Tmp × Option Nat)} : shed e ((q, some i) :: r) = shed (demTI i q e) r := by rw [demTI_eq]; rfl
theorem demT_zero {x : PV} : demT 0 (x :: e) = x.dem :: e := rfl
theorem demT_succ {x : PV} {n : Nat} : demT (n + 1) (x :: e) = x :: demT n e := rfl
theorem demTI_zero {i : Nat} {vs : List PV} : demTI i 0 (.tup vs :: e) = .tup (modD i vs) :: e := rfl
theorem demTI_succ {i : Nat} {x : PV} {n : Nat} : demTI i (n + 1) (x :: e) = x :: demTI i n e := by cases x <;> rfl
theorem setDst_some {q : Tmp} : setDst e (some q) v = e.set q v := rfl
theorem setDst_none : setDst e none v = e := rfl
theorem keepE_t {m : List Bool} {x : PV} : keepE (true :: m) (x :: e) = x :: keepE m e := rfl
theorem keepE_f {m : List Bool} {x : PV} : keepE (false :: m) (x :: e) = .undef :: keepE m e := rfl
theorem keepE_nil {m : List Bool} : keepE m [] = [] := by cases m with | nil => rfl | cons q m => cases q <;> rfl
theorem keepE_nil' : keepE [] e = e := by cases e <;> rfl

-- dem
theorem dem_bool {q : Bool} : (PV.bool q).dem = .bool q := rfl
theorem dem_int : (PV.int k a).dem = .int k a := rfl
theorem dem_str {s : List UInt8} : (PV.str s).dem = .str s := rfl
theorem dem_nilp : PV.nilp.dem = .nilp := rfl
theorem dem_ptr {q o : Nat} : (PV.ptr q o).dem = .ptr q o := rfl
theorem dem_eptr {cs : List PV} {o : Nat} : (PV.eptr cs o).dem = .eptr cs o := rfl
theorem dem_sl {z : Nat} {nl own : Bool} {xs : List PV} : (PV.sl z nl own xs).dem = .sl z nl false xs := rfl
theorem dem_msl {z : Nat} {f : Bool} {q o m : Nat} : (PV.msl z f q o m).dem = .msl z f q o m := rfl
theorem dem_agg {cs : List PV} : (PV.agg cs).dem = .agg (cs.map dem1) := rfl
theorem dem_tup {cs : List PV} : (PV.tup cs).dem = .tup (cs.map dem2) := rfl
theorem dem_undef : PV.undef.dem = .undef := rfl
theorem dem_con {i : Nat} : (PV.con i).dem = .con i := rfl
theorem dem1_bool {q : Bool} : dem1 (PV.bool q) = .bool q := rfl
theorem dem1_int : dem1 (PV.int k a) = .int k a := rfl
theorem dem1_str {s : List UInt8} : dem1 (PV.str s) = .str s := rfl
theorem dem1_sl {z : Nat} {nl own : Bool} {xs : List PV} : dem1 (PV.sl z nl own xs) = .sl z nl false xs := rfl
theorem dem1_ptr {q o : Nat} : dem1 (PV.ptr q o) = .ptr q o := rfl
theorem dem1_nilp : dem1 PV.nilp = .nilp := rfl
theorem dem2_bool {q : Bool} : dem2 (PV.bool q) = .bool q := rfl
theorem dem2_int : dem2 (PV.int k a) = .int k a := rfl
theorem dem2_str {s : List UInt8} : dem2 (PV.str s) = .str s := rfl
theorem dem2_sl {z : Nat} {nl own : Bool} {xs : List PV} : dem2 (PV.sl z nl own xs) = .sl z nl false xs := rfl
theorem dem2_ptr {q o : Nat} : dem2 (PV.ptr q o) = .ptr q o := rfl
theorem dem2_nilp : dem2 PV.nilp = .nilp := rfl
theorem dem2_agg {cs : List PV} : dem2 (PV.agg cs) = .agg (cs.map dem1) := rfl

-- integers
theorem pb_add : pbin P .add t (.int k a) (.int k b) = some (.int k (k.wrap (a + b))) := by simp [pbin, pint]
theorem pb_sub : pbin P .sub t (.int k a) (.int k b) = some (.int k (k.wrap (a - b))) := by simp [pbin, pint]
theorem pb_mul : pbin P .mul t (.int k a) (.int k b) = some (.int k (k.wrap (a * b))) := by simp [pbin, pint]
theorem pb_quo (hb : b ≠ 0) : pbin P .quo t (.int k a) (.int k b) = some (.int k (k.wrap (a.tdiv b))) := by simp [pbin, pint, hb]
theorem pb_rem (hb : b ≠ 0) : pbin P .rem t (.int k a) (.int k b) = some (.int k (a.tmod b)) := by simp [pbin, pint, hb]
theorem pb_and : pbin P .and t (.int k a) (.int k b) = some (pbits k (· &&& ·) a b) := by simp [pbin, pint]
theorem pb_or : pbin P .or t (.int k a) (.int k b) = some (pbits k (· ||| ·) a b) := by simp [pbin, pint]
theorem pb_xor : pbin P .xor t (.int k a) (.int k b) = some (pbits k (· ^^^ ·) a b) := by simp [pbin, pint]
theorem pb_eql : pbin P .eql t (.int k a) (.int k b) = some (.bool (decide (a = b))) := by
  have : (a == b) = decide (a = b) := by rw [Bool.eq_iff_iff]; simp
  simp [pbin, pint, this]
theorem pb_neq : pbin P .neq t (.int k a) (.int k b) = some (.bool (decide (a ≠ b))) := by
  have : (a != b) = decide (a ≠ b) := by rw [Bool.eq_iff_iff]; simp
  simp [pbin, pint, this]
theorem pb_lss : pbin P .lss t (.int k a) (.int k b) = some (.bool (decide (a < b))) := by simp [pbin, pint]
theorem pb_leq : pbin P .leq t (.int k a) (.int k b) = some (.bool (decide (a ≤ b))) := by simp [pbin, pint]
theorem pb_gtr : pbin P .gtr t (.int k a) (.int k b) = some (.bool (decide (a > b))) := by simp [pbin, pint]
theorem pb_geq : pbin P .geq t (.int k a) (.int k b) = some (.bool (decide (a ≥ b))) := by simp [pbin, pint]
theorem pb_shl {j : IntKind} (hb : 0 ≤ b) : pbin P .shl t (.int j a) (.int k b) = some (.int j (j.wrap (a * 2 ^ (min b.toNat j.bits)))) := by
  simp [pbin, pshift]; omega
theorem pb_shr {j : IntKind} (hb : 0 ≤ b) : pbin P .shr t (.int j a) (.int k b) = some (.int j (a.fdiv (2 ^ (min b.toNat j.bits)))) := by
  simp [pbin, pshift]; omega
theorem wrap64 (h1 : -9223372036854775808 ≤ a) (h2 : a ≤ 9223372036854775807) : IntKind.i64.wrap a = a := IntWalk.i64_in _ ⟨h1, h2⟩
theorem wrapu64 (h1 : 0 ≤ a) (h2 : a ≤ 18446744073709551615) : IntKind.u64.wrap a = a := by
  show a % 2 ^ 64 = a; exact Int.emod_eq_of_lt h1 (by omega)
theorem wrapu32 (h1 : 0 ≤ a) (h2 : a ≤ 4294967295) : IntKind.u32.wrap a = a := by
  show a % 2 ^ 32 = a; exact Int.emod_eq_of_lt h1 (by omega)
theorem wrapu8 (h1 : 0 ≤ a) (h2 : a ≤ 255) : IntKind.u8.wrap a = a := by
  show a % 2 ^ 8 = a; exact Int.emod_eq_of_lt h1 (by omega)
theorem and_mask {m : Nat} (j : Nat) (hm : m = 2 ^ j - 1) (hj : j ≤ 62) (h0 : 0 ≤ a) (h1 : a ≤ 9223372036854775807) : pbits .i64 (· &&& ·) a m = .int .i64 (a % 2 ^ j) := by
  obtain ⟨q, rfl⟩ := Int.eq_ofNat_of_zero_le h0
  have hp : 2 ^ j ≤ 2 ^ 62 := Nat.pow_le_pow_right (by omega) hj
  have hp1 : 0 < 2 ^ j := Nat.pow_pos (by omega)
  have e1 : ((BitVec.ofInt 64 (q : Int) &&& BitVec.ofInt 64 (m : Int)).toNat : Int) = ((q % 2 ^ j : Nat) : Int) := by
    rw [BitVec.toNat_and, BitVec.ofInt_natCast, BitVec.ofInt_natCast, BitVec.toNat_ofNat, BitVec.toNat_ofNat, Nat.mod_eq_of_lt (by omega : q < 2 ^ 64), Nat.mod_eq_of_lt (by omega : m < 2 ^ 64), hm, Nat.and_two_pow_sub_one_eq_mod]
  show PV.int .i64 (IntKind.i64.wrap ((BitVec.ofInt 64 (q : Int) &&& BitVec.ofInt 64 (m : Int)).toNat : Int)) = _
  have hlt : q % 2 ^ j < 2 ^ j := Nat.mod_lt _ hp1
  rw [e1, wrap64 (by omega) (by omega)]
  congr 1
theorem and31 (h0 : 0 ≤ a) (h1 : a ≤ 9223372036854775807) : pbits .i64 (fun x y => x &&& y) a 31 = .int .i64 (a % 32) := and_mask (m := 31) 5 rfl (by omega) h0 h1
theorem nat_and_bit (q j : Nat) : q &&& 2 ^ j = q / 2 ^ j % 2 * 2 ^ j := by
  apply Nat.eq_of_testBit_eq
  intro i
  rw [Nat.testBit_and, Nat.testBit_two_pow, Nat.testBit_mul_two_pow]
  have hb : Nat.testBit q j = decide (q / 2 ^ j % 2 = 1) := Nat.testBit_eq_decide_div_mod_eq
  by_cases hij : j = i
  · subst hij
    by_cases hq : q / 2 ^ j % 2 = 1
    · simp [hb, hq]
    · have : q / 2 ^ j % 2 = 0 := by omega
      simp [hb, this]
  · by_cases hq : q / 2 ^ j % 2 = 1
    · rw [hq]
      simp [hij]
      intro h1
      have : i - j ≠ 0 := by omega
      first
        | exact Nat.testBit_lt_two_pow (Nat.one_lt_two_pow this)
        | (intro h2; exact this (by simpa using h2))
    · have : q / 2 ^ j % 2 = 0 := by omega
      simp [hij, this]
theorem and_bit (j : Nat) (hj : j ≤ 61) (h0 : 0 ≤ a) (h1 : a ≤ 9223372036854775807) : pbits .i64 (· &&& ·) a ((2 ^ j : Nat) : Int) = .int .i64 (a / 2 ^ j % 2 * 2 ^ j) := by
  obtain ⟨q, rfl⟩ := Int.eq_ofNat_of_zero_le h0
  have hp : 2 ^ j ≤ 2 ^ 61 := Nat.pow_le_pow_right (by omega) hj
  have hp1 : 0 < 2 ^ j := Nat.pow_pos (by omega)
  have e1 : ((BitVec.ofInt 64 (q : Int) &&& BitVec.ofInt 64 ((2 ^ j : Nat) : Int)).toNat : Int) = ((q / 2 ^ j % 2 * 2 ^ j : Nat) : Int) := by
    rw [BitVec.toNat_and, BitVec.ofInt_natCast, BitVec.ofInt_natCast, BitVec.toNat_ofNat, BitVec.toNat_ofNat, Nat.mod_eq_of_lt (by omega : q < 2 ^ 64), Nat.mod_eq_of_lt (by omega : 2 ^ j < 2 ^ 64), nat_and_bit]
  show PV.int .i64 (IntKind.i64.wrap ((BitVec.ofInt 64 (q : Int) &&& BitVec.ofInt 64 ((2 ^ j : Nat) : Int)).toNat : Int)) = _
  have h2 : q / 2 ^ j % 2 * 2 ^ j ≤ 2 ^ 61 := by
    have : q / 2 ^ j % 2 ≤ 1 := by omega
    calc q / 2 ^ j % 2 * 2 ^ j ≤ 1 * 2 ^ j := Nat.mul_le_mul_right _ this
      _ ≤ 2 ^ 61 := by omega
  rw [e1, wrap64 (by omega) (by omega)]
  congr 1
theorem and32 (h0 : 0 ≤ a) (h1 : a ≤ 9223372036854775807) : pbits .i64 (fun x y => x &&& y) a 32 = .int .i64 (a / 32 % 2 * 32) := and_bit 5 (by omega) h0 h1
theorem or_bytes {c : Int} (h0 : 0 ≤ a) (h1 : a < 36028797018963968) (h2 : 0 ≤ c) (h3 : c < 256) : pbits .i64 (fun x y => x ||| y) (256 * a) c = .int .i64 (256 * a + c) := by
  obtain ⟨q, rfl⟩ := Int.eq_ofNat_of_zero_le h0
  obtain ⟨r, rfl⟩ := Int.eq_ofNat_of_zero_le h2
  have e1 : ((BitVec.ofInt 64 ((256 * q : Nat) : Int) ||| BitVec.ofInt 64 (r : Int)).toNat : Int) = ((256 * q + r : Nat) : Int) := by
    rw [BitVec.toNat_or, BitVec.ofInt_natCast, BitVec.ofInt_natCast, BitVec.toNat_ofNat, BitVec.toNat_ofNat, Nat.mod_eq_of_lt (by omega : 256 * q < 2 ^ 64), Nat.mod_eq_of_lt (by omega : r < 2 ^ 64)]
    have := Nat.two_pow_add_eq_or_of_lt (i := 8) (b := r) (by omega) q
    rw [show 256 * q = 2 ^ 8 * q from rfl, ← this]
  show PV.int .i64 (IntKind.i64.wrap ((BitVec.ofInt 64 ((256 : Int) * (q : Int)) ||| BitVec.ofInt 64 (r : Int)).toNat : Int)) = _
  rw [show (256 : Int) * (q : Int) = ((256 * q : Nat) : Int) by omega, e1, wrap64 (by omega) (by omega)]
  congr 1
theorem or_bytes' {c : Int} (h0 : 0 ≤ a) (h1 : a < 36028797018963968) (h2 : 0 ≤ c) (h3 : c < 256) : pbits .i64 (fun x y => x ||| y) (a * 256) c = .int .i64 (a * 256 + c) := by
  rw [Int.mul_comm]; exact or_bytes h0 h1 h2 h3
theorem or_zero {c : Int} (h2 : 0 ≤ c) (h3 : c < 256) : pbits .i64 (fun x y => x ||| y) 0 c = .int .i64 c := by
  have := or_bytes (a := 0) (c := c) (by omega) (by omega) h2 h3
  simpa using this
theorem fdiv_pow {m : Nat} : a.fdiv (2 ^ m) = a / 2 ^ m := Int.fdiv_eq_ediv_of_nonneg _ (Int.le_of_lt (Int.pow_pos (by omega)))
theorem pb_shl64 (hb : 0 ≤ b) (h2 : b ≤ 64) : pbin P .shl t (.int .i64 a) (.int k b) = some (.int .i64 (IntKind.i64.wrap (a * 2 ^ b.toNat))) := by
  rw [pb_shl hb]; have : min b.toNat IntKind.i64.bits = b.toNat := Nat.min_eq_left (by show b.toNat ≤ 64; omega)
  rw [this]
theorem pb_shr64 (hb : 0 ≤ b) (h2 : b ≤ 64) : pbin P .shr t (.int .i64 a) (.int k b) = some (.int .i64 (a / 2 ^ b.toNat)) := by
  rw [pb_shr hb]; have : min b.toNat IntKind.i64.bits = b.toNat := Nat.min_eq_left (by show b.toNat ≤ 64; omega)
  rw [this, fdiv_pow]
theorem pb_shlu64 (hb : 0 ≤ b) (h2 : b ≤ 64) : pbin P .shl t (.int .u64 a) (.int k b) = some (.int .u64 (IntKind.u64.wrap (a * 2 ^ b.toNat))) := by
  rw [pb_shl hb]; have : min b.toNat IntKind.u64.bits = b.toNat := Nat.min_eq_left (by show b.toNat ≤ 64; omega)
  rw [this]
theorem pb_shru64 (hb : 0 ≤ b) (h2 : b ≤ 64) : pbin P .shr t (.int .u64 a) (.int k b) = some (.int .u64 (a / 2 ^ b.toNat)) := by
  rw [pb_shr hb]; have : min b.toNat IntKind.u64.bits = b.toNat := Nat.min_eq_left (by show b.toNat ≤ 64; omega)
  rw [this, fdiv_pow]
theorem pb_shlu32 (hb : 0 ≤ b) (h2 : b ≤ 32) : pbin P .shl t (.int .u32 a) (.int k b) = some (.int .u32 (IntKind.u32.wrap (a * 2 ^ b.toNat))) := by
  rw [pb_shl hb]; have : min b.toNat IntKind.u32.bits = b.toNat := Nat.min_eq_left (by show b.toNat ≤ 32; omega)
  rw [this]
theorem pb_shru32 (hb : 0 ≤ b) (h2 : b ≤ 32) : pbin P .shr t (.int .u32 a) (.int k b) = some (.int .u32 (a / 2 ^ b.toNat)) := by
  rw [pb_shr hb]; have : min b.toNat IntKind.u32.bits = b.toNat := Nat.min_eq_left (by show b.toNat ≤ 32; omega)
  rw [this, fdiv_pow]
theorem pb_shlu8 (hb : 0 ≤ b) (h2 : b ≤ 8) : pbin P .shl t (.int .u8 a) (.int k b) = some (.int .u8 (IntKind.u8.wrap (a * 2 ^ b.toNat))) := by
  rw [pb_shl hb]; have : min b.toNat IntKind.u8.bits = b.toNat := Nat.min_eq_left (by show b.toNat ≤ 8; omega)
  rw [this]
theorem pb_shru8 (hb : 0 ≤ b) (h2 : b ≤ 8) : pbin P .shr t (.int .u8 a) (.int k b) = some (.int .u8 (a / 2 ^ b.toNat)) := by
  rw [pb_shr hb]; have : min b.toNat IntKind.u8.bits = b.toNat := Nat.min_eq_left (by show b.toNat ≤ 8; omega)
  rw [this, fdiv_pow]
theorem tmod_pos (h0 : 0 ≤ a) : a.tmod b = a % b := Int.tmod_eq_emod_of_nonneg h0
theorem tdiv_pos (h0 : 0 ≤ a) : a.tdiv b = a / b := Int.tdiv_eq_ediv_of_nonneg h0
-- strings
theorem pb_sadd {x y : List UInt8} (hl : x.length + y.length ≤ 9223372036854775807) : pbin P .add t (.str x) (.str y) = some (.str (x ++ y)) := by simp [pbin, pstr, hl]
theorem pb_sadd' {x y : List UInt8} : pbin P .add t (.str x) (.str y) = if x.length + y.length ≤ 9223372036854775807 then some (.str (x ++ y)) else none := by simp [pbin, pstr]
theorem pb_seql {x y : List UInt8} : pbin P .eql t (.str x) (.str y) = some (.bool (decide (x = y))) := by
  have : (x == y) = decide (x = y) := by rw [Bool.eq_iff_iff]; simp
  simp [pbin, pstr, this]
theorem pb_sneq {x y : List UInt8} : pbin P .neq t (.str x) (.str y) = some (.bool (decide (x ≠ y))) := by
  have : (!(x == y)) = decide (x ≠ y) := by rw [Bool.eq_iff_iff]; simp
  simp [pbin, pstr, this]
theorem pun_not {q : Bool} : pun .not (.bool q) = some (.bool !q) := rfl

-- boxes, fields
def takeW (cs : List PV) (o : Nat) : Option Bool → Option TypeInfo → Option PV
  | some true, some i => if o + i.size ≤ cs.length then some (.agg ((cs.drop o).take i.size)) else none
  | some false, some _ => cs[o]?
  | _, _ => none
theorem take_var {o : Nat} {cs : List PV} : takeVar P t cs o = takeW cs o (isAggB P t) (P.info? t) := by
  unfold takeVar takeW; split <;> simp_all
theorem takeW_agg {o : Nat} {cs : List PV} {i : TypeInfo} : takeW cs o (some true) (some i) = if o + i.size ≤ cs.length then some (.agg ((cs.drop o).take i.size)) else none := rfl
theorem takeW_one {o : Nat} {cs : List PV} {i : TypeInfo} : takeW cs o (some false) (some i) = cs[o]? := rfl
def fatY (x : PV) (off : Nat) : Option TypeInfo → Option PV
  | some j => if j.size = 0 then none else match x with
    | .ptr b o => some (.ptr b (o + off))
    | .eptr cs o => some (.eptr cs (o + off))
    | _ => none
  | none => none
def fatX (P : Program) (x : PV) : Option Field → Option PV
  | some g => fatY x g.offset (P.info? g.type)
  | none => none
def fatW (P : Program) (x : PV) (f : Nat) : Option TypeDesc → Option PV
  | some (.struct fs) => fatX P x fs[f]?
  | _ => none
theorem pf_at {f : Nat} {x : PV} : pfieldAt P t x f = fatW P x f (P.underlying t) := by
  unfold pfieldAt fatW
  split
  · rename_i fs hf
    rw [hf]
    simp only [fatX]
    cases fs[f]? with
    | none => rfl
    | some g =>
      simp only [Option.bind_some]
      cases P.info? g.type <;> rfl
  · rename_i hne
    split
    · rename_i fs hf; exact (hne _ hf).elim
    · rfl
theorem fatW_some {x : PV} {f : Nat} {fs : Array Field} : fatW P x f (some (.struct fs)) = fatX P x fs[f]? := rfl
theorem fatX_some {x : PV} {g : Field} : fatX P x (some g) = fatY x g.offset (P.info? g.type) := rfl
theorem fatY_ptr {q o off : Nat} {j : TypeInfo} : fatY (.ptr q o) off (some j) = if j.size = 0 then none else some (.ptr q (o + off)) := rfl
theorem fatY_eptr {cs : List PV} {o off : Nat} {j : TypeInfo} : fatY (.eptr cs o) off (some j) = if j.size = 0 then none else some (.eptr cs (o + off)) := rfl
def pfieldW (P : Program) (f : Nat) : Option TypeDesc → PV → Option PV
  | some (.struct fs), .agg cs => (fs[f]?).bind fun g => takeVar P g.type cs g.offset
  | _, _ => none
theorem pf_eq {f : Nat} {x : PV} : pfield P t x f = pfieldW P f (P.underlying t) x := by
  unfold pfield pfieldW
  split <;> simp_all
theorem pfieldW_some {f : Nat} {cs : List PV} {fs : Array Field} : pfieldW P f (some (.struct fs)) (.agg cs) = (fs[f]?).bind fun g => takeVar P g.type cs g.offset := rfl
-- strings: index, slices
def pindexW (P : Program) (i : Int) : Option TypeDesc → PV → Option PV
  | some .string, .str s => if 0 ≤ i then (s[i.toNat]?).map fun b => .int .u8 b.toNat else none
  | some (.array n e), .agg cs => (P.info? e).bind fun j => if 0 ≤ i ∧ i < n then takeVar P e cs (i.toNat * j.size) else none
  | _, _ => none
theorem pi_eq {x : PV} : pindex P t x a = pindexW P a (P.underlying t) x := by
  unfold pindex pindexW; split <;> simp_all
theorem pi_str {s : List UInt8} : pindexW P a (some .string) (.str s) = if 0 ≤ a then (s[a.toNat]?).map fun b => .int .u8 b.toNat else none := rfl
def pindexAtW (P : Program) (i : Int) : Option TypeDesc → PV → Option PV
  | some (.slice e), .sl sz _ _ xs => (P.info? e).bind fun j =>
      if 0 ≤ i ∧ i < xs.length ∧ j.size = sz then (xs[i.toNat]?).map fun v => .eptr v.cells 0 else none
  | some (.slice e), .msl sz _ b o n => (P.info? e).bind fun j =>
      if 0 ≤ i ∧ i < n ∧ j.size = sz then some (.ptr b (o + i.toNat * sz)) else none
  | some (.array n e), .ptr b o => (P.info? e).bind fun j => if 0 ≤ i ∧ i < n then some (.ptr b (o + i.toNat * j.size)) else none
  | some (.array n e), .eptr cs o => (P.info? e).bind fun j => if 0 ≤ i ∧ i < n then some (.eptr cs (o + i.toNat * j.size)) else none
  | _, _ => none
theorem pi_at {x : PV} : pindexAt P t x a = pindexAtW P a (P.underlying t) x := by
  unfold pindexAt pindexAtW; split <;> simp_all
theorem pia_sl {e : TypeId} {sz : Nat} {nl own : Bool} {xs : List PV} : pindexAtW P a (some (.slice e)) (.sl sz nl own xs) = (P.info? e).bind fun j => if 0 ≤ a ∧ a < xs.length ∧ j.size = sz then (xs[a.toNat]?).map fun v => .eptr v.cells 0 else none := rfl
theorem pia_msl {e : TypeId} {sz : Nat} {fl : Bool} {b o n : Nat} : pindexAtW P a (some (.slice e)) (.msl sz fl b o n) = (P.info? e).bind fun j => if 0 ≤ a ∧ a < n ∧ j.size = sz then some (.ptr b (o + a.toNat * sz)) else none := rfl
theorem pia_ptr {e : TypeId} {n b o : Nat} : pindexAtW P a (some (.array n e)) (.ptr b o) = (P.info? e).bind fun j => if 0 ≤ a ∧ a < n then some (.ptr b (o + a.toNat * j.size)) else none := rfl
def psliceW (P : Program) (l h : Option PV) : Option TypeDesc → PV → Option PV
  | some .string, .str s => (sliceB h s.length s.length).bind fun y => (sliceB l 0 y).map fun x => .str ((s.take y).drop x)
  | some (.slice e), .sl sz nl _ xs => (P.info? e).bind fun j =>
      if j.size = sz ∨ xs = [] then (sliceB h xs.length xs.length).bind fun y => (sliceB l 0 y).map fun x => .sl sz nl false ((xs.take y).drop x) else none
  | some (.slice e), .msl sz fl b o n => (P.info? e).bind fun j =>
      if j.size = sz then (sliceB h n n).bind fun y => (sliceB l 0 y).bind fun x => if x < n ∨ x = 0 then some (.msl sz (fl && decide (y = n)) b (o + x * sz) (y - x)) else none else none
  | _, _ => none
theorem ps_eq {x : PV} {l h : Option PV} : pslice P t x l h = psliceW P l h (P.underlying t) x := by
  unfold pslice psliceW elemOf
  cases x <;> cases P.underlying t with
  | none => rfl
  | some u => cases u <;> rfl
theorem ps_str {s : List UInt8} {l h : Option PV} : psliceW P l h (some .string) (.str s) = (sliceB h s.length s.length).bind fun y => (sliceB l 0 y).map fun x => .str ((s.take y).drop x) := rfl
theorem ps_sl {e : TypeId} {sz : Nat} {nl own : Bool} {xs : List PV} {l h : Option PV} : psliceW P l h (some (.slice e)) (.sl sz nl own xs) = (P.info? e).bind fun j => if j.size = sz ∨ xs = [] then (sliceB h xs.length xs.length).bind fun y => (sliceB l 0 y).map fun x => .sl sz nl false ((xs.take y).drop x) else none := rfl
theorem sb_none {dflt hi : Nat} : sliceB none dflt hi = some dflt := rfl
theorem sb_int {dflt hi : Nat} (h0 : 0 ≤ a) (h1 : a ≤ hi) : sliceB (some (.int k a)) dflt hi = some a.toNat := by simp [sliceB, h0, h1]
/-- The places of a struct's fields. -/
def placesOf (P : Program) (t : TypeId) : Option (List (Nat × Nat)) :=
  match P.underlying t with
  | some (.struct fs) => fs.toList.mapM fun f => (P.info? f.type).map fun i => (f.offset, i.size)
  | _ => none
def fillP (next : List PV → Option (List PV)) (v : PV) (cells : List PV) : Option (Nat × Nat) → Option (List PV)
  | some (off, size) => if v.cells.length = size ∧ off + size ≤ cells.length ∧ v.cells.all store1 then next (setCells cells off v.cells) else none
  | none => none
def fillL (places : List (Nat × Nat)) (cells : List PV) : List (Nat × PV) → Option (List PV)
  | [] => some cells
  | (i, v) :: rest => fillP (fun c => fillL places c rest) v cells places[i]?
def fillN (places : List (Nat × Nat)) (rest : List (Nat × PV)) (cells : List PV) : Option (List PV) := fillL places cells rest
theorem fillCells_eq (places : List (Nat × Nat)) : ∀ (parts : List (Nat × PV)) (cells : List PV), fillCells (places[·]?) cells parts = fillL places cells parts
  | [], _ => rfl
  | (i, v) :: rest, cells => by
    simp only [fillCells, fillL]
    cases places[i]? with
    | none => rfl
    | some p =>
      obtain ⟨off, size⟩ := p
      simp only [fillP]
      split
      · exact fillCells_eq places rest _
      · rfl
theorem fillL_nil {places : List (Nat × Nat)} {cells : List PV} : fillL places cells [] = some cells := rfl
theorem fillL_cons {places : List (Nat × Nat)} {cells : List PV} {i : Nat} {rest : List (Nat × PV)} : fillL places cells ((i, v) :: rest) = fillP (fillN places rest) v cells places[i]? := rfl
theorem fillP_some {next : List PV → Option (List PV)} {cells : List PV} {off size : Nat} : fillP next v cells (some (off, size)) = if v.cells.length = size ∧ off + size ≤ cells.length ∧ v.cells.all store1 then next (setCells cells off v.cells) else none := rfl
theorem fillN_eq {places : List (Nat × Nat)} {cells : List PV} {rest : List (Nat × PV)} : fillN places rest cells = fillL places cells rest := rfl
def aggOf : Option (List PV) → Option PV
  | some cs => some (.agg cs)
  | none => none
def pbP (parts : List (Nat × PV)) : Option (List PV) → Option (List (Nat × Nat)) → Option PV
  | some z, some places => aggOf (fillL places z parts)
  | _, _ => none
def pbQ (P : Program) (t : TypeId) (parts : List (Nat × PV)) : Option TypeDesc → Option PV
  | some (.struct _) => pbP parts (zeroCellsOf P t) (placesOf P t)
  | some (.array _ e) => (zeroCellsOf P t).bind fun z => (P.info? e).bind fun j => (fillCells (fun i => some (i * j.size, j.size)) z parts).map .agg
  | _ => none
theorem pbuild_eq {parts : List (Nat × PV)} : pbuild P t parts = pbQ P t parts (P.underlying t) := by
  unfold pbuild pbQ placesOf
  cases zeroCellsOf P t with
  | none => cases P.underlying t with
    | none => rfl
    | some u => cases u <;> rfl
  | some z =>
    simp only [Option.bind_some]
    cases hu : P.underlying t with
    | none => rfl
    | some u =>
      cases u <;> try rfl
      rename_i fs
      simp only
      cases fs.toList.mapM fun f => (P.info? f.type).map fun i => (f.offset, i.size) with
      | none => rfl
      | some places =>
        simp only [Option.bind_some, pbP, fillCells_eq]
        cases fillL places z parts <;> rfl
theorem pbQ_struct {parts : List (Nat × PV)} {fs : Array Field} : pbQ P t parts (some (.struct fs)) = pbP parts (zeroCellsOf P t) (placesOf P t) := rfl
theorem pbP_some {parts : List (Nat × PV)} {z : List PV} {places : List (Nat × Nat)} : pbP parts (some z) (some places) = aggOf (fillL places z parts) := rfl
theorem aggOf_some {cs : List PV} : aggOf (some cs) = some (.agg cs) := rfl
-- a slice that is built of its elements
def fillS (sz : Nat) (cells : List PV) : List (Nat × PV) → Option (List PV)
  | [] => some cells
  | (i, v) :: rest => if v.cells.length = sz ∧ i * sz + sz ≤ cells.length ∧ v.cells.all store1 then fillS sz (setCells cells (i * sz) v.cells) rest else none
def fillT (sz : Nat) (rest : List (Nat × PV)) (cells : List PV) : Option (List PV) := fillS sz cells rest
theorem fillS_eq (sz : Nat) : ∀ (parts : List (Nat × PV)) (cells : List PV), fillCells (fun i => some (i * sz, sz)) cells parts = fillS sz cells parts
  | [], _ => rfl
  | (i, v) :: rest, cells => by
    simp only [fillCells, fillS]
    split
    · exact fillS_eq sz rest _
    · rfl
theorem fillS_nil {sz : Nat} {cells : List PV} : fillS sz cells [] = some cells := rfl
theorem fillS_cons {sz i : Nat} {cells : List PV} {rest : List (Nat × PV)} : fillS sz cells ((i, v) :: rest) = if v.cells.length = sz ∧ i * sz + sz ≤ cells.length ∧ v.cells.all store1 then fillT sz rest (setCells cells (i * sz) v.cells) else none := rfl
theorem fillT_eq {sz : Nat} {cells : List PV} {rest : List (Nat × PV)} : fillT sz rest cells = fillS sz cells rest := rfl
def demP : List (Nat × PV) → List (Nat × PV)
  | [] => []
  | (i, v) :: r => (i, v.dem) :: demP r
theorem demP_eq : ∀ l : List (Nat × PV), l.map (fun p => (p.1, p.2.dem)) = demP l
  | [] => rfl
  | (i, v) :: r => by simp only [List.map_cons, demP, demP_eq r]
theorem demP_nil : demP [] = [] := rfl
theorem demP_cons {i : Nat} {r : List (Nat × PV)} : demP ((i, v) :: r) = (i, v.dem) :: demP r := rfl
def bsF (ag : Bool) (sz len : Nat) : Option (List PV) → Option PV
  | some cs => if cs.all (fun c => plain1 (dem1 c)) then some (.sl sz false true (chunks ag sz len (cs.map dem1))) else none
  | none => none
def bsV (len : Nat) (parts : List (Nat × PV)) : Option TypeInfo → Option Bool → Option (List PV) → Option PV
  | some j, some ag, some z => if j.size = 0 ∨ (ag = false ∧ j.size ≠ 1) ∨ len * j.size > 2 ^ 24 ∨ len > maxLen ∨ z.length ≠ j.size then none else
    bsF ag j.size len (fillS j.size (List.replicate len z).flatten (demP parts))
  | _, _, _ => none
def bsW (P : Program) (len : Nat) (parts : List (Nat × PV)) : Option TypeDesc → Option PV
  | some (.slice e) => bsV len parts (P.info? e) (isAggB P e) (zeroCellsOf P e)
  | _ => none
theorem pbs_eq {len : Nat} {parts : List (Nat × PV)} : pbuildSlice P t len parts = bsW P len parts (P.underlying t) := by
  unfold pbuildSlice bsW elemOf
  cases P.underlying t with
  | none => rfl
  | some u =>
    cases u <;> try rfl
    rename_i e
    simp only [Option.bind_some]
    cases P.info? e with
    | none => rfl
    | some j =>
      simp only [Option.bind_some]
      cases isAggB P e with
      | none => rfl
      | some ag =>
        simp only [Option.bind_some]
        cases zeroCellsOf P e with
        | none => rfl
        | some z =>
          simp only [Option.bind_some, bsV, demP_eq, fillS_eq]
          split
          · rfl
          · cases fillS j.size (List.replicate len z).flatten (demP parts) <;> rfl
theorem bsW_some {len : Nat} {parts : List (Nat × PV)} {e : TypeId} : bsW P len parts (some (.slice e)) = bsV len parts (P.info? e) (isAggB P e) (zeroCellsOf P e) := rfl
theorem bsV_some {len : Nat} {parts : List (Nat × PV)} {j : TypeInfo} {ag : Bool} {z : List PV} : bsV len parts (some j) (some ag) (some z) = if j.size = 0 ∨ (ag = false ∧ j.size ≠ 1) ∨ len * j.size > 16777216 ∨ len > maxLen ∨ z.length ≠ j.size then none else
    bsF ag j.size len (fillS j.size (List.replicate len z).flatten (demP parts)) := rfl
theorem bsF_some {ag : Bool} {sz len : Nat} {cs : List PV} : bsF ag sz len (some cs) = if cs.all (fun c => plain1 (dem1 c)) then some (.sl sz false true (chunks ag sz len (cs.map dem1))) else none := rfl
theorem chunks_zero {ag : Bool} {sz : Nat} {cs : List PV} : chunks ag sz 0 cs = [] := rfl
theorem chunks_succ {sz n : Nat} {cs : List PV} {x : PV} : chunks false sz (n + 1) (x :: cs) = x :: chunks false sz n ((x :: cs).drop sz) := rfl
theorem chunks_agg {sz n : Nat} {cs : List PV} : chunks true sz (n + 1) cs = .agg (cs.take sz) :: chunks true sz n (cs.drop sz) := rfl
def lenW : Option TypeDesc → PV → Option PV
  | some .string, .str s => some (.int .i64 s.length)
  | some (.slice _), .sl _ _ _ xs => some (.int .i64 xs.length)
  | some (.slice _), .msl _ _ _ _ n => some (.int .i64 n)
  | _, _ => none
theorem pl_eq {x : TypeId} : pbuiltin P .len #[x] st [v] = lenW (P.underlying x) v := by
  simp only [pbuiltin, lenW]; split <;> simp_all
theorem lenW_str {s : List UInt8} : lenW (some .string) (.str s) = some (.int .i64 s.length) := rfl
theorem lenW_sl {y : TypeId} {z : Nat} {nl own : Bool} {xs : List PV} : lenW (some (.slice y)) (.sl z nl own xs) = some (.int .i64 xs.length) := rfl
theorem lenW_msl {y : TypeId} {z o b n : Nat} {fl : Bool} : lenW (some (.slice y)) (.msl z fl b o n) = some (.int .i64 n) := rfl
def appU (P : Program) (t : TypeId) (st : St) (x y : PV) : Option TypeDesc → Option PV
  | some (.int _) => none
  | some _ => pappend P t st x y
  | none => none
theorem pa_eq {x y : PV} {q u : TypeId} : pbuiltin P .append #[q, u] st [x, y] = appU P q st x y (P.underlying u) := by
  simp only [pbuiltin, appU]
  cases P.underlying u with
  | none => rfl
  | some w => cases w <;> rfl
theorem appU_slice {x y : PV} {u : TypeId} : appU P t st x y (some (.slice u)) = pappend P t st x y := rfl
theorem appU_string {x y : PV} : appU P t st x y (some .string) = pappend P t st x y := rfl
def apS (P : Program) (e : TypeId) (x : PV) : Option TypeInfo → Option (List PV) → Option (List PV) → Option PV
  | some j, some ys, some z => (match x with
    | .sl sz nl own xs => if z.length = j.size ∧ own = true ∧ (sz = j.size ∨ (xs = [] ∧ nl = true)) ∧ j.size ≠ 0 ∧ xs.length + ys.length ≤ maxLen ∧ (xs.length + ys.length) * j.bytes ≤ 140737488355328
      then some (.sl j.size (nl && ys.isEmpty) true (xs ++ ys)) else none
    | _ => none)
  | _, _, _ => none
def apW (P : Program) (st : St) (x y : PV) : Option TypeDesc → Option PV
  | some (.slice e) => apS P e x (P.info? e) ((P.info? e).bind fun j => pelems st j.size y) (zeroCellsOf P e)
  | _ => none
theorem pap_eq {x y : PV} : pappend P t st x y = apW P st x y (P.underlying t) := by
  unfold pappend apW elemOf
  cases P.underlying t with
  | none => rfl
  | some u =>
    cases u <;> try rfl
    rename_i e
    simp only [Option.bind_some]
    cases P.info? e with
    | none => rfl
    | some j =>
      simp only [Option.bind_some]
      cases hy : pelems st j.size y with
      | none => cases x <;> simp [apS]
      | some ys =>
        cases hz : zeroCellsOf P e with
        | none => cases x <;> simp [apS, hz]
        | some z => cases x <;> simp [apS, hz]
theorem apW_some {x y : PV} {e : TypeId} : apW P st x y (some (.slice e)) = apS P e x (P.info? e) ((P.info? e).bind fun j => pelems st j.size y) (zeroCellsOf P e) := rfl
theorem apS_some {e : TypeId} {j : TypeInfo} {ys z xs : List PV} {sz : Nat} {nl own : Bool} : apS P e (.sl sz nl own xs) (some j) (some ys) (some z) =
    if z.length = j.size ∧ own = true ∧ (sz = j.size ∨ (xs = [] ∧ nl = true)) ∧ j.size ≠ 0 ∧ xs.length + ys.length ≤ maxLen ∧ (xs.length + ys.length) * j.bytes ≤ 140737488355328
      then some (.sl j.size (nl && ys.isEmpty) true (xs ++ ys)) else none := rfl
theorem pe_sl {sz z : Nat} {nl own : Bool} {ys : List PV} : pelems st sz (.sl z nl own ys) = if z = sz ∨ ys = [] then some ys else none := rfl
theorem pe_str {s : List UInt8} {sz : Nat} : pelems st sz (.str s) = if sz = 1 then some (ofBytes s) else none := rfl
def pconvW (P : Program) (s : TypeId) (st : St) (x : PV) : Option TypeDesc → Option (PV × St)
  | some (.int k) => (match x with | .int _ n => some (.int k (k.wrap n), st) | _ => none)
  | some .string => (match x with
    | .str s => some (.str s, st)
    | _ => none)
  | some (.slice e) => (match x, P.underlying e with
    | .str s, some (.int .u8) => if s.length ≤ maxLen then some (.sl 1 false false (ofBytes s), st) else none
    | _, _ => none)
  | _ => none
theorem cv_int {s x : TypeId} : convV P s x st (some (.int k a)) = pconvW P s st (.int k a) (P.underlying x) := by
  simp only [convV, pconvert, pconvW, mapV]
  cases P.underlying x with
  | none => rfl
  | some u =>
    cases u <;> try rfl
theorem cv_str {s x : TypeId} {q : List UInt8} : convV P s x st (some (.str q)) = pconvW P s st (.str q) (P.underlying x) := by
  simp only [convV, pconvert, pconvW, mapV]
  cases P.underlying x with
  | none => rfl
  | some u =>
    cases u <;> try rfl
    rename_i e
    simp only
    cases P.underlying e with
    | none => rfl
    | some u =>
      cases u <;> try rfl
      rename_i k
      cases k <;> try rfl
      by_cases hq : q.length ≤ maxLen <;> simp [hq]
theorem pcw_int {s : TypeId} {j : IntKind} : pconvW P s st (.int k a) (some (.int j)) = some (.int j (j.wrap a), st) := rfl
theorem pcw_str {s : TypeId} {q : List UInt8} : pconvW P s st (.str q) (some .string) = some (.str q, st) := rfl
def pcwB (st : St) (q : List UInt8) : Option TypeDesc → Option (PV × St)
  | some (.int .u8) => if q.length ≤ maxLen then some (.sl 1 false false (ofBytes q), st) else none
  | _ => none
theorem pcw_bytes {s e : TypeId} {q : List UInt8} : pconvW P s st (.str q) (some (.slice e)) = pcwB st q (P.underlying e) := by
  simp only [pconvW, pcwB]
  cases P.underlying e with
  | none => rfl
  | some w => cases w <;> try rfl
              rename_i k; cases k <;> rfl
theorem pcwB_u8 {q : List UInt8} : pcwB st q (some (.int .u8)) = if q.length ≤ maxLen then some (.sl 1 false false (ofBytes q), st) else none := rfl
def cvS (P : Program) (s : TypeId) (st : St) (sz : Nat) (xs : List PV) : Option TypeDesc → Option TypeDesc → Option (PV × St)
  | some .string, some (.slice e) => (match P.underlying e with
    | some (.int .u8) => mapV st (if sz = 1 ∨ xs = [] then (bytesOf xs).map .str else none)
    | _ => none)
  | _, _ => none
theorem cv_sl {s x : TypeId} {sz : Nat} {nl own : Bool} {xs : List PV} : convV P s x st (some (.sl sz nl own xs)) = cvS P s st sz xs (P.underlying x) (P.underlying s) := by
  simp only [convV, pconvert, cvS]
  cases P.underlying x with
  | none => rfl
  | some u =>
    cases u <;> try rfl
    simp only
    cases P.underlying s with
    | none => rfl
    | some u =>
      cases u <;> try rfl
      rename_i e
      simp only
      cases P.underlying e with
      | none => rfl
      | some u =>
        cases u <;> try rfl
        rename_i k
        cases k <;> rfl
def cvT (st : St) (sz : Nat) (xs : List PV) : Option TypeDesc → Option (PV × St)
  | some (.int .u8) => mapV st (if sz = 1 ∨ xs = [] then (bytesOf xs).map .str else none)
  | _ => none
theorem cvS_some {s e : TypeId} {sz : Nat} {xs : List PV} : cvS P s st sz xs (some .string) (some (.slice e)) = cvT st sz xs (P.underlying e) := rfl
theorem cvT_u8 {sz : Nat} {xs : List PV} : cvT st sz xs (some (.int .u8)) = mapV st (if sz = 1 ∨ xs = [] then (bytesOf xs).map .str else none) := rfl
theorem bytesOf_cons {n : Int} {xs : List PV} : bytesOf (.int .u8 n :: xs) = (bytesOf xs).map (UInt8.ofNat n.toNat :: ·) := rfl
theorem length_ofBytes {q : List UInt8} : (ofBytes q).length = q.length := by simp [ofBytes]
theorem ofBytes_nil : ofBytes [] = [] := rfl
theorem ofBytes_cons {x : UInt8} {q : List UInt8} : ofBytes (x :: q) = .int .u8 x.toNat :: ofBytes q := rfl
theorem hd_bool {q : Bool} : hd (.bool q) = .other := rfl
theorem hd_int : hd (.int k a) = .other := rfl
theorem hd_str {q : List UInt8} : hd (.str q) = .other := rfl
theorem hd_nilp : hd .nilp = .other := rfl
theorem hd_ptr {q o : Nat} : hd (.ptr q o) = .ptr q := rfl
theorem hd_eptr {cs : List PV} {o : Nat} : hd (.eptr cs o) = .eptr := rfl
theorem hd_sl {z : Nat} {nl own : Bool} {xs : List PV} : hd (.sl z nl own xs) = .other := rfl
theorem hd_msl {z : Nat} {f : Bool} {q o m : Nat} : hd (.msl z f q o m) = .msl := rfl
theorem hd_agg {cs : List PV} : hd (.agg cs) = .other := rfl
theorem hd_tup {cs : List PV} : hd (.tup cs) = .other := rfl
theorem hd_fn {f : FuncId} : hd (.fn f) = .other := rfl
theorem hd_con {i : Nat} : hd (.con i) = .other := rfl
theorem hd_undef : hd .undef = .other := rfl
theorem scrub_bool {m : Nat} {l : List Nat} {q : Bool} : PV.scrub m l (.bool q) = .bool q := rfl
theorem scrub_int {m : Nat} {l : List Nat} : PV.scrub m l (.int k a) = .int k a := rfl
theorem scrub_str {m : Nat} {l : List Nat} {q : List UInt8} : PV.scrub m l (.str q) = .str q := rfl
theorem scrub_nilp {m : Nat} {l : List Nat} : PV.scrub m l .nilp = .nilp := rfl
theorem scrub_sl {m : Nat} {l : List Nat} {z : Nat} {nl own : Bool} {xs : List PV} : PV.scrub m l (.sl z nl own xs) = .sl z nl own xs := rfl
theorem scrub_eptr {m : Nat} {l : List Nat} {cs : List PV} {o : Nat} : PV.scrub m l (.eptr cs o) = .eptr cs o := rfl
theorem scrub_undef {m : Nat} {l : List Nat} : PV.scrub m l .undef = .undef := rfl
theorem scrub_con {m : Nat} {l : List Nat} {i : Nat} : PV.scrub m l (.con i) = .con i := rfl
theorem scrub_ptr {m : Nat} {l : List Nat} {q o : Nat} : PV.scrub m l (.ptr q o) = (match scrubId m l q with | some b => .ptr b o | none => .undef) := rfl
theorem scrub_agg {m : Nat} {l : List Nat} {cs : List PV} : PV.scrub m l (.agg cs) = if cs.all flat1 then .agg cs else .undef := rfl
theorem bytesOf_nil : bytesOf [] = some [] := rfl
end
end Go.Sim
/- Walking through code: a call from its beginning to its end. -/
namespace Go.Sim
open PV

/-- What goes out, by the list of results. -/
def pfin (P : Program) (rs : List ResultVar) (k : Nat) (e : Env) (st : St) : Option (PV × List (List PV)) :=
  (presults P e st rs).bind fun (vs, st) =>
  let l := newBoxes k vs []
  let out := st.take k ++ l.map (st.getD · [])
  if vs.all outFlat && out.all (fun cs => cs.all flat1)
  then some (match vs with | [v] => outOne k l v | vs => .tup (vs.map (outOne k l)), out) else none
def finR (P : Program) (rs : List ResultVar) (k : Nat) : Option (PExit × Env × St) → Option (PV × List (List PV))
  | some (.normal, e, st) => pfin P rs k e st
  | some (.ret, e, st) => pfin P rs k e st
  | _ => none
/-- The results and the boxes that go out. -/
def outs (k : Nat) : Option (List PV × St) → Option (PV × List (List PV))
  | some ([v], st) => if outFlat v && (st.take k ++ (newBoxes k [v] []).map (st.getD · [])).all (fun cs => cs.all flat1) then some (outOne k (newBoxes k [v] []) v, st.take k ++ (newBoxes k [v] []).map (st.getD · [])) else none
  | some (vs, st) => if vs.all outFlat && (st.take k ++ (newBoxes k vs []).map (st.getD · [])).all (fun cs => cs.all flat1) then some (.tup (vs.map (outOne k (newBoxes k vs []))), st.take k ++ (newBoxes k vs []).map (st.getD · [])) else none
  | none => none
def resK (v : Option PV) (r : Option (List PV × St)) : Option (List PV × St) :=
  match v, r with
  | some v, some (vs, st) => some (v :: vs, st)
  | _, _ => none

section
variable {P : Program} {X : FuncId → Option (List PV → Option PV)} {H : FuncId → Hint} {n : Nat} {f : FuncId} {args : List PV} {bx : List (List PV)} {e : Env} {st : St} {rs : List ResultVar} {k : Nat} {v : PV}

theorem pcall_body {fn : Func} {c : Code} {m : Nat} (hX : X f = none) (hf : P.funcs[f]? = some fn) (hb : fn.body = some c) (hn : fn.ntmps = m) (hr : fn.results.toList = rs) :
    pcall P X H (n + 1) f args bx = finR P rs bx.length (goes P (pcall P X H n) (H f) n c .done (args ++ List.replicate (m - args.length) .undef) bx) := by
  simp only [pcall, hX, pbody, hf, Option.bind_some, hb, hn, pcode_goes]
  cases goes P (pcall P X H n) (H f) n c .done (args ++ List.replicate (m - args.length) .undef) bx with
  | none => rfl
  | some r =>
    obtain ⟨x, e, st⟩ := r
    subst hr; cases x <;> rfl
theorem finR_ret : finR P rs k (some (.ret, e, st)) = outs k (presults P e st rs) := by
  simp only [finR, pfin]
  cases presults P e st rs with
  | none => rfl
  | some r =>
    obtain ⟨vs, s⟩ := r
    match vs with
    | [] => simp only [Option.bind_some, outs]
    | [v] => simp only [Option.bind_some, outs, List.all_cons, List.all_nil, Bool.and_true]
    | _ :: _ :: _ => simp only [Option.bind_some, outs]
theorem finR_normal : finR P rs k (some (.normal, e, st)) = outs k (presults P e st rs) := finR_ret
theorem pres_nil : presults P e st [] = some ([], st) := rfl
theorem pres_tmp {t : Tmp} {r : List ResultVar} (ht : e[t]? = some v) : presults P e st (.tmp t :: r) = resK (some v) (presults P (demT t e) st r) := by
  have : demT t e = e.set t v.dem := by rw [demT_eq, ht]
  simp only [presults, ht, Option.bind_some, resK, this]
  cases presults P (e.set t v.dem) st r <;> rfl
theorem pres_cell {t : Tmp} {ty : TypeId} {q o : Nat} {cs : List PV} {r : List ResultVar} (ht : e[t]? = some (.ptr q o)) (hs : st[q]? = some cs) (hv : takeVar P ty cs o = some v) :
    presults P e st (.cell t ty :: r) = resK (some v) (presults P e (st.set q (demCells cs o v.cells.length)) r) := by
  simp only [presults, ht, hs, Option.bind_some, hv, resK]
  cases presults P e (st.set q (demCells cs o v.cells.length)) r <;> rfl
def presT (P : Program) (t : Tmp) (e : Env) (st : St) (r : List ResultVar) : Option PV → Option (List PV × St)
  | some v => resK (some v) (presults P (demT t e) st r)
  | none => none
theorem pres_t {t : Tmp} {r : List ResultVar} : presults P e st (.tmp t :: r) = presT P t e st r e[t]? := by
  cases ht : e[t]? with
  | none => simp only [presults, ht]; rfl
  | some v => exact pres_tmp ht
theorem presT_some {t : Tmp} {r : List ResultVar} : presT P t e st r (some v) = resK (some v) (presults P (demT t e) st r) := rfl
def presE (P : Program) (e : Env) (st : St) (r : List ResultVar) (q o : Nat) (cs : List PV) : Option PV → Option (List PV × St)
  | some v => resK (some v) (presults P e (st.set q (demCells cs o v.cells.length)) r)
  | none => none
def presD (P : Program) (ty : TypeId) (e : Env) (st : St) (r : List ResultVar) (q o : Nat) : Option (List PV) → Option (List PV × St)
  | some cs => presE P e st r q o cs (takeVar P ty cs o)
  | none => none
def presC (P : Program) (ty : TypeId) (e : Env) (st : St) (r : List ResultVar) : Option PV → Option (List PV × St)
  | some (.ptr q o) => presD P ty e st r q o st[q]?
  | _ => none
theorem pres_c {t : Tmp} {ty : TypeId} {r : List ResultVar} : presults P e st (.cell t ty :: r) = presC P ty e st r e[t]? := by
  cases ht : e[t]? with
  | none => simp only [presults, ht]; rfl
  | some v =>
    cases v <;> try (simp only [presults, ht, presC]; done)
    rename_i q o
    simp only [presC]
    cases hs : st[q]? with
    | none => simp only [presults, ht, hs]; rfl
    | some cs =>
      simp only [presD]
      cases hv : takeVar P ty cs o with
      | none => simp only [presults, ht, hs, Option.bind_some, hv]; rfl
      | some v => exact pres_cell ht hs hv
theorem presC_ptr {ty : TypeId} {r : List ResultVar} {q o : Nat} : presC P ty e st r (some (.ptr q o)) = presD P ty e st r q o st[q]? := rfl
theorem presD_some {ty : TypeId} {r : List ResultVar} {q o : Nat} {cs : List PV} : presD P ty e st r q o (some cs) = presE P e st r q o cs (takeVar P ty cs o) := rfl
theorem presE_some {r : List ResultVar} {q o : Nat} {cs : List PV} : presE P e st r q o cs (some v) = resK (some v) (presults P e (st.set q (demCells cs o v.cells.length)) r) := rfl
theorem outs_one : outs k (some ([v], st)) = if outFlat v && (st.take k ++ (newBoxes k [v] []).map (st.getD · [])).all (fun cs => cs.all flat1) then some (outOne k (newBoxes k [v] []) v, st.take k ++ (newBoxes k [v] []).map (st.getD · [])) else none := rfl
theorem outs_nil : outs k (some ([], st)) = if (st.take k ++ (newBoxes k [] []).map (st.getD · [])).all (fun cs => cs.all flat1) then some (.tup [], st.take k ++ (newBoxes k [] []).map (st.getD · [])) else none := rfl
theorem outs_two {w : PV} {vs : List PV} : outs k (some (v :: w :: vs, st)) = if (v :: w :: vs).all outFlat && (st.take k ++ (newBoxes k (v :: w :: vs) []).map (st.getD · [])).all (fun cs => cs.all flat1) then some (.tup ((v :: w :: vs).map (outOne k (newBoxes k (v :: w :: vs) []))), st.take k ++ (newBoxes k (v :: w :: vs) []).map (st.getD · [])) else none := rfl
theorem resK_some {vs : List PV} : resK (some v) (some (vs, st)) = some (v :: vs, st) := rfl

-- calls
def callB (fr : Bool) (ls : List Lent) (st : St) : Option (PV × List (List PV)) → Option (PV × St)
  | some (v, bx) => if fr || (decide (bx.length = ls.length) && noNew ls.length v) then some (back ls st.length ls.length v, giveBack st ls bx ++ bx.drop ls.length) else none
  | none => none
def callR (C : Oracle) (fr : Bool) (f : FuncId) (st : St) : Option (List PV × List Lent) → Option (PV × St)
  | some (as, ls) => callB fr ls st (C f as (ls.map (lentCells st)))
  | none => none
theorem pcallOp_eq {C : Oracle} {fr : Bool} {ts : List TypeId} : pcallOp P C fr f ts args st = callR C fr f st (passAll P st ts args []) := by
  unfold pcallOp
  cases passAll P st ts args [] with
  | none => rfl
  | some r =>
    obtain ⟨as, ls⟩ := r
    simp only [Option.bind_some, callR]
    cases C f as (ls.map (lentCells st)) with
    | none => rfl
    | some q => rfl
theorem callR_some {C : Oracle} {fr : Bool} {as : List PV} {ls : List Lent} : callR C fr f st (some (as, ls)) = callB fr ls st (C f as (ls.map (lentCells st))) := rfl
theorem callB_true {ls : List Lent} : callB true ls st (some (v, bx)) = some (back ls st.length ls.length v, giveBack st ls bx ++ bx.drop ls.length) := rfl
theorem callB_false {ls : List Lent} : callB false ls st (some (v, bx)) = if (decide (bx.length = ls.length) && noNew ls.length v) then some (back ls st.length ls.length v, giveBack st ls bx ++ bx.drop ls.length) else none := rfl
def passP (v : PV) : Option (List PV × List Lent) → Option (List PV × List Lent)
  | some (r, l) => some (v :: r, l)
  | none => none
def passR (P : Program) (st : St) (ts : List TypeId) (vs : List PV) : Option (PV × List Lent) → Option (List PV × List Lent)
  | some (v, ls) => passP v (passAll P st ts vs ls)
  | none => none
theorem pass_nil {ls : List Lent} : passAll P st [] [] ls = some ([], ls) := rfl
theorem pass_cons {t : TypeId} {ts : List TypeId} {vs : List PV} {ls : List Lent} : passAll P st (t :: ts) (v :: vs) ls = passR P st ts vs (passOne P st t v ls) := by
  simp only [passAll]
  cases passOne P st t v ls with
  | none => rfl
  | some r =>
    obtain ⟨v', ls'⟩ := r
    simp only [Option.bind_some, passR]
    cases passAll P st ts vs ls' <;> rfl
theorem passR_some {ts : List TypeId} {vs : List PV} {ls : List Lent} : passR P st ts vs (some (v, ls)) = passP v (passAll P st ts vs ls) := rfl
theorem passP_some {r : List PV} {l : List Lent} : passP v (some (r, l)) = some (v :: r, l) := rfl
section
variable {t : TypeId} {ls : List Lent}
theorem pass_bool {q : Bool} : passOne P st t (.bool q) ls = some (.bool q, ls) := rfl
theorem pass_int {j : IntKind} {a : Int} : passOne P st t (.int j a) ls = some (.int j a, ls) := rfl
theorem pass_str {q : List UInt8} : passOne P st t (.str q) ls = some (.str q, ls) := rfl
theorem pass_nilp : passOne P st t .nilp ls = some (.nilp, ls) := rfl
theorem pass_sl {z : Nat} {nl own : Bool} {xs : List PV} : passOne P st t (.sl z nl own xs) ls = some (.sl z nl own xs, ls) := rfl
theorem pass_eptr {cs : List PV} {o : Nat} : passOne P st t (.eptr cs o) ls = some (.eptr cs o, ls) := rfl
theorem pass_fn {q : FuncId} : passOne P st t (.fn q) ls = some (.fn q, ls) := rfl
theorem pass_agg {cs : List PV} : passOne P st t (.agg cs) ls = if cs.all flat1 then some (.agg cs, ls) else none := rfl
def ptrX (b o : Nat) (ls : List Lent) : Option TypeInfo → Option (List PV) → Option (PV × List Lent)
  | some j, some cs => if o + j.size ≤ cs.length ∧ j.size ≠ 0 ∧ ls.all (fun l => l.1 != b) ∧ ((cs.drop o).take j.size).all flat1 then some (.ptr ls.length 0, ls ++ [(b, o, j.size)]) else none
  | _, _ => none
def ptrW (P : Program) (st : St) (b o : Nat) (ls : List Lent) : Option TypeDesc → Option (PV × List Lent)
  | some (.pointer e) => ptrX b o ls (P.info? e) st[b]?
  | _ => none
theorem pass_ptr {b o : Nat} : passOne P st t (.ptr b o) ls = ptrW P st b o ls (P.underlying t) := by
  simp only [passOne, ptrW]
  cases P.underlying t with
  | none => rfl
  | some u =>
    cases u <;> try rfl
    rename_i e
    simp only
    cases P.info? e with
    | none => rfl
    | some j =>
      simp only [Option.bind_some]
      cases st[b]? <;> rfl
theorem ptrW_some {b o : Nat} {e : TypeId} : ptrW P st b o ls (some (.pointer e)) = ptrX b o ls (P.info? e) st[b]? := rfl
theorem ptrX_some {b o : Nat} {j : TypeInfo} {cs : List PV} : ptrX b o ls (some j) (some cs) = if o + j.size ≤ cs.length ∧ j.size ≠ 0 ∧ ls.all (fun l => l.1 != b) ∧ ((cs.drop o).take j.size).all flat1 then some (.ptr ls.length 0, ls ++ [(b, o, j.size)]) else none := rfl
end
end
end Go.Sim
/- The lemmas for walking, in one. Printed by gen.py. -/
set_option linter.defProp false
namespace Go.Sim
open PV
def wk0 := And.intro @goes_skip (And.intro @goes_ret (And.intro @goes_exit (And.intro @goes_seq (And.intro @goes_block (And.intro @goes_cond (And.intro @goes_region (And.intro @goOps_nil (And.intro @goOps_cons (And.intro @condK_true (And.intro @condK_false (And.intro @wantK_true (And.intro @wantK_false (And.intro @opK_some (And.intro @resume_seq (And.intro @resume_seq_ret (And.intro @resume_seq_exit (And.intro @resume_block (And.intro @resume_block_ret (And.intro @resume_block_exit (And.intro @goes_loop (And.intro @resume_loop (And.intro @firstId_region (And.intro @firstId_seq (And.intro @firstId_cond (And.intro @firstId_block (And.intro @firstId_loop (And.intro @findMask_cons (And.intro @findMask_nil (And.intro @resume_loop_ret (And.intro @resume_loop_exit (And.intro @resume_done (And.intro @pargs_nil (And.intro @pargs_cons (And.intro @argK_some (And.intro @os_assign (And.intro @os_move (And.intro @os_pick (And.intro @os_alloc @os_box))))))))))))))))))))))))))))))))))))))
def wk1 := And.intro @os_bin (And.intro @os_un (And.intro @os_nil (And.intro @os_fieldAddr (And.intro @os_field (And.intro @os_indexAddr (And.intro @os_index (And.intro @os_extract (And.intro @os_slice (And.intro @os_load (And.intro @os_store (And.intro @os_build (And.intro @os_buildSlice (And.intro @os_convert (And.intro @os_builtin (And.intro @os_call (And.intro @mapV_some (And.intro @demIf_false (And.intro @demIf_true (And.intro @pickV_true (And.intro @pickV_false (And.intro @binV_some (And.intro @unV_some (And.intro @nilV_ptr (And.intro @nilV_eptr (And.intro @nilV_fn (And.intro @fieldAtV_some (And.intro @fieldV_some (And.intro @idxAtV_some (And.intro @idxV_some (And.intro @extV_tup (And.intro @slice_00 (And.intro @slice_10 (And.intro @slice_01 (And.intro @slice_11 (And.intro @allocV_eq (And.intro @allocW_some (And.intro @loadV_ptr (And.intro @loadV_eptr @loadB_some))))))))))))))))))))))))))))))))))))))
def wk2 := And.intro @loadC_false (And.intro @loadC_true (And.intro @storeV_ptr (And.intro @boxV_some (And.intro @storeB_some (And.intro @buildV_some (And.intro @buildSliceV_false (And.intro @buildU_true (And.intro @builtinU_false (And.intro @callU_true (And.intro @convU_false (And.intro @okTake_eq (And.intro @nodupB_nil (And.intro @nodupB_cons (And.intro @builtinV_some (And.intro @peval_tmp (And.intro @peval_const (And.intro @peval_func (And.intro @ofVal_int (And.intro @ofVal_bool (And.intro @ofVal_str (And.intro @ofVal_nilp (And.intro @ofVal_nils (And.intro @pwanted_none (And.intro @pwanted_some (And.intro @wantU_some (And.intro @wantV_tt (And.intro @wantV_tf (And.intro @wantV_ft (And.intro @wantV_ff (And.intro @wantV_tup (And.intro @sheds_assign (And.intro @sheds_box (And.intro @sheds_store (And.intro @sheds_move (And.intro @sheds_build (And.intro @sheds_extract (And.intro @sheds_append (And.intro @sheds_len @sheds_min))))))))))))))))))))))))))))))))))))))
def wk3 := And.intro @sheds_call (And.intro @sheds_pick (And.intro @sheds_alloc (And.intro @sheds_load (And.intro @sheds_nil (And.intro @sheds_bin (And.intro @sheds_un (And.intro @sheds_convert (And.intro @sheds_makeSlice (And.intro @sheds_buildSlice (And.intro @sheds_slice (And.intro @sheds_fieldAddr (And.intro @sheds_field (And.intro @sheds_indexAddr (And.intro @sheds_index (And.intro @tmpOf_tmp (And.intro @tmpOf_const (And.intro @takes_some (And.intro @takes_none (And.intro @writes_some (And.intro @modD_zero (And.intro @modD_succ (And.intro @shed_nil (And.intro @shed_none (And.intro @shed_some (And.intro @demT_zero (And.intro @demT_succ (And.intro @demTI_zero (And.intro @demTI_succ (And.intro @setDst_some (And.intro @setDst_none (And.intro @keepE_t (And.intro @keepE_f (And.intro @keepE_nil (And.intro @dem_bool (And.intro @dem_int (And.intro @dem_str (And.intro @dem_nilp (And.intro @dem_ptr @dem_eptr))))))))))))))))))))))))))))))))))))))
def wk4 := And.intro @dem_sl (And.intro @dem_msl (And.intro @dem_agg (And.intro @dem_tup (And.intro @dem_undef (And.intro @dem_con (And.intro @dem1_bool (And.intro @dem1_int (And.intro @dem1_str (And.intro @dem1_sl (And.intro @dem1_ptr (And.intro @dem1_nilp (And.intro @dem2_bool (And.intro @dem2_int (And.intro @dem2_str (And.intro @dem2_sl (And.intro @dem2_ptr (And.intro @dem2_nilp (And.intro @dem2_agg (And.intro @pb_add (And.intro @pb_sub (And.intro @pb_mul (And.intro @pb_and (And.intro @pb_or (And.intro @pb_xor (And.intro @pb_eql (And.intro @pb_neq (And.intro @pb_lss (And.intro @pb_leq (And.intro @pb_gtr (And.intro @pb_geq (And.intro @pb_shl64 (And.intro @pb_shr64 (And.intro @pb_shlu64 (And.intro @pb_shru64 (And.intro @pb_shlu32 (And.intro @pb_shru32 (And.intro @pb_shlu8 (And.intro @pb_shru8 @pb_sadd'))))))))))))))))))))))))))))))))))))))
def wk5 := And.intro @pb_seql (And.intro @pb_sneq (And.intro @pun_not (And.intro @take_var (And.intro @takeW_agg (And.intro @takeW_one (And.intro @pf_at (And.intro @fatW_some (And.intro @fatX_some (And.intro @fatY_ptr (And.intro @fatY_eptr (And.intro @pf_eq (And.intro @pfieldW_some (And.intro @pi_eq (And.intro @pi_str (And.intro @pi_at (And.intro @pia_sl (And.intro @pia_msl (And.intro @pia_ptr (And.intro @ps_eq (And.intro @ps_str (And.intro @ps_sl (And.intro @sb_none (And.intro @fillL_nil (And.intro @fillL_cons (And.intro @fillP_some (And.intro @fillN_eq (And.intro @pbuild_eq (And.intro @pbQ_struct (And.intro @pbP_some (And.intro @aggOf_some (And.intro @fillS_nil (And.intro @fillS_cons (And.intro @fillT_eq (And.intro @demP_eq (And.intro @demP_nil (And.intro @demP_cons (And.intro @pbs_eq (And.intro @bsW_some @bsV_some))))))))))))))))))))))))))))))))))))))
def wk6 := And.intro @bsF_some (And.intro @chunks_zero (And.intro @chunks_succ (And.intro @chunks_agg (And.intro @pl_eq (And.intro @lenW_str (And.intro @lenW_sl (And.intro @lenW_msl (And.intro @pa_eq (And.intro @appU_slice (And.intro @appU_string (And.intro @pap_eq (And.intro @apW_some (And.intro @apS_some (And.intro @pe_sl (And.intro @pe_str (And.intro @cv_int (And.intro @cv_str (And.intro @pcw_int (And.intro @pcw_str (And.intro @pcw_bytes (And.intro @pcwB_u8 (And.intro @cv_sl (And.intro @cvS_some (And.intro @cvT_u8 (And.intro @bytesOf_cons (And.intro @length_ofBytes (And.intro @ofBytes_nil (And.intro @ofBytes_cons (And.intro @hd_bool (And.intro @hd_int (And.intro @hd_str (And.intro @hd_nilp (And.intro @hd_ptr (And.intro @hd_eptr (And.intro @hd_sl (And.intro @hd_msl (And.intro @hd_agg (And.intro @hd_tup @hd_fn))))))))))))))))))))))))))))))))))))))
def wk7 := And.intro @hd_con (And.intro @hd_undef (And.intro @scrub_bool (And.intro @scrub_int (And.intro @scrub_str (And.intro @scrub_nilp (And.intro @scrub_sl (And.intro @scrub_eptr (And.intro @scrub_undef (And.intro @scrub_con (And.intro @scrub_ptr (And.intro @scrub_agg (And.intro @bytesOf_nil (And.intro @finR_ret (And.intro @finR_normal (And.intro @pres_nil (And.intro @pres_t (And.intro @presT_some (And.intro @pres_c (And.intro @presC_ptr (And.intro @presD_some (And.intro @presE_some (And.intro @outs_one (And.intro @outs_nil (And.intro @outs_two (And.intro @resK_some (And.intro @pcallOp_eq (And.intro @callR_some (And.intro @callB_true (And.intro @callB_false (And.intro @pass_nil (And.intro @pass_cons (And.intro @passR_some (And.intro @passP_some (And.intro @pass_bool (And.intro @pass_int (And.intro @pass_str (And.intro @pass_nilp (And.intro @pass_sl @pass_eptr))))))))))))))))))))))))))))))))))))))
def wk8 := And.intro @pass_fn (And.intro @pass_agg (And.intro @pass_ptr (And.intro @ptrW_some (And.intro @ptrX_some (And.intro @tmod_pos (And.intro @tdiv_pos (And.intro @and32 (And.intro @and31 (And.intro @or_bytes (And.intro @or_bytes' (And.intro @or_zero (And.intro @wrap64 (And.intro @wrapu64 (And.intro @wrapu32 (And.intro @wrapu8 (And.intro @pb_quo (And.intro @pb_rem @sb_int)))))))))))))))))
end Go.Sim
namespace Go.Sim
open PV Go.RowKit

/-- A plain value as the program takes it. -/
def plainV : PV → Value
  | .bool b => .bool b
  | .int k n => .int k n
  | .str s => .string ⟨s.toArray⟩
  | _ => default
def isPlain : PV → Bool
  | .bool _ | .int _ _ | .str _ => true
  | _ => false
theorem obs_nil_l (b : Nat) (xs : List PV) (vs : List Value) (h : ∀ x ∈ xs, isPlain x = true) : obs b xs vs = 0 := by
  induction xs generalizing vs with
  | nil => cases vs <;> rfl
  | cons x xs ih =>
    cases vs with
    | nil => rfl
    | cons v vs =>
      simp only [obs]
      rw [ih vs fun y hy => h y (by simp [hy])]
      have := h x (by simp)
      cases x <;> simp [isPlain] at this <;> simp [ob]
theorem obE_plain (b : Nat) (xs : List PV) (vs : List Value) (h : ∀ x ∈ xs, isPlain x = true) : obE b xs vs = 0 := by
  induction xs generalizing vs with
  | nil => cases vs <;> rfl
  | cons x xs ih =>
    cases vs with
    | nil => rfl
    | cons v vs =>
      simp only [obE]
      rw [ih vs fun y hy => h y (by simp [hy])]
      have := h x (by simp)
      cases x <;> simp [isPlain] at this <;> simp [ob3, PV.cells] <;> exact obs_nil_l _ _ _ (by simp [isPlain])
theorem sim_plain (w : World) (xs : List PV) (h : ∀ x ∈ xs, isPlain x = true) : Sim (fun _ => none) [] xs [] (xs.map plainV) w where
  rows b pc hp := by cases hp
  blen := rfl
  bdis i j l m hi := by simp at hi
  boxes i l cs hi := by simp at hi
  elen := by simp
  rel t x v hx hv := by
    rw [List.getElem?_map, hx] at hv
    simp only [Option.map_some, Option.some.injEq] at hv
    subst hv
    have := h x (List.mem_of_getElem? hx)
    cases x <;> simp [isPlain] at this
    · exact ⟨rfl, fun i x v hx hv => by cases i <;> simp [PV.cells] at hx; subst hx; trivial⟩
    · exact ⟨rfl, fun i x v hx hv => by cases i <;> simp [PV.cells] at hx; subst hx; trivial⟩
    · exact ⟨rfl, fun i x v hx hv => by cases i <;> simp [PV.cells] at hx; subst hx; trivial⟩
  uniq b := by rw [obE_plain b xs _ h]; simp [obB]

/-- A call with plain arguments. -/
theorem call_plain {P : Program} {C : Oracle} (hC : CallOk P C) {f : FuncId} {args : List PV} {v : PV} {bx' : List (List PV)} (hp : C f args [] = some (v, bx')) (h : ∀ x ∈ args, isPlain x = true) (w : World) :
    Calls P f (args.map plainV).toArray w fun r w' => ∃ cv, r = .returned cv ∧ Below w.heap.size w w' ∧ (isPlain v = true → cv = plainV v) := by
  obtain ⟨_, k⟩ := hC f args [] v bx' hp
  refine (k _ _ _ _ (sim_plain w args h)).mono fun r w' ⟨cv, G', B', e, hs, hb, _, _⟩ => ⟨cv, e, ⟨hs.prog.os, hs.prog.tape, hs.prog.output, hs.prog.size, fun b hb => hs.prog.heap b hb ?_⟩, fun hv => ?_⟩
  · rintro (h1 | ⟨l, h1, _⟩)
    · rw [obE_plain b args _ h] at h1; simp [obB] at h1
    · simp at h1
  · have := (hs.sim.rel 0 v cv rfl rfl).1
    cases v <;> simp [isPlain] at hv <;> exact this
end Go.Sim
