/- Proved in the end (in the last text of this claim): the law of this seat returns true at every input that fits, and each argument reads behind the call as before. This text: part 2 of the proof: a pure interpreter of the code, shown sound once, and the walks of the functions by rewriting. -/
import Derived.Laws.MakeOwn
import Derived.Orders
import Derived.LoopN
import Derived.Test.YtpmbpneklonepaaPartA
set_option linter.unusedSimpArgs false
set_option linter.unusedVariables false
/- Operations, tenth part: makeSlice, convert. -/
namespace Go.Sim
open PV

section
variable {P : Program} {G : Gh} {B : List Loc} {e : Env} {st : St} {tm : List Value} {w : World} {x y z : PV} {v u : Value}
variable {h : Hint} {fresh : Bool} {C : Oracle} {a : Act} {o : Oper} {st' : St}

theorem flatMap_replicate (n : Nat) (y : PV) : (List.replicate n y).flatMap cells = (List.replicate n y.cells).flatten := by
  induction n with
  | zero => rfl
  | succ n ih => rw [List.replicate_succ, List.flatMap_cons, ih, List.replicate_succ, List.flatten_cons]

theorem does_makeSlice (hs : Sim G B e st a.tmps.toList w) {t : TypeId} {p q : Operand} (ho : o.op = .makeSlice t p q) (hv : osem P C h fresh o (peval e) st = some (x, st')) : Goal P h G B e st a w o x st' := by
  simp only [osem, ho] at hv
  split at hv
  · rename_i l c el hl hc hel
    obtain ⟨j, hj, hv1⟩ := Option.bind_eq_some_iff.1 hv
    obtain ⟨zc, hzc, hv2⟩ := Option.bind_eq_some_iff.1 hv1
    obtain ⟨ag, hag, hv3⟩ := Option.bind_eq_some_iff.1 hv2
    clear hv hv1 hv2
    have hu := elemOf_ok hel
    obtain ⟨i, zv, hi, hz, z1, z2⟩ := zeroCellsOf_ok hzc
    rw [hj] at hi; cases hi
    obtain ⟨kl, hkl⟩ := asInt_eval hs hl
    obtain ⟨kc, hkc⟩ := asInt_eval hs hc
    split at hv3
    · rename_i hcond
      obtain ⟨c1, c2, c3, c4, c5, c6, c7, c8⟩ := hcond
      obtain ⟨f1, f2, f3, f4, f5⟩ := zero_facts (G := G) (B := B) (w := w) z1 z2
      have hzs : zv.cells.size = j.size := by simp at z1; omega
      have hrun : (execOp a.eval o).run P w = .ok (.value (.slice (some ⟨w.heap.size, 0, none⟩) l.toNat c.toNat)) (w.alloc (.cells (madeCells zv.cells (c.toNat * j.size)) el)) := by
        have := run_make (P := P) w t el j zv hu hj hz kl kc l c c1 c2 (by rw [Int.mul_comm]; omega) (by omega)
        simp only [execOp, ho, Sem.run_bind, hkl, hkc, this]; rfl
      have hm : (madeCells zv.cells (c.toNat * j.size)).toList = (List.replicate c.toNat zv.cells.toList).flatten := by
        rw [← hzs]; exact zeroRow_toList c.toNat zv.cells (by omega)
      have hms : (madeCells zv.cells (c.toNat * j.size)).size = c.toNat * j.size := size_madeCells _ _
      have hcm : c.toNat ≤ maxLen := by simp only [maxLen]; omega
      cases hw : writes h o
      · rw [hw] at hv3
        simp only [Bool.false_eq_true, if_false, Option.some.injEq, Prod.mk.injEq] at hv3
        obtain ⟨rfl, rfl⟩ := hv3
        have hpl' : ∀ c ∈ zc, (dem1 c).plain1 = true := fun c hc => (f5 c hc).2
        have hy : ∀ y : PV, y.cells = zc.map dem1 → Goal P h G B e st a w o (.sl j.size false true (List.replicate l.toNat y)) st := by
          intro y hy
          have hf : (List.replicate l.toNat y).flatMap cells = (List.replicate l.toNat (zc.map dem1)).flatten := by rw [flatMap_replicate, hy]
          have hlen : ((List.replicate l.toNat y).flatMap cells).length = l.toNat * j.size := by rw [hf, length_replicate_flatten, List.length_map, c7]
          have := Step.ofNewRow (own := true) (sz := j.size) (cap := c.toNat) (w' := w.alloc (.cells (madeCells zv.cells (c.toNat * j.size)) el)) (xs := List.replicate l.toNat y) hs hs (fun b => Nat.le_refl _) _ el (0, 0) rfl rfl rfl rfl
            (fun x hx => by rw [(List.mem_replicate.1 hx).2, hy, List.length_map, c7])
            (fun x hx => by
              rw [hf] at hx
              obtain ⟨c0, hc0, rfl⟩ := List.mem_map.1 (mem_replicate_flatten hx)
              exact hpl' c0 hc0)
            (by rw [hlen, hms]; exact Nat.mul_le_mul_right _ (by omega))
            (fun i x v hx hv => by
              rw [hf] at hx
              have h1 := (List.getElem?_eq_some_iff.1 hx).1
              rw [length_replicate_flatten] at h1
              rw [replicate_flatten_get i h1, List.length_map] at hx
              rw [← Array.getElem?_toList, hm, replicate_flatten_get i (by
                rw [← z1]; rw [List.length_map] at h1
                exact Nat.lt_of_lt_of_le h1 (Nat.mul_le_mul_right _ (by omega))), ← z1] at hv
              exact plain_noB hpl' f1 f2 _ x v hx hv)
            (by simp; omega) hcm (fun _ => ⟨rfl, hms, c5⟩)
          rw [List.length_replicate] at this
          exact Does.value hrun ⟨_, B, by simp only [sheds, ho, shed]; exact this, Ble.refl _⟩
        cases ag with
        | true => exact hy (.agg (zc.map dem1)) rfl
        | false =>
          have hs1 : j.size = 1 := by simpa using c6
          refine hy _ ?_
          simp only [Bool.false_eq_true, if_false]
          rw [hs1] at c7
          match zc, c7 with
          | [c0], _ => exact (plain1_scalar (hpl' c0 (by simp))).1
      · rw [hw] at hv3
        simp only [if_true, Option.some.injEq, Prod.mk.injEq] at hv3
        obtain ⟨rfl, rfl⟩ := hv3
        have hlen : (List.replicate c.toNat zc).flatten.length = c.toNat * j.size := by rw [length_replicate_flatten, c7]
        have hAll := zero_allC (n := c.toNat) z1 f1
        refine Does.value hrun ⟨G, B ++ [⟨w.heap.size, 0, (List.replicate c.toNat zc).flatten.length⟩], ?_, Ble.append _ _⟩
        simp only [sheds, ho, shed]
        refine Step.ofNewBox hs hs _ el (0, 0) rfl rfl rfl rfl (by simp) (by rw [hlen, hms]; exact Nat.le_refl _) (fun i x v hx hv => ?_) ?_ (fun b => ?_) (fun B' hB' => ⟨_, c.toNat, hB', rfl, by omega, hcm, ?_, fun hh => by cases hh⟩) rfl
        · rw [← Array.getElem?_toList, hm] at hv
          exact ⟨f2 v (mem_replicate_flatten (List.mem_of_getElem? hv)), hAll.2 i x v hx hv⟩
        · rw [hm]
          intro i x v hx hv
          have h1 := (List.getElem?_eq_some_iff.1 hx).1
          rw [length_replicate_flatten] at h1
          rw [replicate_flatten_get i h1] at hx
          rw [replicate_flatten_get i (by rw [← z1]; exact h1), ← z1] at hv
          exact f3 _ x v hx hv
        · rw [hm]
          have : obs b (List.replicate c.toNat zc).flatten ((List.replicate c.toNat zv.cells.toList).flatten.take (List.replicate c.toNat zc).flatten.length) = 0 := obs_zero fun i x v hx hv => by
            rw [List.getElem?_take] at hv
            split at hv
            · have h1 := (List.getElem?_eq_some_iff.1 hx).1
              rw [length_replicate_flatten] at h1
              rw [replicate_flatten_get i h1] at hx
              rw [replicate_flatten_get i (by rw [← z1]; exact h1), ← z1] at hv
              have := obs_pos (b := b) hx hv
              have := f4 b
              omega
            · cases hv
          omega
        · rw [hlen]
          have : l.toNat * j.size ≤ c.toNat * j.size := Nat.mul_le_mul_right _ (by omega)
          simp only; omega
    · cases hv3
  · cases hv
end
end Go.Sim
/- Operations, eleventh part: conversions. -/
namespace Go.Sim
open PV

section
variable {P : Program} {G : Gh} {B : List Loc} {e : Env} {st : St} {tm : List Value} {w : World} {x y z : PV} {v u : Value}
variable {h : Hint} {fresh : Bool} {C : Oracle} {a : Act} {o : Oper} {st' : St}

theorem bytesOf_ok : ∀ {xs : List PV} {s : List UInt8}, bytesOf xs = some s → ∃ ns : List Int, xs = ns.map (PV.int .u8) ∧ s = ns.map fun n => UInt8.ofNat n.toNat
  | [], s, h => by simp [bytesOf] at h; subst h; exact ⟨[], rfl, rfl⟩
  | x :: xs, s, h => by
    simp only [bytesOf] at h
    obtain ⟨b, hb, h⟩ := Option.bind_eq_some_iff.1 h
    obtain ⟨r, hr, rfl⟩ := Option.map_eq_some_iff.1 h
    obtain ⟨ns, rfl, rfl⟩ := bytesOf_ok hr
    unfold byteOf at hb
    split at hb <;> cases hb
    rename_i n _
    exact ⟨n :: ns, rfl, rfl⟩

theorem foldl_push : ∀ (ns : List Int) (s : List UInt8), ns.foldl (fun (r : ByteArray) n => r.push (UInt8.ofNat n.toNat)) ⟨s.toArray⟩ = ⟨(s ++ ns.map fun n => UInt8.ofNat n.toNat).toArray⟩
  | [], s => by simp
  | n :: ns, s => by
    have : (⟨s.toArray⟩ : ByteArray).push (UInt8.ofNat n.toNat) = ⟨(s ++ [UInt8.ofNat n.toNat]).toArray⟩ := by
      apply ByteArray.ext; simp [ByteArray.push]
    rw [List.foldl_cons, this, foldl_push ns]
    simp

/-- Bytes in memory, as a string. -/
theorem run_bytes {ns : List Int} {g ob' len cap : Nat} {c : Array Value} {el : TypeId} {fr : Nat × Nat} (hg : w.heap[g]? = some (.cells c el fr)) (hlen : ns.length = len)
    (hc : ∀ (j : Nat) n, ns[j]? = some n → c[ob' + j]? = some (.int .u8 n)) :
    (Conv.bytesToString (.slice (some ⟨g, ob', none⟩) len cap)).run P w = .ok (.string ⟨(ns.map fun n => UInt8.ofNat n.toNat).toArray⟩) w := by
  have hcell : ∀ j v, (ns.map (Value.int .u8))[j]? = some v → w.cell? ((⟨g, ob', none⟩ : Addr).add j) = some v := by
    intro j v hv
    rw [List.getElem?_map] at hv
    obtain ⟨n, hn, rfl⟩ := Option.map_eq_some_iff.1 hv
    rw [add_flat]
    simp only [World.cell?, hg]
    simpa using hc j n hn
  have hrun := run_loadCells_list (P := P) w ⟨g, ob', none⟩ _ hcell
  rw [List.length_map, hlen] at hrun
  have := run_bytesToString (P := P) w ⟨g, ob', none⟩ len cap ns hrun
  rw [this]
  have := foldl_push ns []
  simp only [List.nil_append] at this
  rw [← this]; rfl

theorem run_stringToBytes (el : TypeId) (s : List UInt8) (hl : s.length ≤ maxLen) :
    ∃ w' cap c, (Conv.stringToBytes el ⟨s.toArray⟩).run P w = .ok (.slice (some ⟨w.heap.size, 0, none⟩) s.length cap) w' ∧ w'.heap = w.heap.push (.cells c el (c.size, c.size + 1)) ∧ w'.os = w.os ∧ w'.tape = w.tape ∧ w'.output = w.output ∧
      s.length ≤ cap ∧ cap ≤ maxLen ∧ s.length ≤ c.size ∧ ∀ (j : Nat) b, s[j]? = some b → c[j]? = some (.int .u8 b.toNat) := by
  have hsz : (⟨s.toArray⟩ : ByteArray).size = s.length := by simp [ByteArray.size]
  let cap := grownCap w s.length 0 el
  have h1 : s.length ≤ cap := grownCap_ge w s.length 0 el
  have h2 : cap ≤ maxLen := grownCap_le_maxLen w s.length 0 el hl
  let c : Array Value := (s.map fun b => Value.int .u8 b.toNat).toArray ++ Array.replicate (cap - s.length) (.int .u8 0)
  have hcs : c.size = cap := by simp [c]; omega
  refine ⟨{ w with drawn := w.drawn + 1, heap := w.heap.push (.cells c el (c.size, c.size + 1)) }, cap, c, ?_, rfl, rfl, rfl, rfl, h1, h2, by omega, fun j b hb => ?_⟩
  · have hq : (Question.appendCap s.length 0 el).cut (w.tape w.drawn (.appendCap s.length 0 el)) = cap := rfl
    have hmod : (w.heap.push (.cells c el)).modify w.heap.size (fun
      | .cells d elem (lo, hi) => .cells d elem (if lo = hi then (c.size, c.size + 1) else (min lo c.size, max hi (c.size + 1)))
      | o => o) = w.heap.push (.cells c el (c.size, c.size + 1)) := by
      apply Array.ext_getElem?
      intro i
      rw [Array.getElem?_modify]
      by_cases hi : w.heap.size = i
      · subst hi; simp
      · rw [if_neg hi, Array.getElem?_push, Array.getElem?_push, if_neg (Ne.symm hi), if_neg (Ne.symm hi)]
    have hmap : (Array.map (fun b : UInt8 => Value.int IntKind.u8 (b.toNat : Int)) s.toArray ++ Array.replicate (cap - s.length) (Value.int IntKind.u8 0)) = c := by simp [c]
    have hc0 : c.size ≠ c.size + 1 := by omega
    unfold Conv.stringToBytes
    simp only [Sem.run_bind, run_choose, hsz, Question.forced, Bool.false_eq_true, if_false, hq, Result.andThen_ok, newRow, run_newObj, Sem.run_pure]
    rw [hmap]
    simp only [markStringish, Sem.run_bind, run_shape, World.shape?, Array.getElem?_push_size, Result.andThen_ok, run_freeze, World.freeze]
    simp
    exact hmod
  · have hj := (List.getElem?_eq_some_iff.1 hb).1
    simp only [c]
    rw [Array.getElem?_append_left (by simpa using hj)]
    simp [hb]
theorem ofBytes_get {s : List UInt8} {i : Nat} (h : (ofBytes s)[i]? = some x) : ∃ b, s[i]? = some b ∧ x = .int .u8 b.toNat := by
  unfold ofBytes at h
  rw [List.getElem?_map] at h
  obtain ⟨b, hb, rfl⟩ := Option.map_eq_some_iff.1 h
  exact ⟨b, hb, rfl⟩
theorem ofBytes_flat (s : List UInt8) : (ofBytes s).flatMap cells = ofBytes s ∧ (∀ x ∈ ofBytes s, x.cells.length = 1) ∧ (∀ x ∈ ofBytes s, x.plain1 = true) ∧ (ofBytes s).length = s.length := by
  have h1 : ∀ x ∈ ofBytes s, ∃ n, x = .int .u8 n := fun x hx => by
    obtain ⟨b, _, rfl⟩ := List.mem_map.1 hx
    exact ⟨_, rfl⟩
  refine ⟨flatMap_scalars fun y hy => ?_, fun x hx => ?_, fun x hx => ?_, by simp [ofBytes]⟩
  · obtain ⟨n, rfl⟩ := h1 y hy; rfl
  · obtain ⟨n, rfl⟩ := h1 x hx; rfl
  · obtain ⟨n, rfl⟩ := h1 x hx; rfl

theorem run_convert_int {s d : TypeId} {k k' : IntKind} {n : Int} (hs : (P.underlying s).isSome) (hd : P.underlying d = some (.int k)) : (convert s d (.int k' n)).run P w = .ok (.int k (k.wrap n)) w := by
  obtain ⟨us, hus⟩ := Option.isSome_iff_exists.1 hs
  cases us <;> simp [convert, run_underlying hus, run_underlying hd, Conv.intToInt]
theorem run_convert_str {s d : TypeId} {t : ByteArray} (hs : (P.underlying s).isSome) (hd : P.underlying d = some .string) : (convert s d (.string t)).run P w = .ok (.string t) w := by
  obtain ⟨us, hus⟩ := Option.isSome_iff_exists.1 hs
  cases us <;> simp [convert, run_underlying hus, run_underlying hd]
theorem run_convert_toBytes {s d el : TypeId} {t : ByteArray} (hs : (P.underlying s).isSome) (hd : P.underlying d = some (.slice el)) (hel : P.underlying el = some (.int .u8)) : (convert s d (.string t)).run P w = (Conv.stringToBytes el t).run P w := by
  obtain ⟨us, hus⟩ := Option.isSome_iff_exists.1 hs
  cases us <;> simp [convert, run_underlying hus, run_underlying hd, run_underlying hel]

theorem does_convert (hs : Sim G B e st a.tmps.toList w) {s d : TypeId} {p : Operand} (ho : o.op = .convert s d p) (hv : osem P C h fresh o (peval e) st = some (x, st')) : Goal P h G B e st a w o x st' := by
  simp only [osem, ho] at hv
  obtain ⟨y, hy, hv1⟩ := Option.bind_eq_some_iff.1 hv
  clear hv
  have hr := (eval_rel hs hy).1
  split at hv1
  · cases hv1
  rename_i hsome
  have hsome : (P.underlying s).isSome := by cases hq : P.underlying s <;> simp_all
  split at hv1
  · split at hv1
    · rename_i el str hu
      split at hv1
      · rename_i hel
        split at hv1
        · rename_i hlen
          cases hv1
          have hr' : a.eval p = .string ⟨str.toArray⟩ := hr
          obtain ⟨w', cap, c, k1, k2, k3, k4, k5, k6, k7, k8, k9⟩ := run_stringToBytes (P := P) (w := w) el str hlen
          obtain ⟨b1, b2, b3, b4⟩ := ofBytes_flat str
          refine Does.value (cv := .slice (some ⟨w.heap.size, 0, none⟩) str.length cap) (w' := w') ?_ ⟨G, B ++ [⟨w.heap.size, 0, (ofBytes str).length⟩], ?_, Ble.append _ _⟩
          · simp only [execOp, ho, Sem.run_bind, hr', run_convert_toBytes hsome hu hel, k1]; rfl
          · simp only [sheds, ho, shed]
            refine Step.ofNewBox hs hs c el _ k2 k3 k4 k5 (fun o ho' hh => by simp at hh; omega) (by rw [b4]; exact k8) (fun i x v hx hv => ?_) ?_ (fun b => ?_) (fun B' hB' => ⟨_, cap, hB', rfl, k6, k7, by rw [b4]; simp, fun hh => by cases hh⟩) rfl
            · obtain ⟨bb, hb, rfl⟩ := ofBytes_get hx
              rw [k9 i bb hb] at hv; cases hv
              exact ⟨rfl, rfl⟩
            · intro i x v hx hv
              obtain ⟨bb, hb, rfl⟩ := ofBytes_get hx
              trivial
            · have : obs b (ofBytes str) (c.toList.take (ofBytes str).length) = 0 := obs_zero fun i x v hx hv => by
                obtain ⟨bb, hb, rfl⟩ := ofBytes_get hx
                rfl
              omega
        · cases hv1
      · cases hv1
    · cases hv1
  · have fin : ∀ {cv : Value}, (convert s d (a.eval p)).run P w = .ok cv w → CRel G B x cv → x.dem = x → st' = st → Goal P h G B e st a w o x st' := by
      intro cv h1 h2 h3 h4
      subst h4
      refine Does.value (cv := cv) (w' := w) (by simp only [execOp, ho, Sem.run_bind, h1]; rfl) ⟨G, B, ?_, Ble.refl _⟩
      simp only [sheds, ho, shed]
      exact Step.pure hs h2.toVRel h3
    split at hv1
    · rename_i fl b k n
      split at hv1
      · rename_i el hd hsr
        split at hv1
        · rename_i hel
          obtain ⟨cs, hcs, hv2⟩ := Option.bind_eq_some_iff.1 hv1
          obtain ⟨str, hstr, hv3⟩ := Option.map_eq_some_iff.1 hv2
          simp only [Prod.mk.injEq] at hv3; obtain ⟨rfl, rfl⟩ := hv3
          obtain ⟨l, cap, m1, m2, m3, m4, m5, m6⟩ := hr
          obtain ⟨c, el0, fr, q1, q2, q3, q4, q5⟩ := box_cells hs m1 hcs
          obtain ⟨ns, hns, rfl⟩ := bytesOf_ok hstr
          have hlen : ns.length = n := by
            have := congrArg List.length hns
            rw [List.length_take, List.length_drop, List.length_map] at this
            omega
          have hrun := run_bytes (P := P) (w := w) (ob' := l.off + k) (cap := cap) q1 hlen fun j m hm => by
            have : ((cs.drop k).take n)[j]? = some (.int .u8 m) := by rw [hns, List.getElem?_map, hm]; rfl
            rw [List.getElem?_take] at this
            split at this
            · rw [List.getElem?_drop] at this
              obtain ⟨v, h1, _, h2⟩ := q5 _ _ this
              cases h2
              rw [← h1]; congr 1; omega
            · cases this
          exact fin (by rw [m2, run_convert_bytes_string w s d el _ _ _ hsr hel hd]; exact hrun) rfl rfl rfl
        · cases hv1
      · cases hv1
    · obtain ⟨z, hz, hv2⟩ := Option.map_eq_some_iff.1 hv1
      simp only [Prod.mk.injEq] at hv2; obtain ⟨rfl, rfl⟩ := hv2
      unfold pconvert at hz
      split at hz
      · rename_i k k' n hd _
        cases hz
        have hr' : a.eval p = _ := hr
        exact fin (by rw [hr']; exact run_convert_int hsome hd) rfl rfl rfl
      · rename_i str hd _
        cases hz
        have hr' : a.eval p = _ := hr
        exact fin (by rw [hr']; exact run_convert_str hsome hd) rfl rfl rfl
      · rename_i sz nl own xs hd _
        split at hz
        · rename_i el hsr
          split at hz
          · rename_i hel
            split at hz
            · rename_i hsz
              obtain ⟨str, hstr, rfl⟩ := Option.map_eq_some_iff.1 hz
              obtain ⟨ad, cap, m1, m2, m3, m4, m5⟩ := hr
              obtain ⟨ns, rfl, rfl⟩ := bytesOf_ok hstr
              cases ad with
              | none =>
                obtain ⟨_, hnil, _⟩ := m5
                have : ns = [] := by simpa using hnil
                subst this
                refine fin (cv := .string ⟨([] : List UInt8).toArray⟩) ?_ rfl rfl rfl
                rw [m1, run_convert_bytes_string w s d el _ _ _ hsr hel hd]; rfl
              | some ad =>
                obtain ⟨g1, g2, g3⟩ := m5
                have had : ad = ⟨ad.block, ad.off, none⟩ := by cases ad; simp_all
                by_cases hne : ns = []
                · subst hne
                  refine fin (cv := .string ⟨([] : List UInt8).toArray⟩) ?_ rfl rfl rfl
                  rw [m1, run_convert_bytes_string w s d el _ _ _ hsr hel hd]; rfl
                · obtain ⟨pc, k1, k2⟩ := g3 (by simpa using hne)
                  obtain ⟨c, el0, fr, q1, q2, q3⟩ := hs.rows _ _ k1
                  have hflat : (ns.map (PV.int .u8)).flatMap cells = ns.map (PV.int .u8) := flatMap_scalars fun y hy => by
                    obtain ⟨n, _, rfl⟩ := List.mem_map.1 hy; rfl
                  rw [hflat] at k2
                  have hrun := run_bytes (P := P) (w := w) (ns := ns) (ob' := ad.off) (cap := cap) q1 (len := (ns.map (PV.int .u8)).length) (by simp) fun j m hm => by
                    obtain ⟨_, v, r1, _, r2⟩ := q3 _ _ (k2 j (.int .u8 m) (by rw [List.getElem?_map, hm]; rfl))
                    cases r2; exact r1
                  refine fin ?_ rfl rfl rfl
                  rw [m1, run_convert_bytes_string w s d el _ _ _ hsr hel hd, had]; exact hrun
            · cases hz
          · cases hz
        · cases hz
      · rename_i el str hd _
        split at hz
        · rename_i hel
          split at hz
          · rename_i hlen
            cases hz
            have hr' : a.eval p = .string ⟨str.toArray⟩ := hr
            obtain ⟨w', cap, c, k1, k2, k3, k4, k5, k6, k7, k8, k9⟩ := run_stringToBytes (P := P) (w := w) el str hlen
            obtain ⟨b1, b2, b3, b4⟩ := ofBytes_flat str
            have := Step.ofNewRow (own := false) (sz := 1) (cap := cap) (w' := w') (xs := ofBytes str) hs hs (fun b => Nat.le_refl _) c el _ k2 k3 k4 k5 b2 (by rw [b1]; exact b3) (by rw [b1, b4]; exact k8)
              (by rw [b1]; intro i x v hx hv; obtain ⟨bb, hb, rfl⟩ := ofBytes_get hx; rw [k9 i bb hb] at hv; cases hv; exact ⟨rfl, rfl⟩) (by omega) k7 (fun hh => by cases hh)
            rw [b4] at this
            exact Does.value (cv := .slice (some ⟨w.heap.size, 0, none⟩) str.length cap) (w' := w') (by simp only [execOp, ho, Sem.run_bind, hr', run_convert_toBytes hsome hd hel, k1]; rfl) ⟨_, B, by simp only [sheds, ho, shed]; exact this, Ble.refl _⟩
          · cases hz
        · cases hz
      · cases hz
end
end Go.Sim
/- Operations, twelfth part: append. -/
namespace Go.Sim
open PV

section
variable {P : Program} {G : Gh} {B : List Loc} {e : Env} {st : St} {tm : List Value} {w : World} {x y z : PV} {v u : Value}
variable {h : Hint} {fresh : Bool} {C : Oracle} {a : Act} {o : Oper} {st' : St}

/-- What is appended, in memory. -/
structure More (P : Program) (G : Gh) (w : World) (size : Nat) (ys : List PV) (v : Value) (news : List Value) : Prop where
  len : ∀ w', (Builtin.lenOf v).run P w' = .ok ys.length w'
  cells : ∀ w', w'.heap = w.heap → (Builtin.firstCells size ys.length v).run P w' = .ok news.toArray w'
  nlen : news.length = ys.length * size
  esz : ∀ y ∈ ys, y.cells.length = size
  plain : ∀ c ∈ ys.flatMap PV.cells, c.plain1 = true
  rel : ∀ (i : Nat) c u, (ys.flatMap PV.cells)[i]? = some c → news[i]? = some u → one u = true ∧ CRel G [] c u

theorem pelems_ok {sz : Nat} {ys : List PV} (hs : Sim G B e st tm w) (hy : VRel G B y v) (hp : pelems st sz y = some ys) : ∃ news, More P G w sz ys v news := by
  unfold pelems at hp
  split at hp
  · rename_i z nl own ys'
    split at hp
    · rename_i hz
      cases hp
      obtain ⟨ad, cap, h1, h2, h3, h4, h5⟩ := hy
      by_cases hne : ys = []
      · subst hne
        refine ⟨[], ⟨fun w' => by rw [h1]; rfl, fun w' hh => ?_, by simp, by simp, by simp, by simp⟩⟩
        rw [h1]
        cases ad with
        | none => simp [Builtin.firstCells]
        | some ad => simp [Builtin.firstCells, loadCells, loadCellsFrom]
      · have hzs : z = sz := hz.resolve_right hne
        subst hzs
        cases ad with
        | none => exact (hne h5.2.1).elim
        | some ad =>
          obtain ⟨g1, g2, g3⟩ := h5
          obtain ⟨pc, k1, k2⟩ := g3 hne
          obtain ⟨c, el, fr, q1, q2, q3⟩ := hs.rows _ _ k1
          have had : ad = ⟨ad.block, ad.off, none⟩ := by cases ad; simp_all
          have hfl := length_flatMap_cells h4
          have hin : ∀ i, i < ys.length * z → ∃ cc, (ys.flatMap PV.cells)[i]? = some cc ∧ cc.plain1 = true ∧ ∃ u, c[ad.off + i]? = some u ∧ one u = true ∧ CRel G [] cc u := fun i hi => by
            obtain ⟨cc, hcc⟩ : ∃ cc, (ys.flatMap PV.cells)[i]? = some cc := ⟨_, List.getElem?_eq_getElem (by omega)⟩
            obtain ⟨r1, u, r2, r3, r4⟩ := q3 _ cc (k2 i cc hcc)
            exact ⟨cc, hcc, r1, u, r2, r3, r4⟩
          have hcsz : ad.off + ys.length * z ≤ c.size ∨ ys.length * z = 0 := by
            by_cases h0 : ys.length * z = 0
            · exact .inr h0
            · left
              obtain ⟨_, _, _, u, hu, _⟩ := hin (ys.length * z - 1) (by omega)
              have := (Array.getElem?_eq_some_iff.1 hu).1
              omega
          have hnl : ((c.toList.drop ad.off).take (ys.length * z)).length = ys.length * z := by simp; omega
          refine ⟨(c.toList.drop ad.off).take (ys.length * z), ⟨fun w' => by rw [h1]; rfl, fun w' hh => ?_, hnl, h4, fun cc hcc => ?_, fun i cc u hcc hu => ?_⟩⟩
          · rw [h1]
            refine run_firstCells_some (P := P) w' z ys.length ad ys.length cap _ hnl fun j v hv => ?_
            rw [List.getElem?_take] at hv
            split at hv
            · rw [List.getElem?_drop] at hv
              rw [had, add_flat]
              simp only [World.cell?, hh, q1]
              simpa using hv
            · cases hv
          · obtain ⟨i, hi⟩ := List.getElem?_of_mem hcc
            have hil := (List.getElem?_eq_some_iff.1 hi).1
            obtain ⟨cc', r0, r1, _⟩ := hin i (by omega)
            rw [hi] at r0; cases r0; exact r1
          · have hil := (List.getElem?_eq_some_iff.1 hcc).1
            obtain ⟨cc', r0, _, u', r2, r3, r4⟩ := hin i (by omega)
            rw [hcc] at r0; cases r0
            rw [List.getElem?_take, if_pos (by omega), List.getElem?_drop, Array.getElem?_toList, r2] at hu
            cases hu; exact ⟨r3, r4⟩
    · cases hp
  · rename_i s
    split at hp
    · rename_i hz
      cases hp
      subst hz
      have hy' : v = .string ⟨s.toArray⟩ := hy
      obtain ⟨b1, b2, b3, b4⟩ := ofBytes_flat s
      have hsz : (⟨s.toArray⟩ : ByteArray).size = s.length := by simp [ByteArray.size]
      refine ⟨s.map fun b => .int .u8 b.toNat, ⟨fun w' => by rw [hy', b4]; simp [Builtin.lenOf, hsz], fun w' hh => ?_, by simp [b4], b2, by rw [b1]; exact b3, fun i c u hc hu => ?_⟩⟩
      · rw [hy', b4]
        simp [Builtin.firstCells]
      · rw [b1] at hc
        obtain ⟨b, hb, rfl⟩ := ofBytes_get hc
        rw [List.getElem?_map, hb] at hu
        cases hu; exact ⟨rfl, rfl⟩
    · cases hp
  · rename_i z fl b k n
    split at hp
    · rename_i hz
      obtain ⟨rfl, rfl⟩ := hz
      obtain ⟨cs, hcs, hp⟩ := Option.bind_eq_some_iff.1 hp
      split at hp
      · rename_i hpl
        cases hp
        obtain ⟨l, cap, m1, m2, m3, m4, m5, m6⟩ := hy
        obtain ⟨c, el0, fr, q1, q2, q3, q4, q5⟩ := box_cells hs m1 hcs
        have hlen : ((cs.drop k).take n).length = n := by simp; omega
        have hpl' : ∀ c ∈ (cs.drop k).take n, (dem1 c).plain1 = true := fun c hc => List.all_eq_true.1 hpl c hc
        have hflat : (((cs.drop k).take n).map dem1).flatMap PV.cells = ((cs.drop k).take n).map dem1 := flatMap_scalars fun y hy => by
          obtain ⟨c0, hc0, rfl⟩ := List.mem_map.1 hy
          exact (plain1_scalar (hpl' c0 hc0)).1
        have hnl : ((c.toList.drop (l.off + k)).take n).length = n := by simp; omega
        refine ⟨(c.toList.drop (l.off + k)).take n, ⟨fun w' => by rw [m2, List.length_map, hlen]; rfl, fun w' hh => ?_, by rw [hnl, List.length_map, hlen]; omega, fun y hy => ?_, by
          rw [hflat]; intro c hc; obtain ⟨c0, hc0, rfl⟩ := List.mem_map.1 hc; exact hpl' c0 hc0, fun i cc u hcc hu => ?_⟩⟩
        · rw [m2, List.length_map, hlen]
          refine run_firstCells_some (P := P) w' 1 n _ n cap _ (by rw [hnl]; omega) fun j v hv => ?_
          rw [List.getElem?_take] at hv
          split at hv
          · rw [List.getElem?_drop] at hv
            rw [add_flat]
            simp only [World.cell?, hh, q1]
            simpa using hv
          · cases hv
        · obtain ⟨c0, hc0, rfl⟩ := List.mem_map.1 hy
          rw [(plain1_scalar (hpl' c0 hc0)).1]; rfl
        · rw [hflat, List.getElem?_map] at hcc
          obtain ⟨c0, hc0, rfl⟩ := Option.map_eq_some_iff.1 hcc
          have hmem := List.mem_of_getElem? hc0
          rw [List.getElem?_take] at hc0 hu
          split at hc0
          · rename_i hi
            rw [if_pos hi, List.getElem?_drop, Array.getElem?_toList] at hu
            rw [List.getElem?_drop] at hc0
            obtain ⟨v, r1, r2, r3⟩ := q5 _ _ hc0
            rw [show l.off + (k + i) = l.off + k + i by omega, hu] at r1
            cases r1
            exact ⟨r2, (CRel_dem1.2 r3).plain (hpl' c0 hmem)⟩
          · cases hc0
      · cases hp
    · cases hp
  · cases hp
theorem not_int : ∀ d : TypeDesc, (∀ k, d ≠ .int k) → (match d with | .int _ => true | _ => false) = false := by
  intro d hd
  cases d <;> first | rfl | exact (hd _ rfl).elim

theorem run_append_room' {t t' el ty : TypeId} {d : TypeDesc} {j : TypeInfo} {ys : List PV} {news : List Value} (hu : P.underlying t = some (.slice el)) (hu' : P.underlying t' = some d) (hd : ∀ k, d ≠ .int k) (hj : P.info? el = some j)
    (hm : More P G w j.size ys v news) {g n cap : Nat} {c : Array Value} {e0 : TypeId} {fr : Nat × Nat} (hg : w.heap[g]? = some (.cells c e0 fr)) (hfr : ∀ k, k < c.size → ¬ (fr.1 ≤ k ∧ k < fr.2)) (hroom : n + ys.length ≤ cap) (hc : c.size = cap * j.size) :
    ∃ w' c', (Builtin.append_ #[t, t'] ty #[.slice (some ⟨g, 0, none⟩) n cap, v]).run P w = .ok (.slice (some ⟨g, 0, none⟩) (n + ys.length) cap) w' ∧ w'.heap[g]? = some (.cells c' e0 fr) ∧ c'.toList = setCells c.toList (n * j.size) news ∧ (∀ k, k ≠ g → w'.heap[k]? = w.heap[k]?) ∧
      w'.heap.size = w.heap.size ∧ w'.os = w.os ∧ w'.tape = w.tape ∧ w'.output = w.output := by
  have hfit : n * j.size + news.length ≤ c.size := by
    rw [hm.nlen, hc, ← Nat.add_mul]; exact Nat.mul_le_mul_right _ hroom
  have h1 : ∀ u ∈ news, one u = true := fun u hu => by
    obtain ⟨i, hi⟩ := List.getElem?_of_mem hu
    have hil := (List.getElem?_eq_some_iff.1 hi).1
    have hfl := length_flatMap_cells hm.esz
    have := hm.nlen
    exact (hm.rel i _ u (List.getElem?_eq_getElem (by omega)) hi).1
  obtain ⟨w', c', r1, r2, r3, r4⟩ := run_store_cells (P := P) g e0 fr (n * j.size) news 0 c w hg (by omega) (fun k hk hk' => hfr k (by omega)) h1
  rw [Nat.add_zero] at r3
  refine ⟨w', c', ?_, r2, r3, r4⟩
  have hadd : (⟨g, 0, none⟩ : Addr).add (n * j.size) = ⟨g, n * j.size, none⟩ := by rw [add_flat, Nat.zero_add]
  have hnz := not_int d hd
  simp [Builtin.append_, run_underlying hu, run_underlying hu', hnz, sizeOf, typeInfo, hj, hm.len w, hm.cells w rfl, hroom, hadd, r1]

theorem run_append_nil' {t t' el ty : TypeId} {d : TypeDesc} {j : TypeInfo} {ys : List PV} {news : List Value} (hu : P.underlying t = some (.slice el)) (hu' : P.underlying t' = some d) (hd : ∀ k, d ≠ .int k) (hj : P.info? el = some j)
    (hm : More P G w j.size ys v news) (h0 : ys = []) : (Builtin.append_ #[t, t'] ty #[.slice none 0 0, v]).run P w = .ok (.slice none 0 0) w := by
  have hnz := not_int d hd
  subst h0
  have hl := hm.len w
  have hc := hm.cells w rfl
  simp only [List.length_nil] at hl hc
  simp [Builtin.append_, run_underlying hu, run_underlying hu', hnz, sizeOf, typeInfo, hj, hl, hc]

theorem run_append_grow' {t t' el ty : TypeId} {d : TypeDesc} {j : TypeInfo} {ys : List PV} {news olds : List Value} {zv : Value} (hu : P.underlying t = some (.slice el)) (hu' : P.underlying t' = some d) (hd : ∀ k, d ≠ .int k) (hj : P.info? el = some j) (hz : j.zero = some zv)
    (hm : More P G w j.size ys v news) {base : Option Addr} {n cap : Nat} (hold : ∀ w', w'.heap = w.heap → (Builtin.firstCells j.size n (.slice base n cap)).run P w' = .ok olds.toArray w') (hgrow : cap < n + ys.length)
    (h1 : n + ys.length ≤ maxLen) (h2 : (n + ys.length) * j.bytes ≤ 140737488355328) :
    ∃ w' cap' c, (Builtin.append_ #[t, t'] ty #[.slice base n cap, v]).run P w = .ok (.slice (some ⟨w.heap.size, 0, none⟩) (n + ys.length) cap') w' ∧ w'.heap = w.heap.push (.cells c el) ∧ w'.os = w.os ∧ w'.tape = w.tape ∧ w'.output = w.output ∧
      n + ys.length ≤ cap' ∧ cap' ≤ maxLen ∧ c = olds.toArray ++ news.toArray ++ Builtin.zeroCells zv.cells (cap' - (n + ys.length)) := by
  have hnz := not_int d hd
  have hn : ¬ (n + ys.length ≤ cap) := by omega
  have h63 : n + ys.length ≤ 9223372036854775807 := by simp only [maxLen] at h1; omega
  have hfit : Builtin.nextslicecap (n + ys.length) cap * j.bytes ≤ 281474976710656 := growslice_fits hgrow h2
  have h63' : ¬ (9223372036854775807 < ((n : Int) + (ys.length : Int))) := by omega
  have h48' : ¬ (281474976710656 < Builtin.nextslicecap (n + ys.length) cap * j.bytes) := by omega
  refine ⟨{ w with drawn := w.drawn + 1, heap := w.heap.push (.cells (olds.toArray ++ news.toArray ++ Builtin.zeroCells zv.cells (grownCap w (n + ys.length) cap el - (n + ys.length))) el) }, grownCap w (n + ys.length) cap el, _, ?_, rfl, rfl, rfl, rfl, grownCap_ge _ _ _ _, grownCap_le_maxLen _ _ _ _ h1, rfl⟩
  have hc1 := hold w.drew rfl
  have hc2 := hm.cells w.drew rfl
  simp [Builtin.append_, run_underlying hu, run_underlying hu', hnz, sizeOf, typeInfo, zeroValue, hj, hz, hm.len w, hn, h63', h48', Question.forced, newRow, grownCap]
  rw [hc1]
  simp only [Result.andThen_ok]
  rw [hc2]
  simp only [Result.andThen_ok, ← Array.append_assoc, List.append_toArray]
  rfl
end
end Go.Sim
/- Operations, thirteenth part: the builtins. -/
namespace Go.Sim
open PV

section
variable {P : Program} {G : Gh} {B : List Loc} {e : Env} {st : St} {tm : List Value} {w : World} {x y z : PV} {v u : Value}
variable {h : Hint} {fresh : Bool} {C : Oracle} {a : Act} {o : Oper} {st' : St}

theorem ob_one {sz cap n : Nat} {nl : Bool} {xs : List PV} {ad : Addr} : ob3 ad.block (.sl sz nl true xs) (.slice (some ad) n cap) = 1 := by
  simp [ob3, cells, Value.cells, obs, ob]

/-- append to a slice whose room is ours. -/
theorem append_ok {e0 : Env} {t t' el ty : TypeId} {d : TypeDesc} {j : TypeInfo} {ys : List PV} {news : List Value} {zc : List PV} {sz : Nat} {nl : Bool} {xs : List PV} {vs vy : Value} (h0 : Sim G B e0 st tm w)
    (hs : Sim G B (.sl sz nl true xs :: e) st (vs :: tm) w) (hcnt : ∀ b, ob3 b (.sl sz nl true xs) vs + obE b e tm = obE b e0 tm)
    (hu : P.underlying t = some (.slice el)) (hu' : P.underlying t' = some d) (hd : ∀ k, d ≠ .int k) (hj : P.info? el = some j) (hzc : zeroCellsOf P el = some zc) (hzl : zc.length = j.size) (hsz : sz = j.size ∨ (xs = [] ∧ nl = true)) (hj0 : j.size ≠ 0)
    (h1 : xs.length + ys.length ≤ maxLen) (h2 : (xs.length + ys.length) * j.bytes ≤ 140737488355328) (hm : More P G w j.size ys vy news) :
    ∃ cv w', (Builtin.append_ #[t, t'] ty #[vs, vy]).run P w = .ok cv w' ∧ ∃ G', Step G B e0 st tm w G' B (.sl j.size (nl && ys.isEmpty) true (xs ++ ys) :: e) st (cv :: tm) w' := by
  obtain ⟨i, zv, hi, hz, z1, z2⟩ := zeroCellsOf_ok hzc
  rw [hj] at hi; cases hi
  have hzs : zv.cells.size = j.size := by simp at z1; omega
  obtain ⟨hv0, ho0⟩ := hs.rel 0 _ _ rfl rfl
  have hv1 := hv0
  obtain ⟨a0, cap, e1, e2, e3, e4, e5⟩ := hv1
  subst e1
  cases a0 with
  | none =>
    obtain ⟨rfl, rfl, rfl⟩ := e5
    by_cases hys : ys = []
    · subst hys
      refine ⟨.slice none 0 0, w, run_append_nil' hu hu' hd hj hm rfl, G, ?_⟩
      have hob : ∀ b, ob3 b (.sl j.size true true []) (.slice none 0 0) = 0 := fun b => by simp [ob3, cells, Value.cells, obs, ob]
      refine Step.same (hs.drop.push (x := .sl j.size true true []) (v := .slice none 0 0) ⟨none, 0, rfl, by simp, by simp [maxLen], by simp, rfl, rfl, rfl⟩ (fun i y u hy hu => ?_) fun b => ?_) fun b => ?_
      · cases i <;> simp [cells, Value.cells] at hy hu
        subst hy; subst hu; trivial
      · rw [hob]; have := hs.uniq b; simp only [obE] at this; omega
      · have := hcnt b; simp only [List.append_nil, List.isEmpty_nil, Bool.and_self, obE, hob]; omega
    · have hpos : 0 < ys.length := List.length_pos_iff.2 hys
      obtain ⟨w', cap', c, r1, r2, r3, r4, r5, r6, r7, r8⟩ := run_append_grow' (ty := ty) (olds := []) hu hu' hd hj hz hm (base := none) (n := 0) (cap := 0) (fun w' _ => by simp [Builtin.firstCells]) (by omega) (by simpa using h1) (by simpa using h2)
      rw [Nat.zero_add] at r1 r6 r8
      have hce : c.size = cap' * j.size := by
        rw [r8]
        simp only [Array.size_append, List.size_toArray, List.length_nil, hm.nlen, size_zeroCells, hzs]
        rw [Nat.zero_add, ← Nat.add_mul]; congr 1; omega
      have hcl : ∀ (i : Nat), i < (ys.flatMap cells).length → c[i]? = news[i]? := fun i hi => by
        have hfl := length_flatMap_cells hm.esz
        have hnl := hm.nlen
        rw [r8, Array.getElem?_append_left (by simp; omega)]; simp
      have hne : ys.isEmpty = false := by cases ys <;> simp at hys ⊢
      have := Step.ofNewRow (own := true) (sz := j.size) (cap := cap') (xs := ys) h0 hs.drop (fun b => by have := hcnt b; omega) c el (0, 0) r2 r3 r4 r5 hm.esz hm.plain (by rw [length_flatMap_cells hm.esz, hce]; exact Nat.mul_le_mul_right _ r6)
        (fun i x v hx hv => hm.rel i x v hx (by rw [← hcl i (List.getElem?_eq_some_iff.1 hx).1]; exact hv)) r6 r7 (fun _ => ⟨rfl, hce, hj0⟩)
      exact ⟨.slice (some ⟨w.heap.size, 0, none⟩) ys.length cap', w', by simpa using r1, _, by simpa [hne] using this⟩
  | some ad =>
    have ho1 : O1 G w (.sl sz nl true xs) (.slice (some ad) xs.length cap) := ho0 0 _ _ rfl rfl
    obtain ⟨_, rfl, had, hz0, hnc, hcm, hxc, hG, hlen, c, el0, q1, q2⟩ := row_of_own (B := B) hv0 ho1
    have hsz' : sz = j.size := by rcases hsz with h | ⟨_, h⟩; exact h; cases h
    subst hsz'
    have hobd : 0 < obE ad.block e0 tm := by have := hcnt ad.block; rw [ob_one] at this; omega
    by_cases hroom : xs.length + ys.length ≤ cap
    · obtain ⟨w', c', r1, r2, r3, r4, r5, r6, r7, r8⟩ := run_append_room' (ty := ty) hu hu' hd hj hm (g := ad.block) (n := xs.length) (cap := cap) q1 (fun k _ hh => by simp at hh) hroom q2
      rw [← had] at r1
      refine ⟨_, w', r1, ?_⟩
      obtain ⟨G', s1, s2⟩ := hs.growRow (ys := ys) hm.esz (fun y hy => List.all_eq_true.2 fun c hc => hm.plain c (List.mem_flatMap.2 ⟨y, hy, hc⟩)) news (by rw [hm.nlen, length_flatMap_cells hm.esz]) hm.rel hroom q1 r2 r3 r4 r5 r6 r7 r8
      refine ⟨G', ?_⟩
      have hcells : B.map (cellsAt w') = B.map (cellsAt w) := by
        apply List.map_congr_left
        intro l hl
        refine cellsAt_congr l (r4 _ fun he => ?_)
        have := (hs.boxLt hl).2
        rw [he, hG] at this; cases this
      simp only [Bool.false_and]
      refine ⟨s1, s2.weaken fun b hb => .inl (by subst hb; omega), fun b hb => ?_, fun l hl => .inr hl, fun l hl => Out.same (r4 _ fun he => ?_)⟩
      · refine .inl (.inl ?_)
        rw [hcells] at hb
        have := hcnt b
        have h3 : ob3 b (.sl j.size false true (xs ++ ys)) (.slice (some ad) (xs.length + ys.length) cap) = ob3 b (.sl j.size false true xs) (.slice (some ad) xs.length cap) := by
          simp [ob3, cells, Value.cells, obs, ob]
        simp only [obE, h3] at hb
        omega
      · have := (hs.boxLt hl).2
        rw [he, hG] at this; cases this
    · have hold : ∀ w', w'.heap = w.heap → (Builtin.firstCells j.size xs.length (.slice (some ad) xs.length cap)).run P w' = .ok (c.toList.take (xs.length * j.size)).toArray w' := fun w' hh => by
        refine run_firstCells_some (P := P) w' j.size xs.length ad xs.length cap _ (by simp; rw [q2]; exact Nat.min_eq_left (Nat.mul_le_mul_right _ hnc)) fun k v hv => ?_
        rw [List.getElem?_take] at hv
        split at hv
        · rw [had, add_flat]
          simp only [World.cell?, hh, q1]
          simpa using hv
        · cases hv
      obtain ⟨w', cap', c2, r1, r2, r3, r4, r5, r6, r7, r8⟩ := run_append_grow' (ty := ty) hu hu' hd hj hz hm hold (by omega) h1 h2
      have hol : (c.toList.take (xs.length * j.size)).length = xs.length * j.size := by simp; rw [q2]; exact Nat.min_eq_left (Nat.mul_le_mul_right _ hnc)
      have hce : c2.size = cap' * j.size := by
        rw [r8]
        simp only [Array.size_append, List.size_toArray, hol, hm.nlen, size_zeroCells, hzs]
        rw [← Nat.add_mul, ← Nat.add_mul]; congr 1; omega
      have hfl := length_flatMap_cells hm.esz
      have hnl := hm.nlen
      have hesz : ∀ x ∈ xs ++ ys, x.cells.length = j.size := fun x hx => by
        rcases List.mem_append.1 hx with hx | hx
        · exact hxc x hx
        · exact hm.esz x hx
      obtain ⟨c0, el1, fr1, t1, t2, t3⟩ := hs.rows _ _ hG
      rw [q1] at t1; cases t1
      have := Step.ofNewRow (own := true) (sz := j.size) (cap := cap') (xs := xs ++ ys) h0 hs.drop (fun b => by have := hcnt b; omega) c2 el (0, 0) r2 r3 r4 r5 hesz
        (fun x hx => by
          rw [List.flatMap_append] at hx
          rcases List.mem_append.1 hx with hx | hx
          · obtain ⟨i, hi⟩ := List.getElem?_of_mem hx
            exact (t3 i x hi).1
          · exact hm.plain x hx) (by rw [length_flatMap_cells hesz, List.length_append, hce]; exact Nat.mul_le_mul_right _ r6)
        (fun i x v hx hv => by
          rw [List.flatMap_append, List.getElem?_append] at hx
          rw [r8] at hv
          split at hx
          · rename_i hlt
            rw [Array.append_assoc, Array.getElem?_append_left (by simp only [List.size_toArray]; omega)] at hv
            rw [List.getElem?_toArray, List.getElem?_take, if_pos (by omega), Array.getElem?_toList] at hv
            obtain ⟨_, v', m1, m2, m3⟩ := t3 i x hx
            rw [m1] at hv; cases hv; exact ⟨m2, m3⟩
          · rename_i hge
            have hil := (List.getElem?_eq_some_iff.1 hx).1
            rw [Array.getElem?_append_left (by simp only [List.size_toArray, Array.size_append]; omega), Array.getElem?_append_right (by simp only [List.size_toArray]; omega), List.getElem?_toArray] at hv
            rw [List.size_toArray, hol] at hv
            rw [hlen] at hx
            exact hm.rel _ x v hx hv)
        (by simpa using r6) r7 (fun _ => ⟨rfl, hce, hj0⟩)
      exact ⟨_, w', r1, _, by simpa using this⟩
end
end Go.Sim
/- Operations, fourteenth part: the builtins, as operations. -/
namespace Go.Sim
open PV

section
variable {P : Program} {G : Gh} {B : List Loc} {e : Env} {st : St} {tm : List Value} {w : World} {x y z : PV} {v u : Value}
variable {h : Hint} {fresh : Bool} {C : Oracle} {a : Act} {o : Oper} {st' : St}

theorem run_builtin {c : Call} {b : Builtin} (ho : o.op = .call c) (hb : c.callee = .builtin b) :
    (execOp a.eval o).run P w = (Go.builtin b c.argTypes o.type (c.args.map fun | .const _ => true | _ => false) (c.args.map a.eval)).run P w := by
  simp only [execOp, ho, resolve, hb, Sem.run_bind, Sem.run_pure, Result.andThen_ok, invoke]
  rfl

theorem args_one {c : Call} {args : List PV} {x : PV} (hx : pargs (peval e) c.args.toList = some args) (h : args = [x]) : ∃ p, c.args = #[p] ∧ peval e p = some x := by
  subst h
  obtain ⟨h1, h2⟩ := pargs_spec hx
  have : c.args.toList.length = 1 := by simpa using h1.symm
  match hc : c.args.toList, this with
  | [p], _ => exact ⟨p, by apply Array.ext'; rw [hc], h2 0 p x (by rw [hc]; rfl) rfl⟩
theorem args_two {c : Call} {args : List PV} {x y : PV} (hx : pargs (peval e) c.args.toList = some args) (h : args = [x, y]) : ∃ p q, c.args = #[p, q] ∧ peval e p = some x ∧ peval e q = some y := by
  subst h
  obtain ⟨h1, h2⟩ := pargs_spec hx
  have : c.args.toList.length = 2 := by simpa using h1.symm
  match hc : c.args.toList, this with
  | [p, q], _ => exact ⟨p, q, by apply Array.ext'; rw [hc], h2 0 p x (by rw [hc]; rfl) rfl, h2 1 q y (by rw [hc]; rfl) rfl⟩
theorem types_of {c : Call} {ts : List TypeId} (h : c.argTypes.toList = ts) : c.argTypes = ts.toArray := by
  apply Array.ext'; rw [h]

theorem does_builtin (hs : Sim G B e st a.tmps.toList w) {c : Call} {b : Builtin} (ho : o.op = .call c) (hb : c.callee = .builtin b) (hv : osem P C h fresh o (peval e) st = some (x, st')) : Goal P h G B e st a w o x st' := by
  simp only [osem, ho, hb] at hv
  obtain ⟨args, hargs, hv1⟩ := Option.bind_eq_some_iff.1 hv
  clear hv
  have fin : ∀ {cv : Value}, (execOp a.eval o).run P w = .ok (.value cv) w → CRel G B x cv → x.dem = x → st' = st → sheds h o = [] → Goal P h G B e st a w o x st' := by
    intro cv h1 h2 h3 h4 h5
    subst h4
    refine Does.value h1 ⟨G, B, ?_, Ble.refl _⟩
    rw [h5]
    exact Step.pure hs h2.toVRel h3
  split at hv1
  · -- a written slice grows
    split at hv1
    · rename_i t t' y z hts
      split at hv1
      · rename_i e' hu'
        obtain ⟨p, q, hc, hp, hq⟩ := args_two hargs rfl
        have htt := types_of hts
        unfold pappendW at hv1
        obtain ⟨el, hel, hv2⟩ := Option.bind_eq_some_iff.1 hv1
        obtain ⟨j, hj, hv3⟩ := Option.bind_eq_some_iff.1 hv2
        clear hv1 hv2
        have hu := elemOf_ok hel
        split at hv3
        · rename_i bx off n
          obtain ⟨ys, hys, hv4⟩ := Option.bind_eq_some_iff.1 hv3
          obtain ⟨cs, hcs, hv5⟩ := Option.bind_eq_some_iff.1 hv4
          obtain ⟨zc, hzc, hv6⟩ := Option.bind_eq_some_iff.1 hv5
          clear hv3 hv4 hv5
          split at hv6
          · rename_i hcond
            obtain ⟨c1, c2, c2', c3, c4, c5⟩ := hcond
            have hr := (eval_rel hs hp).1
            have hr0 := hr
            obtain ⟨l, cap, m1, m2, m3, m4, m5, m6⟩ := hr
            have hcap : n = cap := (m6 rfl).symm
            subst hcap
            obtain ⟨cc, el0, fr, q1, q2, q3, q4, q5⟩ := box_cells hs m1 hcs
            obtain ⟨news, hm⟩ := pelems_ok hs (eval_rel hs hq).1 hys
            obtain ⟨i, zv, hi, hz, z1, z2⟩ := zeroCellsOf_ok hzc
            rw [hj] at hi; cases hi
            have hzs : zv.cells.size = j.size := by simp at z1; omega
            have hnd : ∀ k, (TypeDesc.slice e') ≠ .int k := by simp
            have hsh : sheds h o = tmpOf p := by simp [sheds, ho, hb, hc]
            obtain ⟨n1, n2⟩ := hs.takeOp hp
            have hrunE : (execOp a.eval o).run P w = ((Builtin.append_ #[t, t'] o.type #[a.eval p, a.eval q]).run P w).andThen fun v w' => .ok (.value v) w' := by
              rw [run_builtin ho hb, hc, htt]; simp [Go.builtin]
            by_cases hys0 : ys = []
            · rw [if_pos hys0] at hv6
              simp only [Option.some.injEq, Prod.mk.injEq] at hv6
              rw [← hv6.1, ← hv6.2]
              have hl0 := hm.len w
              have hc0 := hm.cells w rfl
              have hlz : ys.length = 0 := by rw [hys0]; rfl
              have hn0 : news = [] := by have := hm.nlen; rw [hlz] at this; simpa using this
              rw [hlz] at hl0 hc0
              rw [hn0] at hc0
              have hrun : (Builtin.append_ #[t, t'] o.type #[a.eval p, a.eval q]).run P w = .ok (a.eval p) w := by
                rw [m2]
                simp [Builtin.append_, run_underlying hu, run_underlying hu', sizeOf, typeInfo, hj]
                rw [hl0]
                simp
                rw [hc0]
                simp [storeCells]
              refine Does.value (cv := a.eval p) (w' := w) (by rw [hrunE, hrun]; rfl) ⟨G, B, ?_, Ble.refl _⟩
              rw [hsh]
              refine Step.same n1 fun b => ?_
              have := n2 b
              simp only [obE]; omega
            · rw [if_neg hys0] at hv6
              simp only [Option.some.injEq, Prod.mk.injEq] at hv6
              rw [← hv6.1, ← hv6.2]
              have hpos : 0 < ys.length := List.length_pos_iff.2 hys0
              have hpl' : ∀ c ∈ (cs.drop off).take n, (dem1 c).plain1 = true := fun c hc => List.all_eq_true.1 c2 c hc
              have hcsl : ((cs.drop off).take n).length = n := by simp; omega
              have hol : ((cc.toList.drop (l.off + off)).take n).length = n := by simp; omega
              have hold : ∀ w', w'.heap = w.heap → (Builtin.firstCells j.size n (.slice (some ⟨l.blk, l.off + off, none⟩) n n)).run P w' = .ok ((cc.toList.drop (l.off + off)).take n).toArray w' := fun w' hh => by
                refine run_firstCells_some (P := P) w' j.size n _ n n _ (by rw [hol, c3]; omega) fun k v hv => ?_
                rw [List.getElem?_take] at hv
                split at hv
                · rw [List.getElem?_drop] at hv
                  rw [add_flat]
                  simp only [World.cell?, hh, q1]
                  simpa using hv
                · cases hv
              obtain ⟨w', cap', c', r1, r2, r3, r4, r5, r6, r7, r8⟩ := run_append_grow' (ty := o.type) hu hu' hnd hj hz hm hold (by omega) c4 c5
              rw [← m2] at r1
              have hnl := hm.nlen
              have hyf : ys.flatMap cells = ys := flatMap_scalars fun y hy => (plain1_scalar (List.all_eq_true.1 c2' y hy)).1
              have hce : c'.size = cap' := by
                rw [r8]
                simp only [Array.size_append, List.size_toArray, hol, hnl, size_zeroCells, hzs, c3]
                omega
              have hget : ∀ i, i < n + ys.length → c'[i]? = (((cc.toList.drop (l.off + off)).take n) ++ news)[i]? := fun i hi => by
                rw [r8, Array.getElem?_append_left (by simp only [Array.size_append, List.size_toArray, hol, hnl, c3]; omega)]
                simp
              have hbl : (((cs.drop off).take n).map dem1 ++ ys).length = n + ys.length := by rw [List.length_append, List.length_map, hcsl]
              refine Does.value (cv := .slice (some ⟨w.heap.size, 0, none⟩) (n + ys.length) cap') (w' := w') (by rw [hrunE, r1]; rfl) ⟨G, B ++ [⟨w.heap.size, 0, (((cs.drop off).take n).map dem1 ++ ys).length⟩], ?_, Ble.append _ _⟩
              rw [hsh]
              have hp1 : ∀ c ∈ ((cs.drop off).take n).map dem1 ++ ys, c.plain1 = true := fun c hc => by
                rcases List.mem_append.1 hc with hc | hc
                · obtain ⟨c0, hc0, rfl⟩ := List.mem_map.1 hc; exact hpl' c0 hc0
                · exact List.all_eq_true.1 c2' c hc
              have hdm : (((cs.drop off).take n).map dem1 ++ ys).map dem1 = ((cs.drop off).take n).map dem1 ++ ys := by
                conv => rhs; rw [← List.map_id (((cs.drop off).take n).map dem1 ++ ys)]
                exact List.map_congr_left fun c hc => (plain1_scalar (hp1 c hc)).2
              refine Step.ofNewBox hs n1.drop c' el (0, 0) r2 r3 r4 r5 (by simp) (by rw [hbl, hce]; exact r6) (fun i y v hy hv => ?_) (by rw [← hdm]; exact Os_dem1 _ _ _ _) (fun b' => ?_) (fun B' hB' => ⟨_, cap', hB', rfl, r6, r7, by rw [hbl]; simp, fun hh => by cases hh⟩) rfl
              · have hil := (List.getElem?_eq_some_iff.1 hy).1
                rw [hget i (by omega)] at hv
                rw [List.getElem?_append] at hy hv
                rw [List.length_map, hcsl] at hy
                rw [hol] at hv
                split at hy
                · rename_i hlt
                  rw [if_pos hlt] at hv
                  rw [List.getElem?_map] at hy
                  obtain ⟨c0, hc0, rfl⟩ := Option.map_eq_some_iff.1 hy
                  rw [List.getElem?_take, if_pos hlt, List.getElem?_drop] at hc0 hv
                  obtain ⟨v0, t1, t2, t3⟩ := q5 _ _ hc0
                  rw [Array.getElem?_toList, show l.off + off + i = l.off + (off + i) by omega, t1] at hv
                  cases hv
                  exact ⟨t2, CRel_dem1.2 t3⟩
                · rename_i hge
                  rw [if_neg hge] at hv
                  obtain ⟨t1, t2⟩ := hm.rel (i - n) y v (by rw [hyf]; exact hy) hv
                  exact ⟨t1, t2.plain (hp1 y (List.mem_append_right _ (List.mem_of_getElem? hy)))⟩
              · have := n2 b'
                rw [← hdm, obs_dem1]
                omega
          · cases hv6
        · cases hv3
      · cases hv1
    · cases hv1
  · obtain ⟨z, hz, hv2⟩ := Option.map_eq_some_iff.1 hv1
    simp only [Prod.mk.injEq] at hv2
    obtain ⟨rfl, rfl⟩ := hv2
    clear hv1
    unfold pbuiltin at hz
    split at hz
    · split at hz
      · rename_i x0 t hts
        obtain ⟨p, hc, hp⟩ := args_one hargs rfl
        have htt := types_of hts
        have hr := (eval_rel hs hp).1
        have hsh : sheds h o = [] := by simp [sheds, ho, hb]
        split at hz
        · rename_i s hu
          cases hz
          have hr' : a.eval p = .string ⟨s.toArray⟩ := hr
          have hsz : (⟨s.toArray⟩ : ByteArray).size = s.length := by simp [ByteArray.size]
          exact fin (cv := .int .i64 s.length) (by rw [run_builtin ho hb, hc, htt]; simp [Go.builtin, Builtin.len_, run_underlying hu, hr', goInt, hsz]) rfl rfl rfl hsh
        · rename_i el sz nl own xs hu
          cases hz
          obtain ⟨ad, cap, m1, _⟩ := hr
          exact fin (cv := .int .i64 xs.length) (by rw [run_builtin ho hb, hc, htt]; simp [Go.builtin, Builtin.len_, run_underlying hu, m1, goInt]) rfl rfl rfl hsh
        · rename_i el sz fl bx off n hu
          cases hz
          obtain ⟨l, cap, _, m1, _⟩ := hr
          exact fin (cv := .int .i64 n) (by rw [run_builtin ho hb, hc, htt]; simp [Go.builtin, Builtin.len_, run_underlying hu, m1, goInt]) rfl rfl rfl hsh
        · cases hz
      · cases hz
    · split at hz
      · rename_i x0 y0 t t' hts
        obtain ⟨p, q, hc, hp, hq⟩ := args_two hargs rfl
        have htt := types_of hts
        split at hz
        · cases hz
        · rename_i d hnd hu'
          unfold pappend at hz
          obtain ⟨el, hel, hz1⟩ := Option.bind_eq_some_iff.1 hz
          obtain ⟨j, hj, hz2⟩ := Option.bind_eq_some_iff.1 hz1
          clear hz hz1
          have hu := elemOf_ok hel
          split at hz2
          · rename_i sz nl own xs
            obtain ⟨ys, hys, hz3⟩ := Option.bind_eq_some_iff.1 hz2
            obtain ⟨zc, hzc, hz4⟩ := Option.bind_eq_some_iff.1 hz3
            split at hz4
            · rename_i hcond
              obtain ⟨c0, c1, c2, c3, c4, c5⟩ := hcond
              simp only [Option.some.injEq] at hz4
              subst hz4
              subst c1
              obtain ⟨news, hm⟩ := pelems_ok hs (eval_rel hs hq).1 hys
              obtain ⟨n1, n2⟩ := hs.takeOp hp
              have hsh : sheds h o = tmpOf p := by simp [sheds, ho, hb, hc]
              obtain ⟨cv, w', r1, G', r2⟩ := append_ok (ty := o.type) hs n1 n2 hu hu' (fun k hk => hnd k (by rw [hk])) hj hzc c0 c2 c3 c4 c5 hm
              refine Does.value (cv := cv) (w' := w') ?_ ⟨G', B, by rw [hsh]; exact r2, Ble.refl _⟩
              rw [run_builtin ho hb, hc, htt]
              simp [Go.builtin, r1]
            · cases hz4
          · cases hz2
        · cases hz
      · cases hz
    · rename_i k m j n
      obtain ⟨p, q, hc, hp, hq⟩ := args_two hargs rfl
      split at hz
      · rename_i hkj
        cases hz
        subst hkj
        have hr1 : a.eval p = _ := (eval_rel hs hp).1
        have hr2 : a.eval q = _ := (eval_rel hs hq).1
        exact fin (cv := .int k (if n < m then n else m)) (by rw [run_builtin ho hb, hc]; simp [Go.builtin, Builtin.min_, Builtin.min2, hr1, hr2]) rfl rfl rfl (by simp [sheds, ho, hb])
      · cases hz
    · rename_i k m j n
      obtain ⟨p, q, hc, hp, hq⟩ := args_two hargs rfl
      split at hz
      · rename_i hkj
        cases hz
        subst hkj
        have hr1 : a.eval p = _ := (eval_rel hs hp).1
        have hr2 : a.eval q = _ := (eval_rel hs hq).1
        exact fin (cv := .int k (if n > m then n else m)) (by rw [run_builtin ho hb, hc]; simp [Go.builtin, Builtin.max_, Builtin.max2, hr1, hr2]) rfl rfl rfl (by simp [sheds, ho, hb])
      · cases hz
    · cases hz
end
end Go.Sim
/- Calls, first part: cells are lent and given back; what others keep. -/
namespace Go.Sim
open PV

theorem ob_undef (b : Nat) (v : Value) : ob b PV.undef v = 0 := by simp [ob]

theorem obs_mono (b : Nat) : ∀ (cs' cs : List PV) (vs : List Value), (∀ (j : Nat) y, cs'[j]? = some y → y = PV.undef ∨ cs[j]? = some y) → obs b cs' vs ≤ obs b cs vs
  | [], _, _, _ => by simp [obs]
  | _ :: _, _, [], _ => by simp [obs]
  | x :: xs, [], v :: vs, h => by
    have h0 := h 0 x rfl
    have h1 := obs_mono b xs [] vs fun j y hy => by have := h (j + 1) y hy; simpa using this
    rcases h0 with rfl | h0
    · simp only [obs, ob_undef]; simp [obs] at h1; omega
    · simp at h0
  | x :: xs, z :: zs, v :: vs, h => by
    have h0 := h 0 x rfl
    have h1 := obs_mono b xs zs vs fun j y hy => by have := h (j + 1) y hy; simpa using this
    rcases h0 with rfl | h0
    · simp only [obs, ob_undef]; omega
    · simp at h0; subst h0; simp only [obs]; omega

theorem obs_agree (b : Nat) : ∀ (cs : List PV) (vs us : List Value), (∀ (j : Nat) x, cs[j]? = some x → x ≠ PV.undef → vs[j]? = us[j]?) → vs.length = us.length → obs b cs vs = obs b cs us
  | [], _, _, _, _ => by simp [obs]
  | _ :: _, [], [], _, _ => by simp [obs]
  | _ :: _, [], _ :: _, _, h => by simp at h
  | _ :: _, _ :: _, [], _, h => by simp at h
  | x :: xs, v :: vs, u :: us, h, hl => by
    have h1 := obs_agree b xs vs us (fun j y hy hn => by have := h (j + 1) y hy hn; simpa using this) (by simpa using hl)
    simp only [obs, h1]
    by_cases hx : x = PV.undef
    · subst hx; simp [ob_undef]
    · have := h 0 x rfl hx
      simp at this; subst this; rfl

section
variable {P : Program} {G : Gh} {B : List Loc} {e : Env} {st : St} {tm : List Value} {w : World} {x y z : PV} {v u : Value}

theorem map_set_same {i : Nat} {l : Loc} (w : World) (hl : B[i]? = some l) : (B.map (cellsAt w)).set i (cellsAt w l) = B.map (cellsAt w) := by
  have hBi : i < B.length := (List.getElem?_eq_some_iff.1 hl).1
  apply List.ext_getElem?
  intro j
  by_cases hj : j = i
  · subst hj; rw [List.getElem?_set_self (by simpa using hBi), List.getElem?_map, hl]; rfl
  · rw [List.getElem?_set_ne (Ne.symm hj)]

/-- Some cells of a box are forgotten. -/
theorem Sim.boxForget (h : Sim G B e st tm w) {i : Nat} {l : Loc} {cs cs' : List PV} (hl : B[i]? = some l) (hc : st[i]? = some cs) (hlen : cs'.length = cs.length)
    (hsub : ∀ (j : Nat) y, cs'[j]? = some y → y = PV.undef ∨ cs[j]? = some y) :
    Sim G B e (st.set i cs') tm w ∧ ∀ b, obB b (st.set i cs') (B.map (cellsAt w)) ≤ obB b st (B.map (cellsAt w)) := by
  have hb := h.boxes i l cs hl hc
  have hst : i < st.length := (List.getElem?_eq_some_iff.1 hc).1
  have hcnt : ∀ b, obB b (st.set i cs') (B.map (cellsAt w)) ≤ obB b st (B.map (cellsAt w)) := fun b => by
    have u2 := obB_set_le b cs' (cellsAt w l) st (B.map (cellsAt w)) i cs (cellsAt w l) hc (by rw [List.getElem?_map, hl]; rfl)
    rw [map_set_same w hl] at u2
    have u3 := obs_mono b cs' cs (cellsAt w l) hsub
    omega
  refine ⟨{ h with
      blen := by simp [h.blen]
      boxes := fun j m ks hm hks => by
        by_cases hj : j = i
        · subst hj
          rw [hl] at hm; cases hm
          rw [List.getElem?_set_self hst] at hks; cases hks
          refine ⟨hb.row, hb.heap, by rw [hlen]; exact hb.len, ?_, ?_⟩
          · intro j y u hy hu
            rcases hsub j y hy with rfl | hz
            · obtain ⟨z, hz⟩ : ∃ z, cs[j]? = some z := ⟨_, List.getElem?_eq_getElem (by rw [← hlen]; exact (List.getElem?_eq_some_iff.1 hy).1)⟩
              exact ⟨(hb.cells j z u hz hu).1, trivial⟩
            · exact hb.cells j y u hz hu
          · intro j y u hy hu
            rcases hsub j y hy with rfl | hz
            · simp [O1]
            · exact hb.own j y u hz hu
        · rw [List.getElem?_set_ne (Ne.symm hj)] at hks
          exact h.boxes j m ks hm hks
      uniq := fun b => by have := h.uniq b; have := hcnt b; omega }, hcnt⟩

/-- Cells are lent: taken out of the box. -/
theorem Sim.lend (h : Sim G B e st tm w) {i k n : Nat} {l : Loc} {cs : List PV} (hl : B[i]? = some l) (hc : st[i]? = some cs) (hk : k + n ≤ cs.length) :
    Sim G B (.agg ((cs.drop k).take n) :: e) (st.set i (setCells cs k (List.replicate n PV.undef))) (.agg (((cellsAt w l).drop k).take n).toArray :: tm) w ∧
    ∀ b, obs b ((cs.drop k).take n) (((cellsAt w l).drop k).take n) + obB b (st.set i (setCells cs k (List.replicate n PV.undef))) (B.map (cellsAt w)) ≤ obB b st (B.map (cellsAt w)) := by
  have hb := h.boxes i l cs hl hc
  have hst : i < st.length := (List.getElem?_eq_some_iff.1 hc).1
  obtain ⟨c, el, fr, q1, q2, q3⟩ := hb.heap
  have hlen : cs.length = (cellsAt w l).length := by rw [cellsAt_length q1 q2]; exact hb.len
  obtain ⟨s1, s2⟩ := h.boxTake (x := .agg ((cs.drop k).take n)) (v := .agg (((cellsAt w l).drop k).take n).toArray) hl hc hk (by simp) rfl rfl
    ⟨_, rfl, by simp; omega, fun j y u hy hu => by
      simp only [List.getElem?_toArray] at hu
      rw [List.getElem?_take] at hy hu
      split at hy
      · rename_i hj
        rw [if_pos hj] at hu
        rw [List.getElem?_drop] at hy hu
        exact (hb.cells _ y u hy hu).2
      · cases hy⟩
  have hdl : (demCells cs k n).length = cs.length := by unfold demCells; simp; omega
  obtain ⟨t1, t2⟩ := s1.boxForget (cs' := setCells cs k (List.replicate n PV.undef)) hl (List.getElem?_set_self hst) (by rw [length_setCells, hdl]) fun j y hy => by
    rw [getElem?_setCells _ _ _ _ (by simp; omega)] at hy
    split at hy
    · left
      rw [List.getElem?_replicate] at hy
      split at hy <;> simp_all
    · rename_i hj
      right
      rw [← hy]
      unfold demCells
      simp only [List.length_replicate] at hj
      rw [List.append_assoc, List.getElem?_append]
      split
      · rename_i hj1
        rw [List.length_take] at hj1
        rw [List.getElem?_take, if_pos (by omega)]
      · rename_i hj1
        rw [List.getElem?_append, if_neg (by simp at hj1 ⊢; omega), List.getElem?_drop]
        congr 1
        simp at hj1 ⊢; omega
  rw [List.set_set] at t1 t2
  refine ⟨t1, fun b => ?_⟩
  have := s2 b
  have := t2 b
  have h3 : ob3 b (.agg ((cs.drop k).take n)) (.agg (((cellsAt w l).drop k).take n).toArray) = obs b ((cs.drop k).take n) (((cellsAt w l).drop k).take n) := rfl
  omega

/-- Cells come back into the box: they lie there already. -/
theorem Sim.unlend {xs : List PV} {us : Array Value} (h : Sim G B (.agg xs :: e) st (.agg us :: tm) w) {i k : Nat} {l : Loc} {cs : List PV} (hl : B[i]? = some l) (hc : st[i]? = some cs) (hk : k + xs.length ≤ cs.length)
    (hu : us.toList = ((cellsAt w l).drop k).take xs.length) :
    Sim G B e (st.set i (setCells cs k xs)) tm w ∧ ∀ b, obB b (st.set i (setCells cs k xs)) (B.map (cellsAt w)) ≤ obs b xs us.toList + obB b st (B.map (cellsAt w)) := by
  have hb := h.boxes i l cs hl hc
  have hst : i < st.length := (List.getElem?_eq_some_iff.1 hc).1
  obtain ⟨c, el, fr, q1, q2, q3⟩ := hb.heap
  have hlen : cs.length = (cellsAt w l).length := by rw [cellsAt_length q1 q2]; exact hb.len
  obtain ⟨r1, r2⟩ := h.rel 0 _ _ rfl rfl
  obtain ⟨us', hus, r3, r4⟩ := r1
  cases hus
  have hself : setCells (cellsAt w l) k us.toList = cellsAt w l := by
    apply List.ext_getElem?
    intro j
    rw [getElem?_setCells _ _ _ _ (by rw [hu]; simp; omega)]
    split
    · rename_i hj
      rw [hu] at hj ⊢
      simp only [List.length_take, List.length_drop] at hj
      rw [List.getElem?_take, if_pos (by omega), List.getElem?_drop]
      congr 1; omega
    · rfl
  have hcnt : ∀ b, obB b (st.set i (setCells cs k xs)) (B.map (cellsAt w)) ≤ obs b xs us.toList + obB b st (B.map (cellsAt w)) := fun b => by
    have u2 := obB_set_le b (setCells cs k xs) (cellsAt w l) st (B.map (cellsAt w)) i cs (cellsAt w l) hc (by rw [List.getElem?_map, hl]; rfl)
    rw [map_set_same w hl] at u2
    have u3 := obs_setCells_le b xs us.toList cs (cellsAt w l) k (by simpa using r3)
    rw [hself] at u3
    omega
  have h3 : ∀ b, ob3 b (.agg xs) (.agg us) = obs b xs us.toList := fun b => rfl
  have hd := h.drop
  refine ⟨{ hd with
      blen := by simp [h.blen]
      boxes := fun j m ks hm hks => by
        by_cases hj : j = i
        · subst hj
          rw [hl] at hm; cases hm
          rw [List.getElem?_set_self hst] at hks; cases hks
          have key : ∀ (j : Nat) y, (setCells cs k xs)[j]? = some y → cs[j]? = some y ∨ ∃ n, j = k + n ∧ n < xs.length ∧ xs[n]? = some y := fun j y hy => by
            rw [getElem?_setCells _ _ _ _ hk] at hy
            split at hy
            · exact .inr ⟨j - k, by omega, by omega, hy⟩
            · exact .inl hy
          have usn : ∀ n, n < xs.length → us[n]? = (cellsAt w l)[k + n]? := fun n hn => by
            rw [← Array.getElem?_toList, hu, List.getElem?_take, if_pos hn, List.getElem?_drop]
          refine ⟨hb.row, hb.heap, by rw [length_setCells]; exact hb.len, ?_, ?_⟩
          · intro j y u hy hv
            obtain ⟨z, hz⟩ : ∃ z, cs[j]? = some z := ⟨_, List.getElem?_eq_getElem (by rw [← length_setCells xs cs k]; exact (List.getElem?_eq_some_iff.1 hy).1)⟩
            rcases key j y hy with h1 | ⟨n, rfl, hn, h1⟩
            · exact hb.cells j y u h1 hv
            · exact ⟨(hb.cells _ z u hz hv).1, r4 n y u h1 (by rw [usn n hn]; exact hv)⟩
          · intro j y u hy hv
            rcases key j y hy with h1 | ⟨n, rfl, hn, h1⟩
            · exact hb.own j y u h1 hv
            · exact r2 n y u h1 (by show us.toList[n]? = _; rw [Array.getElem?_toList, usn n hn]; exact hv)
        · rw [List.getElem?_set_ne (Ne.symm hj)] at hks
          exact h.boxes j m ks hm hks
      uniq := fun b => by
        have u1 := h.uniq b
        have := hcnt b
        have := h3 b
        simp only [obE] at u1
        omega }, hcnt⟩
end

end Go.Sim
/- Calls, second part: what a call leaves alone. -/
namespace Go.Sim
open PV

section
variable {P : Program} {G : Gh} {B : List Loc} {e : Env} {st : St} {tm : List Value} {w : World} {x y z : PV} {v u : Value}

theorem obB_agree (b : Nat) : ∀ (st : St) (vs us : List (List Value)), vs.length = us.length → (∀ (i : Nat) cs x y, st[i]? = some cs → vs[i]? = some x → us[i]? = some y → obs b cs x = obs b cs y) → obB b st vs = obB b st us
  | [], _, _, _, _ => by simp [obB]
  | _ :: _, [], [], _, _ => by simp [obB]
  | _ :: _, [], _ :: _, h, _ => by simp at h
  | _ :: _, _ :: _, [], h, _ => by simp at h
  | c :: st, v :: vs, u :: us, hl, h => by
    have h1 := obB_agree b st vs us (by simpa using hl) fun i cs x y h1 h2 h3 => h (i + 1) cs x y (by simpa using h1) (by simpa using h2) (by simpa using h3)
    have h0 := h 0 c v u rfl rfl rfl
    simp only [obB, h1, h0]

/-- Others change the memory: what is known stays, where their blocks are not claimed here and the boxes' known cells are as they were. -/
theorem Sim.frame {G' : Gh} {w' : World} {M : Nat → Prop} {Bc : List Loc} {ec : Env} {stc : St} {tmc : List Value} (h : Sim G B e st tm w) (hc : Sim G' Bc ec stc tmc w') (hp : Prog G w M G' w')
    (hM : ∀ b, 0 < obE b e tm + obB b st (B.map (cellsAt w)) → ¬ M b)
    (hbx : ∀ (i : Nat) l cs, B[i]? = some l → st[i]? = some cs → ∀ c el fr, w.heap[l.blk]? = some (.cells c el fr) → ∃ c', w'.heap[l.blk]? = some (.cells c' el fr) ∧ c'.size = c.size ∧
      ∀ j, j < l.len → c'[l.off + j]? = c[l.off + j]? ∨ (cs[j]? = some PV.undef ∧ ∀ v, c'[l.off + j]? = some v → one v = true)) :
    Sim G' B e st tm w' ∧ ∀ b, obB b st (B.map (cellsAt w')) = obB b st (B.map (cellsAt w)) := by
  have hold : ∀ b pc, G b = some pc → ¬ M b → G' b = G b := fun b pc hb hm => by
    obtain ⟨m, h1, h2⟩ := hp.rows b pc hb
    rw [h2 hm, List.append_nil] at h1
    rw [h1, hb]
  have hkeep : ∀ b, 0 < obE b e tm + obB b st (B.map (cellsAt w)) → b < w.heap.size → (∃ pc, G b = some pc) → w'.heap[b]? = w.heap[b]? ∧ G' b = G b := fun b hb hlt ⟨pc, hpc⟩ =>
    ⟨hp.heap b hlt (hM b hb), hold b pc hpc (hM b hb)⟩
  have hcell : ∀ (i : Nat) l cs, B[i]? = some l → st[i]? = some cs → (cellsAt w' l).length = (cellsAt w l).length ∧ ∀ (j : Nat) x, cs[j]? = some x → x ≠ PV.undef → (cellsAt w' l)[j]? = (cellsAt w l)[j]? := fun i l cs hl hcs => by
    have hb := h.boxes i l cs hl hcs
    obtain ⟨c, el, fr, q1, q2, q3⟩ := hb.heap
    obtain ⟨c', r1, r2, r3⟩ := hbx i l cs hl hcs c el fr q1
    refine ⟨by rw [cellsAt_length q1 q2, cellsAt_length r1 (by omega)], fun j x hx hn => ?_⟩
    have hj : j < l.len := by rw [← hb.len]; exact (List.getElem?_eq_some_iff.1 hx).1
    rw [cellsAt_get q1 j hj, cellsAt_get r1 j hj]
    rcases r3 j hj with h1 | ⟨h1, _⟩
    · exact h1
    · rw [h1] at hx; cases hx; exact (hn rfl).elim
  have hcnt : ∀ b, obB b st (B.map (cellsAt w')) = obB b st (B.map (cellsAt w)) := fun b => by
    refine obB_agree b _ _ _ (by simp) fun i cs x y h1 h2 h3 => ?_
    rw [List.getElem?_map] at h2 h3
    obtain ⟨l, hl, rfl⟩ := Option.map_eq_some_iff.1 h2
    rw [hl] at h3; cases h3
    obtain ⟨k1, k2⟩ := hcell i l cs hl h1
    exact obs_agree b _ _ _ k2 k1
  refine ⟨⟨hc.rows, h.blen, h.bdis, ?_, h.elen, ?_, ?_⟩, hcnt⟩
  · intro i l cs hl hcs
    have hb := h.boxes i l cs hl hcs
    have hlt := h.boxLt (List.mem_of_getElem? hl)
    obtain ⟨c, el, fr, q1, q2, q3⟩ := hb.heap
    obtain ⟨c', r1, r2, r3⟩ := hbx i l cs hl hcs c el fr q1
    obtain ⟨k1, k2⟩ := hcell i l cs hl hcs
    refine ⟨hp.none _ hlt.1 hlt.2, ⟨c', el, fr, r1, by omega, q3⟩, hb.len, ?_, ?_⟩
    · intro j x v hx hv
      have hj : j < l.len := by rw [← hb.len]; exact (List.getElem?_eq_some_iff.1 hx).1
      rw [cellsAt_get r1 j hj] at hv
      rcases r3 j hj with h1 | ⟨h1, h2⟩
      · rw [h1, ← cellsAt_get q1 j hj] at hv
        obtain ⟨m1, m2⟩ := hb.cells j x v hx hv
        exact ⟨m1, m2.mono hp.gle (Ble.refl _)⟩
      · rw [h1] at hx; cases hx
        exact ⟨h2 v hv, trivial⟩
    · intro j x v hx hv
      by_cases hn : x = PV.undef
      · subst hn; simp [O1]
      · rw [k2 j x hx hn] at hv
        have ho := hb.own j x v hx hv
        refine ho.keep fun b hbb => ?_
        obtain ⟨m1, m2⟩ := ho.lt hbb
        refine hkeep b ?_ m1 m2
        have n1 := obs_pos (b := b) hx hv
        have n2 := obB_pos (b := b) hcs (show (B.map (cellsAt w))[i]? = some (cellsAt w l) by rw [List.getElem?_map, hl]; rfl)
        omega
  · intro t x v hx hv
    obtain ⟨h1, h2⟩ := h.rel t x v hx hv
    refine ⟨h1.mono hp.gle (Ble.refl _), h2.keep fun b hb => ?_⟩
    obtain ⟨m1, m2⟩ := h2.lt hb
    refine hkeep b ?_ m1 m2
    have n1 := obE_pos (b := b) hx hv
    omega
  · intro b; rw [hcnt]; exact h.uniq b
end

end Go.Sim
/- Calls, third part: all the boxes that a call is lent. -/
namespace Go.Sim
open PV

def subLoc (B : List Loc) (l : Lent) : Loc := match B[l.1]? with
  | some L => ⟨L.blk, L.off + l.2.1, l.2.2⟩
  | none => ⟨0, 0, 0⟩

def holes (ls : List Lent) : List (List PV) := ls.map fun l => List.replicate l.2.2 PV.undef

/-- Lent boxes are there, and no box is lent twice. -/
structure LentOk (B : List Loc) (st : St) (ls : List Lent) : Prop where
  one : (ls.map (·.1)).Nodup
  ok : ∀ l ∈ ls, ∃ L cs, B[l.1]? = some L ∧ st[l.1]? = some cs ∧ l.2.1 + l.2.2 ≤ cs.length ∧ l.2.1 + l.2.2 ≤ L.len ∧ ((cs.drop l.2.1).take l.2.2).all flat1 = true

section
variable {P : Program} {G : Gh} {B : List Loc} {e : Env} {st : St} {tm : List Value} {w : World} {x y z : PV} {v u : Value}

theorem cellsAt_sub (w : World) (L : Loc) (o n : Nat) (h : o + n ≤ L.len) : cellsAt w ⟨L.blk, L.off + o, n⟩ = ((cellsAt w L).drop o).take n := by
  unfold cellsAt
  simp only
  cases hh : w.heap[L.blk]? with
  | none => simp
  | some b =>
    cases b <;> simp only [List.drop_nil, List.take_nil]
    rw [List.drop_take, List.take_take, List.drop_drop, Nat.min_eq_left (by omega)]

theorem LentOk.tail {l : Lent} {ls : List Lent} {cs' : List PV} (h : LentOk B st (l :: ls)) : LentOk B (st.set l.1 cs') ls where
  one := by have := h.one; simp at this; exact this.2
  ok m hm := by
    obtain ⟨L, cs, h1, h2, h3⟩ := h.ok m (List.mem_cons_of_mem _ hm)
    have hne : l.1 ≠ m.1 := fun he => by
      have := h.one
      simp only [List.map_cons, List.nodup_cons] at this
      exact this.1 (he ▸ List.mem_map_of_mem hm)
    exact ⟨L, cs, h1, by rw [List.getElem?_set_ne hne]; exact h2, h3⟩

theorem lentCells_set {l : Lent} {ls : List Lent} {cs' : List PV} (h : LentOk B st (l :: ls)) : ls.map (lentCells (st.set l.1 cs')) = ls.map (lentCells st) := by
  apply List.map_congr_left
  intro m hm
  have hne : l.1 ≠ m.1 := fun he => by
    have := h.one
    simp only [List.map_cons, List.nodup_cons] at this
    exact this.1 (he ▸ List.mem_map_of_mem hm)
  unfold lentCells
  rw [List.getD_eq_getElem?_getD, List.getD_eq_getElem?_getD, List.getElem?_set_ne hne]

/-- All that is lent is taken out. -/
theorem Sim.lendAll : ∀ {ls : List Lent} {st : St}, Sim G B e st tm w → LentOk B st ls →
    Sim G B e (giveBack st ls (holes ls)) tm w ∧ ∀ b, obB b (ls.map (lentCells st)) (ls.map fun l => cellsAt w (subLoc B l)) + obB b (giveBack st ls (holes ls)) (B.map (cellsAt w)) ≤ obB b st (B.map (cellsAt w))
  | [], st, h, _ => ⟨h, fun b => by simp [obB, giveBack, holes]⟩
  | l :: ls, st, h, hl => by
    obtain ⟨L, cs, h1, h2, h3, h4, _⟩ := hl.ok l (List.mem_cons_self ..)
    obtain ⟨s1, s2⟩ := h.lend h1 h2 h3
    obtain ⟨t1, t2⟩ := s1.drop.lendAll (ls := ls) hl.tail
    have hg : st.getD l.1 [] = cs := by rw [List.getD_eq_getElem?_getD, h2]; rfl
    refine ⟨by simpa only [giveBack, holes, List.map_cons, hg] using t1, fun b => ?_⟩
    have u1 := s2 b
    have u2 := t2 b
    rw [lentCells_set hl] at u2
    have hlc : lentCells st l = (cs.drop l.2.1).take l.2.2 := by unfold lentCells; rw [hg]
    have hsl : cellsAt w (subLoc B l) = ((cellsAt w L).drop l.2.1).take l.2.2 := by
      unfold subLoc; rw [h1]; exact cellsAt_sub w L _ _ h4
    simp only [List.map_cons, obB, hlc, hsl, giveBack, holes, hg] at u2 ⊢
    omega

/-- All that was lent comes back. -/
theorem Sim.backAll {Bc : List Loc} : ∀ {ls : List Lent} {bs : List (List PV)} {st : St}, Sim G B e st tm w → (ls.map (·.1)).Nodup →
    (∀ (m : Nat) l, ls[m]? = some l → ∃ L cs xs, B[l.1]? = some L ∧ st[l.1]? = some cs ∧ bs[m]? = some xs ∧ l.2.1 + l.2.2 ≤ cs.length ∧ xs.all flat1 = true ∧ BoxOk G Bc w (subLoc B l) xs) →
    bs.length = ls.length →
    (∀ b, obB b bs (ls.map fun l => cellsAt w (subLoc B l)) + (obE b e tm + obB b st (B.map (cellsAt w))) ≤ 1) →
    Sim G B e (giveBack st ls bs) tm w ∧ ∀ b, obB b (giveBack st ls bs) (B.map (cellsAt w)) ≤ obB b bs (ls.map fun l => cellsAt w (subLoc B l)) + obB b st (B.map (cellsAt w))
  | [], _, st, h, _, _, _, _ => ⟨by simpa [giveBack] using h, fun b => by simp [giveBack]⟩
  | _ :: _, [], _, _, _, _, hlen, _ => by simp at hlen
  | l :: ls, xs :: bs, st, h, hn, hl, hlen, hu => by
    obtain ⟨L, cs, xs', h1, h2, hx, h3, h4, h5⟩ := hl 0 l rfl
    simp only [List.getElem?_cons_zero, Option.some.injEq] at hx; subst hx
    have hb := h.boxes _ L cs h1 h2
    have hsub : subLoc B l = ⟨L.blk, L.off + l.2.1, l.2.2⟩ := by unfold subLoc; rw [h1]
    have hxl : xs.length = l.2.2 := by rw [h5.len, hsub]
    have hval : cellsAt w (subLoc B l) = ((cellsAt w L).drop l.2.1).take l.2.2 := by rw [hsub]; exact cellsAt_sub w L _ _ (by rw [← hb.len]; exact h3)
    have hu0 := hu
    simp only [List.map_cons, obB] at hu
    have hp : Sim G B (.agg xs :: e) st (.agg (cellsAt w (subLoc B l)).toArray :: tm) w := by
      refine h.push ⟨_, rfl, ?_, fun j y u hy hv => ?_⟩ ?_ fun b => ?_
      · obtain ⟨c, el, fr, q1, q2, q3⟩ := h5.heap
        rw [List.size_toArray, cellsAt_length q1 q2, h5.len]
      · simp only [List.getElem?_toArray] at hv
        exact ((h5.cells j y u hy hv).2).flat1 (List.all_eq_true.1 h4 y (List.mem_of_getElem? hy))
      · exact h5.own
      · have := hu b
        show obs b xs (cellsAt w (subLoc B l)) + _ ≤ 1
        omega
    obtain ⟨s1, s2⟩ := hp.unlend (k := l.2.1) h1 h2 (by omega) (by rw [hxl]; exact hval)
    have hg : st.getD l.1 [] = cs := by rw [List.getD_eq_getElem?_getD, h2]; rfl
    have hnl : ∀ m ∈ ls, l.1 ≠ m.1 := fun m hm he => by
      simp only [List.map_cons, List.nodup_cons] at hn
      exact hn.1 (he ▸ List.mem_map_of_mem hm)
    obtain ⟨t1, t2⟩ := s1.backAll (ls := ls) (bs := bs) (by simp only [List.map_cons, List.nodup_cons] at hn; exact hn.2) (fun m k hk => by
        obtain ⟨L', cs', xs', k1, k2, k3⟩ := hl (m + 1) k (by simpa using hk)
        exact ⟨L', cs', xs', k1, by rw [List.getElem?_set_ne (hnl k (List.mem_of_getElem? hk))]; exact k2, by simpa using k3⟩) (by simpa using hlen) (fun b => by
        have := hu b
        have := s2 b
        simp only at this
        omega)
    refine ⟨by simpa only [giveBack, hg] using t1, fun b => ?_⟩
    have := t2 b
    have := s2 b
    simp only [giveBack, hg, List.map_cons, obB]
    simp only at this
    omega
end

end Go.Sim
/- Calls, fourth part: what the called function sees. -/
namespace Go.Sim
open PV

section
variable {P : Program} {G : Gh} {B : List Loc} {e : Env} {st : St} {tm : List Value} {w : World} {x y z : PV} {v u : Value}

theorem passOne_spec {t : TypeId} {x y : PV} {ls ls' : List Lent} (hs : Sim G B e st tm w) (h : passOne P st t x ls = some (y, ls')) (hl : LentOk B st ls) :
    LentOk B st ls' ∧ (∃ more, ls' = ls ++ more) ∧ ((y = x ∧ x.flat = true) ∨ ∃ b o j, x = .ptr b o ∧ y = .ptr ls.length 0 ∧ ls' = ls ++ [(b, o, j)]) := by
  unfold passOne at h
  split at h
  · rename_i b o
    split at h
    · obtain ⟨j, hj, h⟩ := Option.bind_eq_some_iff.1 h
      obtain ⟨cs, hcs, h⟩ := Option.bind_eq_some_iff.1 h
      split at h
      · rename_i hcond
        obtain ⟨c1, c2, c3, c4⟩ := hcond
        simp only [Option.some.injEq, Prod.mk.injEq] at h
        obtain ⟨rfl, rfl⟩ := h
        refine ⟨⟨?_, ?_⟩, ⟨_, rfl⟩, .inr ⟨b, o, j.size, rfl, rfl, rfl⟩⟩
        · rw [List.map_append, List.nodup_append]
          refine ⟨hl.one, by simp, fun a ha b' hb' => ?_⟩
          simp at hb'; subst hb'
          obtain ⟨l, hl1, rfl⟩ := List.mem_map.1 ha
          have := List.all_eq_true.1 c3 l hl1
          simpa using this
        · intro l hm
          rcases List.mem_append.1 hm with hm | hm
          · exact hl.ok l hm
          · simp at hm; subst hm
            have hb : b < B.length := by rw [hs.blen]; exact (List.getElem?_eq_some_iff.1 hcs).1
            have := (hs.boxes b _ cs (List.getElem?_eq_getElem hb) hcs).len
            exact ⟨B[b], cs, List.getElem?_eq_getElem hb, hcs, c1, by simp only; omega, c4⟩
      · cases h
    · cases h
  · split at h
    · rename_i hf
      simp only [Option.some.injEq, Prod.mk.injEq] at h
      obtain ⟨rfl, rfl⟩ := h
      exact ⟨hl, ⟨[], by simp⟩, .inl ⟨rfl, hf⟩⟩
    · cases h

theorem passAll_spec (hs : Sim G B e st tm w) : ∀ {ts : List TypeId} {xs ys : List PV} {ls ls' : List Lent}, passAll P st ts xs ls = some (ys, ls') → LentOk B st ls →
    LentOk B st ls' ∧ (∃ more, ls' = ls ++ more) ∧ ys.length = xs.length ∧ ∀ (i : Nat) x y, xs[i]? = some x → ys[i]? = some y → (y = x ∧ x.flat = true) ∨ ∃ b o j m, x = .ptr b o ∧ y = .ptr m 0 ∧ ls'[m]? = some (b, o, j)
  | t :: ts, x :: xs, ys, ls, ls', h, hl => by
    unfold passAll at h
    obtain ⟨⟨y, l1⟩, h1, h⟩ := Option.bind_eq_some_iff.1 h
    obtain ⟨⟨r, l2⟩, h2, h⟩ := Option.map_eq_some_iff.1 h
    simp only [Prod.mk.injEq] at h
    obtain ⟨rfl, rfl⟩ := h
    obtain ⟨a1, ⟨m1, a2⟩, a3⟩ := passOne_spec hs h1 hl
    obtain ⟨b1, ⟨m2, b2⟩, b3, b4⟩ := passAll_spec hs h2 a1
    refine ⟨b1, ⟨m1 ++ m2, by rw [b2, a2, List.append_assoc]⟩, by simp [b3], fun i x' y' hx hy => ?_⟩
    cases i with
    | zero =>
      simp at hx hy; subst hx; subst hy
      rcases a3 with a3 | ⟨b, o, j, rfl, rfl, a3⟩
      · exact .inl a3
      · refine .inr ⟨b, o, j, ls.length, rfl, rfl, ?_⟩
        rw [b2, a3, List.append_assoc, List.getElem?_append_right (Nat.le_refl _)]; simp
    | succ i => exact b4 i x' y' (by simpa using hx) (by simpa using hy)
  | [], [], ys, ls, ls', h, hl => by
    simp only [passAll, Option.some.injEq, Prod.mk.injEq] at h
    obtain ⟨rfl, rfl⟩ := h
    exact ⟨hl, ⟨[], by simp⟩, rfl, fun i x y hx => by simp at hx⟩
  | [], _ :: _, _, _, _, h, _ => by simp [passAll] at h
  | _ :: _, [], _, _, _, h, _ => by simp [passAll] at h

theorem VRel.flat {B' : List Loc} (hx : x.flat = true) (h : VRel G B x v) : VRel G B' x v := by
  cases x <;> simp only [VRel, VRel2] at h ⊢
  case agg cs =>
    obtain ⟨vs, h1, h2, h3⟩ := h
    refine ⟨vs, h1, h2, fun i x y hx' hy => (h3 i x y hx' hy).flat1 ?_⟩
    simp only [PV.flat] at hx
    exact List.all_eq_true.1 hx x (List.mem_of_getElem? hx')
  case tup => simp [PV.flat, PV.flat1] at hx
  all_goals first | exact h | exact h.flat1 (by simpa [PV.flat] using hx)

theorem obE_agree (b : Nat) : ∀ (xs ys : List PV) (vs : List Value), xs.length = ys.length → (∀ (i : Nat) x y v, xs[i]? = some x → ys[i]? = some y → vs[i]? = some v → ob3 b x v = ob3 b y v) → obE b xs vs = obE b ys vs
  | [], [], _, _, _ => rfl
  | [], _ :: _, _, h, _ => by simp at h
  | _ :: _, [], _, h, _ => by simp at h
  | _ :: _, _ :: _, [], _, _ => by simp [obE]
  | x :: xs, y :: ys, v :: vs, hl, h => by
    have h1 := obE_agree b xs ys vs (by simpa using hl) fun i x y v h1 h2 h3 => h (i + 1) x y v (by simpa using h1) (by simpa using h2) (by simpa using h3)
    have h0 := h 0 x y v rfl rfl rfl
    simp only [obE, h1, h0]

theorem ob3_ptr (b i o : Nat) (v : Value) : ob3 b (.ptr i o) v = 0 := by
  have key : ∀ l, obs b [.ptr i o] l = 0 := fun l => by
    cases l with
    | nil => simp [obs]
    | cons c r => cases r <;> simp [obs, ob]
  unfold ob3; split
  · rename_i h; cases h
  · exact key _

theorem O3_ptr (G : Gh) (w : World) (i o : Nat) (v : Value) : O3 G w (.ptr i o) v := by
  unfold O3; split
  · rename_i h; cases h
  · intro j y u hy hu
    cases j with
    | zero => simp [PV.cells] at hy; subst hy; simp [O1]
    | succ j => simp [PV.cells] at hy

/-- What the called function sees at its start. -/
theorem Sim.callee {xs ys : List PV} {us : List Value} {ls : List Lent} {ts : List TypeId} (h : Sim G B e st tm w) (hp : passAll P st ts xs [] = some (ys, ls))
    (hlen : xs.length = us.length) (hv : ∀ (i : Nat) x v, xs[i]? = some x → us[i]? = some v → VRel G B x v ∧ O3 G w x v) (hu : ∀ b, obE b xs us + obB b st (B.map (cellsAt w)) ≤ 1) :
    LentOk B st ls ∧ Sim G (ls.map (subLoc B)) ys (ls.map (lentCells st)) us w ∧ ∀ b, obE b ys us = obE b xs us := by
  obtain ⟨a1, _, a3, a4⟩ := passAll_spec h hp ⟨by simp, fun l hl => by simp at hl⟩
  have hob : ∀ b, obE b ys us = obE b xs us := fun b => obE_agree b _ _ _ a3 fun i y x v hy hx _ => by
    rcases a4 i x y hx hy with ⟨rfl, _⟩ | ⟨b', o, j, m, rfl, rfl, _⟩
    · rfl
    · rw [ob3_ptr, ob3_ptr]
  have hsub : ∀ (i : Nat) l, (ls.map (subLoc B))[i]? = some l → ∃ k L cs, ls[i]? = some k ∧ B[k.1]? = some L ∧ st[k.1]? = some cs ∧ l = ⟨L.blk, L.off + k.2.1, k.2.2⟩ ∧ k.2.1 + k.2.2 ≤ cs.length ∧ k.2.1 + k.2.2 ≤ L.len ∧ ((cs.drop k.2.1).take k.2.2).all flat1 = true := fun i l hl => by
    rw [List.getElem?_map] at hl
    obtain ⟨k, hk, rfl⟩ := Option.map_eq_some_iff.1 hl
    obtain ⟨L, cs, h1, h2, h3, h4, h5⟩ := a1.ok k (List.mem_of_getElem? hk)
    exact ⟨k, L, cs, hk, h1, h2, by unfold subLoc; rw [h1], h3, h4, h5⟩
  refine ⟨a1, ⟨h.rows, by simp, ?_, ?_, by omega, ?_, ?_⟩, hob⟩
  · intro i j l m hl hm he
    obtain ⟨k, L, cs, k1, k2, k3, rfl, _⟩ := hsub i l hl
    obtain ⟨k', L', cs', k1', k2', k3', rfl, _⟩ := hsub j m hm
    have hb := h.bdis _ _ L L' k2 k2' he
    have hi := (List.getElem?_eq_some_iff.1 k1).1
    refine (List.getElem?_inj (l := ls.map (·.1)) (by simpa using hi) a1.one).1 ?_
    rw [List.getElem?_map, List.getElem?_map, k1, k1', Option.map_some, Option.map_some, hb]
  · intro i l cs hl hcs
    obtain ⟨k, L, cs0, k1, k2, k3, rfl, k5, k6, k7⟩ := hsub i l hl
    have hb := h.boxes _ L cs0 k2 k3
    rw [List.getElem?_map, k1] at hcs
    have hcs : lentCells st k = cs := by simpa using hcs
    unfold lentCells at hcs
    rw [List.getD_eq_getElem?_getD, k3] at hcs
    simp only [Option.getD_some] at hcs
    subst hcs
    obtain ⟨c, el, fr, q1, q2, q3⟩ := hb.heap
    have hget : ∀ (j : Nat) y, ((cs0.drop k.2.1).take k.2.2)[j]? = some y → cs0[k.2.1 + j]? = some y ∧ j < k.2.2 := fun j y hy => by
      rw [List.getElem?_take] at hy
      split at hy
      · rename_i hj; rw [List.getElem?_drop] at hy; exact ⟨hy, hj⟩
      · cases hy
    have hvget : ∀ (j : Nat) v, j < k.2.2 → (cellsAt w ⟨L.blk, L.off + k.2.1, k.2.2⟩)[j]? = some v → (cellsAt w L)[k.2.1 + j]? = some v := fun j v hj hv => by
      rw [cellsAt_sub w L _ _ k6, List.getElem?_take, if_pos hj, List.getElem?_drop] at hv; exact hv
    refine ⟨hb.row, ⟨c, el, fr, q1, by simp only; omega, fun o h1 h2 => q3 o (by simp only at h1; omega) (by simp only at h2; omega)⟩, by simp; omega, ?_, ?_⟩
    · intro j y v hy hv
      obtain ⟨m1, m2⟩ := hget j y hy
      obtain ⟨n1, n2⟩ := hb.cells _ y v m1 (hvget j v m2 hv)
      exact ⟨n1, n2.flat1 (List.all_eq_true.1 k7 y (List.mem_of_getElem? hy))⟩
    · intro j y v hy hv
      obtain ⟨m1, m2⟩ := hget j y hy
      exact hb.own _ y v m1 (hvget j v m2 hv)
  · intro i y v hy hv'
    obtain ⟨x, hx⟩ : ∃ x, xs[i]? = some x := ⟨_, List.getElem?_eq_getElem (by rw [← a3]; exact (List.getElem?_eq_some_iff.1 hy).1)⟩
    obtain ⟨r1, r2⟩ := hv i x v hx hv'
    rcases a4 i x y hx hy with ⟨rfl, hf⟩ | ⟨b', o, j, m, rfl, rfl, hm⟩
    · exact ⟨r1.flat hf, r2⟩
    · obtain ⟨L, cs, h1, h2, h3, h4, _⟩ := a1.ok _ (List.mem_of_getElem? hm)
      obtain ⟨l, r3, r4⟩ := r1
      rw [h1] at r3; cases r3
      refine ⟨⟨⟨L.blk, L.off + o, j⟩, ?_, ?_⟩, O3_ptr _ _ _ _ _⟩
      · rw [List.getElem?_map, hm]
        simp only [Option.map_some, subLoc, h1]
      · rw [r4]; rfl
  · intro b
    have h1 := (h.lendAll a1).2 b
    have h2 := hu b
    rw [hob, List.map_map]
    have : (cellsAt w ∘ subLoc B) = fun l => cellsAt w (subLoc B l) := rfl
    rw [this]
    omega
end

end Go.Sim
/- Calls, fifth part: new boxes come in; single boxes after a return. -/
namespace Go.Sim
open PV

theorem giveBack_ne : ∀ {ls : List Lent} {bs : List (List PV)} {st : St} {i : Nat}, i ∉ ls.map (·.1) → (giveBack st ls bs)[i]? = st[i]?
  | [], bs, st, i, _ => by simp [giveBack]
  | _ :: _, [], st, i, _ => by simp [giveBack]
  | l :: ls, b :: bs, st, i, h => by
    simp only [List.map_cons, List.mem_cons, not_or] at h
    rw [giveBack, giveBack_ne h.2, List.getElem?_set_ne (Ne.symm h.1)]

theorem giveBack_get : ∀ {ls : List Lent} {bs : List (List PV)} {st : St} {m : Nat} {l : Lent} {b cs : List PV}, (ls.map (·.1)).Nodup → ls[m]? = some l → bs[m]? = some b → st[l.1]? = some cs →
    (giveBack st ls bs)[l.1]? = some (setCells cs l.2.1 b)
  | [], _, _, _, _, _, _, _, h, _, _ => by simp at h
  | _ :: _, [], _, _, _, _, _, _, _, h, _ => by simp at h
  | l :: ls, b :: bs, st, 0, l', b', cs, hn, h1, h2, h3 => by
    simp at h1 h2; subst h1; subst h2
    simp only [List.map_cons, List.nodup_cons] at hn
    rw [giveBack, giveBack_ne hn.1, List.getElem?_set_self (List.getElem?_eq_some_iff.1 h3).1, List.getD_eq_getElem?_getD, h3]; rfl
  | l :: ls, b :: bs, st, m + 1, l', b', cs, hn, h1, h2, h3 => by
    simp only [List.getElem?_cons_succ] at h1 h2
    simp only [List.map_cons, List.nodup_cons] at hn
    have hne : l.1 ≠ l'.1 := fun he => hn.1 (he ▸ List.mem_map_of_mem (List.mem_of_getElem? h1))
    rw [giveBack]
    exact giveBack_get hn.2 h1 h2 (by rw [List.getElem?_set_ne hne]; exact h3)

theorem length_giveBack : ∀ (ls : List Lent) (bs : List (List PV)) (st : St), (giveBack st ls bs).length = st.length
  | [], _, _ => by simp [giveBack]
  | _ :: _, [], _ => by simp [giveBack]
  | l :: ls, b :: bs, st => by rw [giveBack, length_giveBack ls bs]; simp

section
variable {P : Program} {G : Gh} {B : List Loc} {e : Env} {st : St} {tm : List Value} {w : World} {x y z : PV} {v u : Value}

/-- New boxes come in. -/
theorem Sim.merge {Bc : List Loc} {ec : Env} {stc : St} {tmc : List Value} (h : Sim G B e st tm w) (hc : Sim G Bc ec stc tmc w) (k : Nat) (hf : ∀ cs ∈ stc, cs.all flat1 = true)
    (hd : ∀ l ∈ B, ∀ m ∈ Bc.drop k, l.blk ≠ m.blk) (hu : ∀ b, obB b (stc.drop k) ((Bc.drop k).map (cellsAt w)) + (obE b e tm + obB b st (B.map (cellsAt w))) ≤ 1) :
    Sim G (B ++ Bc.drop k) e (st ++ stc.drop k) tm w ∧ ∀ b, obB b (st ++ stc.drop k) ((B ++ Bc.drop k).map (cellsAt w)) = obB b st (B.map (cellsAt w)) + obB b (stc.drop k) ((Bc.drop k).map (cellsAt w)) := by
  have hcnt : ∀ b, obB b (st ++ stc.drop k) ((B ++ Bc.drop k).map (cellsAt w)) = obB b st (B.map (cellsAt w)) + obB b (stc.drop k) ((Bc.drop k).map (cellsAt w)) := fun b => by
    rw [List.map_append, obB_append b _ _ _ _ (by simp [h.blen])]
  have hB : Ble B (B ++ Bc.drop k) := Ble.append _ _
  refine ⟨⟨h.rows, by simp [h.blen, hc.blen], ?_, ?_, h.elen, fun t x v hx hv => ?_, fun b => ?_⟩, hcnt⟩
  · intro i j l m hl hm he
    rw [List.getElem?_append] at hl hm
    split at hl <;> split at hm
    · exact h.bdis i j l m hl hm he
    · exact (hd l (List.mem_of_getElem? hl) m (List.mem_of_getElem? hm) he).elim
    · exact (hd m (List.mem_of_getElem? hm) l (List.mem_of_getElem? hl) he.symm).elim
    · rw [List.getElem?_drop] at hl hm
      have := hc.bdis _ _ l m hl hm he
      omega
  · intro i l cs hl hcs
    rw [List.getElem?_append] at hl hcs
    rw [← h.blen] at hcs
    split at hl
    · rename_i hi
      rw [if_pos hi] at hcs
      have hb := h.boxes i l cs hl hcs
      exact ⟨hb.row, hb.heap, hb.len, fun j x v hx hv => ⟨(hb.cells j x v hx hv).1, (hb.cells j x v hx hv).2.mono (Gle.refl _) hB⟩, hb.own⟩
    · rename_i hi
      rw [if_neg hi] at hcs
      rw [List.getElem?_drop] at hl hcs
      have hb := hc.boxes _ l cs hl hcs
      have hfl := hf cs (List.mem_of_getElem? hcs)
      exact ⟨hb.row, hb.heap, hb.len, fun j x v hx hv => ⟨(hb.cells j x v hx hv).1, (hb.cells j x v hx hv).2.flat1 (List.all_eq_true.1 hfl x (List.mem_of_getElem? hx))⟩, hb.own⟩
  · obtain ⟨h1, h2⟩ := h.rel t x v hx hv
    exact ⟨h1.mono (Gle.refl _) hB, h2⟩
  · rw [hcnt]; have := hu b; omega
end

/-- What a function gives back. -/
def outOk : PV → Bool
  | .tup vs => vs.all outFlat
  | v => outFlat v

/-- What is known of calls. -/
def CallOk (P : Program) (C : Oracle) : Prop := ∀ f args bx v bx', C f args bx = some (v, bx') →
  (∃ fn, P.funcs[f]? = some fn ∧ fn.body.isNone = false ∧ (fn.name == "runtime.NumGoroutine") = false) ∧ ∀ G B tm w, Sim G B args bx tm w →
  Calls P f tm.toArray w fun r w' => ∃ cv G' B', r = .returned cv ∧ Step G B args bx tm w G' B' [v] bx' [cv] w' ∧ Ble B B' ∧ (∀ cs ∈ bx', cs.all flat1 = true) ∧ outOk v = true

end Go.Sim
/- Operations that may change places, second part: a call; what each operation does to boxes. -/
namespace Go.Sim
open PV

section
variable {P : Program} {C : Oracle} {h : Hint} {fresh : Bool} {e e1 e2 : Env} {st st' : St} {ops : Array Oper} {o a b : Oper} {v u : PV}

def argBoxes (vs : List PV) : List Nat := vs.flatMap fun x => boxOf (hd x)

theorem passOne_congr {st2 : St} {t : TypeId} {v : PV} {ls : List Lent} (hb : ∀ b ∈ boxOf (hd v), st2[b]? = st[b]?) : passOne P st2 t v ls = passOne P st t v ls := by
  cases v <;> try rfl
  rename_i b o
  have := hb b (by simp [hd, boxOf])
  simp only [passOne, this]

theorem passAll_congr {st2 : St} : ∀ {ts : List TypeId} {vs : List PV} {ls : List Lent}, (∀ b ∈ argBoxes vs, st2[b]? = st[b]?) → passAll P st2 ts vs ls = passAll P st ts vs ls
  | t :: ts, v :: vs, ls, hb => by
    simp only [argBoxes, List.flatMap_cons, List.mem_append] at hb
    simp only [passAll]
    rw [passOne_congr fun b h => hb b (.inl h)]
    congr 1; funext ⟨v', ls'⟩
    simp only
    rw [passAll_congr fun b h => hb b (.inr h)]
  | [], [], _, _ => rfl
  | [], _ :: _, _, _ => rfl
  | _ :: _, [], _, _ => rfl

theorem passAll_boxes : ∀ {ts : List TypeId} {vs : List PV} {ls : List Lent} {as : List PV} {ls' : List Lent}, passAll P st ts vs ls = some (as, ls') → ∀ l ∈ ls', l ∈ ls ∨ l.1 ∈ argBoxes vs
  | t :: ts, v :: vs, ls, as, ls', hp, l, hl => by
    simp only [passAll] at hp
    obtain ⟨⟨v', l1⟩, h1, h2⟩ := Option.bind_eq_some_iff.1 hp
    obtain ⟨⟨as', l2⟩, h3, h4⟩ := Option.map_eq_some_iff.1 h2
    simp only [Prod.mk.injEq] at h4
    obtain ⟨rfl, rfl⟩ := h4
    rcases passAll_boxes h3 l hl with k | k
    · cases v with
      | ptr b o =>
        simp only [passOne] at h1
        split at h1
        · obtain ⟨j, _, h1⟩ := Option.bind_eq_some_iff.1 h1
          obtain ⟨cs, _, h1⟩ := Option.bind_eq_some_iff.1 h1
          split at h1
          · simp only [Option.some.injEq, Prod.mk.injEq] at h1
            obtain ⟨_, rfl⟩ := h1
            rcases List.mem_append.1 k with k | k
            · exact .inl k
            · right
              have : l = (b, o, j.size) := by simpa using k
              subst this
              simp [argBoxes, hd, boxOf]
          · cases h1
        · cases h1
      | _ =>
        simp only [passOne] at h1
        split at h1
        · simp only [Option.some.injEq, Prod.mk.injEq] at h1
          obtain ⟨_, rfl⟩ := h1
          exact .inl k
        · cases h1
    · exact .inr (by simp only [argBoxes, List.flatMap_cons, List.mem_append]; exact .inr k)
  | [], [], ls, as, ls', hp, l, hl => by
    simp only [passAll, Option.some.injEq, Prod.mk.injEq] at hp
    obtain ⟨_, rfl⟩ := hp
    exact .inl hl
  | [], _ :: _, _, _, _, hp, _, _ => by simp [passAll] at hp
  | _ :: _, [], _, _, _, hp, _, _ => by simp [passAll] at hp

theorem giveBack_congr {S : List Nat} : ∀ {ls : List Lent} {bs : List (List PV)} {st st2 : St}, (∀ b ∈ S, st2[b]? = st[b]?) → (∀ l ∈ ls, l.1 ∈ S) → ∀ b ∈ S, (giveBack st2 ls bs)[b]? = (giveBack st ls bs)[b]?
  | [], _, _, _, h, _, b, hb => by simp only [giveBack]; exact h b hb
  | _ :: _, [], _, _, h, _, b, hb => by simp only [giveBack]; exact h b hb
  | l :: ls, x :: bs, st, st2, h, hl, b, hb => by
    simp only [giveBack]
    refine giveBack_congr (fun c hc => ?_) (fun m hm => hl m (List.mem_cons_of_mem _ hm)) b hb
    have e1 := h l.1 (hl l (List.mem_cons_self ..))
    have e2 : st2.getD l.1 [] = st.getD l.1 [] := by rw [List.getD_eq_getElem?_getD, List.getD_eq_getElem?_getD, e1]
    by_cases hcl : l.1 = c
    · subst hcl
      have hlt : l.1 < st2.length ↔ l.1 < st.length := by
        constructor
        · intro h1; have := List.getElem?_eq_getElem h1; rw [e1] at this; exact (List.getElem?_eq_some_iff.1 this).1
        · intro h1; have := List.getElem?_eq_getElem h1; rw [← e1] at this; exact (List.getElem?_eq_some_iff.1 this).1
      rw [List.getElem?_set, List.getElem?_set, if_pos rfl, if_pos rfl, e2]
      by_cases h1 : l.1 < st.length
      · rw [if_pos h1, if_pos (hlt.2 h1)]
      · rw [if_neg h1, if_neg fun h2 => h1 (hlt.1 h2)]
    · rw [List.getElem?_set_ne hcl, List.getElem?_set_ne hcl]; exact h c hc

theorem backOne_noNew {ls : List Lent} {n m k : Nat} {v : PV} (h : noNew1 k v = true) : backOne ls n k v = backOne ls m k v := by
  cases v <;> try rfl
  simp only [noNew1, decide_eq_true_eq] at h
  simp only [backOne, if_pos h]
theorem back_noNew {ls : List Lent} {n m k : Nat} {v : PV} (h : noNew k v = true) : back ls n k v = back ls m k v := by
  cases v with
  | tup vs =>
    simp only [back, PV.tup.injEq]
    exact List.map_congr_left fun x hx => backOne_noNew (List.all_eq_true.1 h x hx)
  | _ => simp only [noNew] at h; simp only [back]; exact backOne_noNew h

theorem loc_call {f : FuncId} {ts : List TypeId} {args : List PV} : Loc2 (pcallOp P C false f ts args) (argBoxes args) (argBoxes args) := by
  refine ⟨fun _ h => h, fun {st v s1} hk => ?_, fun {st st2 v s1} hr hk => ?_⟩
  · unfold pcallOp at hk
    obtain ⟨⟨as, ls⟩, h1, hk⟩ := Option.bind_eq_some_iff.1 hk
    obtain ⟨⟨r, bx⟩, h2, hk⟩ := Option.bind_eq_some_iff.1 hk
    simp only [Bool.false_or] at h2 hk
    split at hk
    · rename_i hc
      simp only [Bool.and_eq_true, decide_eq_true_eq] at hc
      simp only [Option.some.injEq, Prod.mk.injEq] at hk
      obtain ⟨rfl, rfl⟩ := hk
      rw [List.drop_eq_nil_of_le (by omega), List.append_nil]
      refine ⟨length_giveBack _ _ _, fun b hb => giveBack_ne fun hm => ?_⟩
      obtain ⟨l, hl, rfl⟩ := List.mem_map.1 hm
      rcases passAll_boxes h1 l hl with k | k
      · simp at k
      · exact hb k
    · cases hk
  · unfold pcallOp at hk
    obtain ⟨⟨as, ls⟩, h1, hk⟩ := Option.bind_eq_some_iff.1 hk
    obtain ⟨⟨r, bx⟩, h2, hk⟩ := Option.bind_eq_some_iff.1 hk
    simp only [Bool.false_or] at h2 hk
    split at hk
    · rename_i hc
      have hc' := hc
      simp only [Bool.and_eq_true, decide_eq_true_eq] at hc
      simp only [Option.some.injEq, Prod.mk.injEq] at hk
      obtain ⟨rfl, rfl⟩ := hk
      have hls : ∀ l ∈ ls, l.1 ∈ argBoxes args := fun l hl => by
        rcases passAll_boxes h1 l hl with k | k
        · simp at k
        · exact k
      have hlc : ls.map (lentCells st2) = ls.map (lentCells st) := List.map_congr_left fun l hl => by
        unfold lentCells
        rw [List.getD_eq_getElem?_getD, List.getD_eq_getElem?_getD, hr _ (hls l hl)]
      refine ⟨giveBack st2 ls bx ++ bx.drop ls.length, ?_, fun b hb => ?_⟩
      · unfold pcallOp
        rw [passAll_congr hr, h1, Option.bind_some]
        simp only
        rw [hlc, h2, Option.bind_some]
        simp only [Bool.false_or, hc', if_true]
        rw [back_noNew hc.2]
      · rw [List.drop_eq_nil_of_le (by omega), List.append_nil, List.append_nil]
        exact giveBack_congr hr hls b hb
    · cases hk
end
end Go.Sim
/- Operations that may change places, third part: what an operation looks at. -/
namespace Go.Sim
open PV

section
variable {P : Program} {C : Oracle} {h : Hint} {fresh : Bool} {e e1 e2 : Env} {st st' : St} {ops : Array Oper} {o a b : Oper} {v u : PV}

theorem osem_congr {ρ ρ' : Operand → Option PV} (hr : ∀ x ∈ o.op.operands.toList, ρ x = ρ' x) : osem P C h fresh o ρ = osem P C h fresh o ρ' := by
  funext st
  cases ho : o.op with
  | build t ps =>
    rw [ho] at hr
    simp only [osem, ho]
    rw [pargs_congr (ρ := ρ) (ρ' := ρ') fun x hx => hr x (by simpa [Op.operands] using hx)]
  | buildSlice t n ps =>
    rw [ho] at hr
    simp only [osem, ho]
    rw [pargs_congr (ρ := ρ) (ρ' := ρ') fun x hx => hr x (by simpa [Op.operands] using hx)]
  | call c =>
    rw [ho] at hr
    simp only [osem, ho]
    rw [pargs_congr (ρ := ρ) (ρ' := ρ') fun x hx => hr x (by simp only [Op.operands, Call.operands]; simp; exact .inr (by simpa using hx))]
    cases hc : c.callee with
    | value f =>
      have : ρ f = ρ' f := hr f (by simp [Op.operands, Call.operands, hc])
      simp only [this]
    | invoke r m => rfl
    | builtin b => rfl
  | slice t x lo hi mx =>
    rw [ho] at hr
    simp only [osem, ho]
    have hx : ρ x = ρ' x := hr x (by simp [Op.operands])
    cases mx with
    | some m => rfl
    | none =>
      cases lo with
      | none =>
        cases hi with
        | none => simp [hx]
        | some y =>
          have : ρ y = ρ' y := hr y (by simp [Op.operands])
          simp [hx, this]
      | some z =>
        have hz : ρ z = ρ' z := hr z (by simp [Op.operands])
        cases hi with
        | none => simp [hx, hz]
        | some y =>
          have : ρ y = ρ' y := hr y (by simp [Op.operands])
          simp [hx, this, hz]
  | assign x | move x | box t x | load t x | nilCheck x | unOp p t x | convert s d x | fieldAddr t x f | field t x f | extract x i =>
    rw [ho] at hr
    have hx : ρ x = ρ' x := hr x (by simp [Op.operands])
    simp only [osem, ho, hx]
  | pick c x y =>
    rw [ho] at hr
    have h1 : ρ c = ρ' c := hr c (by simp [Op.operands])
    have h2 : ρ x = ρ' x := hr x (by simp [Op.operands])
    have h3 : ρ y = ρ' y := hr y (by simp [Op.operands])
    simp only [osem, ho, h1]
    split
    · rename_i t _
      cases t <;> simp [h2, h3]
    · rfl
  | store t x y | binOp op t x y t' | makeSlice t x y | indexAddr t x y | index t x y =>
    rw [ho] at hr
    have h1 : ρ x = ρ' x := hr x (by simp [Op.operands])
    have h2 : ρ y = ρ' y := hr y (by simp [Op.operands])
    simp only [osem, ho, h1, h2]
  | alloc t => simp only [osem, ho]
  | _ => simp only [osem, ho]

/-- It leaves boxes alone. -/
theorem Loc2.still {f : St → Option (PV × St)} (hf : ∀ st, f st = (f []).map fun p => (p.1, st)) : Loc2 f [] [] :=
  (Loc2.pure ((f []).map (·.1))).of_eq (by funext st; rw [hf, Option.map_map]; rfl)

theorem hdOf_peval {x : Operand} {v : PV} (hx : peval e x = some v) (hv : hd v ≠ .other) : hdOf (e.map hd) x = hd v := by
  cases x with
  | tmp t =>
    simp only [peval] at hx
    simp only [hdOf, List.getD_eq_getElem?_getD, List.getElem?_map, hx, Option.map_some, Option.getD_some]
  | const c =>
    exfalso
    simp only [peval] at hx
    cases c with
    | agg cs =>
      simp only [ofVal] at hx
      obtain ⟨_, _, rfl⟩ := Option.map_eq_some_iff.1 hx
      exact hv rfl
    | _ =>
      simp only [ofVal, ofVal1] at hx
      first
        | (cases hx; exact hv rfl)
        | (split at hx <;> first | (cases hx; exact hv rfl) | cases hx)
        | cases hx
  | func f => simp only [peval, Option.some.injEq] at hx; subst hx; exact (hv rfl).elim
  | global g => simp [peval] at hx

def KdOk (f : St → Option (PV × St)) : Kd → Prop
  | .loc r w => Loc2 f r w
  | .new => Made f

theorem kd_sem {k : Kd} (hk : kd h (e.map hd) o = some k) : KdOk (osem P C h false o (peval e)) k := by
  cases ho : o.op with
  | assign x =>
    simp only [kd, ho, Option.some.injEq] at hk; subst hk
    exact Loc2.still fun st => by simp only [osem, ho]; cases peval e x <;> rfl
  | move x =>
    simp only [kd, ho, Option.some.injEq] at hk; subst hk
    exact Loc2.still fun st => by simp only [osem, ho]; cases peval e x <;> rfl
  | pick c x y =>
    simp only [kd, ho, Option.some.injEq] at hk; subst hk
    exact Loc2.still fun st => by
      simp only [osem, ho]; split
      · rename_i t _
        cases t
        · simp only [Bool.false_eq_true, if_false]; cases peval e y <;> rfl
        · simp only [if_true]; cases peval e x <;> rfl
      · rfl
  | build t ps =>
    simp only [kd, ho, Option.some.injEq] at hk; subst hk
    exact Loc2.still fun st => by
      simp only [osem, ho]; split
      · rfl
      · cases pargs (peval e) (ps.toList.map (·.2)) with
        | none => rfl
        | some l => simp only [Option.bind_some]; cases pbuild P t _ <;> rfl
  | nilCheck x =>
    simp only [kd, ho, Option.some.injEq] at hk; subst hk
    exact Loc2.still fun st => by simp only [osem, ho]; split <;> rfl
  | binOp op t x y t' =>
    simp only [kd, ho, Option.some.injEq] at hk; subst hk
    exact Loc2.still fun st => by
      simp only [osem, ho]
      cases peval e x with
      | none => rfl
      | some a => cases peval e y with
        | none => rfl
        | some b => simp only [Option.bind_some]; cases pbin P op t a b <;> rfl
  | unOp op t x =>
    simp only [kd, ho, Option.some.injEq] at hk; subst hk
    exact Loc2.still fun st => by
      simp only [osem, ho]
      cases peval e x with
      | none => rfl
      | some a => simp only [Option.bind_some]; cases pun op a <;> rfl
  | fieldAddr t x f =>
    simp only [kd, ho, Option.some.injEq] at hk; subst hk
    exact Loc2.still fun st => by
      simp only [osem, ho]
      cases peval e x with
      | none => rfl
      | some a => simp only [Option.bind_some]; cases pfieldAt P t a f <;> rfl
  | field t x f =>
    simp only [kd, ho, Option.some.injEq] at hk; subst hk
    exact Loc2.still fun st => by
      simp only [osem, ho]
      cases peval e x with
      | none => rfl
      | some a => simp only [Option.bind_some]; cases pfield P t a f <;> rfl
  | indexAddr t x i =>
    simp only [kd, ho, Option.some.injEq] at hk; subst hk
    exact Loc2.still fun st => by
      simp only [osem, ho]
      cases peval e x with
      | none => rfl
      | some a =>
        simp only [Option.bind_some]
        cases (peval e i).bind PV.asInt with
        | none => rfl
        | some n => simp only [Option.bind_some]; cases pindexAt P t a n <;> rfl
  | index t x i =>
    simp only [kd, ho, Option.some.injEq] at hk; subst hk
    exact Loc2.still fun st => by
      simp only [osem, ho]
      cases peval e x with
      | none => rfl
      | some a =>
        simp only [Option.bind_some]
        cases (peval e i).bind PV.asInt with
        | none => rfl
        | some n => simp only [Option.bind_some]; cases pindex P t a n <;> rfl
  | extract x i =>
    simp only [kd, ho, Option.some.injEq] at hk; subst hk
    exact Loc2.still fun st => by
      simp only [osem, ho]; split
      · rename_i vs _; cases vs[i]? <;> rfl
      · rfl
  | slice t x lo hi mx =>
    cases mx with
    | some m => simp [kd, ho] at hk
    | none =>
      simp only [kd, ho, Option.some.injEq] at hk; subst hk
      exact Loc2.still fun st => by
        simp only [osem, ho]
        cases peval e x with
        | none => rfl
        | some a =>
          simp only [Option.bind_some]
          split
          · rfl
          · rfl
          · cases pslice P t a _ _ <;> rfl
  | buildSlice t n ps =>
    simp only [kd, ho] at hk
    split at hk
    · cases hk
    · rename_i hw
      simp only [Option.some.injEq] at hk; subst hk
      exact Loc2.still fun st => by
        simp only [osem, ho, hw]
        cases pargs (peval e) (ps.toList.map (·.2)) with
        | none => rfl
        | some l => simp only [Option.bind_some]; cases pbuildSlice P t n _ <;> rfl
  | makeSlice t x y =>
    simp only [kd, ho] at hk
    split at hk
    · cases hk
    · rename_i hw
      simp only [Option.some.injEq] at hk; subst hk
      exact Loc2.still fun st => by
        simp only [osem, ho, hw]
        split
        · rename_i l c e' _ _ _
          cases P.info? e' with
          | none => rfl
          | some j =>
            simp only [Option.bind_some]
            cases zeroCellsOf P e' with
            | none => rfl
            | some z =>
              simp only [Option.bind_some]
              cases isAggB P e' with
              | none => rfl
              | some ag =>
                simp only [Option.bind_some]
                split <;> rfl
        · rfl
  | convert s d x =>
    simp only [kd, ho] at hk
    split at hk
    · cases hk
    · rename_i hw
      simp only [Bool.or_eq_true, decide_eq_true_eq, not_or] at hw
      simp only [Option.some.injEq] at hk; subst hk
      exact Loc2.still fun st => by
        simp only [osem, ho, hw.1]
        cases hx : peval e x with
        | none => rfl
        | some a =>
          simp only [Option.bind_some]
          split
          · rfl
          · simp only [Bool.false_eq_true, if_false]
            have hm : ∀ sz fl b k n, a ≠ .msl sz fl b k n := fun sz fl b k n ha => by
              subst ha
              exact hw.2 (hdOf_peval hx (by simp [hd]))
            cases a with
            | msl sz fl b k n => exact (hm _ _ _ _ _ rfl).elim
            | _ => simp only []; cases pconvert P s d _ <;> rfl
  | load t x =>
    simp only [kd, ho, Option.some.injEq] at hk; subst hk
    simp only [KdOk]
    cases hx : peval e x with
    | none => split <;> first | exact Loc2.never2 _ fun st => by simp only [osem, ho, hx] | exact Loc2.never _ fun st => by simp only [osem, ho, hx]
    | some a =>
      cases a with
      | ptr b k =>
        have : hdOf (e.map hd) x = .ptr b := hdOf_peval hx (by simp [hd])
        rw [this]
        by_cases ht : takes h o = true
        · rw [if_pos ht]
          refine (Loc2.write b fun cs => (takeVar P t cs k).map fun v => (v, demCells cs k v.cells.length)).of_eq ?_
          funext st
          simp only [osem, ho, hx, ht, if_true]
          cases st[b]? with
          | none => rfl
          | some cs => simp only [Option.bind_some]; cases takeVar P t cs k <;> rfl
        · rw [if_neg ht]
          refine (Loc2.read b fun cs => (takeVar P t cs k).map fun v => v.dem).of_eq ?_
          funext st
          simp only [osem, ho, hx, ht]
          cases st[b]? with
          | none => rfl
          | some cs => simp only [Option.bind_some]; cases takeVar P t cs k <;> rfl
      | eptr cs k =>
        have : hdOf (e.map hd) x = .eptr := hdOf_peval hx (by simp [hd])
        rw [this]
        simp only [boxOf, ite_self]
        exact Loc2.still fun st => by simp only [osem, ho, hx]; cases takeVar P t cs k <;> rfl
      | _ => split <;> first | exact Loc2.never2 _ fun st => by simp only [osem, ho, hx] | exact Loc2.never _ fun st => by simp only [osem, ho, hx]
  | store t x y =>
    simp only [kd, ho, Option.some.injEq] at hk; subst hk
    simp only [KdOk]
    cases hx : peval e x with
    | none => exact Loc2.never2 _ fun st => by simp only [osem, ho, hx]
    | some a =>
      cases a with
      | ptr b k =>
        have : hdOf (e.map hd) x = .ptr b := hdOf_peval hx (by simp [hd])
        rw [this]
        cases hy : peval e y with
        | none => exact Loc2.never2 _ fun st => by simp only [osem, ho, hx, hy]
        | some v =>
          cases hi : P.info? t with
          | none => exact Loc2.never2 _ fun st => by simp only [osem, ho, hx, hy, hi]
          | some i =>
            refine (Loc2.write b fun cs => if v.cells.length = i.size ∧ k + i.size ≤ cs.length ∧ v.cells.all store1 then some (.undef, setCells cs k v.cells) else none).of_eq ?_
            funext st
            simp only [osem, ho, hx, hy, hi]
            cases st[b]? with
            | none => rfl
            | some cs => simp only [Option.bind_some]; split <;> rfl
      | _ => exact Loc2.never2 _ fun st => by simp only [osem, ho, hx]
  | alloc t =>
    simp only [kd, ho, Option.some.injEq] at hk; subst hk
    exact ⟨zeroCellsOf P t, fun st => by simp only [osem, ho]⟩
  | call c =>
    cases hc : c.callee with
    | builtin b =>
      simp only [kd, ho, hc] at hk
      split at hk
      · cases hk
      · rename_i hw
        simp only [Bool.or_eq_true, not_or] at hw
        simp only [Option.some.injEq] at hk; subst hk
        refine Loc2.still fun st => ?_
        simp only [osem, ho, hc, hw.1]
        cases hx : pargs (peval e) c.args.toList with
        | none => rfl
        | some args =>
          simp only [Option.bind_some, Bool.false_eq_true, if_false]
          have hm : ∀ v ∈ args, ∀ sz fl b k n, v ≠ .msl sz fl b k n := fun v hv sz fl b k n hve => by
            obtain ⟨p1, p2⟩ := pargs_spec hx
            obtain ⟨i, hi⟩ := List.getElem?_of_mem hv
            obtain ⟨q, hq⟩ : ∃ q, c.args.toList[i]? = some q := ⟨_, List.getElem?_eq_getElem (by rw [← p1]; exact (List.getElem?_eq_some_iff.1 hi).1)⟩
            subst hve
            refine hw.2 (List.any_eq_true.2 ⟨q, List.mem_of_getElem? hq, ?_⟩)
            have := hdOf_peval (p2 i q _ hq hi) (by simp [hd])
            simp [this, hd]
          have : pbuiltin P b c.argTypes st args = pbuiltin P b c.argTypes [] args := by
            unfold pbuiltin
            split
            · rfl
            · rename_i x y
              have : ∀ sz, pelems st sz y = pelems [] sz y := fun sz => by
                cases y with
                | msl sz' fl b k n => exact (hm _ (List.mem_cons_of_mem _ (List.mem_cons_self ..)) _ _ _ _ _ rfl).elim
                | _ => rfl
              simp only [pappend, this]
            · rfl
            · rfl
            · rfl
          rw [this]
          cases pbuiltin P b c.argTypes [] args <;> rfl
    | value f =>
      simp only [kd, ho, hc, Option.some.injEq] at hk; subst hk
      simp only [KdOk]
      cases hx : pargs (peval e) c.args.toList with
      | none => exact Loc2.never2 _ fun st => by simp only [osem, ho, hx]; rfl
      | some args =>
        have hab : argBoxes args = c.args.toList.flatMap fun x => boxOf (hdOf (e.map hd) x) := by
          obtain ⟨p1, p2⟩ := pargs_spec hx
          unfold argBoxes
          have : args.map (fun x => boxOf (hd x)) = c.args.toList.map fun x => boxOf (hdOf (e.map hd) x) := by
            apply List.ext_getElem?
            intro i
            rw [List.getElem?_map, List.getElem?_map]
            cases hi : args[i]? with
            | none =>
              have : c.args.toList[i]? = none := List.getElem?_eq_none (by rw [← p1]; exact List.getElem?_eq_none_iff.1 hi)
              rw [this]; rfl
            | some v =>
              obtain ⟨q, hq⟩ : ∃ q, c.args.toList[i]? = some q := ⟨_, List.getElem?_eq_getElem (by rw [← p1]; exact (List.getElem?_eq_some_iff.1 hi).1)⟩
              rw [hq, Option.map_some, Option.map_some]
              have hqv := p2 i q v hq hi
              by_cases hv : hd v = .other
              · congr 1
                rw [hv]
                cases q with
                | tmp t =>
                  simp only [peval] at hqv
                  simp only [hdOf, List.getD_eq_getElem?_getD, List.getElem?_map, hqv, Option.map_some, Option.getD_some, hv]
                | _ => rfl
              · rw [hdOf_peval hqv hv]
          rw [List.flatMap_def, this, ← List.flatMap_def]
        rw [← hab]
        cases hf : peval e f with
        | none => exact Loc2.never2 _ fun st => by simp only [osem, ho, hx, hc, hf]; rfl
        | some fv =>
          cases fv with
          | fn g =>
            by_cases hok : okTake c.args.toList = false
            · exact Loc2.never2 _ fun st => by simp only [osem, ho, hx, hc, hf, hok]; rfl
            · cases hg : P.funcs[g]? with
              | none => exact Loc2.never2 _ fun st => by simp only [osem, ho, hx, hc, hf, hok, hg]; rfl
              | some fn =>
                refine (loc_call (P := P) (C := C) (f := g) (ts := fn.params.toList) (args := args)).of_eq ?_
                funext st
                simp only [osem, ho, hx, hc, hf, hok, hg]
                rfl
          | _ => exact Loc2.never2 _ fun st => by simp only [osem, ho, hx, hc, hf]; rfl
    | invoke r m => simp [kd, ho, hc] at hk
  | _ => simp [kd, ho] at hk
end
end Go.Sim
/- Operations that may change places, fourth part: two neighbours. -/
namespace Go.Sim
open PV

section
variable {P : Program} {C : Oracle} {h : Hint} {fresh : Bool} {e e1 e2 : Env} {st st' : St} {ops : Array Oper} {o a b : Oper} {v u : PV}

def upd (e : Env) (S : List (Tmp × Option Nat)) (d : Option Tmp) (v : PV) : Env := setDst (shed e S) d v

theorem shed_get : ∀ {S : List (Tmp × Option Nat)} {e : Env} {t : Nat}, t ∉ S.map (·.1) → (shed e S)[t]? = e[t]?
  | [], e, t, _ => rfl
  | (u, none) :: S, e, t, h => by
    simp only [List.map_cons, List.mem_cons, not_or] at h
    rw [shed, shed_get h.2]
    split
    · exact List.getElem?_set_ne (Ne.symm h.1)
    · rfl
  | (u, some i) :: S, e, t, h => by
    simp only [List.map_cons, List.mem_cons, not_or] at h
    rw [shed, shed_get h.2]
    split
    · exact List.getElem?_set_ne (Ne.symm h.1)
    · rfl

theorem set_congr1 {e1 e2 : Env} {t u : Nat} {v : PV} (h : e1[t]? = e2[t]?) : (e1.set u v)[t]? = (e2.set u v)[t]? := by
  by_cases hu : u = t
  · subst hu
    have hlt : u < e1.length ↔ u < e2.length := by
      constructor
      · intro h1; have := List.getElem?_eq_getElem h1; rw [h] at this; exact (List.getElem?_eq_some_iff.1 this).1
      · intro h1; have := List.getElem?_eq_getElem h1; rw [← h] at this; exact (List.getElem?_eq_some_iff.1 this).1
    rw [List.getElem?_set, List.getElem?_set, if_pos rfl, if_pos rfl]
    by_cases h1 : u < e2.length
    · rw [if_pos h1, if_pos (hlt.2 h1)]
    · rw [if_neg h1, if_neg fun h2 => h1 (hlt.1 h2)]
  · rw [List.getElem?_set_ne hu, List.getElem?_set_ne hu]; exact h

def shed1 (e : Env) : Tmp × Option Nat → Env
  | (t, none) => match e[t]? with | some v => e.set t v.dem | none => e
  | (t, some i) => match e[t]? with | some (.tup vs) => e.set t (.tup (vs.modify i dem2)) | _ => e
theorem shed_cons (e : Env) (p : Tmp × Option Nat) (S : List (Tmp × Option Nat)) : shed e (p :: S) = shed (shed1 e p) S := by
  obtain ⟨t, _ | i⟩ := p <;> rfl
theorem shed1_get {e : Env} {p : Tmp × Option Nat} {t : Nat} (h : p.1 ≠ t) : (shed1 e p)[t]? = e[t]? := by
  obtain ⟨u, _ | i⟩ := p
  · simp only [shed1]; split
    · exact List.getElem?_set_ne h
    · rfl
  · simp only [shed1]; split
    · exact List.getElem?_set_ne h
    · rfl
theorem shed1_congr {e1 e2 : Env} {p : Tmp × Option Nat} {t : Nat} (h : e1[t]? = e2[t]?) : (shed1 e1 p)[t]? = (shed1 e2 p)[t]? := by
  by_cases hu : p.1 = t
  · obtain ⟨u, c⟩ := p
    simp only at hu
    subst hu
    cases h2 : e2[u]? with
    | none => rw [h2] at h; cases c <;> simp only [shed1, h, h2]
    | some x =>
      rw [h2] at h
      cases c with
      | none => simp only [shed1, h, h2]; exact set_congr1 (h.trans h2.symm)
      | some i => cases x <;> simp only [shed1, h, h2] <;> exact set_congr1 (h.trans h2.symm)
  · rw [shed1_get hu, shed1_get hu, h]
theorem shed_congr1 : ∀ {S : List (Tmp × Option Nat)} {e1 e2 : Env} {t : Nat}, e1[t]? = e2[t]? → (shed e1 S)[t]? = (shed e2 S)[t]?
  | [], _, _, _, h => h
  | p :: S, e1, e2, t, h => by rw [shed_cons, shed_cons]; exact shed_congr1 (shed1_congr h)

theorem upd_get {S : List (Tmp × Option Nat)} {d : Option Tmp} {t : Nat} (h : t ∉ d.toList ++ S.map (·.1)) : (upd e S d v)[t]? = e[t]? := by
  simp only [List.mem_append, not_or] at h
  cases d with
  | none => exact shed_get h.2
  | some d =>
    simp only [upd, setDst]
    rw [List.getElem?_set_ne (by simpa [eq_comm] using h.1), shed_get h.2]

theorem upd_congr1 {S : List (Tmp × Option Nat)} {d : Option Tmp} {t : Nat} (h : e1[t]? = e2[t]?) : (upd e1 S d v)[t]? = (upd e2 S d v)[t]? := by
  cases d with
  | none => exact shed_congr1 h
  | some d => exact set_congr1 (shed_congr1 h)

theorem upd_comm {S S' : List (Tmp × Option Nat)} {d d' : Option Tmp} (h : ∀ t ∈ d.toList ++ S.map (·.1), t ∉ d'.toList ++ S'.map (·.1)) :
    upd (upd e S d v) S' d' u = upd (upd e S' d' u) S d v := by
  apply List.ext_getElem?
  intro t
  by_cases ht : t ∈ d.toList ++ S.map (·.1)
  · rw [upd_get (h t ht)]
    exact upd_congr1 (upd_get (h t ht)).symm
  · rw [upd_get (e := upd e S' d' u) ht]
    exact upd_congr1 (upd_get ht)

/-- What an operation that has a guard does. -/
def act (P : Program) (C : Oracle) (h : Hint) (ops : Array Oper) (o : Oper) (e : Env) (st : St) : Option (PV × St) :=
  match pwanted ops e o with
  | some true => osem P C h false o (peval e) st
  | some false => some (.tup [], st)
  | none => none
def shedsAt (h : Hint) (ops : Array Oper) (o : Oper) (e : Env) : List (Tmp × Option Nat) :=
  if pwanted ops e o = some true then sheds h o else []

theorem pop_act : pop P C h false ops o e st = (act P C h ops o e st).map fun (v, s) => (upd e (shedsAt h ops o e) o.dst v, s) := by
  unfold pop act shedsAt
  split
  · rename_i hw; simp only [hw, if_true]; rfl
  · rename_i hw; simp only [hw]; rfl
  · rename_i hw; simp only [hw]; rfl

theorem pwanted_congr (hg : ∀ t ∈ guardTmps ops o, e1[t]? = e2[t]?) : pwanted ops e1 o = pwanted ops e2 o := by
  unfold pwanted guardTmps at *
  cases hgd : o.guard with
  | none => rfl
  | some p =>
    obtain ⟨j, w⟩ := p
    rw [hgd] at hg
    simp only at hg ⊢
    cases hd : (ops[j]?).bind (·.dst) with
    | none => rfl
    | some t => rw [hd] at hg; simp only; rw [hg t (by simp)]

theorem opTmps_mem {t : Tmp} (h : Operand.tmp t ∈ o.op.operands.toList) : t ∈ opTmps o := by
  unfold opTmps
  exact List.mem_filterMap.2 ⟨_, h, rfl⟩

theorem act_congr (hr : ∀ t ∈ rdT ops o, e1[t]? = e2[t]?) : act P C h ops o e1 = act P C h ops o e2 := by
  have hw := pwanted_congr (ops := ops) (o := o) (e1 := e1) (e2 := e2) fun t ht => hr t (List.mem_append_right _ ht)
  funext st
  unfold act
  rw [hw]
  have := osem_congr (P := P) (C := C) (h := h) (fresh := false) (o := o) (ρ := peval e1) (ρ' := peval e2) fun x hx => by
    cases x with
    | tmp t => exact hr t (List.mem_append_left _ (opTmps_mem hx))
    | _ => rfl
  rw [this]
theorem shedsAt_congr (hr : ∀ t ∈ rdT ops o, e1[t]? = e2[t]?) : shedsAt h ops o e1 = shedsAt h ops o e2 := by
  unfold shedsAt
  rw [pwanted_congr (ops := ops) (o := o) (e1 := e1) (e2 := e2) fun t ht => hr t (List.mem_append_right _ ht)]

theorem shedsAt_sub {t : Nat} (ht : t ∈ o.dst.toList ++ (shedsAt h ops o e).map (·.1)) : t ∈ wrT h o := by
  unfold wrT
  unfold shedsAt at ht
  split at ht
  · exact ht
  · simp only [List.map_nil, List.append_nil] at ht
    exact List.mem_append_left _ ht

/-- The boxes let two operations change places. -/
def Parted (f g : St → Option (PV × St)) (st : St) : Prop := ∀ {v u s1 s2}, f st = some (v, s1) → g s1 = some (u, s2) → ∃ s, g st = some (u, s) ∧ f s = some (v, s2)

theorem swap_apart (h1 : disj (wrT h a) (rdT ops b ++ wrT h b) = true) (h2 : disj (wrT h b) (rdT ops a ++ wrT h a) = true)
    (hp : Parted (act P C h ops a e) (act P C h ops b e) st) {r : Env × St}
    (hk : (pop P C h false ops a e st).bind (fun (e', s') => pop P C h false ops b e' s') = some r) :
    (pop P C h false ops b e st).bind (fun (e', s') => pop P C h false ops a e' s') = some r := by
  have d1 := disj_spec h1
  have d2 := disj_spec h2
  obtain ⟨⟨e1, s1⟩, k1, k2⟩ := Option.bind_eq_some_iff.1 hk
  rw [pop_act] at k1
  obtain ⟨⟨v, s1'⟩, k3, k4⟩ := Option.map_eq_some_iff.1 k1
  simp only [Prod.mk.injEq] at k4
  obtain ⟨rfl, rfl⟩ := k4
  have ab : ∀ t ∈ rdT ops b, (upd e (shedsAt h ops a e) a.dst v)[t]? = e[t]? := fun t ht =>
    upd_get fun hm => d1 t (shedsAt_sub hm) (List.mem_append_left _ ht)
  simp only at k2
  rw [pop_act, act_congr ab, shedsAt_congr ab] at k2
  obtain ⟨⟨u, s2⟩, k5, k6⟩ := Option.map_eq_some_iff.1 k2
  obtain ⟨s, k7, k8⟩ := hp k3 k5
  have ba : ∀ t ∈ rdT ops a, (upd e (shedsAt h ops b e) b.dst u)[t]? = e[t]? := fun t ht =>
    upd_get fun hm => d2 t (shedsAt_sub hm) (List.mem_append_left _ ht)
  rw [pop_act, k7, Option.map_some, Option.bind_some]
  simp only
  rw [pop_act, act_congr ba, shedsAt_congr ba, k8, Option.map_some, ← k6]
  simp only
  rw [upd_comm (v := v) (u := u) (d := a.dst) (S := shedsAt h ops a e) (d' := b.dst) (S' := shedsAt h ops b e) fun t ht ht' => d1 t (shedsAt_sub ht) (List.mem_append_right _ (shedsAt_sub ht'))]

theorem act_extract {t : Tmp} {i : Nat} (ho : o.op = .extract (.tmp t) i) : act P C h ops o e st = match pwanted ops e o with
    | some true => (match e[t]? with | some (.tup vs) => (vs[i]?).map fun v => (v, st) | _ => none)
    | some false => some (.tup [], st)
    | none => none := by
  unfold act
  cases pwanted ops e o with
  | none => rfl
  | some q => cases q <;> first | rfl | (simp only [osem, ho, peval]; rfl)

theorem shedsAt_yes (hw : pwanted ops e o = some true) : shedsAt h ops o e = sheds h o := by unfold shedsAt; rw [hw]; rfl
theorem shedsAt_no (hw : pwanted ops e o = some false) : shedsAt h ops o e = [] := by unfold shedsAt; rw [hw]; rfl
theorem shedsAt_wanted (hw : pwanted ops e1 o = pwanted ops e2 o) : shedsAt h ops o e1 = shedsAt h ops o e2 := by unfold shedsAt; rw [hw]

theorem modify_comm' (vs : List PV) {i j : Nat} (f : PV → PV) (_ : i ≠ j) : (vs.modify i f).modify j f = (vs.modify j f).modify i f := by
  apply List.ext_getElem?
  intro k
  simp only [List.getElem?_modify]
  cases vs[k]? with
  | none => rfl
  | some x =>
    simp only [Option.map_eq_map, Option.map_some]
    by_cases h1 : i = k <;> by_cases h2 : j = k <;> simp [h1, h2]

theorem shed_tup {t : Tmp} {i : Nat} {vs : List PV} (ht : e[t]? = some (.tup vs)) : shed e [(t, some i)] = e.set t (.tup (vs.modify i dem2)) := by
  simp only [shed, ht]

theorem swap_parts (hp : twoParts ops a b = true) {r : Env × St}
    (hk : (pop P C h false ops a e st).bind (fun (e', s') => pop P C h false ops b e' s') = some r) :
    (pop P C h false ops b e st).bind (fun (e', s') => pop P C h false ops a e' s') = some r := by
  unfold twoParts at hp
  split at hp
  · rename_i t i t' j d d' ha hb hda hdb
    simp only [Bool.and_eq_true, decide_eq_true_eq, Bool.not_eq_true', List.contains_eq_mem, decide_eq_false_iff_not] at hp
    obtain ⟨⟨⟨⟨⟨⟨⟨⟨rfl, hij⟩, hdd⟩, hdt⟩, hdt'⟩, g1⟩, g2⟩, g3⟩, g4⟩ := hp
    have hsa : sheds h a = [(t, some i)] := by simp only [sheds, ha]
    have hsb : sheds h b = [(t, some j)] := by simp only [sheds, hb]
    -- the guards look at other things
    have wa : ∀ {e' : Env}, (∀ k, k ≠ t → k ≠ d' → e'[k]? = e[k]?) → pwanted ops e' a = pwanted ops e a := fun he => pwanted_congr fun k hk => he k (fun h => g1 (h ▸ hk)) (fun h => g3 (h ▸ hk))
    have wb : ∀ {e' : Env}, (∀ k, k ≠ t → k ≠ d → e'[k]? = e[k]?) → pwanted ops e' b = pwanted ops e b := fun he => pwanted_congr fun k hk => he k (fun h => g2 (h ▸ hk)) (fun h => g4 (h ▸ hk))
    obtain ⟨⟨e1, s1⟩, k1, k2⟩ := Option.bind_eq_some_iff.1 hk
    simp only at k2
    rw [pop_act, act_extract ha] at k1
    have hua : ∀ v, ∀ k, k ≠ t → k ≠ d → (upd e (shedsAt h ops a e) a.dst v)[k]? = e[k]? := fun v k hkt hkd => upd_get fun hm => by
      rw [hda] at hm
      unfold shedsAt at hm
      split at hm
      · rw [hsa] at hm; simp at hm; exact hm.elim hkd hkt
      · simp at hm; exact hkd hm
    have hub : ∀ v, ∀ k, k ≠ t → k ≠ d' → (upd e (shedsAt h ops b e) b.dst v)[k]? = e[k]? := fun v k hkt hkd => upd_get fun hm => by
      rw [hdb] at hm
      unfold shedsAt at hm
      split at hm
      · rw [hsb] at hm; simp at hm; exact hm.elim hkd hkt
      · simp at hm; exact hkd hm
    cases hwa : pwanted ops e a with
    | none => rw [hwa] at k1; cases k1
    | some qa =>
      rw [hwa] at k1
      cases hwb : pwanted ops e b with
      | none =>
        obtain ⟨⟨v, s1'⟩, _, k4⟩ := Option.map_eq_some_iff.1 k1
        simp only [Prod.mk.injEq] at k4
        obtain ⟨rfl, rfl⟩ := k4
        rw [pop_act, act_extract hb, wb (hua v), hwb] at k2
        cases k2
      | some qb =>
        cases qa with
        | false =>
          -- a is not wanted
          simp only [Option.map_some, Option.some.injEq, Prod.mk.injEq] at k1
          obtain ⟨rfl, rfl⟩ := k1
          have hSa : shedsAt h ops a e = [] := shedsAt_no hwa
          have het : (upd e (shedsAt h ops a e) a.dst (.tup []))[t]? = e[t]? := upd_get (by rw [hda, hSa]; simpa [eq_comm] using hdt)
          have hSb : shedsAt h ops b (upd e (shedsAt h ops a e) a.dst (.tup [])) = shedsAt h ops b e := shedsAt_wanted (wb (hua _))
          rw [pop_act, act_extract hb, wb (hua _), het, hSb, ← act_extract (P := P) (C := C) (h := h) hb] at k2
          obtain ⟨⟨u, s2⟩, k5, k6⟩ := Option.map_eq_some_iff.1 k2
          have hs2 : s2 = st := by
            rw [act_extract hb, hwb] at k5
            cases qb with
            | false => simp only [Option.some.injEq, Prod.mk.injEq] at k5; exact k5.2.symm
            | true =>
              simp only at k5
              split at k5
              · obtain ⟨_, _, k⟩ := Option.map_eq_some_iff.1 k5
                simp only [Prod.mk.injEq] at k; exact k.2.symm
              · cases k5
          subst hs2
          rw [pop_act, k5, Option.map_some, Option.bind_some]
          simp only
          have hSa' : shedsAt h ops a (upd e (shedsAt h ops b e) b.dst u) = [] := shedsAt_no ((wa (hub _)).trans hwa)
          rw [pop_act, act_extract ha, wa (hub _), hwa, hSa', ← k6, hSa]
          simp only [Option.map_some]
          rw [← upd_comm (v := .tup []) (S := []) (d := a.dst)]
          intro k hkk hkk'
          rw [hda] at hkk
          rw [hdb] at hkk'
          simp at hkk
          subst hkk
          unfold shedsAt at hkk'
          split at hkk'
          · rw [hsb] at hkk'; simp at hkk'; exact hkk'.elim hdd hdt
          · simp at hkk'; exact hdd hkk'
        | true =>
          simp only at k1
          cases het0 : e[t]? with
          | none => rw [het0] at k1; cases k1
          | some tv =>
            rw [het0] at k1
            cases tv with
            | tup vs =>
              simp only at k1
              obtain ⟨⟨v, s1'⟩, k3, k4⟩ := Option.map_eq_some_iff.1 k1
              obtain ⟨v', k5, k6⟩ := Option.map_eq_some_iff.1 k3
              simp only [Prod.mk.injEq] at k4 k6
              obtain ⟨rfl, rfl⟩ := k4
              obtain ⟨rfl, rfl⟩ := k6
              have hSa : shedsAt h ops a e = [(t, some i)] := (shedsAt_yes hwa).trans hsa
              have htlt : t < e.length := (List.getElem?_eq_some_iff.1 het0).1
              have hue : upd e (shedsAt h ops a e) a.dst v' = (e.set t (.tup (vs.modify i dem2))).set d v' := by
                rw [hSa, hda]; simp only [upd, setDst, shed_tup het0]
              have het1 : (upd e (shedsAt h ops a e) a.dst v')[t]? = some (.tup (vs.modify i dem2)) := by
                rw [hue, List.getElem?_set_ne hdt, List.getElem?_set_self htlt]
              cases qb with
              | false =>
                rw [pop_act, act_extract hb, wb (hua _), hwb] at k2
                simp only [Option.map_some, Option.some.injEq] at k2
                have hSb : shedsAt h ops b (upd e (shedsAt h ops a e) a.dst v') = [] := shedsAt_no ((wb (hua _)).trans hwb)
                have hSb0 : shedsAt h ops b e = [] := shedsAt_no hwb
                have het2 : (upd e (shedsAt h ops b e) b.dst (.tup []))[t]? = e[t]? := upd_get (by rw [hdb, hSb0]; simpa [eq_comm] using hdt')
                rw [pop_act, act_extract hb, hwb]
                simp only [Option.map_some, Option.bind_some]
                rw [pop_act, act_extract ha, wa (hub _), hwa, het2, het0]
                simp only [k5, Option.map_some]
                have hSa2 : shedsAt h ops a (upd e (shedsAt h ops b e) b.dst (.tup [])) = [(t, some i)] := (shedsAt_yes ((wa (hub _)).trans hwa)).trans hsa
                rw [hSa2, ← k2, hSb, hSa, hSb0]
                rw [upd_comm (v := v') (S := [(t, some i)]) (d := a.dst)]
                intro k hkk hkk'
                rw [hda] at hkk; rw [hdb] at hkk'
                simp at hkk hkk'
                subst hkk'
                exact hkk.elim (fun h => hdd h.symm) hdt'
              | true =>
                rw [pop_act, act_extract hb, wb (hua _), hwb, het1] at k2
                simp only [List.getElem?_modify] at k2
                obtain ⟨⟨u, s2⟩, k7, k8⟩ := Option.map_eq_some_iff.1 k2
                obtain ⟨u', k9, k10⟩ := Option.map_eq_some_iff.1 k7
                simp only [Prod.mk.injEq] at k10
                obtain ⟨rfl, rfl⟩ := k10
                obtain ⟨u0, k11, k12⟩ := Option.map_eq_some_iff.1 k9
                rw [if_neg hij] at k12
                subst k12
                have hSb : shedsAt h ops b (upd e (shedsAt h ops a e) a.dst v') = [(t, some j)] := (shedsAt_yes ((wb (hua _)).trans hwb)).trans hsb
                have hSb0 : shedsAt h ops b e = [(t, some j)] := (shedsAt_yes hwb).trans hsb
                have hube : upd e (shedsAt h ops b e) b.dst u0 = (e.set t (.tup (vs.modify j dem2))).set d' u0 := by
                  rw [hSb0, hdb]; simp only [upd, setDst, shed_tup het0]
                have het2 : (upd e (shedsAt h ops b e) b.dst u0)[t]? = some (.tup (vs.modify j dem2)) := by
                  rw [hube, List.getElem?_set_ne hdt', List.getElem?_set_self htlt]
                rw [pop_act, act_extract hb, hwb, het0]
                simp only [k11, Option.map_some, Option.bind_some]
                rw [pop_act, act_extract ha, wa (hub _), hwa, het2]
                simp only [List.getElem?_modify, k5, Option.map_some, if_neg (Ne.symm hij)]
                have hSa2 : shedsAt h ops a (upd e (shedsAt h ops b e) b.dst u0) = [(t, some i)] := (shedsAt_yes ((wa (hub _)).trans hwa)).trans hsa
                rw [← k8, hSa2, hSb, hda, hdb]
                simp only [upd, setDst]
                have q1 : shed (upd e (shedsAt h ops b e) (some d') u0) [(t, some i)] = (upd e (shedsAt h ops b e) (some d') u0).set t (.tup ((vs.modify j dem2).modify i dem2)) := shed_tup (by rw [← hdb]; exact het2)
                have q2 : shed (upd e (shedsAt h ops a e) (some d) v') [(t, some j)] = (upd e (shedsAt h ops a e) (some d) v').set t (.tup ((vs.modify i dem2).modify j dem2)) := shed_tup (by rw [← hda]; exact het1)
                simp only [upd, setDst] at q1 q2
                rw [q1, q2, hSa, hSb0, shed_tup het0, shed_tup het0, modify_comm' vs dem2 hij]
                simp only [Option.map_eq_map, Option.map_some, Option.some.injEq, Prod.mk.injEq, and_true]
                apply List.ext_getElem?
                intro k
                simp only [List.getElem?_set, List.length_set]
                by_cases c1 : d = k
                · subst c1
                  simp [hdd, Ne.symm hdd, hdt, Ne.symm hdt]
                · by_cases c2 : d' = k
                  · subst c2
                    simp [c1, hdt', Ne.symm hdt', Ne.symm hdd]
                  · by_cases c3 : t = k
                    · subst c3; simp [c1, c2]
                    · simp [c1, c2, c3]
            | _ => cases k1
  · cases hp
end
end Go.Sim
/- Operations that may change places, fifth part: one goes ahead of all. -/
namespace Go.Sim
open PV

section
variable {P : Program} {C : Oracle} {h : Hint} {fresh : Bool} {e e1 e2 e' : Env} {st st' : St} {ops : Array Oper} {o a b : Oper} {v u : PV}

theorem hd_dem2 (v : PV) : hd (dem2 v) = hd v := by cases v <;> rfl
theorem hd_dem (v : PV) : hd v.dem = hd v := by cases v <;> rfl

theorem map_hd_set {t : Nat} {x y : PV} (hx : e[t]? = some x) (hy : hd y = hd x) : (e.set t y).map hd = e.map hd := by
  apply List.ext_getElem?
  intro k
  rw [List.getElem?_map, List.getElem?_map]
  by_cases hk : t = k
  · subst hk
    rw [List.getElem?_set_self (List.getElem?_eq_some_iff.1 hx).1, hx, Option.map_some, Option.map_some, hy]
  · rw [List.getElem?_set_ne hk]

theorem shed_hd : ∀ (S : List (Tmp × Option Nat)) (e : Env), (shed e S).map hd = e.map hd
  | [], _ => rfl
  | p :: S, e => by
    rw [shed_cons, shed_hd S]
    obtain ⟨t, _ | i⟩ := p
    · simp only [shed1]; split
      · rename_i v hv; exact map_hd_set hv (hd_dem v)
      · rfl
    · simp only [shed1]; split
      · rename_i vs hv; exact map_hd_set hv rfl
      · rfl

theorem upd_hd {S : List (Tmp × Option Nat)} {d : Option Tmp} {t : Nat} (ht : d ≠ some t) : ((upd e S d v).map hd)[t]? = (e.map hd)[t]? := by
  cases d with
  | none => simp only [upd, setDst, shed_hd]
  | some d =>
    simp only [upd, setDst]
    rw [List.getElem?_map, List.getElem?_set_ne (by simpa using ht), ← List.getElem?_map, shed_hd]

theorem pops_hd : ∀ {os : List Oper} {e : Env} {st : St}, pops P C h false ops os e st = some (e', st') → ∀ t, (∀ o ∈ os, o.dst ≠ some t) → (e'.map hd)[t]? = (e.map hd)[t]?
  | [], e, st, hp, t, _ => by
    simp only [pops, Option.some.injEq, Prod.mk.injEq] at hp
    rw [hp.1]
  | o :: os, e, st, hp, t, hn => by
    simp only [pops] at hp
    obtain ⟨⟨e1, s1⟩, h1, h2⟩ := Option.bind_eq_some_iff.1 hp
    rw [pops_hd h2 t fun o ho => hn o (List.mem_cons_of_mem _ ho)]
    rw [pop_act] at h1
    obtain ⟨⟨v, s⟩, _, h3⟩ := Option.map_eq_some_iff.1 h1
    simp only [Prod.mk.injEq] at h3
    rw [← h3.1]
    exact upd_hd (hn o (List.mem_cons_self ..))

theorem kd_congr {E1 E2 : List Hd} (hE : ∀ t ∈ kdTmps o, E1[t]? = E2[t]?) : kd h E1 o = kd h E2 o := by
  have hx : ∀ x ∈ kdOpers o, hdOf E1 x = hdOf E2 x := fun x hx => by
    cases x with
    | tmp t =>
      have := hE t (List.mem_filterMap.2 ⟨_, hx, rfl⟩)
      simp only [hdOf, List.getD_eq_getElem?_getD, this]
    | _ => rfl
  unfold kdOpers at hx
  cases ho : o.op with
  | load t x => rw [ho] at hx; simp only [kd, ho, hx x (by simp)]
  | store t x y => rw [ho] at hx; simp only [kd, ho, hx x (by simp)]
  | convert s d x => rw [ho] at hx; simp only [kd, ho, hx x (by simp)]
  | call c =>
    rw [ho] at hx
    cases hc : c.callee with
    | value f =>
      simp only [kd, ho, hc]
      have : (c.args.toList.flatMap fun x => boxOf (hdOf E1 x)) = c.args.toList.flatMap fun x => boxOf (hdOf E2 x) := by
        rw [List.flatMap_def, List.flatMap_def]
        congr 1
        exact List.map_congr_left fun x hm => by rw [hx x hm]
      rw [this]
    | builtin b =>
      simp only [kd, ho, hc]
      have : (c.args.toList.any fun x => decide (hdOf E1 x = .msl)) = c.args.toList.any fun x => decide (hdOf E2 x = .msl) := by
        rw [Bool.eq_iff_iff, List.any_eq_true, List.any_eq_true]
        constructor
        · rintro ⟨x, hm, hq⟩; exact ⟨x, hm, by rw [← hx x hm]; exact hq⟩
        · rintro ⟨x, hm, hq⟩; exact ⟨x, hm, by rw [hx x hm]; exact hq⟩
      rw [this]
    | invoke r m => simp only [kd, ho, hc]
  | slice t x lo hi mx => cases mx <;> simp only [kd, ho]
  | _ => simp only [kd, ho]

theorem kd_new {E : List Hd} (hk : kd h E o = some .new) : ∃ t, o.op = .alloc t := by
  cases ho : o.op with
  | alloc t => exact ⟨t, rfl⟩
  | slice t x lo hi mx => cases mx <;> simp [kd, ho] at hk
  | call c =>
    cases hc : c.callee with
    | builtin b => simp only [kd, ho, hc] at hk; split at hk <;> simp at hk
    | value f => simp [kd, ho, hc] at hk
    | invoke r m => simp [kd, ho, hc] at hk
  | buildSlice | makeSlice | convert => simp only [kd, ho] at hk; split at hk <;> simp at hk
  | _ => simp [kd, ho] at hk

/-- What an operation with its guard does to boxes. -/
theorem act_kd {k : Kd} (hk : kd h (e.map hd) o = some k) : Loc2 (act P C h ops o e) [] [] ∨ (pwanted ops e o = some true ∧ KdOk (act P C h ops o e) k) := by
  cases hw : pwanted ops e o with
  | none => exact .inl (Loc2.none.of_eq (by funext st; simp only [act, hw]))
  | some q =>
    cases q with
    | false => exact .inl ((Loc2.pure (some (.tup []))).of_eq (by funext st; simp only [act, hw]; rfl))
    | true =>
      right
      have : act P C h ops o e = osem P C h false o (peval e) := by funext st; simp only [act, hw]
      rw [this]
      exact ⟨rfl, kd_sem hk⟩

/-- What an allocation leaves behind tells its box. -/
theorem made_box {t : TypeId} {r : Env × St} {rest : List Oper} (ho : o.op = .alloc t) (hw : pwanted ops e o = some true) (hp : pop P C h false ops o e st = some (e1, st')) {s' : St}
    (hr : pops P C h false ops rest e1 st' = some (e', s')) (hn : ∀ p ∈ rest, p.dst ≠ o.dst) {b0 : Nat} (hb : madeBox (e'.map hd) o = some b0) : b0 = st.length := by
  unfold madeBox at hb
  simp only [ho] at hb
  cases hd' : o.dst with
  | none => rw [hd'] at hb; cases hb
  | some d =>
    rw [hd'] at hb hn
    simp only at hb
    rw [pops_hd hr d hn] at hb
    unfold pop at hp
    rw [hw] at hp
    simp only [osem, ho, hd', setDst, Option.map_map] at hp
    obtain ⟨cs, _, h2⟩ := Option.map_eq_some_iff.1 hp
    simp only [Function.comp_apply, Prod.mk.injEq] at h2
    rw [← h2.1, List.getElem?_map] at hb
    by_cases hlt : d < (shed e (sheds h o)).length
    · rw [List.getElem?_set_self hlt] at hb
      simp only [Option.map_some, hd, Option.some.injEq] at hb
      exact hb.symm
    · rw [List.getElem?_eq_none (by rw [List.length_set]; exact Nat.le_of_not_lt hlt)] at hb
      cases hb

theorem swap_two {rest : List Oper} {ka kb : Kd} (henv : envApart h ops a b = true) (hka : kd h (e'.map hd) a = some ka) (hkb : kd h (e'.map hd) b = some kb)
    (hap : kdApart (madeOf ka (madeBox (e'.map hd) a) (madeBox (e'.map hd) b)) ka kb = true)
    (sab : ∀ t ∈ kdTmps a ++ kdTmps b, ∀ o ∈ a :: b :: rest, o.dst ≠ some t)
    (da : ka = .new → ∀ o ∈ b :: rest, o.dst ≠ a.dst) (db : kb = .new → ∀ o ∈ rest, o.dst ≠ b.dst)
    (hr : pops P C h false ops (a :: b :: rest) e st = some (e', st')) : pops P C h false ops (b :: a :: rest) e st = some (e', st') := by
  have hE : ∀ t ∈ kdTmps a ++ kdTmps b, (e'.map hd)[t]? = (e.map hd)[t]? := fun t ht => pops_hd hr t (sab t ht)
  have hka' : kd h (e.map hd) a = some ka := by rw [← hka]; exact kd_congr fun t ht => (hE t (List.mem_append_left _ ht)).symm
  have hkb' : kd h (e.map hd) b = some kb := by rw [← hkb]; exact kd_congr fun t ht => (hE t (List.mem_append_right _ ht)).symm
  have hr0 := hr
  simp only [pops] at hr
  obtain ⟨⟨e1, s1⟩, k1, hr⟩ := Option.bind_eq_some_iff.1 hr
  simp only at hr
  obtain ⟨⟨e2, s2⟩, k2, hr⟩ := Option.bind_eq_some_iff.1 hr
  simp only at hr
  have hk : (pop P C h false ops a e st).bind (fun (e', s') => pop P C h false ops b e' s') = some (e2, s2) := by rw [k1]; exact k2
  have hgoal : (pop P C h false ops b e st).bind (fun (e', s') => pop P C h false ops a e' s') = some (e2, s2) := by
    unfold envApart at henv
    simp only [Bool.or_eq_true, Bool.and_eq_true] at henv
    rcases henv with henv | ⟨d1, d2⟩
    · exact swap_parts henv hk
    · refine swap_apart d1 d2 ?_ hk
      intro v u r1 r2 p1 p2
      have q1 := act_kd (P := P) (C := C) (ops := ops) hka'
      have q2 := act_kd (P := P) (C := C) (ops := ops) hkb'
      have nil1 : ∀ l : List Nat, disj [] l = true := fun l => rfl
      have nil2 : ∀ l : List Nat, disj l [] = true := fun l => by simp [disj]
      -- the box that is made
      have ba : ka = .new → pwanted ops e a = some true → madeBox (e'.map hd) a = some st.length ∨ madeBox (e'.map hd) a = none := fun hn hw => by
        subst hn
        obtain ⟨t, ho⟩ := kd_new hka'
        cases hm : madeBox (e'.map hd) a with
        | none => exact .inr rfl
        | some b0 =>
          left
          have hr' : pops P C h false ops (b :: rest) e1 s1 = some (e', st') := by simp only [pops, k2, Option.bind_some]; exact hr
          rw [made_box (r := (e', st')) ho hw k1 hr' (da rfl) hm]
      rcases q1 with q1 | ⟨w1, q1⟩
      · rcases q2 with q2 | ⟨w2, q2⟩
        · exact swap_loc q1 q2 rfl rfl p1 p2
        · cases kb with
          | loc r w => exact swap_loc q1 q2 rfl (nil2 _) p1 p2
          | new => exact swap_loc_new q1 q2 (by simp) p1 p2
      · rcases q2 with q2 | ⟨w2, q2⟩
        · cases ka with
          | loc r w => exact swap_loc q1 q2 (nil2 _) rfl p1 p2
          | new => exact swap_new_loc q1 q2 (by simp) p1 p2
        · cases ka with
          | loc r w =>
            cases kb with
            | loc r' w' =>
              simp only [kdApart, Bool.and_eq_true] at hap
              exact swap_loc q1 q2 hap.1 hap.2 p1 p2
            | new =>
              simp only [kdApart, madeOf] at hap
              cases hm : madeBox (e'.map hd) b with
              | none => rw [hm] at hap; simp at hap
              | some b0 =>
                rw [hm] at hap
                obtain ⟨t, ho⟩ := kd_new hkb'
                -- the state behind a has as many boxes
                have hs1 : s1 = r1 := by
                  rw [pop_act, p1] at k1
                  simp only [Option.map_some, Option.some.injEq, Prod.mk.injEq] at k1
                  exact k1.2.symm
                have hw1 : pwanted ops e1 b = some true := by
                  rw [← w2]
                  refine pwanted_congr fun t ht => ?_
                  rw [pop_act, p1] at k1
                  simp only [Option.map_some, Option.some.injEq, Prod.mk.injEq] at k1
                  rw [← k1.1]
                  exact upd_get fun hm => disj_spec d1 t (shedsAt_sub hm) (List.mem_append_left _ (List.mem_append_right _ ht))
                have hb0 := made_box (r := (e', st')) ho hw1 k2 hr (db rfl) hm
                have hl : s1.length = st.length := by rw [hs1]; exact (q1.frame p1).1
                refine swap_loc_new q1 q2 ?_ p1 p2
                rw [← hl, ← hb0]
                simpa using hap
          | new =>
            cases kb with
            | loc r w =>
              simp only [kdApart, madeOf] at hap
              rcases ba rfl w1 with hm | hm
              · rw [hm] at hap
                exact swap_new_loc q1 q2 (by simpa using hap) p1 p2
              · rw [hm] at hap; simp at hap
            | new => simp [kdApart] at hap
  obtain ⟨⟨e3, s3⟩, k3, k4⟩ := Option.bind_eq_some_iff.1 hgoal
  simp only at k4
  simp only [pops, k3, Option.bind_some, k4]
  exact hr

/-- The pairs in a list may change places with b. -/
theorem bubble : ∀ (pre : List Oper) {rest : List Oper} {e : Env} {st : St}, pops P C h false ops (pre ++ b :: rest) e st = some (e', st') →
    (∀ a ∈ pre, envApart h ops a b = true ∧ ∃ ka kb, kd h (e'.map hd) a = some ka ∧ kd h (e'.map hd) b = some kb ∧ kdApart (madeOf ka (madeBox (e'.map hd) a) (madeBox (e'.map hd) b)) ka kb = true) →
    (∀ t ∈ kdTmps b, ∀ o ∈ pre ++ b :: rest, o.dst ≠ some t) →
    (∀ l a r, pre = l ++ a :: r → (∀ t ∈ kdTmps a, ∀ o ∈ a :: r ++ b :: rest, o.dst ≠ some t) ∧ (kd h (e'.map hd) a = some .new → ∀ o ∈ r ++ b :: rest, o.dst ≠ a.dst)) →
    (kd h (e'.map hd) b = some .new → ∀ o ∈ pre ++ rest, o.dst ≠ b.dst) →
    pops P C h false ops (b :: (pre ++ rest)) e st = some (e', st')
  | [], rest, e, st, hr, _, _, _, _ => hr
  | a :: pre, rest, e, st, hr, hp, hb, ha, hd' => by
    have hr' := hr
    simp only [List.cons_append, pops] at hr'
    obtain ⟨⟨e1, s1⟩, k1, k2⟩ := Option.bind_eq_some_iff.1 hr'
    simp only at k2
    have ih := bubble pre k2 (fun x hx => hp x (List.mem_cons_of_mem _ hx)) (fun t ht o ho => hb t ht o (List.mem_cons_of_mem _ ho)) (fun l x r hl => ha (a :: l) x r (by rw [hl]; rfl)) (fun hn o ho => hd' hn o (List.mem_cons_of_mem _ ho))
    obtain ⟨henv, ka, kb, hka, hkb, hap⟩ := hp a (List.mem_cons_self ..)
    obtain ⟨a1, a2⟩ := ha [] a pre rfl
    refine swap_two (rest := pre ++ rest) henv hka hkb hap (fun t ht o ho => ?_) (fun hn o ho => ?_) (fun hn o ho => ?_) ?_
    · have hm : o ∈ a :: pre ++ b :: rest := by
        simp only [List.mem_cons, List.mem_append] at ho ⊢
        rcases ho with ho | ho | ho | ho
        · exact .inl (.inl ho)
        · exact .inr (.inl ho)
        · exact .inl (.inr ho)
        · exact .inr (.inr ho)
      rcases List.mem_append.1 ht with ht | ht
      · exact a1 t ht o hm
      · exact hb t ht o hm
    · subst hn
      refine a2 hka o ?_
      simp only [List.mem_cons, List.mem_append] at ho ⊢
      rcases ho with ho | ho | ho
      · exact .inr (.inl ho)
      · exact .inl ho
      · exact .inr (.inr ho)
    · subst hn
      exact hd' hkb o (List.mem_cons_of_mem _ ho)
    · simp only [pops, k1, Option.bind_some]
      simpa only [pops] using ih
end
end Go.Sim
/- Calls, sixth part: what comes back. -/
namespace Go.Sim
open PV

section
variable {P : Program} {G : Gh} {B : List Loc} {e : Env} {st : St} {tm : List Value} {w : World} {x y z : PV} {v u : Value}

theorem VRel2.flat {B' : List Loc} (hx : x.flat = true) (h : VRel2 G B x v) : VRel2 G B' x v := by
  cases x <;> simp only [VRel2] at h ⊢
  case agg cs =>
    obtain ⟨vs, h1, h2, h3⟩ := h
    refine ⟨vs, h1, h2, fun i x y hx' hy => (h3 i x y hx' hy).flat1 ?_⟩
    simp only [PV.flat] at hx
    exact List.all_eq_true.1 hx x (List.mem_of_getElem? hx')
  case tup => simp [PV.flat, PV.flat1] at hx
  all_goals first | exact h | exact h.flat1 (by simpa [PV.flat] using hx)

/-- How locations after a call are named. -/
def Named (Bc BB : List Loc) (ls : List Lent) (base : Nat) : Prop :=
  (∀ (i : Nat) l, Bc[i]? = some l → i < ls.length → ∃ k L, ls[i]? = some k ∧ BB[k.1]? = some L ∧ l.blk = L.blk ∧ l.off = L.off + k.2.1) ∧
  ∀ (i : Nat) l, Bc[i]? = some l → ls.length ≤ i → BB[base + (i - ls.length)]? = some l

theorem backOne_ok {Bc BB : List Loc} {ls : List Lent} {base : Nat} (hn : Named Bc BB ls base) (hx : outFlat x = true) (h : VRel2 G Bc x v) :
    VRel2 G BB (backOne ls base ls.length x) v ∧ (∀ b vs, obs b (backOne ls base ls.length x).cells vs = obs b x.cells vs) ∧ (∀ w vs, Os G w x.cells vs → Os G w (backOne ls base ls.length x).cells vs) := by
  cases x with
  | ptr b o =>
    have o0 : ∀ b i o (l : List Value), obs b [PV.ptr i o] l = 0 := fun b i o l => by
      cases l with
      | nil => simp [obs]
      | cons c r => cases r <;> simp [obs, ob]
    obtain ⟨l, h1, h2⟩ := h
    simp only [backOne]
    split
    · rename_i hb
      obtain ⟨k, L, k1, k2, k3, k4⟩ := hn.1 b l h1 hb
      rw [k1]
      refine ⟨⟨L, k2, by rw [h2, k3, k4, Nat.add_assoc]⟩, fun b vs => by simp only [PV.cells]; rw [o0, o0], fun w vs _ => ?_⟩
      intro j y u hy hu
      cases j with
      | zero => simp [PV.cells] at hy; subst hy; simp [O1]
      | succ j => simp [PV.cells] at hy
    · rename_i hb
      refine ⟨⟨l, hn.2 b l h1 (by omega), h2⟩, fun b vs => by simp only [PV.cells]; rw [o0, o0], fun w vs _ => ?_⟩
      intro j y u hy hu
      cases j with
      | zero => simp [PV.cells] at hy; subst hy; simp [O1]
      | succ j => simp [PV.cells] at hy
  | tup ts => simp [outFlat, PV.flat, PV.flat1] at hx
  | agg cs =>
    refine ⟨?_, fun _ _ => rfl, fun _ _ h => h⟩
    exact VRel2.flat (x := .agg cs) (B' := BB) (by simpa [outFlat] using hx) h
  | _ => exact ⟨VRel2.flat (B' := BB) (by simpa [outFlat, backOne] using hx) h, fun _ _ => rfl, fun _ _ h => h⟩

theorem back_ok {Bc BB : List Loc} {ls : List Lent} {base : Nat} (hn : Named Bc BB ls base) (hx : outOk x = true) (h : VRel G Bc x v) :
    VRel G BB (back ls base ls.length x) v ∧ (∀ b, ob3 b (back ls base ls.length x) v = ob3 b x v) ∧ (∀ w, O3 G w x v → O3 G w (back ls base ls.length x) v) := by
  by_cases ht : ∃ ts, x = .tup ts
  · obtain ⟨ts, rfl⟩ := ht
    obtain ⟨vs, rfl, h2, h3⟩ := h
    simp only [outOk] at hx
    have hx := List.all_eq_true.1 hx
    simp only [back]
    refine ⟨⟨vs, rfl, by simpa using h2, fun i x y hx' hy => ?_⟩, fun b => ?_, fun w ho => ?_⟩
    · rw [List.getElem?_map] at hx'
      obtain ⟨z, hz, rfl⟩ := Option.map_eq_some_iff.1 hx'
      exact (backOne_ok hn (hx z (List.mem_of_getElem? hz)) (h3 i z y hz hy)).1
    · simp only [ob3]
      congr 1
      apply List.ext_getElem?
      intro i
      simp only [List.getElem?_zipWith, List.getElem?_map]
      cases hz : ts[i]? with
      | none => simp
      | some z =>
        cases hy : vs.toList[i]? with
        | none => simp
        | some y =>
          simp only [Option.map_some]
          congr 1
          exact (backOne_ok hn (hx z (List.mem_of_getElem? hz)) (h3 i z y hz (by simpa using hy))).2.1 b _
    · intro i x' y hx' hy
      rw [List.getElem?_map] at hx'
      obtain ⟨z, hz, rfl⟩ := Option.map_eq_some_iff.1 hx'
      exact (backOne_ok hn (hx z (List.mem_of_getElem? hz)) (h3 i z y hz hy)).2.2 w _ (ho i z y hz hy)
  · have hb : back ls base ls.length x = backOne ls base ls.length x := by
      cases x <;> first | rfl | exact (ht ⟨_, rfl⟩).elim
    have hx2 : outFlat x = true := by cases x <;> first | exact hx | exact (ht ⟨_, rfl⟩).elim
    have h2 : VRel2 G Bc x v := by cases x <;> first | exact h | exact (ht ⟨_, rfl⟩).elim
    obtain ⟨a1, a2, a3⟩ := backOne_ok hn hx2 h2
    have hnt : ∀ ts, backOne ls base ls.length x ≠ .tup ts := fun ts he => by
      cases x <;> simp only [backOne] at he
      all_goals first
        | (cases he; done)
        | exact ht ⟨_, rfl⟩
        | skip
      split at he
      · split at he <;> cases he
      · cases he
    rw [hb]
    refine ⟨?_, fun b => ?_, fun w ho => ?_⟩
    · revert a1
      cases hy : backOne ls base ls.length x <;> first | exact fun a => a | exact (hnt _ hy).elim
    · have e1 : ∀ y : PV, (∀ ts, y ≠ .tup ts) → ob3 b y v = obs b y.cells v.cells.toList := fun y hy => by
        unfold ob3; split
        · exact (hy _ rfl).elim
        · rfl
      rw [e1 _ hnt, e1 x (fun ts h => ht ⟨ts, h⟩), a2]
    · have e1 : ∀ y : PV, (∀ ts, y ≠ .tup ts) → (O3 G w y v ↔ Os G w y.cells v.cells.toList) := fun y hy => by
        unfold O3; split
        · exact (hy _ rfl).elim
        · rfl
      exact (e1 _ hnt).2 (a3 w _ ((e1 x (fun ts h => ht ⟨ts, h⟩)).1 ho))
end

end Go.Sim
/- Calls, seventh part: the state after a call. -/
namespace Go.Sim
open PV

section
variable {P : Program} {G : Gh} {B : List Loc} {e : Env} {st : St} {tm : List Value} {w : World} {x y z : PV} {v u : Value}

theorem giveBack_take : ∀ (ls : List Lent) (bs : List (List PV)) (st : St), giveBack st ls (bs.take ls.length) = giveBack st ls bs
  | [], _, _ => by simp [giveBack]
  | _ :: _, [], _ => by simp [giveBack]
  | l :: ls, b :: bs, st => by simp only [List.length_cons, List.take_succ_cons, giveBack]; exact giveBack_take ls bs _

theorem giveBack_holes {ls : List Lent} {bs : List (List PV)} (hl : LentOk B st ls) (hb : bs.length = ls.length) (hlen : ∀ (m : Nat) l b, ls[m]? = some l → bs[m]? = some b → b.length = l.2.2) :
    giveBack (giveBack st ls (holes ls)) ls bs = giveBack st ls bs := by
  apply List.ext_getElem?
  intro i
  by_cases hi : i ∈ ls.map (·.1)
  · obtain ⟨l, hm, rfl⟩ := List.mem_map.1 hi
    obtain ⟨m, hm⟩ := List.getElem?_of_mem hm
    obtain ⟨L, cs, h1, h2, h3, _⟩ := hl.ok l (List.mem_of_getElem? hm)
    obtain ⟨b, hb'⟩ : ∃ b, bs[m]? = some b := ⟨_, List.getElem?_eq_getElem (by rw [hb]; exact (List.getElem?_eq_some_iff.1 hm).1)⟩
    have hh : (holes ls)[m]? = some (List.replicate l.2.2 PV.undef) := by unfold holes; rw [List.getElem?_map, hm]; rfl
    have g1 := giveBack_get hl.one hm hh h2
    rw [giveBack_get hl.one hm hb' g1, giveBack_get hl.one hm hb' h2]
    have hbl := hlen m l b hm hb'
    congr 1
    apply List.ext_getElem?
    intro j
    rw [getElem?_setCells _ _ _ _ (by rw [length_setCells, hbl]; exact h3), getElem?_setCells _ _ _ _ (by simpa using h3), getElem?_setCells _ _ _ _ (by rw [hbl]; exact h3)]
    split
    · rfl
    · rename_i hj
      rw [if_neg (by simp only [List.length_replicate]; rw [← hbl]; exact hj)]
  · rw [giveBack_ne hi, giveBack_ne hi, giveBack_ne hi]

/-- The state after a call. -/
theorem call_back {e0 : Env} {xs ys : List PV} {us : List Value} {ls : List Lent} {ts : List TypeId} {G' : Gh} {Bc' : List Loc} {cv : Value} {bx' : List (List PV)} {w' : World}
    (h0 : Sim G B e0 st tm w) (h : Sim G B e st tm w) (hcnt : ∀ b, obE b xs us + obE b e tm = obE b e0 tm) (hp : passAll P st ts xs [] = some (ys, ls)) (hlen : xs.length = us.length)
    (hv : ∀ (i : Nat) x v, xs[i]? = some x → us[i]? = some v → VRel G B x v ∧ O3 G w x v)
    (hstep : Step G (ls.map (subLoc B)) ys (ls.map (lentCells st)) us w G' Bc' [x] bx' [cv] w') (hble : Ble (ls.map (subLoc B)) Bc') (hfl : ∀ cs ∈ bx', cs.all flat1 = true) (hout : outOk x = true) :
    Step G B e0 st tm w G' (B ++ Bc'.drop ls.length) (back ls st.length ls.length x :: e) (giveBack st ls bx' ++ bx'.drop ls.length) (cv :: tm) w' := by
  have hu0 : ∀ b, obE b xs us + obB b st (B.map (cellsAt w)) ≤ 1 := fun b => by have := h0.uniq b; have := hcnt b; omega
  obtain ⟨a1, a2, a3⟩ := h.callee hp hlen hv hu0
  obtain ⟨s1, s2⟩ := h.lendAll a1
  have hmm : (ls.map (subLoc B)).map (cellsAt w) = ls.map fun l => cellsAt w (subLoc B l) := by rw [List.map_map]; rfl
  -- a block of a lent box
  have hsubL : ∀ m ∈ ls.map (subLoc B), ∃ L ∈ B, L.blk = m.blk := fun m hm => by
    obtain ⟨l, hl, rfl⟩ := List.mem_map.1 hm
    obtain ⟨L, cs, h1, h2, _⟩ := a1.ok l hl
    exact ⟨L, List.mem_of_getElem? h1, by unfold subLoc; rw [h1]⟩
  have hMsub : ∀ b, Mof (ls.map (subLoc B)) ys (ls.map (lentCells st)) us w b → Mof B e0 st tm w b := fun b hb => by
    rcases hb with hb | ⟨m, hm, rfl⟩
    · left
      have := s2 b; have := hcnt b; have := a3 b
      rw [hmm] at hb
      omega
    · obtain ⟨L, hL, he⟩ := hsubL m hm
      exact .inr ⟨L, hL, he⟩
  have hMdis : ∀ b, 0 < obE b e tm + obB b (giveBack st ls (holes ls)) (B.map (cellsAt w)) → ¬ Mof (ls.map (subLoc B)) ys (ls.map (lentCells st)) us w b := fun b hb hM => by
    rcases hM with hM | ⟨m, hm, rfl⟩
    · have := s2 b; have := hcnt b; have := a3 b; have := h0.uniq b
      rw [hmm] at hM
      omega
    · obtain ⟨L, hL, he⟩ := hsubL m hm
      have := s1.notOwned (b := m.blk) (by rw [← he]; exact (h.boxLt hL).2)
      omega
  have hBc : ∀ (i : Nat) k, ls[i]? = some k → Bc'[i]? = some (subLoc B k) := fun i k hk => hble i _ (by rw [List.getElem?_map, hk]; rfl)
  have hkl : ls.length ≤ Bc'.length := by
    by_cases h0 : ls.length = 0
    · omega
    · obtain ⟨k, hk⟩ : ∃ k, ls[ls.length - 1]? = some k := ⟨_, List.getElem?_eq_getElem (by omega)⟩
      have := (List.getElem?_eq_some_iff.1 (hBc _ k hk)).1
      omega
  have hbl : bx'.length = Bc'.length := hstep.sim.blen.symm
  -- a box that is not lent
  have hfar : ∀ (i : Nat) L, B[i]? = some L → i ∉ ls.map (·.1) → w'.heap[L.blk]? = w.heap[L.blk]? := fun i L hL hi => by
    refine hstep.prog.heap _ (h.boxLt (List.mem_of_getElem? hL)).1 fun hM => ?_
    rcases hM with hM | ⟨m, hm, he⟩
    · have := a2.notOwned (b := L.blk) (h.boxLt (List.mem_of_getElem? hL)).2
      omega
    · obtain ⟨l, hl, rfl⟩ := List.mem_map.1 hm
      obtain ⟨L', cs, h1, h2, _⟩ := a1.ok l hl
      have hb' : (subLoc B l).blk = L'.blk := by unfold subLoc; rw [h1]
      have := h.bdis _ _ _ _ hL h1 (by rw [← he, hb'])
      exact hi (this ▸ List.mem_map_of_mem hl)
  obtain ⟨f1, f2⟩ := s1.frame hstep.sim hstep.prog hMdis fun i L cs hL hcs c el fr hc => by
    by_cases hi : i ∈ ls.map (·.1)
    · obtain ⟨l, hm, rfl⟩ := List.mem_map.1 hi
      obtain ⟨m, hm⟩ := List.getElem?_of_mem hm
      obtain ⟨L', cs0, h1, h2, h3, h4, _⟩ := a1.ok l (List.mem_of_getElem? hm)
      rw [hL] at h1; cases h1
      have hsl : subLoc B l = ⟨L.blk, L.off + l.2.1, l.2.2⟩ := by unfold subLoc; rw [hL]
      have hmem : subLoc B l ∈ ls.map (subLoc B) := List.mem_map_of_mem (List.mem_of_getElem? hm)
      obtain ⟨c', r1, r2, r3⟩ := hstep.out _ hmem c el fr (by rw [hsl]; exact hc)
      rw [hsl] at r1 r3
      refine ⟨c', r1, r2, fun j hj => ?_⟩
      by_cases hr : l.2.1 ≤ j ∧ j < l.2.1 + l.2.2
      · right
        have hh : (holes ls)[m]? = some (List.replicate l.2.2 PV.undef) := by unfold holes; rw [List.getElem?_map, hm]; rfl
        rw [giveBack_get a1.one hm hh h2] at hcs
        simp only [Option.some.injEq] at hcs
        refine ⟨?_, fun v hv => ?_⟩
        · rw [← hcs, getElem?_setCells _ _ _ _ (by simpa using h3), if_pos (by simpa using hr), List.getElem?_replicate, if_pos (by omega)]
        · have hB' := hBc m l hm
          obtain ⟨cs', hcs'⟩ : ∃ cs', bx'[m]? = some cs' := ⟨_, List.getElem?_eq_getElem (by rw [hbl]; exact (List.getElem?_eq_some_iff.1 hB').1)⟩
          have hb := hstep.sim.boxes m _ cs' hB' hcs'
          rw [hsl] at hb
          obtain ⟨d, el', fr', q1, q2, q3⟩ := hb.heap
          have q1' : w'.heap[L.blk]? = some (.cells d el' fr') := q1
          rw [r1] at q1'; cases q1'
          obtain ⟨y, hy⟩ : ∃ y, cs'[j - l.2.1]? = some y := ⟨_, List.getElem?_eq_getElem (by rw [hb.len]; simp only; omega)⟩
          refine (hb.cells (j - l.2.1) y v hy ?_).1
          rw [cellsAt_get q1 _ (by simp only; omega)]
          simp only
          rw [← hv]; congr 1; omega
      · left
        have := r3 (L.off + j) (by simp only; omega)
        exact this
    · rw [hfar i L hL hi]
      exact ⟨c, hc, rfl, fun j _ => .inl rfl⟩
  have hsplit : ∀ b, obB b bx' (Bc'.map (cellsAt w')) = obB b (bx'.take ls.length) (ls.map fun l => cellsAt w' (subLoc B l)) + obB b (bx'.drop ls.length) ((Bc'.drop ls.length).map (cellsAt w')) := fun b => by
    have ht : (Bc'.map (cellsAt w')).take ls.length = ls.map fun l => cellsAt w' (subLoc B l) := by
      apply List.ext_getElem?
      intro i
      rw [List.getElem?_take, List.getElem?_map, List.getElem?_map]
      cases hi : ls[i]? with
      | none => rw [if_neg (by have := List.getElem?_eq_none_iff.1 hi; omega)]; rfl
      | some k => rw [if_pos (List.getElem?_eq_some_iff.1 hi).1, hBc i k hi]; rfl
    conv => lhs; rw [← List.take_append_drop ls.length bx', ← List.take_append_drop ls.length (Bc'.map (cellsAt w'))]
    rw [obB_append b _ _ _ _ (by simp [hbl]), ht, List.map_drop]
  have hRT : ∀ b, (obE b [x] [cv] + obB b bx' (Bc'.map (cellsAt w'))) + (obE b e tm + obB b (giveBack st ls (holes ls)) (B.map (cellsAt w'))) ≤ 1 := fun b => by
    have t1 := hstep.sim.uniq b
    have t2 := f1.uniq b
    by_cases hT : 0 < obE b [x] [cv] + obB b bx' (Bc'.map (cellsAt w'))
    · by_cases hR : 0 < obE b e tm + obB b (giveBack st ls (holes ls)) (B.map (cellsAt w'))
      · rw [f2] at hR
        rcases hstep.own b hT with hM | hge
        · exact (hMdis b hR hM).elim
        · have := s1.mofLt (b := b) (.inl hR)
          omega
      · omega
    · omega
  obtain ⟨g1, g2⟩ := f1.backAll (Bc := Bc') (ls := ls) (bs := bx'.take ls.length) a1.one (fun m l hm => by
      obtain ⟨L, cs, h1, h2, h3, h4, _⟩ := a1.ok l (List.mem_of_getElem? hm)
      have hh : (holes ls)[m]? = some (List.replicate l.2.2 PV.undef) := by unfold holes; rw [List.getElem?_map, hm]; rfl
      have hB' := hBc m l hm
      obtain ⟨cs', hcs'⟩ : ∃ cs', bx'[m]? = some cs' := ⟨_, List.getElem?_eq_getElem (by rw [hbl]; exact (List.getElem?_eq_some_iff.1 hB').1)⟩
      exact ⟨L, _, cs', h1, giveBack_get a1.one hm hh h2, by rw [List.getElem?_take, if_pos (List.getElem?_eq_some_iff.1 hm).1]; exact hcs', by rw [length_setCells]; exact h3, hfl cs' (List.mem_of_getElem? hcs'), hstep.sim.boxes m _ cs' hB' hcs'⟩)
    (by simp; omega) (fun b => by have := hRT b; have := hsplit b; omega)
  rw [giveBack_holes a1 (by simp; omega) (fun m l b hm hb => by
      rw [List.getElem?_take, if_pos (List.getElem?_eq_some_iff.1 hm).1] at hb
      have := (hstep.sim.boxes m _ b (hBc m l hm) hb).len
      rw [this]
      obtain ⟨L, cs, h1, _⟩ := a1.ok l (List.mem_of_getElem? hm)
      unfold subLoc; rw [h1]), giveBack_take] at g1 g2
  have hnew : ∀ m ∈ Bc'.drop ls.length, w.heap.size ≤ m.blk := fun m hm => by
    obtain ⟨i, hi⟩ := List.getElem?_of_mem hm
    rw [List.getElem?_drop] at hi
    rcases hstep.box m (List.mem_of_getElem? hi) with h1 | h1
    · exact h1
    · obtain ⟨j, hj⟩ := List.getElem?_of_mem h1
      have h2 := hble j m hj
      have := hstep.sim.bdis _ _ m m hi h2 rfl
      have := (List.getElem?_eq_some_iff.1 hj).1
      simp at this
      omega
  obtain ⟨k1, k2⟩ := g1.merge hstep.sim ls.length hfl (fun l hl m hm => by have := (h.boxLt hl).1; have := hnew m hm; omega) (fun b => by
    have := hRT b; have := hsplit b; have := g2 b; omega)
  have hnm : Named Bc' (B ++ Bc'.drop ls.length) ls st.length := by
    refine ⟨fun i l hl hi => ?_, fun i l hl hi => ?_⟩
    · obtain ⟨k, hk⟩ : ∃ k, ls[i]? = some k := ⟨_, List.getElem?_eq_getElem hi⟩
      obtain ⟨L, cs, h1, _⟩ := a1.ok k (List.mem_of_getElem? hk)
      rw [hBc i k hk] at hl; cases hl
      have hsl : subLoc B k = ⟨L.blk, L.off + k.2.1, k.2.2⟩ := by unfold subLoc; rw [h1]
      exact ⟨k, L, hk, Ble.append _ _ _ _ h1, by rw [hsl], by rw [hsl]⟩
    · rw [← h.blen, List.getElem?_append_right (by omega), List.getElem?_drop, ← hl]
      congr 1; omega
  obtain ⟨r1, r2⟩ := hstep.sim.rel 0 x cv rfl rfl
  obtain ⟨n1, n2, n3⟩ := back_ok hnm hout r1
  have hx1 : ∀ b, obE b [x] [cv] = ob3 b x cv := fun b => by simp [obE]
  have hfin : ∀ b, obE b (back ls st.length ls.length x :: e) (cv :: tm) + obB b (giveBack st ls bx' ++ bx'.drop ls.length) ((B ++ Bc'.drop ls.length).map (cellsAt w')) ≤
      (obE b [x] [cv] + obB b bx' (Bc'.map (cellsAt w'))) + (obE b e tm + obB b (giveBack st ls (holes ls)) (B.map (cellsAt w'))) := fun b => by
    have := hsplit b; have := g2 b; have := k2 b; have := n2 b; have := hx1 b
    simp only [obE] at *
    omega
  refine ⟨k1.push n1 (n3 _ r2) fun b => ?_, hstep.prog.weaken hMsub, fun b hb => ?_, fun l hl => ?_, fun L hL => ?_⟩
  · have := hfin b; have := hRT b
    simp only [obE] at *
    omega
  · have h1 := hfin b
    by_cases hT : 0 < obE b [x] [cv] + obB b bx' (Bc'.map (cellsAt w'))
    · exact (hstep.own b hT).imp (hMsub b) id
    · have hR : 0 < obE b e tm + obB b (giveBack st ls (holes ls)) (B.map (cellsAt w)) := by rw [← f2]; omega
      left; left
      have := s2 b; have := hcnt b
      omega
  · rcases List.mem_append.1 hl with hl | hl
    · exact .inr hl
    · exact .inl (hnew l hl)
  · obtain ⟨i, hi⟩ := List.getElem?_of_mem hL
    intro c el fr hc
    by_cases hil : i ∈ ls.map (·.1)
    · obtain ⟨l, hm, rfl⟩ := List.mem_map.1 hil
      obtain ⟨L', cs0, h1, h2, h3, h4, _⟩ := a1.ok l hm
      rw [hi] at h1; cases h1
      have hsl : subLoc B l = ⟨L.blk, L.off + l.2.1, l.2.2⟩ := by unfold subLoc; rw [hi]
      obtain ⟨c', r1, r2, r3⟩ := hstep.out _ (List.mem_map_of_mem hm) c el fr (by rw [hsl]; exact hc)
      rw [hsl] at r1 r3
      exact ⟨c', r1, r2, fun j hj => r3 j (by simp only; omega)⟩
    · rw [hfar i L hi hil]
      exact ⟨c, hc, rfl, fun j _ => rfl⟩
end

end Go.Sim
/- Calls, last part: the operation. -/
namespace Go.Sim
open PV

section
variable {P : Program} {G : Gh} {B : List Loc} {e : Env} {st : St} {tm : List Value} {w : World} {x y z : PV} {v u : Value}
variable {h : Hint} {fresh : Bool} {C : Oracle} {a : Act} {o : Oper} {st' : St}

theorem run_call {c : Call} {f : Operand} {g : FuncId} {fn : Func} (ho : o.op = .call c) (hb : c.callee = .value f) (hf : a.eval f = .func (.func g) #[] #[])
    (hfn : P.funcs[g]? = some fn) (h1 : fn.body.isNone = false) (h2 : (fn.name == "runtime.NumGoroutine") = false) :
    (execOp a.eval o).run P w = .ok (.enter g (c.args.map a.eval)) w := by
  have e1 : (execOp a.eval o) = callFunc g (#[] ++ c.args.map a.eval ++ #[]) := by
    simp only [execOp, ho, resolve, hb, hf]; rfl
  rw [e1]
  have h1' : ¬ fn.body = none := fun h => by rw [h] at h1; cases h1
  have h2' : ¬ fn.name = "runtime.NumGoroutine" := fun h => by rw [h] at h2; simp at h2
  simp [callFunc, go_sem, hfn, h1', h2']

theorem Does.call {R : Value → World → Prop} {g : FuncId} {args : Array Value} (hr : (execOp a.eval o).run P w = .ok (.enter g args) w)
    (hc : Calls P g args w fun r w' => ∃ cv, r = .returned cv ∧ R cv w') : Does P o a w R := fun K Q hK => by
  unfold Oper.wp; rw [hr, Oper.upon_enter]
  refine hc.mono fun r w' hrr => ?_
  obtain ⟨cv, rfl, hR⟩ := hrr
  exact hK cv w' hR

theorem does_call (hC : CallOk P C) (hs : Sim G B e st a.tmps.toList w) {c : Call} {f : Operand} (ho : o.op = .call c) (hb : c.callee = .value f) (hv : osem P C h fresh o (peval e) st = some (x, st')) : Goal P h G B e st a w o x st' := by
  simp only [osem, ho, hb] at hv
  obtain ⟨xs, hxs, hv⟩ := Option.bind_eq_some_iff.1 hv
  split at hv
  · rename_i g hf
    split at hv
    · cases hv
    · rename_i hok
      have hok : okTake c.args.toList = true := by simpa using hok
      obtain ⟨fn, hfn, hv⟩ := Option.bind_eq_some_iff.1 hv
      unfold pcallOp at hv
      obtain ⟨⟨ys, ls⟩, hp, hv⟩ := Option.bind_eq_some_iff.1 hv
      obtain ⟨⟨r, bx⟩, hr, hv⟩ := Option.bind_eq_some_iff.1 hv
      simp only at hr hv
      split at hv
      · simp only [Option.some.injEq, Prod.mk.injEq] at hv
        obtain ⟨rfl, rfl⟩ := hv
        obtain ⟨⟨fn', hfn', k1, k2⟩, hcall⟩ := hC _ _ _ _ _ hr
        have hfe : a.eval f = .func (.func g) #[] #[] := (eval_rel hs hf).1
        obtain ⟨n1, n2⟩ := hs.takeMany hxs hok
        obtain ⟨p1, p2⟩ := pargs_spec hxs
        have hlen : xs.length = (c.args.toList.map a.eval).length := by rw [List.length_map]; exact p1
        have hvr : ∀ (i : Nat) x v, xs[i]? = some x → (c.args.toList.map a.eval)[i]? = some v → VRel G B x v ∧ O3 G w x v := fun i x v hx hv => by
          rw [List.getElem?_map] at hv
          obtain ⟨q, hq, rfl⟩ := Option.map_eq_some_iff.1 hv
          exact eval_rel hs (p2 i q x hq hx)
        have hu0 : ∀ b, obE b xs (c.args.toList.map a.eval) + obB b st (B.map (cellsAt w)) ≤ 1 := fun b => by
          have := hs.uniq b; have := n2 b; omega
        obtain ⟨a1, a2, a3⟩ := n1.callee hp hlen hvr hu0
        have hsh : sheds h o = c.args.toList.flatMap tmpOf := by simp only [sheds, ho, hb]
        have harr : (c.args.toList.map a.eval).toArray = c.args.map a.eval := by apply Array.ext'; rw [Array.toList_map]
        have hcl := hcall _ _ _ _ a2
        rw [harr] at hcl
        refine Does.call (run_call ho hb hfe hfn' k1 k2) (hcl.mono fun rr w' hh => ?_)
        obtain ⟨cv, G', B', rfl, hstep, hble, hfl, hout⟩ := hh
        refine ⟨cv, rfl, G', B ++ B'.drop ls.length, ?_, Ble.append _ _⟩
        rw [hsh]
        exact call_back hs n1 n2 hp hlen hvr hstep hble hfl hout
      · cases hv
  · cases hv
/-- Every operation does what it says. -/
theorem osem_sound (hC : CallOk P C) (hs : Sim G B e st a.tmps.toList w) (hv : osem P C h fresh o (peval e) st = some (x, st')) : Goal P h G B e st a w o x st' := by
  cases ho : o.op with
  | assign y => exact does_assign hs ho hv
  | move y => exact does_move hs ho hv
  | pick c p q => exact does_pick hs ho hv
  | alloc t => exact does_alloc hs ho hv
  | box t p => exact does_box hs ho hv
  | build t ps => exact does_build hs ho hv
  | buildSlice t n ps => exact does_buildSlice hs ho hv
  | load t p => exact does_load hs ho hv
  | store t p q => exact does_store hs ho hv
  | nilCheck p => exact does_nilCheck hs ho hv
  | binOp op t p q t' => exact does_binOp hs ho hv
  | unOp op t p => exact does_unOp hs ho hv
  | convert s d p => exact does_convert hs ho hv
  | makeSlice t p q => exact does_makeSlice hs ho hv
  | slice t p lo hi mx =>
    cases mx with
    | none => exact does_slice hs ho hv
    | some m => simp [osem, ho] at hv
  | fieldAddr t p f => exact does_fieldAddr hs ho hv
  | field t p f => exact does_field hs ho hv
  | indexAddr t p i => exact does_indexAddr hs ho hv
  | index t p i => exact does_index hs ho hv
  | extract p i => exact does_extract hs ho hv
  | call c =>
    cases hb : c.callee with
    | builtin b => exact does_builtin hs ho hb hv
    | value f => exact does_call hC hs ho hb hv
    | invoke r n =>
      simp only [osem, ho, hb] at hv
      obtain ⟨_, _, hv⟩ := Option.bind_eq_some_iff.1 hv
      cases hv
  | _ => simp [osem, ho] at hv

end

end Go.Sim
/- Regions that draw no order. -/
namespace Go.Sim
open PV

section
variable {P : Program} {G : Gh} {B : List Loc} {e : Env} {st : St} {tm : List Value} {w : World} {x y z : PV} {v u : Value}
variable {h : Hint} {fresh : Bool} {C : Oracle} {a : Act} {o : Oper} {st' : St}

theorem obE_put_le (b : Nat) (d : Option Tmp) (x : PV) (v : Value) (e : Env) (a : Act) : obE b (setDst e d x) (a.put d v).tmps.toList ≤ obE b (x :: e) (v :: a.tmps.toList) := by
  cases d with
  | none => simp only [setDst, Act.put, obE]; omega
  | some d =>
    simp only [setDst, Act.put, Array.toList_setIfInBounds]
    have := obE_set_le b x v e a.tmps.toList d
    simp only [obE]; omega

theorem Sim.put (hs : Sim G B (x :: e) st (v :: a.tmps.toList) w) (d : Option Tmp) : Sim G B (setDst e d x) st (a.put d v).tmps.toList w := by
  cases d with
  | none => exact hs.drop
  | some d =>
    simp only [setDst, Act.put, Array.toList_setIfInBounds]
    exact hs.setD d

theorem Step.put {G' : Gh} {B' : List Loc} {e' : Env} {w' : World} (hs : Step G B e st tm w G' B' (x :: e') st' (v :: a.tmps.toList) w') (d : Option Tmp) :
    Step G B e st tm w G' B' (setDst e' d x) st' (a.put d v).tmps.toList w' :=
  { hs with
    sim := hs.sim.put d
    own := fun b hb => hs.own b (by have := obE_put_le b d x v e' a; omega) }

theorem put_defers (a : Act) (d : Option Tmp) (v : Value) : (a.put d v).defers = a.defers := by cases d <;> rfl

theorem pwanted_ok {ops : Array Oper} {t : Bool} (hs : Sim G B e st a.tmps.toList w) (hw : pwanted ops e o = some t) : Region.wanted o (yielded ops a.tmps) = t := by
  unfold pwanted at hw
  unfold Region.wanted
  split at hw
  · rename_i hg; rw [hg]; simpa using hw
  · rename_i j want hg
    rw [hg]
    simp only
    split at hw
    · rename_i d hd
      have hy : ∀ x, e[d]? = some x → ∃ v, a.tmps[d]? = some v ∧ VRel G B x v := fun x hx => by
        obtain ⟨v, hv⟩ : ∃ v, a.tmps.toList[d]? = some v := ⟨_, List.getElem?_eq_getElem (by rw [← hs.elen]; exact (List.getElem?_eq_some_iff.1 hx).1)⟩
        exact ⟨v, by simpa using hv, (hs.rel d x v hx hv).1⟩
      split at hw
      · rename_i b hb
        obtain ⟨v, h1, h2⟩ := hy _ hb
        have h2 : v = .bool b := h2
        simp only [Option.some.injEq] at hw
        simp only [yielded, hd, Option.bind_some, h1, h2]
        rw [← hw]; cases b <;> cases want <;> rfl
      · rename_i hb
        obtain ⟨v, h1, vs, rfl, _⟩ := hy _ hb
        simp only [Option.some.injEq] at hw
        simp only [yielded, hd, Option.bind_some, h1]
        rw [← hw]; rfl
      · cases hw
    · cases hw

theorem pops_sound (hC : CallOk P C) {ops : Array Oper} {Q : Exit → Act → World → Prop} : ∀ (l : List Nat) {G : Gh} {B : List Loc} {e : Env} {st : St} {a : Act} {w : World} {e' : Env} {st' : St} {os : List Oper},
    os.map some = l.map (ops[·]?) → Sim G B e st a.tmps.toList w → pops P C h fresh ops os e st = some (e', st') →
    (∀ a' w' G' B', Step G B e st a.tmps.toList w G' B' e' st' a'.tmps.toList w' → Ble B B' → a'.defers = a.defers → Q .normal a' w') → wpOps P ops Q l a w
  | [], G, B, e, st, a, w, e', st', os, hos, hs, hp, hQ => by
    cases os with
    | nil =>
      simp only [pops, Option.some.injEq, Prod.mk.injEq] at hp
      obtain ⟨rfl, rfl⟩ := hp
      exact hQ a w G B (Step.refl hs) (Ble.refl _) rfl
    | cons => simp at hos
  | i :: l, G, B, e, st, a, w, e', st', os, hos, hs, hp, hQ => by
    cases os with
    | nil => simp at hos
    | cons o os =>
      simp only [List.map_cons, List.cons.injEq] at hos
      obtain ⟨ho, hos⟩ := hos
      simp only [pops] at hp
      obtain ⟨⟨e1, st1⟩, h1, h2⟩ := Option.bind_eq_some_iff.1 hp
      simp only at h2
      unfold wpOps
      rw [← ho]
      simp only
      unfold pop at h1
      split at h1
      · rename_i hw
        rw [if_pos (pwanted_ok hs hw)]
        left
        obtain ⟨⟨x, st2⟩, h3, h4⟩ := Option.map_eq_some_iff.1 h1
        simp only [Prod.mk.injEq] at h4
        obtain ⟨rfl, rfl⟩ := h4
        refine osem_sound hC hs h3 _ _ fun cv w' hR => ?_
        obtain ⟨G1, B1, hst, hbl⟩ := hR
        have hst := hst.put o.dst
        refine pops_sound hC l hos hst.sim h2 fun a' w'' G' B' hs' hb' hd' => ?_
        exact hQ a' w'' G' B' (Step.trans hs hst hs') (fun i l hl => hb' i l (hbl i l hl)) (by rw [hd', put_defers])
      · rename_i hw
        rw [if_neg (by rw [pwanted_ok hs hw]; simp)]
        simp only [Option.some.injEq, Prod.mk.injEq] at h1
        obtain ⟨rfl, rfl⟩ := h1
        have hpf : Sim G B (.tup [] :: e) st (undef :: a.tmps.toList) w := hs.pushFree (x := .tup []) ⟨#[], rfl, rfl, fun i x y hx => by simp at hx⟩ rfl
        have hst : Step G B e st a.tmps.toList w G B (setDst e o.dst (.tup [])) st (a.put o.dst undef).tmps.toList w :=
          Step.put (Step.same hpf fun b => by have h0 : ob3 b (.tup []) undef = 0 := rfl; simp only [obE, h0]; omega) o.dst
        refine pops_sound hC l hos hst.sim h2 fun a' w'' G' B' hs' hb' hd' => ?_
        exact hQ a' w'' G' B' (Step.trans hs hst hs') hb' (by rw [hd', put_defers])
      · cases h1
end

end Go.Sim
/- Operations that may change places, sixth part: a region in any order that its edges allow. -/
namespace Go.Sim
open PV

section
variable {P : Program} {C : Oracle} {h : Hint} {e e' : Env} {st st' : St} {ops : Array Oper} {o a b : Oper}

theorem befores_length : ∀ (l : List Oper) (acc : List Nat), (befores l acc).length = acc.length + l.length
  | [], acc => by simp [befores]
  | o :: l, acc => by simp only [befores]; rw [befores_length l]; simp; omega
theorem befores_take : ∀ (l : List Oper) (acc : List Nat), (befores l acc).take acc.length = acc
  | [], acc => by simp [befores]
  | o :: l, acc => by
    simp only [befores]
    have := befores_take l (acc ++ [beforeMask acc o])
    have h1 : ((befores l (acc ++ [beforeMask acc o])).take (acc ++ [beforeMask acc o]).length).take acc.length = acc := by rw [this]; simp
    rw [List.take_take] at h1
    rwa [Nat.min_eq_left (by simp)] at h1
theorem befores_get : ∀ (l : List Oper) (acc : List Nat) (m : Nat) (o : Oper), l[m]? = some o → (befores l acc)[acc.length + m]? = some (beforeMask ((befores l acc).take (acc.length + m)) o)
  | [], _, _, _, h => by simp at h
  | p :: l, acc, 0, o, h => by
    simp at h; subst h
    simp only [befores, Nat.add_zero]
    have h1 := befores_take l (acc ++ [beforeMask acc p])
    have h2 : (befores l (acc ++ [beforeMask acc p])).take acc.length = acc := by
      have := congrArg (List.take acc.length) h1
      rw [List.take_take, Nat.min_eq_left (by simp)] at this
      rw [this]; simp
    rw [h2]
    have h3 : ((befores l (acc ++ [beforeMask acc p])).take (acc ++ [beforeMask acc p]).length)[acc.length]? = some (beforeMask acc p) := by rw [h1]; simp
    rw [List.getElem?_take, if_pos (by simp)] at h3
    exact h3
  | p :: l, acc, m + 1, o, h => by
    simp only [befores]
    have := befores_get l (acc ++ [beforeMask acc p]) m o (by simpa using h)
    simp only [List.length_append, List.length_cons, List.length_nil] at this
    rw [show acc.length + (m + 1) = acc.length + (0 + 1) + m by omega]
    exact this

theorem foldl_bits (acc : List Nat) (k : Nat) : ∀ (l : List Nat) (s : Nat), (l.foldl (fun s i => s ||| 2 ^ i ||| acc.getD i 0) s).testBit k = true → s.testBit k = true ∨ ∃ i ∈ l, k = i ∨ (acc.getD i 0).testBit k = true
  | [], s, h => .inl h
  | i :: l, s, h => by
    simp only [List.foldl_cons] at h
    rcases foldl_bits acc k l _ h with h | ⟨j, hj, h⟩
    · simp only [Nat.testBit_or, Bool.or_eq_true] at h
      rcases h with (h | h) | h
      · exact .inl h
      · right
        rw [Nat.testBit_two_pow] at h
        exact ⟨i, by simp, .inl (of_decide_eq_true h).symm⟩
      · exact .inr ⟨i, by simp, .inr h⟩
    · exact .inr ⟨j, List.mem_cons_of_mem _ hj, h⟩

/-- A bit tells an edge, or an edge behind one. -/
theorem bit_edge {i k : Nat} (ho : ops[i]? = some o) (hk : ((befores ops.toList []).getD i 0).testBit k = true) (hlt : ∀ j ∈ edgesOf o, j < i) :
    ∃ j ∈ edgesOf o, k = j ∨ ((befores ops.toList []).getD j 0).testBit k = true := by
  have h1 := befores_get ops.toList [] i o (by simpa using ho)
  simp only [List.length_nil, Nat.zero_add] at h1
  rw [List.getD_eq_getElem?_getD, h1, Option.getD_some] at hk
  rcases foldl_bits _ k _ 0 hk with h | ⟨j, hj, h⟩
  · simp at h
  · refine ⟨j, hj, h.imp_right fun h => ?_⟩
    rw [List.getD_eq_getElem?_getD, List.getElem?_take, if_pos (hlt j hj)] at h
    rwa [List.getD_eq_getElem?_getD]

theorem wellBased_spec {md : Region.Mode} {pos : Nat → Nat} (hw : wellBased md ops pos = true) {i : Nat} (ho : ops[i]? = some o) {ed : Edge} (he : ed ∈ o.after.toList) (hb : Region.binds md ed = true) :
    ed.on < ops.size ∧ pos ed.on < pos i := by
  have hi : i < ops.size := (Array.getElem?_eq_some_iff.1 ho).1
  have := List.all_eq_true.1 hw i (List.mem_range.2 hi)
  rw [ho, Option.map_some, Option.getD_some] at this
  have := List.all_eq_true.1 this ed he
  simpa [hb] using this

theorem edges_lt (hw : wellBased .any ops id = true) {i : Nat} (ho : ops[i]? = some o) : ∀ j ∈ edgesOf o, j < i := fun j hj => by
  obtain ⟨ed, hed, rfl⟩ := List.mem_map.1 hj
  obtain ⟨h1, h2⟩ := List.mem_filter.1 hed
  exact (wellBased_spec hw ho h1 h2).2

theorem bits_lt (hw : wellBased .any ops id = true) : ∀ (i : Nat) (o : Oper) (k : Nat), ops[i]? = some o → ((befores ops.toList []).getD i 0).testBit k = true → k < i := by
  intro i
  induction i using Nat.strongRecOn with
  | ind i ih =>
    intro o k ho hk
    obtain ⟨j, hj, h⟩ := bit_edge ho hk (edges_lt hw ho)
    have hji := edges_lt hw ho j hj
    rcases h with rfl | h
    · exact hji
    · obtain ⟨p, hp⟩ : ∃ p, ops[j]? = some p := ⟨_, Array.getElem?_eq_getElem (Nat.lt_trans hji (Array.getElem?_eq_some_iff.1 ho).1)⟩
      exact Nat.lt_trans (ih j hji p k hp h) hji

/-- Behind listed operations lie listed ones. -/
theorem bits_listed (hw : wellBased .any ops id = true) {L : Nat → Prop} (hc : ∀ i o, L i → ops[i]? = some o → ∀ j ∈ edgesOf o, L j) : ∀ (i : Nat) (o : Oper) (k : Nat), ops[i]? = some o → (∀ j ∈ edgesOf o, L j) → ((befores ops.toList []).getD i 0).testBit k = true → L k := by
  intro i
  induction i using Nat.strongRecOn with
  | ind i ih =>
    intro o k ho hl hk
    obtain ⟨j, hj, h⟩ := bit_edge ho hk (edges_lt hw ho)
    have hji := edges_lt hw ho j hj
    rcases h with rfl | h
    · exact hl _ hj
    · obtain ⟨p, hp⟩ : ∃ p, ops[j]? = some p := ⟨_, Array.getElem?_eq_getElem (Nat.lt_trans hji (Array.getElem?_eq_some_iff.1 ho).1)⟩
      exact ih j hji p k hp (hc j p (hl j hj) hp) h

theorem drawStat_spec (hs : drawStat h ops = true) : (wellBased .text ops id = true ∧ wellBased .any ops id = true ∧ (Region.departs ops = true → wellBased .gc ops (gcPos ops) = true)) ∧
    (∀ i o, ops[i]? = some o → steady ops (befores ops.toList []) i (kdTmps o) = true ∧ soleDst ops i o = true ∧
      ∀ j a, j < i → ops[j]? = some a → ((befores ops.toList []).getD i 0).testBit j = false → envApart h ops a o = true) := by
  unfold drawStat at hs
  simp only [Bool.and_eq_true, Bool.or_eq_true, Bool.not_eq_true', List.all_eq_true, List.mem_range] at hs
  obtain ⟨⟨⟨h1, h2⟩, h3⟩, h4⟩ := hs
  refine ⟨⟨h1, h2, fun hd => h3.resolve_left (by rw [hd]; simp)⟩, fun i o ho => ?_⟩
  obtain ⟨⟨k1, k2⟩, k3⟩ := h4 i (Array.getElem?_eq_some_iff.1 ho).1
  rw [ho, Option.map_some, Option.getD_some] at k1 k2
  refine ⟨k1, k2, fun j a hj ha hb => ?_⟩
  have := k3 j hj
  rw [ha, ho] at this
  simp only [hb] at this
  simpa using this

theorem drawDyn_spec {E : List Hd} (hs : drawDyn h ops E = true) : ∀ i o, ops[i]? = some o → ∀ j a, j < i → ops[j]? = some a → ((befores ops.toList []).getD i 0).testBit j = false →
    ∃ ka kb, kd h E a = some ka ∧ kd h E o = some kb ∧ kdApart (madeOf ka (madeBox E a) (madeBox E o)) ka kb = true := by
  intro i o ho j a hj ha hb
  unfold drawDyn at hs
  simp only [Bool.and_eq_true, Bool.or_eq_true, List.all_eq_true, List.mem_range] at hs
  have := (hs i (Array.getElem?_eq_some_iff.1 ho).1).2 j hj
  rw [ha, ho] at this
  simp only [hb, Bool.false_eq_true, false_or] at this
  split at this
  · rename_i ka kb h1 h2; exact ⟨ka, kb, h1, h2, this⟩
  · cases this

def opAt (ops : Array Oper) (k : Nat) : Oper := ops.getD k default

theorem opAt_get {k : Nat} (hk : k < ops.size) : ops[k]? = some (opAt ops k) := by
  unfold opAt; simp [Array.getD_eq_getD_getElem?, hk]

/-- A ready operation goes ahead of the others that remain. -/
theorem ahead (hs : drawStat h ops = true) (hd' : drawDyn h ops (e'.map hd) = true) {pre post : List Nat} {i : Nat} (hsort : (pre ++ i :: post).Pairwise (· < ·)) (hlt : ∀ k ∈ pre ++ i :: post, k < ops.size)
    (hbit : ∀ k ∈ pre ++ i :: post, ((befores ops.toList []).getD i 0).testBit k = false)
    (hp : pops P C h false ops ((pre ++ i :: post).map (opAt ops)) e st = some (e', st')) : pops P C h false ops (opAt ops i :: (pre ++ post).map (opAt ops)) e st = some (e', st') := by
  obtain ⟨⟨_, w2, _⟩, hst⟩ := drawStat_spec hs
  have hi := opAt_get (hlt i (by simp))
  have hdst : ∀ k, k < ops.size → ∀ d, (opAt ops k).dst = some d → (ops[k]?).bind (·.dst) = some d := fun k hk d hd => by rw [opAt_get hk, Option.bind_some, hd]
  have hsteady : ∀ m, m < ops.size → ∀ t ∈ kdTmps (opAt ops m), ∀ k, k < ops.size → (opAt ops k).dst = some t → ((befores ops.toList []).getD m 0).testBit k = true := fun m hm t ht k hk hdk => by
    have := (hst m _ (opAt_get hm)).1
    unfold steady at this
    have := List.all_eq_true.1 this k (List.mem_range.2 hk)
    rw [hdst k hk t hdk] at this
    simpa [ht] using this
  have hsole : ∀ m, m < ops.size → ∀ {E : List Hd}, kd h E (opAt ops m) = some .new → ∀ k, k < ops.size → k ≠ m → (opAt ops k).dst ≠ (opAt ops m).dst := fun m hm E hk k hkl hne hd => by
    obtain ⟨t, ho⟩ := kd_new hk
    have h1 := (hst m _ (opAt_get hm)).2.1
    unfold soleDst at h1
    rw [ho] at h1
    cases hdm : (opAt ops m).dst with
    | none => rw [hdm] at h1; simp at h1
    | some d =>
      rw [hdm] at h1 hd
      simp only at h1
      have := List.all_eq_true.1 h1 k (List.mem_range.2 hkl)
      rw [hdst k hkl d hd] at this
      simp [hne] at this
  rw [List.map_append, List.map_cons] at hp
  rw [List.map_append]
  have hpw := List.pairwise_append.1 hsort
  refine bubble (pre.map (opAt ops)) hp (fun a ha => ?_) (fun t ht o ho hod => ?_) (fun l a r hl => ?_) (fun hn o ho => ?_)
  · obtain ⟨j, hj, rfl⟩ := List.mem_map.1 ha
    have hji : j < i := hpw.2.2 j hj i (List.mem_cons_self ..)
    have hja := opAt_get (hlt j (List.mem_append_left _ hj))
    have hb := hbit j (List.mem_append_left _ hj)
    exact ⟨(hst i _ hi).2.2 j _ hji hja hb, drawDyn_spec hd' i _ hi j _ hji hja hb⟩
  · have : ∃ k ∈ pre ++ i :: post, opAt ops k = o := by
      rw [← List.map_cons, ← List.map_append] at ho
      obtain ⟨k, hk, rfl⟩ := List.mem_map.1 ho
      exact ⟨k, hk, rfl⟩
    obtain ⟨k, hk, rfl⟩ := this
    have := hsteady i (hlt i (by simp)) t ht k (hlt k hk) hod
    rw [hbit k hk] at this; cases this
  · -- the indices of l, a, r
    obtain ⟨l', r', hpre, hl', hr'⟩ := List.map_eq_append_iff.1 hl
    obtain ⟨m, r'', hm, hma, hr''⟩ := List.map_eq_cons_iff.1 hr'
    subst hma
    have hpm : pre = l' ++ m :: r'' := by rw [hpre, hm]
    have hmem : ∀ k, k ∈ r'' ++ i :: post → k ∈ pre ++ i :: post := fun k hk => by
      rw [hpm]
      rcases List.mem_append.1 hk with hk | hk
      · exact List.mem_append_left _ (List.mem_append_right _ (List.mem_cons_of_mem _ hk))
      · exact List.mem_append_right _ hk
    have hmm : m ∈ pre ++ i :: post := by rw [hpm]; simp
    have hgt : ∀ k ∈ r'' ++ i :: post, m < k := fun k hk => by
      rw [hpm, List.append_assoc, List.cons_append] at hsort
      have := (List.pairwise_append.1 hsort).2.1
      exact (List.pairwise_cons.1 this).1 k hk
    have hidx : ∀ o, o ∈ r ++ opAt ops i :: post.map (opAt ops) → ∃ k ∈ r'' ++ i :: post, opAt ops k = o := fun o ho => by
      rw [← hr'', ← List.map_cons, ← List.map_append] at ho
      obtain ⟨k, hk, rfl⟩ := List.mem_map.1 ho
      exact ⟨k, hk, rfl⟩
    constructor
    · intro t ht o ho hod
      rw [List.cons_append] at ho
      rcases List.mem_cons.1 ho with rfl | ho
      · have := hsteady m (hlt m hmm) t ht m (hlt m hmm) hod
        have := bits_lt w2 m _ m (opAt_get (hlt m hmm)) this
        omega
      · obtain ⟨k, hk, rfl⟩ := hidx o ho
        have h1 := hsteady m (hlt m hmm) t ht k (hlt k (hmem k hk)) hod
        have h2 := bits_lt w2 m _ k (opAt_get (hlt m hmm)) h1
        have := hgt k hk
        omega
    · intro hn o ho
      obtain ⟨k, hk, rfl⟩ := hidx o ho
      exact hsole m (hlt m hmm) hn k (hlt k (hmem k hk)) (by have := hgt k hk; omega)
  · rw [← List.map_append] at ho
    obtain ⟨k, hk, rfl⟩ := List.mem_map.1 ho
    have hk' : k ∈ pre ++ i :: post := by
      rcases List.mem_append.1 hk with hk | hk
      · exact List.mem_append_left _ hk
      · exact List.mem_append_right _ (List.mem_cons_of_mem _ hk)
    refine hsole i (hlt i (by simp)) hn k (hlt k hk') fun he => ?_
    subst he
    rcases List.mem_append.1 hk with hk | hk
    · have := hpw.2.2 k hk k (List.mem_cons_self ..); omega
    · have := (List.pairwise_cons.1 hpw.2.1).1 k hk; omega
end
end Go.Sim
/- A region that draws its order does what its text does. -/
namespace Go.Sim
open PV

section
variable {P : Program} {G : Gh} {B : List Loc} {e e' : Env} {st st' : St} {tm : List Value} {w : World} {x y z : PV} {v u : Value}
variable {h : Hint} {fresh : Bool} {C : Oracle} {a : Act} {o : Oper} {ops : Array Oper} {Q : Exit → Act → World → Prop}

theorem pop_sound (hC : CallOk P C) {K : Act → World → Prop} {i : Nat} {e1 : Env} {st1 : St} (hs : Sim G B e st a.tmps.toList w) (ho : ops[i]? = some o) (h1 : pop P C h fresh ops o e st = some (e1, st1))
    (hK : ∀ a1 w1 G1 B1, Step G B e st a.tmps.toList w G1 B1 e1 st1 a1.tmps.toList w1 → Ble B B1 → a1.defers = a.defers → K a1 w1) : wpOp P ops Q i K a w := by
  unfold wpOp
  rw [ho]
  simp only
  unfold pop at h1
  split at h1
  · rename_i hw
    rw [if_pos (pwanted_ok hs hw)]
    left
    obtain ⟨⟨x, st2⟩, h3, h4⟩ := Option.map_eq_some_iff.1 h1
    simp only [Prod.mk.injEq] at h4
    obtain ⟨rfl, rfl⟩ := h4
    refine osem_sound hC hs h3 _ _ fun cv w' hR => ?_
    obtain ⟨G1, B1, hst, hbl⟩ := hR
    exact hK _ w' G1 B1 (hst.put o.dst) hbl (put_defers _ _ _)
  · rename_i hw
    rw [if_neg (by rw [pwanted_ok hs hw]; simp)]
    simp only [Option.some.injEq, Prod.mk.injEq] at h1
    obtain ⟨rfl, rfl⟩ := h1
    have hpf : Sim G B (.tup [] :: e) st (undef :: a.tmps.toList) w := hs.pushFree (x := .tup []) ⟨#[], rfl, rfl, fun i x y hx => by simp at hx⟩ rfl
    have hst : Step G B e st a.tmps.toList w G B (setDst e o.dst (.tup [])) st (a.put o.dst undef).tmps.toList w :=
      Step.put (Step.same hpf fun b => by have h0 : ob3 b (.tup []) undef = 0 := rfl; simp only [obE, h0]; omega) o.dst
    exact hK _ w G B hst (Ble.refl _) (put_defers _ _ _)
  · cases h1

/-- What is not listed yet. -/
def remain (ops : Array Oper) (listed : Array Bool) : List Nat := (List.range ops.size).filter fun i => !listed.getD i true

theorem ready_sub {md : Region.Mode} {listed : Array Bool} {i : Nat} (hi : i ∈ Region.ready md ops listed) : i ∈ remain ops listed ∧ ∃ o, ops[i]? = some o ∧ ∀ ed ∈ o.after.toList, Region.binds md ed = true → listed.getD ed.on false = true := by
  unfold Region.ready at hi
  obtain ⟨h1, h2⟩ := List.mem_filter.1 hi
  simp only [Bool.and_eq_true] at h2
  refine ⟨List.mem_filter.2 ⟨h1, h2.1⟩, ?_⟩
  cases ho : ops[i]? with
  | none => rw [ho] at h2; simp at h2
  | some o =>
    refine ⟨o, rfl, fun ed he hb => ?_⟩
    rw [ho, Option.map_some, Option.getD_some] at h2
    have := Array.all_eq_true'.1 h2.2 ed (by simpa using he)
    simpa [hb] using this

theorem ready_exists {md : Region.Mode} {pos : Nat → Nat} (hw : wellBased md ops pos = true) {listed : Array Bool} (hne : remain ops listed ≠ []) (hsz : listed.size = ops.size) : Region.ready md ops listed ≠ [] := by
  -- the least position among those that remain
  obtain ⟨i, hi, hmin⟩ : ∃ i ∈ remain ops listed, ∀ j ∈ remain ops listed, pos i ≤ pos j := by
    generalize remain ops listed = l at hne
    induction l with
    | nil => exact (hne rfl).elim
    | cons x l ih =>
      by_cases hl : l = []
      · subst hl; exact ⟨x, by simp, fun j hj => by simp at hj; subst hj; exact Nat.le_refl _⟩
      · obtain ⟨i, hi, hm⟩ := ih hl
        by_cases hx : pos x ≤ pos i
        · exact ⟨x, by simp, fun j hj => by
            rcases List.mem_cons.1 hj with rfl | hj
            · exact Nat.le_refl _
            · exact Nat.le_trans hx (hm j hj)⟩
        · exact ⟨i, List.mem_cons_of_mem _ hi, fun j hj => by
            rcases List.mem_cons.1 hj with rfl | hj
            · omega
            · exact hm j hj⟩
  intro hr
  obtain ⟨h1, h2⟩ := List.mem_filter.1 hi
  have hlt := List.mem_range.1 h1
  have hin : i ∈ Region.ready md ops listed := by
    unfold Region.ready
    refine List.mem_filter.2 ⟨h1, ?_⟩
    have hoi : ops[i]? = some ops[i] := Array.getElem?_eq_getElem hlt
    rw [hoi, Option.map_some, Option.getD_some, Bool.and_eq_true]
    refine ⟨h2, Array.all_eq_true'.2 fun ed he => ?_⟩
    cases hb : Region.binds md ed with
    | false => rfl
    | true =>
      obtain ⟨k1, k2⟩ := wellBased_spec hw hoi (by simpa using he) hb
      cases hl : listed.getD ed.on false with
      | true => rfl
      | false =>
        have : ed.on ∈ remain ops listed := List.mem_filter.2 ⟨List.mem_range.2 k1, by
          have hk : ed.on < listed.size := by omega
          simp only [Array.getD_eq_getD_getElem?, hk, Array.getElem?_eq_getElem, Option.getD_some] at hl ⊢
          simp [hl]⟩
        have := hmin _ this
        omega
  rw [hr] at hin; simp at hin

theorem remain_set {listed : Array Bool} {i : Nat} (hsz : listed.size = ops.size) (hi : i ∈ remain ops listed) :
    ∃ pre post, remain ops listed = pre ++ i :: post ∧ remain ops (listed.setIfInBounds i true) = pre ++ post := by
  obtain ⟨pre, post, he⟩ := List.append_of_mem hi
  refine ⟨pre, post, he, ?_⟩
  have hnd : (remain ops listed).Nodup := List.nodup_range.sublist List.filter_sublist
  have h1 : remain ops (listed.setIfInBounds i true) = (remain ops listed).filter fun k => k != i := by
    unfold remain
    rw [List.filter_filter]
    refine List.filter_congr fun k hk => ?_
    have hk := List.mem_range.1 hk
    by_cases hki : k = i
    · subst hki
      have : k < listed.size := by omega
      simp [Array.getD_eq_getD_getElem?, this]
    · simp [Array.getD_eq_getD_getElem?, hki, Array.getElem?_setIfInBounds_ne (Ne.symm hki)]
  rw [h1, he, List.filter_append, List.filter_cons]
  rw [he] at hnd
  have hn := List.nodup_append.1 hnd
  have hi1 : ∀ k ∈ pre, k ≠ i := fun k hk => hn.2.2 k hk i (List.mem_cons_self ..)
  have hi2 : ∀ k ∈ post, k ≠ i := fun k hk he => (List.nodup_cons.1 hn.2.1).1 (he ▸ hk)
  rw [List.filter_eq_self.2 fun k hk => by simpa using hi1 k hk]
  rw [List.filter_eq_self.2 fun k hk => by simpa using hi2 k hk]
  simp

theorem binds_any {md : Region.Mode} {ed : Edge} (hb : Region.binds .any ed = true) : Region.binds md ed = true := by
  unfold Region.binds at *
  cases h : ed.ground <;> rw [h] at hb <;> first | rfl | simp at hb

theorem draw_any (hC : CallOk P C) (hs : drawStat h ops = true) (hd' : drawDyn h ops (e'.map hd) = true) {md : Region.Mode} {pos : Nat → Nat} (hw : wellBased md ops pos = true) :
    ∀ (fuel : Nat) (listed : Array Bool) {G : Gh} {B : List Loc} {e : Env} {st : St} {a : Act} {w : World}, listed.size = ops.size → (remain ops listed).length ≤ fuel →
    (∀ i o, listed.getD i false = true → ops[i]? = some o → ∀ j ∈ edgesOf o, listed.getD j false = true) →
    Sim G B e st a.tmps.toList w → pops P C h false ops ((remain ops listed).map (opAt ops)) e st = some (e', st') →
    (∀ a' w' G' B', Step G B e st a.tmps.toList w G' B' e' st' a'.tmps.toList w' → Ble B B' → a'.defers = a.defers → Q .normal a' w') → wpAny P md ops Q fuel listed a w := by
  have hend : ∀ (listed : Array Bool) {G : Gh} {B : List Loc} {e : Env} {st : St} {a : Act} {w : World}, remain ops listed = [] → Sim G B e st a.tmps.toList w → pops P C h false ops ((remain ops listed).map (opAt ops)) e st = some (e', st') →
      (∀ a' w' G' B', Step G B e st a.tmps.toList w G' B' e' st' a'.tmps.toList w' → Ble B B' → a'.defers = a.defers → Q .normal a' w') → Q .normal a w := by
    intro listed G B e st a w hr hsim hp hQ
    rw [hr] at hp
    simp only [List.map_nil, pops, Option.some.injEq, Prod.mk.injEq] at hp
    obtain ⟨rfl, rfl⟩ := hp
    exact hQ a w G B (Step.refl hsim) (Ble.refl _) rfl
  intro fuel
  induction fuel with
  | zero =>
    intro listed G B e st a w hsz hf hc hsim hp hQ
    have hr : remain ops listed = [] := List.length_eq_zero_iff.1 (Nat.le_zero.1 hf)
    refine ⟨?_, hend listed hr hsim hp hQ⟩
    cases hrd : Region.ready md ops listed with
    | nil => rfl
    | cons i r =>
      have := (ready_sub (md := md) (listed := listed) (i := i) (by rw [hrd]; simp)).1
      rw [hr] at this; simp at this
  | succ fuel ih =>
    intro listed G B e st a w hsz hf hc hsim hp hQ
    refine ⟨fun hrd => ?_, fun i hi => ?_⟩
    · refine hend listed ?_ hsim hp hQ
      cases hr : remain ops listed with
      | nil => rfl
      | cons k r => exact (ready_exists hw (by rw [hr]; simp) hsz hrd).elim
    · obtain ⟨hir, o, ho, hed⟩ := ready_sub hi
      obtain ⟨pre, post, h1, h2⟩ := remain_set hsz hir
      have hw2 := (drawStat_spec hs).1.2.1
      have hil : ∀ j ∈ edgesOf o, listed.getD j false = true := fun j hj => by
        obtain ⟨ed, hm, rfl⟩ := List.mem_map.1 hj
        obtain ⟨k1, k2⟩ := List.mem_filter.1 hm
        exact hed ed k1 (binds_any k2)
      have hoe : opAt ops i = o := by unfold opAt; simp [Array.getD_eq_getD_getElem?, ho]
      have hpop := ahead hs hd' (pre := pre) (post := post) (i := i) (by rw [← h1]; exact List.Pairwise.filter _ List.pairwise_lt_range)
        (fun k hk => by rw [← h1] at hk; exact List.mem_range.1 (List.mem_filter.1 hk).1)
        (fun k hk => by
          rw [← h1] at hk
          cases hb : ((befores ops.toList []).getD i 0).testBit k with
          | false => rfl
          | true =>
            have := bits_listed hw2 (L := fun j => listed.getD j false = true) hc i o k ho hil hb
            have hk2 := (List.mem_filter.1 hk).2
            have hklt := List.mem_range.1 (List.mem_filter.1 hk).1
            have : k < listed.size := by omega
            simp_all [Array.getD_eq_getD_getElem?])
        (by rw [← h1]; exact hp)
      rw [hoe] at hpop
      simp only [pops] at hpop
      obtain ⟨⟨e1, st1⟩, q1, q2⟩ := Option.bind_eq_some_iff.1 hpop
      refine pop_sound hC hsim ho q1 fun a1 w1 G1 B1 hst hbl hdf => ?_
      refine ih _ (by simpa using hsz) ?_ ?_ hst.sim ?_ fun a' w' G' B' k1 k2 k3 => hQ a' w' G' B' (Step.trans hsim hst k1) (fun m l hl => k2 m l (hbl m l hl)) (by rw [k3, hdf])
      · rw [h2]; rw [h1] at hf; simp only [List.length_append, List.length_cons] at hf ⊢; omega
      · intro m p hm hp' j hj
        have hset : ∀ q, (listed.setIfInBounds i true).getD q false = true ↔ (q = i ∧ i < listed.size) ∨ listed.getD q false = true := fun q => by
          by_cases hq : q = i
          · subst hq
            by_cases hlt : q < listed.size <;> simp [Array.getD_eq_getD_getElem?, hlt]
          · simp [Array.getD_eq_getD_getElem?, hq, Array.getElem?_setIfInBounds_ne (Ne.symm hq)]
        rw [hset] at hm ⊢
        right
        rcases hm with ⟨rfl, _⟩ | hm
        · rw [ho] at hp'; cases hp'; exact hil j hj
        · exact hc m p hm hp' j hj
      · rw [h2]; exact q2

theorem draw_ok (hC : CallOk P C) {rid : Nat} (hok : drawOk h ops e' = true) (hp : pops P C h false ops ops.toList e st = some (e', st')) (hsim : Sim G B e st a.tmps.toList w)
    (hQ : ∀ a' w' G' B', Step G B e st a.tmps.toList w G' B' e' st' a'.tmps.toList w' → Ble B B' → a'.defers = a.defers → Q .normal a' w') : (Code.region rid ops true).wp P Q a w := by
  unfold drawOk at hok
  simp only [Bool.and_eq_true] at hok
  obtain ⟨hs, hd'⟩ := hok
  obtain ⟨⟨w1, w2, w3⟩, _⟩ := drawStat_spec hs
  have hsim2 : Sim G B e st a.tmps.toList { w with drawn := w.drawn + 1 } := hsim.sameHeap rfl
  have hst0 : Step G B e st a.tmps.toList w G B e st a.tmps.toList { w with drawn := w.drawn + 1 } :=
    { sim := hsim2, prog := Prog.sameHeap (w := w) (w' := { w with drawn := w.drawn + 1 }) rfl rfl rfl rfl _, own := fun b hb => .inl (.inl hb), box := fun l hl => .inr hl, out := fun l _ => Out.same rfl }
  have hrem : remain ops (Array.replicate ops.size false) = List.range ops.size := by
    unfold remain
    refine List.filter_eq_self.2 fun i hi => ?_
    have := List.mem_range.1 hi
    simp [Array.getD_eq_getD_getElem?, this]
  have hlist : (List.range ops.size).map (opAt ops) = ops.toList := by
    apply List.ext_getElem?
    intro i
    rw [List.getElem?_map]
    by_cases hi : i < ops.size
    · rw [List.getElem?_range hi, Option.map_some, ← opAt_get hi]; simp
    · rw [List.getElem?_eq_none (by simpa using hi), List.getElem?_eq_none (by simpa using hi)]; rfl
  have main : ∀ (md : Region.Mode) (pos : Nat → Nat), wellBased md ops pos = true → ∀ t, wpOps P ops Q (Region.linearise md ops t) a { w with drawn := w.drawn + 1 } := fun md pos hw t =>
    wpAny_sound ops.size t _ a _ (draw_any hC hs hd' hw ops.size _ (by simp) (by rw [hrem]; simp) (fun i o hi => by
      exfalso
      by_cases hlt : i < ops.size <;> simp [Array.getD_eq_getD_getElem?, hlt] at hi) hsim2 (by rw [hrem, hlist]; exact hp)
      fun a' w' G' B' k1 k2 k3 => hQ a' w' G' B' (Step.trans hsim hst0 k1) k2 k3)
  refine wp_region_draw fun t => ?_
  unfold Region.schedule
  split
  · exact main .any (fun i => i) w2 _
  · rename_i hn
    simp only [Bool.or_eq_true, Bool.not_eq_true', not_or] at hn
    split
    · exact main .text (fun i => i) w1 _
    · exact main .gc _ (w3 (by simpa using hn.2)) _
end
end Go.Sim
/- Code: sequences, choices, blocks, loops. -/
namespace Go.Sim
open PV

def PExit.to : PExit → Exit
  | .normal => .normal
  | .exit i => .exit i
  | .ret => .ret

/-- `keepE` by another name, for the dot. -/
def Sim.keepE' (m : List Bool) (e : Env) : Env := Go.Sim.keepE m e

section
variable {P : Program} {G : Gh} {B : List Loc} {e : Env} {st : St} {tm : List Value} {w : World} {x y z : PV} {v u : Value}
variable {h : Hint} {fresh : Bool} {C : Oracle} {a : Act} {o : Oper} {st' : St}

/-- What must hold where a piece of code ends. -/
def Ends (Q : Exit → Act → World → Prop) (B0 : List Loc) (G : Gh) (B : List Loc) (e : Env) (st : St) (a : Act) (w : World) (x : PExit) (e' : Env) (st' : St) : Prop :=
  ∀ a' w' G' B', Step G B e st a.tmps.toList w G' B' e' st' a'.tmps.toList w' → Ble B0 B' → a'.defers = a.defers → Q x.to a' w'

/-- Fewer temporaries are known. -/
theorem obE_keepE (b : Nat) : ∀ (m : List Bool) (e : Env) (tm : List Value), obE b (keepE m e) tm ≤ obE b e tm
  | [], e, tm => by cases e <;> exact Nat.le_refl _
  | true :: m, [], tm => Nat.le_refl _
  | false :: m, [], tm => Nat.le_refl _
  | true :: m, x :: e, [] => Nat.le_refl _
  | false :: m, x :: e, [] => Nat.le_refl _
  | true :: m, x :: e, v :: tm => by simp only [keepE, obE]; have := obE_keepE b m e tm; omega
  | false :: m, x :: e, v :: tm => by
    simp only [keepE, obE]
    have := obE_keepE b m e tm
    have h0 : ob3 b .undef v = 0 := ob3_dem b .undef v
    omega
theorem keepE_get : ∀ (m : List Bool) (e : Env) (t : Nat) (x : PV), (keepE m e)[t]? = some x → e[t]? = some x ∨ (x = .undef ∧ t < e.length)
  | [], e, t, x, h => by cases e <;> exact .inl h
  | true :: m, [], t, x, h => .inl h
  | false :: m, [], t, x, h => .inl h
  | true :: m, y :: e, 0, x, h => .inl h
  | false :: m, y :: e, 0, x, h => by simp [keepE] at h; exact .inr ⟨h.symm, by simp⟩
  | true :: m, y :: e, t + 1, x, h => by
    simp only [keepE, List.getElem?_cons_succ] at h
    rcases keepE_get m e t x h with h | ⟨h1, h2⟩
    · exact .inl h
    · exact .inr ⟨h1, by simpa using h2⟩
  | false :: m, y :: e, t + 1, x, h => by
    simp only [keepE, List.getElem?_cons_succ] at h
    rcases keepE_get m e t x h with h | ⟨h1, h2⟩
    · exact .inl h
    · exact .inr ⟨h1, by simpa using h2⟩
theorem length_keepE : ∀ (m : List Bool) (e : Env), (keepE m e).length = e.length
  | [], e => by cases e <;> rfl
  | true :: m, [] => rfl
  | false :: m, [] => rfl
  | true :: m, x :: e => by simp only [keepE, List.length_cons, length_keepE m e]
  | false :: m, x :: e => by simp only [keepE, List.length_cons, length_keepE m e]
theorem Sim.keepE (m : List Bool) (hs : Sim G B e st tm w) : Sim G B (Sim.keepE' m e) st tm w := by
  refine ⟨hs.rows, hs.blen, hs.bdis, hs.boxes, (length_keepE m e).trans hs.elen, fun t x v hx hv => ?_, fun b => ?_⟩
  · rcases keepE_get m e t x hx with h | ⟨rfl, _⟩
    · exact hs.rel t x v h hv
    · exact ⟨trivial, O3_dem G w .undef v⟩
  · have := hs.uniq b; have := obE_keepE b m e tm; simp only [Sim.keepE']; omega
theorem Step.keepE (m : List Bool) {G' : Gh} {B' : List Loc} {e' : Env} {tm' : List Value} {w' : World} (hs : Step G B e st tm w G' B' e' st' tm' w') : Step G B e st tm w G' B' (Sim.keepE' m e') st' tm' w' :=
  { hs with
    sim := hs.sim.keepE m
    own := fun b hb => hs.own b (by have := obE_keepE b m e' tm'; simp only [Sim.keepE'] at hb; omega) }

/-- Code does what it says. -/
def CodeOk (P : Program) (c : Code) (f : Env → St → Option (PExit × Env × St)) : Prop := ∀ {e st x e' st'}, f e st = some (x, e', st') →
  ∀ {Q G B a w}, Sim G B e st a.tmps.toList w → Ends Q B G B e st a w x e' st' → c.wp P Q a w

theorem loop_sound {c : Code} {f : Env → St → Option (PExit × Env × St)} (hc : CodeOk P c f) (carry : List Tmp) : ∀ (n : Nat) {e : Env} {st : St} {x : PExit} {e' : Env} {st' : St} {Q : Exit → Act → World → Prop} {B0 : List Loc} {G : Gh} {B : List Loc} {a : Act} {w : World},
    ploop carry f B0.length n e st = some (x, e', st') → Sim G B e st a.tmps.toList w → Ble B0 B → Ends Q B0 G B e st a w x e' st' → c.rounds P Q n a w
  | 0, _, _, _, _, _, _, _, _, _, _, _, h, _, _, _ => by simp [ploop] at h
  | n + 1, e, st, x, e', st', Q, B0, G, B, a, w, h, hs, hb, hQ => by
    rw [rounds_succ]
    simp only [ploop] at h
    obtain ⟨⟨x1, e1, st1⟩, h1, h2⟩ := Option.bind_eq_some_iff.1 h
    refine hc h1 hs fun a1 w1 G1 B1 hst hbl hd => ?_
    have hb1 : Ble B0 B1 := fun i l hl => hbl i l (hb i l hl)
    cases x1 with
    | normal =>
      simp only at h2
      show Code.rounds P c Q n a1 w1
      have hk : B0.length ≤ st1.length := by
        rw [← hst.sim.blen]
        by_cases h0 : B0.length = 0
        · omega
        · have := (List.getElem?_eq_some_iff.1 (hb1 (B0.length - 1) _ (List.getElem?_eq_getElem (by omega)))).1
          omega
      obtain ⟨k1, k2, k3⟩ := newBoxes_spec B0.length (carry.map (e1.getD · .undef)) [] (by simp) (by simp)
      have hlt : ∀ b ∈ newBoxes B0.length (carry.map (e1.getD · .undef)) [], b < st1.length := fun b hbm => by
        have hin : ∀ y, y ∈ carry.map (e1.getD · .undef) → y ≠ PV.undef → ∃ v, VRel G1 B1 y v := fun y hy hn => by
          obtain ⟨t, _, rfl⟩ := List.mem_map.1 hy
          rw [List.getD_eq_getElem?_getD] at hn ⊢
          cases ht : e1[t]? with
          | none => rw [ht] at hn; exact (hn rfl).elim
          | some y =>
            obtain ⟨v, hv⟩ : ∃ v, a1.tmps.toList[t]? = some v := ⟨_, List.getElem?_eq_getElem (by rw [← hst.sim.elen]; exact (List.getElem?_eq_some_iff.1 ht).1)⟩
            exact ⟨v, (hst.sim.rel t y v ht hv).1⟩
        rw [← hst.sim.blen]
        rcases k3 b hbm with h0 | ⟨o, h0⟩ | ⟨sz, fl, o, m, h0⟩
        · simp at h0
        · obtain ⟨v, l, hl, _⟩ := hin _ h0 (by simp)
          exact (List.getElem?_eq_some_iff.1 hl).1
        · obtain ⟨v, l, cap, hl, _⟩ := hin _ h0 (by simp)
          exact (List.getElem?_eq_some_iff.1 hl).1
      obtain ⟨B2, s1, s2, s3, s4, s5⟩ := hst.sim.scrub B0.length _ k1 k2 hlt hk
      have hb2 : Ble B0 B2 := fun i l hl => by
        have hi := (List.getElem?_eq_some_iff.1 hl).1
        have e1 : (B2.take B0.length)[i]? = (B1.take B0.length)[i]? := by rw [s5]
        rw [List.getElem?_take, List.getElem?_take, if_pos hi, if_pos hi] at e1
        rw [e1]; exact hb1 i l hl
      have hst2 : Step G B e st a.tmps.toList w G1 B2 _ _ a1.tmps.toList w1 :=
        { sim := s1, prog := hst.prog, own := fun b hbb => hst.own b (by have := s3 b; omega), box := fun l hl => hst.box l (s2 l hl), out := hst.out }
      exact loop_sound hc carry n h2 s1 hb2 fun a' w' G' B' h3 h4 h5 => hQ a' w' G' B' (Step.trans hs hst2 h3) h4 (by rw [h5, hd])
    | exit i =>
      simp only [Option.some.injEq, Prod.mk.injEq] at h2
      obtain ⟨rfl, rfl, rfl⟩ := h2
      exact hQ a1 w1 G1 B1 hst hb1 hd
    | ret =>
      simp only [Option.some.injEq, Prod.mk.injEq] at h2
      obtain ⟨rfl, rfl, rfl⟩ := h2
      exact hQ a1 w1 G1 B1 hst hb1 hd

theorem pcode_sound (hC : CallOk P C) (n : Nat) : ∀ (c : Code), CodeOk P c (pcode P C h n c)
  | .skip => by
    intro hp Q G B a w hs hQ
    simp only [pcode, Option.some.injEq, Prod.mk.injEq] at hp
    obtain ⟨rfl, rfl, rfl⟩ := hp
    exact wp_skip (hQ a w G B (Step.refl hs) (Ble.refl _) rfl)
  | .exit id => by
    intro hp Q G B a w hs hQ
    simp only [pcode, Option.some.injEq, Prod.mk.injEq] at hp
    obtain ⟨rfl, rfl, rfl⟩ := hp
    exact wp_exit (hQ a w G B (Step.refl hs) (Ble.refl _) rfl)
  | .ret => by
    intro hp Q G B a w hs hQ
    simp only [pcode, Option.some.injEq, Prod.mk.injEq] at hp
    obtain ⟨rfl, rfl, rfl⟩ := hp
    exact wp_ret (hQ a w G B (Step.refl hs) (Ble.refl _) rfl)
  | .region id ops draw => by
    intro hp Q G B a w hs hQ
    simp only [pcode] at hp
    obtain ⟨⟨e1, st1⟩, h1, h2⟩ := Option.bind_eq_some_iff.1 hp
    simp only at h2
    split at h2
    · cases h2
    · rename_i hdr
      simp only [Option.some.injEq, Prod.mk.injEq] at h2
      obtain ⟨rfl, rfl, rfl⟩ := h2
      have hQ' := fun (a' : Act) (w' : World) (G' : Gh) (B' : List Loc) (k1 : Step G B _ _ a.tmps.toList w G' B' e1 st1 a'.tmps.toList w') (k2 : Ble B B') (k3 : a'.defers = a.defers) => hQ a' w' G' B' (k1.keepE h.mask) k2 k3
      cases draw with
      | false =>
        refine wp_region (pops_sound hC _ ?_ hs h1 hQ')
        apply List.ext_getElem?
        intro i
        simp only [List.getElem?_map]
        by_cases hi : i < ops.size
        · rw [List.getElem?_range hi]; simp [hi]
        · rw [List.getElem?_eq_none (by simpa using hi), List.getElem?_eq_none (by simpa using hi)]; rfl
      | true => exact draw_ok hC (by simpa using hdr) h1 hs hQ'
  | .seq c d => by
    intro hp Q G B a w hs hQ
    simp only [pcode] at hp
    obtain ⟨⟨x1, e1, st1⟩, h1, h2⟩ := Option.bind_eq_some_iff.1 hp
    refine wp_seq (pcode_sound hC n c h1 hs fun a1 w1 G1 B1 hst hbl hd => ?_)
    cases x1 with
    | normal =>
      exact pcode_sound hC n d h2 hst.sim fun a' w' G' B' h3 h4 h5 => hQ a' w' G' B' (Step.trans hs hst h3) (fun i l hl => h4 i l (hbl i l hl)) (by rw [h5, hd])
    | exit i =>
      simp only [Option.some.injEq, Prod.mk.injEq] at h2
      obtain ⟨rfl, rfl, rfl⟩ := h2
      exact hQ a1 w1 G1 B1 hst hbl hd
    | ret =>
      simp only [Option.some.injEq, Prod.mk.injEq] at h2
      obtain ⟨rfl, rfl, rfl⟩ := h2
      exact hQ a1 w1 G1 B1 hst hbl hd
  | .cond q c d => by
    intro hp Q G B a w hs hQ
    simp only [pcode] at hp
    split at hp
    · rename_i hq
      exact wp_cond_true (eval_rel hs hq).1 (pcode_sound hC n c hp (hs.keepE h.cmask) fun a' w' G' B' h3 h4 h5 => hQ a' w' G' B' (Step.trans hs ((Step.refl hs).keepE h.cmask) h3) h4 h5)
    · rename_i hq
      exact wp_cond_false (eval_rel hs hq).1 (pcode_sound hC n d hp (hs.keepE h.cmask) fun a' w' G' B' h3 h4 h5 => hQ a' w' G' B' (Step.trans hs ((Step.refl hs).keepE h.cmask) h3) h4 h5)
    · cases hp
  | .block id c => by
    intro hp Q G B a w hs hQ
    simp only [pcode] at hp
    obtain ⟨⟨x1, e1, st1⟩, h1, h2⟩ := Option.map_eq_some_iff.1 hp
    refine wp_block (pcode_sound hC n c h1 hs fun a1 w1 G1 B1 hst hbl hd => ?_)
    cases x1 with
    | exit i =>
      simp only at h2
      show if i = id then _ else _
      split at h2
      · rename_i hi
        simp only [Prod.mk.injEq] at h2
        obtain ⟨rfl, rfl, rfl⟩ := h2
        rw [if_pos hi]
        exact hQ a1 w1 G1 B1 hst hbl hd
      · rename_i hi
        simp only [Prod.mk.injEq] at h2
        obtain ⟨rfl, rfl, rfl⟩ := h2
        rw [if_neg hi]
        exact hQ a1 w1 G1 B1 hst hbl hd
    | normal =>
      simp only [Prod.mk.injEq] at h2
      obtain ⟨rfl, rfl, rfl⟩ := h2
      exact hQ a1 w1 G1 B1 hst hbl hd
    | ret =>
      simp only [Prod.mk.injEq] at h2
      obtain ⟨rfl, rfl, rfl⟩ := h2
      exact hQ a1 w1 G1 B1 hst hbl hd
  | .loop c => by
    intro hp Q G B a w hs hQ
    simp only [pcode, ← hs.blen] at hp
    refine wp_loop_rounds n (loop_sound (f := fun e st => pcode P C h n c (keepE (findMask h.lm (firstId c)) e) st) ?_ h.carry n hp hs (Ble.refl _) hQ)
    intro e' st' x1 e1 st1 hp' Q' G' B' a' w' hs' hQ'
    exact pcode_sound hC n c hp' (hs'.keepE _) fun a2 w2 G2 B2 h3 h4 h5 => hQ' a2 w2 G2 B2 (Step.trans hs' ((Step.refl hs').keepE _) h3) h4 h5
  | .label .. => by intro hp; simp [pcode] at hp
  | .goto .. => by intro hp; simp [pcode] at hp
  | .scope .. => by intro hp; simp [pcode] at hp
  | .rangeFunc .. => by intro hp; simp [pcode] at hp
  | .refuse .. => by intro hp; simp [pcode] at hp
end

end Go.Sim
/- Functions: results, bodies, calls. -/
namespace Go.Sim
open PV

section
variable {P : Program} {G : Gh} {B : List Loc} {e : Env} {st : St} {tm : List Value} {w : World} {x y z : PV} {v u : Value}
variable {C : Oracle} {a : Act} {st' : St}

/-- One result is read. -/
def readResult (tmps : Array Value) : ResultVar → Sem Value
  | .tmp t => pure (tmps.getD t undef)
  | .cell a t => do loadVar t (← asAddr (tmps.getD a undef))

theorem presults_ok {tmps : Array Value} : ∀ (rs : List ResultVar) {e : Env} {st st' : St} {vs : List PV}, Sim G B e st tmps.toList w → presults P e st rs = some (vs, st') →
    ∃ cvs : List Value, cvs.length = rs.length ∧ (∀ (i : Nat) r cv, rs[i]? = some r → cvs[i]? = some cv → (readResult tmps r).run P w = .ok cv w) ∧ Sim G B vs st' cvs w ∧
      ∀ b, obE b vs cvs + obB b st' (B.map (cellsAt w)) ≤ obE b e tmps.toList + obB b st (B.map (cellsAt w))
  | [], e, st, st', vs, hs, hp => by
    simp only [presults, Option.some.injEq, Prod.mk.injEq] at hp
    obtain ⟨rfl, rfl⟩ := hp
    refine ⟨[], rfl, fun i r cv hr => by simp at hr, ⟨hs.rows, hs.blen, hs.bdis, hs.boxes, rfl, fun t x v hx => by simp at hx, fun b => ?_⟩, fun b => ?_⟩
    · have := hs.uniq b; simp only [obE]; omega
    · simp only [obE]; omega
  | .tmp t :: rs, e, st, st', vs, hs, hp => by
    simp only [presults] at hp
    obtain ⟨x, hx, hp⟩ := Option.bind_eq_some_iff.1 hp
    obtain ⟨⟨vs1, s1⟩, h1, h2⟩ := Option.map_eq_some_iff.1 hp
    simp only [Prod.mk.injEq] at h2
    obtain ⟨rfl, rfl⟩ := h2
    obtain ⟨v, hv⟩ : ∃ v, tmps.toList[t]? = some v := ⟨_, List.getElem?_eq_getElem (by rw [← hs.elen]; exact (List.getElem?_eq_some_iff.1 hx).1)⟩
    have ht := hs.take hx hv
    obtain ⟨cvs, c1, c2, c3, c4⟩ := presults_ok rs ht.drop h1
    have hr := ht.rel 0 x v rfl rfl
    have hcnt : ∀ b, ob3 b x v + obE b (e.set t x.dem) tmps.toList = obE b e tmps.toList := fun b => by
      have := obE_set_eq b x.dem e tmps.toList t x v hx hv
      have h0 := ob3_dem b x v
      omega
    refine ⟨v :: cvs, by simp [c1], fun i r cv hri hci => ?_, c3.push hr.1 hr.2 fun b => ?_, fun b => ?_⟩
    · cases i with
      | zero =>
        simp at hri hci; subst hri; subst hci
        have : tmps[t]? = some v := by simpa using hv
        simp [readResult, Array.getD_eq_getD_getElem?, this]
      | succ i => exact c2 i r cv (by simpa using hri) (by simpa using hci)
    · have := c4 b; have := hcnt b; have := hs.uniq b; omega
    · have := c4 b; have := hcnt b; simp only [obE]; omega
  | .cell q t :: rs, e, st, st', vs, hs, hp => by
    simp only [presults] at hp
    split at hp
    · rename_i b o hq
      obtain ⟨cs, hcs, hp⟩ := Option.bind_eq_some_iff.1 hp
      obtain ⟨x, hx, hp⟩ := Option.bind_eq_some_iff.1 hp
      obtain ⟨⟨vs1, s1⟩, h1, h2⟩ := Option.map_eq_some_iff.1 hp
      simp only [Prod.mk.injEq] at h2
      obtain ⟨rfl, rfl⟩ := h2
      obtain ⟨p, hpv⟩ : ∃ v, tmps.toList[q]? = some v := ⟨_, List.getElem?_eq_getElem (by rw [← hs.elen]; exact (List.getElem?_eq_some_iff.1 hq).1)⟩
      obtain ⟨l, hl, rfl⟩ := (hs.rel q _ p hq hpv).1
      obtain ⟨c, el, fr, g1, g2, g3, g4, g5⟩ := box_cells hs hl hcs
      obtain ⟨av, k1, k2, k3, k4, k5, k6⟩ := run_loadVar_at (P := P) (t := t) (k := o) g1 g5 hx
      have hca : av.cells.toList = ((cellsAt w l).drop o).take x.cells.length := by
        rw [k4]
        simp only [cellsAt, g1]
        rw [List.drop_take, List.drop_drop, List.take_take]
        congr 1; omega
      obtain ⟨q1, q2⟩ := hs.boxTake (x := x) (v := av) hl hcs (k := o) (n := x.cells.length) k5 k2.ntup k3 hca k2.toVRel
      obtain ⟨cvs, c1, c2, c3, c4⟩ := presults_ok rs q1.drop h1
      have hr := q1.rel 0 x av rfl rfl
      refine ⟨av :: cvs, by simp [c1], fun i r cv hri hci => ?_, c3.push hr.1 hr.2 fun b => ?_, fun b => ?_⟩
      · cases i with
        | zero =>
          simp at hri hci; subst hri; subst hci
          have : tmps[q]? = some (.pointer (some ⟨l.blk, l.off + o, none⟩)) := by simpa using hpv
          simp [readResult, Array.getD_eq_getD_getElem?, this, asAddr, k1]
        | succ i => exact c2 i r cv (by simpa using hri) (by simpa using hci)
      · have := c4 b; have := q2 b; have := hs.uniq b; omega
      · have := c4 b; have := q2 b; simp only [obE]; omega
    · cases hp
end

end Go.Sim
/- Functions, second part: the results are read. -/
namespace Go.Sim
open PV

theorem run_mapM_list {α : Type} {P : Program} {w : World} (f : α → Sem Value) : ∀ (rs : List α) (cvs : List Value), cvs.length = rs.length →
    (∀ (i : Nat) r cv, rs[i]? = some r → cvs[i]? = some cv → (f r).run P w = .ok cv w) → (rs.mapM f).run P w = .ok cvs w
  | [], [], _, _ => by simp
  | [], _ :: _, h, _ => by simp at h
  | _ :: _, [], h, _ => by simp at h
  | r :: rs, c :: cvs, h, hr => by
    have h1 := run_mapM_list f rs cvs (by simpa using h) fun i r cv h1 h2 => hr (i + 1) r cv (by simpa using h1) (by simpa using h2)
    have h0 := hr 0 r c rfl rfl
    simp [List.mapM_cons, h0, h1]

/-- One result, or a tuple of them. -/
def packed : List Value → Value
  | [v] => v
  | vs => .tuple vs.toArray

theorem run_results {P : Program} {w : World} {fn : Func} {tmps : Array Value} {cvs : List Value} (hl : cvs.length = fn.results.toList.length)
    (hr : ∀ (i : Nat) r cv, fn.results.toList[i]? = some r → cvs[i]? = some cv → (readResult tmps r).run P w = .ok cv w) : (results fn tmps).run P w = .ok (packed cvs) w := by
  have h1 := run_mapM_list (readResult tmps) fn.results.toList cvs hl hr
  unfold results
  rw [Array.mapM_eq_mapM_toList]
  have h2 : (List.toArray <$> List.mapM (fun x => match x with
      | ResultVar.tmp t => (pure (tmps.getD t undef) : Sem Value)
      | .cell a t => do loadVar t (← asAddr (tmps.getD a undef))) fn.results.toList).run P w = .ok cvs.toArray w := by
    have : (fun x : ResultVar => match x with
      | .tmp t => (pure (tmps.getD t undef) : Sem Value)
      | .cell a t => do loadVar t (← asAddr (tmps.getD a undef))) = readResult tmps := by funext x; cases x <;> rfl
    rw [this]
    simp [h1]
  rw [Sem.run_bind]
  erw [h2]
  rw [Result.andThen_ok, Sem.run_pure]
  match cvs with
  | [v] => rfl
  | [] => rfl
  | _ :: _ :: _ => rfl

end Go.Sim
/- Functions, third part: what goes out. -/
namespace Go.Sim
open PV

theorem scrub1_flat {k : Nat} {l : List Nat} {x : PV} (hx : x.flat1 = true) : scrub1 k l x = x := by
  cases x <;> first | rfl | simp [flat1] at hx

theorem scrub_out {k : Nat} {l : List Nat} {x : PV} (hx : outFlat x = true) (hp : ∀ b o, x = .ptr b o → b < k ∨ b ∈ l) : PV.scrub k l x = outOne k l x := by
  cases x with
  | ptr b o =>
    have := hp b o rfl
    simp only [PV.scrub, scrub2, scrub1, scrubId, outOne]
    by_cases hb : b < k
    · simp [hb]
    · have hm : b ∈ l := this.resolve_left hb
      simp [hb, hm]
  | agg cs => simp [outFlat, PV.flat] at hx; simp [PV.scrub, scrub2, outOne, hx]; exact hx
  | tup ts => simp [outFlat, PV.flat, flat1] at hx
  | msl => simp [outFlat, PV.flat, flat1] at hx
  | _ => rfl

theorem newBoxes_keep (k : Nat) : ∀ (vs : List PV) (l : List Nat) (b : Nat), b ∈ l → b ∈ newBoxes k vs l
  | [], _, _, h => h
  | v :: vs, l, b, h => by
    cases v <;> simp only [newBoxes] <;> try exact newBoxes_keep k vs l b h
    all_goals
      split
      · exact newBoxes_keep k vs l b h
      · exact newBoxes_keep k vs _ b (List.mem_append_left _ h)

theorem newBoxes_has (k : Nat) : ∀ (vs : List PV) (l : List Nat) (b o : Nat), PV.ptr b o ∈ vs → b < k ∨ b ∈ newBoxes k vs l
  | [], _, _, _, h => by simp at h
  | v :: vs, l, b, o, h => by
    rcases List.mem_cons.1 h with rfl | h'
    · simp only [newBoxes]
      split
      · rename_i hc
        rcases hc with hc | hc
        · exact .inl hc
        · exact .inr (newBoxes_keep k vs l b (by simpa using hc))
      · exact .inr (newBoxes_keep k vs _ b (by simp))
    · cases v <;> simp only [newBoxes] <;> try exact newBoxes_has k vs l b o h'
      all_goals
        split
        · exact newBoxes_has k vs l b o h'
        · exact newBoxes_has k vs _ b o h'
end Go.Sim
/- Functions, fourth part: the end of a body. -/
namespace Go.Sim
open PV

section
variable {P : Program} {G : Gh} {B : List Loc} {e : Env} {st : St} {tm : List Value} {w : World} {x y z : PV} {v u : Value}

theorem scrubSt_flat {k : Nat} {l : List Nat} (h : (st.take k ++ l.map (st.getD · [])).all (fun cs => cs.all flat1) = true) : scrubSt k l st = st.take k ++ l.map (st.getD · []) := by
  unfold scrubSt
  conv => rhs; rw [← List.map_id (st.take k ++ l.map (st.getD · []))]
  refine List.map_congr_left fun cs hcs => ?_
  have := List.all_eq_true.1 (List.all_eq_true.1 h cs hcs)
  conv => rhs; rw [id_eq, ← List.map_id cs]
  exact List.map_congr_left fun c hc => scrub1_flat (this c hc)

/-- One value for all results. -/
def packP : List PV → PV
  | [v] => v
  | vs => .tup vs

theorem VRel.two (hx : ∀ ts, x ≠ .tup ts) (h : VRel G B x v) : VRel2 G B x v := by
  cases x <;> first | exact h | exact (hx _ rfl).elim

theorem ob3_of (b : Nat) (hx : ∀ ts, x ≠ .tup ts) (v : Value) : ob3 b x v = obs b x.cells v.cells.toList := by
  unfold ob3; split
  · exact (hx _ rfl).elim
  · rfl

theorem obE_zip (b : Nat) : ∀ (xs : List PV) (vs : List Value), (∀ x ∈ xs, ∀ ts, x ≠ .tup ts) → obE b xs vs = (List.zipWith (fun (x : PV) (v : Value) => obs b x.cells v.cells.toList) xs vs).sum
  | [], _, _ => by simp [obE]
  | _ :: _, [], _ => by simp [obE]
  | x :: xs, v :: vs, h => by
    simp only [obE, List.zipWith_cons_cons, List.sum_cons]
    rw [ob3_of b (h x (List.mem_cons_self ..)), obE_zip b xs vs fun y hy => h y (List.mem_cons_of_mem _ hy)]

/-- The results as one value. -/
theorem Sim.pack {vs : List PV} {cvs : List Value} (h : Sim G B vs st cvs w) (hn : ∀ x ∈ vs, ∀ ts, x ≠ .tup ts) :
    Sim G B [packP vs] st [packed cvs] w ∧ ∀ b, obE b [packP vs] [packed cvs] = obE b vs cvs := by
  have hlen := h.elen
  by_cases h1 : ∃ x v, vs = [x] ∧ cvs = [v]
  · obtain ⟨x, v, rfl, rfl⟩ := h1
    exact ⟨h, fun _ => rfl⟩
  · have e1 : packP vs = .tup vs := by
      match vs, cvs, hlen, h1 with
      | [x], [v], _, h1 => exact (h1 ⟨x, v, rfl, rfl⟩).elim
      | [], _, _, _ => rfl
      | _ :: _ :: _, _, _, _ => rfl
    have e2 : packed cvs = .tuple cvs.toArray := by
      match cvs, hlen, h1 with
      | [v], hl, h1 =>
        obtain ⟨x, hx⟩ := List.length_eq_one_iff.1 hl
        exact (h1 ⟨x, v, hx, rfl⟩).elim
      | [], _, _ => rfl
      | _ :: _ :: _, _, _ => rfl
    have hcnt : ∀ b, obE b [packP vs] [packed cvs] = obE b vs cvs := fun b => by
      rw [e1, e2, obE_zip b vs cvs hn]
      simp [obE, ob3]
    refine ⟨⟨h.rows, h.blen, h.bdis, h.boxes, rfl, fun t x v hx hv => ?_, fun b => by rw [hcnt]; exact h.uniq b⟩, hcnt⟩
    cases t with
    | succ t => simp at hx
    | zero =>
      simp only [List.getElem?_cons_zero, Option.some.injEq] at hx hv
      subst hx; subst hv
      rw [e1, e2]
      refine ⟨⟨_, rfl, by simpa using hlen, fun i x v hx hv => ?_⟩, fun i x v hx hv => ?_⟩
      · have hv : cvs[i]? = some v := by simpa using hv
        exact (h.rel i x v hx hv).1.two (hn x (List.mem_of_getElem? hx))
      · have hv : cvs[i]? = some v := by simpa using hv
        have ho := (h.rel i x v hx hv).2
        unfold O3 at ho
        split at ho
        · exact (hn _ (List.mem_of_getElem? hx) _ rfl).elim
        · exact ho
end
end Go.Sim
/- Functions, fifth part: a body's end as a step. -/
namespace Go.Sim
open PV

section
variable {P : Program} {G : Gh} {B : List Loc} {e : Env} {st : St} {tm : List Value} {w : World} {x y z : PV} {v u : Value}

theorem finish_ok {G0 : Gh} {B0 : List Loc} {e0 : Env} {st0 : St} {tm0 : List Value} {w0 : World} {fn : Func} {tmps : Array Value} {out : List (List PV)}
    (hstep : Step G0 B0 e0 st0 tm0 w0 G B e st tmps.toList w) (hble : Ble B0 B) (hp : pfinish P fn B0.length e st = some (x, out)) :
    ∃ cv B', (results fn tmps).run P w = .ok cv w ∧ Step G0 B0 e0 st0 tm0 w0 G B' [x] out [cv] w ∧ Ble B0 B' ∧ (∀ cs ∈ out, cs.all flat1 = true) ∧ outOk x = true := by
  unfold pfinish at hp
  obtain ⟨⟨vs, st1⟩, h1, hp⟩ := Option.bind_eq_some_iff.1 hp
  simp only at hp
  split at hp
  · rename_i hc
    simp only [Option.some.injEq, Prod.mk.injEq] at hp
    obtain ⟨hx, rfl⟩ := hp
    simp only [Bool.and_eq_true] at hc
    obtain ⟨c1, c2⟩ := hc
    obtain ⟨cvs, r1, r2, r3, r4⟩ := presults_ok _ hstep.sim h1
    have hrun := run_results (fn := fn) r1 r2
    obtain ⟨k1, k2, k3⟩ := newBoxes_spec B0.length vs [] (by simp) (by simp)
    have hk : B0.length ≤ st1.length := by
      rw [← r3.blen]
      by_cases h0 : B0.length = 0
      · omega
      · have := (List.getElem?_eq_some_iff.1 (hble (B0.length - 1) _ (List.getElem?_eq_getElem (by omega)))).1
        omega
    have hlt : ∀ b ∈ newBoxes B0.length vs [], b < st1.length := fun b hb => by
      have hin : ∀ y, y ∈ vs → ∃ v, VRel G B y v := fun y hy => by
        obtain ⟨i, hi⟩ := List.getElem?_of_mem hy
        obtain ⟨v, hv⟩ : ∃ v, cvs[i]? = some v := ⟨_, List.getElem?_eq_getElem (by rw [← r3.elen]; exact (List.getElem?_eq_some_iff.1 hi).1)⟩
        exact ⟨v, (r3.rel i y v hi hv).1⟩
      rw [← r3.blen]
      rcases k3 b hb with h0 | ⟨o, h0⟩ | ⟨sz, fl, o, m, h0⟩
      · simp at h0
      · obtain ⟨v, l, hl, _⟩ := hin _ h0
        exact (List.getElem?_eq_some_iff.1 hl).1
      · obtain ⟨v, l, cap, hl, _⟩ := hin _ h0
        exact (List.getElem?_eq_some_iff.1 hl).1
    obtain ⟨B2, s1, s2, s3, s4, s5⟩ := r3.scrub B0.length _ k1 k2 hlt hk
    rw [scrubSt_flat c2] at s1 s3
    have hall := List.all_eq_true.1 c1
    have hmap : vs.map (PV.scrub B0.length (newBoxes B0.length vs [])) = vs.map (outOne B0.length (newBoxes B0.length vs [])) :=
      List.map_congr_left fun y hy => scrub_out (hall y hy) fun b o he => newBoxes_has _ _ _ b o (he ▸ hy)
    rw [hmap] at s1 s3
    have hone : ∀ y, outFlat y = true → outFlat (outOne B0.length (newBoxes B0.length vs []) y) = true := fun y hy => by
      cases y with
      | ptr b o => simp only [outOne]; split <;> rfl
      | _ => exact hy
    have hof : ∀ y ∈ vs.map (outOne B0.length (newBoxes B0.length vs [])), outFlat y = true := fun y hy => by
      obtain ⟨z, hz, rfl⟩ := List.mem_map.1 hy
      exact hone z (hall z hz)
    have hn : ∀ y ∈ vs.map (outOne B0.length (newBoxes B0.length vs [])), ∀ ts, y ≠ .tup ts := fun y hy ts he => by
      have := hof y hy
      rw [he] at this; simp [outFlat, PV.flat, flat1] at this
    obtain ⟨p1, p2⟩ := s1.pack hn
    have hxe : x = packP (vs.map (outOne B0.length (newBoxes B0.length vs []))) := by
      rw [← hx]
      match vs with
      | [v] => rfl
      | [] => rfl
      | _ :: _ :: _ => rfl
    have hout : outOk x = true := by
      rw [hxe]
      generalize vs.map (outOne B0.length (newBoxes B0.length vs [])) = ys at hof hn
      match ys with
      | [y] =>
        have h1 := hof y (by simp)
        have h2 := hn y (by simp)
        show outOk y = true
        cases y <;> first | exact h1 | exact (h2 _ rfl).elim
      | [] => rfl
      | _ :: _ :: _ => exact List.all_eq_true.2 hof
    have hb2 : Ble B0 B2 := fun i l hl => by
      have hi := (List.getElem?_eq_some_iff.1 hl).1
      have e1 : (B2.take B0.length)[i]? = (B.take B0.length)[i]? := by rw [s5]
      rw [List.getElem?_take, List.getElem?_take, if_pos hi, if_pos hi] at e1
      rw [e1]; exact hble i l hl
    refine ⟨packed cvs, B2, hrun, ?_, hb2, fun cs hcs => List.all_eq_true.1 c2 cs hcs, hout⟩
    rw [hxe]
    exact { sim := p1, prog := hstep.prog, own := fun b hbb => hstep.own b (by have := s3 b; have := p2 b; have := r4 b; omega), box := fun l hl => hstep.box l (s2 l hl), out := hstep.out }
  · cases hp
end
end Go.Sim
