/-
  Modules as Lean values: what a readable value of their type is.
-/
import Derived.Test.YtacfojpdccahhaaGreatDoorAmIns
import Derived.Test.YtacfojpdccahhaaGreatDoorAmSym
namespace Go.Proofs.Am
open Go Go.RowKit Go.ChangeShapes Go.WideShapes
theorem argV_slice {P : Program} {t e : TypeId} (h : P.underlying t = some (.slice e)) (x : AV) : argV P t [x] = x := by simp [argV, h]
theorem body_eq {P : Program} {f : FuncId} {fn : Func} {c : Code} (h : P.funcs[f]? = some fn) (hc : fn.body = some c) : body_ P f = [.code c] := by simp only [body_, h, hc]
structure StT (P : Program) (t : TypeId) (L : List (TypeId × Nat × Nat)) (c : Nat) : Prop where
 fs : ∃ fs, P.underlying t = some (.struct fs) ∧ fs.toList.map (fun f => (f.type, f.offset, P.cellsOf f.type)) = L
 hc : P.cellsOf t = c
end Go.Proofs.Am
namespace Go.Proofs.Am
open Go Go.RowKit Go.ChangeShapes Go.WideShapes
def encB (l : List Int) : List (List AV) := l.map fun x => [.int .u8 x]
theorem encN_len (l : List Int) : (encN l).length = l.length := by simp [encN]
def InZ (i : Int) : Prop := -9223372036854775808 ≤ i ∧ i < 9223372036854775808
def InU (i : Int) : Prop := 0 ≤ i ∧ i < 18446744073709551616
def InB (i : Int) : Prop := 0 ≤ i ∧ i < 256
def FitL {A : Type} (n : Nat) (F : A → Prop) (l : List A) : Prop := l.length * n ≤ reachBytes ∧ ∀ x, x ∈ l → F x
theorem reach_le : reachBytes ≤ maxLen := Nat.le_of_ble_eq_true (by kernel_rfl)
theorem FitL.len {A : Type} {n : Nat} {F : A → Prop} {l : List A} (h : FitL n F l) (hn : 0 < n) : l.length ≤ maxLen :=
 Nat.le_trans (Nat.le_trans (Nat.le_mul_of_pos_right _ hn) h.1) reach_le
inductive FitZ : Ins → Prop
 | mk (op a b v t : Int) (l : List Int) (body els : List Ins) (has : Bool) (ho : InZ op) (ha : InZ a) (hb : InZ b) (hv : InU v) (ht : InZ t) (hl : FitL 8 InZ l)
   (hbd : body.length * 120 ≤ reachBytes) (hel : els.length * 120 ≤ reachBytes) (h1 : ∀ x, x ∈ body → FitZ x) (h2 : ∀ x, x ∈ els → FitZ x) : FitZ (.mk op a b v t l body els has)
theorem FitZ.fit {x : Ins} (h : FitZ x) : Fit x := by
 induction h with
 | mk op a b v t l bd el q ho ha hb hv ht hl hbd hel h1 h2 i1 i2 =>
  exact .mk _ _ _ _ _ _ _ _ _ (hl.len (by decide)) (FitL.len (n := 120) (F := FitZ) ⟨hbd, h1⟩ (by decide)) (FitL.len (n := 120) (F := FitZ) ⟨hel, h2⟩ (by decide)) i1 i2
theorem z_k {P : Program} {t : TypeId} {k : IntKind} (h : P.underlying t = some (.int k)) {n : Nat} {ys : List AV} (hs : ShZ P n t ys) : ∃ i, ys = [.int k i] ∧ (Lit.int k i).wf = true := by
 cases n with
 | zero => exact False.elim hs
 | succ n => simp only [ShZ, h] at hs; exact hs
theorem z_i64 {P : Program} {t : TypeId} (h : P.underlying t = some (.int .i64)) {n : Nat} {ys : List AV} (hs : ShZ P n t ys) : ∃ i, ys = [.int .i64 i] ∧ InZ i := by
 obtain ⟨i, rfl, hw⟩ := z_k h hs
 refine ⟨i, rfl, ?_⟩
 simp only [Lit.wf, Bool.and_eq_true, decide_eq_true_eq, show IntKind.i64.min = -9223372036854775808 from rfl, show IntKind.i64.max = 9223372036854775807 from rfl] at hw
 unfold InZ
 omega
theorem z_u64 {P : Program} {t : TypeId} (h : P.underlying t = some (.int .u64)) {n : Nat} {ys : List AV} (hs : ShZ P n t ys) : ∃ i, ys = [.int .u64 i] ∧ InU i := by
 obtain ⟨i, rfl, hw⟩ := z_k h hs
 refine ⟨i, rfl, ?_⟩
 simp only [Lit.wf, Bool.and_eq_true, decide_eq_true_eq, show IntKind.u64.min = 0 from rfl, show IntKind.u64.max = 18446744073709551615 from rfl] at hw
 unfold InU
 omega
theorem z_bool {P : Program} {t : TypeId} (h : P.underlying t = some .bool) {n : Nat} {ys : List AV} (hs : ShZ P n t ys) : ∃ b, ys = [.bool b] := by
 cases n with
 | zero => exact False.elim hs
 | succ n => simp only [ShZ, h] at hs; exact hs
theorem z_slice {P : Program} {t e : TypeId} (h : P.underlying t = some (.slice e)) {n : Nat} {ys : List AV} (hs : ShZ P n t ys) : ∃ m zs, n = m + 1 ∧ ys = [.imm zs] ∧ zs.length * P.bytesOf e ≤ reachBytes ∧ ∀ z, z ∈ zs → ShZ P m e z := by
 cases n with
 | zero => exact False.elim hs
 | succ n =>
  simp only [ShZ, h] at hs
  obtain ⟨zs, rfl, _, h1, h2⟩ := hs
  exact ⟨n, zs, rfl, rfl, h1, h2⟩
theorem z_st {P : Program} {t : TypeId} {L : List (TypeId × Nat × Nat)} {c : Nat} (T : StT P t L c) {n : Nat} {ys : List AV} (hs : ShZ P n t ys) :
  ∃ m, n = m + 1 ∧ ys.length = c ∧ ∀ (u : TypeId) (o k : Nat), (u, o, k) ∈ L → ShZ P m u ((ys.drop o).take k) := by
 cases n with
 | zero => exact False.elim hs
 | succ n =>
  obtain ⟨fs, hu, hfs⟩ := T.fs
  simp only [ShZ, hu] at hs
  obtain ⟨hlen, hf⟩ := hs
  refine ⟨n, rfl, by rw [hlen, T.hc], fun u o k hm => ?_⟩
  rw [← hfs] at hm
  obtain ⟨f, hfm, he⟩ := List.mem_map.1 hm
  simp only [Prod.mk.injEq] at he
  obtain ⟨rfl, rfl, rfl⟩ := he
  exact hf f hfm
theorem z_list {P : Program} {A : Type} {f : A → List AV} {F : A → Prop} {t e : TypeId} {b : Nat} (h : P.underlying t = some (.slice e)) (hb : P.bytesOf e = b) (hf : ∀ m z, ShZ P m e z → ∃ x, z = f x ∧ F x) {n : Nat} {ys : List AV} (hs : ShZ P n t ys) : ∃ l : List A, ys = [.imm (l.map f)] ∧ FitL b F l := by
 obtain ⟨m, zs, _, rfl, h1, h2⟩ := z_slice h hs
 obtain ⟨l, rfl, hl⟩ := list_of (f := f) (Q := F) zs (fun z hz => hf m z (h2 z hz))
 rw [hb] at h1
 exact ⟨l, rfl, by simpa using h1, hl⟩
theorem z_ints {P : Program} {t e : TypeId} (h : P.underlying t = some (.slice e)) (he : P.underlying e = some (.int .i64)) (hb : P.bytesOf e = 8) {n : Nat} {ys : List AV} (hs : ShZ P n t ys) : ∃ l : List Int, ys = [.imm (encN l)] ∧ FitL 8 InZ l :=
 z_list h hb (fun _ _ hz => z_i64 he hz) hs
theorem z_ins {P : Program} {tI tN tV tL tB tQ : TypeId} (T : InsT P tI tN tV tL tB tQ) (bn : P.bytesOf tN = 8) (bi : P.bytesOf tI = 120) : ∀ (n : Nat) (ys : List AV), ShZ P n tI ys → ∃ x, ys = encI x ∧ FitZ x := by
 intro n
 induction n using Nat.strongRecOn with
 | _ n ih =>
  intro ys hs
  obtain ⟨m, rfl, hlen, get⟩ := z_st ⟨T.fs, T.hc⟩ hs
  obtain ⟨c0, c1, c2, c3, c4, c5, c6, c7, c8, rfl⟩ := list9 hlen
  obtain ⟨i0, h0, g0⟩ := z_i64 T.hN (get tN 0 1 (by simp))
  obtain ⟨i1, h1, g1⟩ := z_i64 T.hN (get tN 1 1 (by simp))
  obtain ⟨i2, h2, g2⟩ := z_i64 T.hN (get tN 2 1 (by simp))
  obtain ⟨i3, h3, g3⟩ := z_u64 T.hV (get tV 3 1 (by simp))
  obtain ⟨i4, h4, g4⟩ := z_i64 T.hN (get tN 4 1 (by simp))
  obtain ⟨l, h5, hl⟩ := z_ints T.hL T.hN bn (get tL 5 1 (by simp))
  obtain ⟨q, h8⟩ := z_bool T.hQ (get tQ 8 1 (by simp))
  have code : ∀ (c : AV), ShZ P m tB [c] → ∃ l : List Ins, c = .imm (encIs l) ∧ FitL 120 FitZ l := by
   intro c hc
   obtain ⟨k, zs, hm, hz, k1, k2⟩ := z_slice T.hB hc
   simp only [List.cons.injEq, and_true] at hz
   obtain ⟨l, rfl, hl⟩ := list_of (f := encI) (Q := FitZ) zs (fun z hz => ih k (by omega) z (k2 z hz))
   rw [bi] at k1
   exact ⟨l, by rw [hz, encIs_map], by simpa using k1, hl⟩
  obtain ⟨b, h6, hb⟩ := code c6 (get tB 6 1 (by simp))
  obtain ⟨e, h7, he⟩ := code c7 (get tB 7 1 (by simp))
  simp only [List.drop_zero, List.drop_succ_cons, List.take_succ_cons, List.take_zero, List.cons.injEq, and_true] at h0 h1 h2 h3 h4 h5 h8
  subst h0; subst h1; subst h2; subst h3; subst h4; subst h5; subst h6; subst h7; subst h8
  exact ⟨.mk i0 i1 i2 i3 i4 l b e q, rfl, .mk _ _ _ _ _ _ _ _ _ g0 g1 g2 g3 g4 hl hb.1 he.1 hb.2 he.2⟩
theorem z_code {P : Program} {tI tN tV tL tB tQ : TypeId} (T : InsT P tI tN tV tL tB tQ) (bn : P.bytesOf tN = 8) (bi : P.bytesOf tI = 120) {n : Nat} {ys : List AV} (hs : ShZ P n tB ys) : ∃ l : List Ins, ys = [.imm (encIs l)] ∧ FitL 120 FitZ l := by
 obtain ⟨l, rfl, hl⟩ := z_list T.hB bi (fun m z hz => z_ins T bn bi m z hz) hs
 exact ⟨l, by rw [encIs_map], hl⟩
theorem zc_cons {H : Type} {P : Program} {t : TypeId} {ts : List TypeId} {xs : List AV} {ds : List (DataW H)} (h : ShZC P (t :: ts) xs ds) :
  ∃ n ys xs' d ds', xs = argV P t ys :: xs' ∧ ds = d :: ds' ∧ ShZ P n t ys ∧ avD P n t d = some ys ∧ ShZC P ts xs' ds' := by
 match xs, ds, h with
 | x :: xs, d :: ds, ⟨⟨n, ys, h1, h2, h3⟩, h4⟩ => exact ⟨n, ys, xs, d, ds, by rw [h2], rfl, h1, h3, h4⟩
theorem zc_nil {H : Type} {P : Program} {xs : List AV} {ds : List (DataW H)} (h : ShZC P [] xs ds) : xs = [] := by
 match xs, ds, h with
 | [], [], _ => rfl
structure FTy where
 p : List Int
 r : List Int
def FTy.enc (x : FTy) : List AV := [.imm (encN x.p), .imm (encN x.r)]
def FTy.Fit (x : FTy) : Prop := FitL 8 InZ x.p ∧ FitL 8 InZ x.r
structure Lim where
 lo : Int
 hi : Int
 has : Bool
def Lim.enc (x : Lim) : List AV := [.int .i64 x.lo, .int .i64 x.hi, .bool x.has]
def Lim.Fit (x : Lim) : Prop := InZ x.lo ∧ InZ x.hi
structure Imp where
 m : ByteArray
 n : ByteArray
 k : Int
 t : Int
 mu : Bool
 l : Lim
def Imp.enc (x : Imp) : List AV := [.str x.m, .str x.n, .int .i64 x.k, .int .i64 x.t, .bool x.mu] ++ Lim.enc x.l
def Imp.Fit (x : Imp) : Prop := x.m.size ≤ reachBytes ∧ x.n.size ≤ reachBytes ∧ InZ x.k ∧ InZ x.t ∧ Lim.Fit x.l
structure MFn where
 t : Int
 l : List Int
 b : List Ins
def MFn.enc (x : MFn) : List AV := [.int .i64 x.t, .imm (encN x.l), .imm (encIs x.b)]
def MFn.Fit (x : MFn) : Prop := InZ x.t ∧ FitL 8 InZ x.l ∧ FitL 120 FitZ x.b
structure Glo where
 t : Int
 mu : Bool
 i : Ins
def Glo.enc (x : Glo) : List AV := [.int .i64 x.t, .bool x.mu] ++ encI x.i
def Glo.Fit (x : Glo) : Prop := InZ x.t ∧ FitZ x.i
structure Exq where
 n : ByteArray
 k : Int
 i : Int
def Exq.enc (x : Exq) : List AV := [.str x.n, .int .i64 x.k, .int .i64 x.i]
def Exq.Fit (x : Exq) : Prop := x.n.size ≤ reachBytes ∧ InZ x.k ∧ InZ x.i
structure Ele where
 o : Ins
 f : List Int
def Ele.enc (x : Ele) : List AV := encI x.o ++ [.imm (encN x.f)]
def Ele.Fit (x : Ele) : Prop := FitZ x.o ∧ FitL 8 InZ x.f
structure Dat where
 o : Ins
 b : List Int
def Dat.enc (x : Dat) : List AV := encI x.o ++ [.imm (encB x.b)]
def Dat.Fit (x : Dat) : Prop := FitZ x.o ∧ FitL 1 InB x.b
structure Cus where
 n : ByteArray
 b : List Int
def Cus.enc (x : Cus) : List AV := [.str x.n, .imm (encB x.b)]
def Cus.Fit (x : Cus) : Prop := x.n.size ≤ reachBytes ∧ FitL 1 InB x.b
structure Mdl where
 ty : List FTy
 im : List Imp
 fu : List MFn
 ta : List Lim
 me : List Lim
 gl : List Glo
 ex : List Exq
 st : Int
 el : List Ele
 da : List Dat
 cu : List Cus
def Mdl.enc (x : Mdl) : List AV := [.imm (x.ty.map FTy.enc), .imm (x.im.map Imp.enc), .imm (x.fu.map MFn.enc), .imm (x.ta.map Lim.enc), .imm (x.me.map Lim.enc), .imm (x.gl.map Glo.enc), .imm (x.ex.map Exq.enc), .int .i64 x.st, .imm (x.el.map Ele.enc), .imm (x.da.map Dat.enc), .imm (x.cu.map Cus.enc)]
def Mdl.Fit (x : Mdl) : Prop := FitL 48 FTy.Fit x.ty ∧ FitL 80 Imp.Fit x.im ∧ FitL 56 MFn.Fit x.fu ∧ FitL 24 Lim.Fit x.ta ∧ FitL 24 Lim.Fit x.me ∧ FitL 136 Glo.Fit x.gl ∧ FitL 32 Exq.Fit x.ex ∧ InZ x.st ∧ FitL 144 Ele.Fit x.el ∧ FitL 144 Dat.Fit x.da ∧ FitL 40 Cus.Fit x.cu
structure MTy where
 (n v l b i q s u y fty lim imp mfn glo exq ele dat cus mdl ftys lims imps mfns glos exqs eles dats cuss : TypeId)
structure ModT (P : Program) (T : MTy) : Prop where
 ins : InsT P T.i T.n T.v T.l T.b T.q
 hs : P.underlying T.s = some .string
 hu : P.underlying T.u = some (.int .u8)
 hy : P.underlying T.y = some (.slice T.u)
 bn : P.bytesOf T.n = 8
 bi : P.bytesOf T.i = 120
 bu : P.bytesOf T.u = 1
 hfty : StT P T.fty [(T.l, 0, 1), (T.l, 1, 1)] 2
 hftys : P.underlying T.ftys = some (.slice T.fty)
 bfty : P.bytesOf T.fty = 48
 hlim : StT P T.lim [(T.n, 0, 1), (T.n, 1, 1), (T.q, 2, 1)] 3
 hlims : P.underlying T.lims = some (.slice T.lim)
 blim : P.bytesOf T.lim = 24
 himp : StT P T.imp [(T.s, 0, 1), (T.s, 1, 1), (T.n, 2, 1), (T.n, 3, 1), (T.q, 4, 1), (T.lim, 5, 3)] 8
 himps : P.underlying T.imps = some (.slice T.imp)
 bimp : P.bytesOf T.imp = 80
 hmfn : StT P T.mfn [(T.n, 0, 1), (T.l, 1, 1), (T.b, 2, 1)] 3
 hmfns : P.underlying T.mfns = some (.slice T.mfn)
 bmfn : P.bytesOf T.mfn = 56
 hglo : StT P T.glo [(T.n, 0, 1), (T.q, 1, 1), (T.i, 2, 9)] 11
 hglos : P.underlying T.glos = some (.slice T.glo)
 bglo : P.bytesOf T.glo = 136
 hexq : StT P T.exq [(T.s, 0, 1), (T.n, 1, 1), (T.n, 2, 1)] 3
 hexqs : P.underlying T.exqs = some (.slice T.exq)
 bexq : P.bytesOf T.exq = 32
 hele : StT P T.ele [(T.i, 0, 9), (T.l, 9, 1)] 10
 heles : P.underlying T.eles = some (.slice T.ele)
 bele : P.bytesOf T.ele = 144
 hdat : StT P T.dat [(T.i, 0, 9), (T.y, 9, 1)] 10
 hdats : P.underlying T.dats = some (.slice T.dat)
 bdat : P.bytesOf T.dat = 144
 hcus : StT P T.cus [(T.s, 0, 1), (T.y, 1, 1)] 2
 hcuss : P.underlying T.cuss = some (.slice T.cus)
 bcus : P.bytesOf T.cus = 40
 hmdl : StT P T.mdl [(T.ftys, 0, 1), (T.imps, 1, 1), (T.mfns, 2, 1), (T.lims, 3, 1), (T.lims, 4, 1), (T.glos, 5, 1), (T.exqs, 6, 1), (T.n, 7, 1), (T.eles, 8, 1), (T.dats, 9, 1), (T.cuss, 10, 1)] 11
section
variable {P : Program} {T : MTy}
end
end Go.Proofs.Am
