/- What the driver of tasks computes, as plain Lean: no program in sight. No condition. -/
import Derived.Test.YtlbomnbpahmphaaGreatR13
namespace Go.Proofs.YtlbomnbpahmphaaGreat

/-- A task. -/
structure Tk where
 frame : Int
 live : Bool
 done : Bool
 n : Int
 waits : Bool
 event : Int
/-- The driver, with the machine that runs its frames. -/
structure Dr where
 S : St
 frames : List Wd
 tasks : List Tk
 queue : List Int
 trace : List Ev
 over : Bool
/-- An act of a script. -/
structure Sc where
 k : Int
 a : Int
 n : Int
 args : List Int
/-- What does not change: the program, which coroutines are open, the fuel, the most tasks. -/
structure En where
 P : Pr
 opn : List Bool
 fuel : Int
 most : Int

def Tk.none : Tk := ⟨0, false, false, 0, false, 0⟩
def Dr.task (D : Dr) (n : Int) : Tk := D.tasks.getD n.toNat Tk.none
def Dr.put (D : Dr) (n : Int) (t : Tk) : Dr := { D with tasks := D.tasks.set n.toNat t }
def Dr.tell (D : Dr) (l : List Ev) : Dr := { D with trace := D.trace ++ l }
def Dr.stop (D : Dr) (e : Ev) : Dr := { D with trace := D.trace ++ [e], over := true }
def Dr.ready (D : Dr) (n : Int) : Dr := if n ∈ D.queue then D else { D with queue := D.queue ++ [n] }
def Dr.out (D : Dr) (n : Int) : Dr := { D with queue := D.queue.filter fun k => !(k == n) }
def Dr.marks (D : Dr) (o : Int × Int) : Dr :=
 if o.1 = 4 then D.stop ⟨10, 0, 0, 0⟩ else if o.1 = 5 then D.stop ⟨11, 0, 0, 0⟩ else if o.1 = 6 then D.stop ⟨13, 0, 0, o.2⟩ else D
def Dr.took (D : Dr) : Dr := { D with S := { D.S with told := [] }, trace := D.trace ++ D.S.told }

def isOpen (E : En) (co : Int) : Bool := decide (0 ≤ co) && decide (co < E.opn.length) && E.opn.getD co.toNat false
/-- A frame is started: its number, and how that came out. -/
def startD (E : En) (D : Dr) (co : Int) (l : List Int) : Dr × Int × Int × Int :=
 if isOpen E co then
  (if (startS E.P D.S co l).2.2.1 = 2 then ({ D with S := (startS E.P D.S co l).1, frames := D.frames ++ [(startS E.P D.S co l).2.1] }, D.frames.length, 2, (startS E.P D.S co l).2.2.2)
   else ({ D with S := (startS E.P D.S co l).1 }, (D.frames.length : Int) - 1, (if (startS E.P D.S co l).2.2.1 = 6 then 3 else (startS E.P D.S co l).2.2.1), (startS E.P D.S co l).2.2.2))
 else (D, 0, 3, 0)
def spawnD (E : En) (D : Dr) (co : Int) (l : List Int) : Dr :=
 if E.most ≤ D.tasks.length then D.stop ⟨12, 0, 0, 0⟩
 else
  let r := startD E D co l
  if r.2.2.1 = 5 then r.1.stop ⟨11, 0, 0, 0⟩
  else if r.2.2.1 = 2 then (({ r.1 with tasks := r.1.tasks ++ [⟨r.2.1, true, false, 0, false, 0⟩] } : Dr).ready r.1.tasks.length).tell [⟨0, r.1.tasks.length, 0, 0⟩]
  else r.1.tell [⟨1, co, 0, 0⟩]
def Dr.frame (D : Dr) (n : Int) : Wd := D.frames.getD (D.task n).frame.toNat Wd.zero
/-- A task's frame is cancelled, and what it told is taken. -/
def endsD (E : En) (D : Dr) (n : Int) (e : Ev) : Dr :=
 let r := cancelS E.P D.S (D.frame n) n E.fuel
 let D1 := ({ D with S := r.2 }).took.marks r.1
 if D1.over then D1
 else
  let D2 := (D1.tell [⟨e.kind, n, e.a, e.n⟩]).out n
  let t := { D2.task n with live := false, waits := false }
  D2.put n (if e.kind = 7 then { t with done := true, n := e.n } else t)
def pollD (E : En) (D : Dr) (n : Int) : Dr :=
 let D0 := (D.out n).put n { D.task n with waits := false }
 let r := pollS E.P D0.S (D0.frame n) n E.fuel
 let D1 := ({ D0 with S := r.2 }).took.marks r.1
 if D1.over then D1
 else if r.1.1 = 0 then (D1.tell [⟨4, n, 0, r.1.2⟩]).ready n
 else if r.1.1 = 1 then (D1.tell [⟨6, n, 0, r.1.2⟩]).put n { D1.task n with waits := true, event := r.1.2 }
 else if r.1.1 = 2 then endsD E D1 n ⟨7, 0, 0, r.1.2⟩
 else if r.1.1 = 3 then endsD E D1 n ⟨8, 0, 0, 0⟩
 else D1
/-- The tasks from number 'i' on are woken, that wait for the event. -/
def wakeD (event : Int) (D : Dr) : Nat → Nat → Dr
 | 0, _ => D
 | k + 1, i => wakeD event (if (D.task i).live && (D.task i).waits && ((D.task i).event == event) then (D.put i { D.task i with waits := false }).ready i else D) k (i + 1)
def completeD (D : Dr) (event n : Int) : Dr := wakeD event { D with S := completeS D.S event n } D.tasks.length 0
def Dr.known (D : Dr) (n : Int) : Bool := decide (0 ≤ n) && decide (n < D.tasks.length)
def Dr.live (D : Dr) (n : Int) : Bool := D.known n && (D.task n).live
/-- An act; is it taken? -/
def actD (E : En) (D : Dr) (a : Sc) : Dr × Bool :=
 if a.k = 0 then (spawnD E D a.a a.args, true)
 else if a.k = 2 then (match D.queue with | [] => D.tell [⟨1, -1, 0, 0⟩] | n :: _ => pollD E D n, true)
 else if a.k = 5 then (completeD D a.a a.n, true)
 else if a.k = 6 then (if D.known a.a && (D.task a.a).done then (D.tell [⟨7, a.a, 0, (D.task a.a).n⟩], true) else (D, false))
 else if a.k = 1 then (if D.live a.a then pollD E D a.a else D, D.live a.a)
 else if a.k = 3 then (if D.live a.a then D.ready a.a else D, D.live a.a)
 else if a.k = 4 then (if D.live a.a then endsD E D a.a ⟨9, 0, 0, 0⟩ else D, D.live a.a)
 else (D, false)
def nextD (E : En) (D : Dr) (a : Sc) : Dr := if (actD E D a).1.over then (actD E D a).1 else if (actD E D a).2 then (actD E D a).1 else (actD E D a).1.tell [⟨1, a.a, 0, 0⟩]
def runD (E : En) (D : Dr) : List Sc → Dr
 | [] => D
 | a :: l => if (nextD E D a).over then nextD E D a else runD E (nextD E D a) l
def Dr.new (words : Int) : Dr := ⟨⟨⟨min (max words 0) 1048576, []⟩, [], [], [], 0, 0⟩, [], [], [], [], false⟩

end Go.Proofs.YtlbomnbpahmphaaGreat
